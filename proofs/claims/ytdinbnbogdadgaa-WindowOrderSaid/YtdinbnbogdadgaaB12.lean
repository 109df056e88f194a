/- slices.SortStableFunc of panes by window.order: the row becomes the sorted permutation. No conditions beyond those typed. -/
import Derived.Test.YtdinbnbogdadgaaB6
import Derived.Test.YtdinbnbogdadgaaB5
import Derived.Test.YtdinbnbogdadgaaB10
namespace Go.Proofs
open Go.Shelf
def Ytdinbnbogdadgaa.So.insLay_ren : Go.Shelf.Ren := ⟨fun | 20 => 64 | n => n, fun | 24 => 46 | 22 => 35 | 3 => 3 | 25 => 68 | 4 => 4 | 0 => 0 | n => n, fun | n => n⟩
theorem Ytdinbnbogdadgaa.So.insLay : Go.Proofs.SlLaysF0.n20 Try.prog Ytdinbnbogdadgaa.So.insLay_ren := {
  mixed := by kernel_rfl
  f20 := ⟨Try.f64.name, by decide, Try.func64.trans (congrArg some (by kernel_rfl))⟩
  t0 := Try.underlying0
  a0 := Try.isAgg0
  z0 := Try.sizeOf0
  v0 := Try.zeroValue0
  t3 := Try.underlying3
  a3 := Try.isAgg3
  z3 := Try.sizeOf3
  v3 := Try.zeroValue3
  t4 := Try.underlying4
  a4 := Try.isAgg4
  z4 := Try.sizeOf4
  v4 := Try.zeroValue4
  t22 := Try.underlying35
  a22 := Try.isAgg35
  z22 := Try.sizeOf35
  v22 := Try.zeroValue35
  t25 := Try.underlying68
  a25 := Try.isAgg68
  z25 := Try.sizeOf68
  v25 := Try.zeroValue68 }
end Go.Proofs
namespace Go.Proofs.Ytdinbnbogdadgaa.So
open Go.Shelf Go.RowKit Go.Lib Go.Sort Go.Proofs Go.Proofs.Ytdinbnbogdadgaa.X
set_option linter.unusedVariables false
set_option linter.unusedSimpArgs false
theorem layTry : Lay Try.prog 4 where
 mixed := by kernel_rfl
 f67 := Try.func67
 f66 := Try.func66
 f65 := Try.func65
 f64 := Try.func64
 f62 := Try.func62
 f52 := Try.func52
 t0 := by kernel_rfl
 a0 := fun _ => rfl
 z0 := fun _ => rfl
 v0 := fun _ => rfl
 t3 := by kernel_rfl
 a3 := fun _ => rfl
 z3 := fun _ => rfl
 v3 := fun _ => rfl
 t4 := by kernel_rfl
 a4 := fun _ => rfl
 z4 := fun _ => rfl
 v4 := fun _ => rfl
 t35 := by kernel_rfl
 a35 := fun _ => rfl
 z35 := fun _ => rfl
 v35 := fun _ => rfl
 t68 := by kernel_rfl
 a68 := fun _ => rfl
 z68 := fun _ => rfl
 v68 := fun _ => rfl
 t85 := by kernel_rfl
 a85 := fun _ => rfl
 z85 := fun _ => rfl
 v85 := fun _ => rfl
 aE := Try.isAgg46
 zE := Try.sizeOf46
instance : Inhabited S46 := ⟨z46⟩
def encP (x : S46) : List Value := [.int .i64 x.f0, .int .i64 x.f1.f0, .int .i64 x.f1.f1, .int .i64 x.f2]
def cmpC (a b : Int) : Int := if a < b then -1 else if b < a then 1 else 0
def cmpO (x y : S46) : Int := if cmpC x.f0 y.f0 = 0 then (if cmpC x.f1.f0 y.f1.f0 = 0 then (if cmpC x.f1.f1 y.f1.f1 = 0 then cmpC x.f2 y.f2 else cmpC x.f1.f1 y.f1.f1) else cmpC x.f1.f0 y.f1.f0) else cmpC x.f0 y.f0
theorem compare_f (a b : Int) : cmp_Compare_int64.f a b = some (cmpC a b) := by
 unfold cmp_Compare_int64.f cmp_isNaN_int64.f cmpC
 simp
 split
 ·rfl
 ·split <;> rfl
theorem or_f (a b c d : Int) : cmp_Or_int.f 6 [a, b, c, d] = some (if a = 0 then (if b = 0 then (if c = 0 then d else c) else b) else a) := by
 have w1 : wrap64 1 = 1 := by decide +kernel
 have w2 : wrap64 2 = 2 := by decide +kernel
 have w3 : wrap64 3 = 3 := by decide +kernel
 have w4 : wrap64 4 = 4 := by decide +kernel
 have hl : (([a, b, c, d] : List Int).length : Int) = 4 := rfl
 unfold cmp_Or_int.f
 rw [hl]
 by_cases ha : a = 0
 ·by_cases hb : b = 0
  ·by_cases hc : c = 0
   ·by_cases hd : d = 0
    ·simp [cmp_Or_int.l0, Go.Proofs.YtdinbnbogdadgaaW.PrintWords.rd, w1, w2, w3, w4, ha, hb, hc, hd]
    ·simp [cmp_Or_int.l0, Go.Proofs.YtdinbnbogdadgaaW.PrintWords.rd, w1, w2, w3, w4, ha, hb, hc, hd]
   ·simp [cmp_Or_int.l0, Go.Proofs.YtdinbnbogdadgaaW.PrintWords.rd, w1, w2, w3, w4, ha, hb, hc]
  ·simp [cmp_Or_int.l0, Go.Proofs.YtdinbnbogdadgaaW.PrintWords.rd, w1, w2, w3, w4, ha, hb]
 ·simp [cmp_Or_int.l0, Go.Proofs.YtdinbnbogdadgaaW.PrintWords.rd, w1, w2, w3, w4, ha]
theorem order_f (x y : S46) : window_order.f 6 x.f0 x.f1.f0 x.f1.f1 x.f2 y.f0 y.f1.f0 y.f1.f1 y.f2 = some (cmpO x y) := by
 unfold window_order.f
 rw [compare_f, compare_f, compare_f, compare_f]
 simp only [Option.bind_some]
 rw [or_f]
 rfl
theorem grow_of {w w' : World} (h : Below w.heap.size w w') (hd : w.drawn ≤ w'.drawn) : ∃ q os, w' = grow (w.drewN q) os := by
 refine ⟨w'.drawn - w.drawn, w'.heap.extract w.heap.size w'.heap.size, ?_⟩
 obtain ⟨heap, tape, drawn, os, output⟩ := w
 obtain ⟨heap', tape', drawn', os', output'⟩ := w'
 obtain ⟨h1, h2, h3, h4, h5⟩ := h
 simp only at h1 h2 h3 h4 h5 hd
 subst h1 h2 h3
 simp only [grow, World.drewN, World.mk.injEq]
 refine ⟨?_, trivial, by omega, trivial, trivial⟩
 apply Array.ext_getElem?
 intro i
 rw [Array.getElem?_append]
 split
 ·rename_i hi; exact h5 i hi
 ·rename_i hi
  rw [Array.getElem?_extract]
  have : heap.size + (i - heap.size) = i := by omega
  split
  ·rw [this]
  ·rw [Array.getElem?_eq_none (by omega)]
theorem cmpLays (blk off size : Nat) (w : World) : CmpLays Try.prog 42 #[] encP 4 cmpO blk off size w := by
 intro m os dk _ x y
 refine (X.order_drawn 6 x.f0 x.f1.f0 x.f1.f1 x.f2 y.f0 y.f1.f0 y.f1.f1 y.f2 _ _ (order_f x y)).mono ?_
 rintro e w' ⟨rfl, hb, hd⟩
 exact ⟨rfl, grow_of hb hd⟩
theorem ltO_iff (x y : S46) : ltOf cmpO x y = true ↔ (x.f0 < y.f0 ∨ x.f0 = y.f0 ∧ (x.f1.f0 < y.f1.f0 ∨ x.f1.f0 = y.f1.f0 ∧ (x.f1.f1 < y.f1.f1 ∨ x.f1.f1 = y.f1.f1 ∧ x.f2 < y.f2))) := by
 have c : ∀ a b : Int, (cmpC a b = 0 ↔ a = b) ∧ (cmpC a b < 0 ↔ a < b) := fun a b => by
  unfold cmpC
  by_cases h1 : a < b
  ·rw [if_pos h1]; omega
  ·rw [if_neg h1]
   by_cases h2 : b < a
   ·rw [if_pos h2]; omega
   ·rw [if_neg h2]; omega
 unfold ltOf cmpO
 rw [decide_eq_true_iff]
 by_cases h0 : cmpC x.f0 y.f0 = 0
 ·rw [if_pos h0]
  have g0 := (c _ _).1.1 h0
  by_cases h1 : cmpC x.f1.f0 y.f1.f0 = 0
  ·rw [if_pos h1]
   have g1 := (c _ _).1.1 h1
   by_cases h2 : cmpC x.f1.f1 y.f1.f1 = 0
   ·rw [if_pos h2, (c _ _).2]
    have g2 := (c _ _).1.1 h2
    omega
   ·rw [if_neg h2, (c _ _).2]
    have g2 : ¬ x.f1.f1 = y.f1.f1 := fun h => h2 ((c _ _).1.2 h)
    omega
  ·rw [if_neg h1, (c _ _).2]
   have g1 : ¬ x.f1.f0 = y.f1.f0 := fun h => h1 ((c _ _).1.2 h)
   omega
 ·rw [if_neg h0, (c _ _).2]
  have g0 : ¬ x.f0 = y.f0 := fun h => h0 ((c _ _).1.2 h)
  omega
theorem ltO_false (x y : S46) : ltOf cmpO x y = false ↔ ¬ (x.f0 < y.f0 ∨ x.f0 = y.f0 ∧ (x.f1.f0 < y.f1.f0 ∨ x.f1.f0 = y.f1.f0 ∧ (x.f1.f1 < y.f1.f1 ∨ x.f1.f1 = y.f1.f1 ∧ x.f2 < y.f2))) := by
 rw [← ltO_iff]; simp
theorem swoO : SWO (ltOf cmpO) where
 irrefl x := by rw [ltO_false]; omega
 trans x y z h1 h2 := by rw [ltO_iff] at *; omega
 ntrans x y z h1 h2 := by rw [ltO_false] at *; omega
theorem ltO_eq (x y : S46) (h1 : ltOf cmpO x y = false) (h2 : ltOf cmpO y x = false) : x = y := by
 rw [ltO_false] at h1 h2
 have e0 : x.f0 = y.f0 := by omega
 have e1 : x.f1.f0 = y.f1.f0 := by omega
 have e2 : x.f1.f1 = y.f1.f1 := by omega
 have e3 : x.f2 = y.f2 := by omega
 obtain ⟨_, ⟨_, _⟩, _⟩ := x
 obtain ⟨_, ⟨_, _⟩, _⟩ := y
 simp only at e0 e1 e2 e3
 subst e0 e1 e2 e3
 rfl
theorem sortStable (blk off cap : Nat) (d : Array S46) (w : World) (hH : HoldsK encP 4 w blk off d) (hblk : blk < w.heap.size) (hsz : d.size < 1152921504606846976) :
  Calls Try.prog 52 #[.slice (some ⟨blk, off, none⟩) d.size cap, .func (.func 42) #[] #[]] w fun e w' => e = .returned (.tuple #[]) ∧ ∃ d' : Array S46, d'.toList = d.toList.mergeSort (fun x y => !ltOf cmpO y x) ∧ SWK encP 4 w blk off d' w' := by
 have eg : ∀ args w, (callFunc 42 args).run Try.prog w = .ok (.enter 42 args) w := enters_of Try.func42 (by kernel_rfl) rfl
 have R : RowK encP 4 w blk off d := ⟨fun _ => rfl, fun x v hv => by simp [encP] at hv; rcases hv with rfl | rfl | rfl | rfl <;> rfl, hH, hblk⟩
 have hins : ∀ (a b : Nat) (dk : Array S46) (w1 : World), dk.size = d.size → SWK encP 4 w blk off dk w1 → a ≤ b → b ≤ dk.size → Calls Try.prog 64 #[.slice (some ⟨blk, off, none⟩) d.size cap, .int .i64 a, .int .i64 b, .func (.func 42) #[] #[]] w1 fun e w' => e = .returned (.tuple #[]) ∧ ∃ d', PermIn a b dk d' ∧ SortedIn (ltOf cmpO) a b d' ∧ SWK encP 4 w blk off d' w' := by
  intro a b dk w1 hs S hab hb
  have hi := insertionSort_holds swoO dk a b hab hb
  have hcon := AnyQ.insertionSortCmpFunc insLay 4 Try.isAgg46 Try.sizeOf46 encP R.hk R.h1 cmpO 42 #[] blk off cap a b dk w1 eg (cmpLays blk off dk.size w1) (S.holds hblk hH hs) (S.lt hblk) hab hb (by omega)
  change Calls Try.prog 64 _ _ _ at hcon
  rw [hs] at hcon
  refine hcon.mono ?_
  rintro e w' ⟨rfl, n, os, rfl⟩
  exact ⟨rfl, _, hi.1, hi.2, S.on hblk n _ os hi.1.1⟩
 have hsym : ∀ (a m b : Nat) (dk : Array S46) (w1 : World), dk.size = d.size → SWK encP 4 w blk off dk w1 → a < m → m < b → b ≤ dk.size → SortedIn (ltOf cmpO) a m dk → SortedIn (ltOf cmpO) m b dk → Calls Try.prog 65 #[.slice (some ⟨blk, off, none⟩) d.size cap, .int .i64 a, .int .i64 m, .int .i64 b, .func (.func 42) #[] #[]] w1 fun e w' => e = .returned (.tuple #[]) ∧ ∃ d', PermIn a b dk d' ∧ SortedIn (ltOf cmpO) a b d' ∧ SWK encP 4 w blk off d' w' := by
  intro a m b dk w1 hs S h1 h2 h3 s1 s2
  have hcon := symMerge layTry encP cmpO 42 #[] swoO blk off cap d w eg (cmpLays blk off d.size w) R (b - a + 1) a m b dk w1 (by omega) hs.symm S h1 h2 h3 (by omega) s1 s2
  rw [hs] at hcon
  exact hcon
 have hst := stable layTry encP (ltOf cmpO) 42 #[] blk off cap d w w (SWK.start hH) hsz hins hsym
 clear hins hsym
 go_enter Try.func52, Try.ntmps52
 go_wp2_with (go_at_call 62; refine hst.mono ?_; rintro e w' ⟨rfl, d', hp, hs, S⟩)
 go_end0
 exact ⟨rfl, d', sorted_unique_holds swoO ltO_eq d d' hp hs, S⟩
end Go.Proofs.Ytdinbnbogdadgaa.So
