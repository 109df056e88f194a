/- The contract of job.Order. No conditions beyond those typed. -/
import Derived.Test.YtpbmfdbfimcpjaaMJobOrder1
import Derived.Test.YtpbmfdbfimcpjaaMJobOrder0
import Derived.Test.YtpbmfdbfimcpjaaMJobOrder3
namespace Go.Proofs.Ytpbmfdbfimcpjaa.X
open Go.RowKit Go.Proofs.YtpbmfdbfimcpjaaW.PrintWords Go.Proofs.YtpbmfdbfimcpjaaW.PrintLast
set_option linter.unusedVariables false
set_option linter.unusedSimpArgs false

def mayB (ins : List Bool) (i : Int) : Bool := decide (0 ≤ i) && (decide (i < ins.length) && ins.getD i.toNat false)
def bcells (ins : List Bool) : Array Value := (ins.map Value.bool).toArray
theorem bcells_at (ins : List Bool) (i : Nat) (h : i < ins.length) : (bcells ins)[i]? = some (.bool (ins.getD i false)) := by
  simp [bcells, h]
theorem bcells_set (ins : List Bool) (i : Nat) : (bcells ins).setIfInBounds i (.bool true) = bcells (ins.set i true) := by
  simp [bcells, List.map_set]

theorem may_any (b4 bs n : Nat) (ins : List Bool) (hn : ins.length = n) (i : Int) (w : World) (h4 : w.cell? ⟨b4, 0, none⟩ = some (.slice (some ⟨bs, 0, none⟩) n n)) (hs : w.heap[bs]? = some (.cells (bcells ins) 4 (0, 0))) :
    Calls Try.prog 24 #[.int .i64 i, .pointer (some ⟨b4, 0, none⟩)] w fun e w' => e = .returned (.bool (mayB ins i)) ∧ w = w' := by
  subst hn
  by_cases h0 : 0 ≤ i
  · by_cases h1 : i < ins.length
    · obtain ⟨j, rfl⟩ := Int.eq_ofNat_of_zero_le h0
      have hx : w.cell? ⟨bs, j, none⟩ = some (.bool (ins.getD j false)) := (blk_cell hs j).trans (bcells_at ins j (by omega))
      have hf : Aside0 (mayB ins (j : Int) = ins.getD j false) := ⟨by simp [mayB]; omega⟩
      obtain ⟨b, HB⟩ : ∃ b, Aside0 (b = ins.getD j false) := ⟨_, ⟨rfl⟩⟩
      rw [← HB.out] at hx
      clear hs
      go_enter Try.func24, Try.ntmps24
      go_wp2
      go_ret
      exact ⟨by rw [hf.out, ← HB.out]; rfl, rfl⟩
    · go_enter Try.func24, Try.ntmps24
      go_wp2
      go_ret
      exact ⟨by rw [mayB, decide_eq_false (by omega : ¬ (i < (ins.length : Int))), Bool.false_and, Bool.and_false]; rfl, rfl⟩
  · go_enter Try.func24, Try.ntmps24
    go_wp2
    go_ret
    exact ⟨by rw [mayB, decide_eq_false (by omega : ¬ (0 ≤ i)), Bool.false_and]; rfl, rfl⟩

/-! ### the order, plainly -/
def readyN (l : List S38) (ins : List Bool) (i : Nat) : Bool := !ins.getD i false && (l.getD i z38).f1.all (mayB ins)
def nextN (l : List S38) (ins : List Bool) : Option Nat := (List.range l.length).find? (readyN l ins)
def orderGo (l : List S38) : Nat → List Bool → List Int → List Int
  | 0, _, out => out
  | k + 1, ins, out => match nextN l ins with | none => out | some i => orderGo l k (ins.set i true) (out ++ [(i : Int)])
def jobOrder (l : List S38) : List Int := orderGo l (l.length + 1) (List.replicate l.length false) []
theorem next_none {l : List S38} {ins : List Bool} (h : ∀ j, j < l.length → readyN l ins j = false) : nextN l ins = none := by
  unfold nextN; rw [List.find?_eq_none]; intro x hx; rw [h x (by simpa using hx)]; simp
theorem next_some {l : List S38} {ins : List Bool} {i : Nat} (hi : i < l.length) (h : ∀ j, j < i → readyN l ins j = false) (hr : readyN l ins i = true) : nextN l ins = some i := by
  unfold nextN
  rw [List.find?_range_eq_some]
  exact ⟨hr, by simpa using hi, fun j hj => by rw [h j hj]; rfl⟩
theorem order_none {l : List S38} {k : Nat} {ins : List Bool} {out : List Int} (h : nextN l ins = none) : orderGo l (k + 1) ins out = out := by
  rw [orderGo, h]
theorem order_some {l : List S38} {k i : Nat} {ins : List Bool} {out : List Int} (h : nextN l ins = some i) : orderGo l (k + 1) ins out = orderGo l k (ins.set i true) (out ++ [(i : Int)]) := by
  rw [orderGo, h]
theorem count_step {ins : List Bool} {i : Nat} (hi : i < ins.length) (h : ins.getD i false = false) : (ins.set i true).count false + 1 = ins.count false := by
  have h' : ins[i] = false := by simpa [List.getD_eq_getElem?_getD, hi] using h
  have hp : 0 < ins.count false := List.count_pos_iff.2 (h' ▸ List.getElem_mem hi)
  rw [List.count_set hi, h']; simp; omega
def job_Order.f (l : List S38) : Option (List Int) := if l.length < 17592186044416 then some (jobOrder l) else none

theorem made_bools (n : Nat) : madeCells #[.bool false] n = bcells (List.replicate n false) := by
  apply Array.ext'
  simp [madeCells, bcells]
  apply List.ext_getElem
  · simp
  · intro i h1 h2; simp [Nat.mod_one]

structure OrdW (w : World) (A0 : Option Addr) (c0 : Nat) (l : List S38) (ins : List Bool) (wr : World) : Prop where
  bj : wr.heap[w.heap.size]? = some (.cells #[.slice A0 l.length c0] 24 (0, 0))
  bs : wr.heap[w.heap.size + 1]? = some (.cells (bcells ins) 4 (0, 0))
  b4 : wr.heap[w.heap.size + 1 + 1]? = some (.cells #[.slice (some ⟨w.heap.size + 1, 0, none⟩) l.length l.length] 29 (0, 0))
  hb : Below w.heap.size w wr
  hl : ins.length = l.length
theorem OrdW.step {w wr w2 : World} {A0 : Option Addr} {c0 : Nat} {l : List S38} {ins : List Bool} (h : OrdW w A0 c0 l ins wr) (k : Below wr.heap.size wr w2) : OrdW w A0 c0 l ins w2 :=
  ⟨blk_below h.bj k, blk_below h.bs k, blk_below h.b4 k, below_step h.hb k, h.hl⟩
theorem OrdW.grown {w wr w2 : World} {A0 : Option Addr} {c0 : Nat} {l : List S38} {ins : List Bool} {v : Value} {xs : List Int} (h : OrdW w A0 c0 l ins wr) (ho : Kd.R (Kd.int .i64) 3 wr w.heap.size (fun _ => True) v xs) (hg : wr.grownBy w2 v.ownBlock) (hb : Below w.heap.size w w2) : OrdW w A0 c0 l ins w2 :=
  ⟨blk_grown h.bj hg (Kd.R_ne ho h.bj (by decide)), blk_grown h.bs hg (Kd.R_ne ho h.bs (by decide)), blk_grown h.b4 hg (Kd.R_ne ho h.b4 (by decide)), hb, h.hl⟩
theorem OrdW.store {w wr : World} {A0 : Option Addr} {c0 : Nat} {l : List S38} {ins : List Bool} (h : OrdW w A0 c0 l ins wr) (i : Nat) : OrdW w A0 c0 l (ins.set i true) (wr.setCell ⟨w.heap.size + 1, i, none⟩ (.bool true)) :=
  ⟨blk_far h.bj (by simp) _, by rw [blk_set h.bs, bcells_set], blk_far h.b4 (by simp) _, h.hb.setCell (by simp) _, by rw [List.length_set]; exact h.hl⟩
theorem OrdW.cj {w wr : World} {A0 : Option Addr} {c0 : Nat} {l : List S38} {ins : List Bool} (h : OrdW w A0 c0 l ins wr) : wr.cell? ⟨w.heap.size, 0, none⟩ = some (.slice A0 l.length c0) := (blk_cell h.bj 0).trans rfl
theorem OrdW.c4 {w wr : World} {A0 : Option Addr} {c0 : Nat} {l : List S38} {ins : List Bool} (h : OrdW w A0 c0 l ins wr) : wr.cell? ⟨w.heap.size + 1 + 1, 0, none⟩ = some (.slice (some ⟨w.heap.size + 1, 0, none⟩) l.length l.length) := (blk_cell h.b4 0).trans rfl
theorem OrdW.cs {w wr : World} {A0 : Option Addr} {c0 : Nat} {l : List S38} {ins : List Bool} (h : OrdW w A0 c0 l ins wr) (i : Nat) (hi : i < l.length) : wr.cell? ⟨w.heap.size + 1, i, none⟩ = some (.bool (ins.getD i false)) := (blk_cell h.bs i).trans (bcells_at ins i (by rw [h.hl]; exact hi))
theorem OrdW.fs {w wr : World} {A0 : Option Addr} {c0 : Nat} {l : List S38} {ins : List Bool} (h : OrdW w A0 c0 l ins wr) (i : Nat) : wr.frozen? ⟨w.heap.size + 1, i, none⟩ = false := blk_frozen h.bs i

set_option maxHeartbeats 4000000 in
theorem job_Order.calls (A0 : Option Addr) (c0 : Nat) (l : List S38) (r : List Int) (w : World) (hr0 : Kd.C k38 w A0 l.length l) (hc0 : l.length ≤ c0) (h : job_Order.f l = some r) :
    Calls Try.prog 9 #[.agg #[.slice A0 l.length c0]] w fun e w' => ∃ v0_ : Value, e = .returned v0_ ∧ Kd.R (Kd.int .i64) 3 w' w.heap.size (fun _ => True) v0_ r ∧ Below w.heap.size w w' := by
  have hn : l.length < 17592186044416 := by unfold job_Order.f at h; split at h; assumption; cases h
  obtain rfl : jobOrder l = r := by unfold job_Order.f at h; rw [if_pos hn] at h; exact Option.some.inj h
  clear h
  have hmk : ∀ W : World, (Instr.makeSlice 29 (.int .i64 (l.length : Int)) (.int .i64 (l.length : Int))).run Try.prog W = .ok (.slice (some ⟨W.heap.size, 0, none⟩) l.length l.length) (W.alloc (.cells (madeCells #[.bool false] l.length) 4)) := by
    intro W
    exact run_make_row' 29 4 (.bool false) 1 Try.underlying29 info4 rfl .i64 .i64 l.length (by omega) (by omega) W
  go_enter Try.func9, Try.ntmps9
  go_wp2_with fail
  go_step3
  go_wp2_with fail
  go_step3
  go_wp2_with fail
  have HR0 := Aside0.mk hr0
  have HO := Aside0.mk (show OrdW w A0 c0 l (List.replicate l.length false) (((w.alloc (.cells #[.slice A0 l.length c0] 24)).alloc (.cells (madeCells #[.bool false] l.length) 4)).alloc (.cells #[.slice (some ⟨w.heap.size + 1, 0, none⟩) l.length l.length] 29)) from
    ⟨((Below.heap_alloc _ _ _ (by simp; omega)).trans (Below.heap_alloc _ _ _ (by simp))).trans (heap_alloc_new _ _), (Below.heap_alloc _ _ _ (by simp)).trans (by rw [made_bools]; have := heap_alloc_new (w.alloc (.cells #[.slice A0 l.length c0] 24)) (.cells (bcells (List.replicate l.length false)) 4); simpa using this), by have := heap_alloc_new ((w.alloc (.cells #[.slice A0 l.length c0] 24)).alloc (.cells (madeCells #[.bool false] l.length) 4)) (.cells #[.slice (some ⟨w.heap.size + 1, 0, none⟩) l.length l.length] 29); simpa using this, (((Below.refl _ _).alloc (Nat.le_refl _) _).alloc (by simp) _).alloc (by simp; omega) _, by simp⟩)
  clear hr0
  go_loopg [3] (l.length + 1) (fun k v3 wr => ∃ (ins : List Bool) (outl : List Int), Aside0 (k = ins.count false + 1) ∧ Aside0 (outl.length + ins.count false = l.length) ∧ Aside0 (orderGo l k ins outl = jobOrder l) ∧ Aside0 (OrdW w A0 c0 l ins wr) ∧ Aside0 (Kd.R (Kd.int .i64) 3 wr w.heap.size (fun _ => True) v3 outl))
  case atStart => exact ⟨_, [], ⟨by simp⟩, ⟨by simp⟩, ⟨rfl⟩, HO, ⟨Kd.R_nil _ _ _ _ _⟩⟩
  case round =>
    obtain ⟨ins, outl, HK, HL, HG, HO, HV⟩ := hrel
    obtain ⟨g1, Hg1⟩ : ∃ g1, Aside0 (gk = g1 + 1) := ⟨gk - 1, ⟨by have := HK.out; omega⟩⟩
    have hcj := HO.out.cj
    go_wp2_with fail
    go_step3
    go_wp2_with fail
    go_step3
    go_wp2_with fail
    clear hcj
    go_loopg [3, 18] l.length (fun k y3 y18 wr2 => ∃ i : Nat, y18 = .int .i64 i ∧ y3 = u3 ∧ i ≤ l.length ∧ Aside0 (k + i = l.length) ∧ Aside0 (∀ j, j < i → readyN l ins j = false) ∧ Aside0 (OrdW w A0 c0 l ins wr2) ∧ Aside0 (Kd.R (Kd.int .i64) 3 wr2 w.heap.size (fun _ => True) u3 outl))
    case atStart => exact ⟨0, rfl, rfl, by omega, ⟨by omega⟩, ⟨fun j h => absurd h (by omega)⟩, HO, HV⟩
    case round =>
      clear HO HV
      obtain ⟨i, rfl, rfl, hi, HI, HN, HO, HV⟩ := hrel
      by_cases hlt : i < l.length
      · obtain ⟨ad, A1, c1, A5, c5, e, hx0, hx1, hx2, hx3, hx4, hx5, hx6, hx7, hx8, hx9, l1, g1, l5, g5⟩ := at_T38 HR0.out (i : Int) (by omega) (by omega)
        cases e
        have er : rd_T38 l (i : Int) = l.getD i z38 := by simp [rd_T38]
        obtain ⟨x, HX⟩ : ∃ x, Aside0 (x = l.getD i z38) := ⟨_, ⟨rfl⟩⟩
        rw [← HX.out] at er
        simp only [er, Int.toNat_natCast] at hx0 hx1 hx2 hx3 hx4 hx5 hx6 hx7 hx8 hx9 l1 g1
        clear er l5 g5
        have hxl : x.f1.length ≤ 9223372036854775807 := g1.2.1
        have HL1 := Aside0.mk l1
        have HG1 := Aside0.mk g1
        clear l1 g1
        replace hx0 := (HO.out.hb.cell (World.block_lt_of_cell? w _ hx0)).trans hx0
        replace hx1 := (HO.out.hb.cell (World.block_lt_of_cell? w _ hx1)).trans hx1
        replace hx2 := (HO.out.hb.cell (World.block_lt_of_cell? w _ hx2)).trans hx2
        replace hx3 := (HO.out.hb.cell (World.block_lt_of_cell? w _ hx3)).trans hx3
        replace hx4 := (HO.out.hb.cell (World.block_lt_of_cell? w _ hx4)).trans hx4
        replace hx5 := (HO.out.hb.cell (World.block_lt_of_cell? w _ hx5)).trans hx5
        replace hx6 := (HO.out.hb.cell (World.block_lt_of_cell? w _ hx6)).trans hx6
        replace hx7 := (HO.out.hb.cell (World.block_lt_of_cell? w _ hx7)).trans hx7
        replace hx8 := (HO.out.hb.cell (World.block_lt_of_cell? w _ hx8)).trans hx8
        replace hx9 := (HO.out.hb.cell (World.block_lt_of_cell? w _ hx9)).trans hx9
        have hc4 := HO.out.c4
        have hcs := HO.out.cs i hlt
        obtain ⟨b, HBB⟩ : ∃ b, Aside0 (b = ins.getD i false) := ⟨_, ⟨rfl⟩⟩
        rw [← HBB.out] at hcs
        have hsz : w.heap.size + 1 + 1 < wr.heap.size := blk_lt HO.out.b4
        have hsz1 : w.heap.size + 1 < wr.heap.size := blk_lt HO.out.bs
        obtain ⟨g2, Hg2⟩ : ∃ g2, Aside0 (gk = g2 + 1) := ⟨gk - 1, ⟨by have := HI.out; omega⟩⟩
        have HI' : Aside0 (g2 + (i + 1) = l.length) := ⟨by have := HI.out; have := Hg2.out; omega⟩
        cases b with
        | true =>
          go_wp2_with fail
          go_roundg g2
          case measure => have := Hg2.out; omega
          case rel => exact ⟨i + 1, by go_num, rfl, by omega, HI', ⟨fun j hj => by
            rcases Nat.lt_or_ge j i with h1 | h1
            · exact HN.out j h1
            · obtain rfl : j = i := by omega
              unfold readyN; rw [← HBB.out]; rfl⟩, ⟨HO.out.step ((Below.refl _ _).alloc (Nat.le_refl _) _)⟩, ⟨Kd.R_below HV.out ((Below.refl _ _).alloc (Nat.le_refl _) _)⟩⟩
        | false =>
          go_wp2_with fail
          clear hx0 hx1 hx2 hx3 hx4 hx5 hx6 hx7 hx8 hx9 hc4 hcs hsz hsz1
          go_loopg [30] x.f1.length (fun k y30 wr3 => ∃ m : Nat, y30 = .int .i64 m ∧ m ≤ x.f1.length ∧ Aside0 (k + m = x.f1.length) ∧ Aside0 (∀ q, q < m → mayB ins (x.f1.getD q 0) = true) ∧ Aside0 (OrdW w (some ad) c0 l ins wr3) ∧ Aside0 (Kd.R (Kd.int .i64) 3 wr3 w.heap.size (fun _ => True) u3 outl))
          case atStart => exact ⟨0, rfl, by omega, ⟨by omega⟩, ⟨fun q h => absurd h (by omega)⟩, ⟨HO.out.step ((Below.refl _ _).alloc (Nat.le_refl _) _)⟩, ⟨Kd.R_below HV.out ((Below.refl _ _).alloc (Nat.le_refl _) _)⟩⟩
          case round =>
            clear HO HV
            obtain ⟨m, rfl, hm, HM, HQ, HO, HV⟩ := hrel
            by_cases hmt : m < x.f1.length
            · obtain ⟨ad1, e, hy⟩ := Kd.at_int HG1.out (m : Int) (by omega) (by omega)
              cases e
              have er : rd x.f1 (m : Int) = x.f1.getD m 0 := by simp [rd]
              obtain ⟨y, HY⟩ : ∃ y, Aside0 (y = x.f1.getD m 0) := ⟨_, ⟨rfl⟩⟩
              rw [er, ← HY.out, Int.toNat_natCast] at hy
              clear er
              replace hy := (HO.out.hb.cell (World.block_lt_of_cell? w _ hy)).trans hy
              obtain ⟨g3, Hg3⟩ : ∃ g3, Aside0 (gk = g3 + 1) := ⟨gk - 1, ⟨by have := HM.out; omega⟩⟩
              have HM' : Aside0 (g3 + (m + 1) = x.f1.length) := ⟨by have := HM.out; have := Hg3.out; omega⟩
              obtain ⟨b, HBY⟩ : ∃ b, Aside0 (b = mayB ins y) := ⟨_, ⟨rfl⟩⟩
              go_wp2_with fail
              have hcall := may_any _ _ _ ins HO.out.hl y wr HO.out.c4 HO.out.bs
              rw [← HBY.out] at hcall
              refine hcall.mono ?_
              clear hcall
              rintro e w1 ⟨rfl, rfl⟩
              cases b with
              | true =>
                go_wp2_with fail
                go_roundg g3
                case measure => have := Hg3.out; omega
                case rel => exact ⟨m + 1, by go_num, by omega, HM', ⟨fun q hq => by
                  rcases Nat.lt_or_ge q m with h1 | h1
                  · exact HQ.out q h1
                  · obtain rfl : q = m := by omega
                    rw [← HY.out]; exact HBY.out.symm⟩, HO, HV⟩
              | false =>
                go_wp2_with fail
                go_roundg g2
                case measure => have := Hg2.out; omega
                case rel => exact ⟨i + 1, by go_num, rfl, by omega, HI', ⟨fun j hj => by
                  rcases Nat.lt_or_ge j i with h1 | h1
                  · exact HN.out j h1
                  · obtain rfl : j = i := by omega
                    unfold readyN
                    rw [← HX.out, List.all_eq_false.2 ⟨y, by rw [HY.out, List.getD_eq_getElem?_getD, List.getElem?_eq_getElem hmt]; exact List.getElem_mem hmt, by rw [← HBY.out]; simp⟩, Bool.and_false]⟩, HO, HV⟩
            · have hrdy : readyN l ins i = true := by
                unfold readyN
                rw [← HBB.out, ← HX.out, List.all_eq_true.2 (fun y hy => by
                  obtain ⟨q, hq, rfl⟩ := List.getElem_of_mem hy
                  have := HQ.out q (by omega)
                  rwa [List.getD_eq_getElem?_getD, List.getElem?_eq_getElem hq] at this)]
                rfl
              have HNX := Aside0.mk (next_some hlt HN.out hrdy)
              clear hrdy
              have hc4 := HO.out.c4
              have hcs := HO.out.cs i hlt
              have hfs := HO.out.fs i
              have HC := Aside0.mk (count_step (ins := ins) (i := i) (by rw [HO.out.hl]; exact hlt) HBB.out.symm)
              have HI2 := Aside0.mk (HO.out.store i)
              have HV2 := Aside0.mk (Kd.R_set HV.out HO.out.bs (by decide) i (.bool true))
              clear HO HV
              go_wp2_with (at_builtin; refine Kd.R_append (Kd.int .i64) (w0 := w) w.heap.size rfl (.tmp 42) (.tmp 44) 30 3 (.int .i64 0) 8 rfl Try.underlying30 info3 rfl (by decide) (by omega) u3 outl (i : Int) [.int .i64 (i : Int)] (fun _ => True) (fun _ => False) rfl (Eq.trans (b := Value.slice (some ⟨wr.heap.size, 0, none⟩) 1 1) rfl (by simp)) rfl (fun _ h => h.elim) (fun _ _ => trivial) HV2.out HI2.out.hb HI2.out.hb.size ?aL ?_)
              case aL => have := HL.out; have := HC.out; omega
              intro v1 w1 ho hb hg _hat
              have HI3 := Aside0.mk (HI2.out.grown HV2.out (World.grownBy.trans (World.grownBy.refl _ _) hg) hb)
              have HV3 := Aside0.mk ho
              clear ho hb hg _hat HI2 HV2
              go_wp2_with fail
              rw [Exit.noGoto_exit]
              go_wp2_with fail
              go_roundg g1
              case measure => have := Hg1.out; omega
              case rel => exact ⟨ins.set i true, outl ++ [(i : Int)], ⟨by have := HK.out; have := Hg1.out; have := HC.out; omega⟩, ⟨by have := HL.out; have := HC.out; simp only [List.length_append, List.length_cons, List.length_nil]; omega⟩, ⟨by have := HG.out; rw [Hg1.out, order_some HNX.out] at this; exact this⟩, HI3, HV3⟩
      · have HNX := Aside0.mk (next_none (l := l) (ins := ins) (fun j hj => HN.out j (by omega)))
        have HR := HG.out
        rw [Hg1.out, order_none HNX.out] at HR
        have HR' := Aside0.mk HR
        clear HR
        go_wp2_with fail
        rw [Exit.noGoto_ret]
        simp only [Exit.inBlock, Exit.then, Exit.noGoto_ret]
        go_ret
        refine ⟨u3, rfl, ?_, HO.out.hb⟩
        rw [← HR'.out]; exact HV.out
end Go.Proofs.Ytpbmfdbfimcpjaa.X
-- written by wip/myprint.py out of the translation
namespace Go.Proofs.Ytpbmfdbfimcpjaa.X
open Go.RowKit Go.Proofs.YtpbmfdbfimcpjaaW.PrintWords Go.Proofs.YtpbmfdbfimcpjaaW.PrintLast Go.Proofs.YtpbmfdbfimcpjaaW.PrintMore
attribute [local go_sem] max2_int min2_int max_two min_two max_three min_three max_four min_four   -- for this text's walks alone
set_option linter.unusedVariables false
set_option linter.unusedSimpArgs false

/-! ### job_shape: function 18 -/
mutual
def job_shape.j0 : Nat → Bool → List (S38) → Option (Int)
  | 0, _, _ => none
  | k + 1, x15, x128000 => if x15 = true then (some 80) else (job_shape.l0 k x128000 (x128000.length : Int) 0 x128000)
def job_shape.l0 : Nat → List (S38) → Int → Int → List (S38) → Option (Int)
  | 0, _, _, _, _ => none
  | k + 1, x17, x18, x19, x128000 => if x19 < x18 then (if 0 ≤ x19 then (if x19 < (x17.length : Int) then ((job_node.f k x128000 ((rd_T38 x17 x19).f0) ((rd_T38 x17 x19).f1) ((rd_T38 x17 x19).f2) ((rd_T38 x17 x19).f3.f0) ((rd_T38 x17 x19).f3.f1) ((rd_T38 x17 x19).f3.f2) ((rd_T38 x17 x19).f4) ((rd_T38 x17 x19).f5.f0) ((rd_T38 x17 x19).f5.f1) ((rd_T38 x17 x19).f5.f2)).bind fun t130 => (if t130 = 0 then (job_shape.l0 k x17 x18 (wrap64 (x19 + 1)) x128000) else (some t130))) else (none)) else (none)) else ((job_Order.f x128000).bind fun t131 => (if (t131.length : Int) < (x128000.length : Int) then (some 83) else (some 0)))
end
def job_shape.f (k : Nat) (l0_0 : List (S38)) : Option (Int) := if (l0_0.length : Int) = 0 then (job_shape.j0 k true l0_0) else (job_shape.j0 k (decide ((l0_0.length : Int) > 12)) l0_0)
theorem job_shape.mono_l : ∀ k, (∀ y0 y1, LeO (job_shape.j0 k y0 y1) (job_shape.j0 (k + 1) y0 y1)) ∧ (∀ y0 y1 y2 y3, LeO (job_shape.l0 k y0 y1 y2 y3) (job_shape.l0 (k + 1) y0 y1 y2 y3))
  | 0 => ⟨fun _ _ r h => by simp [job_shape.j0] at h, fun _ _ _ _ r h => by simp [job_shape.l0] at h⟩
  | k + 1 => by
    obtain ⟨ih0, ih1⟩ := job_shape.mono_l k
    refine ⟨?_, ?_⟩
    · intro y0 y1
      unfold job_shape.j0
      repeat' first
      | (with_reducible exact ih0 _ _)
      | (with_reducible exact ih1 _ _ _ _)
      | (with_reducible exact job_node.mono _ _ _ _ _ _ _ _ _ _ _ _)
      | (with_reducible exact LeO.refl _)
      | (with_reducible exact LeO.none _)
      | (with_reducible refine LeO.ite ?_ ?_)
      | (with_reducible refine LeO.bind ?_ (fun _ => ?_))
      | exact ih0 _ _
      | exact ih1 _ _ _ _
      | exact job_node.mono _ _ _ _ _ _ _ _ _ _ _ _
      | exact LeO.none _
      | refine LeO.ite ?_ ?_
      | refine LeO.bind ?_ (fun _ => ?_)
    · intro y0 y1 y2 y3
      unfold job_shape.l0
      repeat' first
      | (with_reducible exact ih0 _ _)
      | (with_reducible exact ih1 _ _ _ _)
      | (with_reducible exact job_node.mono _ _ _ _ _ _ _ _ _ _ _ _)
      | (with_reducible exact LeO.refl _)
      | (with_reducible exact LeO.none _)
      | (with_reducible refine LeO.ite ?_ ?_)
      | (with_reducible refine LeO.bind ?_ (fun _ => ?_))
      | exact ih0 _ _
      | exact ih1 _ _ _ _
      | exact job_node.mono _ _ _ _ _ _ _ _ _ _ _ _
      | exact LeO.none _
      | refine LeO.ite ?_ ?_
      | refine LeO.bind ?_ (fun _ => ?_)
theorem job_shape.mono : ∀ a0 k, LeO (job_shape.f k a0) (job_shape.f (k + 1) a0) := by
  intro a0 k
  obtain ⟨ih0, ih1⟩ := job_shape.mono_l k
  unfold job_shape.f
  repeat' first
      | (with_reducible exact ih0 _ _)
      | (with_reducible exact ih1 _ _ _ _)
      | (with_reducible exact job_node.mono _ _ _ _ _ _ _ _ _ _ _ _)
      | (with_reducible exact LeO.refl _)
      | (with_reducible exact LeO.none _)
      | (with_reducible refine LeO.ite ?_ ?_)
      | (with_reducible refine LeO.bind ?_ (fun _ => ?_))
      | exact ih0 _ _
      | exact ih1 _ _ _ _
      | exact job_node.mono _ _ _ _ _ _ _ _ _ _ _ _
      | exact LeO.none _
      | refine LeO.ite ?_ ?_
      | refine LeO.bind ?_ (fun _ => ?_)
set_option maxHeartbeats 8000000 in
set_option maxRecDepth 100000 in
theorem job_shape.calls (k : Nat) (A0_0 : Option Addr) (c0_0 : Nat) (l0_0 : List (S38)) (r : Int) (w : World) (hr0_0 : Kd.C k38 w A0_0 l0_0.length l0_0) (hc0_0 : l0_0.length ≤ c0_0) (h : job_shape.f k l0_0 = some r) :
    Calls Try.prog 18 #[.agg #[.slice A0_0 l0_0.length c0_0]] w fun e w' => e = .returned (.int .i64 r) ∧ Below w.heap.size w w' := by
  have hu24 := Try.underlying24
  have hu38 := Try.underlying38
  have HR0_0 := Aside0.mk hr0_0
  have HC0_0 := Aside0.mk hc0_0
  clear hr0_0 hc0_0
  have HB := Aside0.mk (Below.refl w.heap.size w)
  have H : (if (l0_0.length : Int) = 0 then (job_shape.j0 k true l0_0) else (job_shape.j0 k (decide ((l0_0.length : Int) > 12)) l0_0)) = some r := h
  clear h
  have HC2 := Aside0.mk H
  clear H
  go_enter Try.func18, Try.ntmps18
  go_upto_region 1 with (first | ((with_reducible refine gate_dst (N := 1) rfl ?_); (try (refine gate_guard (by rfl) ?_; dsimp only)); refine box_event ?hg (N := 1) ?hd (cs := #[.slice A0_0 l0_0.length c0_0]) (t := 24) ?hr ?_; (case hd => rfl); (case hg => rfl); (case hr => first | (go_simp; done) | (go_simp; rfl)); intro gb127 hg w3 hbox hb; have n0_ := Aside0.mk (below_step (by repeat (first | (with_reducible first | exact HB.out | apply below_alloc | apply pw_below_drewN | apply below_drew1) | exact HB.out)) hb); have n1_ := Aside0.mk (hbox); have n2_ := Aside0.mk ((by rw [hg]; exact (below_size (by repeat (first | (with_reducible first | exact HB.out | apply below_alloc | apply pw_below_drewN | apply below_drew1) | exact HB.out))) : w.heap.size ≤ gb127)); have n3_ := Aside0.mk ((by rw [hg]; exact (below_size (by repeat (first | (with_reducible first | exact HB.out | apply below_alloc | apply pw_below_drewN | apply below_drew1) | exact HB.out))) : w.heap.size ≤ gb127)); clear HB; have HB := n0_; have BK127 := n1_; have GW127 := n2_; have GE127 := n3_; clear n0_ n1_ n2_ n3_; clear hb hbox hg))
  (try simp only [Act.put, List.setIfInBounds_toArray, List.set_cons_zero, List.set_cons_succ])
  go_cut [15] (fun v15 wc => ∃ (kq : Nat) (x15_1 : Bool), v15 = .bool x15_1 ∧ Aside0 (job_shape.j0 kq x15_1 l0_0 = some r) ∧ Aside0 (kq ≤ k) ∧ Aside0 (wc.heap[gb127]? = some (.cells #[(.slice A0_0 l0_0.length c0_0)] 24 (0, 0))) ∧ Aside0 (Below w.heap.size w wc))
  case first =>
    have H := HC2.out
    clear HC2
    by_cases c4 : (l0_0.length : Int) = 0
    · rw [if_pos c4] at H
      have c4b0 : ((l0_0.length : Int) == 0) = true := beq_iff_eq.mpr c4
      have c4b1 : ((l0_0.length : Int) != 0) = false := bne_eq_false_iff_eq.mpr c4
      clear c4
      (first | rw [c4b0] | (simp only [i64_w, i32_w]; rw [c4b0]) | skip)
      have H' := Aside0.mk H
      clear H
      have hcz5_0 : w3.cell? ⟨gb127, 0, none⟩ = some (.slice A0_0 l0_0.length c0_0) := (blk_cell BK127.out 0).trans rfl
      have hfz5_0 := blk_frozen BK127.out 0
      go_wp2
      go_meet
      case rel => exact ⟨_, (true), (by first | rfl | (simp; done) | (simp [*]; done)), H', ⟨by first | omega | exact Nat.le_refl _⟩, ⟨by (with_reducible repeat (first | refine blk_drewN ?_ _ | refine blk_drew ?_ | refine blk_alloc ?_ _)); exact BK127.out⟩, ⟨by repeat (first | (with_reducible first | exact HB.out | apply below_alloc | apply pw_below_drewN | apply below_drew1 | refine below_set ?_ GE127.out) | exact HB.out)⟩⟩
    · rw [if_neg c4] at H
      have c4b0 : ((l0_0.length : Int) == 0) = false := beq_eq_false_iff_ne.mpr c4
      have c4b1 : ((l0_0.length : Int) != 0) = true := bne_iff_ne.mpr c4
      have c4b2 : ¬ (l0_0 = []) := fun h_ => c4 (by rw [h_]; rfl)
      (first | rw [c4b0] | (simp only [i64_w, i32_w]; rw [c4b0]) | skip)
      have H' := Aside0.mk H
      clear H
      have hcz6_0 : w3.cell? ⟨gb127, 0, none⟩ = some (.slice A0_0 l0_0.length c0_0) := (blk_cell BK127.out 0).trans rfl
      have hfz6_0 := blk_frozen BK127.out 0
      go_wp2
      go_meet
      case rel => exact ⟨_, (decide ((l0_0.length : Int) > 12)), (by first | rfl | (simp; done) | (simp [*]; done)), H', ⟨by first | omega | exact Nat.le_refl _⟩, ⟨by (with_reducible repeat (first | refine blk_drewN ?_ _ | refine blk_drew ?_ | refine blk_alloc ?_ _)); exact BK127.out⟩, ⟨by repeat (first | (with_reducible first | exact HB.out | apply below_alloc | apply pw_below_drewN | apply below_drew1 | refine below_set ?_ GE127.out) | exact HB.out)⟩⟩
  case rest =>
    clear HC2
    try clear c1
    try clear p2
    try clear c4
    try clear c4b0
    try clear c4b1
    try clear c4b2
    try clear hcz5_0
    try clear hcz6_0
    try clear hfz5_0
    try clear hfz6_0
    obtain ⟨kq, x15_1, rfl, HA, HJ1, BK127, HB⟩ := hcut
    cases kq with
    | zero => exact absurd HA.out (by simp [job_shape.j0])
    | succ kj1 =>
      have H := HA.out
      clear HA
      simp only [job_shape.j0] at H
      by_cases c7 : x15_1 = true
      · subst c7
        have H1 : (some 80) = some r := by rw [if_pos rfl] at H; exact H
        clear H
        have H := H1
        clear H1
        obtain rfl := Option.some.inj H
        go_wp2
        go_ret
        exact ⟨by first | rfl | (simp [errW_none, errW_some] <;> rfl) | (simp [*, errW_none, errW_some] <;> rfl), by repeat (first | (with_reducible first | exact HB.out | apply below_alloc | apply pw_below_drewN | apply below_drew1 | refine below_set ?_ GE127.out) | exact HB.out)⟩
      · replace c7 := Bool.eq_false_iff.mpr c7
        subst c7
        have H1 : (job_shape.l0 kj1 l0_0 (l0_0.length : Int) 0 l0_0) = some r := by rw [if_neg (show ¬ (false = true) by decide)] at H; exact H
        clear H
        have H := H1
        clear H1
        have H' := Aside0.mk H
        clear H
        have hcz8_0 : wc.cell? ⟨gb127, 0, none⟩ = some (.slice A0_0 l0_0.length c0_0) := (blk_cell BK127.out 0).trans rfl
        have hfz8_0 := blk_frozen BK127.out 0
        go_wp2
        go_loopg [19] kj1 (fun kq v19 w' => ∃ (x19_2 : Int), v19 = .int .i64 x19_2 ∧ Aside0 (job_shape.l0 kq l0_0 (l0_0.length : Int) x19_2 l0_0 = some r) ∧ Aside0 (kq ≤ kj1) ∧ Aside0 (w'.heap[gb127]? = some (.cells #[(.slice A0_0 l0_0.length c0_0)] 24 (0, 0))) ∧ Aside0 (Below w.heap.size w w'))
        case atStart => exact ⟨(0), (by first | rfl | (simp; done) | (simp [*]; done)), H', ⟨Nat.le_refl _⟩, ⟨by (with_reducible repeat (first | refine blk_drewN ?_ _ | refine blk_drew ?_ | refine blk_alloc ?_ _)); exact BK127.out⟩, ⟨by repeat (first | (with_reducible first | exact HB.out | apply below_alloc | apply pw_below_drewN | apply below_drew1 | refine below_set ?_ GE127.out) | exact HB.out)⟩⟩
        case round =>
          clear H'
          try clear c1
          try clear p2
          try clear c4
          try clear c4b0
          try clear c4b1
          try clear c4b2
          try clear c7
          try clear hcz5_0
          try clear hcz6_0
          try clear hcz8_0
          try clear hfz5_0
          try clear hfz6_0
          try clear hfz8_0
          try clear p2
          obtain ⟨x19_2, rfl, HA, HK2, BK127, HB⟩ := hrel
          cases gk with
          | zero => exact absurd HA.out (by simp [job_shape.l0])
          | succ k2 =>
            have H := HA.out
            clear HA
            simp only [job_shape.l0] at H
            by_cases c9 : x19_2 < (l0_0.length : Int)
            · rw [if_pos c9] at H
              have c9b0 : decide (x19_2 < (l0_0.length : Int)) = true := decide_eq_true c9
              clear c9
              by_cases c10 : 0 ≤ x19_2
              · rw [if_pos c10] at H
                have c10b0 : decide (0 ≤ x19_2) = true := decide_eq_true c10
                clear c10
                by_cases c11 : x19_2 < (l0_0.length : Int)
                · rw [if_pos c11] at H
                  have c11b0 : decide (x19_2 < (l0_0.length : Int)) = true := decide_eq_true c11
                  clear c11
                  replace H := Option.bind_eq_some_iff.mp H
                  obtain ⟨t130, A120, H⟩ := H
                  replace H : (if t130 = 0 then (job_shape.l0 k2 l0_0 (l0_0.length : Int) (wrap64 (x19_2 + 1)) l0_0) else (some t130)) = some r := H
                  have A12 := Aside0.mk A120
                  clear A120
                  by_cases c13 : t130 = 0
                  · rw [if_pos c13] at H
                    have c13b0 : (t130 == 0) = true := beq_iff_eq.mpr c13
                    have c13b1 : (t130 != 0) = false := bne_eq_false_iff_eq.mpr c13
                    clear c13
                    have H' := Aside0.mk H
                    clear H
                    have p128 : 0 ≤ (x19_2 : Int) := of_decide_eq_true (by first | (with_reducible assumption) | assumption)
                    have q128 : x19_2 < (l0_0.length : Int) := of_decide_eq_true (by first | (with_reducible assumption) | assumption)
                    obtain ⟨ad128, A128_1, c128_1, A128_5, c128_5, e128, hx128_0, hx128_1, hx128_2, hx128_3, hx128_4, hx128_5, hx128_6, hx128_7, hx128_8, hx128_9, hl128_1, hi128_1, hl128_5, hi128_5⟩ := at_T38 HR0_0.out x19_2 p128 q128
                    cases e128
                    replace hx128_0 := (HB.out.cell (World.block_lt_of_cell? w _ hx128_0)).trans hx128_0
                    replace hx128_1 := (HB.out.cell (World.block_lt_of_cell? w _ hx128_1)).trans hx128_1
                    replace hx128_2 := (HB.out.cell (World.block_lt_of_cell? w _ hx128_2)).trans hx128_2
                    replace hx128_3 := (HB.out.cell (World.block_lt_of_cell? w _ hx128_3)).trans hx128_3
                    replace hx128_4 := (HB.out.cell (World.block_lt_of_cell? w _ hx128_4)).trans hx128_4
                    replace hx128_5 := (HB.out.cell (World.block_lt_of_cell? w _ hx128_5)).trans hx128_5
                    replace hx128_6 := (HB.out.cell (World.block_lt_of_cell? w _ hx128_6)).trans hx128_6
                    replace hx128_7 := (HB.out.cell (World.block_lt_of_cell? w _ hx128_7)).trans hx128_7
                    replace hx128_8 := (HB.out.cell (World.block_lt_of_cell? w _ hx128_8)).trans hx128_8
                    replace hx128_9 := (HB.out.cell (World.block_lt_of_cell? w _ hx128_9)).trans hx128_9
                    have HR128_1 := Aside0.mk hi128_1
                    have HC128_1 := Aside0.mk hl128_1
                    clear hi128_1 hl128_1
                    have HR128_5 := Aside0.mk hi128_5
                    have HC128_5 := Aside0.mk hl128_5
                    clear hi128_5 hl128_5
                    replace p128 := eq_true p128
                    replace q128 := eq_true q128
                    go_wp2_with (first | ((with_reducible refine gate_dst (N := 4) rfl ?_); (try (refine gate_guard (by rfl) ?_; dsimp only)); refine box_event ?hg (N := 4) ?hd (cs := #[.int .i64 0, .slice none 0 0, .int .i64 0, .int .i64 0, .int .i64 0, .slice none 0 0, .int .i64 0, .int .i64 0, .int .i64 0, .int .i64 0]) (t := 38) ?hr ?_; (case hd => rfl); (case hg => rfl); (case hr => first | (go_simp; done) | (go_simp; rfl)); intro gb129 hg w14 hbox hb; have n0_ := Aside0.mk (blk_below (g := gb127) (o := .cells #[.slice (some ad128) l0_0.length c0_0] 24 (0, 0)) (by (with_reducible repeat (first | refine blk_drewN ?_ _ | refine blk_drew ?_ | refine blk_alloc ?_ _)); exact BK127.out) hb); have n1_ := Aside0.mk (below_step (by repeat (first | (with_reducible first | exact HB.out | apply below_alloc | apply pw_below_drewN | apply below_drew1 | refine below_set ?_ GE127.out) | exact HB.out)) hb); have n2_ := Aside0.mk (hbox); have n3_ := Aside0.mk ((by rw [hg]; exact (below_size (by repeat (first | (with_reducible first | exact HB.out | apply below_alloc | apply pw_below_drewN | apply below_drew1 | refine below_set ?_ GE127.out) | exact HB.out))) : w.heap.size ≤ gb129)); have n4_ := Aside0.mk ((by rw [hg]; exact (below_size (by repeat (first | (with_reducible first | exact HB.out | apply below_alloc | apply pw_below_drewN | apply below_drew1 | refine below_set ?_ GE127.out) | exact HB.out))) : w.heap.size ≤ gb129)); have n5_ := Aside0.mk ((by rw [hg]; exact Nat.ne_of_lt (blk_lt (g := gb127) (o := .cells #[.slice (some ad128) l0_0.length c0_0] 24 (0, 0)) (by (with_reducible repeat (first | refine blk_drewN ?_ _ | refine blk_drew ?_ | refine blk_alloc ?_ _)); exact BK127.out)) : gb127 ≠ gb129)); have n6_ := Aside0.mk ((by rw [hg]; exact Nat.ne_of_gt (blk_lt (g := gb127) (o := .cells #[.slice (some ad128) l0_0.length c0_0] 24 (0, 0)) (by (with_reducible repeat (first | refine blk_drewN ?_ _ | refine blk_drew ?_ | refine blk_alloc ?_ _)); exact BK127.out)) : gb129 ≠ gb127)); clear BK127; clear HB; have BK127 := n0_; have HB := n1_; have BK129 := n2_; have GW129 := n3_; have GE129 := n4_; have NB127_129 := n5_; have NB129_127 := n6_; clear n0_ n1_ n2_ n3_ n4_ n5_ n6_; clear hb hbox hg; have hnb15 := NB129_127.out; have hnc15 := NB127_129.out; have hcz16_0 : w14.cell? ⟨gb129, 0, none⟩ = some (.int .i64 0) := (blk_cell BK129.out 0).trans rfl; have hcz16_1 : w14.cell? ⟨gb129, 1, none⟩ = some (.slice none 0 0) := (blk_cell BK129.out 1).trans rfl; have hcz16_2 : w14.cell? ⟨gb129, 2, none⟩ = some (.int .i64 0) := (blk_cell BK129.out 2).trans rfl; have hcz16_3 : w14.cell? ⟨gb129, 3, none⟩ = some (.int .i64 0) := (blk_cell BK129.out 3).trans rfl; have hcz16_4 : w14.cell? ⟨gb129, 4, none⟩ = some (.int .i64 0) := (blk_cell BK129.out 4).trans rfl; have hcz16_5 : w14.cell? ⟨gb129, 5, none⟩ = some (.slice none 0 0) := (blk_cell BK129.out 5).trans rfl; have hcz16_6 : w14.cell? ⟨gb129, 6, none⟩ = some (.int .i64 0) := (blk_cell BK129.out 6).trans rfl; have hcz16_7 : w14.cell? ⟨gb129, 7, none⟩ = some (.int .i64 0) := (blk_cell BK129.out 7).trans rfl; have hcz16_8 : w14.cell? ⟨gb129, 8, none⟩ = some (.int .i64 0) := (blk_cell BK129.out 8).trans rfl; have hcz16_9 : w14.cell? ⟨gb129, 9, none⟩ = some (.int .i64 0) := (blk_cell BK129.out 9).trans rfl; have hfz16_0 := blk_frozen BK129.out 0; have hfz16_1 := blk_frozen BK129.out 1; have hfz16_2 := blk_frozen BK129.out 2; have hfz16_3 := blk_frozen BK129.out 3; have hfz16_4 := blk_frozen BK129.out 4; have hfz16_5 := blk_frozen BK129.out 5; have hfz16_6 := blk_frozen BK129.out 6; have hfz16_7 := blk_frozen BK129.out 7; have hfz16_8 := blk_frozen BK129.out 8; have hfz16_9 := blk_frozen BK129.out 9; have hcz17_0 : w14.cell? ⟨gb127, 0, none⟩ = some (.slice (some ad128) l0_0.length c0_0) := (blk_cell BK127.out 0).trans rfl; have hfz17_0 := blk_frozen BK127.out 0) | ((with_reducible refine gate_callee (f := 31) rfl ?_); refine goesL_ (some 25) rfl rfl Try.func31 (by kernel_rfl) rfl #[.agg #[.slice (some ad128) l0_0.length c0_0], .agg #[.int .i64 ((rd_T38 l0_0 x19_2).f0), .slice A128_1 ((rd_T38 l0_0 x19_2).f1).length c128_1, .int .i64 ((rd_T38 l0_0 x19_2).f2), .int .i64 ((rd_T38 l0_0 x19_2).f3.f0), .int .i64 ((rd_T38 l0_0 x19_2).f3.f1), .slice A128_5 ((rd_T38 l0_0 x19_2).f3.f2).length c128_5, .int .i64 ((rd_T38 l0_0 x19_2).f4), .int .i64 ((rd_T38 l0_0 x19_2).f5.f0), .int .i64 ((rd_T38 l0_0 x19_2).f5.f1), .int .i64 ((rd_T38 l0_0 x19_2).f5.f2)]] rfl (by (try simp only [List.map_toArray, List.map_cons, List.map_nil]); first | done | rfl | (simp only [List.length_drop, List.length_take]; rfl)) ?_; (with_reducible refine (job_node.calls k2 _ _ l0_0 ((rd_T38 l0_0 x19_2).f0) _ _ ((rd_T38 l0_0 x19_2).f1) ((rd_T38 l0_0 x19_2).f2) ((rd_T38 l0_0 x19_2).f3.f0) ((rd_T38 l0_0 x19_2).f3.f1) _ _ ((rd_T38 l0_0 x19_2).f3.f2) ((rd_T38 l0_0 x19_2).f4) ((rd_T38 l0_0 x19_2).f5.f0) ((rd_T38 l0_0 x19_2).f5.f1) ((rd_T38 l0_0 x19_2).f5.f2) t130 _ ?side1 ?side2 ?side3 ?side4 ?side5 ?side6 A12.out).mono ?_); (case side1 => exact Kd.C_below HR0_0.out (by repeat (first | (with_reducible first | exact HB.out | apply below_alloc | apply pw_below_drewN | apply below_drew1 | refine below_set ?_ GE127.out | refine below_set ?_ GE129.out) | exact HB.out))); (case side2 => exact HC0_0.out); (case side3 => exact Kd.C_below HR128_1.out (by repeat (first | (with_reducible first | exact HB.out | apply below_alloc | apply pw_below_drewN | apply below_drew1 | refine below_set ?_ GE127.out | refine below_set ?_ GE129.out) | exact HB.out))); (case side4 => exact HC128_1.out); (case side5 => exact Kd.C_below HR128_5.out (by repeat (first | (with_reducible first | exact HB.out | apply below_alloc | apply pw_below_drewN | apply below_drew1 | refine below_set ?_ GE127.out | refine below_set ?_ GE129.out) | exact HB.out))); (case side6 => exact HC128_5.out); rintro e w18 ⟨rfl, hb⟩; refine ⟨_, rfl, ?_⟩; have n0_ := Aside0.mk (blk_below (g := gb127) (o := .cells #[.slice (some ad128) l0_0.length c0_0] 24 (0, 0)) (by (with_reducible repeat (first | refine blk_drewN ?_ _ | refine blk_drew ?_ | refine blk_alloc ?_ _)); refine blk_far ?_ NB127_129.out _; (with_reducible repeat (first | refine blk_drewN ?_ _ | refine blk_drew ?_ | refine blk_alloc ?_ _)); refine blk_far ?_ NB127_129.out _; (with_reducible repeat (first | refine blk_drewN ?_ _ | refine blk_drew ?_ | refine blk_alloc ?_ _)); refine blk_far ?_ NB127_129.out _; (with_reducible repeat (first | refine blk_drewN ?_ _ | refine blk_drew ?_ | refine blk_alloc ?_ _)); refine blk_far ?_ NB127_129.out _; (with_reducible repeat (first | refine blk_drewN ?_ _ | refine blk_drew ?_ | refine blk_alloc ?_ _)); refine blk_far ?_ NB127_129.out _; (with_reducible repeat (first | refine blk_drewN ?_ _ | refine blk_drew ?_ | refine blk_alloc ?_ _)); refine blk_far ?_ NB127_129.out _; (with_reducible repeat (first | refine blk_drewN ?_ _ | refine blk_drew ?_ | refine blk_alloc ?_ _)); refine blk_far ?_ NB127_129.out _; (with_reducible repeat (first | refine blk_drewN ?_ _ | refine blk_drew ?_ | refine blk_alloc ?_ _)); refine blk_far ?_ NB127_129.out _; (with_reducible repeat (first | refine blk_drewN ?_ _ | refine blk_drew ?_ | refine blk_alloc ?_ _)); refine blk_far ?_ NB127_129.out _; (with_reducible repeat (first | refine blk_drewN ?_ _ | refine blk_drew ?_ | refine blk_alloc ?_ _)); refine blk_far ?_ NB127_129.out _; (with_reducible repeat (first | refine blk_drewN ?_ _ | refine blk_drew ?_ | refine blk_alloc ?_ _)); exact BK127.out) hb); have n1_ := Aside0.mk (blk_below (g := gb129) (o := .cells #[.int .i64 ((rd_T38 l0_0 x19_2).f0), .slice A128_1 ((rd_T38 l0_0 x19_2).f1).length c128_1, .int .i64 ((rd_T38 l0_0 x19_2).f2), .int .i64 ((rd_T38 l0_0 x19_2).f3.f0), .int .i64 ((rd_T38 l0_0 x19_2).f3.f1), .slice A128_5 ((rd_T38 l0_0 x19_2).f3.f2).length c128_5, .int .i64 ((rd_T38 l0_0 x19_2).f4), .int .i64 ((rd_T38 l0_0 x19_2).f5.f0), .int .i64 ((rd_T38 l0_0 x19_2).f5.f1), .int .i64 ((rd_T38 l0_0 x19_2).f5.f2)] 38 (0, 0)) (by (with_reducible repeat (first | refine blk_drewN ?_ _ | refine blk_drew ?_ | refine blk_alloc ?_ _)); refine blk_put (cs := #[.int .i64 ((rd_T38 l0_0 x19_2).f0), .slice A128_1 ((rd_T38 l0_0 x19_2).f1).length c128_1, .int .i64 ((rd_T38 l0_0 x19_2).f2), .int .i64 ((rd_T38 l0_0 x19_2).f3.f0), .int .i64 ((rd_T38 l0_0 x19_2).f3.f1), .slice A128_5 ((rd_T38 l0_0 x19_2).f3.f2).length c128_5, .int .i64 ((rd_T38 l0_0 x19_2).f4), .int .i64 ((rd_T38 l0_0 x19_2).f5.f0), .int .i64 ((rd_T38 l0_0 x19_2).f5.f1), .int .i64 0]) ?_ 9 _ rfl; (with_reducible repeat (first | refine blk_drewN ?_ _ | refine blk_drew ?_ | refine blk_alloc ?_ _)); refine blk_put (cs := #[.int .i64 ((rd_T38 l0_0 x19_2).f0), .slice A128_1 ((rd_T38 l0_0 x19_2).f1).length c128_1, .int .i64 ((rd_T38 l0_0 x19_2).f2), .int .i64 ((rd_T38 l0_0 x19_2).f3.f0), .int .i64 ((rd_T38 l0_0 x19_2).f3.f1), .slice A128_5 ((rd_T38 l0_0 x19_2).f3.f2).length c128_5, .int .i64 ((rd_T38 l0_0 x19_2).f4), .int .i64 ((rd_T38 l0_0 x19_2).f5.f0), .int .i64 0, .int .i64 0]) ?_ 8 _ rfl; (with_reducible repeat (first | refine blk_drewN ?_ _ | refine blk_drew ?_ | refine blk_alloc ?_ _)); refine blk_put (cs := #[.int .i64 ((rd_T38 l0_0 x19_2).f0), .slice A128_1 ((rd_T38 l0_0 x19_2).f1).length c128_1, .int .i64 ((rd_T38 l0_0 x19_2).f2), .int .i64 ((rd_T38 l0_0 x19_2).f3.f0), .int .i64 ((rd_T38 l0_0 x19_2).f3.f1), .slice A128_5 ((rd_T38 l0_0 x19_2).f3.f2).length c128_5, .int .i64 ((rd_T38 l0_0 x19_2).f4), .int .i64 0, .int .i64 0, .int .i64 0]) ?_ 7 _ rfl; (with_reducible repeat (first | refine blk_drewN ?_ _ | refine blk_drew ?_ | refine blk_alloc ?_ _)); refine blk_put (cs := #[.int .i64 ((rd_T38 l0_0 x19_2).f0), .slice A128_1 ((rd_T38 l0_0 x19_2).f1).length c128_1, .int .i64 ((rd_T38 l0_0 x19_2).f2), .int .i64 ((rd_T38 l0_0 x19_2).f3.f0), .int .i64 ((rd_T38 l0_0 x19_2).f3.f1), .slice A128_5 ((rd_T38 l0_0 x19_2).f3.f2).length c128_5, .int .i64 0, .int .i64 0, .int .i64 0, .int .i64 0]) ?_ 6 _ rfl; (with_reducible repeat (first | refine blk_drewN ?_ _ | refine blk_drew ?_ | refine blk_alloc ?_ _)); refine blk_put (cs := #[.int .i64 ((rd_T38 l0_0 x19_2).f0), .slice A128_1 ((rd_T38 l0_0 x19_2).f1).length c128_1, .int .i64 ((rd_T38 l0_0 x19_2).f2), .int .i64 ((rd_T38 l0_0 x19_2).f3.f0), .int .i64 ((rd_T38 l0_0 x19_2).f3.f1), .slice none 0 0, .int .i64 0, .int .i64 0, .int .i64 0, .int .i64 0]) ?_ 5 _ rfl; (with_reducible repeat (first | refine blk_drewN ?_ _ | refine blk_drew ?_ | refine blk_alloc ?_ _)); refine blk_put (cs := #[.int .i64 ((rd_T38 l0_0 x19_2).f0), .slice A128_1 ((rd_T38 l0_0 x19_2).f1).length c128_1, .int .i64 ((rd_T38 l0_0 x19_2).f2), .int .i64 ((rd_T38 l0_0 x19_2).f3.f0), .int .i64 0, .slice none 0 0, .int .i64 0, .int .i64 0, .int .i64 0, .int .i64 0]) ?_ 4 _ rfl; (with_reducible repeat (first | refine blk_drewN ?_ _ | refine blk_drew ?_ | refine blk_alloc ?_ _)); refine blk_put (cs := #[.int .i64 ((rd_T38 l0_0 x19_2).f0), .slice A128_1 ((rd_T38 l0_0 x19_2).f1).length c128_1, .int .i64 ((rd_T38 l0_0 x19_2).f2), .int .i64 0, .int .i64 0, .slice none 0 0, .int .i64 0, .int .i64 0, .int .i64 0, .int .i64 0]) ?_ 3 _ rfl; (with_reducible repeat (first | refine blk_drewN ?_ _ | refine blk_drew ?_ | refine blk_alloc ?_ _)); refine blk_put (cs := #[.int .i64 ((rd_T38 l0_0 x19_2).f0), .slice A128_1 ((rd_T38 l0_0 x19_2).f1).length c128_1, .int .i64 0, .int .i64 0, .int .i64 0, .slice none 0 0, .int .i64 0, .int .i64 0, .int .i64 0, .int .i64 0]) ?_ 2 _ rfl; (with_reducible repeat (first | refine blk_drewN ?_ _ | refine blk_drew ?_ | refine blk_alloc ?_ _)); refine blk_put (cs := #[.int .i64 ((rd_T38 l0_0 x19_2).f0), .slice none 0 0, .int .i64 0, .int .i64 0, .int .i64 0, .slice none 0 0, .int .i64 0, .int .i64 0, .int .i64 0, .int .i64 0]) ?_ 1 _ rfl; (with_reducible repeat (first | refine blk_drewN ?_ _ | refine blk_drew ?_ | refine blk_alloc ?_ _)); refine blk_put (cs := #[.int .i64 0, .slice none 0 0, .int .i64 0, .int .i64 0, .int .i64 0, .slice none 0 0, .int .i64 0, .int .i64 0, .int .i64 0, .int .i64 0]) ?_ 0 _ rfl; (with_reducible repeat (first | refine blk_drewN ?_ _ | refine blk_drew ?_ | refine blk_alloc ?_ _)); exact BK129.out) hb); have n2_ := Aside0.mk (below_step (by repeat (first | (with_reducible first | exact HB.out | apply below_alloc | apply pw_below_drewN | apply below_drew1 | refine below_set ?_ GE127.out | refine below_set ?_ GE129.out) | exact HB.out)) hb); clear BK127; clear BK129; clear HB; have BK127 := n0_; have BK129 := n1_; have HB := n2_; clear n0_ n1_ n2_; (try clear hb); (try clear hb2); (try clear hk); (try clear hi)))
                    go_roundg k2
                    case measure => have := HJ1.out; have := HK2.out; omega
                    case rel => exact ⟨(wrap64 (x19_2 + 1)), (by first | rfl | (simp; done) | (simp [*]; done)), H', ⟨by have := HJ1.out; have := HK2.out; omega⟩, ⟨by (with_reducible repeat (first | refine blk_drewN ?_ _ | refine blk_drew ?_ | refine blk_alloc ?_ _)); exact BK127.out⟩, ⟨by repeat (first | (with_reducible first | exact HB.out | apply below_alloc | apply pw_below_drewN | apply below_drew1 | refine below_set ?_ GE127.out | refine below_set ?_ GE129.out) | exact HB.out)⟩⟩
                  · rw [if_neg c13] at H
                    have c13b0 : (t130 == 0) = false := beq_eq_false_iff_ne.mpr c13
                    have c13b1 : (t130 != 0) = true := bne_iff_ne.mpr c13
                    obtain rfl := Option.some.inj H
                    have p128 : 0 ≤ (x19_2 : Int) := of_decide_eq_true (by first | (with_reducible assumption) | assumption)
                    have q128 : x19_2 < (l0_0.length : Int) := of_decide_eq_true (by first | (with_reducible assumption) | assumption)
                    obtain ⟨ad128, A128_1, c128_1, A128_5, c128_5, e128, hx128_0, hx128_1, hx128_2, hx128_3, hx128_4, hx128_5, hx128_6, hx128_7, hx128_8, hx128_9, hl128_1, hi128_1, hl128_5, hi128_5⟩ := at_T38 HR0_0.out x19_2 p128 q128
                    cases e128
                    replace hx128_0 := (HB.out.cell (World.block_lt_of_cell? w _ hx128_0)).trans hx128_0
                    replace hx128_1 := (HB.out.cell (World.block_lt_of_cell? w _ hx128_1)).trans hx128_1
                    replace hx128_2 := (HB.out.cell (World.block_lt_of_cell? w _ hx128_2)).trans hx128_2
                    replace hx128_3 := (HB.out.cell (World.block_lt_of_cell? w _ hx128_3)).trans hx128_3
                    replace hx128_4 := (HB.out.cell (World.block_lt_of_cell? w _ hx128_4)).trans hx128_4
                    replace hx128_5 := (HB.out.cell (World.block_lt_of_cell? w _ hx128_5)).trans hx128_5
                    replace hx128_6 := (HB.out.cell (World.block_lt_of_cell? w _ hx128_6)).trans hx128_6
                    replace hx128_7 := (HB.out.cell (World.block_lt_of_cell? w _ hx128_7)).trans hx128_7
                    replace hx128_8 := (HB.out.cell (World.block_lt_of_cell? w _ hx128_8)).trans hx128_8
                    replace hx128_9 := (HB.out.cell (World.block_lt_of_cell? w _ hx128_9)).trans hx128_9
                    have HR128_1 := Aside0.mk hi128_1
                    have HC128_1 := Aside0.mk hl128_1
                    clear hi128_1 hl128_1
                    have HR128_5 := Aside0.mk hi128_5
                    have HC128_5 := Aside0.mk hl128_5
                    clear hi128_5 hl128_5
                    replace p128 := eq_true p128
                    replace q128 := eq_true q128
                    go_wp2_with (first | ((with_reducible refine gate_dst (N := 4) rfl ?_); (try (refine gate_guard (by rfl) ?_; dsimp only)); refine box_event ?hg (N := 4) ?hd (cs := #[.int .i64 0, .slice none 0 0, .int .i64 0, .int .i64 0, .int .i64 0, .slice none 0 0, .int .i64 0, .int .i64 0, .int .i64 0, .int .i64 0]) (t := 38) ?hr ?_; (case hd => rfl); (case hg => rfl); (case hr => first | (go_simp; done) | (go_simp; rfl)); intro gb129 hg w19 hbox hb; have n0_ := Aside0.mk (blk_below (g := gb127) (o := .cells #[.slice (some ad128) l0_0.length c0_0] 24 (0, 0)) (by (with_reducible repeat (first | refine blk_drewN ?_ _ | refine blk_drew ?_ | refine blk_alloc ?_ _)); exact BK127.out) hb); have n1_ := Aside0.mk (below_step (by repeat (first | (with_reducible first | exact HB.out | apply below_alloc | apply pw_below_drewN | apply below_drew1 | refine below_set ?_ GE127.out) | exact HB.out)) hb); have n2_ := Aside0.mk (hbox); have n3_ := Aside0.mk ((by rw [hg]; exact (below_size (by repeat (first | (with_reducible first | exact HB.out | apply below_alloc | apply pw_below_drewN | apply below_drew1 | refine below_set ?_ GE127.out) | exact HB.out))) : w.heap.size ≤ gb129)); have n4_ := Aside0.mk ((by rw [hg]; exact (below_size (by repeat (first | (with_reducible first | exact HB.out | apply below_alloc | apply pw_below_drewN | apply below_drew1 | refine below_set ?_ GE127.out) | exact HB.out))) : w.heap.size ≤ gb129)); have n5_ := Aside0.mk ((by rw [hg]; exact Nat.ne_of_lt (blk_lt (g := gb127) (o := .cells #[.slice (some ad128) l0_0.length c0_0] 24 (0, 0)) (by (with_reducible repeat (first | refine blk_drewN ?_ _ | refine blk_drew ?_ | refine blk_alloc ?_ _)); exact BK127.out)) : gb127 ≠ gb129)); have n6_ := Aside0.mk ((by rw [hg]; exact Nat.ne_of_gt (blk_lt (g := gb127) (o := .cells #[.slice (some ad128) l0_0.length c0_0] 24 (0, 0)) (by (with_reducible repeat (first | refine blk_drewN ?_ _ | refine blk_drew ?_ | refine blk_alloc ?_ _)); exact BK127.out)) : gb129 ≠ gb127)); clear BK127; clear HB; have BK127 := n0_; have HB := n1_; have BK129 := n2_; have GW129 := n3_; have GE129 := n4_; have NB127_129 := n5_; have NB129_127 := n6_; clear n0_ n1_ n2_ n3_ n4_ n5_ n6_; clear hb hbox hg; have hnb20 := NB129_127.out; have hnc20 := NB127_129.out; have hcz21_0 : w19.cell? ⟨gb129, 0, none⟩ = some (.int .i64 0) := (blk_cell BK129.out 0).trans rfl; have hcz21_1 : w19.cell? ⟨gb129, 1, none⟩ = some (.slice none 0 0) := (blk_cell BK129.out 1).trans rfl; have hcz21_2 : w19.cell? ⟨gb129, 2, none⟩ = some (.int .i64 0) := (blk_cell BK129.out 2).trans rfl; have hcz21_3 : w19.cell? ⟨gb129, 3, none⟩ = some (.int .i64 0) := (blk_cell BK129.out 3).trans rfl; have hcz21_4 : w19.cell? ⟨gb129, 4, none⟩ = some (.int .i64 0) := (blk_cell BK129.out 4).trans rfl; have hcz21_5 : w19.cell? ⟨gb129, 5, none⟩ = some (.slice none 0 0) := (blk_cell BK129.out 5).trans rfl; have hcz21_6 : w19.cell? ⟨gb129, 6, none⟩ = some (.int .i64 0) := (blk_cell BK129.out 6).trans rfl; have hcz21_7 : w19.cell? ⟨gb129, 7, none⟩ = some (.int .i64 0) := (blk_cell BK129.out 7).trans rfl; have hcz21_8 : w19.cell? ⟨gb129, 8, none⟩ = some (.int .i64 0) := (blk_cell BK129.out 8).trans rfl; have hcz21_9 : w19.cell? ⟨gb129, 9, none⟩ = some (.int .i64 0) := (blk_cell BK129.out 9).trans rfl; have hfz21_0 := blk_frozen BK129.out 0; have hfz21_1 := blk_frozen BK129.out 1; have hfz21_2 := blk_frozen BK129.out 2; have hfz21_3 := blk_frozen BK129.out 3; have hfz21_4 := blk_frozen BK129.out 4; have hfz21_5 := blk_frozen BK129.out 5; have hfz21_6 := blk_frozen BK129.out 6; have hfz21_7 := blk_frozen BK129.out 7; have hfz21_8 := blk_frozen BK129.out 8; have hfz21_9 := blk_frozen BK129.out 9; have hcz22_0 : w19.cell? ⟨gb127, 0, none⟩ = some (.slice (some ad128) l0_0.length c0_0) := (blk_cell BK127.out 0).trans rfl; have hfz22_0 := blk_frozen BK127.out 0) | ((with_reducible refine gate_callee (f := 31) rfl ?_); refine goesL_ (some 25) rfl rfl Try.func31 (by kernel_rfl) rfl #[.agg #[.slice (some ad128) l0_0.length c0_0], .agg #[.int .i64 ((rd_T38 l0_0 x19_2).f0), .slice A128_1 ((rd_T38 l0_0 x19_2).f1).length c128_1, .int .i64 ((rd_T38 l0_0 x19_2).f2), .int .i64 ((rd_T38 l0_0 x19_2).f3.f0), .int .i64 ((rd_T38 l0_0 x19_2).f3.f1), .slice A128_5 ((rd_T38 l0_0 x19_2).f3.f2).length c128_5, .int .i64 ((rd_T38 l0_0 x19_2).f4), .int .i64 ((rd_T38 l0_0 x19_2).f5.f0), .int .i64 ((rd_T38 l0_0 x19_2).f5.f1), .int .i64 ((rd_T38 l0_0 x19_2).f5.f2)]] rfl (by (try simp only [List.map_toArray, List.map_cons, List.map_nil]); first | done | rfl | (simp only [List.length_drop, List.length_take]; rfl)) ?_; (with_reducible refine (job_node.calls k2 _ _ l0_0 ((rd_T38 l0_0 x19_2).f0) _ _ ((rd_T38 l0_0 x19_2).f1) ((rd_T38 l0_0 x19_2).f2) ((rd_T38 l0_0 x19_2).f3.f0) ((rd_T38 l0_0 x19_2).f3.f1) _ _ ((rd_T38 l0_0 x19_2).f3.f2) ((rd_T38 l0_0 x19_2).f4) ((rd_T38 l0_0 x19_2).f5.f0) ((rd_T38 l0_0 x19_2).f5.f1) ((rd_T38 l0_0 x19_2).f5.f2) t130 _ ?side1 ?side2 ?side3 ?side4 ?side5 ?side6 A12.out).mono ?_); (case side1 => exact Kd.C_below HR0_0.out (by repeat (first | (with_reducible first | exact HB.out | apply below_alloc | apply pw_below_drewN | apply below_drew1 | refine below_set ?_ GE127.out | refine below_set ?_ GE129.out) | exact HB.out))); (case side2 => exact HC0_0.out); (case side3 => exact Kd.C_below HR128_1.out (by repeat (first | (with_reducible first | exact HB.out | apply below_alloc | apply pw_below_drewN | apply below_drew1 | refine below_set ?_ GE127.out | refine below_set ?_ GE129.out) | exact HB.out))); (case side4 => exact HC128_1.out); (case side5 => exact Kd.C_below HR128_5.out (by repeat (first | (with_reducible first | exact HB.out | apply below_alloc | apply pw_below_drewN | apply below_drew1 | refine below_set ?_ GE127.out | refine below_set ?_ GE129.out) | exact HB.out))); (case side6 => exact HC128_5.out); rintro e w23 ⟨rfl, hb⟩; refine ⟨_, rfl, ?_⟩; have n0_ := Aside0.mk (blk_below (g := gb127) (o := .cells #[.slice (some ad128) l0_0.length c0_0] 24 (0, 0)) (by (with_reducible repeat (first | refine blk_drewN ?_ _ | refine blk_drew ?_ | refine blk_alloc ?_ _)); refine blk_far ?_ NB127_129.out _; (with_reducible repeat (first | refine blk_drewN ?_ _ | refine blk_drew ?_ | refine blk_alloc ?_ _)); refine blk_far ?_ NB127_129.out _; (with_reducible repeat (first | refine blk_drewN ?_ _ | refine blk_drew ?_ | refine blk_alloc ?_ _)); refine blk_far ?_ NB127_129.out _; (with_reducible repeat (first | refine blk_drewN ?_ _ | refine blk_drew ?_ | refine blk_alloc ?_ _)); refine blk_far ?_ NB127_129.out _; (with_reducible repeat (first | refine blk_drewN ?_ _ | refine blk_drew ?_ | refine blk_alloc ?_ _)); refine blk_far ?_ NB127_129.out _; (with_reducible repeat (first | refine blk_drewN ?_ _ | refine blk_drew ?_ | refine blk_alloc ?_ _)); refine blk_far ?_ NB127_129.out _; (with_reducible repeat (first | refine blk_drewN ?_ _ | refine blk_drew ?_ | refine blk_alloc ?_ _)); refine blk_far ?_ NB127_129.out _; (with_reducible repeat (first | refine blk_drewN ?_ _ | refine blk_drew ?_ | refine blk_alloc ?_ _)); refine blk_far ?_ NB127_129.out _; (with_reducible repeat (first | refine blk_drewN ?_ _ | refine blk_drew ?_ | refine blk_alloc ?_ _)); refine blk_far ?_ NB127_129.out _; (with_reducible repeat (first | refine blk_drewN ?_ _ | refine blk_drew ?_ | refine blk_alloc ?_ _)); refine blk_far ?_ NB127_129.out _; (with_reducible repeat (first | refine blk_drewN ?_ _ | refine blk_drew ?_ | refine blk_alloc ?_ _)); exact BK127.out) hb); have n1_ := Aside0.mk (blk_below (g := gb129) (o := .cells #[.int .i64 ((rd_T38 l0_0 x19_2).f0), .slice A128_1 ((rd_T38 l0_0 x19_2).f1).length c128_1, .int .i64 ((rd_T38 l0_0 x19_2).f2), .int .i64 ((rd_T38 l0_0 x19_2).f3.f0), .int .i64 ((rd_T38 l0_0 x19_2).f3.f1), .slice A128_5 ((rd_T38 l0_0 x19_2).f3.f2).length c128_5, .int .i64 ((rd_T38 l0_0 x19_2).f4), .int .i64 ((rd_T38 l0_0 x19_2).f5.f0), .int .i64 ((rd_T38 l0_0 x19_2).f5.f1), .int .i64 ((rd_T38 l0_0 x19_2).f5.f2)] 38 (0, 0)) (by (with_reducible repeat (first | refine blk_drewN ?_ _ | refine blk_drew ?_ | refine blk_alloc ?_ _)); refine blk_put (cs := #[.int .i64 ((rd_T38 l0_0 x19_2).f0), .slice A128_1 ((rd_T38 l0_0 x19_2).f1).length c128_1, .int .i64 ((rd_T38 l0_0 x19_2).f2), .int .i64 ((rd_T38 l0_0 x19_2).f3.f0), .int .i64 ((rd_T38 l0_0 x19_2).f3.f1), .slice A128_5 ((rd_T38 l0_0 x19_2).f3.f2).length c128_5, .int .i64 ((rd_T38 l0_0 x19_2).f4), .int .i64 ((rd_T38 l0_0 x19_2).f5.f0), .int .i64 ((rd_T38 l0_0 x19_2).f5.f1), .int .i64 0]) ?_ 9 _ rfl; (with_reducible repeat (first | refine blk_drewN ?_ _ | refine blk_drew ?_ | refine blk_alloc ?_ _)); refine blk_put (cs := #[.int .i64 ((rd_T38 l0_0 x19_2).f0), .slice A128_1 ((rd_T38 l0_0 x19_2).f1).length c128_1, .int .i64 ((rd_T38 l0_0 x19_2).f2), .int .i64 ((rd_T38 l0_0 x19_2).f3.f0), .int .i64 ((rd_T38 l0_0 x19_2).f3.f1), .slice A128_5 ((rd_T38 l0_0 x19_2).f3.f2).length c128_5, .int .i64 ((rd_T38 l0_0 x19_2).f4), .int .i64 ((rd_T38 l0_0 x19_2).f5.f0), .int .i64 0, .int .i64 0]) ?_ 8 _ rfl; (with_reducible repeat (first | refine blk_drewN ?_ _ | refine blk_drew ?_ | refine blk_alloc ?_ _)); refine blk_put (cs := #[.int .i64 ((rd_T38 l0_0 x19_2).f0), .slice A128_1 ((rd_T38 l0_0 x19_2).f1).length c128_1, .int .i64 ((rd_T38 l0_0 x19_2).f2), .int .i64 ((rd_T38 l0_0 x19_2).f3.f0), .int .i64 ((rd_T38 l0_0 x19_2).f3.f1), .slice A128_5 ((rd_T38 l0_0 x19_2).f3.f2).length c128_5, .int .i64 ((rd_T38 l0_0 x19_2).f4), .int .i64 0, .int .i64 0, .int .i64 0]) ?_ 7 _ rfl; (with_reducible repeat (first | refine blk_drewN ?_ _ | refine blk_drew ?_ | refine blk_alloc ?_ _)); refine blk_put (cs := #[.int .i64 ((rd_T38 l0_0 x19_2).f0), .slice A128_1 ((rd_T38 l0_0 x19_2).f1).length c128_1, .int .i64 ((rd_T38 l0_0 x19_2).f2), .int .i64 ((rd_T38 l0_0 x19_2).f3.f0), .int .i64 ((rd_T38 l0_0 x19_2).f3.f1), .slice A128_5 ((rd_T38 l0_0 x19_2).f3.f2).length c128_5, .int .i64 0, .int .i64 0, .int .i64 0, .int .i64 0]) ?_ 6 _ rfl; (with_reducible repeat (first | refine blk_drewN ?_ _ | refine blk_drew ?_ | refine blk_alloc ?_ _)); refine blk_put (cs := #[.int .i64 ((rd_T38 l0_0 x19_2).f0), .slice A128_1 ((rd_T38 l0_0 x19_2).f1).length c128_1, .int .i64 ((rd_T38 l0_0 x19_2).f2), .int .i64 ((rd_T38 l0_0 x19_2).f3.f0), .int .i64 ((rd_T38 l0_0 x19_2).f3.f1), .slice none 0 0, .int .i64 0, .int .i64 0, .int .i64 0, .int .i64 0]) ?_ 5 _ rfl; (with_reducible repeat (first | refine blk_drewN ?_ _ | refine blk_drew ?_ | refine blk_alloc ?_ _)); refine blk_put (cs := #[.int .i64 ((rd_T38 l0_0 x19_2).f0), .slice A128_1 ((rd_T38 l0_0 x19_2).f1).length c128_1, .int .i64 ((rd_T38 l0_0 x19_2).f2), .int .i64 ((rd_T38 l0_0 x19_2).f3.f0), .int .i64 0, .slice none 0 0, .int .i64 0, .int .i64 0, .int .i64 0, .int .i64 0]) ?_ 4 _ rfl; (with_reducible repeat (first | refine blk_drewN ?_ _ | refine blk_drew ?_ | refine blk_alloc ?_ _)); refine blk_put (cs := #[.int .i64 ((rd_T38 l0_0 x19_2).f0), .slice A128_1 ((rd_T38 l0_0 x19_2).f1).length c128_1, .int .i64 ((rd_T38 l0_0 x19_2).f2), .int .i64 0, .int .i64 0, .slice none 0 0, .int .i64 0, .int .i64 0, .int .i64 0, .int .i64 0]) ?_ 3 _ rfl; (with_reducible repeat (first | refine blk_drewN ?_ _ | refine blk_drew ?_ | refine blk_alloc ?_ _)); refine blk_put (cs := #[.int .i64 ((rd_T38 l0_0 x19_2).f0), .slice A128_1 ((rd_T38 l0_0 x19_2).f1).length c128_1, .int .i64 0, .int .i64 0, .int .i64 0, .slice none 0 0, .int .i64 0, .int .i64 0, .int .i64 0, .int .i64 0]) ?_ 2 _ rfl; (with_reducible repeat (first | refine blk_drewN ?_ _ | refine blk_drew ?_ | refine blk_alloc ?_ _)); refine blk_put (cs := #[.int .i64 ((rd_T38 l0_0 x19_2).f0), .slice none 0 0, .int .i64 0, .int .i64 0, .int .i64 0, .slice none 0 0, .int .i64 0, .int .i64 0, .int .i64 0, .int .i64 0]) ?_ 1 _ rfl; (with_reducible repeat (first | refine blk_drewN ?_ _ | refine blk_drew ?_ | refine blk_alloc ?_ _)); refine blk_put (cs := #[.int .i64 0, .slice none 0 0, .int .i64 0, .int .i64 0, .int .i64 0, .slice none 0 0, .int .i64 0, .int .i64 0, .int .i64 0, .int .i64 0]) ?_ 0 _ rfl; (with_reducible repeat (first | refine blk_drewN ?_ _ | refine blk_drew ?_ | refine blk_alloc ?_ _)); exact BK129.out) hb); have n2_ := Aside0.mk (below_step (by repeat (first | (with_reducible first | exact HB.out | apply below_alloc | apply pw_below_drewN | apply below_drew1 | refine below_set ?_ GE127.out | refine below_set ?_ GE129.out) | exact HB.out)) hb); clear BK127; clear BK129; clear HB; have BK127 := n0_; have BK129 := n1_; have HB := n2_; clear n0_ n1_ n2_; (try clear hb); (try clear hb2); (try clear hk); (try clear hi)))
                    go_ret
                    exact ⟨by first | rfl | (simp [errW_none, errW_some] <;> rfl) | (simp [*, errW_none, errW_some] <;> rfl), by repeat (first | (with_reducible first | exact HB.out | apply below_alloc | apply pw_below_drewN | apply below_drew1 | refine below_set ?_ GE127.out | refine below_set ?_ GE129.out) | exact HB.out)⟩
                · rw [if_neg c11] at H
                  exact absurd H (by simp)
              · rw [if_neg c10] at H
                exact absurd H (by simp)
            · rw [if_neg c9] at H
              have c9b0 : decide (x19_2 < (l0_0.length : Int)) = false := decide_eq_false c9
              clear c9
              replace H := Option.bind_eq_some_iff.mp H
              obtain ⟨t131, A240, H⟩ := H
              replace H : (if (t131.length : Int) < (l0_0.length : Int) then (some 83) else (some 0)) = some r := H
              have A24 := Aside0.mk A240
              clear A240
              by_cases c25 : (t131.length : Int) < (l0_0.length : Int)
              · rw [if_pos c25] at H
                have c25b0 : decide ((t131.length : Int) < (l0_0.length : Int)) = true := decide_eq_true c25
                have c25b1 : decide (t131.length < l0_0.length) = true := decide_eq_true (Int.ofNat_lt.mp c25)
                clear c25
                obtain rfl := Option.some.inj H
                try go_wp2
                have n0_ := Aside0.mk (blk_drew BK127.out)
                have n1_ := Aside0.mk (below_drew1 HB.out)
                clear BK127
                clear HB
                have BK127 := n0_
                have HB := n1_
                clear n0_ n1_
                refine start_ (n := 7) (S := fun w' => w'.cell? ⟨gb127, 0, none⟩ = some (.slice A0_0 l0_0.length c0_0)) (ds := []) #[false, false, false, false, false, false, false] (by kernel_rfl) rfl rfl ((blk_cell BK127.out 0).trans rfl) (fun hHeld => ?_)
                generalize wr.drew = w26 at BK127 HB hHeld ⊢
                refine pure_ (i := 3) (N := some 33) (v := ?_) (a' := ?_) #[false, false, false, true, false, false, false] rfl rfl (by kernel_rfl) (fun _ _ _ h => h) (Or.inl ⟨by rfl, ?_⟩) ?_ ?_
                rotate_left
                · intro w'
                  go_simp
                  with_reducible rfl
                rotate_left
                · simp only [Act.put, List.setIfInBounds_toArray, List.set_cons_zero, List.set_cons_succ, i64_w, i32_w]
                  rfl
                refine take_ (i := 0) (N := some 30) (v := ?_) (a' := ?_) #[true, false, false, true, false, false, false] rfl rfl (by kernel_rfl) (fun _ _ _ h => h) (Or.inl ⟨by rfl, ?_⟩) hHeld ?_ ?_
                rotate_left
                · intro w' s0
                  go_simp
                  with_reducible rfl
                rotate_left
                · simp only [Act.put, List.setIfInBounds_toArray, List.set_cons_zero, List.set_cons_succ, i64_w, i32_w]
                  rfl
                refine take_ (i := 4) (N := some 34) (v := ?_) (a' := ?_) #[true, false, false, true, true, false, false] rfl rfl (by kernel_rfl) (fun _ _ _ h => h) (Or.inl ⟨by rfl, ?_⟩) hHeld ?_ ?_
                rotate_left
                · intro w' s0
                  go_simp
                  with_reducible rfl
                rotate_left
                · simp only [Act.put, List.setIfInBounds_toArray, List.set_cons_zero, List.set_cons_succ, i64_w, i32_w]
                  rfl
                refine pure_ (i := 5) (N := some 35) (v := ?_) (a' := ?_) #[true, false, false, true, true, true, false] rfl rfl (by kernel_rfl) (fun _ _ _ h => h) (Or.inl ⟨by rfl, ?_⟩) ?_ ?_
                rotate_left
                · intro w'
                  go_simp
                  with_reducible rfl
                rotate_left
                · simp only [Act.put, List.setIfInBounds_toArray, List.set_cons_zero, List.set_cons_succ, i64_w, i32_w]
                  rfl
                refine one_ (i := 1) (N := some 31) #[true, true, false, true, true, true, false] rfl rfl (by kernel_rfl) (by decide) (fun K hK => ?_)
                refine goes_ Try.func9 (by kernel_rfl) rfl #[.agg #[.slice A0_0 l0_0.length c0_0]] (by rfl) rfl rfl (by (try simp only [List.map_toArray, List.map_cons, List.map_nil]); first | done | rfl | (simp only [List.length_drop, List.length_take]; rfl)) ?_
                with_reducible refine (job_Order.calls _ _ l0_0 t131 _ ?side1 ?side2 A24.out).mono ?_
                (case side1 => repeat (first | exact (Kd.C_below HR0_0.out HB.out) | (with_reducible refine Kd.C_alloc ?_ _) | (with_reducible refine Kd.C_drewN ?_ _) | (with_reducible refine Kd.C_drew ?_)))
                (case side2 => exact HC0_0.out)
                rintro e w27 ⟨v132, rfl, ho0, hb⟩
                refine ⟨_, rfl, ?_⟩
                have n0_ := Aside0.mk (Kd.R_lower ho0 (below_size (by repeat (first | (with_reducible first | exact HB.out | apply below_alloc | apply pw_below_drewN | apply below_drew1 | refine below_set ?_ GE127.out) | exact HB.out))))
                have n1_ := Aside0.mk (blk_below (g := gb127) (o := .cells #[.slice A0_0 l0_0.length c0_0] 24 (0, 0)) (by (with_reducible repeat (first | refine blk_drewN ?_ _ | refine blk_drew ?_ | refine blk_alloc ?_ _)); exact BK127.out) hb)
                have n2_ := Aside0.mk (below_step (by repeat (first | (with_reducible first | exact HB.out | apply below_alloc | apply pw_below_drewN | apply below_drew1 | refine below_set ?_ GE127.out) | exact HB.out)) hb)
                clear BK127
                clear HB
                have HO133 := n0_
                have BK127 := n1_
                have HB := n2_
                clear n0_ n1_ n2_
                (try clear hb)
                (try clear hb2)
                (try clear hk)
                (try clear hi)
                (try clear ho0)
                obtain ⟨Ao28, co28, eo28⟩ := Kd.R_slice HO133.out
                (first | subst eo28 | (injection eo28 with f1_ f2_ f3_; have f4_ := f1_.symm; have f5_ := f3_.symm; clear f1_ f2_ f3_; subst f4_; subst f5_))
                refine hK.out _ _ ((blk_cell BK127.out 0).trans rfl) (fun hHeld => ?_)
                clear hK K
                refine norm_ (a' := ?_) ?_ ?_
                rotate_left
                · show Act.put _ (some 31) _ = _
                  simp only [Act.put, List.setIfInBounds_toArray, List.set_cons_zero, List.set_cons_succ, i64_w, i32_w]
                  rfl
                refine pure_ (i := 2) (N := some 32) (v := ?_) (a' := ?_) #[true, true, true, true, true, true, false] rfl rfl (by kernel_rfl) (fun _ _ _ h => h) (Or.inl ⟨by rfl, ?_⟩) ?_ ?_
                rotate_left
                · intro w'
                  go_simp
                  with_reducible rfl
                rotate_left
                · simp only [Act.put, List.setIfInBounds_toArray, List.set_cons_zero, List.set_cons_succ, i64_w, i32_w]
                  rfl
                refine pure_ (i := 6) (N := some 36) (v := ?_) (a' := ?_) #[true, true, true, true, true, true, true] rfl rfl (by kernel_rfl) (fun _ _ _ h => h) (Or.inl ⟨by rfl, ?_⟩) ?_ ?_
                rotate_left
                · intro w'
                  go_simp
                  with_reducible rfl
                rotate_left
                · simp only [Act.put, List.setIfInBounds_toArray, List.set_cons_zero, List.set_cons_succ, i64_w, i32_w]
                  rfl
                refine done_ (by kernel_rfl) ?_
                try go_wp2
                go_ret
                exact ⟨by first | rfl | (simp [errW_none, errW_some] <;> rfl) | (simp [*, errW_none, errW_some] <;> rfl), by repeat (first | (with_reducible first | exact HB.out | apply below_alloc | apply pw_below_drewN | apply below_drew1 | refine below_set ?_ GE127.out) | exact HB.out)⟩
              · rw [if_neg c25] at H
                have c25b0 : decide ((t131.length : Int) < (l0_0.length : Int)) = false := decide_eq_false c25
                have c25b1 : decide (t131.length < l0_0.length) = false := decide_eq_false (fun h => c25 (Int.ofNat_lt.mpr h))
                clear c25
                obtain rfl := Option.some.inj H
                try go_wp2
                have n0_ := Aside0.mk (blk_drew BK127.out)
                have n1_ := Aside0.mk (below_drew1 HB.out)
                clear BK127
                clear HB
                have BK127 := n0_
                have HB := n1_
                clear n0_ n1_
                refine start_ (n := 7) (S := fun w' => w'.cell? ⟨gb127, 0, none⟩ = some (.slice A0_0 l0_0.length c0_0)) (ds := []) #[false, false, false, false, false, false, false] (by kernel_rfl) rfl rfl ((blk_cell BK127.out 0).trans rfl) (fun hHeld => ?_)
                generalize wr.drew = w29 at BK127 HB hHeld ⊢
                refine pure_ (i := 3) (N := some 33) (v := ?_) (a' := ?_) #[false, false, false, true, false, false, false] rfl rfl (by kernel_rfl) (fun _ _ _ h => h) (Or.inl ⟨by rfl, ?_⟩) ?_ ?_
                rotate_left
                · intro w'
                  go_simp
                  with_reducible rfl
                rotate_left
                · simp only [Act.put, List.setIfInBounds_toArray, List.set_cons_zero, List.set_cons_succ, i64_w, i32_w]
                  rfl
                refine take_ (i := 0) (N := some 30) (v := ?_) (a' := ?_) #[true, false, false, true, false, false, false] rfl rfl (by kernel_rfl) (fun _ _ _ h => h) (Or.inl ⟨by rfl, ?_⟩) hHeld ?_ ?_
                rotate_left
                · intro w' s0
                  go_simp
                  with_reducible rfl
                rotate_left
                · simp only [Act.put, List.setIfInBounds_toArray, List.set_cons_zero, List.set_cons_succ, i64_w, i32_w]
                  rfl
                refine take_ (i := 4) (N := some 34) (v := ?_) (a' := ?_) #[true, false, false, true, true, false, false] rfl rfl (by kernel_rfl) (fun _ _ _ h => h) (Or.inl ⟨by rfl, ?_⟩) hHeld ?_ ?_
                rotate_left
                · intro w' s0
                  go_simp
                  with_reducible rfl
                rotate_left
                · simp only [Act.put, List.setIfInBounds_toArray, List.set_cons_zero, List.set_cons_succ, i64_w, i32_w]
                  rfl
                refine pure_ (i := 5) (N := some 35) (v := ?_) (a' := ?_) #[true, false, false, true, true, true, false] rfl rfl (by kernel_rfl) (fun _ _ _ h => h) (Or.inl ⟨by rfl, ?_⟩) ?_ ?_
                rotate_left
                · intro w'
                  go_simp
                  with_reducible rfl
                rotate_left
                · simp only [Act.put, List.setIfInBounds_toArray, List.set_cons_zero, List.set_cons_succ, i64_w, i32_w]
                  rfl
                refine one_ (i := 1) (N := some 31) #[true, true, false, true, true, true, false] rfl rfl (by kernel_rfl) (by decide) (fun K hK => ?_)
                refine goes_ Try.func9 (by kernel_rfl) rfl #[.agg #[.slice A0_0 l0_0.length c0_0]] (by rfl) rfl rfl (by (try simp only [List.map_toArray, List.map_cons, List.map_nil]); first | done | rfl | (simp only [List.length_drop, List.length_take]; rfl)) ?_
                with_reducible refine (job_Order.calls _ _ l0_0 t131 _ ?side1 ?side2 A24.out).mono ?_
                (case side1 => repeat (first | exact (Kd.C_below HR0_0.out HB.out) | (with_reducible refine Kd.C_alloc ?_ _) | (with_reducible refine Kd.C_drewN ?_ _) | (with_reducible refine Kd.C_drew ?_)))
                (case side2 => exact HC0_0.out)
                rintro e w30 ⟨v132, rfl, ho0, hb⟩
                refine ⟨_, rfl, ?_⟩
                have n0_ := Aside0.mk (Kd.R_lower ho0 (below_size (by repeat (first | (with_reducible first | exact HB.out | apply below_alloc | apply pw_below_drewN | apply below_drew1 | refine below_set ?_ GE127.out) | exact HB.out))))
                have n1_ := Aside0.mk (blk_below (g := gb127) (o := .cells #[.slice A0_0 l0_0.length c0_0] 24 (0, 0)) (by (with_reducible repeat (first | refine blk_drewN ?_ _ | refine blk_drew ?_ | refine blk_alloc ?_ _)); exact BK127.out) hb)
                have n2_ := Aside0.mk (below_step (by repeat (first | (with_reducible first | exact HB.out | apply below_alloc | apply pw_below_drewN | apply below_drew1 | refine below_set ?_ GE127.out) | exact HB.out)) hb)
                clear BK127
                clear HB
                have HO133 := n0_
                have BK127 := n1_
                have HB := n2_
                clear n0_ n1_ n2_
                (try clear hb)
                (try clear hb2)
                (try clear hk)
                (try clear hi)
                (try clear ho0)
                obtain ⟨Ao31, co31, eo31⟩ := Kd.R_slice HO133.out
                (first | subst eo31 | (injection eo31 with f1_ f2_ f3_; have f4_ := f1_.symm; have f5_ := f3_.symm; clear f1_ f2_ f3_; subst f4_; subst f5_))
                refine hK.out _ _ ((blk_cell BK127.out 0).trans rfl) (fun hHeld => ?_)
                clear hK K
                refine norm_ (a' := ?_) ?_ ?_
                rotate_left
                · show Act.put _ (some 31) _ = _
                  simp only [Act.put, List.setIfInBounds_toArray, List.set_cons_zero, List.set_cons_succ, i64_w, i32_w]
                  rfl
                refine pure_ (i := 2) (N := some 32) (v := ?_) (a' := ?_) #[true, true, true, true, true, true, false] rfl rfl (by kernel_rfl) (fun _ _ _ h => h) (Or.inl ⟨by rfl, ?_⟩) ?_ ?_
                rotate_left
                · intro w'
                  go_simp
                  with_reducible rfl
                rotate_left
                · simp only [Act.put, List.setIfInBounds_toArray, List.set_cons_zero, List.set_cons_succ, i64_w, i32_w]
                  rfl
                refine pure_ (i := 6) (N := some 36) (v := ?_) (a' := ?_) #[true, true, true, true, true, true, true] rfl rfl (by kernel_rfl) (fun _ _ _ h => h) (Or.inl ⟨by rfl, ?_⟩) ?_ ?_
                rotate_left
                · intro w'
                  go_simp
                  with_reducible rfl
                rotate_left
                · simp only [Act.put, List.setIfInBounds_toArray, List.set_cons_zero, List.set_cons_succ, i64_w, i32_w]
                  rfl
                refine done_ (by kernel_rfl) ?_
                try go_wp2
                go_ret
                exact ⟨by first | rfl | (simp [errW_none, errW_some] <;> rfl) | (simp [*, errW_none, errW_some] <;> rfl), by repeat (first | (with_reducible first | exact HB.out | apply below_alloc | apply pw_below_drewN | apply below_drew1 | refine below_set ?_ GE127.out) | exact HB.out)⟩

end Go.Proofs.Ytpbmfdbfimcpjaa.X
