/- The contract of job.Order. No conditions beyond those typed. -/
import Derived.Test.YtpbmfdbfimcpjaaB
namespace Go.Proofs.Ytpbmfdbfimcpjaa.X
open Go.RowKit Go.Proofs.YtpbmfdbfimcpjaaW.PrintWords Go.Proofs.YtpbmfdbfimcpjaaW.PrintLast
set_option linter.unusedVariables false
set_option linter.unusedSimpArgs false

def mayB (ins : List Bool) (i : Int) : Bool := decide (0 ≤ i) && (decide (i < ins.length) && ins.getD i.toNat false)
def bcells (ins : List Bool) : Array Value := (ins.map Value.bool).toArray
theorem bcells_at (ins : List Bool) (i : Nat) (h : i < ins.length) : (bcells ins)[i]? = some (.bool (ins.getD i false)) := by
  simp [bcells, h]
theorem bcells_set (ins : List Bool) (i : Nat) : (bcells ins).setIfInBounds i (.bool true) = bcells (ins.set i true) := by
  simp [bcells, List.map_set]

theorem may_any (b4 bs n : Nat) (ins : List Bool) (hn : ins.length = n) (i : Int) (w : World) (h4 : w.cell? ⟨b4, 0, none⟩ = some (.slice (some ⟨bs, 0, none⟩) n n)) (hs : w.heap[bs]? = some (.cells (bcells ins) 4 (0, 0))) :
    Calls Try.prog 24 #[.int .i64 i, .pointer (some ⟨b4, 0, none⟩)] w fun e w' => e = .returned (.bool (mayB ins i)) ∧ w = w' := by
  subst hn
  by_cases h0 : 0 ≤ i
  · by_cases h1 : i < ins.length
    · obtain ⟨j, rfl⟩ := Int.eq_ofNat_of_zero_le h0
      have hx : w.cell? ⟨bs, j, none⟩ = some (.bool (ins.getD j false)) := (blk_cell hs j).trans (bcells_at ins j (by omega))
      have hf : Aside0 (mayB ins (j : Int) = ins.getD j false) := ⟨by simp [mayB]; omega⟩
      obtain ⟨b, HB⟩ : ∃ b, Aside0 (b = ins.getD j false) := ⟨_, ⟨rfl⟩⟩
      rw [← HB.out] at hx
      clear hs
      go_enter Try.func24, Try.ntmps24
      go_wp2
      go_ret
      exact ⟨by rw [hf.out, ← HB.out]; rfl, rfl⟩
    · go_enter Try.func24, Try.ntmps24
      go_wp2
      go_ret
      exact ⟨by rw [mayB, decide_eq_false (by omega : ¬ (i < (ins.length : Int))), Bool.false_and, Bool.and_false]; rfl, rfl⟩
  · go_enter Try.func24, Try.ntmps24
    go_wp2
    go_ret
    exact ⟨by rw [mayB, decide_eq_false (by omega : ¬ (0 ≤ i)), Bool.false_and]; rfl, rfl⟩

/-! ### the order, plainly -/
def readyN (l : List S38) (ins : List Bool) (i : Nat) : Bool := !ins.getD i false && (l.getD i z38).f1.all (mayB ins)
def nextN (l : List S38) (ins : List Bool) : Option Nat := (List.range l.length).find? (readyN l ins)
def orderGo (l : List S38) : Nat → List Bool → List Int → List Int
  | 0, _, out => out
  | k + 1, ins, out => match nextN l ins with | none => out | some i => orderGo l k (ins.set i true) (out ++ [(i : Int)])
def jobOrder (l : List S38) : List Int := orderGo l (l.length + 1) (List.replicate l.length false) []
theorem next_none {l : List S38} {ins : List Bool} (h : ∀ j, j < l.length → readyN l ins j = false) : nextN l ins = none := by
  unfold nextN; rw [List.find?_eq_none]; intro x hx; rw [h x (by simpa using hx)]; simp
theorem next_some {l : List S38} {ins : List Bool} {i : Nat} (hi : i < l.length) (h : ∀ j, j < i → readyN l ins j = false) (hr : readyN l ins i = true) : nextN l ins = some i := by
  unfold nextN
  rw [List.find?_range_eq_some]
  exact ⟨hr, by simpa using hi, fun j hj => by rw [h j hj]; rfl⟩
theorem order_none {l : List S38} {k : Nat} {ins : List Bool} {out : List Int} (h : nextN l ins = none) : orderGo l (k + 1) ins out = out := by
  rw [orderGo, h]
theorem order_some {l : List S38} {k i : Nat} {ins : List Bool} {out : List Int} (h : nextN l ins = some i) : orderGo l (k + 1) ins out = orderGo l k (ins.set i true) (out ++ [(i : Int)]) := by
  rw [orderGo, h]
theorem count_step {ins : List Bool} {i : Nat} (hi : i < ins.length) (h : ins.getD i false = false) : (ins.set i true).count false + 1 = ins.count false := by
  have h' : ins[i] = false := by simpa [List.getD_eq_getElem?_getD, hi] using h
  have hp : 0 < ins.count false := List.count_pos_iff.2 (h' ▸ List.getElem_mem hi)
  rw [List.count_set hi, h']; simp; omega
def job_Order.f (l : List S38) : Option (List Int) := if l.length < 17592186044416 then some (jobOrder l) else none

theorem made_bools (n : Nat) : madeCells #[.bool false] n = bcells (List.replicate n false) := by
  apply Array.ext'
  simp [madeCells, bcells]
  apply List.ext_getElem
  · simp
  · intro i h1 h2; simp [Nat.mod_one]

structure OrdW (w : World) (A0 : Option Addr) (c0 : Nat) (l : List S38) (ins : List Bool) (wr : World) : Prop where
  bj : wr.heap[w.heap.size]? = some (.cells #[.slice A0 l.length c0] 24 (0, 0))
  bs : wr.heap[w.heap.size + 1]? = some (.cells (bcells ins) 4 (0, 0))
  b4 : wr.heap[w.heap.size + 1 + 1]? = some (.cells #[.slice (some ⟨w.heap.size + 1, 0, none⟩) l.length l.length] 29 (0, 0))
  hb : Below w.heap.size w wr
  hl : ins.length = l.length
theorem OrdW.step {w wr w2 : World} {A0 : Option Addr} {c0 : Nat} {l : List S38} {ins : List Bool} (h : OrdW w A0 c0 l ins wr) (k : Below wr.heap.size wr w2) : OrdW w A0 c0 l ins w2 :=
  ⟨blk_below h.bj k, blk_below h.bs k, blk_below h.b4 k, below_step h.hb k, h.hl⟩
theorem OrdW.grown {w wr w2 : World} {A0 : Option Addr} {c0 : Nat} {l : List S38} {ins : List Bool} {v : Value} {xs : List Int} (h : OrdW w A0 c0 l ins wr) (ho : Kd.R (Kd.int .i64) 3 wr w.heap.size (fun _ => True) v xs) (hg : wr.grownBy w2 v.ownBlock) (hb : Below w.heap.size w w2) : OrdW w A0 c0 l ins w2 :=
  ⟨blk_grown h.bj hg (Kd.R_ne ho h.bj (by decide)), blk_grown h.bs hg (Kd.R_ne ho h.bs (by decide)), blk_grown h.b4 hg (Kd.R_ne ho h.b4 (by decide)), hb, h.hl⟩
theorem OrdW.store {w wr : World} {A0 : Option Addr} {c0 : Nat} {l : List S38} {ins : List Bool} (h : OrdW w A0 c0 l ins wr) (i : Nat) : OrdW w A0 c0 l (ins.set i true) (wr.setCell ⟨w.heap.size + 1, i, none⟩ (.bool true)) :=
  ⟨blk_far h.bj (by simp) _, by rw [blk_set h.bs, bcells_set], blk_far h.b4 (by simp) _, h.hb.setCell (by simp) _, by rw [List.length_set]; exact h.hl⟩
theorem OrdW.cj {w wr : World} {A0 : Option Addr} {c0 : Nat} {l : List S38} {ins : List Bool} (h : OrdW w A0 c0 l ins wr) : wr.cell? ⟨w.heap.size, 0, none⟩ = some (.slice A0 l.length c0) := (blk_cell h.bj 0).trans rfl
theorem OrdW.c4 {w wr : World} {A0 : Option Addr} {c0 : Nat} {l : List S38} {ins : List Bool} (h : OrdW w A0 c0 l ins wr) : wr.cell? ⟨w.heap.size + 1 + 1, 0, none⟩ = some (.slice (some ⟨w.heap.size + 1, 0, none⟩) l.length l.length) := (blk_cell h.b4 0).trans rfl
theorem OrdW.cs {w wr : World} {A0 : Option Addr} {c0 : Nat} {l : List S38} {ins : List Bool} (h : OrdW w A0 c0 l ins wr) (i : Nat) (hi : i < l.length) : wr.cell? ⟨w.heap.size + 1, i, none⟩ = some (.bool (ins.getD i false)) := (blk_cell h.bs i).trans (bcells_at ins i (by rw [h.hl]; exact hi))
theorem OrdW.fs {w wr : World} {A0 : Option Addr} {c0 : Nat} {l : List S38} {ins : List Bool} (h : OrdW w A0 c0 l ins wr) (i : Nat) : wr.frozen? ⟨w.heap.size + 1, i, none⟩ = false := blk_frozen h.bs i

set_option maxHeartbeats 4000000 in
theorem job_Order.calls (A0 : Option Addr) (c0 : Nat) (l : List S38) (r : List Int) (w : World) (hr0 : Kd.C k38 w A0 l.length l) (hc0 : l.length ≤ c0) (h : job_Order.f l = some r) :
    Calls Try.prog 9 #[.agg #[.slice A0 l.length c0]] w fun e w' => ∃ v0_ : Value, e = .returned v0_ ∧ Kd.R (Kd.int .i64) 3 w' w.heap.size (fun _ => True) v0_ r ∧ Below w.heap.size w w' := by
  have hn : l.length < 17592186044416 := by unfold job_Order.f at h; split at h; assumption; cases h
  obtain rfl : jobOrder l = r := by unfold job_Order.f at h; rw [if_pos hn] at h; exact Option.some.inj h
  clear h
  have hmk : ∀ W : World, (Instr.makeSlice 29 (.int .i64 (l.length : Int)) (.int .i64 (l.length : Int))).run Try.prog W = .ok (.slice (some ⟨W.heap.size, 0, none⟩) l.length l.length) (W.alloc (.cells (madeCells #[.bool false] l.length) 4)) := by
    intro W
    exact run_make_row' 29 4 (.bool false) 1 Try.underlying29 info4 rfl .i64 .i64 l.length (by omega) (by omega) W
  go_enter Try.func9, Try.ntmps9
  go_wp2_with fail
  go_step3
  go_wp2_with fail
  go_step3
  go_wp2_with fail
  have HR0 := Aside0.mk hr0
  have HO := Aside0.mk (show OrdW w A0 c0 l (List.replicate l.length false) (((w.alloc (.cells #[.slice A0 l.length c0] 24)).alloc (.cells (madeCells #[.bool false] l.length) 4)).alloc (.cells #[.slice (some ⟨w.heap.size + 1, 0, none⟩) l.length l.length] 29)) from
    ⟨((Below.heap_alloc _ _ _ (by simp; omega)).trans (Below.heap_alloc _ _ _ (by simp))).trans (heap_alloc_new _ _), (Below.heap_alloc _ _ _ (by simp)).trans (by rw [made_bools]; have := heap_alloc_new (w.alloc (.cells #[.slice A0 l.length c0] 24)) (.cells (bcells (List.replicate l.length false)) 4); simpa using this), by have := heap_alloc_new ((w.alloc (.cells #[.slice A0 l.length c0] 24)).alloc (.cells (madeCells #[.bool false] l.length) 4)) (.cells #[.slice (some ⟨w.heap.size + 1, 0, none⟩) l.length l.length] 29); simpa using this, (((Below.refl _ _).alloc (Nat.le_refl _) _).alloc (by simp) _).alloc (by simp; omega) _, by simp⟩)
  clear hr0
  go_loopg [3] (l.length + 1) (fun k v3 wr => ∃ (ins : List Bool) (outl : List Int), Aside0 (k = ins.count false + 1) ∧ Aside0 (outl.length + ins.count false = l.length) ∧ Aside0 (orderGo l k ins outl = jobOrder l) ∧ Aside0 (OrdW w A0 c0 l ins wr) ∧ Aside0 (Kd.R (Kd.int .i64) 3 wr w.heap.size (fun _ => True) v3 outl))
  case atStart => exact ⟨_, [], ⟨by simp⟩, ⟨by simp⟩, ⟨rfl⟩, HO, ⟨Kd.R_nil _ _ _ _ _⟩⟩
  case round =>
    obtain ⟨ins, outl, HK, HL, HG, HO, HV⟩ := hrel
    obtain ⟨g1, Hg1⟩ : ∃ g1, Aside0 (gk = g1 + 1) := ⟨gk - 1, ⟨by have := HK.out; omega⟩⟩
    have hcj := HO.out.cj
    go_wp2_with fail
    go_step3
    go_wp2_with fail
    go_step3
    go_wp2_with fail
    clear hcj
    go_loopg [3, 18] l.length (fun k y3 y18 wr2 => ∃ i : Nat, y18 = .int .i64 i ∧ y3 = u3 ∧ i ≤ l.length ∧ Aside0 (k + i = l.length) ∧ Aside0 (∀ j, j < i → readyN l ins j = false) ∧ Aside0 (OrdW w A0 c0 l ins wr2) ∧ Aside0 (Kd.R (Kd.int .i64) 3 wr2 w.heap.size (fun _ => True) u3 outl))
    case atStart => exact ⟨0, rfl, rfl, by omega, ⟨by omega⟩, ⟨fun j h => absurd h (by omega)⟩, HO, HV⟩
    case round =>
      clear HO HV
      obtain ⟨i, rfl, rfl, hi, HI, HN, HO, HV⟩ := hrel
      by_cases hlt : i < l.length
      · obtain ⟨ad, A1, c1, A5, c5, e, hx0, hx1, hx2, hx3, hx4, hx5, hx6, hx7, hx8, hx9, l1, g1, l5, g5⟩ := at_T38 HR0.out (i : Int) (by omega) (by omega)
        cases e
        have er : rd_T38 l (i : Int) = l.getD i z38 := by simp [rd_T38]
        obtain ⟨x, HX⟩ : ∃ x, Aside0 (x = l.getD i z38) := ⟨_, ⟨rfl⟩⟩
        rw [← HX.out] at er
        simp only [er, Int.toNat_natCast] at hx0 hx1 hx2 hx3 hx4 hx5 hx6 hx7 hx8 hx9 l1 g1
        clear er l5 g5
        have hxl : x.f1.length ≤ 9223372036854775807 := g1.2.1
        have HL1 := Aside0.mk l1
        have HG1 := Aside0.mk g1
        clear l1 g1
        replace hx0 := (HO.out.hb.cell (World.block_lt_of_cell? w _ hx0)).trans hx0
        replace hx1 := (HO.out.hb.cell (World.block_lt_of_cell? w _ hx1)).trans hx1
        replace hx2 := (HO.out.hb.cell (World.block_lt_of_cell? w _ hx2)).trans hx2
        replace hx3 := (HO.out.hb.cell (World.block_lt_of_cell? w _ hx3)).trans hx3
        replace hx4 := (HO.out.hb.cell (World.block_lt_of_cell? w _ hx4)).trans hx4
        replace hx5 := (HO.out.hb.cell (World.block_lt_of_cell? w _ hx5)).trans hx5
        replace hx6 := (HO.out.hb.cell (World.block_lt_of_cell? w _ hx6)).trans hx6
        replace hx7 := (HO.out.hb.cell (World.block_lt_of_cell? w _ hx7)).trans hx7
        replace hx8 := (HO.out.hb.cell (World.block_lt_of_cell? w _ hx8)).trans hx8
        replace hx9 := (HO.out.hb.cell (World.block_lt_of_cell? w _ hx9)).trans hx9
        have hc4 := HO.out.c4
        have hcs := HO.out.cs i hlt
        obtain ⟨b, HBB⟩ : ∃ b, Aside0 (b = ins.getD i false) := ⟨_, ⟨rfl⟩⟩
        rw [← HBB.out] at hcs
        have hsz : w.heap.size + 1 + 1 < wr.heap.size := blk_lt HO.out.b4
        have hsz1 : w.heap.size + 1 < wr.heap.size := blk_lt HO.out.bs
        obtain ⟨g2, Hg2⟩ : ∃ g2, Aside0 (gk = g2 + 1) := ⟨gk - 1, ⟨by have := HI.out; omega⟩⟩
        have HI' : Aside0 (g2 + (i + 1) = l.length) := ⟨by have := HI.out; have := Hg2.out; omega⟩
        cases b with
        | true =>
          go_wp2_with fail
          go_roundg g2
          case measure => have := Hg2.out; omega
          case rel => exact ⟨i + 1, by go_num, rfl, by omega, HI', ⟨fun j hj => by
            rcases Nat.lt_or_ge j i with h1 | h1
            · exact HN.out j h1
            · obtain rfl : j = i := by omega
              unfold readyN; rw [← HBB.out]; rfl⟩, ⟨HO.out.step ((Below.refl _ _).alloc (Nat.le_refl _) _)⟩, ⟨Kd.R_below HV.out ((Below.refl _ _).alloc (Nat.le_refl _) _)⟩⟩
        | false =>
          go_wp2_with fail
          clear hx0 hx1 hx2 hx3 hx4 hx5 hx6 hx7 hx8 hx9 hc4 hcs hsz hsz1
          go_loopg [30] x.f1.length (fun k y30 wr3 => ∃ m : Nat, y30 = .int .i64 m ∧ m ≤ x.f1.length ∧ Aside0 (k + m = x.f1.length) ∧ Aside0 (∀ q, q < m → mayB ins (x.f1.getD q 0) = true) ∧ Aside0 (OrdW w (some ad) c0 l ins wr3) ∧ Aside0 (Kd.R (Kd.int .i64) 3 wr3 w.heap.size (fun _ => True) u3 outl))
          case atStart => exact ⟨0, rfl, by omega, ⟨by omega⟩, ⟨fun q h => absurd h (by omega)⟩, ⟨HO.out.step ((Below.refl _ _).alloc (Nat.le_refl _) _)⟩, ⟨Kd.R_below HV.out ((Below.refl _ _).alloc (Nat.le_refl _) _)⟩⟩
          case round =>
            clear HO HV
            obtain ⟨m, rfl, hm, HM, HQ, HO, HV⟩ := hrel
            by_cases hmt : m < x.f1.length
            · obtain ⟨ad1, e, hy⟩ := Kd.at_int HG1.out (m : Int) (by omega) (by omega)
              cases e
              have er : rd x.f1 (m : Int) = x.f1.getD m 0 := by simp [rd]
              obtain ⟨y, HY⟩ : ∃ y, Aside0 (y = x.f1.getD m 0) := ⟨_, ⟨rfl⟩⟩
              rw [er, ← HY.out, Int.toNat_natCast] at hy
              clear er
              replace hy := (HO.out.hb.cell (World.block_lt_of_cell? w _ hy)).trans hy
              obtain ⟨g3, Hg3⟩ : ∃ g3, Aside0 (gk = g3 + 1) := ⟨gk - 1, ⟨by have := HM.out; omega⟩⟩
              have HM' : Aside0 (g3 + (m + 1) = x.f1.length) := ⟨by have := HM.out; have := Hg3.out; omega⟩
              obtain ⟨b, HBY⟩ : ∃ b, Aside0 (b = mayB ins y) := ⟨_, ⟨rfl⟩⟩
              go_wp2_with fail
              have hcall := may_any _ _ _ ins HO.out.hl y wr HO.out.c4 HO.out.bs
              rw [← HBY.out] at hcall
              refine hcall.mono ?_
              clear hcall
              rintro e w1 ⟨rfl, rfl⟩
              cases b with
              | true =>
                go_wp2_with fail
                go_roundg g3
                case measure => have := Hg3.out; omega
                case rel => exact ⟨m + 1, by go_num, by omega, HM', ⟨fun q hq => by
                  rcases Nat.lt_or_ge q m with h1 | h1
                  · exact HQ.out q h1
                  · obtain rfl : q = m := by omega
                    rw [← HY.out]; exact HBY.out.symm⟩, HO, HV⟩
              | false =>
                go_wp2_with fail
                go_roundg g2
                case measure => have := Hg2.out; omega
                case rel => exact ⟨i + 1, by go_num, rfl, by omega, HI', ⟨fun j hj => by
                  rcases Nat.lt_or_ge j i with h1 | h1
                  · exact HN.out j h1
                  · obtain rfl : j = i := by omega
                    unfold readyN
                    rw [← HX.out, List.all_eq_false.2 ⟨y, by rw [HY.out, List.getD_eq_getElem?_getD, List.getElem?_eq_getElem hmt]; exact List.getElem_mem hmt, by rw [← HBY.out]; simp⟩, Bool.and_false]⟩, HO, HV⟩
            · have hrdy : readyN l ins i = true := by
                unfold readyN
                rw [← HBB.out, ← HX.out, List.all_eq_true.2 (fun y hy => by
                  obtain ⟨q, hq, rfl⟩ := List.getElem_of_mem hy
                  have := HQ.out q (by omega)
                  rwa [List.getD_eq_getElem?_getD, List.getElem?_eq_getElem hq] at this)]
                rfl
              have HNX := Aside0.mk (next_some hlt HN.out hrdy)
              clear hrdy
              have hc4 := HO.out.c4
              have hcs := HO.out.cs i hlt
              have hfs := HO.out.fs i
              have HC := Aside0.mk (count_step (ins := ins) (i := i) (by rw [HO.out.hl]; exact hlt) HBB.out.symm)
              have HI2 := Aside0.mk (HO.out.store i)
              have HV2 := Aside0.mk (Kd.R_set HV.out HO.out.bs (by decide) i (.bool true))
              clear HO HV
              go_wp2_with (at_builtin; refine Kd.R_append (Kd.int .i64) (w0 := w) w.heap.size rfl (.tmp 42) (.tmp 44) 30 3 (.int .i64 0) 8 rfl Try.underlying30 info3 rfl (by decide) (by omega) u3 outl (i : Int) [.int .i64 (i : Int)] (fun _ => True) (fun _ => False) rfl (Eq.trans (b := Value.slice (some ⟨wr.heap.size, 0, none⟩) 1 1) rfl (by simp)) rfl (fun _ h => h.elim) (fun _ _ => trivial) HV2.out HI2.out.hb HI2.out.hb.size ?aL ?_)
              case aL => have := HL.out; have := HC.out; omega
              intro v1 w1 ho hb hg _hat
              have HI3 := Aside0.mk (HI2.out.grown HV2.out (World.grownBy.trans (World.grownBy.refl _ _) hg) hb)
              have HV3 := Aside0.mk ho
              clear ho hb hg _hat HI2 HV2
              go_wp2_with fail
              rw [Exit.noGoto_exit]
              go_wp2_with fail
              go_roundg g1
              case measure => have := Hg1.out; omega
              case rel => exact ⟨ins.set i true, outl ++ [(i : Int)], ⟨by have := HK.out; have := Hg1.out; have := HC.out; omega⟩, ⟨by have := HL.out; have := HC.out; simp only [List.length_append, List.length_cons, List.length_nil]; omega⟩, ⟨by have := HG.out; rw [Hg1.out, order_some HNX.out] at this; exact this⟩, HI3, HV3⟩
      · have HNX := Aside0.mk (next_none (l := l) (ins := ins) (fun j hj => HN.out j (by omega)))
        have HR := HG.out
        rw [Hg1.out, order_none HNX.out] at HR
        have HR' := Aside0.mk HR
        clear HR
        go_wp2_with fail
        rw [Exit.noGoto_ret]
        simp only [Exit.inBlock, Exit.then, Exit.noGoto_ret]
        go_ret
        refine ⟨u3, rfl, ?_, HO.out.hb⟩
        rw [← HR'.out]; exact HV.out
end Go.Proofs.Ytpbmfdbfimcpjaa.X
