/- expr.eval: an expression's value, as far as a number of rounds goes. No conditions but those typed. -/
import Derived.Test.YtdmfakgbiaaacaaDoorMExprDeep8
import Derived.WalkLawsBesides
namespace Go.Proofs.YtdmfakgbiaaacaaDoor.X
open Go.RowKit Go.Lib Go.Proofs Go.Proofs.YtdmfakgbiaaacaaDoorW.PrintWords Go.Proofs.YtdmfakgbiaaacaaDoorW.PrintLast Go.Proofs.YtdmfakgbiaaacaaDoorW.PrintMore Go.Proofs.YtdmfakgbiaaacaaDoor
attribute [local go_sem] max2_int min2_int max_two min_two
set_option linter.unusedVariables false
set_option linter.unusedSimpArgs false
def opP (op a b : Int) : Int :=
  if op = 5 then wrap64 (a + b) else if op = 6 then wrap64 (a - b) else if op = 7 then wrap64 (a * b) else if op = 8 then mn a b else if op = 9 then mx a b
  else if op = 10 then bits .xor .i64 a b else if op = 11 then bits .and .i64 a b else if op = 12 then (if a < b then 1 else 0) else (if a = b then 1 else 0)
def expr_eval.f : Nat → Int → Int → List S24 → Int → Int → Int → Option Int
  | 0, _, _, _, _, _, _ => none
  | k + 1, op, n, l, r0, r1, r2 =>
    if op = 1 then some n else if op = 2 then some r0 else if op = 3 then some r1 else if op = 4 then some r2
    else if op = 14 then
      (if 2 < l.length then (expr_eval.f k (rd_T24 l 0).f0 (rd_T24 l 0).f1 (rd_T24 l 0).f2 r0 r1 r2).bind fun c =>
        if c = 0 then expr_eval.f k (rd_T24 l 2).f0 (rd_T24 l 2).f1 (rd_T24 l 2).f2 r0 r1 r2 else expr_eval.f k (rd_T24 l 1).f0 (rd_T24 l 1).f1 (rd_T24 l 1).f2 r0 r1 r2
      else none)
    else (if 1 < l.length then (expr_eval.f k (rd_T24 l 0).f0 (rd_T24 l 0).f1 (rd_T24 l 0).f2 r0 r1 r2).bind fun a =>
        (expr_eval.f k (rd_T24 l 1).f0 (rd_T24 l 1).f1 (rd_T24 l 1).f2 r0 r1 r2).bind fun b => some (opP op a b)
      else none)
def expr_eval.T11 : Bool × List (List Nat × List Nat) := (true, [([], []), ([0], [0]), ([1], [1]), ([2], [2]), ([], []), ([3, 4], [3, 4]), ([5], [5])])
def expr_eval.B11 : List Nat := [0, 1, 3, 7, 0, 31, 63]
theorem expr_eval.tab11 : rtab .any (opsOf Tryd.f26 11) = expr_eval.T11 := by kernel_rfl
theorem expr_eval.bits11 : waitsOk expr_eval.T11.2 expr_eval.B11 = true := by kernel_rfl
def expr_eval.T12 : Bool × List (List Nat × List Nat) := (true, [([], []), ([0], [0]), ([1], [1]), ([2], [2]), ([], []), ([3, 4], [3, 4]), ([5, 5, 0, 1, 2, 3, 4, 5], [5])])
def expr_eval.B12 : List Nat := [0, 1, 3, 7, 0, 31, 63]
theorem expr_eval.tab12 : rtab .any (opsOf Tryd.f26 12) = expr_eval.T12 := by kernel_rfl
theorem expr_eval.bits12 : waitsOk expr_eval.T12.2 expr_eval.B12 = true := by kernel_rfl
def expr_eval.T13 : Bool × List (List Nat × List Nat) := (true, [([], []), ([0], [0]), ([1], [1]), ([2], [2]), ([], []), ([3, 4], [3, 4]), ([5, 5, 0, 1, 2, 3, 4, 5], [5])])
def expr_eval.B13 : List Nat := [0, 1, 3, 7, 0, 31, 63]
theorem expr_eval.tab13 : rtab .any (opsOf Tryd.f26 13) = expr_eval.T13 := by kernel_rfl
theorem expr_eval.bits13 : waitsOk expr_eval.T13.2 expr_eval.B13 = true := by kernel_rfl
def expr_eval.T14 : Bool × List (List Nat × List Nat) := (true, [([], []), ([0], [0]), ([1], [1]), ([2], [2]), ([], []), ([3, 4], [3, 4]), ([], []), ([6], [6]), ([7], [7]), ([8], [8]), ([], []), ([9, 10, 5], [9, 10]), ([5, 11, 0, 1, 2, 3, 4, 5], [5]), ([11, 12, 0, 1, 2, 3, 4, 5, 6, 7, 8, 9, 10, 11, 12], [11])])
def expr_eval.B14 : List Nat := [0, 1, 3, 7, 0, 31, 0, 64, 192, 448, 0, 2047, 4095, 8191]
theorem expr_eval.tab14 : rtab .any (opsOf Tryd.f26 14) = expr_eval.T14 := by kernel_rfl
theorem expr_eval.bits14 : waitsOk expr_eval.T14.2 expr_eval.B14 = true := by kernel_rfl
theorem add3 (ad : Addr) : ad.add 3 = { block := ad.block, off := ad.off + 3 } := by go_simp
theorem add6 (ad : Addr) : ad.add 6 = { block := ad.block, off := ad.off + 6 } := by go_simp
theorem add0 (ad : Addr) : ad.add 0 = ad := by
  unfold Addr.add
  split <;> simp_all
set_option maxHeartbeats 8000000 in
set_option maxRecDepth 100000 in
theorem expr_eval.calls (k : Nat) : ∀ (a0_0 a0_1 : Int) (A0_2 : Option Addr) (c0_2 : Nat) (l0_2 : List S24) (a1_0 a1_1 a1_2 : Int) (r : Int) (w : World) (hr0_2 : Kd.C k24 w A0_2 l0_2.length l0_2) (hc0_2 : l0_2.length ≤ c0_2) (h : expr_eval.f k a0_0 a0_1 l0_2 a1_0 a1_1 a1_2 = some r),
    Calls Tryd.prog 26 #[.agg #[.int .i64 a0_0, .int .i64 a0_1, .slice A0_2 l0_2.length c0_2], .agg #[.int .i64 a1_0, .int .i64 a1_1, .int .i64 a1_2]] w fun e w' => e = .returned (.int .i64 r) ∧ Below w.heap.size w w' := by
  have hu24 := Tryd.underlying24
  have hu26 := Tryd.underlying26
  have hu22 := Tryd.underlying22
  induction k using Nat.strongRecOn with
  | _ k ih =>
    intro op n A c l r0 r1 r2 r w hr hc h
    cases k with
    | zero => exact absurd h (by simp [expr_eval.f])
    | succ k1 =>
      have HR := Aside0.mk hr
      have HC := Aside0.mk hc
      have IH := Aside0.mk (ih k1 (Nat.lt_succ_self _))
      clear hr hc ih
      rw [expr_eval.f] at h
      by_cases h1 : op = 1
      · rw [if_pos h1] at h
        obtain rfl := Option.some.inj h
        have b1 : (op == 1) = true := beq_iff_eq.2 h1
        subst h1
        go_enter Tryd.func26, Tryd.ntmps26
        go_wp2
        go_ret
        exact ⟨rfl, below_alloc (below_alloc (Below.refl _ _) _) _⟩
      · rw [if_neg h1] at h
        have b1 : (op == 1) = false := beq_eq_false_iff_ne.2 h1
        by_cases h2 : op = 2
        · rw [if_pos h2] at h
          obtain rfl := Option.some.inj h
          have b2 : (op == 2) = true := beq_iff_eq.2 h2
          subst h2
          go_enter Tryd.func26, Tryd.ntmps26
          go_wp2
          go_ret
          exact ⟨rfl, below_alloc (below_alloc (Below.refl _ _) _) _⟩
        rw [if_neg h2] at h
        have b2 : (op == 2) = false := beq_eq_false_iff_ne.2 h2
        by_cases h3 : op = 3
        · rw [if_pos h3] at h
          obtain rfl := Option.some.inj h
          have b3 : (op == 3) = true := beq_iff_eq.2 h3
          subst h3
          go_enter Tryd.func26, Tryd.ntmps26
          go_wp2
          go_ret
          exact ⟨rfl, below_alloc (below_alloc (Below.refl _ _) _) _⟩
        rw [if_neg h3] at h
        have b3 : (op == 3) = false := beq_eq_false_iff_ne.2 h3
        by_cases h4 : op = 4
        · rw [if_pos h4] at h
          obtain rfl := Option.some.inj h
          have b4 : (op == 4) = true := beq_iff_eq.2 h4
          subst h4
          go_enter Tryd.func26, Tryd.ntmps26
          go_wp2
          go_ret
          exact ⟨rfl, below_alloc (below_alloc (Below.refl _ _) _) _⟩
        rw [if_neg h4] at h
        have b4 : (op == 4) = false := beq_eq_false_iff_ne.2 h4
        have b1z : ¬ op = 1 := h1
        have BE0 : Aside0 (((w.alloc (.cells #[.int .i64 op, .int .i64 n, .slice A l.length c] 24)).alloc (.cells #[.int .i64 r0, .int .i64 r1, .int .i64 r2] 26)).heap[w.heap.size]? = some (.cells #[.int .i64 op, .int .i64 n, .slice A l.length c] 24 (0, 0))) := ⟨blk_alloc (blk_new w _) _⟩
        have BR0 : Aside0 (((w.alloc (.cells #[.int .i64 op, .int .i64 n, .slice A l.length c] 24)).alloc (.cells #[.int .i64 r0, .int .i64 r1, .int .i64 r2] 26)).heap[w.heap.size + 1]? = some (.cells #[.int .i64 r0, .int .i64 r1, .int .i64 r2] 26 (0, 0))) := by
          have h := blk_new (w.alloc (.cells #[.int .i64 op, .int .i64 n, .slice A l.length c] 24)) (.cells #[.int .i64 r0, .int .i64 r1, .int .i64 r2] 26 (0, 0))
          exact ⟨by simpa using h⟩
        have HB0 : Aside0 (Below w.heap.size w ((w.alloc (.cells #[.int .i64 op, .int .i64 n, .slice A l.length c] 24)).alloc (.cells #[.int .i64 r0, .int .i64 r1, .int .i64 r2] 26))) := ⟨below_alloc (below_alloc (Below.refl _ _) _) _⟩
        by_cases h14 : op = 14
        · rw [if_pos h14] at h
          subst h14
          by_cases hl : 2 < l.length
          · rw [if_pos hl] at h
            obtain ⟨ad, A0, c0, e0, g0_0, g0_1, g0_2, hl0, hk0⟩ := at_T24 HR.out (0 : Int) (by omega) (by omega)
            cases e0
            obtain ⟨x0, hx0⟩ : ∃ x, rd_T24 l 0 = x := ⟨_, rfl⟩
            rw [hx0] at g0_0 g0_1 g0_2 hl0 hk0
            rw [hx0] at h
            rw [show (0 : Int).toNat * 3 = 0 from rfl, add0] at g0_0 g0_1 g0_2
            have G0 : Aside0 (∀ W : World, Below w.heap.size w W → W.cell? ad = some (.int .i64 x0.f0) ∧ W.cell? ⟨ad.block, ad.off + 1, none⟩ = some (.int .i64 x0.f1) ∧ W.cell? ⟨ad.block, ad.off + 2, none⟩ = some (.slice A0 x0.f2.length c0)) := ⟨fun W hW => ⟨(hW.cell (World.block_lt_of_cell? w _ g0_0)).trans g0_0, (hW.cell (World.block_lt_of_cell? w _ g0_1)).trans g0_1, (hW.cell (World.block_lt_of_cell? w _ g0_2)).trans g0_2⟩⟩
            have K0 : Aside0 (x0.f2.length ≤ c0 ∧ Kd.C k24 w A0 x0.f2.length x0.f2) := ⟨hl0, hk0⟩
            clear g0_0 g0_1 g0_2 hl0 hk0 hx0
            obtain ⟨ad1, A1, c1, e1, g1_0, g1_1, g1_2, hl1, hk1⟩ := at_T24 HR.out (1 : Int) (by omega) (by omega)
            obtain rfl : ad = ad1 := (by injection e1)
            obtain ⟨x1, hx1⟩ : ∃ x, rd_T24 l 1 = x := ⟨_, rfl⟩
            rw [hx1] at g1_0 g1_1 g1_2 hl1 hk1
            rw [hx1] at h
            rw [show (1 : Int).toNat * 3 = 3 from rfl, add3] at g1_0 g1_1 g1_2
            have G1 : Aside0 (∀ W : World, Below w.heap.size w W → W.cell? ⟨ad.block, ad.off + 3, none⟩ = some (.int .i64 x1.f0) ∧ W.cell? ⟨ad.block, ad.off + 4, none⟩ = some (.int .i64 x1.f1) ∧ W.cell? ⟨ad.block, ad.off + 5, none⟩ = some (.slice A1 x1.f2.length c1)) := ⟨fun W hW => ⟨(hW.cell (World.block_lt_of_cell? w _ g1_0)).trans g1_0, (hW.cell (World.block_lt_of_cell? w _ g1_1)).trans g1_1, (hW.cell (World.block_lt_of_cell? w _ g1_2)).trans g1_2⟩⟩
            have K1 : Aside0 (x1.f2.length ≤ c1 ∧ Kd.C k24 w A1 x1.f2.length x1.f2) := ⟨hl1, hk1⟩
            clear g1_0 g1_1 g1_2 hl1 hk1 hx1
            obtain ⟨ad2, A2, c2, e2, g2_0, g2_1, g2_2, hl2, hk2⟩ := at_T24 HR.out (2 : Int) (by omega) (by omega)
            obtain rfl : ad = ad2 := (by injection e2)
            obtain ⟨x2, hx2⟩ : ∃ x, rd_T24 l 2 = x := ⟨_, rfl⟩
            rw [hx2] at g2_0 g2_1 g2_2 hl2 hk2
            rw [hx2] at h
            rw [show (2 : Int).toNat * 3 = 6 from rfl, add6] at g2_0 g2_1 g2_2
            have G2 : Aside0 (∀ W : World, Below w.heap.size w W → W.cell? ⟨ad.block, ad.off + 6, none⟩ = some (.int .i64 x2.f0) ∧ W.cell? ⟨ad.block, ad.off + 7, none⟩ = some (.int .i64 x2.f1) ∧ W.cell? ⟨ad.block, ad.off + 8, none⟩ = some (.slice A2 x2.f2.length c2)) := ⟨fun W hW => ⟨(hW.cell (World.block_lt_of_cell? w _ g2_0)).trans g2_0, (hW.cell (World.block_lt_of_cell? w _ g2_1)).trans g2_1, (hW.cell (World.block_lt_of_cell? w _ g2_2)).trans g2_2⟩⟩
            have K2 : Aside0 (x2.f2.length ≤ c2 ∧ Kd.C k24 w A2 x2.f2.length x2.f2) := ⟨hl2, hk2⟩
            clear g2_0 g2_1 g2_2 hl2 hk2 hx2
            obtain ⟨v, hv, h⟩ := Option.bind_eq_some_iff.mp h
            have H0 := Aside0.mk hv
            clear hv
            have hn0 : 0 < l.length := by omega
            have hn1 : (1 : Int) < (l.length : Int) := by omega
            have hn2 : (2 : Int) < (l.length : Int) := by omega
            by_cases hz : v = 0
            · rw [if_pos hz] at h
              have H2 := Aside0.mk h
              have hzb : (v != 0) = false := by rw [hz]; rfl
              clear h
              go_enter Tryd.func26, Tryd.ntmps26
              go_wp2_with fail
              refine start_ (n := 7) (S := fun w' => w'.cell? ⟨w.heap.size, 2, none⟩ = some (.slice (some ad) l.length c) ∧ w'.cell? ⟨w.heap.size + 1, 0, none⟩ = some (.int .i64 r0) ∧ w'.cell? ⟨w.heap.size + 1, 1, none⟩ = some (.int .i64 r1) ∧ w'.cell? ⟨w.heap.size + 1, 2, none⟩ = some (.int .i64 r2) ∧ w'.cell? ad = some (.int .i64 x0.f0) ∧ w'.cell? ⟨ad.block, ad.off + 1, none⟩ = some (.int .i64 x0.f1) ∧ w'.cell? ⟨ad.block, ad.off + 2, none⟩ = some (.slice A0 x0.f2.length c0)) (ds := []) #[false, false, false, false, false, false, false] (by kernel_rfl) rfl rfl ⟨(blk_cell BE0.out 2).trans rfl, (blk_cell BR0.out 0).trans rfl, (blk_cell BR0.out 1).trans rfl, (blk_cell BR0.out 2).trans rfl, (G0.out _ HB0.out).1, (G0.out _ HB0.out).2.1, (G0.out _ HB0.out).2.2⟩ (fun hHeld => ?_); refine with_tabW expr_eval.tab11 expr_eval.bits11 (fun HT_ HW_ => ?_)
              have BEd := Aside0.mk (blk_drew BE0.out)
              have BRd := Aside0.mk (blk_drew BR0.out)
              have HBd := Aside0.mk (below_drew1 HB0.out)
              clear BE0 BR0 HB0
              generalize World.drew _ = w3 at BEd BRd HBd hHeld ⊢
              refine pure_ (i := 0) (N := some 27) (v := ?_) (a' := ?_) #[true, false, false, false, false, false, false] rfl rfl (any_of HT_.out (by kernel_rfl)) (fun _ _ _ h => h) (Or.inl ⟨by rfl, ?_⟩) ?_ ?_
              rotate_left
              · intro w'
                go_simp
                with_reducible rfl
              rotate_left
              · simp only [Act.put, List.setIfInBounds_toArray, List.set_cons_zero, List.set_cons_succ, i64_w, i32_w]
                rfl
              refine take_ (i := 1) (N := some 28) (v := ?_) (a' := ?_) #[true, true, false, false, false, false, false] rfl rfl (take_ofW HT_.out HW_.out (by kernel_rfl)) (fun _ _ _ h => h) (Or.inl ⟨by rfl, ?_⟩) hHeld ?_ ?_
              rotate_left
              · rintro w' ⟨s0, s1, s2, s3, s4, s5, s6⟩
                go_simp
                with_reducible rfl
              rotate_left
              · simp only [Act.put, List.setIfInBounds_toArray, List.set_cons_zero, List.set_cons_succ, i64_w, i32_w]
                rfl
              refine pure_ (i := 2) (N := some 29) (v := ?_) (a' := ?_) #[true, true, true, false, false, false, false] rfl rfl (any_of HT_.out (by kernel_rfl)) (fun _ _ _ h => h) (Or.inl ⟨by rfl, ?_⟩) ?_ ?_
              rotate_left
              · intro w'
                go_simp
                with_reducible rfl
              rotate_left
              · simp only [Act.put, List.setIfInBounds_toArray, List.set_cons_zero, List.set_cons_succ, i64_w, i32_w]
                rfl
              refine take_ (i := 3) (N := some 30) (v := ?_) (a' := ?_) #[true, true, true, true, false, false, false] rfl rfl (take_ofW HT_.out HW_.out (by kernel_rfl)) (fun _ _ _ h => h) (Or.inl ⟨by rfl, ?_⟩) hHeld ?_ ?_
              rotate_left
              · rintro w' ⟨s0, s1, s2, s3, s4, s5, s6⟩
                go_simp
                with_reducible rfl
              rotate_left
              · simp only [Act.put, List.setIfInBounds_toArray, List.set_cons_zero, List.set_cons_succ, i64_w, i32_w]
                rfl
              refine take_ (i := 4) (N := some 31) (v := ?_) (a' := ?_) #[true, true, true, true, true, false, false] rfl rfl (take_ofW HT_.out HW_.out (by kernel_rfl)) (fun _ _ _ h => h) (Or.inl ⟨by rfl, ?_⟩) hHeld ?_ ?_
              rotate_left
              · rintro w' ⟨s0, s1, s2, s3, s4, s5, s6⟩
                go_simp
                with_reducible rfl
              rotate_left
              · simp only [Act.put, List.setIfInBounds_toArray, List.set_cons_zero, List.set_cons_succ, i64_w, i32_w]
                rfl
              refine one_ (i := 5) (N := some 32) #[true, true, true, true, true, true, false] rfl rfl (one_of HT_.out (by kernel_rfl)) (by decide) (fun K hK => ?_)
              refine goes_ Tryd.func26 (by kernel_rfl) rfl #[.agg #[.int .i64 x0.f0, .int .i64 x0.f1, .slice A0 x0.f2.length c0], .agg #[.int .i64 r0, .int .i64 r1, .int .i64 r2]] (by rfl) rfl rfl (by (try simp only [List.map_toArray, List.map_cons, List.map_nil]); first | done | rfl) ?_
              refine (IH.out _ _ _ _ _ _ _ _ v _ (Kd.C_below K0.out.2 (HBd.out)) K0.out.1 H0.out).mono ?_
              rintro e w3b ⟨rfl, hb⟩
              refine ⟨_, rfl, ?_⟩
              have BEw3 := Aside0.mk (blk_below BEd.out hb)
              have BRw3 := Aside0.mk (blk_below BRd.out hb)
              have HBw3 := Aside0.mk (below_step HBd.out hb)
              clear BEd BRd HBd hb
              refine hK.out _ _ ⟨(blk_cell BEw3.out 2).trans rfl, (blk_cell BRw3.out 0).trans rfl, (blk_cell BRw3.out 1).trans rfl, (blk_cell BRw3.out 2).trans rfl, (G0.out _ HBw3.out).1, (G0.out _ HBw3.out).2.1, (G0.out _ HBw3.out).2.2⟩ (fun hHeld => ?_)
              clear hK K
              refine norm_ (a' := ?_) ?_ ?_
              rotate_left
              · show Act.put _ (some 32) _ = _
                simp only [Act.put, List.setIfInBounds_toArray, List.set_cons_zero, List.set_cons_succ, i64_w, i32_w]
                rfl
              refine pure_ (i := 6) (N := some 33) (v := ?_) (a' := ?_) #[true, true, true, true, true, true, true] rfl rfl (any_of HT_.out (by kernel_rfl)) (fun _ _ _ h => h) (Or.inl ⟨by rfl, ?_⟩) ?_ ?_
              rotate_left
              · intro w'
                go_simp
                with_reducible rfl
              rotate_left
              · simp only [Act.put, List.setIfInBounds_toArray, List.set_cons_zero, List.set_cons_succ, i64_w, i32_w]
                rfl
              refine done_ (done_of HT_.out (by kernel_rfl)) ?_

              go_wp2_with fail
              refine start_ (n := 7) (S := fun w' => w'.cell? ⟨w.heap.size, 2, none⟩ = some (.slice (some ad) l.length c) ∧ w'.cell? ⟨w.heap.size + 1, 0, none⟩ = some (.int .i64 r0) ∧ w'.cell? ⟨w.heap.size + 1, 1, none⟩ = some (.int .i64 r1) ∧ w'.cell? ⟨w.heap.size + 1, 2, none⟩ = some (.int .i64 r2) ∧ w'.cell? ⟨ad.block, ad.off + 6, none⟩ = some (.int .i64 x2.f0) ∧ w'.cell? ⟨ad.block, ad.off + 7, none⟩ = some (.int .i64 x2.f1) ∧ w'.cell? ⟨ad.block, ad.off + 8, none⟩ = some (.slice A2 x2.f2.length c2)) (ds := []) #[false, false, false, false, false, false, false] (by kernel_rfl) rfl rfl ⟨(blk_cell BEw3.out 2).trans rfl, (blk_cell BRw3.out 0).trans rfl, (blk_cell BRw3.out 1).trans rfl, (blk_cell BRw3.out 2).trans rfl, (G2.out _ HBw3.out).1, (G2.out _ HBw3.out).2.1, (G2.out _ HBw3.out).2.2⟩ (fun hHeld => ?_); refine with_tabW expr_eval.tab13 expr_eval.bits13 (fun HT_ HW_ => ?_)
              have BEd := Aside0.mk (blk_drew BEw3.out)
              have BRd := Aside0.mk (blk_drew BRw3.out)
              have HBd := Aside0.mk (below_drew1 HBw3.out)
              clear BEw3 BRw3 HBw3
              generalize World.drew _ = w5 at BEd BRd HBd hHeld ⊢
              refine pure_ (i := 0) (N := some 40) (v := ?_) (a' := ?_) #[true, false, false, false, false, false, false] rfl rfl (any_of HT_.out (by kernel_rfl)) (fun _ _ _ h => h) (Or.inl ⟨by rfl, ?_⟩) ?_ ?_
              rotate_left
              · intro w'
                go_simp
                with_reducible rfl
              rotate_left
              · simp only [Act.put, List.setIfInBounds_toArray, List.set_cons_zero, List.set_cons_succ, i64_w, i32_w]
                rfl
              refine take_ (i := 1) (N := some 41) (v := ?_) (a' := ?_) #[true, true, false, false, false, false, false] rfl rfl (take_ofW HT_.out HW_.out (by kernel_rfl)) (fun _ _ _ h => h) (Or.inl ⟨by rfl, ?_⟩) hHeld ?_ ?_
              rotate_left
              · rintro w' ⟨s0, s1, s2, s3, s4, s5, s6⟩
                go_simp
                with_reducible rfl
              rotate_left
              · simp only [Act.put, List.setIfInBounds_toArray, List.set_cons_zero, List.set_cons_succ, i64_w, i32_w]
                rfl
              refine pure_ (i := 2) (N := some 42) (v := ?_) (a' := ?_) #[true, true, true, false, false, false, false] rfl rfl (any_of HT_.out (by kernel_rfl)) (fun _ _ _ h => h) (Or.inl ⟨by rfl, ?_⟩) ?_ ?_
              rotate_left
              · intro w'
                go_simp
                with_reducible rfl
              rotate_left
              · simp only [Act.put, List.setIfInBounds_toArray, List.set_cons_zero, List.set_cons_succ, i64_w, i32_w]
                rfl
              refine take_ (i := 3) (N := some 43) (v := ?_) (a' := ?_) #[true, true, true, true, false, false, false] rfl rfl (take_ofW HT_.out HW_.out (by kernel_rfl)) (fun _ _ _ h => h) (Or.inl ⟨by rfl, ?_⟩) hHeld ?_ ?_
              rotate_left
              · rintro w' ⟨s0, s1, s2, s3, s4, s5, s6⟩
                go_simp
                with_reducible rfl
              rotate_left
              · simp only [Act.put, List.setIfInBounds_toArray, List.set_cons_zero, List.set_cons_succ, i64_w, i32_w]
                rfl
              refine take_ (i := 4) (N := some 44) (v := ?_) (a' := ?_) #[true, true, true, true, true, false, false] rfl rfl (take_ofW HT_.out HW_.out (by kernel_rfl)) (fun _ _ _ h => h) (Or.inl ⟨by rfl, ?_⟩) hHeld ?_ ?_
              rotate_left
              · rintro w' ⟨s0, s1, s2, s3, s4, s5, s6⟩
                go_simp
                with_reducible rfl
              rotate_left
              · simp only [Act.put, List.setIfInBounds_toArray, List.set_cons_zero, List.set_cons_succ, i64_w, i32_w]
                rfl
              refine one_ (i := 5) (N := some 45) #[true, true, true, true, true, true, false] rfl rfl (one_of HT_.out (by kernel_rfl)) (by decide) (fun K hK => ?_)
              refine goes_ Tryd.func26 (by kernel_rfl) rfl #[.agg #[.int .i64 x2.f0, .int .i64 x2.f1, .slice A2 x2.f2.length c2], .agg #[.int .i64 r0, .int .i64 r1, .int .i64 r2]] (by rfl) rfl rfl (by (try simp only [List.map_toArray, List.map_cons, List.map_nil]); first | done | rfl) ?_
              refine (IH.out _ _ _ _ _ _ _ _ r _ (Kd.C_below K2.out.2 (HBd.out)) K2.out.1 H2.out).mono ?_
              rintro e w5b ⟨rfl, hb⟩
              refine ⟨_, rfl, ?_⟩
              have BEw5 := Aside0.mk (blk_below BEd.out hb)
              have BRw5 := Aside0.mk (blk_below BRd.out hb)
              have HBw5 := Aside0.mk (below_step HBd.out hb)
              clear BEd BRd HBd hb
              refine hK.out _ _ ⟨(blk_cell BEw5.out 2).trans rfl, (blk_cell BRw5.out 0).trans rfl, (blk_cell BRw5.out 1).trans rfl, (blk_cell BRw5.out 2).trans rfl, (G2.out _ HBw5.out).1, (G2.out _ HBw5.out).2.1, (G2.out _ HBw5.out).2.2⟩ (fun hHeld => ?_)
              clear hK K
              refine norm_ (a' := ?_) ?_ ?_
              rotate_left
              · show Act.put _ (some 45) _ = _
                simp only [Act.put, List.setIfInBounds_toArray, List.set_cons_zero, List.set_cons_succ, i64_w, i32_w]
                rfl
              refine pure_ (i := 6) (N := some 4) (v := ?_) (a' := ?_) #[true, true, true, true, true, true, true] rfl rfl (any_of HT_.out (by kernel_rfl)) (fun _ _ _ h => h) (Or.inl ⟨by rfl, ?_⟩) ?_ ?_
              rotate_left
              · intro w'
                go_simp
                with_reducible rfl
              rotate_left
              · simp only [Act.put, List.setIfInBounds_toArray, List.set_cons_zero, List.set_cons_succ, i64_w, i32_w]
                rfl
              refine done_ (done_of HT_.out (by kernel_rfl)) ?_

              go_wp2_with fail
              go_ret
              exact ⟨rfl, HBw5.out⟩
            · rw [if_neg hz] at h
              have H1 := Aside0.mk h
              have hzb : (v != 0) = true := bne_iff_ne.2 hz
              clear h
              go_enter Tryd.func26, Tryd.ntmps26
              go_wp2_with fail
              refine start_ (n := 7) (S := fun w' => w'.cell? ⟨w.heap.size, 2, none⟩ = some (.slice (some ad) l.length c) ∧ w'.cell? ⟨w.heap.size + 1, 0, none⟩ = some (.int .i64 r0) ∧ w'.cell? ⟨w.heap.size + 1, 1, none⟩ = some (.int .i64 r1) ∧ w'.cell? ⟨w.heap.size + 1, 2, none⟩ = some (.int .i64 r2) ∧ w'.cell? ad = some (.int .i64 x0.f0) ∧ w'.cell? ⟨ad.block, ad.off + 1, none⟩ = some (.int .i64 x0.f1) ∧ w'.cell? ⟨ad.block, ad.off + 2, none⟩ = some (.slice A0 x0.f2.length c0)) (ds := []) #[false, false, false, false, false, false, false] (by kernel_rfl) rfl rfl ⟨(blk_cell BE0.out 2).trans rfl, (blk_cell BR0.out 0).trans rfl, (blk_cell BR0.out 1).trans rfl, (blk_cell BR0.out 2).trans rfl, (G0.out _ HB0.out).1, (G0.out _ HB0.out).2.1, (G0.out _ HB0.out).2.2⟩ (fun hHeld => ?_); refine with_tabW expr_eval.tab11 expr_eval.bits11 (fun HT_ HW_ => ?_)
              have BEd := Aside0.mk (blk_drew BE0.out)
              have BRd := Aside0.mk (blk_drew BR0.out)
              have HBd := Aside0.mk (below_drew1 HB0.out)
              clear BE0 BR0 HB0
              generalize World.drew _ = w3 at BEd BRd HBd hHeld ⊢
              refine pure_ (i := 0) (N := some 27) (v := ?_) (a' := ?_) #[true, false, false, false, false, false, false] rfl rfl (any_of HT_.out (by kernel_rfl)) (fun _ _ _ h => h) (Or.inl ⟨by rfl, ?_⟩) ?_ ?_
              rotate_left
              · intro w'
                go_simp
                with_reducible rfl
              rotate_left
              · simp only [Act.put, List.setIfInBounds_toArray, List.set_cons_zero, List.set_cons_succ, i64_w, i32_w]
                rfl
              refine take_ (i := 1) (N := some 28) (v := ?_) (a' := ?_) #[true, true, false, false, false, false, false] rfl rfl (take_ofW HT_.out HW_.out (by kernel_rfl)) (fun _ _ _ h => h) (Or.inl ⟨by rfl, ?_⟩) hHeld ?_ ?_
              rotate_left
              · rintro w' ⟨s0, s1, s2, s3, s4, s5, s6⟩
                go_simp
                with_reducible rfl
              rotate_left
              · simp only [Act.put, List.setIfInBounds_toArray, List.set_cons_zero, List.set_cons_succ, i64_w, i32_w]
                rfl
              refine pure_ (i := 2) (N := some 29) (v := ?_) (a' := ?_) #[true, true, true, false, false, false, false] rfl rfl (any_of HT_.out (by kernel_rfl)) (fun _ _ _ h => h) (Or.inl ⟨by rfl, ?_⟩) ?_ ?_
              rotate_left
              · intro w'
                go_simp
                with_reducible rfl
              rotate_left
              · simp only [Act.put, List.setIfInBounds_toArray, List.set_cons_zero, List.set_cons_succ, i64_w, i32_w]
                rfl
              refine take_ (i := 3) (N := some 30) (v := ?_) (a' := ?_) #[true, true, true, true, false, false, false] rfl rfl (take_ofW HT_.out HW_.out (by kernel_rfl)) (fun _ _ _ h => h) (Or.inl ⟨by rfl, ?_⟩) hHeld ?_ ?_
              rotate_left
              · rintro w' ⟨s0, s1, s2, s3, s4, s5, s6⟩
                go_simp
                with_reducible rfl
              rotate_left
              · simp only [Act.put, List.setIfInBounds_toArray, List.set_cons_zero, List.set_cons_succ, i64_w, i32_w]
                rfl
              refine take_ (i := 4) (N := some 31) (v := ?_) (a' := ?_) #[true, true, true, true, true, false, false] rfl rfl (take_ofW HT_.out HW_.out (by kernel_rfl)) (fun _ _ _ h => h) (Or.inl ⟨by rfl, ?_⟩) hHeld ?_ ?_
              rotate_left
              · rintro w' ⟨s0, s1, s2, s3, s4, s5, s6⟩
                go_simp
                with_reducible rfl
              rotate_left
              · simp only [Act.put, List.setIfInBounds_toArray, List.set_cons_zero, List.set_cons_succ, i64_w, i32_w]
                rfl
              refine one_ (i := 5) (N := some 32) #[true, true, true, true, true, true, false] rfl rfl (one_of HT_.out (by kernel_rfl)) (by decide) (fun K hK => ?_)
              refine goes_ Tryd.func26 (by kernel_rfl) rfl #[.agg #[.int .i64 x0.f0, .int .i64 x0.f1, .slice A0 x0.f2.length c0], .agg #[.int .i64 r0, .int .i64 r1, .int .i64 r2]] (by rfl) rfl rfl (by (try simp only [List.map_toArray, List.map_cons, List.map_nil]); first | done | rfl) ?_
              refine (IH.out _ _ _ _ _ _ _ _ v _ (Kd.C_below K0.out.2 (HBd.out)) K0.out.1 H0.out).mono ?_
              rintro e w3b ⟨rfl, hb⟩
              refine ⟨_, rfl, ?_⟩
              have BEw3 := Aside0.mk (blk_below BEd.out hb)
              have BRw3 := Aside0.mk (blk_below BRd.out hb)
              have HBw3 := Aside0.mk (below_step HBd.out hb)
              clear BEd BRd HBd hb
              refine hK.out _ _ ⟨(blk_cell BEw3.out 2).trans rfl, (blk_cell BRw3.out 0).trans rfl, (blk_cell BRw3.out 1).trans rfl, (blk_cell BRw3.out 2).trans rfl, (G0.out _ HBw3.out).1, (G0.out _ HBw3.out).2.1, (G0.out _ HBw3.out).2.2⟩ (fun hHeld => ?_)
              clear hK K
              refine norm_ (a' := ?_) ?_ ?_
              rotate_left
              · show Act.put _ (some 32) _ = _
                simp only [Act.put, List.setIfInBounds_toArray, List.set_cons_zero, List.set_cons_succ, i64_w, i32_w]
                rfl
              refine pure_ (i := 6) (N := some 33) (v := ?_) (a' := ?_) #[true, true, true, true, true, true, true] rfl rfl (any_of HT_.out (by kernel_rfl)) (fun _ _ _ h => h) (Or.inl ⟨by rfl, ?_⟩) ?_ ?_
              rotate_left
              · intro w'
                go_simp
                with_reducible rfl
              rotate_left
              · simp only [Act.put, List.setIfInBounds_toArray, List.set_cons_zero, List.set_cons_succ, i64_w, i32_w]
                rfl
              refine done_ (done_of HT_.out (by kernel_rfl)) ?_

              go_wp2_with fail
              refine start_ (n := 7) (S := fun w' => w'.cell? ⟨w.heap.size, 2, none⟩ = some (.slice (some ad) l.length c) ∧ w'.cell? ⟨w.heap.size + 1, 0, none⟩ = some (.int .i64 r0) ∧ w'.cell? ⟨w.heap.size + 1, 1, none⟩ = some (.int .i64 r1) ∧ w'.cell? ⟨w.heap.size + 1, 2, none⟩ = some (.int .i64 r2) ∧ w'.cell? ⟨ad.block, ad.off + 3, none⟩ = some (.int .i64 x1.f0) ∧ w'.cell? ⟨ad.block, ad.off + 4, none⟩ = some (.int .i64 x1.f1) ∧ w'.cell? ⟨ad.block, ad.off + 5, none⟩ = some (.slice A1 x1.f2.length c1)) (ds := []) #[false, false, false, false, false, false, false] (by kernel_rfl) rfl rfl ⟨(blk_cell BEw3.out 2).trans rfl, (blk_cell BRw3.out 0).trans rfl, (blk_cell BRw3.out 1).trans rfl, (blk_cell BRw3.out 2).trans rfl, (G1.out _ HBw3.out).1, (G1.out _ HBw3.out).2.1, (G1.out _ HBw3.out).2.2⟩ (fun hHeld => ?_); refine with_tabW expr_eval.tab12 expr_eval.bits12 (fun HT_ HW_ => ?_)
              have BEd := Aside0.mk (blk_drew BEw3.out)
              have BRd := Aside0.mk (blk_drew BRw3.out)
              have HBd := Aside0.mk (below_drew1 HBw3.out)
              clear BEw3 BRw3 HBw3
              generalize World.drew _ = w5 at BEd BRd HBd hHeld ⊢
              refine pure_ (i := 0) (N := some 34) (v := ?_) (a' := ?_) #[true, false, false, false, false, false, false] rfl rfl (any_of HT_.out (by kernel_rfl)) (fun _ _ _ h => h) (Or.inl ⟨by rfl, ?_⟩) ?_ ?_
              rotate_left
              · intro w'
                go_simp
                with_reducible rfl
              rotate_left
              · simp only [Act.put, List.setIfInBounds_toArray, List.set_cons_zero, List.set_cons_succ, i64_w, i32_w]
                rfl
              refine take_ (i := 1) (N := some 35) (v := ?_) (a' := ?_) #[true, true, false, false, false, false, false] rfl rfl (take_ofW HT_.out HW_.out (by kernel_rfl)) (fun _ _ _ h => h) (Or.inl ⟨by rfl, ?_⟩) hHeld ?_ ?_
              rotate_left
              · rintro w' ⟨s0, s1, s2, s3, s4, s5, s6⟩
                go_simp
                with_reducible rfl
              rotate_left
              · simp only [Act.put, List.setIfInBounds_toArray, List.set_cons_zero, List.set_cons_succ, i64_w, i32_w]
                rfl
              refine pure_ (i := 2) (N := some 36) (v := ?_) (a' := ?_) #[true, true, true, false, false, false, false] rfl rfl (any_of HT_.out (by kernel_rfl)) (fun _ _ _ h => h) (Or.inl ⟨by rfl, ?_⟩) ?_ ?_
              rotate_left
              · intro w'
                go_simp
                with_reducible rfl
              rotate_left
              · simp only [Act.put, List.setIfInBounds_toArray, List.set_cons_zero, List.set_cons_succ, i64_w, i32_w]
                rfl
              refine take_ (i := 3) (N := some 37) (v := ?_) (a' := ?_) #[true, true, true, true, false, false, false] rfl rfl (take_ofW HT_.out HW_.out (by kernel_rfl)) (fun _ _ _ h => h) (Or.inl ⟨by rfl, ?_⟩) hHeld ?_ ?_
              rotate_left
              · rintro w' ⟨s0, s1, s2, s3, s4, s5, s6⟩
                go_simp
                with_reducible rfl
              rotate_left
              · simp only [Act.put, List.setIfInBounds_toArray, List.set_cons_zero, List.set_cons_succ, i64_w, i32_w]
                rfl
              refine take_ (i := 4) (N := some 38) (v := ?_) (a' := ?_) #[true, true, true, true, true, false, false] rfl rfl (take_ofW HT_.out HW_.out (by kernel_rfl)) (fun _ _ _ h => h) (Or.inl ⟨by rfl, ?_⟩) hHeld ?_ ?_
              rotate_left
              · rintro w' ⟨s0, s1, s2, s3, s4, s5, s6⟩
                go_simp
                with_reducible rfl
              rotate_left
              · simp only [Act.put, List.setIfInBounds_toArray, List.set_cons_zero, List.set_cons_succ, i64_w, i32_w]
                rfl
              refine one_ (i := 5) (N := some 39) #[true, true, true, true, true, true, false] rfl rfl (one_of HT_.out (by kernel_rfl)) (by decide) (fun K hK => ?_)
              refine goes_ Tryd.func26 (by kernel_rfl) rfl #[.agg #[.int .i64 x1.f0, .int .i64 x1.f1, .slice A1 x1.f2.length c1], .agg #[.int .i64 r0, .int .i64 r1, .int .i64 r2]] (by rfl) rfl rfl (by (try simp only [List.map_toArray, List.map_cons, List.map_nil]); first | done | rfl) ?_
              refine (IH.out _ _ _ _ _ _ _ _ r _ (Kd.C_below K1.out.2 (HBd.out)) K1.out.1 H1.out).mono ?_
              rintro e w5b ⟨rfl, hb⟩
              refine ⟨_, rfl, ?_⟩
              have BEw5 := Aside0.mk (blk_below BEd.out hb)
              have BRw5 := Aside0.mk (blk_below BRd.out hb)
              have HBw5 := Aside0.mk (below_step HBd.out hb)
              clear BEd BRd HBd hb
              refine hK.out _ _ ⟨(blk_cell BEw5.out 2).trans rfl, (blk_cell BRw5.out 0).trans rfl, (blk_cell BRw5.out 1).trans rfl, (blk_cell BRw5.out 2).trans rfl, (G1.out _ HBw5.out).1, (G1.out _ HBw5.out).2.1, (G1.out _ HBw5.out).2.2⟩ (fun hHeld => ?_)
              clear hK K
              refine norm_ (a' := ?_) ?_ ?_
              rotate_left
              · show Act.put _ (some 39) _ = _
                simp only [Act.put, List.setIfInBounds_toArray, List.set_cons_zero, List.set_cons_succ, i64_w, i32_w]
                rfl
              refine pure_ (i := 6) (N := some 4) (v := ?_) (a' := ?_) #[true, true, true, true, true, true, true] rfl rfl (any_of HT_.out (by kernel_rfl)) (fun _ _ _ h => h) (Or.inl ⟨by rfl, ?_⟩) ?_ ?_
              rotate_left
              · intro w'
                go_simp
                with_reducible rfl
              rotate_left
              · simp only [Act.put, List.setIfInBounds_toArray, List.set_cons_zero, List.set_cons_succ, i64_w, i32_w]
                rfl
              refine done_ (done_of HT_.out (by kernel_rfl)) ?_

              go_wp2_with fail
              go_ret
              exact ⟨rfl, HBw5.out⟩
          · rw [if_neg hl] at h; cases h
        · have b14 : (op == 14) = false := beq_eq_false_iff_ne.2 h14
          rw [if_neg h14] at h
          by_cases hl : 1 < l.length
          · rw [if_pos hl] at h
            obtain ⟨ad, A0, c0, e0, g0_0, g0_1, g0_2, hl0, hk0⟩ := at_T24 HR.out (0 : Int) (by omega) (by omega)
            cases e0
            obtain ⟨x0, hx0⟩ : ∃ x, rd_T24 l 0 = x := ⟨_, rfl⟩
            rw [hx0] at g0_0 g0_1 g0_2 hl0 hk0
            rw [hx0] at h
            rw [show (0 : Int).toNat * 3 = 0 from rfl, add0] at g0_0 g0_1 g0_2
            have G0 : Aside0 (∀ W : World, Below w.heap.size w W → W.cell? ad = some (.int .i64 x0.f0) ∧ W.cell? ⟨ad.block, ad.off + 1, none⟩ = some (.int .i64 x0.f1) ∧ W.cell? ⟨ad.block, ad.off + 2, none⟩ = some (.slice A0 x0.f2.length c0)) := ⟨fun W hW => ⟨(hW.cell (World.block_lt_of_cell? w _ g0_0)).trans g0_0, (hW.cell (World.block_lt_of_cell? w _ g0_1)).trans g0_1, (hW.cell (World.block_lt_of_cell? w _ g0_2)).trans g0_2⟩⟩
            have K0 : Aside0 (x0.f2.length ≤ c0 ∧ Kd.C k24 w A0 x0.f2.length x0.f2) := ⟨hl0, hk0⟩
            clear g0_0 g0_1 g0_2 hl0 hk0 hx0
            obtain ⟨ad1, A1, c1, e1, g1_0, g1_1, g1_2, hl1, hk1⟩ := at_T24 HR.out (1 : Int) (by omega) (by omega)
            obtain rfl : ad = ad1 := (by injection e1)
            obtain ⟨x1, hx1⟩ : ∃ x, rd_T24 l 1 = x := ⟨_, rfl⟩
            rw [hx1] at g1_0 g1_1 g1_2 hl1 hk1
            rw [hx1] at h
            rw [show (1 : Int).toNat * 3 = 3 from rfl, add3] at g1_0 g1_1 g1_2
            have G1 : Aside0 (∀ W : World, Below w.heap.size w W → W.cell? ⟨ad.block, ad.off + 3, none⟩ = some (.int .i64 x1.f0) ∧ W.cell? ⟨ad.block, ad.off + 4, none⟩ = some (.int .i64 x1.f1) ∧ W.cell? ⟨ad.block, ad.off + 5, none⟩ = some (.slice A1 x1.f2.length c1)) := ⟨fun W hW => ⟨(hW.cell (World.block_lt_of_cell? w _ g1_0)).trans g1_0, (hW.cell (World.block_lt_of_cell? w _ g1_1)).trans g1_1, (hW.cell (World.block_lt_of_cell? w _ g1_2)).trans g1_2⟩⟩
            have K1 : Aside0 (x1.f2.length ≤ c1 ∧ Kd.C k24 w A1 x1.f2.length x1.f2) := ⟨hl1, hk1⟩
            clear g1_0 g1_1 g1_2 hl1 hk1 hx1
            obtain ⟨a, ha, h⟩ := Option.bind_eq_some_iff.mp h
            obtain ⟨b, hb0, h⟩ := Option.bind_eq_some_iff.mp h
            have H0 := Aside0.mk ha
            have H1 := Aside0.mk hb0
            obtain rfl := Option.some.inj h
            clear ha hb0 h
            have hn0 : 0 < l.length := by omega
            have hn1 : (1 : Int) < (l.length : Int) := by omega
            go_enter Tryd.func26, Tryd.ntmps26
            go_wp2_with fail
            refine start_ (n := 14) (S := fun w' => w'.cell? ⟨w.heap.size, 2, none⟩ = some (.slice (some ad) l.length c) ∧ w'.cell? ⟨w.heap.size + 1, 0, none⟩ = some (.int .i64 r0) ∧ w'.cell? ⟨w.heap.size + 1, 1, none⟩ = some (.int .i64 r1) ∧ w'.cell? ⟨w.heap.size + 1, 2, none⟩ = some (.int .i64 r2) ∧ w'.cell? ad = some (.int .i64 x0.f0) ∧ w'.cell? ⟨ad.block, ad.off + 1, none⟩ = some (.int .i64 x0.f1) ∧ w'.cell? ⟨ad.block, ad.off + 2, none⟩ = some (.slice A0 x0.f2.length c0) ∧ w'.cell? ⟨ad.block, ad.off + 3, none⟩ = some (.int .i64 x1.f0) ∧ w'.cell? ⟨ad.block, ad.off + 4, none⟩ = some (.int .i64 x1.f1) ∧ w'.cell? ⟨ad.block, ad.off + 5, none⟩ = some (.slice A1 x1.f2.length c1)) (ds := []) #[false, false, false, false, false, false, false, false, false, false, false, false, false, false] (by kernel_rfl) rfl rfl ⟨(blk_cell BE0.out 2).trans rfl, (blk_cell BR0.out 0).trans rfl, (blk_cell BR0.out 1).trans rfl, (blk_cell BR0.out 2).trans rfl, (G0.out _ HB0.out).1, (G0.out _ HB0.out).2.1, (G0.out _ HB0.out).2.2, (G1.out _ HB0.out).1, (G1.out _ HB0.out).2.1, (G1.out _ HB0.out).2.2⟩ (fun hHeld => ?_); refine with_tabW expr_eval.tab14 expr_eval.bits14 (fun HT_ HW_ => ?_)
            have BEd := Aside0.mk (blk_drew BE0.out)
            have BRd := Aside0.mk (blk_drew BR0.out)
            have HBd := Aside0.mk (below_drew1 HB0.out)
            clear BE0 BR0 HB0
            generalize World.drew _ = w3 at BEd BRd HBd hHeld ⊢
            refine pure_ (i := 0) (N := some 46) (v := ?_) (a' := ?_) #[true, false, false, false, false, false, false, false, false, false, false, false, false, false] rfl rfl (any_of HT_.out (by kernel_rfl)) (fun _ _ _ h => h) (Or.inl ⟨by rfl, ?_⟩) ?_ ?_
            rotate_left
            · intro w'
              go_simp
              with_reducible rfl
            rotate_left
            · simp only [Act.put, List.setIfInBounds_toArray, List.set_cons_zero, List.set_cons_succ, i64_w, i32_w]
              rfl
            refine pure_ (i := 6) (N := some 52) (v := ?_) (a' := ?_) #[true, false, false, false, false, false, true, false, false, false, false, false, false, false] rfl rfl (any_of HT_.out (by kernel_rfl)) (fun _ _ _ h => h) (Or.inl ⟨by rfl, ?_⟩) ?_ ?_
            rotate_left
            · intro w'
              go_simp
              with_reducible rfl
            rotate_left
            · simp only [Act.put, List.setIfInBounds_toArray, List.set_cons_zero, List.set_cons_succ, i64_w, i32_w]
              rfl
            refine take_ (i := 1) (N := some 47) (v := ?_) (a' := ?_) #[true, true, false, false, false, false, true, false, false, false, false, false, false, false] rfl rfl (take_ofW HT_.out HW_.out (by kernel_rfl)) (fun _ _ _ h => h) (Or.inl ⟨by rfl, ?_⟩) hHeld ?_ ?_
            rotate_left
            · rintro w' ⟨s0, s1, s2, s3, s4, s5, s6, s7, s8, s9⟩
              go_simp
              with_reducible rfl
            rotate_left
            · simp only [Act.put, List.setIfInBounds_toArray, List.set_cons_zero, List.set_cons_succ, i64_w, i32_w]
              rfl
            refine take_ (i := 7) (N := some 53) (v := ?_) (a' := ?_) #[true, true, false, false, false, false, true, true, false, false, false, false, false, false] rfl rfl (take_ofW HT_.out HW_.out (by kernel_rfl)) (fun _ _ _ h => h) (Or.inl ⟨by rfl, ?_⟩) hHeld ?_ ?_
            rotate_left
            · rintro w' ⟨s0, s1, s2, s3, s4, s5, s6, s7, s8, s9⟩
              go_simp
              with_reducible rfl
            rotate_left
            · simp only [Act.put, List.setIfInBounds_toArray, List.set_cons_zero, List.set_cons_succ, i64_w, i32_w]
              rfl
            refine pure_ (i := 2) (N := some 48) (v := ?_) (a' := ?_) #[true, true, true, false, false, false, true, true, false, false, false, false, false, false] rfl rfl (any_of HT_.out (by kernel_rfl)) (fun _ _ _ h => h) (Or.inl ⟨by rfl, ?_⟩) ?_ ?_
            rotate_left
            · intro w'
              go_simp
              with_reducible rfl
            rotate_left
            · simp only [Act.put, List.setIfInBounds_toArray, List.set_cons_zero, List.set_cons_succ, i64_w, i32_w]
              rfl
            refine pure_ (i := 8) (N := some 54) (v := ?_) (a' := ?_) #[true, true, true, false, false, false, true, true, true, false, false, false, false, false] rfl rfl (any_of HT_.out (by kernel_rfl)) (fun _ _ _ h => h) (Or.inl ⟨by rfl, ?_⟩) ?_ ?_
            rotate_left
            · intro w'
              go_simp
              with_reducible rfl
            rotate_left
            · simp only [Act.put, List.setIfInBounds_toArray, List.set_cons_zero, List.set_cons_succ, i64_w, i32_w]
              rfl
            refine take_ (i := 3) (N := some 49) (v := ?_) (a' := ?_) #[true, true, true, true, false, false, true, true, true, false, false, false, false, false] rfl rfl (take_ofW HT_.out HW_.out (by kernel_rfl)) (fun _ _ _ h => h) (Or.inl ⟨by rfl, ?_⟩) hHeld ?_ ?_
            rotate_left
            · rintro w' ⟨s0, s1, s2, s3, s4, s5, s6, s7, s8, s9⟩
              go_simp
              with_reducible rfl
            rotate_left
            · simp only [Act.put, List.setIfInBounds_toArray, List.set_cons_zero, List.set_cons_succ, i64_w, i32_w]
              rfl
            refine take_ (i := 9) (N := some 55) (v := ?_) (a' := ?_) #[true, true, true, true, false, false, true, true, true, true, false, false, false, false] rfl rfl (take_ofW HT_.out HW_.out (by kernel_rfl)) (fun _ _ _ h => h) (Or.inl ⟨by rfl, ?_⟩) hHeld ?_ ?_
            rotate_left
            · rintro w' ⟨s0, s1, s2, s3, s4, s5, s6, s7, s8, s9⟩
              go_simp
              with_reducible rfl
            rotate_left
            · simp only [Act.put, List.setIfInBounds_toArray, List.set_cons_zero, List.set_cons_succ, i64_w, i32_w]
              rfl
            refine take_ (i := 4) (N := some 50) (v := ?_) (a' := ?_) #[true, true, true, true, true, false, true, true, true, true, false, false, false, false] rfl rfl (take_ofW HT_.out HW_.out (by kernel_rfl)) (fun _ _ _ h => h) (Or.inl ⟨by rfl, ?_⟩) hHeld ?_ ?_
            rotate_left
            · rintro w' ⟨s0, s1, s2, s3, s4, s5, s6, s7, s8, s9⟩
              go_simp
              with_reducible rfl
            rotate_left
            · simp only [Act.put, List.setIfInBounds_toArray, List.set_cons_zero, List.set_cons_succ, i64_w, i32_w]
              rfl
            refine take_ (i := 10) (N := some 56) (v := ?_) (a' := ?_) #[true, true, true, true, true, false, true, true, true, true, true, false, false, false] rfl rfl (take_ofW HT_.out HW_.out (by kernel_rfl)) (fun _ _ _ h => h) (Or.inl ⟨by rfl, ?_⟩) hHeld ?_ ?_
            rotate_left
            · rintro w' ⟨s0, s1, s2, s3, s4, s5, s6, s7, s8, s9⟩
              go_simp
              with_reducible rfl
            rotate_left
            · simp only [Act.put, List.setIfInBounds_toArray, List.set_cons_zero, List.set_cons_succ, i64_w, i32_w]
              rfl
            refine one_ (i := 5) (N := some 51) #[true, true, true, true, true, true, true, true, true, true, true, false, false, false] rfl rfl (one_of HT_.out (by kernel_rfl)) (by decide) (fun K hK => ?_)
            refine goes_ Tryd.func26 (by kernel_rfl) rfl #[.agg #[.int .i64 x0.f0, .int .i64 x0.f1, .slice A0 x0.f2.length c0], .agg #[.int .i64 r0, .int .i64 r1, .int .i64 r2]] (by rfl) rfl rfl (by (try simp only [List.map_toArray, List.map_cons, List.map_nil]); first | done | rfl) ?_
            refine (IH.out _ _ _ _ _ _ _ _ a _ (Kd.C_below K0.out.2 (HBd.out)) K0.out.1 H0.out).mono ?_
            rintro e w4 ⟨rfl, hb⟩
            refine ⟨_, rfl, ?_⟩
            have BEw4 := Aside0.mk (blk_below BEd.out hb)
            have BRw4 := Aside0.mk (blk_below BRd.out hb)
            have HBw4 := Aside0.mk (below_step HBd.out hb)
            clear BEd BRd HBd hb
            refine hK.out _ _ ⟨(blk_cell BEw4.out 2).trans rfl, (blk_cell BRw4.out 0).trans rfl, (blk_cell BRw4.out 1).trans rfl, (blk_cell BRw4.out 2).trans rfl, (G0.out _ HBw4.out).1, (G0.out _ HBw4.out).2.1, (G0.out _ HBw4.out).2.2, (G1.out _ HBw4.out).1, (G1.out _ HBw4.out).2.1, (G1.out _ HBw4.out).2.2⟩ (fun hHeld => ?_)
            clear hK K
            refine norm_ (a' := ?_) ?_ ?_
            rotate_left
            · show Act.put _ (some 51) _ = _
              simp only [Act.put, List.setIfInBounds_toArray, List.set_cons_zero, List.set_cons_succ, i64_w, i32_w]
              rfl
            refine one_ (i := 11) (N := some 57) #[true, true, true, true, true, true, true, true, true, true, true, true, false, false] rfl rfl (one_of HT_.out (by kernel_rfl)) (by decide) (fun K hK => ?_)
            refine goes_ Tryd.func26 (by kernel_rfl) rfl #[.agg #[.int .i64 x1.f0, .int .i64 x1.f1, .slice A1 x1.f2.length c1], .agg #[.int .i64 r0, .int .i64 r1, .int .i64 r2]] (by rfl) rfl rfl (by (try simp only [List.map_toArray, List.map_cons, List.map_nil]); first | done | rfl) ?_
            refine (IH.out _ _ _ _ _ _ _ _ b _ (Kd.C_below K1.out.2 (HBw4.out)) K1.out.1 H1.out).mono ?_
            rintro e w5 ⟨rfl, hb⟩
            refine ⟨_, rfl, ?_⟩
            have BEw5 := Aside0.mk (blk_below BEw4.out hb)
            have BRw5 := Aside0.mk (blk_below BRw4.out hb)
            have HBw5 := Aside0.mk (below_step HBw4.out hb)
            clear BEw4 BRw4 HBw4 hb
            refine hK.out _ _ ⟨(blk_cell BEw5.out 2).trans rfl, (blk_cell BRw5.out 0).trans rfl, (blk_cell BRw5.out 1).trans rfl, (blk_cell BRw5.out 2).trans rfl, (G0.out _ HBw5.out).1, (G0.out _ HBw5.out).2.1, (G0.out _ HBw5.out).2.2, (G1.out _ HBw5.out).1, (G1.out _ HBw5.out).2.1, (G1.out _ HBw5.out).2.2⟩ (fun hHeld => ?_)
            clear hK K
            refine norm_ (a' := ?_) ?_ ?_
            rotate_left
            · show Act.put _ (some 57) _ = _
              simp only [Act.put, List.setIfInBounds_toArray, List.set_cons_zero, List.set_cons_succ, i64_w, i32_w]
              rfl
            refine pure_ (i := 12) (N := some 5) (v := ?_) (a' := ?_) #[true, true, true, true, true, true, true, true, true, true, true, true, true, false] rfl rfl (any_of HT_.out (by kernel_rfl)) (fun _ _ _ h => h) (Or.inl ⟨by rfl, ?_⟩) ?_ ?_
            rotate_left
            · intro w'
              go_simp
              with_reducible rfl
            rotate_left
            · simp only [Act.put, List.setIfInBounds_toArray, List.set_cons_zero, List.set_cons_succ, i64_w, i32_w]
              rfl
            refine pure_ (i := 13) (N := some 6) (v := ?_) (a' := ?_) #[true, true, true, true, true, true, true, true, true, true, true, true, true, true] rfl rfl (any_of HT_.out (by kernel_rfl)) (fun _ _ _ h => h) (Or.inl ⟨by rfl, ?_⟩) ?_ ?_
            rotate_left
            · intro w'
              go_simp
              with_reducible rfl
            rotate_left
            · simp only [Act.put, List.setIfInBounds_toArray, List.set_cons_zero, List.set_cons_succ, i64_w, i32_w]
              rfl
            refine done_ (done_of HT_.out (by kernel_rfl)) ?_

            have hoe : w5.cell? ⟨w.heap.size, 0, none⟩ = some (.int .i64 op) := (blk_cell BEw5.out 0).trans rfl
            clear hHeld
            by_cases q5 : op = 5
            · subst q5
              go_wp2_with fail
              go_ret
              exact ⟨rfl, HBw5.out⟩
            have e5 : (op == 5) = false := beq_eq_false_iff_ne.2 q5
            by_cases q6 : op = 6
            · subst q6
              go_wp2_with fail
              go_ret
              exact ⟨rfl, HBw5.out⟩
            have e6 : (op == 6) = false := beq_eq_false_iff_ne.2 q6
            by_cases q7 : op = 7
            · subst q7
              go_wp2_with fail
              go_ret
              exact ⟨rfl, HBw5.out⟩
            have e7 : (op == 7) = false := beq_eq_false_iff_ne.2 q7
            by_cases q8 : op = 8
            · subst q8
              obtain ⟨j, hj⟩ : ∃ j, (if b < a then b else a) = j := ⟨_, rfl⟩
              go_wp2_with fail
              go_ret
              exact ⟨by first | rfl | (rw [← hj]; rfl), HBw5.out⟩
            have e8 : (op == 8) = false := beq_eq_false_iff_ne.2 q8
            by_cases q9 : op = 9
            · subst q9
              obtain ⟨j, hj⟩ : ∃ j, (if a < b then b else a) = j := ⟨_, rfl⟩
              go_wp2_with fail
              go_ret
              exact ⟨by first | rfl | (rw [← hj]; rfl), HBw5.out⟩
            have e9 : (op == 9) = false := beq_eq_false_iff_ne.2 q9
            by_cases q10 : op = 10
            · subst q10
              go_wp2_with fail
              go_ret
              exact ⟨rfl, HBw5.out⟩
            have e10 : (op == 10) = false := beq_eq_false_iff_ne.2 q10
            by_cases q11 : op = 11
            · subst q11
              go_wp2_with fail
              go_ret
              exact ⟨rfl, HBw5.out⟩
            have e11 : (op == 11) = false := beq_eq_false_iff_ne.2 q11
            by_cases q12 : op = 12
            · subst q12
              by_cases hab : a < b
              · have hd : decide (a < b) = true := decide_eq_true hab
                have HAB := Aside0.mk hab
                clear hab
                have htr := fun w' => expr_truth.calls true 1 w' rfl
                go_wp2_with (go_at_call 31; refine (htr _).mono ?_; rintro e w6 ⟨rfl, ⟨nd, rfl⟩⟩)
                go_ret
                exact ⟨by show Ending.returned (.int .i64 1) = .returned (.int .i64 (if a < b then 1 else 0)); rw [if_pos HAB.out], pw_below_drewN HBw5.out nd⟩
              · have hd : decide (a < b) = false := decide_eq_false hab
                have HAB := Aside0.mk hab
                clear hab
                have htr := fun w' => expr_truth.calls false 0 w' rfl
                go_wp2_with (go_at_call 31; refine (htr _).mono ?_; rintro e w6 ⟨rfl, ⟨nd, rfl⟩⟩)
                go_ret
                exact ⟨by show Ending.returned (.int .i64 0) = .returned (.int .i64 (if a < b then 1 else 0)); rw [if_neg (by have := HAB.out; omega)], pw_below_drewN HBw5.out nd⟩
            have e12 : (op == 12) = false := beq_eq_false_iff_ne.2 q12
            have hop : opP op a b = if a = b then 1 else 0 := by
              unfold opP
              rw [if_neg q5, if_neg q6, if_neg q7, if_neg q8, if_neg q9, if_neg q10, if_neg q11, if_neg q12]
            have HOP := Aside0.mk hop
            clear hop
            by_cases hab : a = b
            · have hd : (a == b) = true := beq_iff_eq.2 hab
              have htr := fun w' => expr_truth.calls true 1 w' rfl
              have HAB := Aside0.mk hab
              clear hab
              go_wp2_with (go_at_call 31; refine (htr _).mono ?_; rintro e w6 ⟨rfl, ⟨nd, rfl⟩⟩)
              go_ret
              exact ⟨by rw [HOP.out, if_pos HAB.out]; rfl, pw_below_drewN HBw5.out nd⟩
            · have hd : (a == b) = false := beq_eq_false_iff_ne.2 hab
              have htr := fun w' => expr_truth.calls false 0 w' rfl
              have HAB := Aside0.mk hab
              clear hab
              go_wp2_with (go_at_call 31; refine (htr _).mono ?_; rintro e w6 ⟨rfl, ⟨nd, rfl⟩⟩)
              go_ret
              exact ⟨by rw [HOP.out, if_neg HAB.out]; rfl, pw_below_drewN HBw5.out nd⟩
          · rw [if_neg hl] at h; cases h
end Go.Proofs.YtdmfakgbiaaacaaDoor.X
namespace Go.Proofs.YtdmfakgbiaaacaaDoor.X
open Go.RowKit Go.Proofs.YtdmfakgbiaaacaaDoorW.PrintWords Go.Proofs.YtdmfakgbiaaacaaDoorW.PrintLast Go.Proofs.YtdmfakgbiaaacaaDoorW.PrintMore
attribute [local go_sem] max2_int min2_int max_two min_two max_three min_three max_four min_four   -- for this text's walks alone
set_option linter.unusedVariables false
set_option linter.unusedSimpArgs false
def expr_Eval.f (k : Nat) (a0_0 : Int) (a0_1 : Int) (l0_2 : List (S24)) (a1_0 : Int) (a1_1 : Int) (a1_2 : Int) : Option (Int) := (expr_Check.f k a0_0 a0_1 l0_2).bind fun t117 => (if t117 = 0 then ((expr_eval.f k a0_0 a0_1 l0_2 a1_0 a1_1 a1_2).bind fun t118 => (some t118)) else (some 0))
set_option maxHeartbeats 8000000 in
set_option maxRecDepth 100000 in
theorem expr_Eval.calls (k : Nat) (a0_0 : Int) (a0_1 : Int) (A0_2 : Option Addr) (c0_2 : Nat) (l0_2 : List (S24)) (a1_0 : Int) (a1_1 : Int) (a1_2 : Int) (r : Int) (w : World) (hr0_2 : Kd.C k24 w A0_2 l0_2.length l0_2) (hc0_2 : l0_2.length ≤ c0_2) (h : expr_Eval.f k a0_0 a0_1 l0_2 a1_0 a1_1 a1_2 = some r) :
  Calls Tryd.prog 12 #[.agg #[.int .i64 a0_0, .int .i64 a0_1, .slice A0_2 l0_2.length c0_2], .agg #[.int .i64 a1_0, .int .i64 a1_1, .int .i64 a1_2]] w fun e w' => e = .returned (.int .i64 r) ∧ Below w.heap.size w w' := by
 have hu24 := Tryd.underlying24
 have hu26 := Tryd.underlying26
 have HR0_2 := Aside0.mk hr0_2
 have HC0_2 := Aside0.mk hc0_2
 clear hr0_2 hc0_2
 have HB := Aside0.mk (Below.refl w.heap.size w)
 have H : ((expr_Check.f k a0_0 a0_1 l0_2).bind fun t117 => (if t117 = 0 then ((expr_eval.f k a0_0 a0_1 l0_2 a1_0 a1_1 a1_2).bind fun t118 => (some t118)) else (some 0))) = some r := h
 clear h
 replace H := Option.bind_eq_some_iff.mp H
 obtain ⟨t117, A30, H⟩ := H
 replace H : (if t117 = 0 then ((expr_eval.f k a0_0 a0_1 l0_2 a1_0 a1_1 a1_2).bind fun t118 => (some t118)) else (some 0)) = some r := H
 have A3 := Aside0.mk A30
 clear A30
 by_cases c4 : t117 = 0
 ·rw [if_pos c4] at H
  have c4b0 : (t117 == 0) = true := beq_iff_eq.mpr c4
  have c4b1 : (t117 != 0) = false := bne_eq_false_iff_eq.mpr c4
  clear c4
  replace H := Option.bind_eq_some_iff.mp H
  obtain ⟨t118, A50, H⟩ := H
  replace H : (some t118) = some r := H
  have A5 := Aside0.mk A50
  clear A50
  obtain rfl := Option.some.inj H
  go_enter Tryd.func12, Tryd.ntmps12
  go_wp2_with (first | ((with_reducible refine gate_dst (N := 2) rfl ?_); refine box_event ?hg (N := 2) ?hd (cs := #[.int .i64 a0_0, .int .i64 a0_1, .slice A0_2 l0_2.length c0_2]) (t := 24) ?hr ?_; (case hd => rfl); (case hg => rfl); (case hr => first | (go_simp; done) | (go_simp; rfl)); intro gb115 hg w6 hbox hb; have n0_ := Aside0.mk (below_step (by repeat (first | (with_reducible first | exact HB.out | apply below_alloc | apply pw_below_drewN | apply below_drew1) | exact HB.out)) hb); have n1_ := Aside0.mk (hbox); have n2_ := Aside0.mk ((by rw [hg]; exact (below_size (by repeat (first | (with_reducible first | exact HB.out | apply below_alloc | apply pw_below_drewN | apply below_drew1) | exact HB.out))) : w.heap.size ≤ gb115)); have n3_ := Aside0.mk ((by rw [hg]; exact (below_size (by repeat (first | (with_reducible first | exact HB.out | apply below_alloc | apply pw_below_drewN | apply below_drew1) | exact HB.out))) : w.heap.size ≤ gb115)); clear HB; have HB := n0_; have BK115 := n1_; have GW115 := n2_; have GE115 := n3_; clear n0_ n1_ n2_ n3_; clear hb hbox hg) | ((with_reducible refine gate_dst (N := 3) rfl ?_); refine box_event ?hg (N := 3) ?hd (cs := #[.int .i64 a1_0, .int .i64 a1_1, .int .i64 a1_2]) (t := 26) ?hr ?_; (case hd => rfl); (case hg => rfl); (case hr => first | (go_simp; done) | (go_simp; rfl)); intro gb116 hg w7 hbox hb; have n0_ := Aside0.mk (blk_below (g := gb115) (o := .cells #[.int .i64 a0_0, .int .i64 a0_1, .slice A0_2 l0_2.length c0_2] 24 (0, 0)) (by (with_reducible repeat (first | refine blk_drewN ?_ _ | refine blk_drew ?_ | refine blk_alloc ?_ _)); exact BK115.out) hb); have n1_ := Aside0.mk (below_step (by repeat (first | (with_reducible first | exact HB.out | apply below_alloc | apply pw_below_drewN | apply below_drew1 | refine below_set ?_ GE115.out) | exact HB.out)) hb); have n2_ := Aside0.mk (hbox); have n3_ := Aside0.mk ((by rw [hg]; exact (below_size (by repeat (first | (with_reducible first | exact HB.out | apply below_alloc | apply pw_below_drewN | apply below_drew1 | refine below_set ?_ GE115.out) | exact HB.out))) : w.heap.size ≤ gb116)); have n4_ := Aside0.mk ((by rw [hg]; exact (below_size (by repeat (first | (with_reducible first | exact HB.out | apply below_alloc | apply pw_below_drewN | apply below_drew1 | refine below_set ?_ GE115.out) | exact HB.out))) : w.heap.size ≤ gb116)); have n5_ := Aside0.mk ((by rw [hg]; exact Nat.ne_of_lt (blk_lt (g := gb115) (o := .cells #[.int .i64 a0_0, .int .i64 a0_1, .slice A0_2 l0_2.length c0_2] 24 (0, 0)) (by (with_reducible repeat (first | refine blk_drewN ?_ _ | refine blk_drew ?_ | refine blk_alloc ?_ _)); exact BK115.out)) : gb115 ≠ gb116)); have n6_ := Aside0.mk ((by rw [hg]; exact Nat.ne_of_gt (blk_lt (g := gb115) (o := .cells #[.int .i64 a0_0, .int .i64 a0_1, .slice A0_2 l0_2.length c0_2] 24 (0, 0)) (by (with_reducible repeat (first | refine blk_drewN ?_ _ | refine blk_drew ?_ | refine blk_alloc ?_ _)); exact BK115.out)) : gb116 ≠ gb115)); clear BK115; clear HB; have BK115 := n0_; have HB := n1_; have BK116 := n2_; have GW116 := n3_; have GE116 := n4_; have NB115_116 := n5_; have NB116_115 := n6_; clear n0_ n1_ n2_ n3_ n4_ n5_ n6_; clear hb hbox hg; have hnb8 := NB115_116.out; have hnc8 := NB116_115.out; have hcz9_0 : w7.cell? ⟨gb115, 0, none⟩ = some (.int .i64 a0_0) := (blk_cell BK115.out 0).trans rfl; have hcz9_1 : w7.cell? ⟨gb115, 1, none⟩ = some (.int .i64 a0_1) := (blk_cell BK115.out 1).trans rfl; have hcz9_2 : w7.cell? ⟨gb115, 2, none⟩ = some (.slice A0_2 l0_2.length c0_2) := (blk_cell BK115.out 2).trans rfl; have hfz9_0 := blk_frozen BK115.out 0; have hfz9_1 := blk_frozen BK115.out 1; have hfz9_2 := blk_frozen BK115.out 2) | ((with_reducible refine gate_callee (f := 11) rfl ?_); refine goesL_ (some 6) rfl rfl Tryd.func11 (by kernel_rfl) rfl #[.agg #[.int .i64 a0_0, .int .i64 a0_1, .slice A0_2 l0_2.length c0_2]] rfl (by (try simp only [List.map_toArray, List.map_cons, List.map_nil]); first | done | rfl | (simp only [List.length_drop, List.length_take]; rfl)) ?_; (with_reducible refine (expr_Check.calls k a0_0 a0_1 _ _ l0_2 t117 _ ?side1 ?side2 A3.out).mono ?_); (case side1 => repeat (first | exact (Kd.C_below HR0_2.out HB.out) | (with_reducible refine Kd.C_alloc ?_ _) | (with_reducible refine Kd.C_drewN ?_ _) | (with_reducible refine Kd.C_drew ?_))); (case side2 => exact HC0_2.out); rintro e w10 ⟨rfl, hb⟩; refine ⟨_, rfl, ?_⟩; have n0_ := Aside0.mk (blk_below (g := gb115) (o := .cells #[.int .i64 a0_0, .int .i64 a0_1, .slice A0_2 l0_2.length c0_2] 24 (0, 0)) (by (with_reducible repeat (first | refine blk_drewN ?_ _ | refine blk_drew ?_ | refine blk_alloc ?_ _)); exact BK115.out) hb); have n1_ := Aside0.mk (blk_below (g := gb116) (o := .cells #[.int .i64 a1_0, .int .i64 a1_1, .int .i64 a1_2] 26 (0, 0)) (by (with_reducible repeat (first | refine blk_drewN ?_ _ | refine blk_drew ?_ | refine blk_alloc ?_ _)); exact BK116.out) hb); have n2_ := Aside0.mk (below_step (by repeat (first | (with_reducible first | exact HB.out | apply below_alloc | apply pw_below_drewN | apply below_drew1 | refine below_set ?_ GE115.out | refine below_set ?_ GE116.out) | exact HB.out)) hb); clear BK115; clear BK116; clear HB; have BK115 := n0_; have BK116 := n1_; have HB := n2_; clear n0_ n1_ n2_; (try clear hb); (try clear hb2); (try clear hk); (try clear hi); have hcz11_0 : w10.cell? ⟨gb115, 0, none⟩ = some (.int .i64 a0_0) := (blk_cell BK115.out 0).trans rfl; have hcz11_1 : w10.cell? ⟨gb115, 1, none⟩ = some (.int .i64 a0_1) := (blk_cell BK115.out 1).trans rfl; have hcz11_2 : w10.cell? ⟨gb115, 2, none⟩ = some (.slice A0_2 l0_2.length c0_2) := (blk_cell BK115.out 2).trans rfl; have hfz11_0 := blk_frozen BK115.out 0; have hfz11_1 := blk_frozen BK115.out 1; have hfz11_2 := blk_frozen BK115.out 2; have hcz12_0 : w10.cell? ⟨gb116, 0, none⟩ = some (.int .i64 a1_0) := (blk_cell BK116.out 0).trans rfl; have hcz12_1 : w10.cell? ⟨gb116, 1, none⟩ = some (.int .i64 a1_1) := (blk_cell BK116.out 1).trans rfl; have hcz12_2 : w10.cell? ⟨gb116, 2, none⟩ = some (.int .i64 a1_2) := (blk_cell BK116.out 2).trans rfl; have hfz12_0 := blk_frozen BK116.out 0; have hfz12_1 := blk_frozen BK116.out 1; have hfz12_2 := blk_frozen BK116.out 2) | ((with_reducible refine gate_callee (f := 26) rfl ?_); refine goesL_ (some 10) rfl rfl Tryd.func26 (by kernel_rfl) rfl #[.agg #[.int .i64 a0_0, .int .i64 a0_1, .slice A0_2 l0_2.length c0_2], .agg #[.int .i64 a1_0, .int .i64 a1_1, .int .i64 a1_2]] rfl (by (try simp only [List.map_toArray, List.map_cons, List.map_nil]); first | done | rfl | (simp only [List.length_drop, List.length_take]; rfl)) ?_; (with_reducible refine (expr_eval.calls k a0_0 a0_1 _ _ l0_2 a1_0 a1_1 a1_2 t118 _ ?side1 ?side2 A5.out).mono ?_); (case side1 => repeat (first | exact (Kd.C_below HR0_2.out HB.out) | (with_reducible refine Kd.C_alloc ?_ _) | (with_reducible refine Kd.C_drewN ?_ _) | (with_reducible refine Kd.C_drew ?_))); (case side2 => exact HC0_2.out); rintro e w13 ⟨rfl, hb⟩; refine ⟨_, rfl, ?_⟩; have n0_ := Aside0.mk (blk_below (g := gb115) (o := .cells #[.int .i64 a0_0, .int .i64 a0_1, .slice A0_2 l0_2.length c0_2] 24 (0, 0)) (by (with_reducible repeat (first | refine blk_drewN ?_ _ | refine blk_drew ?_ | refine blk_alloc ?_ _)); exact BK115.out) hb); have n1_ := Aside0.mk (blk_below (g := gb116) (o := .cells #[.int .i64 a1_0, .int .i64 a1_1, .int .i64 a1_2] 26 (0, 0)) (by (with_reducible repeat (first | refine blk_drewN ?_ _ | refine blk_drew ?_ | refine blk_alloc ?_ _)); exact BK116.out) hb); have n2_ := Aside0.mk (below_step (by repeat (first | (with_reducible first | exact HB.out | apply below_alloc | apply pw_below_drewN | apply below_drew1 | refine below_set ?_ GE115.out | refine below_set ?_ GE116.out) | exact HB.out)) hb); clear BK115; clear BK116; clear HB; have BK115 := n0_; have BK116 := n1_; have HB := n2_; clear n0_ n1_ n2_; (try clear hb); (try clear hb2); (try clear hk); (try clear hi)))
  go_ret
  exact ⟨by first | rfl | (simp [errW_none, errW_some] <;> rfl) | (simp [*, errW_none, errW_some] <;> rfl), by repeat (first | (with_reducible first | exact HB.out | apply below_alloc | apply pw_below_drewN | apply below_drew1 | refine below_set ?_ GE115.out | refine below_set ?_ GE116.out) | exact HB.out)⟩
 ·rw [if_neg c4] at H
  have c4b0 : (t117 == 0) = false := beq_eq_false_iff_ne.mpr c4
  have c4b1 : (t117 != 0) = true := bne_iff_ne.mpr c4
  obtain rfl := Option.some.inj H
  go_enter Tryd.func12, Tryd.ntmps12
  go_wp2_with (first | ((with_reducible refine gate_dst (N := 2) rfl ?_); refine box_event ?hg (N := 2) ?hd (cs := #[.int .i64 a0_0, .int .i64 a0_1, .slice A0_2 l0_2.length c0_2]) (t := 24) ?hr ?_; (case hd => rfl); (case hg => rfl); (case hr => first | (go_simp; done) | (go_simp; rfl)); intro gb115 hg w14 hbox hb; have n0_ := Aside0.mk (below_step (by repeat (first | (with_reducible first | exact HB.out | apply below_alloc | apply pw_below_drewN | apply below_drew1) | exact HB.out)) hb); have n1_ := Aside0.mk (hbox); have n2_ := Aside0.mk ((by rw [hg]; exact (below_size (by repeat (first | (with_reducible first | exact HB.out | apply below_alloc | apply pw_below_drewN | apply below_drew1) | exact HB.out))) : w.heap.size ≤ gb115)); have n3_ := Aside0.mk ((by rw [hg]; exact (below_size (by repeat (first | (with_reducible first | exact HB.out | apply below_alloc | apply pw_below_drewN | apply below_drew1) | exact HB.out))) : w.heap.size ≤ gb115)); clear HB; have HB := n0_; have BK115 := n1_; have GW115 := n2_; have GE115 := n3_; clear n0_ n1_ n2_ n3_; clear hb hbox hg) | ((with_reducible refine gate_dst (N := 3) rfl ?_); refine box_event ?hg (N := 3) ?hd (cs := #[.int .i64 a1_0, .int .i64 a1_1, .int .i64 a1_2]) (t := 26) ?hr ?_; (case hd => rfl); (case hg => rfl); (case hr => first | (go_simp; done) | (go_simp; rfl)); intro gb116 hg w15 hbox hb; have n0_ := Aside0.mk (blk_below (g := gb115) (o := .cells #[.int .i64 a0_0, .int .i64 a0_1, .slice A0_2 l0_2.length c0_2] 24 (0, 0)) (by (with_reducible repeat (first | refine blk_drewN ?_ _ | refine blk_drew ?_ | refine blk_alloc ?_ _)); exact BK115.out) hb); have n1_ := Aside0.mk (below_step (by repeat (first | (with_reducible first | exact HB.out | apply below_alloc | apply pw_below_drewN | apply below_drew1 | refine below_set ?_ GE115.out) | exact HB.out)) hb); have n2_ := Aside0.mk (hbox); have n3_ := Aside0.mk ((by rw [hg]; exact (below_size (by repeat (first | (with_reducible first | exact HB.out | apply below_alloc | apply pw_below_drewN | apply below_drew1 | refine below_set ?_ GE115.out) | exact HB.out))) : w.heap.size ≤ gb116)); have n4_ := Aside0.mk ((by rw [hg]; exact (below_size (by repeat (first | (with_reducible first | exact HB.out | apply below_alloc | apply pw_below_drewN | apply below_drew1 | refine below_set ?_ GE115.out) | exact HB.out))) : w.heap.size ≤ gb116)); have n5_ := Aside0.mk ((by rw [hg]; exact Nat.ne_of_lt (blk_lt (g := gb115) (o := .cells #[.int .i64 a0_0, .int .i64 a0_1, .slice A0_2 l0_2.length c0_2] 24 (0, 0)) (by (with_reducible repeat (first | refine blk_drewN ?_ _ | refine blk_drew ?_ | refine blk_alloc ?_ _)); exact BK115.out)) : gb115 ≠ gb116)); have n6_ := Aside0.mk ((by rw [hg]; exact Nat.ne_of_gt (blk_lt (g := gb115) (o := .cells #[.int .i64 a0_0, .int .i64 a0_1, .slice A0_2 l0_2.length c0_2] 24 (0, 0)) (by (with_reducible repeat (first | refine blk_drewN ?_ _ | refine blk_drew ?_ | refine blk_alloc ?_ _)); exact BK115.out)) : gb116 ≠ gb115)); clear BK115; clear HB; have BK115 := n0_; have HB := n1_; have BK116 := n2_; have GW116 := n3_; have GE116 := n4_; have NB115_116 := n5_; have NB116_115 := n6_; clear n0_ n1_ n2_ n3_ n4_ n5_ n6_; clear hb hbox hg; have hnb16 := NB115_116.out; have hnc16 := NB116_115.out; have hcz17_0 : w15.cell? ⟨gb115, 0, none⟩ = some (.int .i64 a0_0) := (blk_cell BK115.out 0).trans rfl; have hcz17_1 : w15.cell? ⟨gb115, 1, none⟩ = some (.int .i64 a0_1) := (blk_cell BK115.out 1).trans rfl; have hcz17_2 : w15.cell? ⟨gb115, 2, none⟩ = some (.slice A0_2 l0_2.length c0_2) := (blk_cell BK115.out 2).trans rfl; have hfz17_0 := blk_frozen BK115.out 0; have hfz17_1 := blk_frozen BK115.out 1; have hfz17_2 := blk_frozen BK115.out 2) | ((with_reducible refine gate_callee (f := 11) rfl ?_); refine goesL_ (some 6) rfl rfl Tryd.func11 (by kernel_rfl) rfl #[.agg #[.int .i64 a0_0, .int .i64 a0_1, .slice A0_2 l0_2.length c0_2]] rfl (by (try simp only [List.map_toArray, List.map_cons, List.map_nil]); first | done | rfl | (simp only [List.length_drop, List.length_take]; rfl)) ?_; (with_reducible refine (expr_Check.calls k a0_0 a0_1 _ _ l0_2 t117 _ ?side1 ?side2 A3.out).mono ?_); (case side1 => repeat (first | exact (Kd.C_below HR0_2.out HB.out) | (with_reducible refine Kd.C_alloc ?_ _) | (with_reducible refine Kd.C_drewN ?_ _) | (with_reducible refine Kd.C_drew ?_))); (case side2 => exact HC0_2.out); rintro e w18 ⟨rfl, hb⟩; refine ⟨_, rfl, ?_⟩; have n0_ := Aside0.mk (blk_below (g := gb115) (o := .cells #[.int .i64 a0_0, .int .i64 a0_1, .slice A0_2 l0_2.length c0_2] 24 (0, 0)) (by (with_reducible repeat (first | refine blk_drewN ?_ _ | refine blk_drew ?_ | refine blk_alloc ?_ _)); exact BK115.out) hb); have n1_ := Aside0.mk (blk_below (g := gb116) (o := .cells #[.int .i64 a1_0, .int .i64 a1_1, .int .i64 a1_2] 26 (0, 0)) (by (with_reducible repeat (first | refine blk_drewN ?_ _ | refine blk_drew ?_ | refine blk_alloc ?_ _)); exact BK116.out) hb); have n2_ := Aside0.mk (below_step (by repeat (first | (with_reducible first | exact HB.out | apply below_alloc | apply pw_below_drewN | apply below_drew1 | refine below_set ?_ GE115.out | refine below_set ?_ GE116.out) | exact HB.out)) hb); clear BK115; clear BK116; clear HB; have BK115 := n0_; have BK116 := n1_; have HB := n2_; clear n0_ n1_ n2_; (try clear hb); (try clear hb2); (try clear hk); (try clear hi)))
  go_ret
  exact ⟨by first | rfl | (simp [errW_none, errW_some] <;> rfl) | (simp [*, errW_none, errW_some] <;> rfl), by repeat (first | (with_reducible first | exact HB.out | apply below_alloc | apply pw_below_drewN | apply below_drew1 | refine below_set ?_ GE115.out | refine below_set ?_ GE116.out) | exact HB.out)⟩
end Go.Proofs.YtdmfakgbiaaacaaDoor.X
namespace Go.Proofs.YtdmfakgbiaaacaaDoor.X
open Go.RowKit Go.Lib Go.Proofs Go.Proofs.YtdmfakgbiaaacaaDoorW.PrintWords Go.Proofs.YtdmfakgbiaaacaaDoorW.PrintLast Go.Proofs.YtdmfakgbiaaacaaDoorW.PrintMore Go.Proofs.YtdmfakgbiaaacaaDoor
set_option linter.unusedVariables false
set_option linter.unusedSimpArgs false
def wordL : List ByteArray := [⟨#[]⟩, ⟨#[]⟩, ⟨#[107, 101, 121]⟩, ⟨#[116, 105, 109, 101]⟩, ⟨#[118, 97, 108]⟩, ⟨#[97, 100, 100]⟩, ⟨#[115, 117, 98]⟩, ⟨#[109, 117, 108]⟩, ⟨#[109, 105, 110]⟩, ⟨#[109, 97, 120]⟩, ⟨#[120, 111, 114]⟩, ⟨#[97, 110, 100]⟩, ⟨#[108, 116]⟩, ⟨#[101, 113]⟩, ⟨#[105, 102]⟩]
def expr_word.f (op : Int) : Option ByteArray := if 0 ≤ op ∧ op < 15 then some (wordL.getD op.toNat ⟨#[]⟩) else none
set_option maxHeartbeats 4000000 in
theorem expr_word.calls (a0 : Int) (r : ByteArray) (w : World) (h : expr_word.f a0 = some r) :
    Calls Tryd.prog 33 #[.int .i64 a0] w fun e w' => e = .returned (.string r) ∧ Below w.heap.size w w' := by
  have hu54 := Tryd.underlying54
  have hu9 := Tryd.underlying9
  unfold expr_word.f at h
  by_cases hc : 0 ≤ a0 ∧ a0 < 15
  · rw [if_pos hc] at h
    have hr := Option.some.inj h
    clear h
    rcases (show a0 = 0 ∨ a0 = 1 ∨ a0 = 2 ∨ a0 = 3 ∨ a0 = 4 ∨ a0 = 5 ∨ a0 = 6 ∨ a0 = 7 ∨ a0 = 8 ∨ a0 = 9 ∨ a0 = 10 ∨ a0 = 11 ∨ a0 = 12 ∨ a0 = 13 ∨ a0 = 14 by omega) with rfl | rfl | rfl | rfl | rfl | rfl | rfl | rfl | rfl | rfl | rfl | rfl | rfl | rfl | rfl
    all_goals
      have HR := Aside0.mk hr
      clear hr hc
      go_enter Tryd.func33, Tryd.ntmps33
      go_wp2
      go_ret
      exact ⟨by rw [← HR.out]; rfl, below_alloc (Below.refl _ _) _⟩
  · rw [if_neg hc] at h; cases h
end Go.Proofs.YtdmfakgbiaaacaaDoor.X
namespace Go.Proofs.YtdmfakgbiaaacaaDoor.X
open Go.RowKit Go.Lib Go.Proofs Go.Proofs.YtdmfakgbiaaacaaDoorW.PrintWords Go.Proofs.YtdmfakgbiaaacaaDoorW.PrintLast Go.Proofs.YtdmfakgbiaaacaaDoorW.PrintMore Go.Proofs.YtdmfakgbiaaacaaDoor
attribute [local go_sem] max2_int min2_int max_two min_two
set_option linter.unusedVariables false
set_option linter.unusedSimpArgs false
end Go.Proofs.YtdmfakgbiaaacaaDoor.X
