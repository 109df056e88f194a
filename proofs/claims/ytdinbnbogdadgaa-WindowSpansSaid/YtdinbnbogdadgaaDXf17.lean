/- Proofs towards the laws of this seat, joined. No conditions beyond those typed. -/
import Derived.Test.YtdinbnbogdadgaaB10
import Derived.Test.YtdinbnbogdadgaaB11
namespace Go.Proofs.Ytdinbnbogdadgaa.X
open Go.RowKit Go.Proofs.YtdinbnbogdadgaaW.PrintWords Go.Proofs.YtdinbnbogdadgaaW.PrintLast Go.Proofs.YtdinbnbogdadgaaW.PrintMore
attribute [local go_sem] max2_int min2_int max_two min_two max_three min_three max_four min_four   -- for this text's walks alone
set_option linter.unusedVariables false
set_option linter.unusedSimpArgs false
mutual
def leatref11_Spans.j1 : Nat → List (S31) → Option ((List (S31)))
 | 0, _ => none
 | k + 1, x6 => leatref11_Spans.l1 k x6 ([] : List (S31)) (wrap64 ((x6.length : Int) - 1))
def leatref11_Spans.l1 : Nat → List (S31) → List (S31) → Int → Option ((List (S31)))
 | 0, _, _, _ => none
 | k + 1, x6, x8, x9 => if x9 ≥ 0 then (if 0 ≤ x9 then (if x9 < (x6.length : Int) then (if x8.length < 8796093022208 then (leatref11_Spans.l1 k x6 (x8 ++ [(⟨(rd_T31 x6 x9).f0, (rd_T31 x6 x9).f1⟩ : S31)]) (wrap64 (x9 - 1))) else (none)) else (none)) else (none)) else (some x8)
def leatref11_Spans.l0 : Nat → Int → List (S31) → Int → Int → Int → Int → Option ((List (S31)))
 | 0, _, _, _, _, _, _ => none
 | k + 1, x1, x6, x7, x188000, x188001, x188002 => if (wrap64 (x7 + x188001)) > x1 then (if (x6.length : Int) < 200 then (if x6.length < 8796093022208 then (leatref11_Spans.l0 k x1 (x6 ++ [(⟨x7, wrap64 (x7 + x188001)⟩ : S31)]) (wrap64 (x7 - x188002)) x188000 x188001 x188002) else (none)) else (leatref11_Spans.j1 k x6)) else (leatref11_Spans.j1 k x6)
end
def leatref11_Spans.f (k : Nat) (a0_0 : Int) (a0_1 : Int) (a0_2 : Int) (a1 : Int) : Option ((List (S31))) := if a0_0 = 1 then ((leatref11_floor.f a1 a0_1).bind fun t188 => (some (([(⟨t188, wrap64 (t188 + a0_1)⟩ : S31)] : List (S31))))) else (if a0_0 = 3 then (some (([(⟨a1, wrap64 (a1 + a0_1)⟩ : S31)] : List (S31)))) else ((leatref11_floor.f a1 a0_2).bind fun t195 => (leatref11_Spans.l0 k a1 ([] : List (S31)) t195 a0_0 a0_1 a0_2)))
theorem leatref11_Spans.mono_l : ∀ k, (∀ y0, LeO (leatref11_Spans.j1 k y0) (leatref11_Spans.j1 (k + 1) y0)) ∧ (∀ y0 y1 y2, LeO (leatref11_Spans.l1 k y0 y1 y2) (leatref11_Spans.l1 (k + 1) y0 y1 y2)) ∧ (∀ y0 y1 y2 y3 y4 y5, LeO (leatref11_Spans.l0 k y0 y1 y2 y3 y4 y5) (leatref11_Spans.l0 (k + 1) y0 y1 y2 y3 y4 y5))
 | 0 => ⟨fun _ r h => by simp [leatref11_Spans.j1] at h, fun _ _ _ r h => by simp [leatref11_Spans.l1] at h, fun _ _ _ _ _ _ r h => by simp [leatref11_Spans.l0] at h⟩
 | k + 1 => by
  obtain ⟨ih0, ih1, ih2⟩ := leatref11_Spans.mono_l k
  refine ⟨?_, ?_, ?_⟩
  ·intro y0
   unfold leatref11_Spans.j1
   repeat' first
   | (with_reducible exact ih0 _)
   | (with_reducible exact ih1 _ _ _)
   | (with_reducible exact ih2 _ _ _ _ _ _)
   | (with_reducible exact LeO.refl _)
   | (with_reducible exact LeO.none _)
   | (with_reducible refine LeO.ite ?_ ?_)
   | (with_reducible refine LeO.bind ?_ (fun _ => ?_))
   | exact ih0 _
   | exact ih1 _ _ _
   | exact ih2 _ _ _ _ _ _
   | exact LeO.none _
   | refine LeO.ite ?_ ?_
   | refine LeO.bind ?_ (fun _ => ?_)
  ·intro y0 y1 y2
   unfold leatref11_Spans.l1
   repeat' first
   | (with_reducible exact ih0 _)
   | (with_reducible exact ih1 _ _ _)
   | (with_reducible exact ih2 _ _ _ _ _ _)
   | (with_reducible exact LeO.refl _)
   | (with_reducible exact LeO.none _)
   | (with_reducible refine LeO.ite ?_ ?_)
   | (with_reducible refine LeO.bind ?_ (fun _ => ?_))
   | exact ih0 _
   | exact ih1 _ _ _
   | exact ih2 _ _ _ _ _ _
   | exact LeO.none _
   | refine LeO.ite ?_ ?_
   | refine LeO.bind ?_ (fun _ => ?_)
  ·intro y0 y1 y2 y3 y4 y5
   unfold leatref11_Spans.l0
   repeat' first
   | (with_reducible exact ih0 _)
   | (with_reducible exact ih1 _ _ _)
   | (with_reducible exact ih2 _ _ _ _ _ _)
   | (with_reducible exact LeO.refl _)
   | (with_reducible exact LeO.none _)
   | (with_reducible refine LeO.ite ?_ ?_)
   | (with_reducible refine LeO.bind ?_ (fun _ => ?_))
   | exact ih0 _
   | exact ih1 _ _ _
   | exact ih2 _ _ _ _ _ _
   | exact LeO.none _
   | refine LeO.ite ?_ ?_
   | refine LeO.bind ?_ (fun _ => ?_)
theorem leatref11_Spans.mono : ∀ a0 a1 a2 a3 k, LeO (leatref11_Spans.f k a0 a1 a2 a3) (leatref11_Spans.f (k + 1) a0 a1 a2 a3) := by
 intro a0 a1 a2 a3 k
 obtain ⟨ih0, ih1, ih2⟩ := leatref11_Spans.mono_l k
 unfold leatref11_Spans.f
 repeat' first
   | (with_reducible exact ih0 _)
   | (with_reducible exact ih1 _ _ _)
   | (with_reducible exact ih2 _ _ _ _ _ _)
   | (with_reducible exact LeO.refl _)
   | (with_reducible exact LeO.none _)
   | (with_reducible refine LeO.ite ?_ ?_)
   | (with_reducible refine LeO.bind ?_ (fun _ => ?_))
   | exact ih0 _
   | exact ih1 _ _ _
   | exact ih2 _ _ _ _ _ _
   | exact LeO.none _
   | refine LeO.ite ?_ ?_
   | refine LeO.bind ?_ (fun _ => ?_)
set_option maxHeartbeats 8000000 in
set_option maxRecDepth 100000 in
theorem leatref11_Spans.calls (k : Nat) (a0_0 : Int) (a0_1 : Int) (a0_2 : Int) (a1 : Int) (r : List (S31)) (w : World) (h : leatref11_Spans.f k a0_0 a0_1 a0_2 a1 = some r) :
  Calls Try.prog 17 #[.agg #[.int .i64 a0_0, .int .i64 a0_1, .int .i64 a0_2], .int .i64 a1] w fun e w' => ∃ v0_ : Value, e = .returned (v0_) ∧ Kd.R k31 31 w' w.heap.size (fun _ => True) v0_ r ∧ Below w.heap.size w w' := by
 have hu23 := Try.underlying23
 have hu31 := Try.underlying31
 have HB := Aside0.mk (Below.refl w.heap.size w)
 have H : (if a0_0 = 1 then ((leatref11_floor.f a1 a0_1).bind fun t188 => (some (([(⟨t188, wrap64 (t188 + a0_1)⟩ : S31)] : List (S31))))) else (if a0_0 = 3 then (some (([(⟨a1, wrap64 (a1 + a0_1)⟩ : S31)] : List (S31)))) else ((leatref11_floor.f a1 a0_2).bind fun t195 => (leatref11_Spans.l0 k a1 ([] : List (S31)) t195 a0_0 a0_1 a0_2)))) = some r := h
 clear h
 by_cases c3 : a0_0 = 1
 ·rw [if_pos c3] at H
  have c3b0 : (a0_0 == 1) = true := beq_iff_eq.mpr c3
  have c3b1 : (a0_0 != 1) = false := bne_eq_false_iff_eq.mpr c3
  clear c3
  replace H := Option.bind_eq_some_iff.mp H
  obtain ⟨t188, A40, H⟩ := H
  replace H : (some (([(⟨t188, wrap64 (t188 + a0_1)⟩ : S31)] : List (S31)))) = some r := H
  have A4 := Aside0.mk A40
  clear A40
  obtain ⟨y189, hy189⟩ : ∃ y_ : List (S31), y_ = (([(⟨t188, wrap64 (t188 + a0_1)⟩ : S31)] : List (S31))) := ⟨_, rfl⟩
  replace H : (some y189) = some r := by first | (rw [hy189]; with_reducible exact H) | (have H2_ := (Option.bind_some _ _).symm.trans H; rw [hy189]; with_reducible exact H2_) | (have H2_ := (Option.bind_some _ _).symm.trans H; with_reducible exact H2_) | with_reducible exact H | (rw [hy189]; exact H) | exact H
  have Ny189 := Aside0.mk hy189
  clear hy189
  obtain rfl := Option.some.inj H
  go_enter Try.func17, Try.ntmps17
  go_wp2_with (first | ((with_reducible refine gate_dst (N := 2) rfl ?_); (try (refine gate_guard (by rfl) ?_; dsimp only)); refine box_event ?hg (N := 2) ?hd (cs := #[.int .i64 a0_0, .int .i64 a0_1, .int .i64 a0_2]) (t := 23) ?hr ?_; (case hd => rfl); (case hg => rfl); (case hr => first | (go_simp; done) | (go_simp; rfl)); intro gb187 hg w5 hbox hb; have n0_ := Aside0.mk (below_step (by repeat (first | (with_reducible first | exact HB.out | apply below_alloc | apply pw_below_drewN | apply below_drew1) | exact HB.out)) hb); have n1_ := Aside0.mk (hbox); have n2_ := Aside0.mk ((by rw [hg]; exact (below_size (by repeat (first | (with_reducible first | exact HB.out | apply below_alloc | apply pw_below_drewN | apply below_drew1) | exact HB.out))) : w.heap.size ≤ gb187)); have n3_ := Aside0.mk ((by rw [hg]; exact (below_size (by repeat (first | (with_reducible first | exact HB.out | apply below_alloc | apply pw_below_drewN | apply below_drew1) | exact HB.out))) : w.heap.size ≤ gb187)); clear HB; have HB := n0_; have BK187 := n1_; have GW187 := n2_; have GE187 := n3_; clear n0_ n1_ n2_ n3_; clear hb hbox hg; have hcz6_0 : w5.cell? ⟨gb187, 0, none⟩ = some (.int .i64 a0_0) := (blk_cell BK187.out 0).trans rfl; have hcz6_1 : w5.cell? ⟨gb187, 1, none⟩ = some (.int .i64 a0_1) := (blk_cell BK187.out 1).trans rfl; have hcz6_2 : w5.cell? ⟨gb187, 2, none⟩ = some (.int .i64 a0_2) := (blk_cell BK187.out 2).trans rfl; have hfz6_0 := blk_frozen BK187.out 0; have hfz6_1 := blk_frozen BK187.out 1; have hfz6_2 := blk_frozen BK187.out 2) | ((with_reducible refine gate_callee (f := 33) rfl ?_); refine goesL_ (some 17) rfl rfl Try.func33 (by kernel_rfl) rfl #[.int .i64 a1, .int .i64 a0_1] rfl (by (try simp only [List.map_toArray, List.map_cons, List.map_nil]); first | done | rfl | (simp only [List.length_drop, List.length_take]; rfl)) ?_; (with_reducible refine (leatref11_floor.calls a1 a0_1 t188 _ A4.out).mono ?_); rintro e w' ⟨rfl, ⟨nd, rfl⟩⟩; refine ⟨_, rfl, ?_⟩) | ((with_reducible refine gate_dst (N := 24) rfl ?_); (try (refine gate_guard (by rfl) ?_; dsimp only)); refine Kd.R_lit k31 _ 31 ?hg (N := 24) ?hd (xs := ([(⟨t188, wrap64 (t188 + a0_1)⟩ : S31)] : List (S31))) (inner := [.int .i64 t188, .int .i64 (wrap64 (t188 + a0_1))]) (ok := fun _ => True) (okp := fun _ => True) ?hr ?hp (fun _ hk => hk) trivial (Below.refl _ _) (Nat.le_refl _) (by simp) ?_; (case hd => rfl); (case hg => rfl); (case hr => first | (go_simp; done) | (go_simp; rfl)); (case hp => exact (Reps.c2 (show Kd.M k31 _ _ _ (⟨t188, wrap64 (t188 + a0_1)⟩ : S31) [.int .i64 t188, .int .i64 (wrap64 (t188 + a0_1))] from (k31_mkM _ _ _ (⟨t188, wrap64 (t188 + a0_1)⟩ : S31) )) (Reps.none _ _))); intro v190 w7 ho8 hb hg_ hnew_; clear hg_ hnew_; (first | rw [← Ny189.out] at ho8 | (simp only [Int.reduceToNat] at ho8; rw [← Ny189.out] at ho8)); have n0_ := Aside0.mk (Kd.R_lower ho8 (below_size (by repeat (first | (with_reducible first | exact HB.out | apply below_alloc | apply pw_below_drewN | apply below_drew1 | refine below_set ?_ GE187.out) | exact HB.out)))); have n1_ := Aside0.mk (blk_below (g := gb187) (o := .cells #[.int .i64 a0_0, .int .i64 a0_1, .int .i64 a0_2] 23 (0, 0)) (by (with_reducible repeat (first | refine blk_drewN ?_ _ | refine blk_drew ?_ | refine blk_alloc ?_ _)); exact BK187.out) hb); have n2_ := Aside0.mk (below_step (by repeat (first | (with_reducible first | exact HB.out | apply below_alloc | apply pw_below_drewN | apply below_drew1 | refine below_set ?_ GE187.out) | exact HB.out)) hb); clear BK187; clear HB; have HO191 := n0_; have BK187 := n1_; have HB := n2_; clear n0_ n1_ n2_; clear hb ho8))
  go_ret
  exact ⟨_, by first | rfl | (simp [errW_none, errW_some] <;> rfl) | (simp [*, errW_none, errW_some] <;> rfl), by (with_reducible repeat (first | apply Kd.R_alloc | apply Kd.R_drewN | apply Kd.R_drew)); exact HO191.out, by repeat (first | (with_reducible first | exact HB.out | apply below_alloc | apply pw_below_drewN | apply below_drew1 | refine below_set ?_ GE187.out) | exact HB.out)⟩
 ·rw [if_neg c3] at H
  have c3b0 : (a0_0 == 1) = false := beq_eq_false_iff_ne.mpr c3
  have c3b1 : (a0_0 != 1) = true := bne_iff_ne.mpr c3
  by_cases c9 : a0_0 = 3
  ·rw [if_pos c9] at H
   have c9b0 : (a0_0 == 3) = true := beq_iff_eq.mpr c9
   have c9b1 : (a0_0 != 3) = false := bne_eq_false_iff_eq.mpr c9
   clear c9
   obtain ⟨y192, hy192⟩ : ∃ y_ : List (S31), y_ = (([(⟨a1, wrap64 (a1 + a0_1)⟩ : S31)] : List (S31))) := ⟨_, rfl⟩
   replace H : (some y192) = some r := by first | (rw [hy192]; with_reducible exact H) | (have H2_ := (Option.bind_some _ _).symm.trans H; rw [hy192]; with_reducible exact H2_) | (have H2_ := (Option.bind_some _ _).symm.trans H; with_reducible exact H2_) | with_reducible exact H | (rw [hy192]; exact H) | exact H
   have Ny192 := Aside0.mk hy192
   clear hy192
   obtain rfl := Option.some.inj H
   go_enter Try.func17, Try.ntmps17
   go_wp2_with (first | ((with_reducible refine gate_dst (N := 2) rfl ?_); (try (refine gate_guard (by rfl) ?_; dsimp only)); refine box_event ?hg (N := 2) ?hd (cs := #[.int .i64 a0_0, .int .i64 a0_1, .int .i64 a0_2]) (t := 23) ?hr ?_; (case hd => rfl); (case hg => rfl); (case hr => first | (go_simp; done) | (go_simp; rfl)); intro gb187 hg w10 hbox hb; have n0_ := Aside0.mk (below_step (by repeat (first | (with_reducible first | exact HB.out | apply below_alloc | apply pw_below_drewN | apply below_drew1) | exact HB.out)) hb); have n1_ := Aside0.mk (hbox); have n2_ := Aside0.mk ((by rw [hg]; exact (below_size (by repeat (first | (with_reducible first | exact HB.out | apply below_alloc | apply pw_below_drewN | apply below_drew1) | exact HB.out))) : w.heap.size ≤ gb187)); have n3_ := Aside0.mk ((by rw [hg]; exact (below_size (by repeat (first | (with_reducible first | exact HB.out | apply below_alloc | apply pw_below_drewN | apply below_drew1) | exact HB.out))) : w.heap.size ≤ gb187)); clear HB; have HB := n0_; have BK187 := n1_; have GW187 := n2_; have GE187 := n3_; clear n0_ n1_ n2_ n3_; clear hb hbox hg; have hcz11_0 : w10.cell? ⟨gb187, 0, none⟩ = some (.int .i64 a0_0) := (blk_cell BK187.out 0).trans rfl; have hcz11_1 : w10.cell? ⟨gb187, 1, none⟩ = some (.int .i64 a0_1) := (blk_cell BK187.out 1).trans rfl; have hcz11_2 : w10.cell? ⟨gb187, 2, none⟩ = some (.int .i64 a0_2) := (blk_cell BK187.out 2).trans rfl; have hfz11_0 := blk_frozen BK187.out 0; have hfz11_1 := blk_frozen BK187.out 1; have hfz11_2 := blk_frozen BK187.out 2) | ((with_reducible refine gate_dst (N := 33) rfl ?_); (try (refine gate_guard (by rfl) ?_; dsimp only)); refine Kd.R_lit k31 _ 31 ?hg (N := 33) ?hd (xs := ([(⟨a1, wrap64 (a1 + a0_1)⟩ : S31)] : List (S31))) (inner := [.int .i64 a1, .int .i64 (wrap64 (a1 + a0_1))]) (ok := fun _ => True) (okp := fun _ => True) ?hr ?hp (fun _ hk => hk) trivial (Below.refl _ _) (Nat.le_refl _) (by simp) ?_; (case hd => rfl); (case hg => rfl); (case hr => first | (go_simp; done) | (go_simp; rfl)); (case hp => exact (Reps.c2 (show Kd.M k31 _ _ _ (⟨a1, wrap64 (a1 + a0_1)⟩ : S31) [.int .i64 a1, .int .i64 (wrap64 (a1 + a0_1))] from (k31_mkM _ _ _ (⟨a1, wrap64 (a1 + a0_1)⟩ : S31) )) (Reps.none _ _))); intro v193 w12 ho13 hb hg_ hnew_; clear hg_ hnew_; (first | rw [← Ny192.out] at ho13 | (simp only [Int.reduceToNat] at ho13; rw [← Ny192.out] at ho13)); have n0_ := Aside0.mk (Kd.R_lower ho13 (below_size (by repeat (first | (with_reducible first | exact HB.out | apply below_alloc | apply pw_below_drewN | apply below_drew1 | refine below_set ?_ GE187.out) | exact HB.out)))); have n1_ := Aside0.mk (blk_below (g := gb187) (o := .cells #[.int .i64 a0_0, .int .i64 a0_1, .int .i64 a0_2] 23 (0, 0)) (by (with_reducible repeat (first | refine blk_drewN ?_ _ | refine blk_drew ?_ | refine blk_alloc ?_ _)); exact BK187.out) hb); have n2_ := Aside0.mk (below_step (by repeat (first | (with_reducible first | exact HB.out | apply below_alloc | apply pw_below_drewN | apply below_drew1 | refine below_set ?_ GE187.out) | exact HB.out)) hb); clear BK187; clear HB; have HO194 := n0_; have BK187 := n1_; have HB := n2_; clear n0_ n1_ n2_; clear hb ho13))
   go_ret
   exact ⟨_, by first | rfl | (simp [errW_none, errW_some] <;> rfl) | (simp [*, errW_none, errW_some] <;> rfl), by (with_reducible repeat (first | apply Kd.R_alloc | apply Kd.R_drewN | apply Kd.R_drew)); exact HO194.out, by repeat (first | (with_reducible first | exact HB.out | apply below_alloc | apply pw_below_drewN | apply below_drew1 | refine below_set ?_ GE187.out) | exact HB.out)⟩
  ·rw [if_neg c9] at H
   have c9b0 : (a0_0 == 3) = false := beq_eq_false_iff_ne.mpr c9
   have c9b1 : (a0_0 != 3) = true := bne_iff_ne.mpr c9
   replace H := Option.bind_eq_some_iff.mp H
   obtain ⟨t195, A140, H⟩ := H
   replace H : (leatref11_Spans.l0 k a1 ([] : List (S31)) t195 a0_0 a0_1 a0_2) = some r := H
   have A14 := Aside0.mk A140
   clear A140
   have HC15 := Aside0.mk H
   clear H
   go_enter Try.func17, Try.ntmps17
   go_upto_block 1 with (first | ((with_reducible refine gate_dst (N := 2) rfl ?_); (try (refine gate_guard (by rfl) ?_; dsimp only)); refine box_event ?hg (N := 2) ?hd (cs := #[.int .i64 a0_0, .int .i64 a0_1, .int .i64 a0_2]) (t := 23) ?hr ?_; (case hd => rfl); (case hg => rfl); (case hr => first | (go_simp; done) | (go_simp; rfl)); intro gb187 hg w16 hbox hb; have n0_ := Aside0.mk (below_step (by repeat (first | (with_reducible first | exact HB.out | apply below_alloc | apply pw_below_drewN | apply below_drew1) | exact HB.out)) hb); have n1_ := Aside0.mk (hbox); have n2_ := Aside0.mk ((by rw [hg]; exact (below_size (by repeat (first | (with_reducible first | exact HB.out | apply below_alloc | apply pw_below_drewN | apply below_drew1) | exact HB.out))) : w.heap.size ≤ gb187)); have n3_ := Aside0.mk ((by rw [hg]; exact (below_size (by repeat (first | (with_reducible first | exact HB.out | apply below_alloc | apply pw_below_drewN | apply below_drew1) | exact HB.out))) : w.heap.size ≤ gb187)); clear HB; have HB := n0_; have BK187 := n1_; have GW187 := n2_; have GE187 := n3_; clear n0_ n1_ n2_ n3_; clear hb hbox hg; have hcz17_0 : w16.cell? ⟨gb187, 0, none⟩ = some (.int .i64 a0_0) := (blk_cell BK187.out 0).trans rfl; have hcz17_1 : w16.cell? ⟨gb187, 1, none⟩ = some (.int .i64 a0_1) := (blk_cell BK187.out 1).trans rfl; have hcz17_2 : w16.cell? ⟨gb187, 2, none⟩ = some (.int .i64 a0_2) := (blk_cell BK187.out 2).trans rfl; have hfz17_0 := blk_frozen BK187.out 0; have hfz17_1 := blk_frozen BK187.out 1; have hfz17_2 := blk_frozen BK187.out 2) | ((with_reducible refine gate_callee (f := 33) rfl ?_); refine goesL_ (some 37) rfl rfl Try.func33 (by kernel_rfl) rfl #[.int .i64 a1, .int .i64 a0_2] rfl (by (try simp only [List.map_toArray, List.map_cons, List.map_nil]); first | done | rfl | (simp only [List.length_drop, List.length_take]; rfl)) ?_; (with_reducible refine (leatref11_floor.calls a1 a0_2 t195 _ A14.out).mono ?_); rintro e w' ⟨rfl, ⟨nd, rfl⟩⟩; refine ⟨_, rfl, ?_⟩))
   (try simp only [Act.put, List.setIfInBounds_toArray, List.set_cons_zero, List.set_cons_succ])
   go_cut [6] (fun v6 wc => ∃ (kq : Nat) (x6_14 : List (S31)), Aside0 (leatref11_Spans.j1 kq x6_14 = some r) ∧ Aside0 (kq ≤ k) ∧ Aside0 (Kd.R k31 31 wc w.heap.size (fun _ => True) v6 x6_14) ∧ Aside0 (wc.heap[gb187]? = some (.cells #[.int .i64 a0_0, .int .i64 a0_1, .int .i64 a0_2] 23 (0, 0))) ∧ Aside0 (Below w.heap.size w wc))
   case first =>
    have H := HC15.out
    clear HC15
    have H' := Aside0.mk H
    clear H
    go_wp2
    go_loopg [6, 7] k (fun kq v6 v7 w' => ∃ (x6_1 : List (S31)) (x7_1 : Int), v7 = .int .i64 x7_1 ∧ Aside0 (leatref11_Spans.l0 kq a1 x6_1 x7_1 a0_0 a0_1 a0_2 = some r) ∧ Aside0 (kq ≤ k) ∧ Aside0 (Kd.R k31 31 w' w.heap.size (fun _ => True) v6 x6_1) ∧ Aside0 (w'.heap[gb187]? = some (.cells #[.int .i64 a0_0, .int .i64 a0_1, .int .i64 a0_2] 23 (0, 0))) ∧ Aside0 (Below w.heap.size w w'))
    case atStart => exact ⟨(([] : List (S31))), (t195), (by first | rfl | (simp; done) | (simp [*]; done)), H', ⟨Nat.le_refl _⟩, ⟨by first | exact Kd.R_nil _ _ _ _ _ | exact Kd.N_nil _ _ _ _ _ | exact Kd.V_nil _ _ _ _ _ | exact Kd.Q_nil _ _ _ _ _ | exact Kd.S_nil _ _ _ _ _⟩, ⟨by (with_reducible repeat (first | refine blk_drewN ?_ _ | refine blk_drew ?_ | refine blk_alloc ?_ _)); exact BK187.out⟩, ⟨by repeat (first | (with_reducible first | exact HB.out | apply below_alloc | apply pw_below_drewN | apply below_drew1 | refine below_set ?_ GE187.out) | exact HB.out)⟩⟩
    case round =>
     clear H'
     try clear c1; try clear c2; try clear p2; try clear c3; try clear c3b0; try clear c3b1; try clear p6; try clear c9; try clear c9b0; try clear c9b1; try clear c17; try clear hcz11_0; try clear hcz11_1; try clear hcz11_2; try clear hcz17_0; try clear hcz17_1; try clear hcz17_2; try clear hcz6_0; try clear hcz6_1; try clear hcz6_2; try clear hfz11_0; try clear hfz11_1; try clear hfz11_2; try clear hfz17_0; try clear hfz17_1; try clear hfz17_2; try clear hfz6_0; try clear hfz6_1; try clear hfz6_2
     obtain ⟨x6_1, x7_1, rfl, HA, HK1, HO_6, BK187, HB⟩ := hrel
     cases gk with
     | zero => exact absurd HA.out (by simp [leatref11_Spans.l0])
     | succ k1 =>
      have H := HA.out
      clear HA
      simp only [leatref11_Spans.l0] at H
      by_cases c18 : (wrap64 (x7_1 + a0_1)) > a1
      ·rw [if_pos c18] at H
       have c18b0 : decide (a1 < (wrap64 (x7_1 + a0_1))) = true := decide_eq_true c18
       clear c18
       (first | rw [c18b0] | (simp only [i64_w, i32_w]; rw [c18b0]) | skip)
       by_cases c19 : (x6_1.length : Int) < 200
       ·rw [if_pos c19] at H
        have c19b0 : decide ((x6_1.length : Int) < 200) = true := decide_eq_true c19
        have c19b1 : decide (x6_1.length < 200) = true := decide_eq_true (by omega)
        clear c19
        by_cases c20 : x6_1.length < 8796093022208
        ·rw [if_pos c20] at H
         have LMc20 := Aside0.mk c20
         clear c20
         obtain ⟨y196, hy196⟩ : ∃ y_ : List (S31), y_ = (x6_1 ++ [(⟨x7_1, wrap64 (x7_1 + a0_1)⟩ : S31)]) := ⟨_, rfl⟩
         replace H : (leatref11_Spans.l0 k1 a1 y196 (wrap64 (x7_1 - a0_2)) a0_0 a0_1 a0_2) = some r := by first | (rw [hy196]; with_reducible exact H) | (have H2_ := (Option.bind_some _ _).symm.trans H; rw [hy196]; with_reducible exact H2_) | (have H2_ := (Option.bind_some _ _).symm.trans H; with_reducible exact H2_) | with_reducible exact H | (rw [hy196]; exact H) | exact H
         have Ny196 := Aside0.mk hy196
         clear hy196
         have H' := Aside0.mk H
         clear H
         have hcz21_0 : wr.cell? ⟨gb187, 0, none⟩ = some (.int .i64 a0_0) := (blk_cell BK187.out 0).trans rfl
         have hcz21_1 : wr.cell? ⟨gb187, 1, none⟩ = some (.int .i64 a0_1) := (blk_cell BK187.out 1).trans rfl
         have hcz21_2 : wr.cell? ⟨gb187, 2, none⟩ = some (.int .i64 a0_2) := (blk_cell BK187.out 2).trans rfl
         have hfz21_0 := blk_frozen BK187.out 0
         have hfz21_1 := blk_frozen BK187.out 1
         have hfz21_2 := blk_frozen BK187.out 2
         obtain ⟨Ao22, co22, eo22⟩ := Kd.R_slice HO_6.out
         subst eo22
         go_wp2_with (first | ((with_reducible refine gate_builtin (b := .append) (xs := #[.tmp 53, .tmp 60]) rfl ?_); (try (refine gate_guard (by rfl) ?_; dsimp only)); at_builtin; refine Kd.R_append k31 (w0 := w) w.heap.size rfl (.tmp 53) (.tmp 60) 27 31 (.agg #[(.int .i64 0), (.int .i64 0)]) 16 rfl Try.underlying27 info31 rfl (by decide) (by omega) (.slice Ao22 x6_1.length co22) x6_1 (⟨x7_1, wrap64 (x7_1 + a0_1)⟩ : S31) [.int .i64 x7_1, .int .i64 (wrap64 (x7_1 + a0_1))] (fun _ => True) (fun _ => False) rfl rfl ?aP (fun _ hk => hk.elim) ?aF ?aO ?aB ?aS ?aL ?_; (case aP => exact k31_mkM _ _ _ (⟨x7_1, wrap64 (x7_1 + a0_1)⟩ : S31)); (case aB => exact (by repeat (first | (with_reducible first | exact HB.out | apply below_alloc | apply pw_below_drewN | apply below_drew1 | refine below_set ?_ GE187.out) | exact HB.out))); (case aF => exact (fun _ _ => trivial)); (case aO => exact (by (with_reducible repeat (first | apply Kd.R_alloc | apply Kd.R_drewN | apply Kd.R_drew)); exact HO_6.out)); (case aS => exact (below_size (by repeat (first | (with_reducible first | exact HB.out | apply below_alloc | apply pw_below_drewN | apply below_drew1 | refine below_set ?_ GE187.out) | exact HB.out)))); (case aL => have := LMc20.out; omega); intro v197 w23 ho hb hg hat; rw [← Ny196.out] at ho; have n0_ := Aside0.mk (blk_grown (g := gb187) (o := .cells #[.int .i64 a0_0, .int .i64 a0_1, .int .i64 a0_2] 23 (0, 0)) (by (with_reducible repeat (first | refine blk_drewN ?_ _ | refine blk_drew ?_ | refine blk_alloc ?_ _)); exact BK187.out) hg (Kd.R_ne HO_6.out BK187.out (by decide))); have n1_ := Aside0.mk (hb); have n2_ := Aside0.mk (ho); clear BK187; clear HB; clear HO_6; have BK187 := n0_; have HB := n1_; have HO198 := n2_; clear n0_ n1_ n2_; clear ho hb hg hat; have hcz24_0 : w23.cell? ⟨gb187, 0, none⟩ = some (.int .i64 a0_0) := (blk_cell BK187.out 0).trans rfl; have hcz24_1 : w23.cell? ⟨gb187, 1, none⟩ = some (.int .i64 a0_1) := (blk_cell BK187.out 1).trans rfl; have hcz24_2 : w23.cell? ⟨gb187, 2, none⟩ = some (.int .i64 a0_2) := (blk_cell BK187.out 2).trans rfl; have hfz24_0 := blk_frozen BK187.out 0; have hfz24_1 := blk_frozen BK187.out 1; have hfz24_2 := blk_frozen BK187.out 2))
         go_roundg k1
         case measure => have := HK1.out; omega
         case rel => exact ⟨(y196), (wrap64 (x7_1 - a0_2)), (by first | rfl | (simp; done) | (simp [*]; done)), H', ⟨by have := HK1.out; omega⟩, ⟨by (with_reducible repeat (first | apply Kd.R_alloc | apply Kd.R_drewN | apply Kd.R_drew)); exact HO198.out⟩, ⟨by (with_reducible repeat (first | refine blk_drewN ?_ _ | refine blk_drew ?_ | refine blk_alloc ?_ _)); exact BK187.out⟩, ⟨by repeat (first | (with_reducible first | exact HB.out | apply below_alloc | apply pw_below_drewN | apply below_drew1 | refine below_set ?_ GE187.out) | exact HB.out)⟩⟩
        ·rw [if_neg c20] at H
         exact absurd H (by simp)
       ·rw [if_neg c19] at H
        have c19b0 : decide ((x6_1.length : Int) < 200) = false := decide_eq_false c19
        have c19b1 : decide (x6_1.length < 200) = false := decide_eq_false (by omega)
        clear c19
        have H' := Aside0.mk H
        clear H
        have hcz25_0 : wr.cell? ⟨gb187, 0, none⟩ = some (.int .i64 a0_0) := (blk_cell BK187.out 0).trans rfl
        have hcz25_1 : wr.cell? ⟨gb187, 1, none⟩ = some (.int .i64 a0_1) := (blk_cell BK187.out 1).trans rfl
        have hcz25_2 : wr.cell? ⟨gb187, 2, none⟩ = some (.int .i64 a0_2) := (blk_cell BK187.out 2).trans rfl
        have hfz25_0 := blk_frozen BK187.out 0
        have hfz25_1 := blk_frozen BK187.out 1
        have hfz25_2 := blk_frozen BK187.out 2
        obtain ⟨Ao26, co26, eo26⟩ := Kd.R_slice HO_6.out
        subst eo26
        go_wp2
        go_meet
        case rel => exact ⟨_, (x6_1), H', ⟨by have := HK1.out; first | omega | exact Nat.le_refl _⟩, ⟨by (with_reducible repeat (first | apply Kd.R_alloc | apply Kd.R_drewN | apply Kd.R_drew)); exact HO_6.out⟩, ⟨by (with_reducible repeat (first | refine blk_drewN ?_ _ | refine blk_drew ?_ | refine blk_alloc ?_ _)); exact BK187.out⟩, ⟨by repeat (first | (with_reducible first | exact HB.out | apply below_alloc | apply pw_below_drewN | apply below_drew1 | refine below_set ?_ GE187.out) | exact HB.out)⟩⟩
      ·rw [if_neg c18] at H
       have c18b0 : decide (a1 < (wrap64 (x7_1 + a0_1))) = false := decide_eq_false c18
       clear c18
       (first | rw [c18b0] | (simp only [i64_w, i32_w]; rw [c18b0]) | skip)
       have H' := Aside0.mk H
       clear H
       have hcz27_0 : wr.cell? ⟨gb187, 0, none⟩ = some (.int .i64 a0_0) := (blk_cell BK187.out 0).trans rfl
       have hcz27_1 : wr.cell? ⟨gb187, 1, none⟩ = some (.int .i64 a0_1) := (blk_cell BK187.out 1).trans rfl
       have hcz27_2 : wr.cell? ⟨gb187, 2, none⟩ = some (.int .i64 a0_2) := (blk_cell BK187.out 2).trans rfl
       have hfz27_0 := blk_frozen BK187.out 0
       have hfz27_1 := blk_frozen BK187.out 1
       have hfz27_2 := blk_frozen BK187.out 2
       go_wp2
       go_meet
       case rel => exact ⟨_, (x6_1), H', ⟨by have := HK1.out; first | omega | exact Nat.le_refl _⟩, ⟨by (with_reducible repeat (first | apply Kd.R_alloc | apply Kd.R_drewN | apply Kd.R_drew)); exact HO_6.out⟩, ⟨by (with_reducible repeat (first | refine blk_drewN ?_ _ | refine blk_drew ?_ | refine blk_alloc ?_ _)); exact BK187.out⟩, ⟨by repeat (first | (with_reducible first | exact HB.out | apply below_alloc | apply pw_below_drewN | apply below_drew1 | refine below_set ?_ GE187.out) | exact HB.out)⟩⟩
   case rest =>
    clear HC15
    try clear c1; try clear c2; try clear p2; try clear c3; try clear c3b0; try clear c3b1; try clear p6; try clear c9; try clear c9b0; try clear c9b1; try clear c17; try clear c18; try clear c18b0; try clear c19; try clear c19b0; try clear c19b1; try clear c20; try clear hcz11_0; try clear hcz11_1; try clear hcz11_2; try clear hcz17_0; try clear hcz17_1; try clear hcz17_2; try clear hcz21_0; try clear hcz21_1; try clear hcz21_2; try clear hcz24_0; try clear hcz24_1; try clear hcz24_2; try clear hcz25_0; try clear hcz25_1; try clear hcz25_2; try clear hcz27_0; try clear hcz27_1; try clear hcz27_2; try clear hcz6_0; try clear hcz6_1; try clear hcz6_2; try clear hfz11_0; try clear hfz11_1; try clear hfz11_2; try clear hfz17_0; try clear hfz17_1; try clear hfz17_2; try clear hfz21_0; try clear hfz21_1; try clear hfz21_2; try clear hfz24_0; try clear hfz24_1; try clear hfz24_2; try clear hfz25_0; try clear hfz25_1; try clear hfz25_2; try clear hfz27_0; try clear hfz27_1; try clear hfz27_2; try clear hfz6_0; try clear hfz6_1; try clear hfz6_2; try clear p2; try clear p6
    obtain ⟨kq, x6_14, HA, HJ14, HO_6, BK187, HB⟩ := hcut
    cases kq with
    | zero => exact absurd HA.out (by simp [leatref11_Spans.j1])
    | succ kj14 =>
     have H := HA.out
     clear HA
     simp only [leatref11_Spans.j1] at H
     have H' := Aside0.mk H
     clear H
     obtain ⟨Ao28, co28, eo28⟩ := Kd.R_slice HO_6.out
     subst eo28
     go_wp2
     go_loopg [8, 9] kj14 (fun kq v8 v9 w' => ∃ (x8_2 : List (S31)) (x9_2 : Int), v9 = .int .i64 x9_2 ∧ Aside0 (leatref11_Spans.l1 kq x6_14 x8_2 x9_2 = some r) ∧ Aside0 (kq ≤ kj14) ∧ Aside0 (Kd.R k31 31 w' w.heap.size (fun k_ => some k_ ≠ (v8 : Value).ownBlock) (.slice Ao28 x6_14.length co28) x6_14) ∧ Aside0 (Kd.R k31 31 w' w.heap.size (fun k_ => some k_ ≠ ((.slice Ao28 x6_14.length co28) : Value).ownBlock) v8 x8_2) ∧ Aside0 (w'.heap[gb187]? = some (.cells #[.int .i64 a0_0, .int .i64 a0_1, .int .i64 a0_2] 23 (0, 0))) ∧ Aside0 (Below w.heap.size w w'))
     case atStart => exact ⟨(([] : List (S31))), (wrap64 ((x6_14.length : Int) - 1)), (by first | rfl | (simp; done) | (simp [*]; done)), H', ⟨Nat.le_refl _⟩, ⟨by (with_reducible repeat (first | apply Kd.R_alloc | apply Kd.R_drewN | apply Kd.R_drew)); exact Kd.R_mono HO_6.out (fun _ hk => (by simp [Value.ownBlock]))⟩, ⟨by first | exact Kd.R_nil _ _ _ _ _ | exact Kd.N_nil _ _ _ _ _ | exact Kd.V_nil _ _ _ _ _ | exact Kd.Q_nil _ _ _ _ _ | exact Kd.S_nil _ _ _ _ _⟩, ⟨by (with_reducible repeat (first | refine blk_drewN ?_ _ | refine blk_drew ?_ | refine blk_alloc ?_ _)); exact BK187.out⟩, ⟨by repeat (first | (with_reducible first | exact HB.out | apply below_alloc | apply pw_below_drewN | apply below_drew1 | refine below_set ?_ GE187.out) | exact HB.out)⟩⟩
     case round =>
      clear H'
      try clear c1; try clear c2; try clear p2; try clear c3; try clear c3b0; try clear c3b1; try clear p6; try clear c9; try clear c9b0; try clear c9b1; try clear c17; try clear c18; try clear c18b0; try clear c19; try clear c19b0; try clear c19b1; try clear c20; try clear hcz11_0; try clear hcz11_1; try clear hcz11_2; try clear hcz17_0; try clear hcz17_1; try clear hcz17_2; try clear hcz21_0; try clear hcz21_1; try clear hcz21_2; try clear hcz24_0; try clear hcz24_1; try clear hcz24_2; try clear hcz25_0; try clear hcz25_1; try clear hcz25_2; try clear hcz27_0; try clear hcz27_1; try clear hcz27_2; try clear hcz6_0; try clear hcz6_1; try clear hcz6_2; try clear hfz11_0; try clear hfz11_1; try clear hfz11_2; try clear hfz17_0; try clear hfz17_1; try clear hfz17_2; try clear hfz21_0; try clear hfz21_1; try clear hfz21_2; try clear hfz24_0; try clear hfz24_1; try clear hfz24_2; try clear hfz25_0; try clear hfz25_1; try clear hfz25_2; try clear hfz27_0; try clear hfz27_1; try clear hfz27_2; try clear hfz6_0; try clear hfz6_1; try clear hfz6_2; try clear p2; try clear p6
      obtain ⟨x8_2, x9_2, rfl, HA, HK2, HO_6, HO_8, BK187, HB⟩ := hrel
      cases gk with
      | zero => exact absurd HA.out (by simp [leatref11_Spans.l1])
      | succ k2 =>
       have H := HA.out
       clear HA
       simp only [leatref11_Spans.l1] at H
       by_cases c29 : x9_2 ≥ 0
       ·rw [if_pos c29] at H
        have c29b0 : decide (0 ≤ x9_2) = true := decide_eq_true c29
        clear c29
        by_cases c30 : 0 ≤ x9_2
        ·rw [if_pos c30] at H
         have c30b0 : decide (0 ≤ x9_2) = true := decide_eq_true c30
         clear c30
         by_cases c31 : x9_2 < (x6_14.length : Int)
         ·rw [if_pos c31] at H
          have c31b0 : decide (x9_2 < (x6_14.length : Int)) = true := decide_eq_true c31
          clear c31
          by_cases c32 : x8_2.length < 8796093022208
          ·rw [if_pos c32] at H
           have LMc32 := Aside0.mk c32
           clear c32
           obtain ⟨y200, hy200⟩ : ∃ y_ : List (S31), y_ = (x8_2 ++ [(⟨(rd_T31 x6_14 x9_2).f0, (rd_T31 x6_14 x9_2).f1⟩ : S31)]) := ⟨_, rfl⟩
           replace H : (leatref11_Spans.l1 k2 x6_14 y200 (wrap64 (x9_2 - 1))) = some r := by first | (rw [hy200]; with_reducible exact H) | (have H2_ := (Option.bind_some _ _).symm.trans H; rw [hy200]; with_reducible exact H2_) | (have H2_ := (Option.bind_some _ _).symm.trans H; with_reducible exact H2_) | with_reducible exact H | (rw [hy200]; exact H) | exact H
           have Ny200 := Aside0.mk hy200
           clear hy200
           have H' := Aside0.mk H
           clear H
           have p199 : 0 ≤ (x9_2 : Int) := of_decide_eq_true (by first | (with_reducible assumption) | assumption)
           have q199 : x9_2 < (x6_14.length : Int) := of_decide_eq_true (by first | (with_reducible assumption) | assumption)
           obtain ⟨ad199, e199, hx199_0, hx199_1⟩ := at_T31 (Kd.R_reads' HO_6.out).2.2 x9_2 p199 q199
           cases e199
           replace p199 := eq_true p199
           replace q199 := eq_true q199
           go_wp2_with (first | ((with_reducible refine gate_builtin (b := .append) (xs := #[.tmp 69, .tmp 74]) rfl ?_); (try (refine gate_guard (by rfl) ?_; dsimp only)); at_builtin; refine Kd.R_append k31 (w0 := w) w.heap.size rfl (.tmp 69) (.tmp 74) 27 31 (.agg #[(.int .i64 0), (.int .i64 0)]) 16 rfl Try.underlying27 info31 rfl (by decide) (by omega) u8 x8_2 (⟨(rd_T31 x6_14 x9_2).f0, (rd_T31 x6_14 x9_2).f1⟩ : S31) [.int .i64 ((rd_T31 x6_14 x9_2).f0), .int .i64 ((rd_T31 x6_14 x9_2).f1)] (fun k_ => some k_ ≠ (.slice (some ad199) x6_14.length co28 : Value).ownBlock) (fun _ => False) rfl rfl ?aP (fun _ hk => hk.elim) ?aF ?aO ?aB ?aS ?aL ?_; (case aP => exact k31_mkM _ _ _ (⟨(rd_T31 x6_14 x9_2).f0, (rd_T31 x6_14 x9_2).f1⟩ : S31)); (case aB => exact (by repeat (first | (with_reducible first | exact HB.out | apply below_alloc | apply pw_below_drewN | apply below_drew1 | refine below_set ?_ GE187.out) | exact HB.out))); (case aF => exact (fun k_ hk => Kd.fresh' (Kd.R_lt (by (with_reducible repeat (first | apply Kd.R_alloc | apply Kd.R_drewN | apply Kd.R_drew)); exact HO_6.out)) k_ hk)); (case aO => exact (by (with_reducible repeat (first | apply Kd.R_alloc | apply Kd.R_drewN | apply Kd.R_drew)); exact HO_8.out)); (case aS => exact (below_size (by repeat (first | (with_reducible first | exact HB.out | apply below_alloc | apply pw_below_drewN | apply below_drew1 | refine below_set ?_ GE187.out) | exact HB.out)))); (case aL => have := LMc32.out; omega); intro v201 w33 ho hb hg hat; rw [← Ny200.out] at ho; have n0_ := Aside0.mk (Kd.R_after (ok := (fun _ => True)) (by (with_reducible repeat (first | apply Kd.R_alloc | apply Kd.R_drewN | apply Kd.R_drew)); exact Kd.R_mono HO_6.out (fun _ hk => ⟨trivial, hk⟩)) hg hat); have n1_ := Aside0.mk (blk_grown (g := gb187) (o := .cells #[.int .i64 a0_0, .int .i64 a0_1, .int .i64 a0_2] 23 (0, 0)) (by (with_reducible repeat (first | refine blk_drewN ?_ _ | refine blk_drew ?_ | refine blk_alloc ?_ _)); exact BK187.out) hg (Kd.R_ne HO_8.out BK187.out (by decide))); have n2_ := Aside0.mk (hb); have n3_ := Aside0.mk (ho); clear HO_6; clear BK187; clear HB; clear HO_8; have HO_6 := n0_; have BK187 := n1_; have HB := n2_; have HO202 := n3_; clear n0_ n1_ n2_ n3_; clear ho hb hg hat))
           go_roundg k2
           case measure => have := HJ14.out; have := HK2.out; omega
           case rel => exact ⟨(y200), (wrap64 (x9_2 - 1)), (by first | rfl | (simp; done) | (simp [*]; done)), H', ⟨by have := HJ14.out; have := HK2.out; omega⟩, ⟨by (with_reducible repeat (first | apply Kd.R_alloc | apply Kd.R_drewN | apply Kd.R_drew)); exact Kd.R_mono HO_6.out (fun _ hk => hk.2)⟩, ⟨by (with_reducible repeat (first | apply Kd.R_alloc | apply Kd.R_drewN | apply Kd.R_drew)); exact HO202.out⟩, ⟨by (with_reducible repeat (first | refine blk_drewN ?_ _ | refine blk_drew ?_ | refine blk_alloc ?_ _)); exact BK187.out⟩, ⟨by repeat (first | (with_reducible first | exact HB.out | apply below_alloc | apply pw_below_drewN | apply below_drew1 | refine below_set ?_ GE187.out) | exact HB.out)⟩⟩
          ·rw [if_neg c32] at H
           exact absurd H (by simp)
         ·rw [if_neg c31] at H
          exact absurd H (by simp)
        ·rw [if_neg c30] at H
         exact absurd H (by simp)
       ·rw [if_neg c29] at H
        have c29b0 : decide (0 ≤ x9_2) = false := decide_eq_false c29
        clear c29
        obtain rfl := Option.some.inj H
        go_wp2
        go_ret
        exact ⟨_, by first | rfl | (simp [errW_none, errW_some] <;> rfl) | (simp [*, errW_none, errW_some] <;> rfl), by (with_reducible repeat (first | apply Kd.R_alloc | apply Kd.R_drewN | apply Kd.R_drew)); exact Kd.R_mono HO_8.out (fun _ hk => trivial), by repeat (first | (with_reducible first | exact HB.out | apply below_alloc | apply pw_below_drewN | apply below_drew1 | refine below_set ?_ GE187.out) | exact HB.out)⟩
end Go.Proofs.Ytdinbnbogdadgaa.X
