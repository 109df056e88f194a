/- Proofs towards the law JobHeavy, joined into one text. No conditions beyond those typed. -/
import Derived.Test.YtpbmfdbfimcpjaaMJobHeavy5
import Derived.Test.YtpbmfdbfimcpjaaMJobHeavy9
namespace Go.Proofs.Ytpbmfdbfimcpjaa.X
open Go.RowKit Go.Proofs.YtpbmfdbfimcpjaaW.PrintWords Go.Proofs.YtpbmfdbfimcpjaaW.PrintLast Go.Proofs.YtpbmfdbfimcpjaaW.PrintMore
attribute [local go_sem] max2_int min2_int max_two min_two max_three min_three max_four min_four   -- for this text's walks alone
set_option linter.unusedVariables false
set_option linter.unusedSimpArgs false
mutual
def job_shape.j0 : Nat → Bool → List (S38) → Option (Int)
 | 0, _, _ => none
 | k + 1, x15, x127000 => if x15 = true then (some 80) else (job_shape.l0 k x127000 (x127000.length : Int) 0 x127000)
def job_shape.l0 : Nat → List (S38) → Int → Int → List (S38) → Option (Int)
 | 0, _, _, _, _ => none
 | k + 1, x17, x18, x19, x127000 => if x19 < x18 then (if 0 ≤ x19 then (if x19 < (x17.length : Int) then ((job_node.f k x127000 ((rd_T38 x17 x19).f0) ((rd_T38 x17 x19).f1) ((rd_T38 x17 x19).f2) ((rd_T38 x17 x19).f3.f0) ((rd_T38 x17 x19).f3.f1) ((rd_T38 x17 x19).f3.f2) ((rd_T38 x17 x19).f4) ((rd_T38 x17 x19).f5.f0) ((rd_T38 x17 x19).f5.f1) ((rd_T38 x17 x19).f5.f2)).bind fun t129 => (if t129 = 0 then (job_shape.l0 k x17 x18 (wrap64 (x19 + 1)) x127000) else (some t129))) else (none)) else (none)) else ((job_Order.f x127000).bind fun t130 => (if (t130.length : Int) < (x127000.length : Int) then (some 83) else (some 0)))
end
def job_shape.f (k : Nat) (l0_0 : List (S38)) : Option (Int) := if (l0_0.length : Int) = 0 then (job_shape.j0 k true l0_0) else (job_shape.j0 k (decide ((l0_0.length : Int) > 12)) l0_0)
theorem job_shape.mono_l : ∀ k, (∀ y0 y1, LeO (job_shape.j0 k y0 y1) (job_shape.j0 (k + 1) y0 y1)) ∧ (∀ y0 y1 y2 y3, LeO (job_shape.l0 k y0 y1 y2 y3) (job_shape.l0 (k + 1) y0 y1 y2 y3))
 | 0 => ⟨fun _ _ r h => by simp [job_shape.j0] at h, fun _ _ _ _ r h => by simp [job_shape.l0] at h⟩
 | k + 1 => by
  obtain ⟨ih0, ih1⟩ := job_shape.mono_l k
  refine ⟨?_, ?_⟩
  ·intro y0 y1
   unfold job_shape.j0
   repeat' first
   | (with_reducible exact ih0 _ _)
   | (with_reducible exact ih1 _ _ _ _)
   | (with_reducible exact job_node.mono _ _ _ _ _ _ _ _ _ _ _ _)
   | (with_reducible exact LeO.refl _)
   | (with_reducible exact LeO.none _)
   | (with_reducible refine LeO.ite ?_ ?_)
   | (with_reducible refine LeO.bind ?_ (fun _ => ?_))
   | exact ih0 _ _
   | exact ih1 _ _ _ _
   | exact job_node.mono _ _ _ _ _ _ _ _ _ _ _ _
   | exact LeO.none _
   | refine LeO.ite ?_ ?_
   | refine LeO.bind ?_ (fun _ => ?_)
  ·intro y0 y1 y2 y3
   unfold job_shape.l0
   repeat' first
   | (with_reducible exact ih0 _ _)
   | (with_reducible exact ih1 _ _ _ _)
   | (with_reducible exact job_node.mono _ _ _ _ _ _ _ _ _ _ _ _)
   | (with_reducible exact LeO.refl _)
   | (with_reducible exact LeO.none _)
   | (with_reducible refine LeO.ite ?_ ?_)
   | (with_reducible refine LeO.bind ?_ (fun _ => ?_))
   | exact ih0 _ _
   | exact ih1 _ _ _ _
   | exact job_node.mono _ _ _ _ _ _ _ _ _ _ _ _
   | exact LeO.none _
   | refine LeO.ite ?_ ?_
   | refine LeO.bind ?_ (fun _ => ?_)
theorem job_shape.mono : ∀ a0 k, LeO (job_shape.f k a0) (job_shape.f (k + 1) a0) := by
 intro a0 k
 obtain ⟨ih0, ih1⟩ := job_shape.mono_l k
 unfold job_shape.f
 repeat' first
   | (with_reducible exact ih0 _ _)
   | (with_reducible exact ih1 _ _ _ _)
   | (with_reducible exact job_node.mono _ _ _ _ _ _ _ _ _ _ _ _)
   | (with_reducible exact LeO.refl _)
   | (with_reducible exact LeO.none _)
   | (with_reducible refine LeO.ite ?_ ?_)
   | (with_reducible refine LeO.bind ?_ (fun _ => ?_))
   | exact ih0 _ _
   | exact ih1 _ _ _ _
   | exact job_node.mono _ _ _ _ _ _ _ _ _ _ _ _
   | exact LeO.none _
   | refine LeO.ite ?_ ?_
   | refine LeO.bind ?_ (fun _ => ?_)
set_option maxHeartbeats 8000000 in
set_option maxRecDepth 100000 in
theorem job_shape.calls (k : Nat) (A0_0 : Option Addr) (c0_0 : Nat) (l0_0 : List (S38)) (r : Int) (w : World) (hr0_0 : Kd.C k38 w A0_0 l0_0.length l0_0) (hc0_0 : l0_0.length ≤ c0_0) (h : job_shape.f k l0_0 = some r) :
  Calls Try.prog 18 #[.agg #[.slice A0_0 l0_0.length c0_0]] w fun e w' => e = .returned (.int .i64 r) ∧ Below w.heap.size w w' := by
 have hu24 := Try.underlying24
 have hu38 := Try.underlying38
 have HR0_0 := Aside0.mk hr0_0
 have HC0_0 := Aside0.mk hc0_0
 clear hr0_0 hc0_0
 have HB := Aside0.mk (Below.refl w.heap.size w)
 have H : (if (l0_0.length : Int) = 0 then (job_shape.j0 k true l0_0) else (job_shape.j0 k (decide ((l0_0.length : Int) > 12)) l0_0)) = some r := h
 clear h
 have HC2 := Aside0.mk H
 clear H
 go_enter Try.func18, Try.ntmps18
 go_upto_region 1 with (first | ((with_reducible refine gate_dst (N := 1) rfl ?_); (try (refine gate_guard (by rfl) ?_; dsimp only)); refine box_event ?hg (N := 1) ?hd (cs := #[.slice A0_0 l0_0.length c0_0]) (t := 24) ?hr ?_; (case hd => rfl); (case hg => rfl); (case hr => first | (go_simp; done) | (go_simp; rfl)); intro gb126 hg w3 hbox hb; have n0_ := Aside0.mk (below_step (by repeat (first | (with_reducible first | exact HB.out | apply below_alloc | apply pw_below_drewN | apply below_drew1) | exact HB.out)) hb); have n1_ := Aside0.mk (hbox); have n2_ := Aside0.mk ((by rw [hg]; exact (below_size (by repeat (first | (with_reducible first | exact HB.out | apply below_alloc | apply pw_below_drewN | apply below_drew1) | exact HB.out))) : w.heap.size ≤ gb126)); have n3_ := Aside0.mk ((by rw [hg]; exact (below_size (by repeat (first | (with_reducible first | exact HB.out | apply below_alloc | apply pw_below_drewN | apply below_drew1) | exact HB.out))) : w.heap.size ≤ gb126)); clear HB; have HB := n0_; have BK126 := n1_; have GW126 := n2_; have GE126 := n3_; clear n0_ n1_ n2_ n3_; clear hb hbox hg))
 (try simp only [Act.put, List.setIfInBounds_toArray, List.set_cons_zero, List.set_cons_succ])
 go_cut [15] (fun v15 wc => ∃ (kq : Nat) (x15_1 : Bool), v15 = .bool x15_1 ∧ Aside0 (job_shape.j0 kq x15_1 l0_0 = some r) ∧ Aside0 (kq ≤ k) ∧ Aside0 (wc.heap[gb126]? = some (.cells #[(.slice A0_0 l0_0.length c0_0)] 24 (0, 0))) ∧ Aside0 (Below w.heap.size w wc))
 case first =>
  have H := HC2.out
  clear HC2
  by_cases c4 : (l0_0.length : Int) = 0
  ·rw [if_pos c4] at H
   have c4b0 : ((l0_0.length : Int) == 0) = true := beq_iff_eq.mpr c4
   have c4b1 : ((l0_0.length : Int) != 0) = false := bne_eq_false_iff_eq.mpr c4
   clear c4
   (first | rw [c4b0] | (simp only [i64_w, i32_w]; rw [c4b0]) | skip)
   have H' := Aside0.mk H
   clear H
   have hcz5_0 : w3.cell? ⟨gb126, 0, none⟩ = some (.slice A0_0 l0_0.length c0_0) := (blk_cell BK126.out 0).trans rfl
   have hfz5_0 := blk_frozen BK126.out 0
   go_wp2
   go_meet
   case rel => exact ⟨_, (true), (by first | rfl | (simp; done) | (simp [*]; done)), H', ⟨by first | omega | exact Nat.le_refl _⟩, ⟨by (with_reducible repeat (first | refine blk_drewN ?_ _ | refine blk_drew ?_ | refine blk_alloc ?_ _)); exact BK126.out⟩, ⟨by repeat (first | (with_reducible first | exact HB.out | apply below_alloc | apply pw_below_drewN | apply below_drew1 | refine below_set ?_ GE126.out) | exact HB.out)⟩⟩
  ·rw [if_neg c4] at H
   have c4b0 : ((l0_0.length : Int) == 0) = false := beq_eq_false_iff_ne.mpr c4
   have c4b1 : ((l0_0.length : Int) != 0) = true := bne_iff_ne.mpr c4
   have c4b2 : ¬ (l0_0 = []) := fun h_ => c4 (by rw [h_]; rfl)
   (first | rw [c4b0] | (simp only [i64_w, i32_w]; rw [c4b0]) | skip)
   have H' := Aside0.mk H
   clear H
   have hcz6_0 : w3.cell? ⟨gb126, 0, none⟩ = some (.slice A0_0 l0_0.length c0_0) := (blk_cell BK126.out 0).trans rfl
   have hfz6_0 := blk_frozen BK126.out 0
   go_wp2
   go_meet
   case rel => exact ⟨_, (decide ((l0_0.length : Int) > 12)), (by first | rfl | (simp; done) | (simp [*]; done)), H', ⟨by first | omega | exact Nat.le_refl _⟩, ⟨by (with_reducible repeat (first | refine blk_drewN ?_ _ | refine blk_drew ?_ | refine blk_alloc ?_ _)); exact BK126.out⟩, ⟨by repeat (first | (with_reducible first | exact HB.out | apply below_alloc | apply pw_below_drewN | apply below_drew1 | refine below_set ?_ GE126.out) | exact HB.out)⟩⟩
 case rest =>
  clear HC2
  try clear c1; try clear p2; try clear c4; try clear c4b0; try clear c4b1; try clear c4b2; try clear hcz5_0; try clear hcz6_0; try clear hfz5_0; try clear hfz6_0
  obtain ⟨kq, x15_1, rfl, HA, HJ1, BK126, HB⟩ := hcut
  cases kq with
  | zero => exact absurd HA.out (by simp [job_shape.j0])
  | succ kj1 =>
   have H := HA.out
   clear HA
   simp only [job_shape.j0] at H
   by_cases c7 : x15_1 = true
   ·subst c7
    have H1 : (some 80) = some r := by rw [if_pos rfl] at H; exact H
    clear H
    have H := H1
    clear H1
    obtain rfl := Option.some.inj H
    go_wp2
    go_ret
    exact ⟨by first | rfl | (simp [errW_none, errW_some] <;> rfl) | (simp [*, errW_none, errW_some] <;> rfl), by repeat (first | (with_reducible first | exact HB.out | apply below_alloc | apply pw_below_drewN | apply below_drew1 | refine below_set ?_ GE126.out) | exact HB.out)⟩
   ·replace c7 := Bool.eq_false_iff.mpr c7
    subst c7
    have H1 : (job_shape.l0 kj1 l0_0 (l0_0.length : Int) 0 l0_0) = some r := by rw [if_neg (show ¬ (false = true) by decide)] at H; exact H
    clear H
    have H := H1
    clear H1
    have H' := Aside0.mk H
    clear H
    have hcz8_0 : wc.cell? ⟨gb126, 0, none⟩ = some (.slice A0_0 l0_0.length c0_0) := (blk_cell BK126.out 0).trans rfl
    have hfz8_0 := blk_frozen BK126.out 0
    go_wp2
    go_loopg [19] kj1 (fun kq v19 w' => ∃ (x19_2 : Int), v19 = .int .i64 x19_2 ∧ Aside0 (job_shape.l0 kq l0_0 (l0_0.length : Int) x19_2 l0_0 = some r) ∧ Aside0 (kq ≤ kj1) ∧ Aside0 (w'.heap[gb126]? = some (.cells #[(.slice A0_0 l0_0.length c0_0)] 24 (0, 0))) ∧ Aside0 (Below w.heap.size w w'))
    case atStart => exact ⟨(0), (by first | rfl | (simp; done) | (simp [*]; done)), H', ⟨Nat.le_refl _⟩, ⟨by (with_reducible repeat (first | refine blk_drewN ?_ _ | refine blk_drew ?_ | refine blk_alloc ?_ _)); exact BK126.out⟩, ⟨by repeat (first | (with_reducible first | exact HB.out | apply below_alloc | apply pw_below_drewN | apply below_drew1 | refine below_set ?_ GE126.out) | exact HB.out)⟩⟩
    case round =>
     clear H'
     try clear c1; try clear p2; try clear c4; try clear c4b0; try clear c4b1; try clear c4b2; try clear c7; try clear hcz5_0; try clear hcz6_0; try clear hcz8_0; try clear hfz5_0; try clear hfz6_0; try clear hfz8_0; try clear p2
     obtain ⟨x19_2, rfl, HA, HK2, BK126, HB⟩ := hrel
     cases gk with
     | zero => exact absurd HA.out (by simp [job_shape.l0])
     | succ k2 =>
      have H := HA.out
      clear HA
      simp only [job_shape.l0] at H
      by_cases c9 : x19_2 < (l0_0.length : Int)
      ·rw [if_pos c9] at H
       have c9b0 : decide (x19_2 < (l0_0.length : Int)) = true := decide_eq_true c9
       clear c9
       by_cases c10 : 0 ≤ x19_2
       ·rw [if_pos c10] at H
        have c10b0 : decide (0 ≤ x19_2) = true := decide_eq_true c10
        clear c10
        by_cases c11 : x19_2 < (l0_0.length : Int)
        ·rw [if_pos c11] at H
         have c11b0 : decide (x19_2 < (l0_0.length : Int)) = true := decide_eq_true c11
         clear c11
         replace H := Option.bind_eq_some_iff.mp H
         obtain ⟨t129, A120, H⟩ := H
         replace H : (if t129 = 0 then (job_shape.l0 k2 l0_0 (l0_0.length : Int) (wrap64 (x19_2 + 1)) l0_0) else (some t129)) = some r := H
         have A12 := Aside0.mk A120
         clear A120
         by_cases c13 : t129 = 0
         ·rw [if_pos c13] at H
          have c13b0 : (t129 == 0) = true := beq_iff_eq.mpr c13
          have c13b1 : (t129 != 0) = false := bne_eq_false_iff_eq.mpr c13
          clear c13
          have H' := Aside0.mk H
          clear H
          have p127 : 0 ≤ (x19_2 : Int) := of_decide_eq_true (by first | (with_reducible assumption) | assumption)
          have q127 : x19_2 < (l0_0.length : Int) := of_decide_eq_true (by first | (with_reducible assumption) | assumption)
          obtain ⟨ad127, A127_1, c127_1, A127_5, c127_5, e127, hx127_0, hx127_1, hx127_2, hx127_3, hx127_4, hx127_5, hx127_6, hx127_7, hx127_8, hx127_9, hl127_1, hi127_1, hl127_5, hi127_5⟩ := at_T38 HR0_0.out x19_2 p127 q127
          cases e127
          replace hx127_0 := (HB.out.cell (World.block_lt_of_cell? w _ hx127_0)).trans hx127_0
          replace hx127_1 := (HB.out.cell (World.block_lt_of_cell? w _ hx127_1)).trans hx127_1
          replace hx127_2 := (HB.out.cell (World.block_lt_of_cell? w _ hx127_2)).trans hx127_2
          replace hx127_3 := (HB.out.cell (World.block_lt_of_cell? w _ hx127_3)).trans hx127_3
          replace hx127_4 := (HB.out.cell (World.block_lt_of_cell? w _ hx127_4)).trans hx127_4
          replace hx127_5 := (HB.out.cell (World.block_lt_of_cell? w _ hx127_5)).trans hx127_5
          replace hx127_6 := (HB.out.cell (World.block_lt_of_cell? w _ hx127_6)).trans hx127_6
          replace hx127_7 := (HB.out.cell (World.block_lt_of_cell? w _ hx127_7)).trans hx127_7
          replace hx127_8 := (HB.out.cell (World.block_lt_of_cell? w _ hx127_8)).trans hx127_8
          replace hx127_9 := (HB.out.cell (World.block_lt_of_cell? w _ hx127_9)).trans hx127_9
          have HR127_1 := Aside0.mk hi127_1
          have HC127_1 := Aside0.mk hl127_1
          clear hi127_1 hl127_1
          have HR127_5 := Aside0.mk hi127_5
          have HC127_5 := Aside0.mk hl127_5
          clear hi127_5 hl127_5
          replace p127 := eq_true p127
          replace q127 := eq_true q127
          go_wp2_with (first | ((with_reducible refine gate_dst (N := 4) rfl ?_); (try (refine gate_guard (by rfl) ?_; dsimp only)); refine box_event ?hg (N := 4) ?hd (cs := #[.int .i64 0, .slice none 0 0, .int .i64 0, .int .i64 0, .int .i64 0, .slice none 0 0, .int .i64 0, .int .i64 0, .int .i64 0, .int .i64 0]) (t := 38) ?hr ?_; (case hd => rfl); (case hg => rfl); (case hr => first | (go_simp; done) | (go_simp; rfl)); intro gb128 hg w14 hbox hb; have n0_ := Aside0.mk (blk_below (g := gb126) (o := .cells #[.slice (some ad127) l0_0.length c0_0] 24 (0, 0)) (by (with_reducible repeat (first | refine blk_drewN ?_ _ | refine blk_drew ?_ | refine blk_alloc ?_ _)); exact BK126.out) hb); have n1_ := Aside0.mk (below_step (by repeat (first | (with_reducible first | exact HB.out | apply below_alloc | apply pw_below_drewN | apply below_drew1 | refine below_set ?_ GE126.out) | exact HB.out)) hb); have n2_ := Aside0.mk (hbox); have n3_ := Aside0.mk ((by rw [hg]; exact (below_size (by repeat (first | (with_reducible first | exact HB.out | apply below_alloc | apply pw_below_drewN | apply below_drew1 | refine below_set ?_ GE126.out) | exact HB.out))) : w.heap.size ≤ gb128)); have n4_ := Aside0.mk ((by rw [hg]; exact (below_size (by repeat (first | (with_reducible first | exact HB.out | apply below_alloc | apply pw_below_drewN | apply below_drew1 | refine below_set ?_ GE126.out) | exact HB.out))) : w.heap.size ≤ gb128)); have n5_ := Aside0.mk ((by rw [hg]; exact Nat.ne_of_lt (blk_lt (g := gb126) (o := .cells #[.slice (some ad127) l0_0.length c0_0] 24 (0, 0)) (by (with_reducible repeat (first | refine blk_drewN ?_ _ | refine blk_drew ?_ | refine blk_alloc ?_ _)); exact BK126.out)) : gb126 ≠ gb128)); have n6_ := Aside0.mk ((by rw [hg]; exact Nat.ne_of_gt (blk_lt (g := gb126) (o := .cells #[.slice (some ad127) l0_0.length c0_0] 24 (0, 0)) (by (with_reducible repeat (first | refine blk_drewN ?_ _ | refine blk_drew ?_ | refine blk_alloc ?_ _)); exact BK126.out)) : gb128 ≠ gb126)); clear BK126; clear HB; have BK126 := n0_; have HB := n1_; have BK128 := n2_; have GW128 := n3_; have GE128 := n4_; have NB126_128 := n5_; have NB128_126 := n6_; clear n0_ n1_ n2_ n3_ n4_ n5_ n6_; clear hb hbox hg; have hnb15 := NB128_126.out; have hnc15 := NB126_128.out; have hcz16_0 : w14.cell? ⟨gb128, 0, none⟩ = some (.int .i64 0) := (blk_cell BK128.out 0).trans rfl; have hcz16_1 : w14.cell? ⟨gb128, 1, none⟩ = some (.slice none 0 0) := (blk_cell BK128.out 1).trans rfl; have hcz16_2 : w14.cell? ⟨gb128, 2, none⟩ = some (.int .i64 0) := (blk_cell BK128.out 2).trans rfl; have hcz16_3 : w14.cell? ⟨gb128, 3, none⟩ = some (.int .i64 0) := (blk_cell BK128.out 3).trans rfl; have hcz16_4 : w14.cell? ⟨gb128, 4, none⟩ = some (.int .i64 0) := (blk_cell BK128.out 4).trans rfl; have hcz16_5 : w14.cell? ⟨gb128, 5, none⟩ = some (.slice none 0 0) := (blk_cell BK128.out 5).trans rfl; have hcz16_6 : w14.cell? ⟨gb128, 6, none⟩ = some (.int .i64 0) := (blk_cell BK128.out 6).trans rfl; have hcz16_7 : w14.cell? ⟨gb128, 7, none⟩ = some (.int .i64 0) := (blk_cell BK128.out 7).trans rfl; have hcz16_8 : w14.cell? ⟨gb128, 8, none⟩ = some (.int .i64 0) := (blk_cell BK128.out 8).trans rfl; have hcz16_9 : w14.cell? ⟨gb128, 9, none⟩ = some (.int .i64 0) := (blk_cell BK128.out 9).trans rfl; have hfz16_0 := blk_frozen BK128.out 0; have hfz16_1 := blk_frozen BK128.out 1; have hfz16_2 := blk_frozen BK128.out 2; have hfz16_3 := blk_frozen BK128.out 3; have hfz16_4 := blk_frozen BK128.out 4; have hfz16_5 := blk_frozen BK128.out 5; have hfz16_6 := blk_frozen BK128.out 6; have hfz16_7 := blk_frozen BK128.out 7; have hfz16_8 := blk_frozen BK128.out 8; have hfz16_9 := blk_frozen BK128.out 9; have hcz17_0 : w14.cell? ⟨gb126, 0, none⟩ = some (.slice (some ad127) l0_0.length c0_0) := (blk_cell BK126.out 0).trans rfl; have hfz17_0 := blk_frozen BK126.out 0) | ((with_reducible refine gate_callee (f := 31) rfl ?_); refine goesL_ (some 25) rfl rfl Try.func31 (by kernel_rfl) rfl #[.agg #[.slice (some ad127) l0_0.length c0_0], .agg #[.int .i64 ((rd_T38 l0_0 x19_2).f0), .slice A127_1 ((rd_T38 l0_0 x19_2).f1).length c127_1, .int .i64 ((rd_T38 l0_0 x19_2).f2), .int .i64 ((rd_T38 l0_0 x19_2).f3.f0), .int .i64 ((rd_T38 l0_0 x19_2).f3.f1), .slice A127_5 ((rd_T38 l0_0 x19_2).f3.f2).length c127_5, .int .i64 ((rd_T38 l0_0 x19_2).f4), .int .i64 ((rd_T38 l0_0 x19_2).f5.f0), .int .i64 ((rd_T38 l0_0 x19_2).f5.f1), .int .i64 ((rd_T38 l0_0 x19_2).f5.f2)]] rfl (by (try simp only [List.map_toArray, List.map_cons, List.map_nil]); first | done | rfl | (simp only [List.length_drop, List.length_take]; rfl)) ?_; (with_reducible refine (job_node.calls k2 _ _ l0_0 ((rd_T38 l0_0 x19_2).f0) _ _ ((rd_T38 l0_0 x19_2).f1) ((rd_T38 l0_0 x19_2).f2) ((rd_T38 l0_0 x19_2).f3.f0) ((rd_T38 l0_0 x19_2).f3.f1) _ _ ((rd_T38 l0_0 x19_2).f3.f2) ((rd_T38 l0_0 x19_2).f4) ((rd_T38 l0_0 x19_2).f5.f0) ((rd_T38 l0_0 x19_2).f5.f1) ((rd_T38 l0_0 x19_2).f5.f2) t129 _ ?side1 ?side2 ?side3 ?side4 ?side5 ?side6 A12.out).mono ?_); (case side1 => exact Kd.C_below HR0_0.out (by repeat (first | (with_reducible first | exact HB.out | apply below_alloc | apply pw_below_drewN | apply below_drew1 | refine below_set ?_ GE126.out | refine below_set ?_ GE128.out) | exact HB.out))); (case side2 => exact HC0_0.out); (case side3 => exact Kd.C_below HR127_1.out (by repeat (first | (with_reducible first | exact HB.out | apply below_alloc | apply pw_below_drewN | apply below_drew1 | refine below_set ?_ GE126.out | refine below_set ?_ GE128.out) | exact HB.out))); (case side4 => exact HC127_1.out); (case side5 => exact Kd.C_below HR127_5.out (by repeat (first | (with_reducible first | exact HB.out | apply below_alloc | apply pw_below_drewN | apply below_drew1 | refine below_set ?_ GE126.out | refine below_set ?_ GE128.out) | exact HB.out))); (case side6 => exact HC127_5.out); rintro e w18 ⟨rfl, hb⟩; refine ⟨_, rfl, ?_⟩; have n0_ := Aside0.mk (blk_below (g := gb126) (o := .cells #[.slice (some ad127) l0_0.length c0_0] 24 (0, 0)) (by (with_reducible repeat (first | refine blk_drewN ?_ _ | refine blk_drew ?_ | refine blk_alloc ?_ _)); refine blk_far ?_ NB126_128.out _; (with_reducible repeat (first | refine blk_drewN ?_ _ | refine blk_drew ?_ | refine blk_alloc ?_ _)); refine blk_far ?_ NB126_128.out _; (with_reducible repeat (first | refine blk_drewN ?_ _ | refine blk_drew ?_ | refine blk_alloc ?_ _)); refine blk_far ?_ NB126_128.out _; (with_reducible repeat (first | refine blk_drewN ?_ _ | refine blk_drew ?_ | refine blk_alloc ?_ _)); refine blk_far ?_ NB126_128.out _; (with_reducible repeat (first | refine blk_drewN ?_ _ | refine blk_drew ?_ | refine blk_alloc ?_ _)); refine blk_far ?_ NB126_128.out _; (with_reducible repeat (first | refine blk_drewN ?_ _ | refine blk_drew ?_ | refine blk_alloc ?_ _)); refine blk_far ?_ NB126_128.out _; (with_reducible repeat (first | refine blk_drewN ?_ _ | refine blk_drew ?_ | refine blk_alloc ?_ _)); refine blk_far ?_ NB126_128.out _; (with_reducible repeat (first | refine blk_drewN ?_ _ | refine blk_drew ?_ | refine blk_alloc ?_ _)); refine blk_far ?_ NB126_128.out _; (with_reducible repeat (first | refine blk_drewN ?_ _ | refine blk_drew ?_ | refine blk_alloc ?_ _)); refine blk_far ?_ NB126_128.out _; (with_reducible repeat (first | refine blk_drewN ?_ _ | refine blk_drew ?_ | refine blk_alloc ?_ _)); refine blk_far ?_ NB126_128.out _; (with_reducible repeat (first | refine blk_drewN ?_ _ | refine blk_drew ?_ | refine blk_alloc ?_ _)); exact BK126.out) hb); have n1_ := Aside0.mk (blk_below (g := gb128) (o := .cells #[.int .i64 ((rd_T38 l0_0 x19_2).f0), .slice A127_1 ((rd_T38 l0_0 x19_2).f1).length c127_1, .int .i64 ((rd_T38 l0_0 x19_2).f2), .int .i64 ((rd_T38 l0_0 x19_2).f3.f0), .int .i64 ((rd_T38 l0_0 x19_2).f3.f1), .slice A127_5 ((rd_T38 l0_0 x19_2).f3.f2).length c127_5, .int .i64 ((rd_T38 l0_0 x19_2).f4), .int .i64 ((rd_T38 l0_0 x19_2).f5.f0), .int .i64 ((rd_T38 l0_0 x19_2).f5.f1), .int .i64 ((rd_T38 l0_0 x19_2).f5.f2)] 38 (0, 0)) (by (with_reducible repeat (first | refine blk_drewN ?_ _ | refine blk_drew ?_ | refine blk_alloc ?_ _)); refine blk_put (cs := #[.int .i64 ((rd_T38 l0_0 x19_2).f0), .slice A127_1 ((rd_T38 l0_0 x19_2).f1).length c127_1, .int .i64 ((rd_T38 l0_0 x19_2).f2), .int .i64 ((rd_T38 l0_0 x19_2).f3.f0), .int .i64 ((rd_T38 l0_0 x19_2).f3.f1), .slice A127_5 ((rd_T38 l0_0 x19_2).f3.f2).length c127_5, .int .i64 ((rd_T38 l0_0 x19_2).f4), .int .i64 ((rd_T38 l0_0 x19_2).f5.f0), .int .i64 ((rd_T38 l0_0 x19_2).f5.f1), .int .i64 0]) ?_ 9 _ rfl; (with_reducible repeat (first | refine blk_drewN ?_ _ | refine blk_drew ?_ | refine blk_alloc ?_ _)); refine blk_put (cs := #[.int .i64 ((rd_T38 l0_0 x19_2).f0), .slice A127_1 ((rd_T38 l0_0 x19_2).f1).length c127_1, .int .i64 ((rd_T38 l0_0 x19_2).f2), .int .i64 ((rd_T38 l0_0 x19_2).f3.f0), .int .i64 ((rd_T38 l0_0 x19_2).f3.f1), .slice A127_5 ((rd_T38 l0_0 x19_2).f3.f2).length c127_5, .int .i64 ((rd_T38 l0_0 x19_2).f4), .int .i64 ((rd_T38 l0_0 x19_2).f5.f0), .int .i64 0, .int .i64 0]) ?_ 8 _ rfl; (with_reducible repeat (first | refine blk_drewN ?_ _ | refine blk_drew ?_ | refine blk_alloc ?_ _)); refine blk_put (cs := #[.int .i64 ((rd_T38 l0_0 x19_2).f0), .slice A127_1 ((rd_T38 l0_0 x19_2).f1).length c127_1, .int .i64 ((rd_T38 l0_0 x19_2).f2), .int .i64 ((rd_T38 l0_0 x19_2).f3.f0), .int .i64 ((rd_T38 l0_0 x19_2).f3.f1), .slice A127_5 ((rd_T38 l0_0 x19_2).f3.f2).length c127_5, .int .i64 ((rd_T38 l0_0 x19_2).f4), .int .i64 0, .int .i64 0, .int .i64 0]) ?_ 7 _ rfl; (with_reducible repeat (first | refine blk_drewN ?_ _ | refine blk_drew ?_ | refine blk_alloc ?_ _)); refine blk_put (cs := #[.int .i64 ((rd_T38 l0_0 x19_2).f0), .slice A127_1 ((rd_T38 l0_0 x19_2).f1).length c127_1, .int .i64 ((rd_T38 l0_0 x19_2).f2), .int .i64 ((rd_T38 l0_0 x19_2).f3.f0), .int .i64 ((rd_T38 l0_0 x19_2).f3.f1), .slice A127_5 ((rd_T38 l0_0 x19_2).f3.f2).length c127_5, .int .i64 0, .int .i64 0, .int .i64 0, .int .i64 0]) ?_ 6 _ rfl; (with_reducible repeat (first | refine blk_drewN ?_ _ | refine blk_drew ?_ | refine blk_alloc ?_ _)); refine blk_put (cs := #[.int .i64 ((rd_T38 l0_0 x19_2).f0), .slice A127_1 ((rd_T38 l0_0 x19_2).f1).length c127_1, .int .i64 ((rd_T38 l0_0 x19_2).f2), .int .i64 ((rd_T38 l0_0 x19_2).f3.f0), .int .i64 ((rd_T38 l0_0 x19_2).f3.f1), .slice none 0 0, .int .i64 0, .int .i64 0, .int .i64 0, .int .i64 0]) ?_ 5 _ rfl; (with_reducible repeat (first | refine blk_drewN ?_ _ | refine blk_drew ?_ | refine blk_alloc ?_ _)); refine blk_put (cs := #[.int .i64 ((rd_T38 l0_0 x19_2).f0), .slice A127_1 ((rd_T38 l0_0 x19_2).f1).length c127_1, .int .i64 ((rd_T38 l0_0 x19_2).f2), .int .i64 ((rd_T38 l0_0 x19_2).f3.f0), .int .i64 0, .slice none 0 0, .int .i64 0, .int .i64 0, .int .i64 0, .int .i64 0]) ?_ 4 _ rfl; (with_reducible repeat (first | refine blk_drewN ?_ _ | refine blk_drew ?_ | refine blk_alloc ?_ _)); refine blk_put (cs := #[.int .i64 ((rd_T38 l0_0 x19_2).f0), .slice A127_1 ((rd_T38 l0_0 x19_2).f1).length c127_1, .int .i64 ((rd_T38 l0_0 x19_2).f2), .int .i64 0, .int .i64 0, .slice none 0 0, .int .i64 0, .int .i64 0, .int .i64 0, .int .i64 0]) ?_ 3 _ rfl; (with_reducible repeat (first | refine blk_drewN ?_ _ | refine blk_drew ?_ | refine blk_alloc ?_ _)); refine blk_put (cs := #[.int .i64 ((rd_T38 l0_0 x19_2).f0), .slice A127_1 ((rd_T38 l0_0 x19_2).f1).length c127_1, .int .i64 0, .int .i64 0, .int .i64 0, .slice none 0 0, .int .i64 0, .int .i64 0, .int .i64 0, .int .i64 0]) ?_ 2 _ rfl; (with_reducible repeat (first | refine blk_drewN ?_ _ | refine blk_drew ?_ | refine blk_alloc ?_ _)); refine blk_put (cs := #[.int .i64 ((rd_T38 l0_0 x19_2).f0), .slice none 0 0, .int .i64 0, .int .i64 0, .int .i64 0, .slice none 0 0, .int .i64 0, .int .i64 0, .int .i64 0, .int .i64 0]) ?_ 1 _ rfl; (with_reducible repeat (first | refine blk_drewN ?_ _ | refine blk_drew ?_ | refine blk_alloc ?_ _)); refine blk_put (cs := #[.int .i64 0, .slice none 0 0, .int .i64 0, .int .i64 0, .int .i64 0, .slice none 0 0, .int .i64 0, .int .i64 0, .int .i64 0, .int .i64 0]) ?_ 0 _ rfl; (with_reducible repeat (first | refine blk_drewN ?_ _ | refine blk_drew ?_ | refine blk_alloc ?_ _)); exact BK128.out) hb); have n2_ := Aside0.mk (below_step (by repeat (first | (with_reducible first | exact HB.out | apply below_alloc | apply pw_below_drewN | apply below_drew1 | refine below_set ?_ GE126.out | refine below_set ?_ GE128.out) | exact HB.out)) hb); clear BK126; clear BK128; clear HB; have BK126 := n0_; have BK128 := n1_; have HB := n2_; clear n0_ n1_ n2_; (try clear hb); (try clear hb2); (try clear hk); (try clear hi)))
          go_roundg k2
          case measure => have := HJ1.out; have := HK2.out; omega
          case rel => exact ⟨(wrap64 (x19_2 + 1)), (by first | rfl | (simp; done) | (simp [*]; done)), H', ⟨by have := HJ1.out; have := HK2.out; omega⟩, ⟨by (with_reducible repeat (first | refine blk_drewN ?_ _ | refine blk_drew ?_ | refine blk_alloc ?_ _)); exact BK126.out⟩, ⟨by repeat (first | (with_reducible first | exact HB.out | apply below_alloc | apply pw_below_drewN | apply below_drew1 | refine below_set ?_ GE126.out | refine below_set ?_ GE128.out) | exact HB.out)⟩⟩
         ·rw [if_neg c13] at H
          have c13b0 : (t129 == 0) = false := beq_eq_false_iff_ne.mpr c13
          have c13b1 : (t129 != 0) = true := bne_iff_ne.mpr c13
          obtain rfl := Option.some.inj H
          have p127 : 0 ≤ (x19_2 : Int) := of_decide_eq_true (by first | (with_reducible assumption) | assumption)
          have q127 : x19_2 < (l0_0.length : Int) := of_decide_eq_true (by first | (with_reducible assumption) | assumption)
          obtain ⟨ad127, A127_1, c127_1, A127_5, c127_5, e127, hx127_0, hx127_1, hx127_2, hx127_3, hx127_4, hx127_5, hx127_6, hx127_7, hx127_8, hx127_9, hl127_1, hi127_1, hl127_5, hi127_5⟩ := at_T38 HR0_0.out x19_2 p127 q127
          cases e127
          replace hx127_0 := (HB.out.cell (World.block_lt_of_cell? w _ hx127_0)).trans hx127_0
          replace hx127_1 := (HB.out.cell (World.block_lt_of_cell? w _ hx127_1)).trans hx127_1
          replace hx127_2 := (HB.out.cell (World.block_lt_of_cell? w _ hx127_2)).trans hx127_2
          replace hx127_3 := (HB.out.cell (World.block_lt_of_cell? w _ hx127_3)).trans hx127_3
          replace hx127_4 := (HB.out.cell (World.block_lt_of_cell? w _ hx127_4)).trans hx127_4
          replace hx127_5 := (HB.out.cell (World.block_lt_of_cell? w _ hx127_5)).trans hx127_5
          replace hx127_6 := (HB.out.cell (World.block_lt_of_cell? w _ hx127_6)).trans hx127_6
          replace hx127_7 := (HB.out.cell (World.block_lt_of_cell? w _ hx127_7)).trans hx127_7
          replace hx127_8 := (HB.out.cell (World.block_lt_of_cell? w _ hx127_8)).trans hx127_8
          replace hx127_9 := (HB.out.cell (World.block_lt_of_cell? w _ hx127_9)).trans hx127_9
          have HR127_1 := Aside0.mk hi127_1
          have HC127_1 := Aside0.mk hl127_1
          clear hi127_1 hl127_1
          have HR127_5 := Aside0.mk hi127_5
          have HC127_5 := Aside0.mk hl127_5
          clear hi127_5 hl127_5
          replace p127 := eq_true p127
          replace q127 := eq_true q127
          go_wp2_with (first | ((with_reducible refine gate_dst (N := 4) rfl ?_); (try (refine gate_guard (by rfl) ?_; dsimp only)); refine box_event ?hg (N := 4) ?hd (cs := #[.int .i64 0, .slice none 0 0, .int .i64 0, .int .i64 0, .int .i64 0, .slice none 0 0, .int .i64 0, .int .i64 0, .int .i64 0, .int .i64 0]) (t := 38) ?hr ?_; (case hd => rfl); (case hg => rfl); (case hr => first | (go_simp; done) | (go_simp; rfl)); intro gb128 hg w19 hbox hb; have n0_ := Aside0.mk (blk_below (g := gb126) (o := .cells #[.slice (some ad127) l0_0.length c0_0] 24 (0, 0)) (by (with_reducible repeat (first | refine blk_drewN ?_ _ | refine blk_drew ?_ | refine blk_alloc ?_ _)); exact BK126.out) hb); have n1_ := Aside0.mk (below_step (by repeat (first | (with_reducible first | exact HB.out | apply below_alloc | apply pw_below_drewN | apply below_drew1 | refine below_set ?_ GE126.out) | exact HB.out)) hb); have n2_ := Aside0.mk (hbox); have n3_ := Aside0.mk ((by rw [hg]; exact (below_size (by repeat (first | (with_reducible first | exact HB.out | apply below_alloc | apply pw_below_drewN | apply below_drew1 | refine below_set ?_ GE126.out) | exact HB.out))) : w.heap.size ≤ gb128)); have n4_ := Aside0.mk ((by rw [hg]; exact (below_size (by repeat (first | (with_reducible first | exact HB.out | apply below_alloc | apply pw_below_drewN | apply below_drew1 | refine below_set ?_ GE126.out) | exact HB.out))) : w.heap.size ≤ gb128)); have n5_ := Aside0.mk ((by rw [hg]; exact Nat.ne_of_lt (blk_lt (g := gb126) (o := .cells #[.slice (some ad127) l0_0.length c0_0] 24 (0, 0)) (by (with_reducible repeat (first | refine blk_drewN ?_ _ | refine blk_drew ?_ | refine blk_alloc ?_ _)); exact BK126.out)) : gb126 ≠ gb128)); have n6_ := Aside0.mk ((by rw [hg]; exact Nat.ne_of_gt (blk_lt (g := gb126) (o := .cells #[.slice (some ad127) l0_0.length c0_0] 24 (0, 0)) (by (with_reducible repeat (first | refine blk_drewN ?_ _ | refine blk_drew ?_ | refine blk_alloc ?_ _)); exact BK126.out)) : gb128 ≠ gb126)); clear BK126; clear HB; have BK126 := n0_; have HB := n1_; have BK128 := n2_; have GW128 := n3_; have GE128 := n4_; have NB126_128 := n5_; have NB128_126 := n6_; clear n0_ n1_ n2_ n3_ n4_ n5_ n6_; clear hb hbox hg; have hnb20 := NB128_126.out; have hnc20 := NB126_128.out; have hcz21_0 : w19.cell? ⟨gb128, 0, none⟩ = some (.int .i64 0) := (blk_cell BK128.out 0).trans rfl; have hcz21_1 : w19.cell? ⟨gb128, 1, none⟩ = some (.slice none 0 0) := (blk_cell BK128.out 1).trans rfl; have hcz21_2 : w19.cell? ⟨gb128, 2, none⟩ = some (.int .i64 0) := (blk_cell BK128.out 2).trans rfl; have hcz21_3 : w19.cell? ⟨gb128, 3, none⟩ = some (.int .i64 0) := (blk_cell BK128.out 3).trans rfl; have hcz21_4 : w19.cell? ⟨gb128, 4, none⟩ = some (.int .i64 0) := (blk_cell BK128.out 4).trans rfl; have hcz21_5 : w19.cell? ⟨gb128, 5, none⟩ = some (.slice none 0 0) := (blk_cell BK128.out 5).trans rfl; have hcz21_6 : w19.cell? ⟨gb128, 6, none⟩ = some (.int .i64 0) := (blk_cell BK128.out 6).trans rfl; have hcz21_7 : w19.cell? ⟨gb128, 7, none⟩ = some (.int .i64 0) := (blk_cell BK128.out 7).trans rfl; have hcz21_8 : w19.cell? ⟨gb128, 8, none⟩ = some (.int .i64 0) := (blk_cell BK128.out 8).trans rfl; have hcz21_9 : w19.cell? ⟨gb128, 9, none⟩ = some (.int .i64 0) := (blk_cell BK128.out 9).trans rfl; have hfz21_0 := blk_frozen BK128.out 0; have hfz21_1 := blk_frozen BK128.out 1; have hfz21_2 := blk_frozen BK128.out 2; have hfz21_3 := blk_frozen BK128.out 3; have hfz21_4 := blk_frozen BK128.out 4; have hfz21_5 := blk_frozen BK128.out 5; have hfz21_6 := blk_frozen BK128.out 6; have hfz21_7 := blk_frozen BK128.out 7; have hfz21_8 := blk_frozen BK128.out 8; have hfz21_9 := blk_frozen BK128.out 9; have hcz22_0 : w19.cell? ⟨gb126, 0, none⟩ = some (.slice (some ad127) l0_0.length c0_0) := (blk_cell BK126.out 0).trans rfl; have hfz22_0 := blk_frozen BK126.out 0) | ((with_reducible refine gate_callee (f := 31) rfl ?_); refine goesL_ (some 25) rfl rfl Try.func31 (by kernel_rfl) rfl #[.agg #[.slice (some ad127) l0_0.length c0_0], .agg #[.int .i64 ((rd_T38 l0_0 x19_2).f0), .slice A127_1 ((rd_T38 l0_0 x19_2).f1).length c127_1, .int .i64 ((rd_T38 l0_0 x19_2).f2), .int .i64 ((rd_T38 l0_0 x19_2).f3.f0), .int .i64 ((rd_T38 l0_0 x19_2).f3.f1), .slice A127_5 ((rd_T38 l0_0 x19_2).f3.f2).length c127_5, .int .i64 ((rd_T38 l0_0 x19_2).f4), .int .i64 ((rd_T38 l0_0 x19_2).f5.f0), .int .i64 ((rd_T38 l0_0 x19_2).f5.f1), .int .i64 ((rd_T38 l0_0 x19_2).f5.f2)]] rfl (by (try simp only [List.map_toArray, List.map_cons, List.map_nil]); first | done | rfl | (simp only [List.length_drop, List.length_take]; rfl)) ?_; (with_reducible refine (job_node.calls k2 _ _ l0_0 ((rd_T38 l0_0 x19_2).f0) _ _ ((rd_T38 l0_0 x19_2).f1) ((rd_T38 l0_0 x19_2).f2) ((rd_T38 l0_0 x19_2).f3.f0) ((rd_T38 l0_0 x19_2).f3.f1) _ _ ((rd_T38 l0_0 x19_2).f3.f2) ((rd_T38 l0_0 x19_2).f4) ((rd_T38 l0_0 x19_2).f5.f0) ((rd_T38 l0_0 x19_2).f5.f1) ((rd_T38 l0_0 x19_2).f5.f2) t129 _ ?side1 ?side2 ?side3 ?side4 ?side5 ?side6 A12.out).mono ?_); (case side1 => exact Kd.C_below HR0_0.out (by repeat (first | (with_reducible first | exact HB.out | apply below_alloc | apply pw_below_drewN | apply below_drew1 | refine below_set ?_ GE126.out | refine below_set ?_ GE128.out) | exact HB.out))); (case side2 => exact HC0_0.out); (case side3 => exact Kd.C_below HR127_1.out (by repeat (first | (with_reducible first | exact HB.out | apply below_alloc | apply pw_below_drewN | apply below_drew1 | refine below_set ?_ GE126.out | refine below_set ?_ GE128.out) | exact HB.out))); (case side4 => exact HC127_1.out); (case side5 => exact Kd.C_below HR127_5.out (by repeat (first | (with_reducible first | exact HB.out | apply below_alloc | apply pw_below_drewN | apply below_drew1 | refine below_set ?_ GE126.out | refine below_set ?_ GE128.out) | exact HB.out))); (case side6 => exact HC127_5.out); rintro e w23 ⟨rfl, hb⟩; refine ⟨_, rfl, ?_⟩; have n0_ := Aside0.mk (blk_below (g := gb126) (o := .cells #[.slice (some ad127) l0_0.length c0_0] 24 (0, 0)) (by (with_reducible repeat (first | refine blk_drewN ?_ _ | refine blk_drew ?_ | refine blk_alloc ?_ _)); refine blk_far ?_ NB126_128.out _; (with_reducible repeat (first | refine blk_drewN ?_ _ | refine blk_drew ?_ | refine blk_alloc ?_ _)); refine blk_far ?_ NB126_128.out _; (with_reducible repeat (first | refine blk_drewN ?_ _ | refine blk_drew ?_ | refine blk_alloc ?_ _)); refine blk_far ?_ NB126_128.out _; (with_reducible repeat (first | refine blk_drewN ?_ _ | refine blk_drew ?_ | refine blk_alloc ?_ _)); refine blk_far ?_ NB126_128.out _; (with_reducible repeat (first | refine blk_drewN ?_ _ | refine blk_drew ?_ | refine blk_alloc ?_ _)); refine blk_far ?_ NB126_128.out _; (with_reducible repeat (first | refine blk_drewN ?_ _ | refine blk_drew ?_ | refine blk_alloc ?_ _)); refine blk_far ?_ NB126_128.out _; (with_reducible repeat (first | refine blk_drewN ?_ _ | refine blk_drew ?_ | refine blk_alloc ?_ _)); refine blk_far ?_ NB126_128.out _; (with_reducible repeat (first | refine blk_drewN ?_ _ | refine blk_drew ?_ | refine blk_alloc ?_ _)); refine blk_far ?_ NB126_128.out _; (with_reducible repeat (first | refine blk_drewN ?_ _ | refine blk_drew ?_ | refine blk_alloc ?_ _)); refine blk_far ?_ NB126_128.out _; (with_reducible repeat (first | refine blk_drewN ?_ _ | refine blk_drew ?_ | refine blk_alloc ?_ _)); refine blk_far ?_ NB126_128.out _; (with_reducible repeat (first | refine blk_drewN ?_ _ | refine blk_drew ?_ | refine blk_alloc ?_ _)); exact BK126.out) hb); have n1_ := Aside0.mk (blk_below (g := gb128) (o := .cells #[.int .i64 ((rd_T38 l0_0 x19_2).f0), .slice A127_1 ((rd_T38 l0_0 x19_2).f1).length c127_1, .int .i64 ((rd_T38 l0_0 x19_2).f2), .int .i64 ((rd_T38 l0_0 x19_2).f3.f0), .int .i64 ((rd_T38 l0_0 x19_2).f3.f1), .slice A127_5 ((rd_T38 l0_0 x19_2).f3.f2).length c127_5, .int .i64 ((rd_T38 l0_0 x19_2).f4), .int .i64 ((rd_T38 l0_0 x19_2).f5.f0), .int .i64 ((rd_T38 l0_0 x19_2).f5.f1), .int .i64 ((rd_T38 l0_0 x19_2).f5.f2)] 38 (0, 0)) (by (with_reducible repeat (first | refine blk_drewN ?_ _ | refine blk_drew ?_ | refine blk_alloc ?_ _)); refine blk_put (cs := #[.int .i64 ((rd_T38 l0_0 x19_2).f0), .slice A127_1 ((rd_T38 l0_0 x19_2).f1).length c127_1, .int .i64 ((rd_T38 l0_0 x19_2).f2), .int .i64 ((rd_T38 l0_0 x19_2).f3.f0), .int .i64 ((rd_T38 l0_0 x19_2).f3.f1), .slice A127_5 ((rd_T38 l0_0 x19_2).f3.f2).length c127_5, .int .i64 ((rd_T38 l0_0 x19_2).f4), .int .i64 ((rd_T38 l0_0 x19_2).f5.f0), .int .i64 ((rd_T38 l0_0 x19_2).f5.f1), .int .i64 0]) ?_ 9 _ rfl; (with_reducible repeat (first | refine blk_drewN ?_ _ | refine blk_drew ?_ | refine blk_alloc ?_ _)); refine blk_put (cs := #[.int .i64 ((rd_T38 l0_0 x19_2).f0), .slice A127_1 ((rd_T38 l0_0 x19_2).f1).length c127_1, .int .i64 ((rd_T38 l0_0 x19_2).f2), .int .i64 ((rd_T38 l0_0 x19_2).f3.f0), .int .i64 ((rd_T38 l0_0 x19_2).f3.f1), .slice A127_5 ((rd_T38 l0_0 x19_2).f3.f2).length c127_5, .int .i64 ((rd_T38 l0_0 x19_2).f4), .int .i64 ((rd_T38 l0_0 x19_2).f5.f0), .int .i64 0, .int .i64 0]) ?_ 8 _ rfl; (with_reducible repeat (first | refine blk_drewN ?_ _ | refine blk_drew ?_ | refine blk_alloc ?_ _)); refine blk_put (cs := #[.int .i64 ((rd_T38 l0_0 x19_2).f0), .slice A127_1 ((rd_T38 l0_0 x19_2).f1).length c127_1, .int .i64 ((rd_T38 l0_0 x19_2).f2), .int .i64 ((rd_T38 l0_0 x19_2).f3.f0), .int .i64 ((rd_T38 l0_0 x19_2).f3.f1), .slice A127_5 ((rd_T38 l0_0 x19_2).f3.f2).length c127_5, .int .i64 ((rd_T38 l0_0 x19_2).f4), .int .i64 0, .int .i64 0, .int .i64 0]) ?_ 7 _ rfl; (with_reducible repeat (first | refine blk_drewN ?_ _ | refine blk_drew ?_ | refine blk_alloc ?_ _)); refine blk_put (cs := #[.int .i64 ((rd_T38 l0_0 x19_2).f0), .slice A127_1 ((rd_T38 l0_0 x19_2).f1).length c127_1, .int .i64 ((rd_T38 l0_0 x19_2).f2), .int .i64 ((rd_T38 l0_0 x19_2).f3.f0), .int .i64 ((rd_T38 l0_0 x19_2).f3.f1), .slice A127_5 ((rd_T38 l0_0 x19_2).f3.f2).length c127_5, .int .i64 0, .int .i64 0, .int .i64 0, .int .i64 0]) ?_ 6 _ rfl; (with_reducible repeat (first | refine blk_drewN ?_ _ | refine blk_drew ?_ | refine blk_alloc ?_ _)); refine blk_put (cs := #[.int .i64 ((rd_T38 l0_0 x19_2).f0), .slice A127_1 ((rd_T38 l0_0 x19_2).f1).length c127_1, .int .i64 ((rd_T38 l0_0 x19_2).f2), .int .i64 ((rd_T38 l0_0 x19_2).f3.f0), .int .i64 ((rd_T38 l0_0 x19_2).f3.f1), .slice none 0 0, .int .i64 0, .int .i64 0, .int .i64 0, .int .i64 0]) ?_ 5 _ rfl; (with_reducible repeat (first | refine blk_drewN ?_ _ | refine blk_drew ?_ | refine blk_alloc ?_ _)); refine blk_put (cs := #[.int .i64 ((rd_T38 l0_0 x19_2).f0), .slice A127_1 ((rd_T38 l0_0 x19_2).f1).length c127_1, .int .i64 ((rd_T38 l0_0 x19_2).f2), .int .i64 ((rd_T38 l0_0 x19_2).f3.f0), .int .i64 0, .slice none 0 0, .int .i64 0, .int .i64 0, .int .i64 0, .int .i64 0]) ?_ 4 _ rfl; (with_reducible repeat (first | refine blk_drewN ?_ _ | refine blk_drew ?_ | refine blk_alloc ?_ _)); refine blk_put (cs := #[.int .i64 ((rd_T38 l0_0 x19_2).f0), .slice A127_1 ((rd_T38 l0_0 x19_2).f1).length c127_1, .int .i64 ((rd_T38 l0_0 x19_2).f2), .int .i64 0, .int .i64 0, .slice none 0 0, .int .i64 0, .int .i64 0, .int .i64 0, .int .i64 0]) ?_ 3 _ rfl; (with_reducible repeat (first | refine blk_drewN ?_ _ | refine blk_drew ?_ | refine blk_alloc ?_ _)); refine blk_put (cs := #[.int .i64 ((rd_T38 l0_0 x19_2).f0), .slice A127_1 ((rd_T38 l0_0 x19_2).f1).length c127_1, .int .i64 0, .int .i64 0, .int .i64 0, .slice none 0 0, .int .i64 0, .int .i64 0, .int .i64 0, .int .i64 0]) ?_ 2 _ rfl; (with_reducible repeat (first | refine blk_drewN ?_ _ | refine blk_drew ?_ | refine blk_alloc ?_ _)); refine blk_put (cs := #[.int .i64 ((rd_T38 l0_0 x19_2).f0), .slice none 0 0, .int .i64 0, .int .i64 0, .int .i64 0, .slice none 0 0, .int .i64 0, .int .i64 0, .int .i64 0, .int .i64 0]) ?_ 1 _ rfl; (with_reducible repeat (first | refine blk_drewN ?_ _ | refine blk_drew ?_ | refine blk_alloc ?_ _)); refine blk_put (cs := #[.int .i64 0, .slice none 0 0, .int .i64 0, .int .i64 0, .int .i64 0, .slice none 0 0, .int .i64 0, .int .i64 0, .int .i64 0, .int .i64 0]) ?_ 0 _ rfl; (with_reducible repeat (first | refine blk_drewN ?_ _ | refine blk_drew ?_ | refine blk_alloc ?_ _)); exact BK128.out) hb); have n2_ := Aside0.mk (below_step (by repeat (first | (with_reducible first | exact HB.out | apply below_alloc | apply pw_below_drewN | apply below_drew1 | refine below_set ?_ GE126.out | refine below_set ?_ GE128.out) | exact HB.out)) hb); clear BK126; clear BK128; clear HB; have BK126 := n0_; have BK128 := n1_; have HB := n2_; clear n0_ n1_ n2_; (try clear hb); (try clear hb2); (try clear hk); (try clear hi)))
          go_ret
          exact ⟨by first | rfl | (simp [errW_none, errW_some] <;> rfl) | (simp [*, errW_none, errW_some] <;> rfl), by repeat (first | (with_reducible first | exact HB.out | apply below_alloc | apply pw_below_drewN | apply below_drew1 | refine below_set ?_ GE126.out | refine below_set ?_ GE128.out) | exact HB.out)⟩
        ·rw [if_neg c11] at H
         exact absurd H (by simp)
       ·rw [if_neg c10] at H
        exact absurd H (by simp)
      ·rw [if_neg c9] at H
       have c9b0 : decide (x19_2 < (l0_0.length : Int)) = false := decide_eq_false c9
       clear c9
       replace H := Option.bind_eq_some_iff.mp H
       obtain ⟨t130, A240, H⟩ := H
       replace H : (if (t130.length : Int) < (l0_0.length : Int) then (some 83) else (some 0)) = some r := H
       have A24 := Aside0.mk A240
       clear A240
       by_cases c25 : (t130.length : Int) < (l0_0.length : Int)
       ·rw [if_pos c25] at H
        have c25b0 : decide ((t130.length : Int) < (l0_0.length : Int)) = true := decide_eq_true c25
        have c25b1 : decide (t130.length < l0_0.length) = true := decide_eq_true (Int.ofNat_lt.mp c25)
        clear c25
        obtain rfl := Option.some.inj H
        try go_wp2
        have n0_ := Aside0.mk (blk_drew BK126.out)
        have n1_ := Aside0.mk (below_drew1 HB.out)
        clear BK126
        clear HB
        have BK126 := n0_
        have HB := n1_
        clear n0_ n1_
        refine start_ (n := 7) (S := fun w' => w'.cell? ⟨gb126, 0, none⟩ = some (.slice A0_0 l0_0.length c0_0)) (ds := []) #[false, false, false, false, false, false, false] (by kernel_rfl) rfl rfl ((blk_cell BK126.out 0).trans rfl) (fun hHeld => ?_)
        generalize wr.drew = w26 at BK126 HB hHeld ⊢
        refine pure_ (i := 3) (N := some 33) (v := ?_) (a' := ?_) #[false, false, false, true, false, false, false] rfl rfl (by kernel_rfl) (fun _ _ _ h => h) (Or.inl ⟨by rfl, ?_⟩) ?_ ?_
        rotate_left
        ·intro w'
         go_simp
         with_reducible rfl
        rotate_left
        ·simp only [Act.put, List.setIfInBounds_toArray, List.set_cons_zero, List.set_cons_succ, i64_w, i32_w]
         rfl
        refine take_ (i := 0) (N := some 30) (v := ?_) (a' := ?_) #[true, false, false, true, false, false, false] rfl rfl (by kernel_rfl) (fun _ _ _ h => h) (Or.inl ⟨by rfl, ?_⟩) hHeld ?_ ?_
        rotate_left
        ·intro w' s0
         go_simp
         with_reducible rfl
        rotate_left
        ·simp only [Act.put, List.setIfInBounds_toArray, List.set_cons_zero, List.set_cons_succ, i64_w, i32_w]
         rfl
        refine take_ (i := 4) (N := some 34) (v := ?_) (a' := ?_) #[true, false, false, true, true, false, false] rfl rfl (by kernel_rfl) (fun _ _ _ h => h) (Or.inl ⟨by rfl, ?_⟩) hHeld ?_ ?_
        rotate_left
        ·intro w' s0
         go_simp
         with_reducible rfl
        rotate_left
        ·simp only [Act.put, List.setIfInBounds_toArray, List.set_cons_zero, List.set_cons_succ, i64_w, i32_w]
         rfl
        refine pure_ (i := 5) (N := some 35) (v := ?_) (a' := ?_) #[true, false, false, true, true, true, false] rfl rfl (by kernel_rfl) (fun _ _ _ h => h) (Or.inl ⟨by rfl, ?_⟩) ?_ ?_
        rotate_left
        ·intro w'
         go_simp
         with_reducible rfl
        rotate_left
        ·simp only [Act.put, List.setIfInBounds_toArray, List.set_cons_zero, List.set_cons_succ, i64_w, i32_w]
         rfl
        refine one_ (i := 1) (N := some 31) #[true, true, false, true, true, true, false] rfl rfl (by kernel_rfl) (by decide) (fun K hK => ?_)
        refine goes_ Try.func9 (by kernel_rfl) rfl #[.agg #[.slice A0_0 l0_0.length c0_0]] (by rfl) rfl rfl (by (try simp only [List.map_toArray, List.map_cons, List.map_nil]); first | done | rfl | (simp only [List.length_drop, List.length_take]; rfl)) ?_
        with_reducible refine (job_Order.calls _ _ l0_0 t130 _ ?side1 ?side2 A24.out).mono ?_
        (case side1 => repeat (first | exact (Kd.C_below HR0_0.out HB.out) | (with_reducible refine Kd.C_alloc ?_ _) | (with_reducible refine Kd.C_drewN ?_ _) | (with_reducible refine Kd.C_drew ?_)))
        (case side2 => exact HC0_0.out)
        rintro e w27 ⟨v131, rfl, ho0, hb⟩
        refine ⟨_, rfl, ?_⟩
        have n0_ := Aside0.mk (Kd.R_lower ho0 (below_size (by repeat (first | (with_reducible first | exact HB.out | apply below_alloc | apply pw_below_drewN | apply below_drew1 | refine below_set ?_ GE126.out) | exact HB.out))))
        have n1_ := Aside0.mk (blk_below (g := gb126) (o := .cells #[.slice A0_0 l0_0.length c0_0] 24 (0, 0)) (by (with_reducible repeat (first | refine blk_drewN ?_ _ | refine blk_drew ?_ | refine blk_alloc ?_ _)); exact BK126.out) hb)
        have n2_ := Aside0.mk (below_step (by repeat (first | (with_reducible first | exact HB.out | apply below_alloc | apply pw_below_drewN | apply below_drew1 | refine below_set ?_ GE126.out) | exact HB.out)) hb)
        clear BK126
        clear HB
        have HO132 := n0_
        have BK126 := n1_
        have HB := n2_
        clear n0_ n1_ n2_
        (try clear hb)
        (try clear hb2)
        (try clear hk)
        (try clear hi)
        (try clear ho0)
        obtain ⟨Ao28, co28, eo28⟩ := Kd.R_slice HO132.out
        (first | subst eo28 | (injection eo28 with f1_ f2_ f3_; have f4_ := f1_.symm; have f5_ := f3_.symm; clear f1_ f2_ f3_; subst f4_; subst f5_))
        refine hK.out _ _ ((blk_cell BK126.out 0).trans rfl) (fun hHeld => ?_)
        clear hK K
        refine norm_ (a' := ?_) ?_ ?_
        rotate_left
        ·show Act.put _ (some 31) _ = _
         simp only [Act.put, List.setIfInBounds_toArray, List.set_cons_zero, List.set_cons_succ, i64_w, i32_w]
         rfl
        refine pure_ (i := 2) (N := some 32) (v := ?_) (a' := ?_) #[true, true, true, true, true, true, false] rfl rfl (by kernel_rfl) (fun _ _ _ h => h) (Or.inl ⟨by rfl, ?_⟩) ?_ ?_
        rotate_left
        ·intro w'
         go_simp
         with_reducible rfl
        rotate_left
        ·simp only [Act.put, List.setIfInBounds_toArray, List.set_cons_zero, List.set_cons_succ, i64_w, i32_w]
         rfl
        refine pure_ (i := 6) (N := some 36) (v := ?_) (a' := ?_) #[true, true, true, true, true, true, true] rfl rfl (by kernel_rfl) (fun _ _ _ h => h) (Or.inl ⟨by rfl, ?_⟩) ?_ ?_
        rotate_left
        ·intro w'
         go_simp
         with_reducible rfl
        rotate_left
        ·simp only [Act.put, List.setIfInBounds_toArray, List.set_cons_zero, List.set_cons_succ, i64_w, i32_w]
         rfl
        refine done_ (by kernel_rfl) ?_
        try go_wp2
        go_ret
        exact ⟨by first | rfl | (simp [errW_none, errW_some] <;> rfl) | (simp [*, errW_none, errW_some] <;> rfl), by repeat (first | (with_reducible first | exact HB.out | apply below_alloc | apply pw_below_drewN | apply below_drew1 | refine below_set ?_ GE126.out) | exact HB.out)⟩
       ·rw [if_neg c25] at H
        have c25b0 : decide ((t130.length : Int) < (l0_0.length : Int)) = false := decide_eq_false c25
        have c25b1 : decide (t130.length < l0_0.length) = false := decide_eq_false (fun h => c25 (Int.ofNat_lt.mpr h))
        clear c25
        obtain rfl := Option.some.inj H
        try go_wp2
        have n0_ := Aside0.mk (blk_drew BK126.out)
        have n1_ := Aside0.mk (below_drew1 HB.out)
        clear BK126
        clear HB
        have BK126 := n0_
        have HB := n1_
        clear n0_ n1_
        refine start_ (n := 7) (S := fun w' => w'.cell? ⟨gb126, 0, none⟩ = some (.slice A0_0 l0_0.length c0_0)) (ds := []) #[false, false, false, false, false, false, false] (by kernel_rfl) rfl rfl ((blk_cell BK126.out 0).trans rfl) (fun hHeld => ?_)
        generalize wr.drew = w29 at BK126 HB hHeld ⊢
        refine pure_ (i := 3) (N := some 33) (v := ?_) (a' := ?_) #[false, false, false, true, false, false, false] rfl rfl (by kernel_rfl) (fun _ _ _ h => h) (Or.inl ⟨by rfl, ?_⟩) ?_ ?_
        rotate_left
        ·intro w'
         go_simp
         with_reducible rfl
        rotate_left
        ·simp only [Act.put, List.setIfInBounds_toArray, List.set_cons_zero, List.set_cons_succ, i64_w, i32_w]
         rfl
        refine take_ (i := 0) (N := some 30) (v := ?_) (a' := ?_) #[true, false, false, true, false, false, false] rfl rfl (by kernel_rfl) (fun _ _ _ h => h) (Or.inl ⟨by rfl, ?_⟩) hHeld ?_ ?_
        rotate_left
        ·intro w' s0
         go_simp
         with_reducible rfl
        rotate_left
        ·simp only [Act.put, List.setIfInBounds_toArray, List.set_cons_zero, List.set_cons_succ, i64_w, i32_w]
         rfl
        refine take_ (i := 4) (N := some 34) (v := ?_) (a' := ?_) #[true, false, false, true, true, false, false] rfl rfl (by kernel_rfl) (fun _ _ _ h => h) (Or.inl ⟨by rfl, ?_⟩) hHeld ?_ ?_
        rotate_left
        ·intro w' s0
         go_simp
         with_reducible rfl
        rotate_left
        ·simp only [Act.put, List.setIfInBounds_toArray, List.set_cons_zero, List.set_cons_succ, i64_w, i32_w]
         rfl
        refine pure_ (i := 5) (N := some 35) (v := ?_) (a' := ?_) #[true, false, false, true, true, true, false] rfl rfl (by kernel_rfl) (fun _ _ _ h => h) (Or.inl ⟨by rfl, ?_⟩) ?_ ?_
        rotate_left
        ·intro w'
         go_simp
         with_reducible rfl
        rotate_left
        ·simp only [Act.put, List.setIfInBounds_toArray, List.set_cons_zero, List.set_cons_succ, i64_w, i32_w]
         rfl
        refine one_ (i := 1) (N := some 31) #[true, true, false, true, true, true, false] rfl rfl (by kernel_rfl) (by decide) (fun K hK => ?_)
        refine goes_ Try.func9 (by kernel_rfl) rfl #[.agg #[.slice A0_0 l0_0.length c0_0]] (by rfl) rfl rfl (by (try simp only [List.map_toArray, List.map_cons, List.map_nil]); first | done | rfl | (simp only [List.length_drop, List.length_take]; rfl)) ?_
        with_reducible refine (job_Order.calls _ _ l0_0 t130 _ ?side1 ?side2 A24.out).mono ?_
        (case side1 => repeat (first | exact (Kd.C_below HR0_0.out HB.out) | (with_reducible refine Kd.C_alloc ?_ _) | (with_reducible refine Kd.C_drewN ?_ _) | (with_reducible refine Kd.C_drew ?_)))
        (case side2 => exact HC0_0.out)
        rintro e w30 ⟨v131, rfl, ho0, hb⟩
        refine ⟨_, rfl, ?_⟩
        have n0_ := Aside0.mk (Kd.R_lower ho0 (below_size (by repeat (first | (with_reducible first | exact HB.out | apply below_alloc | apply pw_below_drewN | apply below_drew1 | refine below_set ?_ GE126.out) | exact HB.out))))
        have n1_ := Aside0.mk (blk_below (g := gb126) (o := .cells #[.slice A0_0 l0_0.length c0_0] 24 (0, 0)) (by (with_reducible repeat (first | refine blk_drewN ?_ _ | refine blk_drew ?_ | refine blk_alloc ?_ _)); exact BK126.out) hb)
        have n2_ := Aside0.mk (below_step (by repeat (first | (with_reducible first | exact HB.out | apply below_alloc | apply pw_below_drewN | apply below_drew1 | refine below_set ?_ GE126.out) | exact HB.out)) hb)
        clear BK126
        clear HB
        have HO132 := n0_
        have BK126 := n1_
        have HB := n2_
        clear n0_ n1_ n2_
        (try clear hb)
        (try clear hb2)
        (try clear hk)
        (try clear hi)
        (try clear ho0)
        obtain ⟨Ao31, co31, eo31⟩ := Kd.R_slice HO132.out
        (first | subst eo31 | (injection eo31 with f1_ f2_ f3_; have f4_ := f1_.symm; have f5_ := f3_.symm; clear f1_ f2_ f3_; subst f4_; subst f5_))
        refine hK.out _ _ ((blk_cell BK126.out 0).trans rfl) (fun hHeld => ?_)
        clear hK K
        refine norm_ (a' := ?_) ?_ ?_
        rotate_left
        ·show Act.put _ (some 31) _ = _
         simp only [Act.put, List.setIfInBounds_toArray, List.set_cons_zero, List.set_cons_succ, i64_w, i32_w]
         rfl
        refine pure_ (i := 2) (N := some 32) (v := ?_) (a' := ?_) #[true, true, true, true, true, true, false] rfl rfl (by kernel_rfl) (fun _ _ _ h => h) (Or.inl ⟨by rfl, ?_⟩) ?_ ?_
        rotate_left
        ·intro w'
         go_simp
         with_reducible rfl
        rotate_left
        ·simp only [Act.put, List.setIfInBounds_toArray, List.set_cons_zero, List.set_cons_succ, i64_w, i32_w]
         rfl
        refine pure_ (i := 6) (N := some 36) (v := ?_) (a' := ?_) #[true, true, true, true, true, true, true] rfl rfl (by kernel_rfl) (fun _ _ _ h => h) (Or.inl ⟨by rfl, ?_⟩) ?_ ?_
        rotate_left
        ·intro w'
         go_simp
         with_reducible rfl
        rotate_left
        ·simp only [Act.put, List.setIfInBounds_toArray, List.set_cons_zero, List.set_cons_succ, i64_w, i32_w]
         rfl
        refine done_ (by kernel_rfl) ?_
        try go_wp2
        go_ret
        exact ⟨by first | rfl | (simp [errW_none, errW_some] <;> rfl) | (simp [*, errW_none, errW_some] <;> rfl), by repeat (first | (with_reducible first | exact HB.out | apply below_alloc | apply pw_below_drewN | apply below_drew1 | refine below_set ?_ GE126.out) | exact HB.out)⟩
end Go.Proofs.Ytpbmfdbfimcpjaa.X
namespace Go.Proofs.Ytpbmfdbfimcpjaa.X
open Go.RowKit Go.Proofs.YtpbmfdbfimcpjaaW.PrintWords Go.Proofs.YtpbmfdbfimcpjaaW.PrintLast Go.Proofs.YtpbmfdbfimcpjaaW.PrintMore
attribute [local go_sem] max2_int min2_int max_two min_two max_three min_three max_four min_four   -- for this text's walks alone
set_option linter.unusedVariables false
set_option linter.unusedSimpArgs false
mutual
def job_weights.l0 : Nat → List Int → List Int → Int → Int → List (S38) → Option (List Int)
 | 0, _, _, _, _, _ => none
 | k + 1, x3, x15, x16, x17, x134000 => if x17 < x16 then (if 0 ≤ x17 then (if x17 < (x15.length : Int) then (if 0 ≤ (rd x15 x17) then (if (rd x15 x17) < (x134000.length : Int) then (job_weights.l1 k x3 (rd x15 x17) 0 x15 x16 x17 ((rd_T38 x134000 (rd x15 x17)).f1) (((rd_T38 x134000 (rd x15 x17)).f1).length : Int) 0 x134000 ((rd_T38 x134000 (rd x15 x17)).f0) ((rd_T38 x134000 (rd x15 x17)).f1) ((rd_T38 x134000 (rd x15 x17)).f2) ((rd_T38 x134000 (rd x15 x17)).f3.f0) ((rd_T38 x134000 (rd x15 x17)).f3.f1) ((rd_T38 x134000 (rd x15 x17)).f3.f2) ((rd_T38 x134000 (rd x15 x17)).f4) ((rd_T38 x134000 (rd x15 x17)).f5.f0) ((rd_T38 x134000 (rd x15 x17)).f5.f1) ((rd_T38 x134000 (rd x15 x17)).f5.f2)) else (none)) else (none)) else (none)) else (none)) else (some x3)
def job_weights.l1 : Nat → List Int → Int → Int → List Int → Int → Int → List Int → Int → Int → List (S38) → Int → List Int → Int → Int → Int → List (S34) → Int → Int → Int → Int → Option (List Int)
 | 0, _, _, _, _, _, _, _, _, _, _, _, _, _, _, _, _, _, _, _, _ => none
 | k + 1, x3, x5, x7, x15, x16, x17, x27, x28, x29, x134000, x143000, x143001, x143002, x143003, x143004, x143005, x143006, x143007, x143008, x143009 => if x29 < x28 then (if 0 ≤ x29 then (if x29 < (x27.length : Int) then (if 0 ≤ (rd x27 x29) then (if (rd x27 x29) < (x3.length : Int) then (job_weights.l1 k x3 x5 (wrap64 (x7 + (rd x3 (rd x27 x29)))) x15 x16 x17 x27 x28 (wrap64 (x29 + 1)) x134000 x143000 x143001 x143002 x143003 x143004 x143005 x143006 x143007 x143008 x143009) else (none)) else (none)) else (none)) else (none)) else (if x143000 = 1 then (if 0 ≤ x5 then (if x5 < (x3.length : Int) then (job_weights.l0 k (x3.set (x5 : Int).toNat 1) x15 x16 (wrap64 (x17 + 1)) x134000) else (none)) else (none)) else (if x143000 = 7 then (if x143007 = 2 then (if x143009 = 0 then (none) else (if 0 ≤ x5 then (if x5 < (x3.length : Int) then (job_weights.l0 k (x3.set (x5 : Int).toNat (mn (wrap64 (x7 * (wrap64 (Int.tdiv (wrap64 ((wrap64 (x143008 + x143009)) - 1)) x143009)))) 65)) x15 x16 (wrap64 (x17 + 1)) x134000) else (none)) else (none))) else (if 0 ≤ x5 then (if x5 < (x3.length : Int) then (job_weights.l0 k (x3.set (x5 : Int).toNat (mn x7 65)) x15 x16 (wrap64 (x17 + 1)) x134000) else (none)) else (none))) else (if 0 ≤ x5 then (if x5 < (x3.length : Int) then (job_weights.l0 k (x3.set (x5 : Int).toNat (mn x7 65)) x15 x16 (wrap64 (x17 + 1)) x134000) else (none)) else (none))))
end
def job_weights.f (k : Nat) (l0_0 : List (S38)) : Option (List Int) := if 0 ≤ (l0_0.length : Int) then (if ((l0_0.length : Int) : Int).toNat ≤ 35184372088832 then ((job_Order.f l0_0).bind fun t137 => (job_weights.l0 k (List.replicate ((l0_0.length : Int) : Int).toNat 0) t137 (t137.length : Int) 0 l0_0)) else (none)) else (none)
theorem job_weights.mono_l : ∀ k, (∀ y0 y1 y2 y3 y4, LeO (job_weights.l0 k y0 y1 y2 y3 y4) (job_weights.l0 (k + 1) y0 y1 y2 y3 y4)) ∧ (∀ y0 y1 y2 y3 y4 y5 y6 y7 y8 y9 y10 y11 y12 y13 y14 y15 y16 y17 y18 y19, LeO (job_weights.l1 k y0 y1 y2 y3 y4 y5 y6 y7 y8 y9 y10 y11 y12 y13 y14 y15 y16 y17 y18 y19) (job_weights.l1 (k + 1) y0 y1 y2 y3 y4 y5 y6 y7 y8 y9 y10 y11 y12 y13 y14 y15 y16 y17 y18 y19))
 | 0 => ⟨fun _ _ _ _ _ r h => by simp [job_weights.l0] at h, fun _ _ _ _ _ _ _ _ _ _ _ _ _ _ _ _ _ _ _ _ r h => by simp [job_weights.l1] at h⟩
 | k + 1 => by
  obtain ⟨ih0, ih1⟩ := job_weights.mono_l k
  refine ⟨?_, ?_⟩
  ·intro y0 y1 y2 y3 y4
   unfold job_weights.l0
   repeat' first
   | (with_reducible exact ih0 _ _ _ _ _)
   | (with_reducible exact ih1 _ _ _ _ _ _ _ _ _ _ _ _ _ _ _ _ _ _ _ _)
   | (with_reducible exact LeO.refl _)
   | (with_reducible exact LeO.none _)
   | (with_reducible refine LeO.ite ?_ ?_)
   | (with_reducible refine LeO.bind ?_ (fun _ => ?_))
   | exact ih0 _ _ _ _ _
   | exact ih1 _ _ _ _ _ _ _ _ _ _ _ _ _ _ _ _ _ _ _ _
   | exact LeO.none _
   | refine LeO.ite ?_ ?_
   | refine LeO.bind ?_ (fun _ => ?_)
  ·intro y0 y1 y2 y3 y4 y5 y6 y7 y8 y9 y10 y11 y12 y13 y14 y15 y16 y17 y18 y19
   unfold job_weights.l1
   repeat' first
   | (with_reducible exact ih0 _ _ _ _ _)
   | (with_reducible exact ih1 _ _ _ _ _ _ _ _ _ _ _ _ _ _ _ _ _ _ _ _)
   | (with_reducible exact LeO.refl _)
   | (with_reducible exact LeO.none _)
   | (with_reducible refine LeO.ite ?_ ?_)
   | (with_reducible refine LeO.bind ?_ (fun _ => ?_))
   | exact ih0 _ _ _ _ _
   | exact ih1 _ _ _ _ _ _ _ _ _ _ _ _ _ _ _ _ _ _ _ _
   | exact LeO.none _
   | refine LeO.ite ?_ ?_
   | refine LeO.bind ?_ (fun _ => ?_)
theorem job_weights.mono : ∀ a0 k, LeO (job_weights.f k a0) (job_weights.f (k + 1) a0) := by
 intro a0 k
 obtain ⟨ih0, ih1⟩ := job_weights.mono_l k
 unfold job_weights.f
 repeat' first
   | (with_reducible exact ih0 _ _ _ _ _)
   | (with_reducible exact ih1 _ _ _ _ _ _ _ _ _ _ _ _ _ _ _ _ _ _ _ _)
   | (with_reducible exact LeO.refl _)
   | (with_reducible exact LeO.none _)
   | (with_reducible refine LeO.ite ?_ ?_)
   | (with_reducible refine LeO.bind ?_ (fun _ => ?_))
   | exact ih0 _ _ _ _ _
   | exact ih1 _ _ _ _ _ _ _ _ _ _ _ _ _ _ _ _ _ _ _ _
   | exact LeO.none _
   | refine LeO.ite ?_ ?_
   | refine LeO.bind ?_ (fun _ => ?_)
set_option maxHeartbeats 8000000 in
set_option maxRecDepth 100000 in
theorem job_weights.calls (k : Nat) (A0_0 : Option Addr) (c0_0 : Nat) (l0_0 : List (S38)) (r : List Int) (w : World) (hr0_0 : Kd.C k38 w A0_0 l0_0.length l0_0) (hc0_0 : l0_0.length ≤ c0_0) (h : job_weights.f k l0_0 = some r) :
  Calls Try.prog 20 #[.agg #[.slice A0_0 l0_0.length c0_0]] w fun e w' => ∃ v0_ : Value, e = .returned (v0_) ∧ Kd.R (Kd.int .i64) 3 w' w.heap.size (fun _ => True) v0_ r ∧ Below w.heap.size w w' := by
 have hu24 := Try.underlying24
 have hu38 := Try.underlying38
 have HR0_0 := Aside0.mk hr0_0
 have HC0_0 := Aside0.mk hc0_0
 clear hr0_0 hc0_0
 have HB := Aside0.mk (Below.refl w.heap.size w)
 have H : (if 0 ≤ (l0_0.length : Int) then (if ((l0_0.length : Int) : Int).toNat ≤ 35184372088832 then ((job_Order.f l0_0).bind fun t137 => (job_weights.l0 k (List.replicate ((l0_0.length : Int) : Int).toNat 0) t137 (t137.length : Int) 0 l0_0)) else (none)) else (none)) = some r := h
 clear h
 by_cases c2 : 0 ≤ (l0_0.length : Int)
 ·rw [if_pos c2] at H
  have c2b0 := eq_true c2
  have c2b1 : decide (0 ≤ (l0_0.length : Int)) = true := decide_eq_true c2
  clear c2
  by_cases c3 : ((l0_0.length : Int) : Int).toNat ≤ 35184372088832
  ·rw [if_pos c3] at H
   have c3b0 := eq_true c3
   have c3b1 : decide (((l0_0.length : Int) : Int).toNat ≤ 35184372088832) = true := decide_eq_true c3
   clear c3
   obtain ⟨y134, hy134⟩ : ∃ y_ : List Int, y_ = (List.replicate ((l0_0.length : Int) : Int).toNat 0) := ⟨_, rfl⟩
   replace H : ((job_Order.f l0_0).bind fun t137 => (job_weights.l0 k y134 t137 (t137.length : Int) 0 l0_0)) = some r := by first | (rw [hy134]; with_reducible exact H) | (have H2_ := (Option.bind_some _ _).symm.trans H; rw [hy134]; with_reducible exact H2_) | (have H2_ := (Option.bind_some _ _).symm.trans H; with_reducible exact H2_) | with_reducible exact H | (rw [hy134]; exact H) | exact H
   have Ny134 := Aside0.mk hy134
   clear hy134
   replace H := Option.bind_eq_some_iff.mp H
   obtain ⟨t137, A40, H⟩ := H
   replace H : (job_weights.l0 k y134 t137 (t137.length : Int) 0 l0_0) = some r := H
   have A4 := Aside0.mk A40
   clear A40
   have H' := Aside0.mk H
   clear H
   go_enter Try.func20, Try.ntmps20
   go_wp2_with (first | ((with_reducible refine gate_dst (N := 1) rfl ?_); refine box_event ?hg (N := 1) ?hd (cs := #[.slice A0_0 l0_0.length c0_0]) (t := 24) ?hr ?_; (case hd => rfl); (case hg => rfl); (case hr => first | (go_simp; done) | (go_simp; rfl)); intro gb133 hg w5 hbox hb; have n0_ := Aside0.mk (below_step (by repeat (first | (with_reducible first | exact HB.out | apply below_alloc | apply pw_below_drewN | apply below_drew1) | exact HB.out)) hb); have n1_ := Aside0.mk (hbox); have n2_ := Aside0.mk ((by rw [hg]; exact (below_size (by repeat (first | (with_reducible first | exact HB.out | apply below_alloc | apply pw_below_drewN | apply below_drew1) | exact HB.out))) : w.heap.size ≤ gb133)); have n3_ := Aside0.mk ((by rw [hg]; exact (below_size (by repeat (first | (with_reducible first | exact HB.out | apply below_alloc | apply pw_below_drewN | apply below_drew1) | exact HB.out))) : w.heap.size ≤ gb133)); clear HB; have HB := n0_; have BK133 := n1_; have GW133 := n2_; have GE133 := n3_; clear n0_ n1_ n2_ n3_; clear hb hbox hg; have hcz6_0 : w5.cell? ⟨gb133, 0, none⟩ = some (.slice A0_0 l0_0.length c0_0) := (blk_cell BK133.out 0).trans rfl; have hfz6_0 := blk_frozen BK133.out 0) | ((with_reducible refine gate_dst (N := 13) rfl ?_); refine Kd.R_make (Kd.int .i64) _ 3 rfl (N := 13) rfl 30 _ _ rfl (l0_0.length : Int) rfl rfl Try.underlying30 (.int .i64 0) 8 info3 rfl (by decide) (by omega) 0 (ok := fun _ => True) (okp := fun _ => True) rfl (fun _ hk => hk) trivial (of_decide_eq_true (by first | (with_reducible assumption) | assumption)) (Nat.le_trans (Nat.mul_le_mul_right _ (of_decide_eq_true (by first | (with_reducible assumption) | assumption) : (l0_0.length : Int).toNat ≤ 35184372088832)) (by omega)) (Below.refl _ _) (Nat.le_refl _) ?_; intro v135 w7 ho8 hb hg_ hnew_; clear hg_ hnew_; (first | rw [← Ny134.out] at ho8 | (simp only [Int.reduceToNat] at ho8; rw [← Ny134.out] at ho8)); have n0_ := Aside0.mk (Kd.R_lower ho8 (below_size (by repeat (first | (with_reducible first | exact HB.out | apply below_alloc | apply pw_below_drewN | apply below_drew1 | refine below_set ?_ GE133.out) | exact HB.out)))); have n1_ := Aside0.mk (blk_below (g := gb133) (o := .cells #[.slice A0_0 l0_0.length c0_0] 24 (0, 0)) (by (with_reducible repeat (first | refine blk_drewN ?_ _ | refine blk_drew ?_ | refine blk_alloc ?_ _)); exact BK133.out) hb); have n2_ := Aside0.mk (below_step (by repeat (first | (with_reducible first | exact HB.out | apply below_alloc | apply pw_below_drewN | apply below_drew1 | refine below_set ?_ GE133.out) | exact HB.out)) hb); clear BK133; clear HB; have HO136 := n0_; have BK133 := n1_; have HB := n2_; clear n0_ n1_ n2_; clear hb ho8; have hcz9_0 : w7.cell? ⟨gb133, 0, none⟩ = some (.slice A0_0 l0_0.length c0_0) := (blk_cell BK133.out 0).trans rfl; have hfz9_0 := blk_frozen BK133.out 0) | ((with_reducible refine gate_callee (f := 9) rfl ?_); refine goesL_ (some 15) rfl rfl Try.func9 (by kernel_rfl) rfl #[.agg #[.slice A0_0 l0_0.length c0_0]] rfl (by (try simp only [List.map_toArray, List.map_cons, List.map_nil]); first | done | rfl | (simp only [List.length_drop, List.length_take]; rfl)) ?_; (with_reducible refine (job_Order.calls _ _ l0_0 t137 _ ?side1 ?side2 A4.out).mono ?_); (case side1 => repeat (first | exact (Kd.C_below HR0_0.out HB.out) | (with_reducible refine Kd.C_alloc ?_ _) | (with_reducible refine Kd.C_drewN ?_ _) | (with_reducible refine Kd.C_drew ?_))); (case side2 => exact HC0_0.out); rintro e w10 ⟨v138, rfl, ho0, hb⟩; refine ⟨_, rfl, ?_⟩; have n0_ := Aside0.mk (Kd.R_elder' (by (with_reducible repeat (first | apply Kd.R_alloc | apply Kd.R_drewN | apply Kd.R_drew)); exact HO136.out) (Kd.R_base ho0) hb); have n1_ := Aside0.mk (Kd.R_lower (Kd.R_new' ho0 (Kd.R_lt (by (with_reducible repeat (first | apply Kd.R_alloc | apply Kd.R_drewN | apply Kd.R_drew)); exact HO136.out))) (below_size (by repeat (first | (with_reducible first | exact HB.out | apply below_alloc | apply pw_below_drewN | apply below_drew1 | refine below_set ?_ GE133.out) | exact HB.out)))); have n2_ := Aside0.mk (blk_below (g := gb133) (o := .cells #[.slice A0_0 l0_0.length c0_0] 24 (0, 0)) (by (with_reducible repeat (first | refine blk_drewN ?_ _ | refine blk_drew ?_ | refine blk_alloc ?_ _)); exact BK133.out) hb); have n3_ := Aside0.mk (below_step (by repeat (first | (with_reducible first | exact HB.out | apply below_alloc | apply pw_below_drewN | apply below_drew1 | refine below_set ?_ GE133.out) | exact HB.out)) hb); clear HO136; clear BK133; clear HB; have HO136 := n0_; have HO139 := n1_; have BK133 := n2_; have HB := n3_; clear n0_ n1_ n2_ n3_; (try clear hb); (try clear hb2); (try clear hk); (try clear hi); (try clear ho0); obtain ⟨Ao11, co11, eo11⟩ := Kd.R_slice HO139.out; subst eo11))
   go_loopg [17] k (fun kq v17 w' => ∃ (x3_1 : List Int) (x17_1 : Int), v17 = .int .i64 x17_1 ∧ Aside0 (job_weights.l0 kq x3_1 t137 (t137.length : Int) x17_1 l0_0 = some r) ∧ Aside0 (kq ≤ k) ∧ Aside0 (Kd.R (Kd.int .i64) 3 w' w.heap.size (fun k_ => some k_ ≠ ((.slice Ao11 t137.length co11) : Value).ownBlock) v135 x3_1) ∧ Aside0 (Kd.R (Kd.int .i64) 3 w' w.heap.size (fun k_ => some k_ ≠ (v135 : Value).ownBlock) (.slice Ao11 t137.length co11) t137) ∧ Aside0 (w'.heap[gb133]? = some (.cells #[(.slice A0_0 l0_0.length c0_0)] 24 (0, 0))) ∧ Aside0 (Below w.heap.size w w'))
   case atStart => exact ⟨(y134), (0), (by first | rfl | (simp; done) | (simp [*]; done)), H', ⟨Nat.le_refl _⟩, ⟨by (with_reducible repeat (first | apply Kd.R_alloc | apply Kd.R_drewN | apply Kd.R_drew)); exact Kd.R_mono HO136.out (fun _ hk => hk.2)⟩, ⟨by (with_reducible repeat (first | apply Kd.R_alloc | apply Kd.R_drewN | apply Kd.R_drew)); exact Kd.R_mono HO139.out (fun _ hk => hk.2)⟩, ⟨by (with_reducible repeat (first | refine blk_drewN ?_ _ | refine blk_drew ?_ | refine blk_alloc ?_ _)); exact BK133.out⟩, ⟨by repeat (first | (with_reducible first | exact HB.out | apply below_alloc | apply pw_below_drewN | apply below_drew1 | refine below_set ?_ GE133.out) | exact HB.out)⟩⟩
   case round =>
    clear H'
    try clear c2; try clear c2b0; try clear c2b1; try clear p2; try clear c3; try clear c3b0; try clear c3b1; try clear c9; try clear hcz6_0; try clear hcz9_0; try clear hfz6_0; try clear hfz9_0
    obtain ⟨x3_1, x17_1, rfl, HA, HK1, HO_3, HO_15, BK133, HB⟩ := hrel
    cases gk with
    | zero => exact absurd HA.out (by simp [job_weights.l0])
    | succ k1 =>
     have H := HA.out
     clear HA
     simp only [job_weights.l0] at H
     by_cases c12 : x17_1 < (t137.length : Int)
     ·rw [if_pos c12] at H
      have c12b0 : decide (x17_1 < (t137.length : Int)) = true := decide_eq_true c12
      clear c12
      by_cases c13 : 0 ≤ x17_1
      ·rw [if_pos c13] at H
       have c13b0 : decide (0 ≤ x17_1) = true := decide_eq_true c13
       clear c13
       by_cases c14 : x17_1 < (t137.length : Int)
       ·rw [if_pos c14] at H
        have c14b0 : decide (x17_1 < (t137.length : Int)) = true := decide_eq_true c14
        clear c14
        by_cases c15 : 0 ≤ (rd t137 x17_1)
        ·rw [if_pos c15] at H
         have c15b0 : decide (0 ≤ (rd t137 x17_1)) = true := decide_eq_true c15
         clear c15
         by_cases c16 : (rd t137 x17_1) < (l0_0.length : Int)
         ·rw [if_pos c16] at H
          have c16b0 : decide ((rd t137 x17_1) < (l0_0.length : Int)) = true := decide_eq_true c16
          clear c16
          have H' := Aside0.mk H
          clear H
          have p140 : 0 ≤ (x17_1 : Int) := of_decide_eq_true (by first | (with_reducible assumption) | assumption)
          have q140 : x17_1 < (t137.length : Int) := of_decide_eq_true (by first | (with_reducible assumption) | assumption)
          obtain ⟨ad140, e140, hx140_0⟩ := Kd.at_int (Kd.R_reads' HO_15.out).2.2 x17_1 p140 q140
          cases e140
          replace p140 := eq_true p140
          replace q140 := eq_true q140
          have hcz17_0 : wr.cell? ⟨gb133, 0, none⟩ = some (.slice A0_0 l0_0.length c0_0) := (blk_cell BK133.out 0).trans rfl
          have hfz17_0 := blk_frozen BK133.out 0
          have p141 : 0 ≤ ((rd t137 x17_1) : Int) := of_decide_eq_true (by first | (with_reducible assumption) | assumption)
          have q141 : (rd t137 x17_1) < (l0_0.length : Int) := of_decide_eq_true (by first | (with_reducible assumption) | assumption)
          obtain ⟨ad141, A141_1, c141_1, A141_5, c141_5, e141, hx141_0, hx141_1, hx141_2, hx141_3, hx141_4, hx141_5, hx141_6, hx141_7, hx141_8, hx141_9, hl141_1, hi141_1, hl141_5, hi141_5⟩ := at_T38 HR0_0.out (rd t137 x17_1) p141 q141
          cases e141
          replace hx141_0 := (HB.out.cell (World.block_lt_of_cell? w _ hx141_0)).trans hx141_0
          replace hx141_1 := (HB.out.cell (World.block_lt_of_cell? w _ hx141_1)).trans hx141_1
          replace hx141_2 := (HB.out.cell (World.block_lt_of_cell? w _ hx141_2)).trans hx141_2
          replace hx141_3 := (HB.out.cell (World.block_lt_of_cell? w _ hx141_3)).trans hx141_3
          replace hx141_4 := (HB.out.cell (World.block_lt_of_cell? w _ hx141_4)).trans hx141_4
          replace hx141_5 := (HB.out.cell (World.block_lt_of_cell? w _ hx141_5)).trans hx141_5
          replace hx141_6 := (HB.out.cell (World.block_lt_of_cell? w _ hx141_6)).trans hx141_6
          replace hx141_7 := (HB.out.cell (World.block_lt_of_cell? w _ hx141_7)).trans hx141_7
          replace hx141_8 := (HB.out.cell (World.block_lt_of_cell? w _ hx141_8)).trans hx141_8
          replace hx141_9 := (HB.out.cell (World.block_lt_of_cell? w _ hx141_9)).trans hx141_9
          have HR141_1 := Aside0.mk hi141_1
          have HC141_1 := Aside0.mk hl141_1
          clear hi141_1 hl141_1
          have HR141_5 := Aside0.mk hi141_5
          have HC141_5 := Aside0.mk hl141_5
          clear hi141_5 hl141_5
          replace p141 := eq_true p141
          replace q141 := eq_true q141
          go_wp2_with (first | ((with_reducible refine gate_dst (N := 6) rfl ?_); refine box_event ?hg (N := 6) ?hd (cs := #[.int .i64 0, .slice none 0 0, .int .i64 0, .int .i64 0, .int .i64 0, .slice none 0 0, .int .i64 0, .int .i64 0, .int .i64 0, .int .i64 0]) (t := 38) ?hr ?_; (case hd => rfl); (case hg => rfl); (case hr => first | (go_simp; done) | (go_simp; rfl)); intro gb142 hg w18 hbox hb; have n0_ := Aside0.mk (Kd.R_below (by (with_reducible repeat (first | apply Kd.R_alloc | apply Kd.R_drewN | apply Kd.R_drew)); exact HO_3.out) hb); have n1_ := Aside0.mk (Kd.R_below (by (with_reducible repeat (first | apply Kd.R_alloc | apply Kd.R_drewN | apply Kd.R_drew)); exact HO_15.out) hb); have n2_ := Aside0.mk (blk_below (g := gb133) (o := .cells #[.slice (some ad141) l0_0.length c0_0] 24 (0, 0)) (by (with_reducible repeat (first | refine blk_drewN ?_ _ | refine blk_drew ?_ | refine blk_alloc ?_ _)); exact BK133.out) hb); have n3_ := Aside0.mk (below_step (by repeat (first | (with_reducible first | exact HB.out | apply below_alloc | apply pw_below_drewN | apply below_drew1 | refine below_set ?_ GE133.out) | exact HB.out)) hb); have n4_ := Aside0.mk (hbox); have n5_ := Aside0.mk ((by rw [hg]; exact (below_size (by repeat (first | (with_reducible first | exact HB.out | apply below_alloc | apply pw_below_drewN | apply below_drew1 | refine below_set ?_ GE133.out) | exact HB.out))) : w.heap.size ≤ gb142)); have n6_ := Aside0.mk ((by rw [hg]; exact (below_size (by repeat (first | (with_reducible first | exact HB.out | apply below_alloc | apply pw_below_drewN | apply below_drew1 | refine below_set ?_ GE133.out) | exact HB.out))) : w.heap.size ≤ gb142)); have n7_ := Aside0.mk ((by rw [hg]; exact Nat.ne_of_lt (blk_lt (g := gb133) (o := .cells #[.slice (some ad141) l0_0.length c0_0] 24 (0, 0)) (by (with_reducible repeat (first | refine blk_drewN ?_ _ | refine blk_drew ?_ | refine blk_alloc ?_ _)); exact BK133.out)) : gb133 ≠ gb142)); have n8_ := Aside0.mk ((by rw [hg]; exact Nat.ne_of_gt (blk_lt (g := gb133) (o := .cells #[.slice (some ad141) l0_0.length c0_0] 24 (0, 0)) (by (with_reducible repeat (first | refine blk_drewN ?_ _ | refine blk_drew ?_ | refine blk_alloc ?_ _)); exact BK133.out)) : gb142 ≠ gb133)); clear HO_3; clear HO_15; clear BK133; clear HB; have HO_3 := n0_; have HO_15 := n1_; have BK133 := n2_; have HB := n3_; have BK142 := n4_; have GW142 := n5_; have GE142 := n6_; have NB133_142 := n7_; have NB142_133 := n8_; clear n0_ n1_ n2_ n3_ n4_ n5_ n6_ n7_ n8_; clear hb hbox hg; have hnb19 := NB142_133.out; have hnc19 := NB133_142.out; have hcz20_0 : w18.cell? ⟨gb142, 0, none⟩ = some (.int .i64 0) := (blk_cell BK142.out 0).trans rfl; have hcz20_1 : w18.cell? ⟨gb142, 1, none⟩ = some (.slice none 0 0) := (blk_cell BK142.out 1).trans rfl; have hcz20_2 : w18.cell? ⟨gb142, 2, none⟩ = some (.int .i64 0) := (blk_cell BK142.out 2).trans rfl; have hcz20_3 : w18.cell? ⟨gb142, 3, none⟩ = some (.int .i64 0) := (blk_cell BK142.out 3).trans rfl; have hcz20_4 : w18.cell? ⟨gb142, 4, none⟩ = some (.int .i64 0) := (blk_cell BK142.out 4).trans rfl; have hcz20_5 : w18.cell? ⟨gb142, 5, none⟩ = some (.slice none 0 0) := (blk_cell BK142.out 5).trans rfl; have hcz20_6 : w18.cell? ⟨gb142, 6, none⟩ = some (.int .i64 0) := (blk_cell BK142.out 6).trans rfl; have hcz20_7 : w18.cell? ⟨gb142, 7, none⟩ = some (.int .i64 0) := (blk_cell BK142.out 7).trans rfl; have hcz20_8 : w18.cell? ⟨gb142, 8, none⟩ = some (.int .i64 0) := (blk_cell BK142.out 8).trans rfl; have hcz20_9 : w18.cell? ⟨gb142, 9, none⟩ = some (.int .i64 0) := (blk_cell BK142.out 9).trans rfl; have hfz20_0 := blk_frozen BK142.out 0; have hfz20_1 := blk_frozen BK142.out 1; have hfz20_2 := blk_frozen BK142.out 2; have hfz20_3 := blk_frozen BK142.out 3; have hfz20_4 := blk_frozen BK142.out 4; have hfz20_5 := blk_frozen BK142.out 5; have hfz20_6 := blk_frozen BK142.out 6; have hfz20_7 := blk_frozen BK142.out 7; have hfz20_8 := blk_frozen BK142.out 8; have hfz20_9 := blk_frozen BK142.out 9))
          go_loopg [7, 29] k1 (fun kq v7 v29 w' => ∃ (x7_2 : Int) (x29_2 : Int), v7 = .int .i64 x7_2 ∧ v29 = .int .i64 x29_2 ∧ Aside0 (job_weights.l1 kq x3_1 (rd t137 x17_1) x7_2 t137 (t137.length : Int) x17_1 ((rd_T38 l0_0 (rd t137 x17_1)).f1) (((rd_T38 l0_0 (rd t137 x17_1)).f1).length : Int) x29_2 l0_0 ((rd_T38 l0_0 (rd t137 x17_1)).f0) ((rd_T38 l0_0 (rd t137 x17_1)).f1) ((rd_T38 l0_0 (rd t137 x17_1)).f2) ((rd_T38 l0_0 (rd t137 x17_1)).f3.f0) ((rd_T38 l0_0 (rd t137 x17_1)).f3.f1) ((rd_T38 l0_0 (rd t137 x17_1)).f3.f2) ((rd_T38 l0_0 (rd t137 x17_1)).f4) ((rd_T38 l0_0 (rd t137 x17_1)).f5.f0) ((rd_T38 l0_0 (rd t137 x17_1)).f5.f1) ((rd_T38 l0_0 (rd t137 x17_1)).f5.f2) = some r) ∧ Aside0 (kq ≤ k1) ∧ Aside0 (Kd.R (Kd.int .i64) 3 w' w.heap.size (fun k_ => some k_ ≠ ((.slice (some ad140) t137.length co11) : Value).ownBlock) v135 x3_1) ∧ Aside0 (Kd.R (Kd.int .i64) 3 w' w.heap.size (fun k_ => some k_ ≠ (v135 : Value).ownBlock) (.slice (some ad140) t137.length co11) t137) ∧ Aside0 (w'.heap[gb133]? = some (.cells #[(.slice (some ad141) l0_0.length c0_0)] 24 (0, 0))) ∧ Aside0 (w'.heap[gb142]? = some (.cells #[.int .i64 ((rd_T38 l0_0 (rd t137 x17_1)).f0), (.slice A141_1 ((rd_T38 l0_0 (rd t137 x17_1)).f1).length c141_1), .int .i64 ((rd_T38 l0_0 (rd t137 x17_1)).f2), .int .i64 ((rd_T38 l0_0 (rd t137 x17_1)).f3.f0), .int .i64 ((rd_T38 l0_0 (rd t137 x17_1)).f3.f1), (.slice A141_5 ((rd_T38 l0_0 (rd t137 x17_1)).f3.f2).length c141_5), .int .i64 ((rd_T38 l0_0 (rd t137 x17_1)).f4), .int .i64 ((rd_T38 l0_0 (rd t137 x17_1)).f5.f0), .int .i64 ((rd_T38 l0_0 (rd t137 x17_1)).f5.f1), .int .i64 ((rd_T38 l0_0 (rd t137 x17_1)).f5.f2)] 38 (0, 0))) ∧ Aside0 (Below w.heap.size w w'))
          case atStart => exact ⟨(0), (0), (by first | rfl | (simp; done) | (simp [*]; done)), (by first | rfl | (simp; done) | (simp [*]; done)), H', ⟨Nat.le_refl _⟩, ⟨by (with_reducible repeat (first | apply Kd.R_alloc | apply Kd.R_drewN | apply Kd.R_drew)); exact Kd.R_mono (Kd.R_far (p := ⟨gb142, 9, none⟩) (Kd.R_far (p := ⟨gb142, 8, none⟩) (Kd.R_far (p := ⟨gb142, 7, none⟩) (Kd.R_far (p := ⟨gb142, 6, none⟩) (Kd.R_far (p := ⟨gb142, 5, none⟩) (Kd.R_far (p := ⟨gb142, 4, none⟩) (Kd.R_far (p := ⟨gb142, 3, none⟩) (Kd.R_far (p := ⟨gb142, 2, none⟩) (Kd.R_far (p := ⟨gb142, 1, none⟩) (Kd.R_far (p := ⟨gb142, 0, none⟩) (Kd.R_types HO_3.out BK142.out (by decide)) (fun _ hk => hk.2) (.int .i64 ((rd_T38 l0_0 (rd t137 x17_1)).f0))) (fun _ hk => hk.2) (.slice A141_1 ((rd_T38 l0_0 (rd t137 x17_1)).f1).length c141_1)) (fun _ hk => hk.2) (.int .i64 ((rd_T38 l0_0 (rd t137 x17_1)).f2))) (fun _ hk => hk.2) (.int .i64 ((rd_T38 l0_0 (rd t137 x17_1)).f3.f0))) (fun _ hk => hk.2) (.int .i64 ((rd_T38 l0_0 (rd t137 x17_1)).f3.f1))) (fun _ hk => hk.2) (.slice A141_5 ((rd_T38 l0_0 (rd t137 x17_1)).f3.f2).length c141_5)) (fun _ hk => hk.2) (.int .i64 ((rd_T38 l0_0 (rd t137 x17_1)).f4))) (fun _ hk => hk.2) (.int .i64 ((rd_T38 l0_0 (rd t137 x17_1)).f5.f0))) (fun _ hk => hk.2) (.int .i64 ((rd_T38 l0_0 (rd t137 x17_1)).f5.f1))) (fun _ hk => hk.2) (.int .i64 ((rd_T38 l0_0 (rd t137 x17_1)).f5.f2))) (fun _ hk => hk.1)⟩, ⟨by (with_reducible repeat (first | apply Kd.R_alloc | apply Kd.R_drewN | apply Kd.R_drew)); exact Kd.R_mono (Kd.R_far (p := ⟨gb142, 9, none⟩) (Kd.R_far (p := ⟨gb142, 8, none⟩) (Kd.R_far (p := ⟨gb142, 7, none⟩) (Kd.R_far (p := ⟨gb142, 6, none⟩) (Kd.R_far (p := ⟨gb142, 5, none⟩) (Kd.R_far (p := ⟨gb142, 4, none⟩) (Kd.R_far (p := ⟨gb142, 3, none⟩) (Kd.R_far (p := ⟨gb142, 2, none⟩) (Kd.R_far (p := ⟨gb142, 1, none⟩) (Kd.R_far (p := ⟨gb142, 0, none⟩) (Kd.R_types HO_15.out BK142.out (by decide)) (fun _ hk => hk.2) (.int .i64 ((rd_T38 l0_0 (rd t137 x17_1)).f0))) (fun _ hk => hk.2) (.slice A141_1 ((rd_T38 l0_0 (rd t137 x17_1)).f1).length c141_1)) (fun _ hk => hk.2) (.int .i64 ((rd_T38 l0_0 (rd t137 x17_1)).f2))) (fun _ hk => hk.2) (.int .i64 ((rd_T38 l0_0 (rd t137 x17_1)).f3.f0))) (fun _ hk => hk.2) (.int .i64 ((rd_T38 l0_0 (rd t137 x17_1)).f3.f1))) (fun _ hk => hk.2) (.slice A141_5 ((rd_T38 l0_0 (rd t137 x17_1)).f3.f2).length c141_5)) (fun _ hk => hk.2) (.int .i64 ((rd_T38 l0_0 (rd t137 x17_1)).f4))) (fun _ hk => hk.2) (.int .i64 ((rd_T38 l0_0 (rd t137 x17_1)).f5.f0))) (fun _ hk => hk.2) (.int .i64 ((rd_T38 l0_0 (rd t137 x17_1)).f5.f1))) (fun _ hk => hk.2) (.int .i64 ((rd_T38 l0_0 (rd t137 x17_1)).f5.f2))) (fun _ hk => hk.1)⟩, ⟨by (with_reducible repeat (first | refine blk_drewN ?_ _ | refine blk_drew ?_ | refine blk_alloc ?_ _)); refine blk_far ?_ NB133_142.out _; (with_reducible repeat (first | refine blk_drewN ?_ _ | refine blk_drew ?_ | refine blk_alloc ?_ _)); refine blk_far ?_ NB133_142.out _; (with_reducible repeat (first | refine blk_drewN ?_ _ | refine blk_drew ?_ | refine blk_alloc ?_ _)); refine blk_far ?_ NB133_142.out _; (with_reducible repeat (first | refine blk_drewN ?_ _ | refine blk_drew ?_ | refine blk_alloc ?_ _)); refine blk_far ?_ NB133_142.out _; (with_reducible repeat (first | refine blk_drewN ?_ _ | refine blk_drew ?_ | refine blk_alloc ?_ _)); refine blk_far ?_ NB133_142.out _; (with_reducible repeat (first | refine blk_drewN ?_ _ | refine blk_drew ?_ | refine blk_alloc ?_ _)); refine blk_far ?_ NB133_142.out _; (with_reducible repeat (first | refine blk_drewN ?_ _ | refine blk_drew ?_ | refine blk_alloc ?_ _)); refine blk_far ?_ NB133_142.out _; (with_reducible repeat (first | refine blk_drewN ?_ _ | refine blk_drew ?_ | refine blk_alloc ?_ _)); refine blk_far ?_ NB133_142.out _; (with_reducible repeat (first | refine blk_drewN ?_ _ | refine blk_drew ?_ | refine blk_alloc ?_ _)); refine blk_far ?_ NB133_142.out _; (with_reducible repeat (first | refine blk_drewN ?_ _ | refine blk_drew ?_ | refine blk_alloc ?_ _)); refine blk_far ?_ NB133_142.out _; (with_reducible repeat (first | refine blk_drewN ?_ _ | refine blk_drew ?_ | refine blk_alloc ?_ _)); exact BK133.out⟩, ⟨by (with_reducible repeat (first | refine blk_drewN ?_ _ | refine blk_drew ?_ | refine blk_alloc ?_ _)); refine blk_put (cs := #[.int .i64 ((rd_T38 l0_0 (rd t137 x17_1)).f0), .slice A141_1 ((rd_T38 l0_0 (rd t137 x17_1)).f1).length c141_1, .int .i64 ((rd_T38 l0_0 (rd t137 x17_1)).f2), .int .i64 ((rd_T38 l0_0 (rd t137 x17_1)).f3.f0), .int .i64 ((rd_T38 l0_0 (rd t137 x17_1)).f3.f1), .slice A141_5 ((rd_T38 l0_0 (rd t137 x17_1)).f3.f2).length c141_5, .int .i64 ((rd_T38 l0_0 (rd t137 x17_1)).f4), .int .i64 ((rd_T38 l0_0 (rd t137 x17_1)).f5.f0), .int .i64 ((rd_T38 l0_0 (rd t137 x17_1)).f5.f1), .int .i64 0]) ?_ 9 _ rfl; (with_reducible repeat (first | refine blk_drewN ?_ _ | refine blk_drew ?_ | refine blk_alloc ?_ _)); refine blk_put (cs := #[.int .i64 ((rd_T38 l0_0 (rd t137 x17_1)).f0), .slice A141_1 ((rd_T38 l0_0 (rd t137 x17_1)).f1).length c141_1, .int .i64 ((rd_T38 l0_0 (rd t137 x17_1)).f2), .int .i64 ((rd_T38 l0_0 (rd t137 x17_1)).f3.f0), .int .i64 ((rd_T38 l0_0 (rd t137 x17_1)).f3.f1), .slice A141_5 ((rd_T38 l0_0 (rd t137 x17_1)).f3.f2).length c141_5, .int .i64 ((rd_T38 l0_0 (rd t137 x17_1)).f4), .int .i64 ((rd_T38 l0_0 (rd t137 x17_1)).f5.f0), .int .i64 0, .int .i64 0]) ?_ 8 _ rfl; (with_reducible repeat (first | refine blk_drewN ?_ _ | refine blk_drew ?_ | refine blk_alloc ?_ _)); refine blk_put (cs := #[.int .i64 ((rd_T38 l0_0 (rd t137 x17_1)).f0), .slice A141_1 ((rd_T38 l0_0 (rd t137 x17_1)).f1).length c141_1, .int .i64 ((rd_T38 l0_0 (rd t137 x17_1)).f2), .int .i64 ((rd_T38 l0_0 (rd t137 x17_1)).f3.f0), .int .i64 ((rd_T38 l0_0 (rd t137 x17_1)).f3.f1), .slice A141_5 ((rd_T38 l0_0 (rd t137 x17_1)).f3.f2).length c141_5, .int .i64 ((rd_T38 l0_0 (rd t137 x17_1)).f4), .int .i64 0, .int .i64 0, .int .i64 0]) ?_ 7 _ rfl; (with_reducible repeat (first | refine blk_drewN ?_ _ | refine blk_drew ?_ | refine blk_alloc ?_ _)); refine blk_put (cs := #[.int .i64 ((rd_T38 l0_0 (rd t137 x17_1)).f0), .slice A141_1 ((rd_T38 l0_0 (rd t137 x17_1)).f1).length c141_1, .int .i64 ((rd_T38 l0_0 (rd t137 x17_1)).f2), .int .i64 ((rd_T38 l0_0 (rd t137 x17_1)).f3.f0), .int .i64 ((rd_T38 l0_0 (rd t137 x17_1)).f3.f1), .slice A141_5 ((rd_T38 l0_0 (rd t137 x17_1)).f3.f2).length c141_5, .int .i64 0, .int .i64 0, .int .i64 0, .int .i64 0]) ?_ 6 _ rfl; (with_reducible repeat (first | refine blk_drewN ?_ _ | refine blk_drew ?_ | refine blk_alloc ?_ _)); refine blk_put (cs := #[.int .i64 ((rd_T38 l0_0 (rd t137 x17_1)).f0), .slice A141_1 ((rd_T38 l0_0 (rd t137 x17_1)).f1).length c141_1, .int .i64 ((rd_T38 l0_0 (rd t137 x17_1)).f2), .int .i64 ((rd_T38 l0_0 (rd t137 x17_1)).f3.f0), .int .i64 ((rd_T38 l0_0 (rd t137 x17_1)).f3.f1), .slice none 0 0, .int .i64 0, .int .i64 0, .int .i64 0, .int .i64 0]) ?_ 5 _ rfl; (with_reducible repeat (first | refine blk_drewN ?_ _ | refine blk_drew ?_ | refine blk_alloc ?_ _)); refine blk_put (cs := #[.int .i64 ((rd_T38 l0_0 (rd t137 x17_1)).f0), .slice A141_1 ((rd_T38 l0_0 (rd t137 x17_1)).f1).length c141_1, .int .i64 ((rd_T38 l0_0 (rd t137 x17_1)).f2), .int .i64 ((rd_T38 l0_0 (rd t137 x17_1)).f3.f0), .int .i64 0, .slice none 0 0, .int .i64 0, .int .i64 0, .int .i64 0, .int .i64 0]) ?_ 4 _ rfl; (with_reducible repeat (first | refine blk_drewN ?_ _ | refine blk_drew ?_ | refine blk_alloc ?_ _)); refine blk_put (cs := #[.int .i64 ((rd_T38 l0_0 (rd t137 x17_1)).f0), .slice A141_1 ((rd_T38 l0_0 (rd t137 x17_1)).f1).length c141_1, .int .i64 ((rd_T38 l0_0 (rd t137 x17_1)).f2), .int .i64 0, .int .i64 0, .slice none 0 0, .int .i64 0, .int .i64 0, .int .i64 0, .int .i64 0]) ?_ 3 _ rfl; (with_reducible repeat (first | refine blk_drewN ?_ _ | refine blk_drew ?_ | refine blk_alloc ?_ _)); refine blk_put (cs := #[.int .i64 ((rd_T38 l0_0 (rd t137 x17_1)).f0), .slice A141_1 ((rd_T38 l0_0 (rd t137 x17_1)).f1).length c141_1, .int .i64 0, .int .i64 0, .int .i64 0, .slice none 0 0, .int .i64 0, .int .i64 0, .int .i64 0, .int .i64 0]) ?_ 2 _ rfl; (with_reducible repeat (first | refine blk_drewN ?_ _ | refine blk_drew ?_ | refine blk_alloc ?_ _)); refine blk_put (cs := #[.int .i64 ((rd_T38 l0_0 (rd t137 x17_1)).f0), .slice none 0 0, .int .i64 0, .int .i64 0, .int .i64 0, .slice none 0 0, .int .i64 0, .int .i64 0, .int .i64 0, .int .i64 0]) ?_ 1 _ rfl; (with_reducible repeat (first | refine blk_drewN ?_ _ | refine blk_drew ?_ | refine blk_alloc ?_ _)); refine blk_put (cs := #[.int .i64 0, .slice none 0 0, .int .i64 0, .int .i64 0, .int .i64 0, .slice none 0 0, .int .i64 0, .int .i64 0, .int .i64 0, .int .i64 0]) ?_ 0 _ rfl; (with_reducible repeat (first | refine blk_drewN ?_ _ | refine blk_drew ?_ | refine blk_alloc ?_ _)); exact BK142.out⟩, ⟨by repeat (first | (with_reducible first | exact HB.out | apply below_alloc | apply pw_below_drewN | apply below_drew1 | refine below_set ?_ GE133.out | refine below_set ?_ GE142.out) | exact HB.out)⟩⟩
          case round =>
           clear H'
           try clear c1; try clear p1; try clear q1; try clear hx1; try clear c2; try clear c2b0; try clear c2b1; try clear p2; try clear c3; try clear c3b0; try clear c3b1; try clear c9; try clear c12; try clear c12b0; try clear c13; try clear c13b0; try clear c14; try clear c14b0; try clear p14; try clear q14; try clear hx14; try clear c15; try clear c15b0; try clear c16; try clear c16b0; try clear c19; try clear c20; try clear hcz17_0; try clear hcz20_0; try clear hcz20_1; try clear hcz20_2; try clear hcz20_3; try clear hcz20_4; try clear hcz20_5; try clear hcz20_6; try clear hcz20_7; try clear hcz20_8; try clear hcz20_9; try clear hcz6_0; try clear hcz9_0; try clear hfz17_0; try clear hfz20_0; try clear hfz20_1; try clear hfz20_2; try clear hfz20_3; try clear hfz20_4; try clear hfz20_5; try clear hfz20_6; try clear hfz20_7; try clear hfz20_8; try clear hfz20_9; try clear hfz6_0; try clear hfz9_0; try clear hx140_0; try clear hx141_0; try clear hx141_1; try clear hx141_2; try clear hx141_3; try clear hx141_4; try clear hx141_5; try clear hx141_6; try clear hx141_7; try clear hx141_8; try clear hx141_9; try clear p140; try clear p141; try clear p2; try clear q140; try clear q141
           obtain ⟨x7_2, x29_2, rfl, rfl, HA, HK2, HO_3, HO_15, BK133, BK142, HB⟩ := hrel
           cases gk with
           | zero => exact absurd HA.out (by simp [job_weights.l1])
           | succ k2 =>
            have H := HA.out
            clear HA
            simp only [job_weights.l1] at H
            by_cases c21 : x29_2 < (((rd_T38 l0_0 (rd t137 x17_1)).f1).length : Int)
            ·rw [if_pos c21] at H
             have c21b0 : decide (x29_2 < (((rd_T38 l0_0 (rd t137 x17_1)).f1).length : Int)) = true := decide_eq_true c21
             clear c21
             by_cases c22 : 0 ≤ x29_2
             ·rw [if_pos c22] at H
              have c22b0 : decide (0 ≤ x29_2) = true := decide_eq_true c22
              clear c22
              by_cases c23 : x29_2 < (((rd_T38 l0_0 (rd t137 x17_1)).f1).length : Int)
              ·rw [if_pos c23] at H
               have c23b0 : decide (x29_2 < (((rd_T38 l0_0 (rd t137 x17_1)).f1).length : Int)) = true := decide_eq_true c23
               clear c23
               by_cases c24 : 0 ≤ (rd ((rd_T38 l0_0 (rd t137 x17_1)).f1) x29_2)
               ·rw [if_pos c24] at H
                have c24b0 : decide (0 ≤ (rd ((rd_T38 l0_0 (rd t137 x17_1)).f1) x29_2)) = true := decide_eq_true c24
                clear c24
                by_cases c25 : (rd ((rd_T38 l0_0 (rd t137 x17_1)).f1) x29_2) < (x3_1.length : Int)
                ·rw [if_pos c25] at H
                 have c25b0 : decide ((rd ((rd_T38 l0_0 (rd t137 x17_1)).f1) x29_2) < (x3_1.length : Int)) = true := decide_eq_true c25
                 clear c25
                 have H' := Aside0.mk H
                 clear H
                 have p143 : 0 ≤ (x29_2 : Int) := of_decide_eq_true (by first | (with_reducible assumption) | assumption)
                 have q143 : x29_2 < (((rd_T38 l0_0 (rd t137 x17_1)).f1).length : Int) := of_decide_eq_true (by first | (with_reducible assumption) | assumption)
                 obtain ⟨ad143, e143, hx143_0⟩ := Kd.at_int HR141_1.out x29_2 p143 q143
                 cases e143
                 replace hx143_0 := (HB.out.cell (World.block_lt_of_cell? w _ hx143_0)).trans hx143_0
                 replace p143 := eq_true p143
                 replace q143 := eq_true q143
                 obtain ⟨Ao26, co26, eo26⟩ := Kd.R_slice HO_3.out
                 subst eo26
                 have p144 : 0 ≤ ((rd ((rd_T38 l0_0 (rd t137 x17_1)).f1) x29_2) : Int) := of_decide_eq_true (by first | (with_reducible assumption) | assumption)
                 have q144 : (rd ((rd_T38 l0_0 (rd t137 x17_1)).f1) x29_2) < (x3_1.length : Int) := of_decide_eq_true (by first | (with_reducible assumption) | assumption)
                 obtain ⟨ad144, e144, hx144_0⟩ := Kd.at_int (Kd.R_reads' HO_3.out).2.2 (rd ((rd_T38 l0_0 (rd t137 x17_1)).f1) x29_2) p144 q144
                 cases e144
                 replace p144 := eq_true p144
                 replace q144 := eq_true q144
                 go_wp2
                 go_roundg k2
                 case measure => have := HK1.out; have := HK2.out; omega
                 case rel => exact ⟨(wrap64 (x7_2 + (rd x3_1 (rd ((rd_T38 l0_0 (rd t137 x17_1)).f1) x29_2)))), (wrap64 (x29_2 + 1)), (by first | rfl | (simp; done) | (simp [*]; done)), (by first | rfl | (simp; done) | (simp [*]; done)), H', ⟨by have := HK1.out; have := HK2.out; omega⟩, ⟨by (with_reducible repeat (first | apply Kd.R_alloc | apply Kd.R_drewN | apply Kd.R_drew)); exact HO_3.out⟩, ⟨by (with_reducible repeat (first | apply Kd.R_alloc | apply Kd.R_drewN | apply Kd.R_drew)); exact HO_15.out⟩, ⟨by (with_reducible repeat (first | refine blk_drewN ?_ _ | refine blk_drew ?_ | refine blk_alloc ?_ _)); exact BK133.out⟩, ⟨by (with_reducible repeat (first | refine blk_drewN ?_ _ | refine blk_drew ?_ | refine blk_alloc ?_ _)); exact BK142.out⟩, ⟨by repeat (first | (with_reducible first | exact HB.out | apply below_alloc | apply pw_below_drewN | apply below_drew1 | refine below_set ?_ GE133.out | refine below_set ?_ GE142.out) | exact HB.out)⟩⟩
                ·rw [if_neg c25] at H
                 exact absurd H (by simp)
               ·rw [if_neg c24] at H
                exact absurd H (by simp)
              ·rw [if_neg c23] at H
               exact absurd H (by simp)
             ·rw [if_neg c22] at H
              exact absurd H (by simp)
            ·rw [if_neg c21] at H
             have c21b0 : decide (x29_2 < (((rd_T38 l0_0 (rd t137 x17_1)).f1).length : Int)) = false := decide_eq_false c21
             clear c21
             by_cases c27 : ((rd_T38 l0_0 (rd t137 x17_1)).f0) = 1
             ·rw [if_pos c27] at H
              have c27b0 : (((rd_T38 l0_0 (rd t137 x17_1)).f0) == 1) = true := beq_iff_eq.mpr c27
              have c27b1 : (((rd_T38 l0_0 (rd t137 x17_1)).f0) != 1) = false := bne_eq_false_iff_eq.mpr c27
              clear c27
              by_cases c28 : 0 ≤ (rd t137 x17_1)
              ·rw [if_pos c28] at H
               have c28b0 : decide (0 ≤ (rd t137 x17_1)) = true := decide_eq_true c28
               clear c28
               by_cases c29 : (rd t137 x17_1) < (x3_1.length : Int)
               ·rw [if_pos c29] at H
                have c29b0 : decide ((rd t137 x17_1) < (x3_1.length : Int)) = true := decide_eq_true c29
                clear c29
                obtain ⟨y145, hy145⟩ : ∃ y_ : List Int, y_ = (x3_1.set ((rd t137 x17_1) : Int).toNat 1) := ⟨_, rfl⟩
                replace H : (job_weights.l0 k2 y145 t137 (t137.length : Int) (wrap64 (x17_1 + 1)) l0_0) = some r := by first | (rw [hy145]; with_reducible exact H) | (have H2_ := (Option.bind_some _ _).symm.trans H; rw [hy145]; with_reducible exact H2_) | (have H2_ := (Option.bind_some _ _).symm.trans H; with_reducible exact H2_) | with_reducible exact H | (rw [hy145]; exact H) | exact H
                have Ny145 := Aside0.mk hy145
                clear hy145
                have H' := Aside0.mk H
                clear H
                have hnb31 := NB142_133.out
                have hnc31 := NB133_142.out
                have hcz32_0 : wr.cell? ⟨gb142, 0, none⟩ = some (.int .i64 ((rd_T38 l0_0 (rd t137 x17_1)).f0)) := (blk_cell BK142.out 0).trans rfl
                have hcz32_1 : wr.cell? ⟨gb142, 1, none⟩ = some (.slice A141_1 ((rd_T38 l0_0 (rd t137 x17_1)).f1).length c141_1) := (blk_cell BK142.out 1).trans rfl
                have hcz32_2 : wr.cell? ⟨gb142, 2, none⟩ = some (.int .i64 ((rd_T38 l0_0 (rd t137 x17_1)).f2)) := (blk_cell BK142.out 2).trans rfl
                have hcz32_3 : wr.cell? ⟨gb142, 3, none⟩ = some (.int .i64 ((rd_T38 l0_0 (rd t137 x17_1)).f3.f0)) := (blk_cell BK142.out 3).trans rfl
                have hcz32_4 : wr.cell? ⟨gb142, 4, none⟩ = some (.int .i64 ((rd_T38 l0_0 (rd t137 x17_1)).f3.f1)) := (blk_cell BK142.out 4).trans rfl
                have hcz32_5 : wr.cell? ⟨gb142, 5, none⟩ = some (.slice A141_5 ((rd_T38 l0_0 (rd t137 x17_1)).f3.f2).length c141_5) := (blk_cell BK142.out 5).trans rfl
                have hcz32_6 : wr.cell? ⟨gb142, 6, none⟩ = some (.int .i64 ((rd_T38 l0_0 (rd t137 x17_1)).f4)) := (blk_cell BK142.out 6).trans rfl
                have hcz32_7 : wr.cell? ⟨gb142, 7, none⟩ = some (.int .i64 ((rd_T38 l0_0 (rd t137 x17_1)).f5.f0)) := (blk_cell BK142.out 7).trans rfl
                have hcz32_8 : wr.cell? ⟨gb142, 8, none⟩ = some (.int .i64 ((rd_T38 l0_0 (rd t137 x17_1)).f5.f1)) := (blk_cell BK142.out 8).trans rfl
                have hcz32_9 : wr.cell? ⟨gb142, 9, none⟩ = some (.int .i64 ((rd_T38 l0_0 (rd t137 x17_1)).f5.f2)) := (blk_cell BK142.out 9).trans rfl
                have hfz32_0 := blk_frozen BK142.out 0
                have hfz32_1 := blk_frozen BK142.out 1
                have hfz32_2 := blk_frozen BK142.out 2
                have hfz32_3 := blk_frozen BK142.out 3
                have hfz32_4 := blk_frozen BK142.out 4
                have hfz32_5 := blk_frozen BK142.out 5
                have hfz32_6 := blk_frozen BK142.out 6
                have hfz32_7 := blk_frozen BK142.out 7
                have hfz32_8 := blk_frozen BK142.out 8
                have hfz32_9 := blk_frozen BK142.out 9
                have p30 : 0 ≤ ((rd t137 x17_1) : Int) := of_decide_eq_true (by first | (with_reducible assumption) | assumption)
                have q30 : ((rd t137 x17_1) : Int) < ((x3_1.length : Int) : Int) := of_decide_eq_true (by first | (with_reducible assumption) | assumption)
                obtain ⟨go30, co30, eo30, gb30, gl30, cl30, HG30⟩ := Kd.R_form HO_3.out (by omega)
                (first | cases eo30 | (injection eo30 with ea_ en_ ec_; (first | subst ea_ | (injection ea_ with ea_; subst ea_)); subst ec_; clear en_))
                have GB30 := Aside0.mk gb30
                have GG30 := Aside0.mk HG30
                clear gb30 gl30 HG30
                obtain ⟨hx30_0, hf30_0⟩ := Kd.R_celln 0 HO_3.out ((rd t137 x17_1) : Int) p30 q30
                replace p30 := eq_true p30
                replace q30 := eq_true q30
                have HP33 := Kd.R_putg HO_3.out ((rd t137 x17_1) : Int) 1
                go_wp2_with (first | ((with_reducible refine gate_store (t := 3) (p := 72) rfl ?_); refine store_event (t := 3) (p := 72) (v := ?vo_w34) (w1 := (wr.setCell ⟨go30, ((rd t137 x17_1) : Int).toNat, none⟩ (.int .i64 1))) ?hg ?ho ?hn ?hr ?_; (case ho => rfl); (case hg => rfl); (case hn => rfl); (case hr => first | (go_simp; done) | (go_simp; rfl)); intro w34 hw; have hg : wr.grownBy w34 (some go30) := (by rw [hw]; exact HP33.2); have hp_ : Kd.R (Kd.int .i64) 3 w34 w.heap.size (fun k_ => some k_ ≠ (.slice (some ad140) t137.length co11 : Value).ownBlock) (.slice (some ⟨go30, 0, none⟩) x3_1.length co30) y145 := (by rw [hw, Ny145.out]; exact HP33.1); clear HP33; have n0_ := Aside0.mk (hp_); have n1_ := Aside0.mk (Kd.R_after (v := (.slice (some ⟨go30, 0, none⟩) x3_1.length co30)) (v1 := (.slice (some ⟨go30, 0, none⟩) x3_1.length co30)) (ok := (fun _ => True)) (by (with_reducible repeat (first | apply Kd.R_alloc | apply Kd.R_drewN | apply Kd.R_drew)); exact Kd.R_mono HO_15.out (fun _ hk => ⟨trivial, hk⟩)) hg (.inl rfl)); have n2_ := Aside0.mk (blk_grown (g := gb133) (o := .cells #[.slice (some ad141) l0_0.length c0_0] 24 (0, 0)) (by (with_reducible repeat (first | refine blk_drewN ?_ _ | refine blk_drew ?_ | refine blk_alloc ?_ _)); exact BK133.out) hg (Kd.R_ne HO_3.out BK133.out (by decide))); have n3_ := Aside0.mk (blk_grown (g := gb142) (o := .cells #[.int .i64 ((rd_T38 l0_0 (rd t137 x17_1)).f0), .slice A141_1 ((rd_T38 l0_0 (rd t137 x17_1)).f1).length c141_1, .int .i64 ((rd_T38 l0_0 (rd t137 x17_1)).f2), .int .i64 ((rd_T38 l0_0 (rd t137 x17_1)).f3.f0), .int .i64 ((rd_T38 l0_0 (rd t137 x17_1)).f3.f1), .slice A141_5 ((rd_T38 l0_0 (rd t137 x17_1)).f3.f2).length c141_5, .int .i64 ((rd_T38 l0_0 (rd t137 x17_1)).f4), .int .i64 ((rd_T38 l0_0 (rd t137 x17_1)).f5.f0), .int .i64 ((rd_T38 l0_0 (rd t137 x17_1)).f5.f1), .int .i64 ((rd_T38 l0_0 (rd t137 x17_1)).f5.f2)] 38 (0, 0)) (by (with_reducible repeat (first | refine blk_drewN ?_ _ | refine blk_drew ?_ | refine blk_alloc ?_ _)); exact BK142.out) hg (Kd.R_ne HO_3.out BK142.out (by decide))); have n4_ := Aside0.mk ((by rw [hw]; exact below_set (HB.out) GB30.out : Below w.heap.size w w34)); clear HO_3; clear HO_15; clear BK133; clear BK142; clear HB; have HO_3 := n0_; have HO_15 := n1_; have BK133 := n2_; have BK142 := n3_; have HB := n4_; clear n0_ n1_ n2_ n3_ n4_; clear hg hw hp_))
                go_roundg k2
                case measure => have := HK1.out; have := HK2.out; omega
                case rel => exact ⟨(y145), (wrap64 (x17_1 + 1)), (by first | rfl | (simp; done) | (simp [*]; done)), H', ⟨by have := HK1.out; have := HK2.out; omega⟩, ⟨by (with_reducible repeat (first | apply Kd.R_alloc | apply Kd.R_drewN | apply Kd.R_drew)); exact HO_3.out⟩, ⟨by (with_reducible repeat (first | apply Kd.R_alloc | apply Kd.R_drewN | apply Kd.R_drew)); exact Kd.R_mono HO_15.out (fun _ hk => hk.2)⟩, ⟨by (with_reducible repeat (first | refine blk_drewN ?_ _ | refine blk_drew ?_ | refine blk_alloc ?_ _)); exact BK133.out⟩, ⟨by repeat (first | (with_reducible first | exact HB.out | apply below_alloc | apply pw_below_drewN | apply below_drew1 | refine below_set ?_ GE133.out | refine below_set ?_ GE142.out) | exact HB.out)⟩⟩
               ·rw [if_neg c29] at H
                exact absurd H (by simp)
              ·rw [if_neg c28] at H
               exact absurd H (by simp)
             ·rw [if_neg c27] at H
              have c27b0 : (((rd_T38 l0_0 (rd t137 x17_1)).f0) == 1) = false := beq_eq_false_iff_ne.mpr c27
              have c27b1 : (((rd_T38 l0_0 (rd t137 x17_1)).f0) != 1) = true := bne_iff_ne.mpr c27
              by_cases c35 : ((rd_T38 l0_0 (rd t137 x17_1)).f0) = 7
              ·rw [if_pos c35] at H
               have c35b0 : (((rd_T38 l0_0 (rd t137 x17_1)).f0) == 7) = true := beq_iff_eq.mpr c35
               have c35b1 : (((rd_T38 l0_0 (rd t137 x17_1)).f0) != 7) = false := bne_eq_false_iff_eq.mpr c35
               clear c35
               by_cases c36 : ((rd_T38 l0_0 (rd t137 x17_1)).f5.f0) = 2
               ·rw [if_pos c36] at H
                have c36b0 : (((rd_T38 l0_0 (rd t137 x17_1)).f5.f0) == 2) = true := beq_iff_eq.mpr c36
                have c36b1 : (((rd_T38 l0_0 (rd t137 x17_1)).f5.f0) != 2) = false := bne_eq_false_iff_eq.mpr c36
                clear c36
                by_cases c37 : ((rd_T38 l0_0 (rd t137 x17_1)).f5.f2) = 0
                ·rw [if_pos c37] at H
                 exact absurd H (by simp)
                ·rw [if_neg c37] at H
                 have c37b0 : (((rd_T38 l0_0 (rd t137 x17_1)).f5.f2) == 0) = false := beq_eq_false_iff_ne.mpr c37
                 have c37b1 : (((rd_T38 l0_0 (rd t137 x17_1)).f5.f2) != 0) = true := bne_iff_ne.mpr c37
                 obtain ⟨ji38, hji38⟩ : ∃ j_ : Int, (mn (wrap64 (x7_2 * (wrap64 (Int.tdiv (wrap64 ((wrap64 (((rd_T38 l0_0 (rd t137 x17_1)).f5.f1) + ((rd_T38 l0_0 (rd t137 x17_1)).f5.f2))) - 1)) ((rd_T38 l0_0 (rd t137 x17_1)).f5.f2))))) 65) = j_ := ⟨_, rfl⟩
                 replace H : (if 0 ≤ (rd t137 x17_1) then (if (rd t137 x17_1) < (x3_1.length : Int) then (job_weights.l0 k2 (x3_1.set ((rd t137 x17_1) : Int).toNat (ji38)) t137 (t137.length : Int) (wrap64 (x17_1 + 1)) l0_0) else (none)) else (none)) = some r := by first | (rw [hji38] at H; exact H) | (simp only [hji38] at H ⊢; exact H)
                 have hji38_ : (if 65 < (wrap64 (x7_2 * (wrap64 (Int.tdiv (wrap64 ((wrap64 (((rd_T38 l0_0 (rd t137 x17_1)).f5.f1) + ((rd_T38 l0_0 (rd t137 x17_1)).f5.f2))) - 1)) ((rd_T38 l0_0 (rd t137 x17_1)).f5.f2))))) then 65 else (wrap64 (x7_2 * (wrap64 (Int.tdiv (wrap64 ((wrap64 (((rd_T38 l0_0 (rd t137 x17_1)).f5.f1) + ((rd_T38 l0_0 (rd t137 x17_1)).f5.f2))) - 1)) ((rd_T38 l0_0 (rd t137 x17_1)).f5.f2)))))) = ji38 := hji38
                 by_cases c39 : 0 ≤ (rd t137 x17_1)
                 ·rw [if_pos c39] at H
                  have c39b0 : decide (0 ≤ (rd t137 x17_1)) = true := decide_eq_true c39
                  clear c39
                  by_cases c40 : (rd t137 x17_1) < (x3_1.length : Int)
                  ·rw [if_pos c40] at H
                   have c40b0 : decide ((rd t137 x17_1) < (x3_1.length : Int)) = true := decide_eq_true c40
                   clear c40
                   obtain ⟨y146, hy146⟩ : ∃ y_ : List Int, y_ = (x3_1.set ((rd t137 x17_1) : Int).toNat (ji38)) := ⟨_, rfl⟩
                   replace H : (job_weights.l0 k2 y146 t137 (t137.length : Int) (wrap64 (x17_1 + 1)) l0_0) = some r := by first | (rw [hy146]; with_reducible exact H) | (have H2_ := (Option.bind_some _ _).symm.trans H; rw [hy146]; with_reducible exact H2_) | (have H2_ := (Option.bind_some _ _).symm.trans H; with_reducible exact H2_) | with_reducible exact H | (rw [hy146]; exact H) | exact H
                   have Ny146 := Aside0.mk hy146
                   clear hy146
                   have H' := Aside0.mk H
                   clear H
                   have hnb42 := NB142_133.out
                   have hnc42 := NB133_142.out
                   have hcz43_0 : wr.cell? ⟨gb142, 0, none⟩ = some (.int .i64 ((rd_T38 l0_0 (rd t137 x17_1)).f0)) := (blk_cell BK142.out 0).trans rfl
                   have hcz43_1 : wr.cell? ⟨gb142, 1, none⟩ = some (.slice A141_1 ((rd_T38 l0_0 (rd t137 x17_1)).f1).length c141_1) := (blk_cell BK142.out 1).trans rfl
                   have hcz43_2 : wr.cell? ⟨gb142, 2, none⟩ = some (.int .i64 ((rd_T38 l0_0 (rd t137 x17_1)).f2)) := (blk_cell BK142.out 2).trans rfl
                   have hcz43_3 : wr.cell? ⟨gb142, 3, none⟩ = some (.int .i64 ((rd_T38 l0_0 (rd t137 x17_1)).f3.f0)) := (blk_cell BK142.out 3).trans rfl
                   have hcz43_4 : wr.cell? ⟨gb142, 4, none⟩ = some (.int .i64 ((rd_T38 l0_0 (rd t137 x17_1)).f3.f1)) := (blk_cell BK142.out 4).trans rfl
                   have hcz43_5 : wr.cell? ⟨gb142, 5, none⟩ = some (.slice A141_5 ((rd_T38 l0_0 (rd t137 x17_1)).f3.f2).length c141_5) := (blk_cell BK142.out 5).trans rfl
                   have hcz43_6 : wr.cell? ⟨gb142, 6, none⟩ = some (.int .i64 ((rd_T38 l0_0 (rd t137 x17_1)).f4)) := (blk_cell BK142.out 6).trans rfl
                   have hcz43_7 : wr.cell? ⟨gb142, 7, none⟩ = some (.int .i64 ((rd_T38 l0_0 (rd t137 x17_1)).f5.f0)) := (blk_cell BK142.out 7).trans rfl
                   have hcz43_8 : wr.cell? ⟨gb142, 8, none⟩ = some (.int .i64 ((rd_T38 l0_0 (rd t137 x17_1)).f5.f1)) := (blk_cell BK142.out 8).trans rfl
                   have hcz43_9 : wr.cell? ⟨gb142, 9, none⟩ = some (.int .i64 ((rd_T38 l0_0 (rd t137 x17_1)).f5.f2)) := (blk_cell BK142.out 9).trans rfl
                   have hfz43_0 := blk_frozen BK142.out 0
                   have hfz43_1 := blk_frozen BK142.out 1
                   have hfz43_2 := blk_frozen BK142.out 2
                   have hfz43_3 := blk_frozen BK142.out 3
                   have hfz43_4 := blk_frozen BK142.out 4
                   have hfz43_5 := blk_frozen BK142.out 5
                   have hfz43_6 := blk_frozen BK142.out 6
                   have hfz43_7 := blk_frozen BK142.out 7
                   have hfz43_8 := blk_frozen BK142.out 8
                   have hfz43_9 := blk_frozen BK142.out 9
                   have p41 : 0 ≤ ((rd t137 x17_1) : Int) := of_decide_eq_true (by first | (with_reducible assumption) | assumption)
                   have q41 : ((rd t137 x17_1) : Int) < ((x3_1.length : Int) : Int) := of_decide_eq_true (by first | (with_reducible assumption) | assumption)
                   obtain ⟨go41, co41, eo41, gb41, gl41, cl41, HG41⟩ := Kd.R_form HO_3.out (by omega)
                   (first | cases eo41 | (injection eo41 with ea_ en_ ec_; (first | subst ea_ | (injection ea_ with ea_; subst ea_)); subst ec_; clear en_))
                   have GB41 := Aside0.mk gb41
                   have GG41 := Aside0.mk HG41
                   clear gb41 gl41 HG41
                   obtain ⟨hx41_0, hf41_0⟩ := Kd.R_celln 0 HO_3.out ((rd t137 x17_1) : Int) p41 q41
                   replace p41 := eq_true p41
                   replace q41 := eq_true q41
                   have HP44 := Kd.R_putg HO_3.out ((rd t137 x17_1) : Int) ji38
                   go_wp2_with (first | ((with_reducible refine gate_store (t := 3) (p := 72) rfl ?_); refine store_event (t := 3) (p := 72) (v := ?vo_w45) (w1 := (wr.setCell ⟨go41, ((rd t137 x17_1) : Int).toNat, none⟩ (.int .i64 ji38))) ?hg ?ho ?hn ?hr ?_; (case ho => rfl); (case hg => rfl); (case hn => rfl); (case hr => first | (go_simp; done) | (go_simp; rfl)); intro w45 hw; have hg : wr.grownBy w45 (some go41) := (by rw [hw]; exact HP44.2); have hp_ : Kd.R (Kd.int .i64) 3 w45 w.heap.size (fun k_ => some k_ ≠ (.slice (some ad140) t137.length co11 : Value).ownBlock) (.slice (some ⟨go41, 0, none⟩) x3_1.length co41) y146 := (by rw [hw, Ny146.out]; exact HP44.1); clear HP44; have n0_ := Aside0.mk (hp_); have n1_ := Aside0.mk (Kd.R_after (v := (.slice (some ⟨go41, 0, none⟩) x3_1.length co41)) (v1 := (.slice (some ⟨go41, 0, none⟩) x3_1.length co41)) (ok := (fun _ => True)) (by (with_reducible repeat (first | apply Kd.R_alloc | apply Kd.R_drewN | apply Kd.R_drew)); exact Kd.R_mono HO_15.out (fun _ hk => ⟨trivial, hk⟩)) hg (.inl rfl)); have n2_ := Aside0.mk (blk_grown (g := gb133) (o := .cells #[.slice (some ad141) l0_0.length c0_0] 24 (0, 0)) (by (with_reducible repeat (first | refine blk_drewN ?_ _ | refine blk_drew ?_ | refine blk_alloc ?_ _)); exact BK133.out) hg (Kd.R_ne HO_3.out BK133.out (by decide))); have n3_ := Aside0.mk (blk_grown (g := gb142) (o := .cells #[.int .i64 ((rd_T38 l0_0 (rd t137 x17_1)).f0), .slice A141_1 ((rd_T38 l0_0 (rd t137 x17_1)).f1).length c141_1, .int .i64 ((rd_T38 l0_0 (rd t137 x17_1)).f2), .int .i64 ((rd_T38 l0_0 (rd t137 x17_1)).f3.f0), .int .i64 ((rd_T38 l0_0 (rd t137 x17_1)).f3.f1), .slice A141_5 ((rd_T38 l0_0 (rd t137 x17_1)).f3.f2).length c141_5, .int .i64 ((rd_T38 l0_0 (rd t137 x17_1)).f4), .int .i64 ((rd_T38 l0_0 (rd t137 x17_1)).f5.f0), .int .i64 ((rd_T38 l0_0 (rd t137 x17_1)).f5.f1), .int .i64 ((rd_T38 l0_0 (rd t137 x17_1)).f5.f2)] 38 (0, 0)) (by (with_reducible repeat (first | refine blk_drewN ?_ _ | refine blk_drew ?_ | refine blk_alloc ?_ _)); exact BK142.out) hg (Kd.R_ne HO_3.out BK142.out (by decide))); have n4_ := Aside0.mk ((by rw [hw]; exact below_set (HB.out) GB41.out : Below w.heap.size w w45)); clear HO_3; clear HO_15; clear BK133; clear BK142; clear HB; have HO_3 := n0_; have HO_15 := n1_; have BK133 := n2_; have BK142 := n3_; have HB := n4_; clear n0_ n1_ n2_ n3_ n4_; clear hg hw hp_))
                   go_roundg k2
                   case measure => have := HK1.out; have := HK2.out; omega
                   case rel => exact ⟨(y146), (wrap64 (x17_1 + 1)), (by first | rfl | (simp; done) | (simp [*]; done)), H', ⟨by have := HK1.out; have := HK2.out; omega⟩, ⟨by (with_reducible repeat (first | apply Kd.R_alloc | apply Kd.R_drewN | apply Kd.R_drew)); exact HO_3.out⟩, ⟨by (with_reducible repeat (first | apply Kd.R_alloc | apply Kd.R_drewN | apply Kd.R_drew)); exact Kd.R_mono HO_15.out (fun _ hk => hk.2)⟩, ⟨by (with_reducible repeat (first | refine blk_drewN ?_ _ | refine blk_drew ?_ | refine blk_alloc ?_ _)); exact BK133.out⟩, ⟨by repeat (first | (with_reducible first | exact HB.out | apply below_alloc | apply pw_below_drewN | apply below_drew1 | refine below_set ?_ GE133.out | refine below_set ?_ GE142.out) | exact HB.out)⟩⟩
                  ·rw [if_neg c40] at H
                   exact absurd H (by simp)
                 ·rw [if_neg c39] at H
                  exact absurd H (by simp)
               ·rw [if_neg c36] at H
                have c36b0 : (((rd_T38 l0_0 (rd t137 x17_1)).f5.f0) == 2) = false := beq_eq_false_iff_ne.mpr c36
                have c36b1 : (((rd_T38 l0_0 (rd t137 x17_1)).f5.f0) != 2) = true := bne_iff_ne.mpr c36
                obtain ⟨ji46, hji46⟩ : ∃ j_ : Int, (mn x7_2 65) = j_ := ⟨_, rfl⟩
                replace H : (if 0 ≤ (rd t137 x17_1) then (if (rd t137 x17_1) < (x3_1.length : Int) then (job_weights.l0 k2 (x3_1.set ((rd t137 x17_1) : Int).toNat (ji46)) t137 (t137.length : Int) (wrap64 (x17_1 + 1)) l0_0) else (none)) else (none)) = some r := by first | (rw [hji46] at H; exact H) | (simp only [hji46] at H ⊢; exact H)
                have hji46_ : (if 65 < x7_2 then 65 else x7_2) = ji46 := hji46
                by_cases c47 : 0 ≤ (rd t137 x17_1)
                ·rw [if_pos c47] at H
                 have c47b0 : decide (0 ≤ (rd t137 x17_1)) = true := decide_eq_true c47
                 clear c47
                 by_cases c48 : (rd t137 x17_1) < (x3_1.length : Int)
                 ·rw [if_pos c48] at H
                  have c48b0 : decide ((rd t137 x17_1) < (x3_1.length : Int)) = true := decide_eq_true c48
                  clear c48
                  obtain ⟨y147, hy147⟩ : ∃ y_ : List Int, y_ = (x3_1.set ((rd t137 x17_1) : Int).toNat (ji46)) := ⟨_, rfl⟩
                  replace H : (job_weights.l0 k2 y147 t137 (t137.length : Int) (wrap64 (x17_1 + 1)) l0_0) = some r := by first | (rw [hy147]; with_reducible exact H) | (have H2_ := (Option.bind_some _ _).symm.trans H; rw [hy147]; with_reducible exact H2_) | (have H2_ := (Option.bind_some _ _).symm.trans H; with_reducible exact H2_) | with_reducible exact H | (rw [hy147]; exact H) | exact H
                  have Ny147 := Aside0.mk hy147
                  clear hy147
                  have H' := Aside0.mk H
                  clear H
                  have hnb50 := NB142_133.out
                  have hnc50 := NB133_142.out
                  have hcz51_0 : wr.cell? ⟨gb142, 0, none⟩ = some (.int .i64 ((rd_T38 l0_0 (rd t137 x17_1)).f0)) := (blk_cell BK142.out 0).trans rfl
                  have hcz51_1 : wr.cell? ⟨gb142, 1, none⟩ = some (.slice A141_1 ((rd_T38 l0_0 (rd t137 x17_1)).f1).length c141_1) := (blk_cell BK142.out 1).trans rfl
                  have hcz51_2 : wr.cell? ⟨gb142, 2, none⟩ = some (.int .i64 ((rd_T38 l0_0 (rd t137 x17_1)).f2)) := (blk_cell BK142.out 2).trans rfl
                  have hcz51_3 : wr.cell? ⟨gb142, 3, none⟩ = some (.int .i64 ((rd_T38 l0_0 (rd t137 x17_1)).f3.f0)) := (blk_cell BK142.out 3).trans rfl
                  have hcz51_4 : wr.cell? ⟨gb142, 4, none⟩ = some (.int .i64 ((rd_T38 l0_0 (rd t137 x17_1)).f3.f1)) := (blk_cell BK142.out 4).trans rfl
                  have hcz51_5 : wr.cell? ⟨gb142, 5, none⟩ = some (.slice A141_5 ((rd_T38 l0_0 (rd t137 x17_1)).f3.f2).length c141_5) := (blk_cell BK142.out 5).trans rfl
                  have hcz51_6 : wr.cell? ⟨gb142, 6, none⟩ = some (.int .i64 ((rd_T38 l0_0 (rd t137 x17_1)).f4)) := (blk_cell BK142.out 6).trans rfl
                  have hcz51_7 : wr.cell? ⟨gb142, 7, none⟩ = some (.int .i64 ((rd_T38 l0_0 (rd t137 x17_1)).f5.f0)) := (blk_cell BK142.out 7).trans rfl
                  have hcz51_8 : wr.cell? ⟨gb142, 8, none⟩ = some (.int .i64 ((rd_T38 l0_0 (rd t137 x17_1)).f5.f1)) := (blk_cell BK142.out 8).trans rfl
                  have hcz51_9 : wr.cell? ⟨gb142, 9, none⟩ = some (.int .i64 ((rd_T38 l0_0 (rd t137 x17_1)).f5.f2)) := (blk_cell BK142.out 9).trans rfl
                  have hfz51_0 := blk_frozen BK142.out 0
                  have hfz51_1 := blk_frozen BK142.out 1
                  have hfz51_2 := blk_frozen BK142.out 2
                  have hfz51_3 := blk_frozen BK142.out 3
                  have hfz51_4 := blk_frozen BK142.out 4
                  have hfz51_5 := blk_frozen BK142.out 5
                  have hfz51_6 := blk_frozen BK142.out 6
                  have hfz51_7 := blk_frozen BK142.out 7
                  have hfz51_8 := blk_frozen BK142.out 8
                  have hfz51_9 := blk_frozen BK142.out 9
                  have p49 : 0 ≤ ((rd t137 x17_1) : Int) := of_decide_eq_true (by first | (with_reducible assumption) | assumption)
                  have q49 : ((rd t137 x17_1) : Int) < ((x3_1.length : Int) : Int) := of_decide_eq_true (by first | (with_reducible assumption) | assumption)
                  obtain ⟨go49, co49, eo49, gb49, gl49, cl49, HG49⟩ := Kd.R_form HO_3.out (by omega)
                  (first | cases eo49 | (injection eo49 with ea_ en_ ec_; (first | subst ea_ | (injection ea_ with ea_; subst ea_)); subst ec_; clear en_))
                  have GB49 := Aside0.mk gb49
                  have GG49 := Aside0.mk HG49
                  clear gb49 gl49 HG49
                  obtain ⟨hx49_0, hf49_0⟩ := Kd.R_celln 0 HO_3.out ((rd t137 x17_1) : Int) p49 q49
                  replace p49 := eq_true p49
                  replace q49 := eq_true q49
                  have HP52 := Kd.R_putg HO_3.out ((rd t137 x17_1) : Int) ji46
                  go_wp2_with (first | ((with_reducible refine gate_store (t := 3) (p := 72) rfl ?_); refine store_event (t := 3) (p := 72) (v := ?vo_w53) (w1 := (wr.setCell ⟨go49, ((rd t137 x17_1) : Int).toNat, none⟩ (.int .i64 ji46))) ?hg ?ho ?hn ?hr ?_; (case ho => rfl); (case hg => rfl); (case hn => rfl); (case hr => first | (go_simp; done) | (go_simp; rfl)); intro w53 hw; have hg : wr.grownBy w53 (some go49) := (by rw [hw]; exact HP52.2); have hp_ : Kd.R (Kd.int .i64) 3 w53 w.heap.size (fun k_ => some k_ ≠ (.slice (some ad140) t137.length co11 : Value).ownBlock) (.slice (some ⟨go49, 0, none⟩) x3_1.length co49) y147 := (by rw [hw, Ny147.out]; exact HP52.1); clear HP52; have n0_ := Aside0.mk (hp_); have n1_ := Aside0.mk (Kd.R_after (v := (.slice (some ⟨go49, 0, none⟩) x3_1.length co49)) (v1 := (.slice (some ⟨go49, 0, none⟩) x3_1.length co49)) (ok := (fun _ => True)) (by (with_reducible repeat (first | apply Kd.R_alloc | apply Kd.R_drewN | apply Kd.R_drew)); exact Kd.R_mono HO_15.out (fun _ hk => ⟨trivial, hk⟩)) hg (.inl rfl)); have n2_ := Aside0.mk (blk_grown (g := gb133) (o := .cells #[.slice (some ad141) l0_0.length c0_0] 24 (0, 0)) (by (with_reducible repeat (first | refine blk_drewN ?_ _ | refine blk_drew ?_ | refine blk_alloc ?_ _)); exact BK133.out) hg (Kd.R_ne HO_3.out BK133.out (by decide))); have n3_ := Aside0.mk (blk_grown (g := gb142) (o := .cells #[.int .i64 ((rd_T38 l0_0 (rd t137 x17_1)).f0), .slice A141_1 ((rd_T38 l0_0 (rd t137 x17_1)).f1).length c141_1, .int .i64 ((rd_T38 l0_0 (rd t137 x17_1)).f2), .int .i64 ((rd_T38 l0_0 (rd t137 x17_1)).f3.f0), .int .i64 ((rd_T38 l0_0 (rd t137 x17_1)).f3.f1), .slice A141_5 ((rd_T38 l0_0 (rd t137 x17_1)).f3.f2).length c141_5, .int .i64 ((rd_T38 l0_0 (rd t137 x17_1)).f4), .int .i64 ((rd_T38 l0_0 (rd t137 x17_1)).f5.f0), .int .i64 ((rd_T38 l0_0 (rd t137 x17_1)).f5.f1), .int .i64 ((rd_T38 l0_0 (rd t137 x17_1)).f5.f2)] 38 (0, 0)) (by (with_reducible repeat (first | refine blk_drewN ?_ _ | refine blk_drew ?_ | refine blk_alloc ?_ _)); exact BK142.out) hg (Kd.R_ne HO_3.out BK142.out (by decide))); have n4_ := Aside0.mk ((by rw [hw]; exact below_set (HB.out) GB49.out : Below w.heap.size w w53)); clear HO_3; clear HO_15; clear BK133; clear BK142; clear HB; have HO_3 := n0_; have HO_15 := n1_; have BK133 := n2_; have BK142 := n3_; have HB := n4_; clear n0_ n1_ n2_ n3_ n4_; clear hg hw hp_))
                  go_roundg k2
                  case measure => have := HK1.out; have := HK2.out; omega
                  case rel => exact ⟨(y147), (wrap64 (x17_1 + 1)), (by first | rfl | (simp; done) | (simp [*]; done)), H', ⟨by have := HK1.out; have := HK2.out; omega⟩, ⟨by (with_reducible repeat (first | apply Kd.R_alloc | apply Kd.R_drewN | apply Kd.R_drew)); exact HO_3.out⟩, ⟨by (with_reducible repeat (first | apply Kd.R_alloc | apply Kd.R_drewN | apply Kd.R_drew)); exact Kd.R_mono HO_15.out (fun _ hk => hk.2)⟩, ⟨by (with_reducible repeat (first | refine blk_drewN ?_ _ | refine blk_drew ?_ | refine blk_alloc ?_ _)); exact BK133.out⟩, ⟨by repeat (first | (with_reducible first | exact HB.out | apply below_alloc | apply pw_below_drewN | apply below_drew1 | refine below_set ?_ GE133.out | refine below_set ?_ GE142.out) | exact HB.out)⟩⟩
                 ·rw [if_neg c48] at H
                  exact absurd H (by simp)
                ·rw [if_neg c47] at H
                 exact absurd H (by simp)
              ·rw [if_neg c35] at H
               have c35b0 : (((rd_T38 l0_0 (rd t137 x17_1)).f0) == 7) = false := beq_eq_false_iff_ne.mpr c35
               have c35b1 : (((rd_T38 l0_0 (rd t137 x17_1)).f0) != 7) = true := bne_iff_ne.mpr c35
               obtain ⟨ji54, hji54⟩ : ∃ j_ : Int, (mn x7_2 65) = j_ := ⟨_, rfl⟩
               replace H : (if 0 ≤ (rd t137 x17_1) then (if (rd t137 x17_1) < (x3_1.length : Int) then (job_weights.l0 k2 (x3_1.set ((rd t137 x17_1) : Int).toNat (ji54)) t137 (t137.length : Int) (wrap64 (x17_1 + 1)) l0_0) else (none)) else (none)) = some r := by first | (rw [hji54] at H; exact H) | (simp only [hji54] at H ⊢; exact H)
               have hji54_ : (if 65 < x7_2 then 65 else x7_2) = ji54 := hji54
               by_cases c55 : 0 ≤ (rd t137 x17_1)
               ·rw [if_pos c55] at H
                have c55b0 : decide (0 ≤ (rd t137 x17_1)) = true := decide_eq_true c55
                clear c55
                by_cases c56 : (rd t137 x17_1) < (x3_1.length : Int)
                ·rw [if_pos c56] at H
                 have c56b0 : decide ((rd t137 x17_1) < (x3_1.length : Int)) = true := decide_eq_true c56
                 clear c56
                 obtain ⟨y148, hy148⟩ : ∃ y_ : List Int, y_ = (x3_1.set ((rd t137 x17_1) : Int).toNat (ji54)) := ⟨_, rfl⟩
                 replace H : (job_weights.l0 k2 y148 t137 (t137.length : Int) (wrap64 (x17_1 + 1)) l0_0) = some r := by first | (rw [hy148]; with_reducible exact H) | (have H2_ := (Option.bind_some _ _).symm.trans H; rw [hy148]; with_reducible exact H2_) | (have H2_ := (Option.bind_some _ _).symm.trans H; with_reducible exact H2_) | with_reducible exact H | (rw [hy148]; exact H) | exact H
                 have Ny148 := Aside0.mk hy148
                 clear hy148
                 have H' := Aside0.mk H
                 clear H
                 have hnb58 := NB142_133.out
                 have hnc58 := NB133_142.out
                 have hcz59_0 : wr.cell? ⟨gb142, 0, none⟩ = some (.int .i64 ((rd_T38 l0_0 (rd t137 x17_1)).f0)) := (blk_cell BK142.out 0).trans rfl
                 have hcz59_1 : wr.cell? ⟨gb142, 1, none⟩ = some (.slice A141_1 ((rd_T38 l0_0 (rd t137 x17_1)).f1).length c141_1) := (blk_cell BK142.out 1).trans rfl
                 have hcz59_2 : wr.cell? ⟨gb142, 2, none⟩ = some (.int .i64 ((rd_T38 l0_0 (rd t137 x17_1)).f2)) := (blk_cell BK142.out 2).trans rfl
                 have hcz59_3 : wr.cell? ⟨gb142, 3, none⟩ = some (.int .i64 ((rd_T38 l0_0 (rd t137 x17_1)).f3.f0)) := (blk_cell BK142.out 3).trans rfl
                 have hcz59_4 : wr.cell? ⟨gb142, 4, none⟩ = some (.int .i64 ((rd_T38 l0_0 (rd t137 x17_1)).f3.f1)) := (blk_cell BK142.out 4).trans rfl
                 have hcz59_5 : wr.cell? ⟨gb142, 5, none⟩ = some (.slice A141_5 ((rd_T38 l0_0 (rd t137 x17_1)).f3.f2).length c141_5) := (blk_cell BK142.out 5).trans rfl
                 have hcz59_6 : wr.cell? ⟨gb142, 6, none⟩ = some (.int .i64 ((rd_T38 l0_0 (rd t137 x17_1)).f4)) := (blk_cell BK142.out 6).trans rfl
                 have hcz59_7 : wr.cell? ⟨gb142, 7, none⟩ = some (.int .i64 ((rd_T38 l0_0 (rd t137 x17_1)).f5.f0)) := (blk_cell BK142.out 7).trans rfl
                 have hcz59_8 : wr.cell? ⟨gb142, 8, none⟩ = some (.int .i64 ((rd_T38 l0_0 (rd t137 x17_1)).f5.f1)) := (blk_cell BK142.out 8).trans rfl
                 have hcz59_9 : wr.cell? ⟨gb142, 9, none⟩ = some (.int .i64 ((rd_T38 l0_0 (rd t137 x17_1)).f5.f2)) := (blk_cell BK142.out 9).trans rfl
                 have hfz59_0 := blk_frozen BK142.out 0
                 have hfz59_1 := blk_frozen BK142.out 1
                 have hfz59_2 := blk_frozen BK142.out 2
                 have hfz59_3 := blk_frozen BK142.out 3
                 have hfz59_4 := blk_frozen BK142.out 4
                 have hfz59_5 := blk_frozen BK142.out 5
                 have hfz59_6 := blk_frozen BK142.out 6
                 have hfz59_7 := blk_frozen BK142.out 7
                 have hfz59_8 := blk_frozen BK142.out 8
                 have hfz59_9 := blk_frozen BK142.out 9
                 have p57 : 0 ≤ ((rd t137 x17_1) : Int) := of_decide_eq_true (by first | (with_reducible assumption) | assumption)
                 have q57 : ((rd t137 x17_1) : Int) < ((x3_1.length : Int) : Int) := of_decide_eq_true (by first | (with_reducible assumption) | assumption)
                 obtain ⟨go57, co57, eo57, gb57, gl57, cl57, HG57⟩ := Kd.R_form HO_3.out (by omega)
                 (first | cases eo57 | (injection eo57 with ea_ en_ ec_; (first | subst ea_ | (injection ea_ with ea_; subst ea_)); subst ec_; clear en_))
                 have GB57 := Aside0.mk gb57
                 have GG57 := Aside0.mk HG57
                 clear gb57 gl57 HG57
                 obtain ⟨hx57_0, hf57_0⟩ := Kd.R_celln 0 HO_3.out ((rd t137 x17_1) : Int) p57 q57
                 replace p57 := eq_true p57
                 replace q57 := eq_true q57
                 have HP60 := Kd.R_putg HO_3.out ((rd t137 x17_1) : Int) ji54
                 go_wp2_with (first | ((with_reducible refine gate_store (t := 3) (p := 72) rfl ?_); refine store_event (t := 3) (p := 72) (v := ?vo_w61) (w1 := (wr.setCell ⟨go57, ((rd t137 x17_1) : Int).toNat, none⟩ (.int .i64 ji54))) ?hg ?ho ?hn ?hr ?_; (case ho => rfl); (case hg => rfl); (case hn => rfl); (case hr => first | (go_simp; done) | (go_simp; rfl)); intro w61 hw; have hg : wr.grownBy w61 (some go57) := (by rw [hw]; exact HP60.2); have hp_ : Kd.R (Kd.int .i64) 3 w61 w.heap.size (fun k_ => some k_ ≠ (.slice (some ad140) t137.length co11 : Value).ownBlock) (.slice (some ⟨go57, 0, none⟩) x3_1.length co57) y148 := (by rw [hw, Ny148.out]; exact HP60.1); clear HP60; have n0_ := Aside0.mk (hp_); have n1_ := Aside0.mk (Kd.R_after (v := (.slice (some ⟨go57, 0, none⟩) x3_1.length co57)) (v1 := (.slice (some ⟨go57, 0, none⟩) x3_1.length co57)) (ok := (fun _ => True)) (by (with_reducible repeat (first | apply Kd.R_alloc | apply Kd.R_drewN | apply Kd.R_drew)); exact Kd.R_mono HO_15.out (fun _ hk => ⟨trivial, hk⟩)) hg (.inl rfl)); have n2_ := Aside0.mk (blk_grown (g := gb133) (o := .cells #[.slice (some ad141) l0_0.length c0_0] 24 (0, 0)) (by (with_reducible repeat (first | refine blk_drewN ?_ _ | refine blk_drew ?_ | refine blk_alloc ?_ _)); exact BK133.out) hg (Kd.R_ne HO_3.out BK133.out (by decide))); have n3_ := Aside0.mk (blk_grown (g := gb142) (o := .cells #[.int .i64 ((rd_T38 l0_0 (rd t137 x17_1)).f0), .slice A141_1 ((rd_T38 l0_0 (rd t137 x17_1)).f1).length c141_1, .int .i64 ((rd_T38 l0_0 (rd t137 x17_1)).f2), .int .i64 ((rd_T38 l0_0 (rd t137 x17_1)).f3.f0), .int .i64 ((rd_T38 l0_0 (rd t137 x17_1)).f3.f1), .slice A141_5 ((rd_T38 l0_0 (rd t137 x17_1)).f3.f2).length c141_5, .int .i64 ((rd_T38 l0_0 (rd t137 x17_1)).f4), .int .i64 ((rd_T38 l0_0 (rd t137 x17_1)).f5.f0), .int .i64 ((rd_T38 l0_0 (rd t137 x17_1)).f5.f1), .int .i64 ((rd_T38 l0_0 (rd t137 x17_1)).f5.f2)] 38 (0, 0)) (by (with_reducible repeat (first | refine blk_drewN ?_ _ | refine blk_drew ?_ | refine blk_alloc ?_ _)); exact BK142.out) hg (Kd.R_ne HO_3.out BK142.out (by decide))); have n4_ := Aside0.mk ((by rw [hw]; exact below_set (HB.out) GB57.out : Below w.heap.size w w61)); clear HO_3; clear HO_15; clear BK133; clear BK142; clear HB; have HO_3 := n0_; have HO_15 := n1_; have BK133 := n2_; have BK142 := n3_; have HB := n4_; clear n0_ n1_ n2_ n3_ n4_; clear hg hw hp_))
                 go_roundg k2
                 case measure => have := HK1.out; have := HK2.out; omega
                 case rel => exact ⟨(y148), (wrap64 (x17_1 + 1)), (by first | rfl | (simp; done) | (simp [*]; done)), H', ⟨by have := HK1.out; have := HK2.out; omega⟩, ⟨by (with_reducible repeat (first | apply Kd.R_alloc | apply Kd.R_drewN | apply Kd.R_drew)); exact HO_3.out⟩, ⟨by (with_reducible repeat (first | apply Kd.R_alloc | apply Kd.R_drewN | apply Kd.R_drew)); exact Kd.R_mono HO_15.out (fun _ hk => hk.2)⟩, ⟨by (with_reducible repeat (first | refine blk_drewN ?_ _ | refine blk_drew ?_ | refine blk_alloc ?_ _)); exact BK133.out⟩, ⟨by repeat (first | (with_reducible first | exact HB.out | apply below_alloc | apply pw_below_drewN | apply below_drew1 | refine below_set ?_ GE133.out | refine below_set ?_ GE142.out) | exact HB.out)⟩⟩
                ·rw [if_neg c56] at H
                 exact absurd H (by simp)
               ·rw [if_neg c55] at H
                exact absurd H (by simp)
         ·rw [if_neg c16] at H
          exact absurd H (by simp)
        ·rw [if_neg c15] at H
         exact absurd H (by simp)
       ·rw [if_neg c14] at H
        exact absurd H (by simp)
      ·rw [if_neg c13] at H
       exact absurd H (by simp)
     ·rw [if_neg c12] at H
      have c12b0 : decide (x17_1 < (t137.length : Int)) = false := decide_eq_false c12
      clear c12
      obtain rfl := Option.some.inj H
      go_wp2
      go_ret
      exact ⟨_, by first | rfl | (simp [errW_none, errW_some] <;> rfl) | (simp [*, errW_none, errW_some] <;> rfl), by (with_reducible repeat (first | apply Kd.R_alloc | apply Kd.R_drewN | apply Kd.R_drew)); exact Kd.R_mono HO_3.out (fun _ hk => trivial), by repeat (first | (with_reducible first | exact HB.out | apply below_alloc | apply pw_below_drewN | apply below_drew1 | refine below_set ?_ GE133.out) | exact HB.out)⟩
  ·rw [if_neg c3] at H
   exact absurd H (by simp)
 ·rw [if_neg c2] at H
  exact absurd H (by simp)
end Go.Proofs.Ytpbmfdbfimcpjaa.X
namespace Go.Proofs.Ytpbmfdbfimcpjaa.X
open Go.RowKit Go.Proofs.YtpbmfdbfimcpjaaW.PrintWords Go.Proofs.YtpbmfdbfimcpjaaW.PrintLast Go.Proofs.YtpbmfdbfimcpjaaW.PrintMore
attribute [local go_sem] max2_int min2_int max_two min_two max_three min_three max_four min_four   -- for this text's walks alone
set_option linter.unusedVariables false
set_option linter.unusedSimpArgs false
def job_Weights.f (k : Nat) (l0_0 : List (S38)) : Option (List Int) := (job_shape.f k l0_0).bind fun t157 => (if t157 = 0 then ((job_weights.f k l0_0).bind fun t158 => (some t158)) else (some ([] : List Int)))
theorem job_Weights.mono : ∀ a0 k, LeO (job_Weights.f k a0) (job_Weights.f (k + 1) a0) := by
 intro a0 k
 unfold job_Weights.f
 repeat' first
   | (with_reducible exact job_shape.mono _ _)
   | (with_reducible exact job_weights.mono _ _)
   | (with_reducible exact LeO.refl _)
   | (with_reducible exact LeO.none _)
   | (with_reducible refine LeO.ite ?_ ?_)
   | (with_reducible refine LeO.bind ?_ (fun _ => ?_))
   | exact job_shape.mono _ _
   | exact job_weights.mono _ _
   | exact LeO.none _
   | refine LeO.ite ?_ ?_
   | refine LeO.bind ?_ (fun _ => ?_)
set_option maxHeartbeats 8000000 in
set_option maxRecDepth 100000 in
theorem job_Weights.calls (k : Nat) (A0_0 : Option Addr) (c0_0 : Nat) (l0_0 : List (S38)) (r : List Int) (w : World) (hr0_0 : Kd.C k38 w A0_0 l0_0.length l0_0) (hc0_0 : l0_0.length ≤ c0_0) (h : job_Weights.f k l0_0 = some r) :
  Calls Try.prog 11 #[.agg #[.slice A0_0 l0_0.length c0_0]] w fun e w' => ∃ v0_ : Value, e = .returned (v0_) ∧ Kd.R (Kd.int .i64) 3 w' w.heap.size (fun _ => True) v0_ r ∧ Below w.heap.size w w' := by
 have hu24 := Try.underlying24
 have HR0_0 := Aside0.mk hr0_0
 have HC0_0 := Aside0.mk hc0_0
 clear hr0_0 hc0_0
 have HB := Aside0.mk (Below.refl w.heap.size w)
 have H : ((job_shape.f k l0_0).bind fun t157 => (if t157 = 0 then ((job_weights.f k l0_0).bind fun t158 => (some t158)) else (some ([] : List Int)))) = some r := h
 clear h
 replace H := Option.bind_eq_some_iff.mp H
 obtain ⟨t157, A20, H⟩ := H
 replace H : (if t157 = 0 then ((job_weights.f k l0_0).bind fun t158 => (some t158)) else (some ([] : List Int))) = some r := H
 have A2 := Aside0.mk A20
 clear A20
 by_cases c3 : t157 = 0
 ·rw [if_pos c3] at H
  have c3b0 : (t157 == 0) = true := beq_iff_eq.mpr c3
  have c3b1 : (t157 != 0) = false := bne_eq_false_iff_eq.mpr c3
  clear c3
  replace H := Option.bind_eq_some_iff.mp H
  obtain ⟨t158, A40, H⟩ := H
  replace H : (some t158) = some r := H
  have A4 := Aside0.mk A40
  clear A40
  obtain rfl := Option.some.inj H
  go_enter Try.func11, Try.ntmps11
  go_wp2_with (first | ((with_reducible refine gate_dst (N := 1) rfl ?_); refine box_event ?hg (N := 1) ?hd (cs := #[.slice A0_0 l0_0.length c0_0]) (t := 24) ?hr ?_; (case hd => rfl); (case hg => rfl); (case hr => first | (go_simp; done) | (go_simp; rfl)); intro gb156 hg w5 hbox hb; have n0_ := Aside0.mk (below_step (by repeat (first | (with_reducible first | exact HB.out | apply below_alloc | apply pw_below_drewN | apply below_drew1) | exact HB.out)) hb); have n1_ := Aside0.mk (hbox); have n2_ := Aside0.mk ((by rw [hg]; exact (below_size (by repeat (first | (with_reducible first | exact HB.out | apply below_alloc | apply pw_below_drewN | apply below_drew1) | exact HB.out))) : w.heap.size ≤ gb156)); have n3_ := Aside0.mk ((by rw [hg]; exact (below_size (by repeat (first | (with_reducible first | exact HB.out | apply below_alloc | apply pw_below_drewN | apply below_drew1) | exact HB.out))) : w.heap.size ≤ gb156)); clear HB; have HB := n0_; have BK156 := n1_; have GW156 := n2_; have GE156 := n3_; clear n0_ n1_ n2_ n3_; clear hb hbox hg; have hcz6_0 : w5.cell? ⟨gb156, 0, none⟩ = some (.slice A0_0 l0_0.length c0_0) := (blk_cell BK156.out 0).trans rfl; have hfz6_0 := blk_frozen BK156.out 0) | ((with_reducible refine gate_callee (f := 18) rfl ?_); refine goesL_ (some 4) rfl rfl Try.func18 (by kernel_rfl) rfl #[.agg #[.slice A0_0 l0_0.length c0_0]] rfl (by (try simp only [List.map_toArray, List.map_cons, List.map_nil]); first | done | rfl | (simp only [List.length_drop, List.length_take]; rfl)) ?_; (with_reducible refine (job_shape.calls k _ _ l0_0 t157 _ ?side1 ?side2 A2.out).mono ?_); (case side1 => repeat (first | exact (Kd.C_below HR0_0.out HB.out) | (with_reducible refine Kd.C_alloc ?_ _) | (with_reducible refine Kd.C_drewN ?_ _) | (with_reducible refine Kd.C_drew ?_))); (case side2 => exact HC0_0.out); rintro e w7 ⟨rfl, hb⟩; refine ⟨_, rfl, ?_⟩; have n0_ := Aside0.mk (blk_below (g := gb156) (o := .cells #[.slice A0_0 l0_0.length c0_0] 24 (0, 0)) (by (with_reducible repeat (first | refine blk_drewN ?_ _ | refine blk_drew ?_ | refine blk_alloc ?_ _)); exact BK156.out) hb); have n1_ := Aside0.mk (below_step (by repeat (first | (with_reducible first | exact HB.out | apply below_alloc | apply pw_below_drewN | apply below_drew1 | refine below_set ?_ GE156.out) | exact HB.out)) hb); clear BK156; clear HB; have BK156 := n0_; have HB := n1_; clear n0_ n1_; (try clear hb); (try clear hb2); (try clear hk); (try clear hi); have hcz8_0 : w7.cell? ⟨gb156, 0, none⟩ = some (.slice A0_0 l0_0.length c0_0) := (blk_cell BK156.out 0).trans rfl; have hfz8_0 := blk_frozen BK156.out 0) | ((with_reducible refine gate_callee (f := 20) rfl ?_); refine goesL_ (some 7) rfl rfl Try.func20 (by kernel_rfl) rfl #[.agg #[.slice A0_0 l0_0.length c0_0]] rfl (by (try simp only [List.map_toArray, List.map_cons, List.map_nil]); first | done | rfl | (simp only [List.length_drop, List.length_take]; rfl)) ?_; (with_reducible refine (job_weights.calls k _ _ l0_0 t158 _ ?side1 ?side2 A4.out).mono ?_); (case side1 => repeat (first | exact (Kd.C_below HR0_0.out HB.out) | (with_reducible refine Kd.C_alloc ?_ _) | (with_reducible refine Kd.C_drewN ?_ _) | (with_reducible refine Kd.C_drew ?_))); (case side2 => exact HC0_0.out); rintro e w9 ⟨v159, rfl, ho0, hb⟩; refine ⟨_, rfl, ?_⟩; have n0_ := Aside0.mk (Kd.R_lower ho0 (below_size (by repeat (first | (with_reducible first | exact HB.out | apply below_alloc | apply pw_below_drewN | apply below_drew1 | refine below_set ?_ GE156.out) | exact HB.out)))); have n1_ := Aside0.mk (blk_below (g := gb156) (o := .cells #[.slice A0_0 l0_0.length c0_0] 24 (0, 0)) (by (with_reducible repeat (first | refine blk_drewN ?_ _ | refine blk_drew ?_ | refine blk_alloc ?_ _)); exact BK156.out) hb); have n2_ := Aside0.mk (below_step (by repeat (first | (with_reducible first | exact HB.out | apply below_alloc | apply pw_below_drewN | apply below_drew1 | refine below_set ?_ GE156.out) | exact HB.out)) hb); clear BK156; clear HB; have HO160 := n0_; have BK156 := n1_; have HB := n2_; clear n0_ n1_ n2_; (try clear hb); (try clear hb2); (try clear hk); (try clear hi); (try clear ho0)))
  go_ret
  exact ⟨_, by first | rfl | (simp [errW_none, errW_some] <;> rfl) | (simp [*, errW_none, errW_some] <;> rfl), by (with_reducible repeat (first | apply Kd.R_alloc | apply Kd.R_drewN | apply Kd.R_drew)); exact HO160.out, by repeat (first | (with_reducible first | exact HB.out | apply below_alloc | apply pw_below_drewN | apply below_drew1 | refine below_set ?_ GE156.out) | exact HB.out)⟩
 ·rw [if_neg c3] at H
  have c3b0 : (t157 == 0) = false := beq_eq_false_iff_ne.mpr c3
  have c3b1 : (t157 != 0) = true := bne_iff_ne.mpr c3
  obtain rfl := Option.some.inj H
  go_enter Try.func11, Try.ntmps11
  go_wp2_with (first | ((with_reducible refine gate_dst (N := 1) rfl ?_); refine box_event ?hg (N := 1) ?hd (cs := #[.slice A0_0 l0_0.length c0_0]) (t := 24) ?hr ?_; (case hd => rfl); (case hg => rfl); (case hr => first | (go_simp; done) | (go_simp; rfl)); intro gb156 hg w10 hbox hb; have n0_ := Aside0.mk (below_step (by repeat (first | (with_reducible first | exact HB.out | apply below_alloc | apply pw_below_drewN | apply below_drew1) | exact HB.out)) hb); have n1_ := Aside0.mk (hbox); have n2_ := Aside0.mk ((by rw [hg]; exact (below_size (by repeat (first | (with_reducible first | exact HB.out | apply below_alloc | apply pw_below_drewN | apply below_drew1) | exact HB.out))) : w.heap.size ≤ gb156)); have n3_ := Aside0.mk ((by rw [hg]; exact (below_size (by repeat (first | (with_reducible first | exact HB.out | apply below_alloc | apply pw_below_drewN | apply below_drew1) | exact HB.out))) : w.heap.size ≤ gb156)); clear HB; have HB := n0_; have BK156 := n1_; have GW156 := n2_; have GE156 := n3_; clear n0_ n1_ n2_ n3_; clear hb hbox hg; have hcz11_0 : w10.cell? ⟨gb156, 0, none⟩ = some (.slice A0_0 l0_0.length c0_0) := (blk_cell BK156.out 0).trans rfl; have hfz11_0 := blk_frozen BK156.out 0) | ((with_reducible refine gate_callee (f := 18) rfl ?_); refine goesL_ (some 4) rfl rfl Try.func18 (by kernel_rfl) rfl #[.agg #[.slice A0_0 l0_0.length c0_0]] rfl (by (try simp only [List.map_toArray, List.map_cons, List.map_nil]); first | done | rfl | (simp only [List.length_drop, List.length_take]; rfl)) ?_; (with_reducible refine (job_shape.calls k _ _ l0_0 t157 _ ?side1 ?side2 A2.out).mono ?_); (case side1 => repeat (first | exact (Kd.C_below HR0_0.out HB.out) | (with_reducible refine Kd.C_alloc ?_ _) | (with_reducible refine Kd.C_drewN ?_ _) | (with_reducible refine Kd.C_drew ?_))); (case side2 => exact HC0_0.out); rintro e w12 ⟨rfl, hb⟩; refine ⟨_, rfl, ?_⟩; have n0_ := Aside0.mk (blk_below (g := gb156) (o := .cells #[.slice A0_0 l0_0.length c0_0] 24 (0, 0)) (by (with_reducible repeat (first | refine blk_drewN ?_ _ | refine blk_drew ?_ | refine blk_alloc ?_ _)); exact BK156.out) hb); have n1_ := Aside0.mk (below_step (by repeat (first | (with_reducible first | exact HB.out | apply below_alloc | apply pw_below_drewN | apply below_drew1 | refine below_set ?_ GE156.out) | exact HB.out)) hb); clear BK156; clear HB; have BK156 := n0_; have HB := n1_; clear n0_ n1_; (try clear hb); (try clear hb2); (try clear hk); (try clear hi)))
  go_ret
  exact ⟨_, by first | rfl | (simp [errW_none, errW_some] <;> rfl) | (simp [*, errW_none, errW_some] <;> rfl), by first | exact Kd.R_nil _ _ _ _ _ | exact Kd.N_nil _ _ _ _ _ | exact Kd.V_nil _ _ _ _ _ | exact Kd.Q_nil _ _ _ _ _ | exact Kd.S_nil _ _ _ _ _, by repeat (first | (with_reducible first | exact HB.out | apply below_alloc | apply pw_below_drewN | apply below_drew1 | refine below_set ?_ GE156.out) | exact HB.out)⟩
end Go.Proofs.Ytpbmfdbfimcpjaa.X
namespace Go.Proofs.Ytpbmfdbfimcpjaa.X
open Go.RowKit Go.Proofs.YtpbmfdbfimcpjaaW.PrintWords
set_option linter.unusedVariables false
set_option linter.unusedSimpArgs false
def down (l : List S38) (ins : List Bool) : Nat → Int → Int
  | 0, x => x
  | j + 1, x => down l ins j (if readyN l ins j then (j : Int) else x)
theorem down_none (l : List S38) (ins : List Bool) : ∀ (n : Nat) (x : Int), (∀ j, j < n → readyN l ins j = false) → down l ins n x = x
  | 0, _, _ => rfl
  | n + 1, x, h => by rw [down, h n (by omega)]; exact down_none l ins n x (fun j hj => h j (by omega))
theorem down_some (l : List S38) (ins : List Bool) (i : Nat) (hr : readyN l ins i = true) (hn : ∀ j, j < i → readyN l ins j = false) : ∀ (n : Nat) (x : Int), i < n → down l ins n x = (i : Int)
  | 0, _, h => absurd h (by omega)
  | n + 1, x, h => by
    rw [down]
    rcases Nat.lt_or_ge i n with h1 | h1
    · exact down_some l ins i hr hn n _ h1
    · obtain rfl : n = i := by omega
      rw [hr]; exact down_none l ins n _ hn
theorem down_next (l : List S38) (ins : List Bool) : down l ins l.length (-1) = match nextN l ins with | none => -1 | some i => (i : Int) := by
  cases h : nextN l ins with
  | none =>
    refine down_none l ins _ _ (fun j hj => ?_)
    have := List.find?_eq_none.1 h j (by simpa using hj)
    simpa using this
  | some i =>
    have h1 := next_of h
    refine down_some l ins i h1.2 (fun j hj => ?_) _ _ h1.1
    unfold nextN at h
    rw [List.find?_range_eq_some] at h
    have := h.2.2 j hj
    simpa using this
theorem order8_l2 (l : List S38) (ins : List Bool) (out : List Int) (hl : l.length < 17592186044416) (x5 : Int) (i : Nat) (hi : i < l.length) (hs : l[i].f1.length ≤ 9223372036854775807) (r : List Int) :
    ∀ (m j : Nat) (b : Bool), l[i].f1.length = j + m → Ev (fun k => leatref8_Order.l1 k ins out (if (b && (l[i].f1.drop j).all (mayB ins)) = true then (i : Int) else x5) (wrap64 ((i : Int) - 1)) l) r → Ev (fun k => leatref8_Order.l2 k ins out x5 (i : Int) b (j : Int) l) r := by
  intro m
  induction m with
  | zero =>
    intro j b hj h
    refine Ev.step (f := ?f1) (fun k => ?h1) ?r1
    case h1 => conv => lhs; rw [leatref8_Order.l2, if_pos (by omega), if_pos (by omega), rd38_at hi, if_neg (by omega)]
    rw [List.drop_of_length_le (by omega)] at h
    cases b with
    | true => exact ev_pos rfl h
    | false => exact ev_neg (by decide) h
  | succ m ih =>
    intro j b hj h
    have hlt : j < l[i].f1.length := by omega
    rw [List.drop_eq_getElem_cons hlt, List.all_cons] at h
    refine Ev.step (f := ?f2) (fun k => ?h2) ?r2
    case h2 => conv => lhs; rw [leatref8_Order.l2, if_pos (by omega), if_pos (by omega), rd38_at hi, if_pos (by omega), if_pos (by omega), rd_at hlt, step_i hlt hs]
    cases b with
    | false => exact ev_neg (by decide) (ih (j + 1) false (by omega) h)
    | true =>
      refine ev_pos rfl ?_
      rw [Bool.true_and] at h
      by_cases h0 : l[i].f1[j] ≥ 0
      · refine ev_pos h0 ?_
        by_cases h1 : l[i].f1[j] < (ins.length : Int)
        · refine ev_pos h1 (ev_pos h0 (ih (j + 1) _ (by omega) ?_))
          have : mayB ins l[i].f1[j] = rdOf false ins l[i].f1[j] := by unfold mayB rdOf; simp [h0, h1]
          rw [← this]; exact h
        · refine ev_neg h1 (ih (j + 1) _ (by omega) ?_)
          have : mayB ins l[i].f1[j] = false := by unfold mayB; simp [h1]
          rw [this] at h; exact h
      · refine ev_neg h0 (ih (j + 1) _ (by omega) ?_)
        have : mayB ins l[i].f1[j] = false := by unfold mayB; simp [h0]
        rw [this] at h; exact h
theorem order8_l1 (l : List S38) (ins : List Bool) (out : List Int) (hl : l.length < 17592186044416) (hin : ins.length = l.length) (hs : ∀ x ∈ l, SmallN x) (r : List Int) :
    ∀ (j : Nat) (x5 : Int), j ≤ l.length → Ev (fun k => leatref8_Order.l1 k ins out (down l ins j x5) (-1) l) r → Ev (fun k => leatref8_Order.l1 k ins out x5 ((j : Int) - 1) l) r := by
  intro j
  induction j with
  | zero => intro x5 _ h; exact h
  | succ j ih =>
    intro x5 hj h
    have hi : j < l.length := by omega
    have e : ((j + 1 : Nat) : Int) - 1 = (j : Int) := by omega
    rw [e]
    refine Ev.step (f := ?f2) (fun k => ?h2) ?r2
    case h2 => conv => lhs; rw [leatref8_Order.l1, if_pos (by omega), if_pos (by omega), if_pos (by omega)]
    refine order8_l2 l ins out hl x5 j hi (hs _ (List.getElem_mem hi)).1 r l[j].f1.length 0 _ (by omega) ?_
    have hw : wrap64 ((j : Int) - 1) = (j : Int) - 1 := by unfold wrap64; omega
    rw [hw]
    refine ih _ (by omega) ?_
    have hr : readyN l ins j = (!rdOf false ins (j : Int) && (l[j].f1.drop 0).all (mayB ins)) := by
      unfold readyN rdOf
      rw [List.getD_eq_getElem?_getD (l := l), List.getElem?_eq_getElem hi]
      rfl
    rw [down, hr] at h
    exact h
theorem order8_l0 (l : List S38) (hl : l.length < 17592186044416) (hs : ∀ x ∈ l, SmallN x) : ∀ (f : Nat) (ins : List Bool) (out : List Int), ins.length = l.length → ins.count false < f → out.length + ins.count false ≤ l.length → Ev (fun k => leatref8_Order.l0 k ins out l) (orderGo l f ins out)
  | 0, _, _, _, h, _ => absurd h (by omega)
  | f + 1, ins, out, hin, hc, ho => by
    refine Ev.step (f := ?f1) (fun k => ?h1) ?r1
    case h1 => conv => lhs; rw [leatref8_Order.l0]
    have hw : wrap64 ((l.length : Int) - 1) = (l.length : Int) - 1 := by unfold wrap64; omega
    rw [hw]
    refine order8_l1 l ins out hl hin hs _ l.length (-1) (Nat.le_refl _) ?_
    rw [down_next]
    cases hn : nextN l ins with
    | none =>
      refine Ev.step (f := ?f2) (fun k => ?h2) ?r2
      case h2 => conv => lhs; simp only; rw [leatref8_Order.l1, if_neg (by omega), if_pos (by omega)]
      rw [order_none hn]; exact Ev.now _
    | some i =>
      obtain ⟨hi, hr⟩ := next_of hn
      have h2 := count_step (i := i) (by omega) (ready_not hr)
      refine Ev.step (f := ?f3) (fun k => ?h3) ?r3
      case h3 => conv => lhs; simp only; rw [leatref8_Order.l1, if_neg (by omega), if_neg (by omega), if_pos (by omega), if_pos (by omega), if_pos (by omega)]
      rw [order_some hn]
      exact order8_l0 l hl hs f (ins.set i true) (out ++ [(i : Int)]) (by simp [hin]) (by omega) (by simp; omega)
theorem order8_ev (l : List S38) (hl : l.length < 17592186044416) (hs : ∀ x ∈ l, SmallN x) : Ev (fun k => leatref8_Order.f k l) (jobOrder l) := by
  unfold leatref8_Order.f jobOrder
  refine ev_pos (by omega) (ev_pos (by omega) ?_)
  have h := order8_l0 l hl hs (l.length + 1) (List.replicate l.length false) [] (by simp) (by simp) (by simp)
  exact h
end Go.Proofs.Ytpbmfdbfimcpjaa.X
