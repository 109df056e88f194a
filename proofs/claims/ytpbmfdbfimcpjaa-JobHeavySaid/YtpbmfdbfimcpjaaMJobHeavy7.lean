/- Proofs towards the law JobHeavy, joined into one text. No conditions beyond those typed. -/
import Derived.Test.YtpbmfdbfimcpjaaMJobHeavy5
import Derived.Test.YtpbmfdbfimcpjaaMJobHeavy6
namespace Go.Proofs.Ytpbmfdbfimcpjaa.X
open Go.RowKit Go.Proofs.YtpbmfdbfimcpjaaW.PrintWords Go.Proofs.YtpbmfdbfimcpjaaW.PrintLast Go.Proofs.YtpbmfdbfimcpjaaW.PrintMore
attribute [local go_sem] max2_int min2_int max_two min_two max_three min_three max_four min_four   -- for this text's walks alone
set_option linter.unusedVariables false
set_option linter.unusedSimpArgs false
mutual
def leatref8_light.j0 : Nat → Bool → List (S38) → Option (Int)
 | 0, _, _ => none
 | k + 1, x14, x318000 => if x14 = true then (some 80) else (leatref8_light.l0 k 0 x318000)
def leatref8_light.l0 : Nat → Int → List (S38) → Option (Int)
 | 0, _, _ => none
 | k + 1, x3, x318000 => if x3 < (x318000.length : Int) then (if 0 ≤ x3 then ((leatref8_node.f k x318000 ((rd_T38 x318000 x3).f0) ((rd_T38 x318000 x3).f1) ((rd_T38 x318000 x3).f2) ((rd_T38 x318000 x3).f3.f0) ((rd_T38 x318000 x3).f3.f1) ((rd_T38 x318000 x3).f3.f2) ((rd_T38 x318000 x3).f4) ((rd_T38 x318000 x3).f5.f0) ((rd_T38 x318000 x3).f5.f1) ((rd_T38 x318000 x3).f5.f2)).bind fun t319 => (if t319 = 0 then (leatref8_light.l0 k (wrap64 (x3 + 1)) x318000) else (some t319))) else (none)) else ((leatref8_Order.f k x318000).bind fun t320 => (if (t320.length : Int) < (x318000.length : Int) then (some 83) else (some 0)))
end
def leatref8_light.f (k : Nat) (l0_0 : List (S38)) : Option (Int) := if (l0_0.length : Int) = 0 then (leatref8_light.j0 k true l0_0) else (leatref8_light.j0 k (decide ((l0_0.length : Int) > 12)) l0_0)
def leatref8_light.T6 : Bool × List (List Nat × List Nat) := (true, [([], []), ([], []), ([1], [1]), ([], []), ([2, 3], [2, 3]), ([4], [4]), ([0, 5], [0, 5]), ([6, 6, 0, 1, 2, 3, 4, 5, 6], [6])])
def leatref8_light.B6 : List Nat := [0, 0, 2, 0, 14, 30, 63, 127]
theorem leatref8_light.tab6 : rtab .any (opsOf Try.f25 6) = leatref8_light.T6 := by kernel_rfl
theorem leatref8_light.bits6 : waitsOk leatref8_light.T6.2 leatref8_light.B6 = true := by kernel_rfl
set_option maxHeartbeats 8000000 in
set_option maxRecDepth 100000 in
theorem leatref8_light.calls (k : Nat) (A0_0 : Option Addr) (c0_0 : Nat) (l0_0 : List (S38)) (r : Int) (w : World) (hr0_0 : Kd.C k38 w A0_0 l0_0.length l0_0) (hc0_0 : l0_0.length ≤ c0_0) (h : leatref8_light.f k l0_0 = some r) :
  Calls Try.prog 25 #[.agg #[.slice A0_0 l0_0.length c0_0]] w fun e w' => e = .returned (.int .i64 r) ∧ Below w.heap.size w w' := by
 have hu24 := Try.underlying24
 have hu38 := Try.underlying38
 have HR0_0 := Aside0.mk hr0_0
 have HC0_0 := Aside0.mk hc0_0
 clear hr0_0 hc0_0
 have HB := Aside0.mk (Below.refl w.heap.size w)
 have H : (if (l0_0.length : Int) = 0 then (leatref8_light.j0 k true l0_0) else (leatref8_light.j0 k (decide ((l0_0.length : Int) > 12)) l0_0)) = some r := h
 clear h
 have HC2 := Aside0.mk H
 clear H
 go_enter Try.func25, Try.ntmps25
 go_upto_region 1 with (first | ((with_reducible refine gate_dst (N := 1) rfl ?_); (try (refine gate_guard (by rfl) ?_; dsimp only)); refine box_event ?hg (N := 1) ?hd (cs := #[.slice A0_0 l0_0.length c0_0]) (t := 24) ?hr ?_; (case hd => rfl); (case hg => rfl); (case hr => first | (go_simp; done) | (go_simp; rfl)); intro gb317 hg w3 hbox hb; have n0_ := Aside0.mk (below_step (by repeat (first | (with_reducible first | exact HB.out | apply below_alloc | apply pw_below_drewN | apply below_drew1) | exact HB.out)) hb); have n1_ := Aside0.mk (hbox); have n2_ := Aside0.mk ((by rw [hg]; exact (below_size (by repeat (first | (with_reducible first | exact HB.out | apply below_alloc | apply pw_below_drewN | apply below_drew1) | exact HB.out))) : w.heap.size ≤ gb317)); have n3_ := Aside0.mk ((by rw [hg]; exact (below_size (by repeat (first | (with_reducible first | exact HB.out | apply below_alloc | apply pw_below_drewN | apply below_drew1) | exact HB.out))) : w.heap.size ≤ gb317)); clear HB; have HB := n0_; have BK317 := n1_; have GW317 := n2_; have GE317 := n3_; clear n0_ n1_ n2_ n3_; clear hb hbox hg))
 (try simp only [Act.put, List.setIfInBounds_toArray, List.set_cons_zero, List.set_cons_succ])
 go_cut [14] (fun v14 wc => ∃ (kq : Nat) (x14_1 : Bool), v14 = .bool x14_1 ∧ Aside0 (leatref8_light.j0 kq x14_1 l0_0 = some r) ∧ Aside0 (kq ≤ k) ∧ Aside0 (wc.heap[gb317]? = some (.cells #[(.slice A0_0 l0_0.length c0_0)] 24 (0, 0))) ∧ Aside0 (Below w.heap.size w wc))
 case first =>
  have H := HC2.out
  clear HC2
  by_cases c4 : (l0_0.length : Int) = 0
  ·rw [if_pos c4] at H
   have c4b0 : ((l0_0.length : Int) == 0) = true := beq_iff_eq.mpr c4
   have c4b1 : ((l0_0.length : Int) != 0) = false := bne_eq_false_iff_eq.mpr c4
   clear c4
   (first | rw [c4b0] | (simp only [i64_w, i32_w]; rw [c4b0]) | skip)
   have H' := Aside0.mk H
   clear H
   have hcz5_0 : w3.cell? ⟨gb317, 0, none⟩ = some (.slice A0_0 l0_0.length c0_0) := (blk_cell BK317.out 0).trans rfl
   have hfz5_0 := blk_frozen BK317.out 0
   go_wp2
   go_meet
   case rel => exact ⟨_, (true), (by first | rfl | (simp; done) | (simp [*]; done)), H', ⟨by first | omega | exact Nat.le_refl _⟩, ⟨by (with_reducible repeat (first | refine blk_drewN ?_ _ | refine blk_drew ?_ | refine blk_alloc ?_ _)); exact BK317.out⟩, ⟨by repeat (first | (with_reducible first | exact HB.out | apply below_alloc | apply pw_below_drewN | apply below_drew1 | refine below_set ?_ GE317.out) | exact HB.out)⟩⟩
  ·rw [if_neg c4] at H
   have c4b0 : ((l0_0.length : Int) == 0) = false := beq_eq_false_iff_ne.mpr c4
   have c4b1 : ((l0_0.length : Int) != 0) = true := bne_iff_ne.mpr c4
   have c4b2 : ¬ (l0_0 = []) := fun h_ => c4 (by rw [h_]; rfl)
   (first | rw [c4b0] | (simp only [i64_w, i32_w]; rw [c4b0]) | skip)
   have H' := Aside0.mk H
   clear H
   have hcz6_0 : w3.cell? ⟨gb317, 0, none⟩ = some (.slice A0_0 l0_0.length c0_0) := (blk_cell BK317.out 0).trans rfl
   have hfz6_0 := blk_frozen BK317.out 0
   go_wp2
   go_meet
   case rel => exact ⟨_, (decide ((l0_0.length : Int) > 12)), (by first | rfl | (simp; done) | (simp [*]; done)), H', ⟨by first | omega | exact Nat.le_refl _⟩, ⟨by (with_reducible repeat (first | refine blk_drewN ?_ _ | refine blk_drew ?_ | refine blk_alloc ?_ _)); exact BK317.out⟩, ⟨by repeat (first | (with_reducible first | exact HB.out | apply below_alloc | apply pw_below_drewN | apply below_drew1 | refine below_set ?_ GE317.out) | exact HB.out)⟩⟩
 case rest =>
  clear HC2
  try clear c2; try clear p2; try clear c4; try clear c4b0; try clear c4b1; try clear c4b2; try clear hcz5_0; try clear hcz6_0; try clear hfz5_0; try clear hfz6_0
  obtain ⟨kq, x14_1, rfl, HA, HJ1, BK317, HB⟩ := hcut
  cases kq with
  | zero => exact absurd HA.out (by simp [leatref8_light.j0])
  | succ kj1 =>
   have H := HA.out
   clear HA
   simp only [leatref8_light.j0] at H
   by_cases c7 : x14_1 = true
   ·subst c7
    have H1 : (some 80) = some r := by rw [if_pos rfl] at H; exact H
    clear H
    have H := H1
    clear H1
    obtain rfl := Option.some.inj H
    go_wp2
    go_ret
    exact ⟨by first | rfl | (simp [errW_none, errW_some] <;> rfl) | (simp [*, errW_none, errW_some] <;> rfl), by repeat (first | (with_reducible first | exact HB.out | apply below_alloc | apply pw_below_drewN | apply below_drew1 | refine below_set ?_ GE317.out) | exact HB.out)⟩
   ·replace c7 := Bool.eq_false_iff.mpr c7
    subst c7
    have H1 : (leatref8_light.l0 kj1 0 l0_0) = some r := by rw [if_neg (show ¬ (false = true) by decide)] at H; exact H
    clear H
    have H := H1
    clear H1
    have H' := Aside0.mk H
    clear H
    go_wp2
    go_loopg [3] kj1 (fun kq v3 w' => ∃ (x3_2 : Int), v3 = .int .i64 x3_2 ∧ Aside0 (leatref8_light.l0 kq x3_2 l0_0 = some r) ∧ Aside0 (kq ≤ kj1) ∧ Aside0 (w'.heap[gb317]? = some (.cells #[(.slice A0_0 l0_0.length c0_0)] 24 (0, 0))) ∧ Aside0 (Below w.heap.size w w'))
    case atStart => exact ⟨(0), (by first | rfl | (simp; done) | (simp [*]; done)), H', ⟨Nat.le_refl _⟩, ⟨by (with_reducible repeat (first | refine blk_drewN ?_ _ | refine blk_drew ?_ | refine blk_alloc ?_ _)); exact BK317.out⟩, ⟨by repeat (first | (with_reducible first | exact HB.out | apply below_alloc | apply pw_below_drewN | apply below_drew1 | refine below_set ?_ GE317.out) | exact HB.out)⟩⟩
    case round =>
     clear H'
     try clear c2; try clear p2; try clear c4; try clear c4b0; try clear c4b1; try clear c4b2; try clear c7; try clear hcz5_0; try clear hcz6_0; try clear hfz5_0; try clear hfz6_0; try clear p2
     obtain ⟨x3_2, rfl, HA, HK2, BK317, HB⟩ := hrel
     cases gk with
     | zero => exact absurd HA.out (by simp [leatref8_light.l0])
     | succ k2 =>
      have H := HA.out
      clear HA
      simp only [leatref8_light.l0] at H
      by_cases c8 : x3_2 < (l0_0.length : Int)
      ·rw [if_pos c8] at H
       have c8b0 : decide (x3_2 < (l0_0.length : Int)) = true := decide_eq_true c8
       clear c8
       by_cases c9 : 0 ≤ x3_2
       ·rw [if_pos c9] at H
        have c9b0 : decide (0 ≤ x3_2) = true := decide_eq_true c9
        clear c9
        replace H := Option.bind_eq_some_iff.mp H
        obtain ⟨t319, A100, H⟩ := H
        replace H : (if t319 = 0 then (leatref8_light.l0 k2 (wrap64 (x3_2 + 1)) l0_0) else (some t319)) = some r := H
        have A10 := Aside0.mk A100
        clear A100
        by_cases c11 : t319 = 0
        ·rw [if_pos c11] at H
         have c11b0 : (t319 == 0) = true := beq_iff_eq.mpr c11
         have c11b1 : (t319 != 0) = false := bne_eq_false_iff_eq.mpr c11
         clear c11
         have H' := Aside0.mk H
         clear H
         have hcz12_0 : wr.cell? ⟨gb317, 0, none⟩ = some (.slice A0_0 l0_0.length c0_0) := (blk_cell BK317.out 0).trans rfl
         have hfz12_0 := blk_frozen BK317.out 0
         try go_wp2
         have n0_ := Aside0.mk (blk_drew BK317.out)
         have n1_ := Aside0.mk (below_drew1 HB.out)
         clear BK317
         clear HB
         have BK317 := n0_
         have HB := n1_
         clear n0_ n1_
         have p318 : 0 ≤ (x3_2 : Int) := of_decide_eq_true (by first | (with_reducible assumption) | assumption)
         have q318 : x3_2 < (l0_0.length : Int) := of_decide_eq_true (by first | (with_reducible assumption) | assumption)
         obtain ⟨ad318, A318_1, c318_1, A318_5, c318_5, e318, hx318_0, hx318_1, hx318_2, hx318_3, hx318_4, hx318_5, hx318_6, hx318_7, hx318_8, hx318_9, hl318_1, hi318_1, hl318_5, hi318_5⟩ := at_T38 HR0_0.out x3_2 p318 q318
         have hw318_9 := hx318_9
         have hw318_8 := hx318_8
         have hw318_7 := hx318_7
         have hw318_6 := hx318_6
         have hw318_5 := hx318_5
         have hw318_4 := hx318_4
         have hw318_3 := hx318_3
         have hw318_2 := hx318_2
         have hw318_1 := hx318_1
         have hw318_0 := hx318_0
         cases e318
         replace hx318_0 := (HB.out.cell (World.block_lt_of_cell? w _ hx318_0)).trans hx318_0
         replace hx318_1 := (HB.out.cell (World.block_lt_of_cell? w _ hx318_1)).trans hx318_1
         replace hx318_2 := (HB.out.cell (World.block_lt_of_cell? w _ hx318_2)).trans hx318_2
         replace hx318_3 := (HB.out.cell (World.block_lt_of_cell? w _ hx318_3)).trans hx318_3
         replace hx318_4 := (HB.out.cell (World.block_lt_of_cell? w _ hx318_4)).trans hx318_4
         replace hx318_5 := (HB.out.cell (World.block_lt_of_cell? w _ hx318_5)).trans hx318_5
         replace hx318_6 := (HB.out.cell (World.block_lt_of_cell? w _ hx318_6)).trans hx318_6
         replace hx318_7 := (HB.out.cell (World.block_lt_of_cell? w _ hx318_7)).trans hx318_7
         replace hx318_8 := (HB.out.cell (World.block_lt_of_cell? w _ hx318_8)).trans hx318_8
         replace hx318_9 := (HB.out.cell (World.block_lt_of_cell? w _ hx318_9)).trans hx318_9
         have HR318_1 := Aside0.mk hi318_1
         have HC318_1 := Aside0.mk hl318_1
         clear hi318_1 hl318_1
         have HR318_5 := Aside0.mk hi318_5
         have HC318_5 := Aside0.mk hl318_5
         clear hi318_5 hl318_5
         replace p318 := eq_true p318
         replace q318 := eq_true q318
         refine start_ (n := 8) (S := fun w' => w'.cell? ⟨gb317, 0, none⟩ = some (.slice (some ad318) l0_0.length c0_0) ∧ w'.cell? (ad318.add ((x3_2).toNat * 10)) = some (.int .i64 ((rd_T38 l0_0 x3_2).f0)) ∧ w'.cell? ⟨(ad318.add ((x3_2).toNat * 10)).block, (ad318.add ((x3_2).toNat * 10)).off + 1, none⟩ = some (.slice A318_1 ((rd_T38 l0_0 x3_2).f1).length c318_1) ∧ w'.cell? ⟨(ad318.add ((x3_2).toNat * 10)).block, (ad318.add ((x3_2).toNat * 10)).off + 2, none⟩ = some (.int .i64 ((rd_T38 l0_0 x3_2).f2)) ∧ w'.cell? ⟨(ad318.add ((x3_2).toNat * 10)).block, (ad318.add ((x3_2).toNat * 10)).off + 3, none⟩ = some (.int .i64 ((rd_T38 l0_0 x3_2).f3.f0)) ∧ w'.cell? ⟨(ad318.add ((x3_2).toNat * 10)).block, (ad318.add ((x3_2).toNat * 10)).off + 4, none⟩ = some (.int .i64 ((rd_T38 l0_0 x3_2).f3.f1)) ∧ w'.cell? ⟨(ad318.add ((x3_2).toNat * 10)).block, (ad318.add ((x3_2).toNat * 10)).off + 5, none⟩ = some (.slice A318_5 ((rd_T38 l0_0 x3_2).f3.f2).length c318_5) ∧ w'.cell? ⟨(ad318.add ((x3_2).toNat * 10)).block, (ad318.add ((x3_2).toNat * 10)).off + 6, none⟩ = some (.int .i64 ((rd_T38 l0_0 x3_2).f4)) ∧ w'.cell? ⟨(ad318.add ((x3_2).toNat * 10)).block, (ad318.add ((x3_2).toNat * 10)).off + 7, none⟩ = some (.int .i64 ((rd_T38 l0_0 x3_2).f5.f0)) ∧ w'.cell? ⟨(ad318.add ((x3_2).toNat * 10)).block, (ad318.add ((x3_2).toNat * 10)).off + 8, none⟩ = some (.int .i64 ((rd_T38 l0_0 x3_2).f5.f1)) ∧ w'.cell? ⟨(ad318.add ((x3_2).toNat * 10)).block, (ad318.add ((x3_2).toNat * 10)).off + 9, none⟩ = some (.int .i64 ((rd_T38 l0_0 x3_2).f5.f2))) (ds := []) #[false, false, false, false, false, false, false, false] (by kernel_rfl) rfl rfl ⟨(blk_cell BK317.out 0).trans rfl, ((HB.out.cell (World.block_lt_of_cell? w _ hw318_0)).trans hw318_0), ((HB.out.cell (World.block_lt_of_cell? w _ hw318_1)).trans hw318_1), ((HB.out.cell (World.block_lt_of_cell? w _ hw318_2)).trans hw318_2), ((HB.out.cell (World.block_lt_of_cell? w _ hw318_3)).trans hw318_3), ((HB.out.cell (World.block_lt_of_cell? w _ hw318_4)).trans hw318_4), ((HB.out.cell (World.block_lt_of_cell? w _ hw318_5)).trans hw318_5), ((HB.out.cell (World.block_lt_of_cell? w _ hw318_6)).trans hw318_6), ((HB.out.cell (World.block_lt_of_cell? w _ hw318_7)).trans hw318_7), ((HB.out.cell (World.block_lt_of_cell? w _ hw318_8)).trans hw318_8), ((HB.out.cell (World.block_lt_of_cell? w _ hw318_9)).trans hw318_9)⟩ (fun hHeld => ?_); refine with_tabW leatref8_light.tab6 leatref8_light.bits6 (fun HT_ HW_ => ?_)
         generalize wr.drew = w13 at BK317 HB HR318_1 HR318_5 hx318_0 hx318_1 hx318_2 hx318_3 hx318_4 hx318_5 hx318_6 hx318_7 hx318_8 hx318_9 hHeld ⊢
         refine pure_ (i := 1) (N := some 23) (v := ?_) (a' := ?_) #[false, true, false, false, false, false, false, false] rfl rfl (any_of HT_.out (by kernel_rfl)) (fun _ _ _ h => h) (Or.inl ⟨by rfl, ?_⟩) ?_ ?_
         rotate_left
         ·intro w'
          go_simp
          with_reducible rfl
         rotate_left
         ·simp only [Act.put, List.setIfInBounds_toArray, List.set_cons_zero, List.set_cons_succ, i64_w, i32_w]
          rfl
         refine pure_ (i := 3) (N := some 25) (v := ?_) (a' := ?_) #[false, true, false, true, false, false, false, false] rfl rfl (any_of HT_.out (by kernel_rfl)) (fun _ _ _ h => h) (Or.inl ⟨by rfl, ?_⟩) ?_ ?_
         rotate_left
         ·intro w'
          go_simp
          with_reducible rfl
         rotate_left
         ·simp only [Act.put, List.setIfInBounds_toArray, List.set_cons_zero, List.set_cons_succ, i64_w, i32_w]
          rfl
         refine take_ (i := 0) (N := some 22) (v := ?_) (a' := ?_) #[true, true, false, true, false, false, false, false] rfl rfl (take_ofW HT_.out HW_.out (by kernel_rfl)) (fun _ _ _ h => h) (Or.inl ⟨by rfl, ?_⟩) hHeld ?_ ?_
         rotate_left
         ·rintro w' ⟨s0, s1, s2, s3, s4, s5, s6, s7, s8, s9, s10⟩
          go_simp
          with_reducible rfl
         rotate_left
         ·simp only [Act.put, List.setIfInBounds_toArray, List.set_cons_zero, List.set_cons_succ, i64_w, i32_w]
          rfl
         refine take_ (i := 2) (N := some 24) (v := ?_) (a' := ?_) #[true, true, true, true, false, false, false, false] rfl rfl (take_ofW HT_.out HW_.out (by kernel_rfl)) (fun _ _ _ h => h) (Or.inl ⟨by rfl, ?_⟩) hHeld ?_ ?_
         rotate_left
         ·rintro w' ⟨s0, s1, s2, s3, s4, s5, s6, s7, s8, s9, s10⟩
          go_simp
          with_reducible rfl
         rotate_left
         ·simp only [Act.put, List.setIfInBounds_toArray, List.set_cons_zero, List.set_cons_succ, i64_w, i32_w]
          rfl
         refine pure_ (i := 4) (N := some 26) (v := ?_) (a' := ?_) #[true, true, true, true, true, false, false, false] rfl rfl (any_of HT_.out (by kernel_rfl)) (fun _ _ _ h => h) (Or.inl ⟨by rfl, ?_⟩) ?_ ?_
         rotate_left
         ·intro w'
          go_simp
          with_reducible rfl
         rotate_left
         ·simp only [Act.put, List.setIfInBounds_toArray, List.set_cons_zero, List.set_cons_succ, i64_w, i32_w]
          rfl
         refine take_ (i := 5) (N := some 27) (v := ?_) (a' := ?_) #[true, true, true, true, true, true, false, false] rfl rfl (take_ofW HT_.out HW_.out (by kernel_rfl)) (fun _ _ _ h => h) (Or.inl ⟨by rfl, ?_⟩) hHeld ?_ ?_
         rotate_left
         ·rintro w' ⟨s0, s1, s2, s3, s4, s5, s6, s7, s8, s9, s10⟩
          go_simp
          with_reducible rfl
         rotate_left
         ·simp only [Act.put, List.setIfInBounds_toArray, List.set_cons_zero, List.set_cons_succ, i64_w, i32_w]
          rfl
         refine one_ (i := 6) (N := some 28) #[true, true, true, true, true, true, true, false] rfl rfl (one_of HT_.out (by kernel_rfl)) (by decide) (fun K hK => ?_)
         refine goes_ Try.func34 (by kernel_rfl) rfl #[.agg #[.slice (some ad318) l0_0.length c0_0], .agg #[.int .i64 ((rd_T38 l0_0 x3_2).f0), .slice A318_1 ((rd_T38 l0_0 x3_2).f1).length c318_1, .int .i64 ((rd_T38 l0_0 x3_2).f2), .int .i64 ((rd_T38 l0_0 x3_2).f3.f0), .int .i64 ((rd_T38 l0_0 x3_2).f3.f1), .slice A318_5 ((rd_T38 l0_0 x3_2).f3.f2).length c318_5, .int .i64 ((rd_T38 l0_0 x3_2).f4), .int .i64 ((rd_T38 l0_0 x3_2).f5.f0), .int .i64 ((rd_T38 l0_0 x3_2).f5.f1), .int .i64 ((rd_T38 l0_0 x3_2).f5.f2)]] (by rfl) rfl rfl (by (try simp only [List.map_toArray, List.map_cons, List.map_nil]); first | done | rfl | (simp only [List.length_drop, List.length_take]; rfl)) ?_
         with_reducible refine (leatref8_node.calls k2 _ _ l0_0 ((rd_T38 l0_0 x3_2).f0) _ _ ((rd_T38 l0_0 x3_2).f1) ((rd_T38 l0_0 x3_2).f2) ((rd_T38 l0_0 x3_2).f3.f0) ((rd_T38 l0_0 x3_2).f3.f1) _ _ ((rd_T38 l0_0 x3_2).f3.f2) ((rd_T38 l0_0 x3_2).f4) ((rd_T38 l0_0 x3_2).f5.f0) ((rd_T38 l0_0 x3_2).f5.f1) ((rd_T38 l0_0 x3_2).f5.f2) t319 _ ?side1 ?side2 ?side3 ?side4 ?side5 ?side6 A10.out).mono ?_
         (case side1 => repeat (first | exact (Kd.C_below HR0_0.out HB.out) | (with_reducible refine Kd.C_alloc ?_ _) | (with_reducible refine Kd.C_drewN ?_ _) | (with_reducible refine Kd.C_drew ?_)))
         (case side2 => exact HC0_0.out)
         (case side3 => repeat (first | exact (Kd.C_below HR318_1.out HB.out) | (with_reducible refine Kd.C_alloc ?_ _) | (with_reducible refine Kd.C_drewN ?_ _) | (with_reducible refine Kd.C_drew ?_)))
         (case side4 => exact HC318_1.out)
         (case side5 => repeat (first | exact (Kd.C_below HR318_5.out HB.out) | (with_reducible refine Kd.C_alloc ?_ _) | (with_reducible refine Kd.C_drewN ?_ _) | (with_reducible refine Kd.C_drew ?_)))
         (case side6 => exact HC318_5.out)
         rintro e w14 ⟨rfl, hb⟩
         refine ⟨_, rfl, ?_⟩
         have n0_ := Aside0.mk (blk_below (g := gb317) (o := .cells #[.slice (some ad318) l0_0.length c0_0] 24 (0, 0)) (by (with_reducible repeat (first | refine blk_drewN ?_ _ | refine blk_drew ?_ | refine blk_alloc ?_ _)); exact BK317.out) hb)
         have n1_ := Aside0.mk (below_step (by repeat (first | (with_reducible first | exact HB.out | apply below_alloc | apply pw_below_drewN | apply below_drew1 | refine below_set ?_ GE317.out) | exact HB.out)) hb)
         clear BK317
         clear HB
         have BK317 := n0_
         have HB := n1_
         clear n0_ n1_
         (try clear hb)
         (try clear hb2)
         (try clear hk)
         (try clear hi)
         refine hK.out _ _ ⟨(blk_cell BK317.out 0).trans rfl, ((HB.out.cell (World.block_lt_of_cell? w _ hw318_0)).trans hw318_0), ((HB.out.cell (World.block_lt_of_cell? w _ hw318_1)).trans hw318_1), ((HB.out.cell (World.block_lt_of_cell? w _ hw318_2)).trans hw318_2), ((HB.out.cell (World.block_lt_of_cell? w _ hw318_3)).trans hw318_3), ((HB.out.cell (World.block_lt_of_cell? w _ hw318_4)).trans hw318_4), ((HB.out.cell (World.block_lt_of_cell? w _ hw318_5)).trans hw318_5), ((HB.out.cell (World.block_lt_of_cell? w _ hw318_6)).trans hw318_6), ((HB.out.cell (World.block_lt_of_cell? w _ hw318_7)).trans hw318_7), ((HB.out.cell (World.block_lt_of_cell? w _ hw318_8)).trans hw318_8), ((HB.out.cell (World.block_lt_of_cell? w _ hw318_9)).trans hw318_9)⟩ (fun hHeld => ?_)
         clear hK K
         refine norm_ (a' := ?_) ?_ ?_
         rotate_left
         ·show Act.put _ (some 28) _ = _
          simp only [Act.put, List.setIfInBounds_toArray, List.set_cons_zero, List.set_cons_succ, i64_w, i32_w]
          rfl
         refine pure_ (i := 7) (N := some 4) (v := ?_) (a' := ?_) #[true, true, true, true, true, true, true, true] rfl rfl (any_of HT_.out (by kernel_rfl)) (fun _ _ _ h => h) (Or.inl ⟨by rfl, ?_⟩) ?_ ?_
         rotate_left
         ·intro w'
          go_simp
          with_reducible rfl
         rotate_left
         ·simp only [Act.put, List.setIfInBounds_toArray, List.set_cons_zero, List.set_cons_succ, i64_w, i32_w]
          rfl
         refine done_ (done_of HT_.out (by kernel_rfl)) ?_
         try go_wp2
         go_roundg k2
         case measure => have := HJ1.out; have := HK2.out; omega
         case rel => exact ⟨(wrap64 (x3_2 + 1)), (by first | rfl | (simp; done) | (simp [*]; done)), H', ⟨by have := HJ1.out; have := HK2.out; omega⟩, ⟨by (with_reducible repeat (first | refine blk_drewN ?_ _ | refine blk_drew ?_ | refine blk_alloc ?_ _)); exact BK317.out⟩, ⟨by repeat (first | (with_reducible first | exact HB.out | apply below_alloc | apply pw_below_drewN | apply below_drew1 | refine below_set ?_ GE317.out) | exact HB.out)⟩⟩
        ·rw [if_neg c11] at H
         have c11b0 : (t319 == 0) = false := beq_eq_false_iff_ne.mpr c11
         have c11b1 : (t319 != 0) = true := bne_iff_ne.mpr c11
         obtain rfl := Option.some.inj H
         have hcz15_0 : wr.cell? ⟨gb317, 0, none⟩ = some (.slice A0_0 l0_0.length c0_0) := (blk_cell BK317.out 0).trans rfl
         have hfz15_0 := blk_frozen BK317.out 0
         try go_wp2
         have n0_ := Aside0.mk (blk_drew BK317.out)
         have n1_ := Aside0.mk (below_drew1 HB.out)
         clear BK317
         clear HB
         have BK317 := n0_
         have HB := n1_
         clear n0_ n1_
         have p318 : 0 ≤ (x3_2 : Int) := of_decide_eq_true (by first | (with_reducible assumption) | assumption)
         have q318 : x3_2 < (l0_0.length : Int) := of_decide_eq_true (by first | (with_reducible assumption) | assumption)
         obtain ⟨ad318, A318_1, c318_1, A318_5, c318_5, e318, hx318_0, hx318_1, hx318_2, hx318_3, hx318_4, hx318_5, hx318_6, hx318_7, hx318_8, hx318_9, hl318_1, hi318_1, hl318_5, hi318_5⟩ := at_T38 HR0_0.out x3_2 p318 q318
         have hw318_9 := hx318_9
         have hw318_8 := hx318_8
         have hw318_7 := hx318_7
         have hw318_6 := hx318_6
         have hw318_5 := hx318_5
         have hw318_4 := hx318_4
         have hw318_3 := hx318_3
         have hw318_2 := hx318_2
         have hw318_1 := hx318_1
         have hw318_0 := hx318_0
         cases e318
         replace hx318_0 := (HB.out.cell (World.block_lt_of_cell? w _ hx318_0)).trans hx318_0
         replace hx318_1 := (HB.out.cell (World.block_lt_of_cell? w _ hx318_1)).trans hx318_1
         replace hx318_2 := (HB.out.cell (World.block_lt_of_cell? w _ hx318_2)).trans hx318_2
         replace hx318_3 := (HB.out.cell (World.block_lt_of_cell? w _ hx318_3)).trans hx318_3
         replace hx318_4 := (HB.out.cell (World.block_lt_of_cell? w _ hx318_4)).trans hx318_4
         replace hx318_5 := (HB.out.cell (World.block_lt_of_cell? w _ hx318_5)).trans hx318_5
         replace hx318_6 := (HB.out.cell (World.block_lt_of_cell? w _ hx318_6)).trans hx318_6
         replace hx318_7 := (HB.out.cell (World.block_lt_of_cell? w _ hx318_7)).trans hx318_7
         replace hx318_8 := (HB.out.cell (World.block_lt_of_cell? w _ hx318_8)).trans hx318_8
         replace hx318_9 := (HB.out.cell (World.block_lt_of_cell? w _ hx318_9)).trans hx318_9
         have HR318_1 := Aside0.mk hi318_1
         have HC318_1 := Aside0.mk hl318_1
         clear hi318_1 hl318_1
         have HR318_5 := Aside0.mk hi318_5
         have HC318_5 := Aside0.mk hl318_5
         clear hi318_5 hl318_5
         replace p318 := eq_true p318
         replace q318 := eq_true q318
         refine start_ (n := 8) (S := fun w' => w'.cell? ⟨gb317, 0, none⟩ = some (.slice (some ad318) l0_0.length c0_0) ∧ w'.cell? (ad318.add ((x3_2).toNat * 10)) = some (.int .i64 ((rd_T38 l0_0 x3_2).f0)) ∧ w'.cell? ⟨(ad318.add ((x3_2).toNat * 10)).block, (ad318.add ((x3_2).toNat * 10)).off + 1, none⟩ = some (.slice A318_1 ((rd_T38 l0_0 x3_2).f1).length c318_1) ∧ w'.cell? ⟨(ad318.add ((x3_2).toNat * 10)).block, (ad318.add ((x3_2).toNat * 10)).off + 2, none⟩ = some (.int .i64 ((rd_T38 l0_0 x3_2).f2)) ∧ w'.cell? ⟨(ad318.add ((x3_2).toNat * 10)).block, (ad318.add ((x3_2).toNat * 10)).off + 3, none⟩ = some (.int .i64 ((rd_T38 l0_0 x3_2).f3.f0)) ∧ w'.cell? ⟨(ad318.add ((x3_2).toNat * 10)).block, (ad318.add ((x3_2).toNat * 10)).off + 4, none⟩ = some (.int .i64 ((rd_T38 l0_0 x3_2).f3.f1)) ∧ w'.cell? ⟨(ad318.add ((x3_2).toNat * 10)).block, (ad318.add ((x3_2).toNat * 10)).off + 5, none⟩ = some (.slice A318_5 ((rd_T38 l0_0 x3_2).f3.f2).length c318_5) ∧ w'.cell? ⟨(ad318.add ((x3_2).toNat * 10)).block, (ad318.add ((x3_2).toNat * 10)).off + 6, none⟩ = some (.int .i64 ((rd_T38 l0_0 x3_2).f4)) ∧ w'.cell? ⟨(ad318.add ((x3_2).toNat * 10)).block, (ad318.add ((x3_2).toNat * 10)).off + 7, none⟩ = some (.int .i64 ((rd_T38 l0_0 x3_2).f5.f0)) ∧ w'.cell? ⟨(ad318.add ((x3_2).toNat * 10)).block, (ad318.add ((x3_2).toNat * 10)).off + 8, none⟩ = some (.int .i64 ((rd_T38 l0_0 x3_2).f5.f1)) ∧ w'.cell? ⟨(ad318.add ((x3_2).toNat * 10)).block, (ad318.add ((x3_2).toNat * 10)).off + 9, none⟩ = some (.int .i64 ((rd_T38 l0_0 x3_2).f5.f2))) (ds := []) #[false, false, false, false, false, false, false, false] (by kernel_rfl) rfl rfl ⟨(blk_cell BK317.out 0).trans rfl, ((HB.out.cell (World.block_lt_of_cell? w _ hw318_0)).trans hw318_0), ((HB.out.cell (World.block_lt_of_cell? w _ hw318_1)).trans hw318_1), ((HB.out.cell (World.block_lt_of_cell? w _ hw318_2)).trans hw318_2), ((HB.out.cell (World.block_lt_of_cell? w _ hw318_3)).trans hw318_3), ((HB.out.cell (World.block_lt_of_cell? w _ hw318_4)).trans hw318_4), ((HB.out.cell (World.block_lt_of_cell? w _ hw318_5)).trans hw318_5), ((HB.out.cell (World.block_lt_of_cell? w _ hw318_6)).trans hw318_6), ((HB.out.cell (World.block_lt_of_cell? w _ hw318_7)).trans hw318_7), ((HB.out.cell (World.block_lt_of_cell? w _ hw318_8)).trans hw318_8), ((HB.out.cell (World.block_lt_of_cell? w _ hw318_9)).trans hw318_9)⟩ (fun hHeld => ?_); refine with_tabW leatref8_light.tab6 leatref8_light.bits6 (fun HT_ HW_ => ?_)
         generalize wr.drew = w16 at BK317 HB HR318_1 HR318_5 hx318_0 hx318_1 hx318_2 hx318_3 hx318_4 hx318_5 hx318_6 hx318_7 hx318_8 hx318_9 hHeld ⊢
         refine pure_ (i := 1) (N := some 23) (v := ?_) (a' := ?_) #[false, true, false, false, false, false, false, false] rfl rfl (any_of HT_.out (by kernel_rfl)) (fun _ _ _ h => h) (Or.inl ⟨by rfl, ?_⟩) ?_ ?_
         rotate_left
         ·intro w'
          go_simp
          with_reducible rfl
         rotate_left
         ·simp only [Act.put, List.setIfInBounds_toArray, List.set_cons_zero, List.set_cons_succ, i64_w, i32_w]
          rfl
         refine pure_ (i := 3) (N := some 25) (v := ?_) (a' := ?_) #[false, true, false, true, false, false, false, false] rfl rfl (any_of HT_.out (by kernel_rfl)) (fun _ _ _ h => h) (Or.inl ⟨by rfl, ?_⟩) ?_ ?_
         rotate_left
         ·intro w'
          go_simp
          with_reducible rfl
         rotate_left
         ·simp only [Act.put, List.setIfInBounds_toArray, List.set_cons_zero, List.set_cons_succ, i64_w, i32_w]
          rfl
         refine take_ (i := 0) (N := some 22) (v := ?_) (a' := ?_) #[true, true, false, true, false, false, false, false] rfl rfl (take_ofW HT_.out HW_.out (by kernel_rfl)) (fun _ _ _ h => h) (Or.inl ⟨by rfl, ?_⟩) hHeld ?_ ?_
         rotate_left
         ·rintro w' ⟨s0, s1, s2, s3, s4, s5, s6, s7, s8, s9, s10⟩
          go_simp
          with_reducible rfl
         rotate_left
         ·simp only [Act.put, List.setIfInBounds_toArray, List.set_cons_zero, List.set_cons_succ, i64_w, i32_w]
          rfl
         refine take_ (i := 2) (N := some 24) (v := ?_) (a' := ?_) #[true, true, true, true, false, false, false, false] rfl rfl (take_ofW HT_.out HW_.out (by kernel_rfl)) (fun _ _ _ h => h) (Or.inl ⟨by rfl, ?_⟩) hHeld ?_ ?_
         rotate_left
         ·rintro w' ⟨s0, s1, s2, s3, s4, s5, s6, s7, s8, s9, s10⟩
          go_simp
          with_reducible rfl
         rotate_left
         ·simp only [Act.put, List.setIfInBounds_toArray, List.set_cons_zero, List.set_cons_succ, i64_w, i32_w]
          rfl
         refine pure_ (i := 4) (N := some 26) (v := ?_) (a' := ?_) #[true, true, true, true, true, false, false, false] rfl rfl (any_of HT_.out (by kernel_rfl)) (fun _ _ _ h => h) (Or.inl ⟨by rfl, ?_⟩) ?_ ?_
         rotate_left
         ·intro w'
          go_simp
          with_reducible rfl
         rotate_left
         ·simp only [Act.put, List.setIfInBounds_toArray, List.set_cons_zero, List.set_cons_succ, i64_w, i32_w]
          rfl
         refine take_ (i := 5) (N := some 27) (v := ?_) (a' := ?_) #[true, true, true, true, true, true, false, false] rfl rfl (take_ofW HT_.out HW_.out (by kernel_rfl)) (fun _ _ _ h => h) (Or.inl ⟨by rfl, ?_⟩) hHeld ?_ ?_
         rotate_left
         ·rintro w' ⟨s0, s1, s2, s3, s4, s5, s6, s7, s8, s9, s10⟩
          go_simp
          with_reducible rfl
         rotate_left
         ·simp only [Act.put, List.setIfInBounds_toArray, List.set_cons_zero, List.set_cons_succ, i64_w, i32_w]
          rfl
         refine one_ (i := 6) (N := some 28) #[true, true, true, true, true, true, true, false] rfl rfl (one_of HT_.out (by kernel_rfl)) (by decide) (fun K hK => ?_)
         refine goes_ Try.func34 (by kernel_rfl) rfl #[.agg #[.slice (some ad318) l0_0.length c0_0], .agg #[.int .i64 ((rd_T38 l0_0 x3_2).f0), .slice A318_1 ((rd_T38 l0_0 x3_2).f1).length c318_1, .int .i64 ((rd_T38 l0_0 x3_2).f2), .int .i64 ((rd_T38 l0_0 x3_2).f3.f0), .int .i64 ((rd_T38 l0_0 x3_2).f3.f1), .slice A318_5 ((rd_T38 l0_0 x3_2).f3.f2).length c318_5, .int .i64 ((rd_T38 l0_0 x3_2).f4), .int .i64 ((rd_T38 l0_0 x3_2).f5.f0), .int .i64 ((rd_T38 l0_0 x3_2).f5.f1), .int .i64 ((rd_T38 l0_0 x3_2).f5.f2)]] (by rfl) rfl rfl (by (try simp only [List.map_toArray, List.map_cons, List.map_nil]); first | done | rfl | (simp only [List.length_drop, List.length_take]; rfl)) ?_
         with_reducible refine (leatref8_node.calls k2 _ _ l0_0 ((rd_T38 l0_0 x3_2).f0) _ _ ((rd_T38 l0_0 x3_2).f1) ((rd_T38 l0_0 x3_2).f2) ((rd_T38 l0_0 x3_2).f3.f0) ((rd_T38 l0_0 x3_2).f3.f1) _ _ ((rd_T38 l0_0 x3_2).f3.f2) ((rd_T38 l0_0 x3_2).f4) ((rd_T38 l0_0 x3_2).f5.f0) ((rd_T38 l0_0 x3_2).f5.f1) ((rd_T38 l0_0 x3_2).f5.f2) t319 _ ?side1 ?side2 ?side3 ?side4 ?side5 ?side6 A10.out).mono ?_
         (case side1 => repeat (first | exact (Kd.C_below HR0_0.out HB.out) | (with_reducible refine Kd.C_alloc ?_ _) | (with_reducible refine Kd.C_drewN ?_ _) | (with_reducible refine Kd.C_drew ?_)))
         (case side2 => exact HC0_0.out)
         (case side3 => repeat (first | exact (Kd.C_below HR318_1.out HB.out) | (with_reducible refine Kd.C_alloc ?_ _) | (with_reducible refine Kd.C_drewN ?_ _) | (with_reducible refine Kd.C_drew ?_)))
         (case side4 => exact HC318_1.out)
         (case side5 => repeat (first | exact (Kd.C_below HR318_5.out HB.out) | (with_reducible refine Kd.C_alloc ?_ _) | (with_reducible refine Kd.C_drewN ?_ _) | (with_reducible refine Kd.C_drew ?_)))
         (case side6 => exact HC318_5.out)
         rintro e w17 ⟨rfl, hb⟩
         refine ⟨_, rfl, ?_⟩
         have n0_ := Aside0.mk (blk_below (g := gb317) (o := .cells #[.slice (some ad318) l0_0.length c0_0] 24 (0, 0)) (by (with_reducible repeat (first | refine blk_drewN ?_ _ | refine blk_drew ?_ | refine blk_alloc ?_ _)); exact BK317.out) hb)
         have n1_ := Aside0.mk (below_step (by repeat (first | (with_reducible first | exact HB.out | apply below_alloc | apply pw_below_drewN | apply below_drew1 | refine below_set ?_ GE317.out) | exact HB.out)) hb)
         clear BK317
         clear HB
         have BK317 := n0_
         have HB := n1_
         clear n0_ n1_
         (try clear hb)
         (try clear hb2)
         (try clear hk)
         (try clear hi)
         refine hK.out _ _ ⟨(blk_cell BK317.out 0).trans rfl, ((HB.out.cell (World.block_lt_of_cell? w _ hw318_0)).trans hw318_0), ((HB.out.cell (World.block_lt_of_cell? w _ hw318_1)).trans hw318_1), ((HB.out.cell (World.block_lt_of_cell? w _ hw318_2)).trans hw318_2), ((HB.out.cell (World.block_lt_of_cell? w _ hw318_3)).trans hw318_3), ((HB.out.cell (World.block_lt_of_cell? w _ hw318_4)).trans hw318_4), ((HB.out.cell (World.block_lt_of_cell? w _ hw318_5)).trans hw318_5), ((HB.out.cell (World.block_lt_of_cell? w _ hw318_6)).trans hw318_6), ((HB.out.cell (World.block_lt_of_cell? w _ hw318_7)).trans hw318_7), ((HB.out.cell (World.block_lt_of_cell? w _ hw318_8)).trans hw318_8), ((HB.out.cell (World.block_lt_of_cell? w _ hw318_9)).trans hw318_9)⟩ (fun hHeld => ?_)
         clear hK K
         refine norm_ (a' := ?_) ?_ ?_
         rotate_left
         ·show Act.put _ (some 28) _ = _
          simp only [Act.put, List.setIfInBounds_toArray, List.set_cons_zero, List.set_cons_succ, i64_w, i32_w]
          rfl
         refine pure_ (i := 7) (N := some 4) (v := ?_) (a' := ?_) #[true, true, true, true, true, true, true, true] rfl rfl (any_of HT_.out (by kernel_rfl)) (fun _ _ _ h => h) (Or.inl ⟨by rfl, ?_⟩) ?_ ?_
         rotate_left
         ·intro w'
          go_simp
          with_reducible rfl
         rotate_left
         ·simp only [Act.put, List.setIfInBounds_toArray, List.set_cons_zero, List.set_cons_succ, i64_w, i32_w]
          rfl
         refine done_ (done_of HT_.out (by kernel_rfl)) ?_
         try go_wp2
         go_ret
         exact ⟨by first | rfl | (simp [errW_none, errW_some] <;> rfl) | (simp [*, errW_none, errW_some] <;> rfl), by repeat (first | (with_reducible first | exact HB.out | apply below_alloc | apply pw_below_drewN | apply below_drew1 | refine below_set ?_ GE317.out) | exact HB.out)⟩
       ·rw [if_neg c9] at H
        exact absurd H (by simp)
      ·rw [if_neg c8] at H
       have c8b0 : decide (x3_2 < (l0_0.length : Int)) = false := decide_eq_false c8
       clear c8
       replace H := Option.bind_eq_some_iff.mp H
       obtain ⟨t320, A180, H⟩ := H
       replace H : (if (t320.length : Int) < (l0_0.length : Int) then (some 83) else (some 0)) = some r := H
       have A18 := Aside0.mk A180
       clear A180
       by_cases c19 : (t320.length : Int) < (l0_0.length : Int)
       ·rw [if_pos c19] at H
        have c19b0 : decide ((t320.length : Int) < (l0_0.length : Int)) = true := decide_eq_true c19
        have c19b1 : decide (t320.length < l0_0.length) = true := decide_eq_true (Int.ofNat_lt.mp c19)
        clear c19
        obtain rfl := Option.some.inj H
        have hcz20_0 : wr.cell? ⟨gb317, 0, none⟩ = some (.slice A0_0 l0_0.length c0_0) := (blk_cell BK317.out 0).trans rfl
        have hfz20_0 := blk_frozen BK317.out 0
        try go_wp2
        have n0_ := Aside0.mk (blk_drew BK317.out)
        have n1_ := Aside0.mk (below_drew1 HB.out)
        clear BK317
        clear HB
        have BK317 := n0_
        have HB := n1_
        clear n0_ n1_
        refine start_ (n := 7) (S := fun w' => w'.cell? ⟨gb317, 0, none⟩ = some (.slice A0_0 l0_0.length c0_0)) (ds := []) #[false, false, false, false, false, false, false] (by kernel_rfl) rfl rfl ((blk_cell BK317.out 0).trans rfl) (fun hHeld => ?_)
        generalize wr.drew = w21 at BK317 HB hHeld ⊢
        refine pure_ (i := 3) (N := some 35) (v := ?_) (a' := ?_) #[false, false, false, true, false, false, false] rfl rfl (by kernel_rfl) (fun _ _ _ h => h) (Or.inl ⟨by rfl, ?_⟩) ?_ ?_
        rotate_left
        ·intro w'
         go_simp
         with_reducible rfl
        rotate_left
        ·simp only [Act.put, List.setIfInBounds_toArray, List.set_cons_zero, List.set_cons_succ, i64_w, i32_w]
         rfl
        refine take_ (i := 0) (N := some 32) (v := ?_) (a' := ?_) #[true, false, false, true, false, false, false] rfl rfl (by kernel_rfl) (fun _ _ _ h => h) (Or.inl ⟨by rfl, ?_⟩) hHeld ?_ ?_
        rotate_left
        ·intro w' s0
         go_simp
         with_reducible rfl
        rotate_left
        ·simp only [Act.put, List.setIfInBounds_toArray, List.set_cons_zero, List.set_cons_succ, i64_w, i32_w]
         rfl
        refine take_ (i := 4) (N := some 36) (v := ?_) (a' := ?_) #[true, false, false, true, true, false, false] rfl rfl (by kernel_rfl) (fun _ _ _ h => h) (Or.inl ⟨by rfl, ?_⟩) hHeld ?_ ?_
        rotate_left
        ·intro w' s0
         go_simp
         with_reducible rfl
        rotate_left
        ·simp only [Act.put, List.setIfInBounds_toArray, List.set_cons_zero, List.set_cons_succ, i64_w, i32_w]
         rfl
        refine pure_ (i := 5) (N := some 37) (v := ?_) (a' := ?_) #[true, false, false, true, true, true, false] rfl rfl (by kernel_rfl) (fun _ _ _ h => h) (Or.inl ⟨by rfl, ?_⟩) ?_ ?_
        rotate_left
        ·intro w'
         go_simp
         with_reducible rfl
        rotate_left
        ·simp only [Act.put, List.setIfInBounds_toArray, List.set_cons_zero, List.set_cons_succ, i64_w, i32_w]
         rfl
        refine one_ (i := 1) (N := some 33) #[true, true, false, true, true, true, false] rfl rfl (by kernel_rfl) (by decide) (fun K hK => ?_)
        refine goes_ Try.func26 (by kernel_rfl) rfl #[.agg #[.slice A0_0 l0_0.length c0_0]] (by rfl) rfl rfl (by (try simp only [List.map_toArray, List.map_cons, List.map_nil]); first | done | rfl | (simp only [List.length_drop, List.length_take]; rfl)) ?_
        with_reducible refine (leatref8_Order.calls k2 _ _ l0_0 t320 _ ?side1 ?side2 A18.out).mono ?_
        (case side1 => repeat (first | exact (Kd.C_below HR0_0.out HB.out) | (with_reducible refine Kd.C_alloc ?_ _) | (with_reducible refine Kd.C_drewN ?_ _) | (with_reducible refine Kd.C_drew ?_)))
        (case side2 => exact HC0_0.out)
        rintro e w22 ⟨v321, rfl, ho0, hb⟩
        refine ⟨_, rfl, ?_⟩
        have n0_ := Aside0.mk (Kd.R_lower ho0 (below_size (by repeat (first | (with_reducible first | exact HB.out | apply below_alloc | apply pw_below_drewN | apply below_drew1 | refine below_set ?_ GE317.out) | exact HB.out))))
        have n1_ := Aside0.mk (blk_below (g := gb317) (o := .cells #[.slice A0_0 l0_0.length c0_0] 24 (0, 0)) (by (with_reducible repeat (first | refine blk_drewN ?_ _ | refine blk_drew ?_ | refine blk_alloc ?_ _)); exact BK317.out) hb)
        have n2_ := Aside0.mk (below_step (by repeat (first | (with_reducible first | exact HB.out | apply below_alloc | apply pw_below_drewN | apply below_drew1 | refine below_set ?_ GE317.out) | exact HB.out)) hb)
        clear BK317
        clear HB
        have HO322 := n0_
        have BK317 := n1_
        have HB := n2_
        clear n0_ n1_ n2_
        (try clear hb)
        (try clear hb2)
        (try clear hk)
        (try clear hi)
        (try clear ho0)
        obtain ⟨Ao23, co23, eo23⟩ := Kd.R_slice HO322.out
        (first | subst eo23 | (injection eo23 with f1_ f2_ f3_; have f4_ := f1_.symm; have f5_ := f3_.symm; clear f1_ f2_ f3_; subst f4_; subst f5_))
        refine hK.out _ _ ((blk_cell BK317.out 0).trans rfl) (fun hHeld => ?_)
        clear hK K
        refine norm_ (a' := ?_) ?_ ?_
        rotate_left
        ·show Act.put _ (some 33) _ = _
         simp only [Act.put, List.setIfInBounds_toArray, List.set_cons_zero, List.set_cons_succ, i64_w, i32_w]
         rfl
        refine pure_ (i := 2) (N := some 34) (v := ?_) (a' := ?_) #[true, true, true, true, true, true, false] rfl rfl (by kernel_rfl) (fun _ _ _ h => h) (Or.inl ⟨by rfl, ?_⟩) ?_ ?_
        rotate_left
        ·intro w'
         go_simp
         with_reducible rfl
        rotate_left
        ·simp only [Act.put, List.setIfInBounds_toArray, List.set_cons_zero, List.set_cons_succ, i64_w, i32_w]
         rfl
        refine pure_ (i := 6) (N := some 38) (v := ?_) (a' := ?_) #[true, true, true, true, true, true, true] rfl rfl (by kernel_rfl) (fun _ _ _ h => h) (Or.inl ⟨by rfl, ?_⟩) ?_ ?_
        rotate_left
        ·intro w'
         go_simp
         with_reducible rfl
        rotate_left
        ·simp only [Act.put, List.setIfInBounds_toArray, List.set_cons_zero, List.set_cons_succ, i64_w, i32_w]
         rfl
        refine done_ (by kernel_rfl) ?_
        try go_wp2
        go_ret
        exact ⟨by first | rfl | (simp [errW_none, errW_some] <;> rfl) | (simp [*, errW_none, errW_some] <;> rfl), by repeat (first | (with_reducible first | exact HB.out | apply below_alloc | apply pw_below_drewN | apply below_drew1 | refine below_set ?_ GE317.out) | exact HB.out)⟩
       ·rw [if_neg c19] at H
        have c19b0 : decide ((t320.length : Int) < (l0_0.length : Int)) = false := decide_eq_false c19
        have c19b1 : decide (t320.length < l0_0.length) = false := decide_eq_false (fun h => c19 (Int.ofNat_lt.mpr h))
        clear c19
        obtain rfl := Option.some.inj H
        have hcz24_0 : wr.cell? ⟨gb317, 0, none⟩ = some (.slice A0_0 l0_0.length c0_0) := (blk_cell BK317.out 0).trans rfl
        have hfz24_0 := blk_frozen BK317.out 0
        try go_wp2
        have n0_ := Aside0.mk (blk_drew BK317.out)
        have n1_ := Aside0.mk (below_drew1 HB.out)
        clear BK317
        clear HB
        have BK317 := n0_
        have HB := n1_
        clear n0_ n1_
        refine start_ (n := 7) (S := fun w' => w'.cell? ⟨gb317, 0, none⟩ = some (.slice A0_0 l0_0.length c0_0)) (ds := []) #[false, false, false, false, false, false, false] (by kernel_rfl) rfl rfl ((blk_cell BK317.out 0).trans rfl) (fun hHeld => ?_)
        generalize wr.drew = w25 at BK317 HB hHeld ⊢
        refine pure_ (i := 3) (N := some 35) (v := ?_) (a' := ?_) #[false, false, false, true, false, false, false] rfl rfl (by kernel_rfl) (fun _ _ _ h => h) (Or.inl ⟨by rfl, ?_⟩) ?_ ?_
        rotate_left
        ·intro w'
         go_simp
         with_reducible rfl
        rotate_left
        ·simp only [Act.put, List.setIfInBounds_toArray, List.set_cons_zero, List.set_cons_succ, i64_w, i32_w]
         rfl
        refine take_ (i := 0) (N := some 32) (v := ?_) (a' := ?_) #[true, false, false, true, false, false, false] rfl rfl (by kernel_rfl) (fun _ _ _ h => h) (Or.inl ⟨by rfl, ?_⟩) hHeld ?_ ?_
        rotate_left
        ·intro w' s0
         go_simp
         with_reducible rfl
        rotate_left
        ·simp only [Act.put, List.setIfInBounds_toArray, List.set_cons_zero, List.set_cons_succ, i64_w, i32_w]
         rfl
        refine take_ (i := 4) (N := some 36) (v := ?_) (a' := ?_) #[true, false, false, true, true, false, false] rfl rfl (by kernel_rfl) (fun _ _ _ h => h) (Or.inl ⟨by rfl, ?_⟩) hHeld ?_ ?_
        rotate_left
        ·intro w' s0
         go_simp
         with_reducible rfl
        rotate_left
        ·simp only [Act.put, List.setIfInBounds_toArray, List.set_cons_zero, List.set_cons_succ, i64_w, i32_w]
         rfl
        refine pure_ (i := 5) (N := some 37) (v := ?_) (a' := ?_) #[true, false, false, true, true, true, false] rfl rfl (by kernel_rfl) (fun _ _ _ h => h) (Or.inl ⟨by rfl, ?_⟩) ?_ ?_
        rotate_left
        ·intro w'
         go_simp
         with_reducible rfl
        rotate_left
        ·simp only [Act.put, List.setIfInBounds_toArray, List.set_cons_zero, List.set_cons_succ, i64_w, i32_w]
         rfl
        refine one_ (i := 1) (N := some 33) #[true, true, false, true, true, true, false] rfl rfl (by kernel_rfl) (by decide) (fun K hK => ?_)
        refine goes_ Try.func26 (by kernel_rfl) rfl #[.agg #[.slice A0_0 l0_0.length c0_0]] (by rfl) rfl rfl (by (try simp only [List.map_toArray, List.map_cons, List.map_nil]); first | done | rfl | (simp only [List.length_drop, List.length_take]; rfl)) ?_
        with_reducible refine (leatref8_Order.calls k2 _ _ l0_0 t320 _ ?side1 ?side2 A18.out).mono ?_
        (case side1 => repeat (first | exact (Kd.C_below HR0_0.out HB.out) | (with_reducible refine Kd.C_alloc ?_ _) | (with_reducible refine Kd.C_drewN ?_ _) | (with_reducible refine Kd.C_drew ?_)))
        (case side2 => exact HC0_0.out)
        rintro e w26 ⟨v321, rfl, ho0, hb⟩
        refine ⟨_, rfl, ?_⟩
        have n0_ := Aside0.mk (Kd.R_lower ho0 (below_size (by repeat (first | (with_reducible first | exact HB.out | apply below_alloc | apply pw_below_drewN | apply below_drew1 | refine below_set ?_ GE317.out) | exact HB.out))))
        have n1_ := Aside0.mk (blk_below (g := gb317) (o := .cells #[.slice A0_0 l0_0.length c0_0] 24 (0, 0)) (by (with_reducible repeat (first | refine blk_drewN ?_ _ | refine blk_drew ?_ | refine blk_alloc ?_ _)); exact BK317.out) hb)
        have n2_ := Aside0.mk (below_step (by repeat (first | (with_reducible first | exact HB.out | apply below_alloc | apply pw_below_drewN | apply below_drew1 | refine below_set ?_ GE317.out) | exact HB.out)) hb)
        clear BK317
        clear HB
        have HO322 := n0_
        have BK317 := n1_
        have HB := n2_
        clear n0_ n1_ n2_
        (try clear hb)
        (try clear hb2)
        (try clear hk)
        (try clear hi)
        (try clear ho0)
        obtain ⟨Ao27, co27, eo27⟩ := Kd.R_slice HO322.out
        (first | subst eo27 | (injection eo27 with f1_ f2_ f3_; have f4_ := f1_.symm; have f5_ := f3_.symm; clear f1_ f2_ f3_; subst f4_; subst f5_))
        refine hK.out _ _ ((blk_cell BK317.out 0).trans rfl) (fun hHeld => ?_)
        clear hK K
        refine norm_ (a' := ?_) ?_ ?_
        rotate_left
        ·show Act.put _ (some 33) _ = _
         simp only [Act.put, List.setIfInBounds_toArray, List.set_cons_zero, List.set_cons_succ, i64_w, i32_w]
         rfl
        refine pure_ (i := 2) (N := some 34) (v := ?_) (a' := ?_) #[true, true, true, true, true, true, false] rfl rfl (by kernel_rfl) (fun _ _ _ h => h) (Or.inl ⟨by rfl, ?_⟩) ?_ ?_
        rotate_left
        ·intro w'
         go_simp
         with_reducible rfl
        rotate_left
        ·simp only [Act.put, List.setIfInBounds_toArray, List.set_cons_zero, List.set_cons_succ, i64_w, i32_w]
         rfl
        refine pure_ (i := 6) (N := some 38) (v := ?_) (a' := ?_) #[true, true, true, true, true, true, true] rfl rfl (by kernel_rfl) (fun _ _ _ h => h) (Or.inl ⟨by rfl, ?_⟩) ?_ ?_
        rotate_left
        ·intro w'
         go_simp
         with_reducible rfl
        rotate_left
        ·simp only [Act.put, List.setIfInBounds_toArray, List.set_cons_zero, List.set_cons_succ, i64_w, i32_w]
         rfl
        refine done_ (by kernel_rfl) ?_
        try go_wp2
        go_ret
        exact ⟨by first | rfl | (simp [errW_none, errW_some] <;> rfl) | (simp [*, errW_none, errW_some] <;> rfl), by repeat (first | (with_reducible first | exact HB.out | apply below_alloc | apply pw_below_drewN | apply below_drew1 | refine below_set ?_ GE317.out) | exact HB.out)⟩
end Go.Proofs.Ytpbmfdbfimcpjaa.X
