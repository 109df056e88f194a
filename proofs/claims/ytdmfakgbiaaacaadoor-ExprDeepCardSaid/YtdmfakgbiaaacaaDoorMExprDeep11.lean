/- Proofs towards the law ExprDeep, joined into one text. No conditions beyond those typed. -/
import Derived.Test.YtdmfakgbiaaacaaDoorMExprDeep8
import Derived.Test.YtdmfakgbiaaacaaDoorMExprDeep10
import Derived.Test.YtdmfakgbiaaacaaDoorMExprDeep9
import Derived.WalkLawsBesides
namespace Go.Proofs.YtdmfakgbiaaacaaDoor.X
open Go.RowKit Go.Proofs.YtdmfakgbiaaacaaDoorW.PrintWords Go.Proofs.YtdmfakgbiaaacaaDoorW.PrintLast Go.Proofs.YtdmfakgbiaaacaaDoorW.PrintMore
attribute [local go_sem] max2_int min2_int max_two min_two max_three min_three max_four min_four   -- for this text's walks alone
set_option linter.unusedVariables false
set_option linter.unusedSimpArgs false
mutual
def expr_text.l0 : Nat → List ByteArray → List (S24) → Int → Int → Int → Int → List (S24) → Option (ByteArray)
 | 0, _, _, _, _, _, _, _ => none
 | k + 1, x3, x21, x22, x23, x139000, x139001, x139002 => if x23 < x22 then (if 0 ≤ x23 then (if x23 < (x21.length : Int) then ((expr_text.f k ((rd_T24 x21 x23).f0) ((rd_T24 x21 x23).f1) ((rd_T24 x21 x23).f2)).bind fun t143 => (if x3.length < 8796093022208 then (expr_text.l0 k (x3 ++ [t143]) x21 x22 (wrap64 (x23 + 1)) x139000 x139001 x139002) else (none))) else (none)) else (none)) else ((expr_word.f x139000).bind fun t147 => (if t147.size + 1 ≤ 9223372036854775807 then ((strings_Join.f x3 (⟨#[44, 32]⟩ : ByteArray)).bind fun t148 => (if (t147 ++ (⟨#[40]⟩ : ByteArray)).size + t148.size ≤ 9223372036854775807 then (if ((t147 ++ (⟨#[40]⟩ : ByteArray)) ++ t148).size + 1 ≤ 9223372036854775807 then (some (((t147 ++ (⟨#[40]⟩ : ByteArray)) ++ t148) ++ (⟨#[41]⟩ : ByteArray))) else (none)) else (none))) else (none)))
def expr_text.f : Nat → Int → Int → List (S24) → Option (ByteArray)
 | 0, _, _, _ => none
 | k + 1, a0_0, a0_1, l0_2 => if a0_0 = 1 then ((strconv_FormatInt_32.f a0_1 10).bind fun t139 => (if 1 + t139.size ≤ 9223372036854775807 then (some ((⟨#[99]⟩ : ByteArray) ++ t139)) else (none))) else (if (l0_2.length : Int) = 0 then ((expr_word.f a0_0).bind fun t140 => (some t140)) else (expr_text.l0 k ([] : List ByteArray) l0_2 (l0_2.length : Int) 0 a0_0 a0_1 l0_2))
end
set_option maxHeartbeats 8000000 in
set_option maxRecDepth 100000 in
theorem expr_text.calls (k : Nat) : ∀ (a0_0 : Int) (a0_1 : Int) (A0_2 : Option Addr) (c0_2 : Nat) (l0_2 : List (S24)) (r : ByteArray) (w : World) (htab : TabW w) (hr0_2 : Kd.C k24 w A0_2 l0_2.length l0_2) (hc0_2 : l0_2.length ≤ c0_2) (h : expr_text.f k a0_0 a0_1 l0_2 = some r),
  Calls Tryd.prog 27 #[.agg #[.int .i64 a0_0, .int .i64 a0_1, .slice A0_2 l0_2.length c0_2]] w fun e w' => e = .returned (.string r) ∧ Below w.heap.size w w' := by
 induction k using Nat.strongRecOn with
 | _ k ih =>
 intro a0_0 a0_1 A0_2 c0_2 l0_2 r w htab hr0_2 hc0_2 h
 cases k with
 | zero => exact absurd h (by simp [expr_text.f])
 | succ k =>
 simp only [expr_text.f] at h
 have hu24 := Tryd.underlying24
 have HR0_2 := Aside0.mk hr0_2
 have HC0_2 := Aside0.mk hc0_2
 clear hr0_2 hc0_2
 have HT := Aside0.mk htab
 clear htab
 have HB := Aside0.mk (Below.refl w.heap.size w)
 have H : (if a0_0 = 1 then ((strconv_FormatInt_32.f a0_1 10).bind fun t139 => (if 1 + t139.size ≤ 9223372036854775807 then (some ((⟨#[99]⟩ : ByteArray) ++ t139)) else (none))) else (if (l0_2.length : Int) = 0 then ((expr_word.f a0_0).bind fun t140 => (some t140)) else (expr_text.l0 k ([] : List ByteArray) l0_2 (l0_2.length : Int) 0 a0_0 a0_1 l0_2))) = some r := h
 clear h
 by_cases c2 : a0_0 = 1
 ·rw [if_pos c2] at H
  have c2b0 : (a0_0 == 1) = true := beq_iff_eq.mpr c2
  have c2b1 : (a0_0 != 1) = false := bne_eq_false_iff_eq.mpr c2
  clear c2
  replace H := Option.bind_eq_some_iff.mp H
  obtain ⟨t139, A30, H⟩ := H
  replace H : (if 1 + t139.size ≤ 9223372036854775807 then (some ((⟨#[99]⟩ : ByteArray) ++ t139)) else (none)) = some r := H
  have A3 := Aside0.mk A30
  clear A30
  by_cases c4 : 1 + t139.size ≤ 9223372036854775807
  ·rw [if_pos c4] at H
   have c4b0 := eq_true c4
   have c4b1 : decide (1 + t139.size ≤ 9223372036854775807) = true := decide_eq_true c4
   try have c4b2 : (9223372036854775807 < 1 + t139.size) = False := eq_false (Nat.not_lt.2 c4)
   obtain rfl := Option.some.inj H
   go_enter Tryd.func27, Tryd.ntmps27
   go_wp2_with (first | ((with_reducible refine gate_dst (N := 1) rfl ?_); refine box_event ?hg (N := 1) ?hd (cs := #[.int .i64 a0_0, .int .i64 a0_1, .slice A0_2 l0_2.length c0_2]) (t := 24) ?hr ?_; (case hd => rfl); (case hg => rfl); (case hr => first | (go_simp; done) | (go_simp; rfl)); intro gb138 hg w5 hbox hb; have n0_ := Aside0.mk (below_step (by repeat (first | (with_reducible first | exact HB.out | apply below_alloc | apply pw_below_drewN | apply below_drew1) | exact HB.out)) hb); have n1_ := Aside0.mk (hbox); have n2_ := Aside0.mk ((by rw [hg]; exact (below_size (by repeat (first | (with_reducible first | exact HB.out | apply below_alloc | apply pw_below_drewN | apply below_drew1) | exact HB.out))) : w.heap.size ≤ gb138)); have n3_ := Aside0.mk ((by rw [hg]; exact (below_size (by repeat (first | (with_reducible first | exact HB.out | apply below_alloc | apply pw_below_drewN | apply below_drew1) | exact HB.out))) : w.heap.size ≤ gb138)); clear HB; have HB := n0_; have BK138 := n1_; have GW138 := n2_; have GE138 := n3_; clear n0_ n1_ n2_ n3_; clear hb hbox hg; have hcz6_0 : w5.cell? ⟨gb138, 0, none⟩ = some (.int .i64 a0_0) := (blk_cell BK138.out 0).trans rfl; have hcz6_1 : w5.cell? ⟨gb138, 1, none⟩ = some (.int .i64 a0_1) := (blk_cell BK138.out 1).trans rfl; have hcz6_2 : w5.cell? ⟨gb138, 2, none⟩ = some (.slice A0_2 l0_2.length c0_2) := (blk_cell BK138.out 2).trans rfl; have hfz6_0 := blk_frozen BK138.out 0; have hfz6_1 := blk_frozen BK138.out 1; have hfz6_2 := blk_frozen BK138.out 2) | ((with_reducible refine gate_callee (f := 32) rfl ?_); refine goesL_ (some 11) rfl rfl Tryd.func32 (by kernel_rfl) rfl #[.int .i64 a0_1, .int .i64 10] rfl (by (try simp only [List.map_toArray, List.map_cons, List.map_nil]); first | done | rfl | (simp only [List.length_drop, List.length_take]; rfl)) ?_; (with_reducible refine (strconv_FormatInt_32.calls a0_1 10 t139 _ ?sideT A3.out).mono ?_); (case sideT => exact TabW.below HT.out (by repeat (first | (with_reducible first | exact HB.out | apply below_alloc | apply pw_below_drewN | apply below_drew1 | refine below_set ?_ GE138.out) | exact HB.out))); rintro e w7 ⟨rfl, hb⟩; refine ⟨_, rfl, ?_⟩; have n0_ := Aside0.mk (blk_below (g := gb138) (o := .cells #[.int .i64 a0_0, .int .i64 a0_1, .slice A0_2 l0_2.length c0_2] 24 (0, 0)) (by (with_reducible repeat (first | refine blk_drewN ?_ _ | refine blk_drew ?_ | refine blk_alloc ?_ _)); exact BK138.out) hb); have n1_ := Aside0.mk (below_step (by repeat (first | (with_reducible first | exact HB.out | apply below_alloc | apply pw_below_drewN | apply below_drew1 | refine below_set ?_ GE138.out) | exact HB.out)) hb); clear BK138; clear HB; have BK138 := n0_; have HB := n1_; clear n0_ n1_; (try clear hb); (try clear hb2); (try clear hk); (try clear hi)))
   go_ret
   exact ⟨by first | rfl | (simp [errW_none, errW_some] <;> rfl) | (simp [*, errW_none, errW_some] <;> rfl), by repeat (first | (with_reducible first | exact HB.out | apply below_alloc | apply pw_below_drewN | apply below_drew1 | refine below_set ?_ GE138.out) | exact HB.out)⟩
  ·rw [if_neg c4] at H
   exact absurd H (by simp)
 ·rw [if_neg c2] at H
  have c2b0 : (a0_0 == 1) = false := beq_eq_false_iff_ne.mpr c2
  have c2b1 : (a0_0 != 1) = true := bne_iff_ne.mpr c2
  by_cases c8 : (l0_2.length : Int) = 0
  ·rw [if_pos c8] at H
   have c8b0 : ((l0_2.length : Int) == 0) = true := beq_iff_eq.mpr c8
   have c8b1 : ((l0_2.length : Int) != 0) = false := bne_eq_false_iff_eq.mpr c8
   clear c8
   replace H := Option.bind_eq_some_iff.mp H
   obtain ⟨t140, A90, H⟩ := H
   replace H : (some t140) = some r := H
   have A9 := Aside0.mk A90
   clear A90
   obtain rfl := Option.some.inj H
   go_enter Tryd.func27, Tryd.ntmps27
   go_wp2_with (first | ((with_reducible refine gate_dst (N := 1) rfl ?_); refine box_event ?hg (N := 1) ?hd (cs := #[.int .i64 a0_0, .int .i64 a0_1, .slice A0_2 l0_2.length c0_2]) (t := 24) ?hr ?_; (case hd => rfl); (case hg => rfl); (case hr => first | (go_simp; done) | (go_simp; rfl)); intro gb138 hg w10 hbox hb; have n0_ := Aside0.mk (below_step (by repeat (first | (with_reducible first | exact HB.out | apply below_alloc | apply pw_below_drewN | apply below_drew1) | exact HB.out)) hb); have n1_ := Aside0.mk (hbox); have n2_ := Aside0.mk ((by rw [hg]; exact (below_size (by repeat (first | (with_reducible first | exact HB.out | apply below_alloc | apply pw_below_drewN | apply below_drew1) | exact HB.out))) : w.heap.size ≤ gb138)); have n3_ := Aside0.mk ((by rw [hg]; exact (below_size (by repeat (first | (with_reducible first | exact HB.out | apply below_alloc | apply pw_below_drewN | apply below_drew1) | exact HB.out))) : w.heap.size ≤ gb138)); clear HB; have HB := n0_; have BK138 := n1_; have GW138 := n2_; have GE138 := n3_; clear n0_ n1_ n2_ n3_; clear hb hbox hg; have hcz11_0 : w10.cell? ⟨gb138, 0, none⟩ = some (.int .i64 a0_0) := (blk_cell BK138.out 0).trans rfl; have hcz11_1 : w10.cell? ⟨gb138, 1, none⟩ = some (.int .i64 a0_1) := (blk_cell BK138.out 1).trans rfl; have hcz11_2 : w10.cell? ⟨gb138, 2, none⟩ = some (.slice A0_2 l0_2.length c0_2) := (blk_cell BK138.out 2).trans rfl; have hfz11_0 := blk_frozen BK138.out 0; have hfz11_1 := blk_frozen BK138.out 1; have hfz11_2 := blk_frozen BK138.out 2) | ((with_reducible refine gate_callee (f := 33) rfl ?_); refine goesL_ (some 19) rfl rfl Tryd.func33 (by kernel_rfl) rfl #[.int .i64 a0_0] rfl (by (try simp only [List.map_toArray, List.map_cons, List.map_nil]); first | done | rfl | (simp only [List.length_drop, List.length_take]; rfl)) ?_; (with_reducible refine (expr_word.calls a0_0 t140 _ A9.out).mono ?_); rintro e w12 ⟨rfl, hb⟩; refine ⟨_, rfl, ?_⟩; have n0_ := Aside0.mk (blk_below (g := gb138) (o := .cells #[.int .i64 a0_0, .int .i64 a0_1, .slice A0_2 l0_2.length c0_2] 24 (0, 0)) (by (with_reducible repeat (first | refine blk_drewN ?_ _ | refine blk_drew ?_ | refine blk_alloc ?_ _)); exact BK138.out) hb); have n1_ := Aside0.mk (below_step (by repeat (first | (with_reducible first | exact HB.out | apply below_alloc | apply pw_below_drewN | apply below_drew1 | refine below_set ?_ GE138.out) | exact HB.out)) hb); clear BK138; clear HB; have BK138 := n0_; have HB := n1_; clear n0_ n1_; (try clear hb); (try clear hb2); (try clear hk); (try clear hi)))
   go_ret
   exact ⟨by first | rfl | (simp [errW_none, errW_some] <;> rfl) | (simp [*, errW_none, errW_some] <;> rfl), by repeat (first | (with_reducible first | exact HB.out | apply below_alloc | apply pw_below_drewN | apply below_drew1 | refine below_set ?_ GE138.out) | exact HB.out)⟩
  ·rw [if_neg c8] at H
   have c8b0 : ((l0_2.length : Int) == 0) = false := beq_eq_false_iff_ne.mpr c8
   have c8b1 : ((l0_2.length : Int) != 0) = true := bne_iff_ne.mpr c8
   have c8b2 : ¬ (l0_2 = []) := fun h_ => c8 (by rw [h_]; rfl)
   have H' := Aside0.mk H
   clear H
   go_enter Tryd.func27, Tryd.ntmps27
   go_wp2_with (first | ((with_reducible refine gate_dst (N := 1) rfl ?_); refine box_event ?hg (N := 1) ?hd (cs := #[.int .i64 a0_0, .int .i64 a0_1, .slice A0_2 l0_2.length c0_2]) (t := 24) ?hr ?_; (case hd => rfl); (case hg => rfl); (case hr => first | (go_simp; done) | (go_simp; rfl)); intro gb138 hg w13 hbox hb; have n0_ := Aside0.mk (below_step (by repeat (first | (with_reducible first | exact HB.out | apply below_alloc | apply pw_below_drewN | apply below_drew1) | exact HB.out)) hb); have n1_ := Aside0.mk (hbox); have n2_ := Aside0.mk ((by rw [hg]; exact (below_size (by repeat (first | (with_reducible first | exact HB.out | apply below_alloc | apply pw_below_drewN | apply below_drew1) | exact HB.out))) : w.heap.size ≤ gb138)); have n3_ := Aside0.mk ((by rw [hg]; exact (below_size (by repeat (first | (with_reducible first | exact HB.out | apply below_alloc | apply pw_below_drewN | apply below_drew1) | exact HB.out))) : w.heap.size ≤ gb138)); clear HB; have HB := n0_; have BK138 := n1_; have GW138 := n2_; have GE138 := n3_; clear n0_ n1_ n2_ n3_; clear hb hbox hg; have hcz14_0 : w13.cell? ⟨gb138, 0, none⟩ = some (.int .i64 a0_0) := (blk_cell BK138.out 0).trans rfl; have hcz14_1 : w13.cell? ⟨gb138, 1, none⟩ = some (.int .i64 a0_1) := (blk_cell BK138.out 1).trans rfl; have hcz14_2 : w13.cell? ⟨gb138, 2, none⟩ = some (.slice A0_2 l0_2.length c0_2) := (blk_cell BK138.out 2).trans rfl; have hfz14_0 := blk_frozen BK138.out 0; have hfz14_1 := blk_frozen BK138.out 1; have hfz14_2 := blk_frozen BK138.out 2))
   go_loopg [3, 23] k (fun kq v3 v23 w' => ∃ (x3_1 : List ByteArray) (x23_1 : Int), v23 = .int .i64 x23_1 ∧ Aside0 (expr_text.l0 kq x3_1 l0_2 (l0_2.length : Int) x23_1 a0_0 a0_1 l0_2 = some r) ∧ Aside0 (kq ≤ k) ∧ Aside0 (Kd.R Kd.string 9 w' w.heap.size (fun _ => True) v3 x3_1) ∧ Aside0 (w'.heap[gb138]? = some (.cells #[.int .i64 a0_0, .int .i64 a0_1, (.slice A0_2 l0_2.length c0_2)] 24 (0, 0))) ∧ Aside0 (Below w.heap.size w w'))
   case atStart => exact ⟨(([] : List ByteArray)), (0), (by first | rfl | (simp; done) | (simp [*]; done)), H', ⟨Nat.le_refl _⟩, ⟨by first | exact Kd.R_nil _ _ _ _ _ | exact Kd.N_nil _ _ _ _ _ | exact Kd.V_nil _ _ _ _ _ | exact Kd.Q_nil _ _ _ _ _ | exact Kd.S_nil _ _ _ _ _⟩, ⟨by (with_reducible repeat (first | refine blk_drewN ?_ _ | refine blk_drew ?_ | refine blk_alloc ?_ _)); exact BK138.out⟩, ⟨by repeat (first | (with_reducible first | exact HB.out | apply below_alloc | apply pw_below_drewN | apply below_drew1 | refine below_set ?_ GE138.out) | exact HB.out)⟩⟩
   case round =>
    clear H'
    try clear c2; try clear c2b0; try clear c2b1; try clear p2; try clear c3; try clear c4; try clear c4b0; try clear c4b1; try clear c4b2; try clear c8; try clear c8b0; try clear c8b1; try clear c8b2; try clear hcz11_0; try clear hcz11_1; try clear hcz11_2; try clear hcz14_0; try clear hcz14_1; try clear hcz14_2; try clear hcz6_0; try clear hcz6_1; try clear hcz6_2; try clear hfz11_0; try clear hfz11_1; try clear hfz11_2; try clear hfz14_0; try clear hfz14_1; try clear hfz14_2; try clear hfz6_0; try clear hfz6_1; try clear hfz6_2
    obtain ⟨x3_1, x23_1, rfl, HA, HK1, HO_3, BK138, HB⟩ := hrel
    cases gk with
    | zero => exact absurd HA.out (by simp [expr_text.l0])
    | succ k1 =>
     have H := HA.out
     clear HA
     simp only [expr_text.l0] at H
     by_cases c15 : x23_1 < (l0_2.length : Int)
     ·rw [if_pos c15] at H
      have c15b0 : decide (x23_1 < (l0_2.length : Int)) = true := decide_eq_true c15
      clear c15
      by_cases c16 : 0 ≤ x23_1
      ·rw [if_pos c16] at H
       have c16b0 : decide (0 ≤ x23_1) = true := decide_eq_true c16
       clear c16
       by_cases c17 : x23_1 < (l0_2.length : Int)
       ·rw [if_pos c17] at H
        have c17b0 : decide (x23_1 < (l0_2.length : Int)) = true := decide_eq_true c17
        clear c17
        replace H := Option.bind_eq_some_iff.mp H
        obtain ⟨t143, A180, H⟩ := H
        replace H : (if x3_1.length < 8796093022208 then (expr_text.l0 k1 (x3_1 ++ [t143]) l0_2 (l0_2.length : Int) (wrap64 (x23_1 + 1)) a0_0 a0_1 l0_2) else (none)) = some r := H
        have A18 := Aside0.mk A180
        clear A180
        by_cases c19 : x3_1.length < 8796093022208
        ·rw [if_pos c19] at H
         have LMc19 := Aside0.mk c19
         clear c19
         obtain ⟨y144, hy144⟩ : ∃ y_ : List ByteArray, y_ = (x3_1 ++ [t143]) := ⟨_, rfl⟩
         replace H : (expr_text.l0 k1 y144 l0_2 (l0_2.length : Int) (wrap64 (x23_1 + 1)) a0_0 a0_1 l0_2) = some r := by first | (rw [hy144]; with_reducible exact H) | (have H2_ := (Option.bind_some _ _).symm.trans H; rw [hy144]; with_reducible exact H2_) | (have H2_ := (Option.bind_some _ _).symm.trans H; with_reducible exact H2_) | with_reducible exact H | (rw [hy144]; exact H) | exact H
         have Ny144 := Aside0.mk hy144
         clear hy144
         have H' := Aside0.mk H
         clear H
         have p141 : 0 ≤ (x23_1 : Int) := of_decide_eq_true (by first | (with_reducible assumption) | assumption)
         have q141 : x23_1 < (l0_2.length : Int) := of_decide_eq_true (by first | (with_reducible assumption) | assumption)
         obtain ⟨ad141, A141_2, c141_2, e141, hx141_0, hx141_1, hx141_2, hl141_2, hi141_2⟩ := at_T24 HR0_2.out x23_1 p141 q141
         cases e141
         replace hx141_0 := (HB.out.cell (World.block_lt_of_cell? w _ hx141_0)).trans hx141_0
         replace hx141_1 := (HB.out.cell (World.block_lt_of_cell? w _ hx141_1)).trans hx141_1
         replace hx141_2 := (HB.out.cell (World.block_lt_of_cell? w _ hx141_2)).trans hx141_2
         have HR141_2 := Aside0.mk hi141_2
         have HC141_2 := Aside0.mk hl141_2
         clear hi141_2 hl141_2
         replace p141 := eq_true p141
         replace q141 := eq_true q141
         go_wp2_with (first | ((with_reducible refine gate_dst (N := 5) rfl ?_); refine box_event ?hg (N := 5) ?hd (cs := #[.int .i64 0, .int .i64 0, .slice none 0 0]) (t := 24) ?hr ?_; (case hd => rfl); (case hg => rfl); (case hr => first | (go_simp; done) | (go_simp; rfl)); intro gb142 hg w20 hbox hb; have n0_ := Aside0.mk (Kd.R_below (by (with_reducible repeat (first | apply Kd.R_alloc | apply Kd.R_drewN | apply Kd.R_drew)); exact HO_3.out) hb); have n1_ := Aside0.mk (blk_below (g := gb138) (o := .cells #[.int .i64 a0_0, .int .i64 a0_1, .slice (some ad141) l0_2.length c0_2] 24 (0, 0)) (by (with_reducible repeat (first | refine blk_drewN ?_ _ | refine blk_drew ?_ | refine blk_alloc ?_ _)); exact BK138.out) hb); have n2_ := Aside0.mk (below_step (by repeat (first | (with_reducible first | exact HB.out | apply below_alloc | apply pw_below_drewN | apply below_drew1 | refine below_set ?_ GE138.out) | exact HB.out)) hb); have n3_ := Aside0.mk (hbox); have n4_ := Aside0.mk ((by rw [hg]; exact (below_size (by repeat (first | (with_reducible first | exact HB.out | apply below_alloc | apply pw_below_drewN | apply below_drew1 | refine below_set ?_ GE138.out) | exact HB.out))) : w.heap.size ≤ gb142)); have n5_ := Aside0.mk ((by rw [hg]; exact (below_size (by repeat (first | (with_reducible first | exact HB.out | apply below_alloc | apply pw_below_drewN | apply below_drew1 | refine below_set ?_ GE138.out) | exact HB.out))) : w.heap.size ≤ gb142)); have n6_ := Aside0.mk ((by rw [hg]; exact Nat.ne_of_lt (blk_lt (g := gb138) (o := .cells #[.int .i64 a0_0, .int .i64 a0_1, .slice (some ad141) l0_2.length c0_2] 24 (0, 0)) (by (with_reducible repeat (first | refine blk_drewN ?_ _ | refine blk_drew ?_ | refine blk_alloc ?_ _)); exact BK138.out)) : gb138 ≠ gb142)); have n7_ := Aside0.mk ((by rw [hg]; exact Nat.ne_of_gt (blk_lt (g := gb138) (o := .cells #[.int .i64 a0_0, .int .i64 a0_1, .slice (some ad141) l0_2.length c0_2] 24 (0, 0)) (by (with_reducible repeat (first | refine blk_drewN ?_ _ | refine blk_drew ?_ | refine blk_alloc ?_ _)); exact BK138.out)) : gb142 ≠ gb138)); clear HO_3; clear BK138; clear HB; have HO_3 := n0_; have BK138 := n1_; have HB := n2_; have BK142 := n3_; have GW142 := n4_; have GE142 := n5_; have NB138_142 := n6_; have NB142_138 := n7_; clear n0_ n1_ n2_ n3_ n4_ n5_ n6_ n7_; clear hb hbox hg; have hnb21 := NB142_138.out; have hnc21 := NB138_142.out; have hcz22_0 : w20.cell? ⟨gb142, 0, none⟩ = some (.int .i64 0) := (blk_cell BK142.out 0).trans rfl; have hcz22_1 : w20.cell? ⟨gb142, 1, none⟩ = some (.int .i64 0) := (blk_cell BK142.out 1).trans rfl; have hcz22_2 : w20.cell? ⟨gb142, 2, none⟩ = some (.slice none 0 0) := (blk_cell BK142.out 2).trans rfl; have hfz22_0 := blk_frozen BK142.out 0; have hfz22_1 := blk_frozen BK142.out 1; have hfz22_2 := blk_frozen BK142.out 2) | ((with_reducible refine gate_callee (f := 27) rfl ?_); refine goesL_ (some 29) rfl rfl Tryd.func27 (by kernel_rfl) rfl #[.agg #[.int .i64 ((rd_T24 l0_2 x23_1).f0), .int .i64 ((rd_T24 l0_2 x23_1).f1), .slice A141_2 ((rd_T24 l0_2 x23_1).f2).length c141_2]] rfl (by (try simp only [List.map_toArray, List.map_cons, List.map_nil]); first | done | rfl | (simp only [List.length_drop, List.length_take]; rfl)) ?_; (with_reducible refine (ih k1 (by have := HK1.out; omega) ((rd_T24 l0_2 x23_1).f0) ((rd_T24 l0_2 x23_1).f1) _ _ ((rd_T24 l0_2 x23_1).f2) t143 _ ?sideT ?side1 ?side2 A18.out).mono ?_); (case sideT => exact TabW.below HT.out (by repeat (first | (with_reducible first | exact HB.out | apply below_alloc | apply pw_below_drewN | apply below_drew1 | refine below_set ?_ GE138.out | refine below_set ?_ GE142.out) | exact HB.out))); (case side1 => exact Kd.C_below HR141_2.out (by repeat (first | (with_reducible first | exact HB.out | apply below_alloc | apply pw_below_drewN | apply below_drew1 | refine below_set ?_ GE138.out | refine below_set ?_ GE142.out) | exact HB.out))); (case side2 => exact HC141_2.out); rintro e w23 ⟨rfl, hb⟩; refine ⟨_, rfl, ?_⟩; have n0_ := Aside0.mk (Kd.R_below (by (with_reducible repeat (first | apply Kd.R_alloc | apply Kd.R_drewN | apply Kd.R_drew)); exact (Kd.R_mono (Kd.R_far (p := ⟨gb142, 2, none⟩) (Kd.R_far (p := ⟨gb142, 1, none⟩) (Kd.R_far (p := ⟨gb142, 0, none⟩) (Kd.R_types HO_3.out BK142.out (by decide)) (fun _ hk => hk.2) (.int .i64 ((rd_T24 l0_2 x23_1).f0))) (fun _ hk => hk.2) (.int .i64 ((rd_T24 l0_2 x23_1).f1))) (fun _ hk => hk.2) (.slice A141_2 ((rd_T24 l0_2 x23_1).f2).length c141_2)) (fun _ h_ => h_.1))) hb); have n1_ := Aside0.mk (blk_below (g := gb138) (o := .cells #[.int .i64 a0_0, .int .i64 a0_1, .slice (some ad141) l0_2.length c0_2] 24 (0, 0)) (by (with_reducible repeat (first | refine blk_drewN ?_ _ | refine blk_drew ?_ | refine blk_alloc ?_ _)); refine blk_far ?_ NB138_142.out _; (with_reducible repeat (first | refine blk_drewN ?_ _ | refine blk_drew ?_ | refine blk_alloc ?_ _)); refine blk_far ?_ NB138_142.out _; (with_reducible repeat (first | refine blk_drewN ?_ _ | refine blk_drew ?_ | refine blk_alloc ?_ _)); refine blk_far ?_ NB138_142.out _; (with_reducible repeat (first | refine blk_drewN ?_ _ | refine blk_drew ?_ | refine blk_alloc ?_ _)); exact BK138.out) hb); have n2_ := Aside0.mk (blk_below (g := gb142) (o := .cells #[.int .i64 ((rd_T24 l0_2 x23_1).f0), .int .i64 ((rd_T24 l0_2 x23_1).f1), .slice A141_2 ((rd_T24 l0_2 x23_1).f2).length c141_2] 24 (0, 0)) (by (with_reducible repeat (first | refine blk_drewN ?_ _ | refine blk_drew ?_ | refine blk_alloc ?_ _)); refine blk_put (cs := #[.int .i64 ((rd_T24 l0_2 x23_1).f0), .int .i64 ((rd_T24 l0_2 x23_1).f1), .slice none 0 0]) ?_ 2 _ rfl; (with_reducible repeat (first | refine blk_drewN ?_ _ | refine blk_drew ?_ | refine blk_alloc ?_ _)); refine blk_put (cs := #[.int .i64 ((rd_T24 l0_2 x23_1).f0), .int .i64 0, .slice none 0 0]) ?_ 1 _ rfl; (with_reducible repeat (first | refine blk_drewN ?_ _ | refine blk_drew ?_ | refine blk_alloc ?_ _)); refine blk_put (cs := #[.int .i64 0, .int .i64 0, .slice none 0 0]) ?_ 0 _ rfl; (with_reducible repeat (first | refine blk_drewN ?_ _ | refine blk_drew ?_ | refine blk_alloc ?_ _)); exact BK142.out) hb); have n3_ := Aside0.mk (below_step (by repeat (first | (with_reducible first | exact HB.out | apply below_alloc | apply pw_below_drewN | apply below_drew1 | refine below_set ?_ GE138.out | refine below_set ?_ GE142.out) | exact HB.out)) hb); clear HO_3; clear BK138; clear BK142; clear HB; have HO_3 := n0_; have BK138 := n1_; have BK142 := n2_; have HB := n3_; clear n0_ n1_ n2_ n3_; (try clear hb); (try clear hb2); (try clear hk); (try clear hi)) | ((with_reducible refine gate_builtin (b := .append) (xs := #[.tmp 27, .tmp 30]) rfl ?_); at_builtin; refine Kd.R_append Kd.string (w0 := w) w.heap.size rfl (.tmp 27) (.tmp 30) 47 9 (.string ⟨#[]⟩) 16 rfl Tryd.underlying47 info9 rfl (by decide) (by omega) u3 x3_1 t143 [.string t143] (fun _ => True) (fun _ => False) rfl rfl ?aP (fun _ hk => hk.elim) ?aF ?aO ?aB ?aS ?aL ?_; (case aP => exact rfl); (case aB => exact (by repeat (first | (with_reducible first | exact HB.out | apply below_alloc | apply pw_below_drewN | apply below_drew1 | refine below_set ?_ GE138.out | refine below_set ?_ GE142.out) | exact HB.out))); (case aF => exact (fun _ _ => trivial)); (case aO => exact (by (with_reducible repeat (first | apply Kd.R_alloc | apply Kd.R_drewN | apply Kd.R_drew)); exact HO_3.out)); (case aS => exact (below_size (by repeat (first | (with_reducible first | exact HB.out | apply below_alloc | apply pw_below_drewN | apply below_drew1 | refine below_set ?_ GE138.out | refine below_set ?_ GE142.out) | exact HB.out)))); (case aL => have := LMc19.out; omega); intro v145 w24 ho hb hg hat; rw [← Ny144.out] at ho; have n0_ := Aside0.mk (blk_grown (g := gb138) (o := .cells #[.int .i64 a0_0, .int .i64 a0_1, .slice (some ad141) l0_2.length c0_2] 24 (0, 0)) (by (with_reducible repeat (first | refine blk_drewN ?_ _ | refine blk_drew ?_ | refine blk_alloc ?_ _)); exact BK138.out) hg (Kd.R_ne HO_3.out BK138.out (by decide))); have n1_ := Aside0.mk (blk_grown (g := gb142) (o := .cells #[.int .i64 ((rd_T24 l0_2 x23_1).f0), .int .i64 ((rd_T24 l0_2 x23_1).f1), .slice A141_2 ((rd_T24 l0_2 x23_1).f2).length c141_2] 24 (0, 0)) (by (with_reducible repeat (first | refine blk_drewN ?_ _ | refine blk_drew ?_ | refine blk_alloc ?_ _)); exact BK142.out) hg (Kd.R_ne HO_3.out BK142.out (by decide))); have n2_ := Aside0.mk (hb); have n3_ := Aside0.mk (ho); clear BK138; clear BK142; clear HB; clear HO_3; have BK138 := n0_; have BK142 := n1_; have HB := n2_; have HO146 := n3_; clear n0_ n1_ n2_ n3_; clear ho hb hg hat))
         go_roundg k1
         case measure => have := HK1.out; omega
         case rel => exact ⟨(y144), (wrap64 (x23_1 + 1)), (by first | rfl | (simp; done) | (simp [*]; done)), H', ⟨by have := HK1.out; omega⟩, ⟨by (with_reducible repeat (first | apply Kd.R_alloc | apply Kd.R_drewN | apply Kd.R_drew)); exact HO146.out⟩, ⟨by (with_reducible repeat (first | refine blk_drewN ?_ _ | refine blk_drew ?_ | refine blk_alloc ?_ _)); exact BK138.out⟩, ⟨by repeat (first | (with_reducible first | exact HB.out | apply below_alloc | apply pw_below_drewN | apply below_drew1 | refine below_set ?_ GE138.out | refine below_set ?_ GE142.out) | exact HB.out)⟩⟩
        ·rw [if_neg c19] at H
         exact absurd H (by simp)
       ·rw [if_neg c17] at H
        exact absurd H (by simp)
      ·rw [if_neg c16] at H
       exact absurd H (by simp)
     ·rw [if_neg c15] at H
      have c15b0 : decide (x23_1 < (l0_2.length : Int)) = false := decide_eq_false c15
      clear c15
      replace H := Option.bind_eq_some_iff.mp H
      obtain ⟨t147, A250, H⟩ := H
      replace H : (if t147.size + 1 ≤ 9223372036854775807 then ((strings_Join.f x3_1 (⟨#[44, 32]⟩ : ByteArray)).bind fun t148 => (if (t147 ++ (⟨#[40]⟩ : ByteArray)).size + t148.size ≤ 9223372036854775807 then (if ((t147 ++ (⟨#[40]⟩ : ByteArray)) ++ t148).size + 1 ≤ 9223372036854775807 then (some (((t147 ++ (⟨#[40]⟩ : ByteArray)) ++ t148) ++ (⟨#[41]⟩ : ByteArray))) else (none)) else (none))) else (none)) = some r := H
      have A25 := Aside0.mk A250
      clear A250
      by_cases c26 : t147.size + 1 ≤ 9223372036854775807
      ·rw [if_pos c26] at H
       have c26b0 := eq_true c26
       have c26b1 : decide (t147.size + 1 ≤ 9223372036854775807) = true := decide_eq_true c26
       try have c26b2 : (9223372036854775807 < t147.size + 1) = False := eq_false (Nat.not_lt.2 c26)
       replace H := Option.bind_eq_some_iff.mp H
       obtain ⟨t148, A270, H⟩ := H
       replace H : (if (t147 ++ (⟨#[40]⟩ : ByteArray)).size + t148.size ≤ 9223372036854775807 then (if ((t147 ++ (⟨#[40]⟩ : ByteArray)) ++ t148).size + 1 ≤ 9223372036854775807 then (some (((t147 ++ (⟨#[40]⟩ : ByteArray)) ++ t148) ++ (⟨#[41]⟩ : ByteArray))) else (none)) else (none)) = some r := H
       have A27 := Aside0.mk A270
       clear A270
       by_cases c28 : (t147 ++ (⟨#[40]⟩ : ByteArray)).size + t148.size ≤ 9223372036854775807
       ·rw [if_pos c28] at H
        have c28b0 := eq_true c28
        have c28b1 : decide ((t147 ++ (⟨#[40]⟩ : ByteArray)).size + t148.size ≤ 9223372036854775807) = true := decide_eq_true c28
        try have c28b2 : (9223372036854775807 < (t147 ++ (⟨#[40]⟩ : ByteArray)).size + t148.size) = False := eq_false (Nat.not_lt.2 c28)
        by_cases c29 : ((t147 ++ (⟨#[40]⟩ : ByteArray)) ++ t148).size + 1 ≤ 9223372036854775807
        ·rw [if_pos c29] at H
         have c29b0 := eq_true c29
         have c29b1 : decide (((t147 ++ (⟨#[40]⟩ : ByteArray)) ++ t148).size + 1 ≤ 9223372036854775807) = true := decide_eq_true c29
         try have c29b2 : (9223372036854775807 < ((t147 ++ (⟨#[40]⟩ : ByteArray)) ++ t148).size + 1) = False := eq_false (Nat.not_lt.2 c29)
         obtain rfl := Option.some.inj H
         have z40 : (t147 ++ (⟨#[40]⟩ : ByteArray)).size = t147.size + 1 := by rw [ByteArray.size_append]; rfl
         have z41 : ((t147 ++ (⟨#[40]⟩ : ByteArray)) ++ t148).size = t147.size + 1 + t148.size := by rw [ByteArray.size_append, z40]
         have c28n : t147.size + 1 + t148.size ≤ 9223372036854775807 := by rw [z40] at c28; exact c28
         have c28n0 := eq_true c28n
         have c28n1 : (9223372036854775807 < t147.size + 1 + t148.size) = False := eq_false (Nat.not_lt.2 c28n)
         have c29n : t147.size + 1 + t148.size + 1 ≤ 9223372036854775807 := by rw [z41] at c29; exact c29
         have c29n0 := eq_true c29n
         have c29n1 : (9223372036854775807 < t147.size + 1 + t148.size + 1) = False := eq_false (Nat.not_lt.2 c29n)
         have hcz30_0 : wr.cell? ⟨gb138, 0, none⟩ = some (.int .i64 a0_0) := (blk_cell BK138.out 0).trans rfl
         have hcz30_1 : wr.cell? ⟨gb138, 1, none⟩ = some (.int .i64 a0_1) := (blk_cell BK138.out 1).trans rfl
         have hcz30_2 : wr.cell? ⟨gb138, 2, none⟩ = some (.slice A0_2 l0_2.length c0_2) := (blk_cell BK138.out 2).trans rfl
         have hfz30_0 := blk_frozen BK138.out 0
         have hfz30_1 := blk_frozen BK138.out 1
         have hfz30_2 := blk_frozen BK138.out 2
         go_wp2_with (first | ((with_reducible refine gate_callee (f := 33) rfl ?_); refine goesL_ (some 35) rfl rfl Tryd.func33 (by kernel_rfl) rfl #[.int .i64 a0_0] rfl (by (try simp only [List.map_toArray, List.map_cons, List.map_nil]); first | done | rfl | (simp only [List.length_drop, List.length_take]; rfl)) ?_; (with_reducible refine (expr_word.calls a0_0 t147 _ A25.out).mono ?_); rintro e w31 ⟨rfl, hb⟩; refine ⟨_, rfl, ?_⟩; have n0_ := Aside0.mk (Kd.R_below (by (with_reducible repeat (first | apply Kd.R_alloc | apply Kd.R_drewN | apply Kd.R_drew)); exact HO_3.out) hb); have n1_ := Aside0.mk (blk_below (g := gb138) (o := .cells #[.int .i64 a0_0, .int .i64 a0_1, .slice A0_2 l0_2.length c0_2] 24 (0, 0)) (by (with_reducible repeat (first | refine blk_drewN ?_ _ | refine blk_drew ?_ | refine blk_alloc ?_ _)); exact BK138.out) hb); have n2_ := Aside0.mk (below_step (by repeat (first | (with_reducible first | exact HB.out | apply below_alloc | apply pw_below_drewN | apply below_drew1 | refine below_set ?_ GE138.out) | exact HB.out)) hb); clear HO_3; clear BK138; clear HB; have HO_3 := n0_; have BK138 := n1_; have HB := n2_; clear n0_ n1_ n2_; (try clear hb); (try clear hb2); (try clear hk); (try clear hi); obtain ⟨Ao32, co32, eo32⟩ := Kd.R_slice HO_3.out; subst eo32) | ((with_reducible refine gate_callee (f := 34) rfl ?_); refine goesL_ (some 38) rfl rfl Tryd.func34 (by kernel_rfl) rfl #[.slice Ao32 x3_1.length co32, .string (⟨#[44, 32]⟩ : ByteArray)] rfl (by (try simp only [List.map_toArray, List.map_cons, List.map_nil]); first | done | rfl | (simp only [List.length_drop, List.length_take]; rfl)) ?_; (with_reducible refine (strings_Join.calls _ _ x3_1 (⟨#[44, 32]⟩ : ByteArray) t148 _ ?side1 ?side2 A27.out).mono ?_); (case side1 => repeat (first | exact (Kd.R_reads' HO_3.out).2.2 | (with_reducible refine Kd.C_alloc ?_ _) | (with_reducible refine Kd.C_drewN ?_ _) | (with_reducible refine Kd.C_drew ?_))); (case side2 => exact (Kd.R_reads' HO_3.out).2.1); rintro e w33 ⟨rfl, hb⟩; refine ⟨_, rfl, ?_⟩; have n0_ := Aside0.mk (Kd.R_below (by (with_reducible repeat (first | apply Kd.R_alloc | apply Kd.R_drewN | apply Kd.R_drew)); exact HO_3.out) hb); have n1_ := Aside0.mk (blk_below (g := gb138) (o := .cells #[.int .i64 a0_0, .int .i64 a0_1, .slice A0_2 l0_2.length c0_2] 24 (0, 0)) (by (with_reducible repeat (first | refine blk_drewN ?_ _ | refine blk_drew ?_ | refine blk_alloc ?_ _)); exact BK138.out) hb); have n2_ := Aside0.mk (below_step (by repeat (first | (with_reducible first | exact HB.out | apply below_alloc | apply pw_below_drewN | apply below_drew1 | refine below_set ?_ GE138.out) | exact HB.out)) hb); clear HO_3; clear BK138; clear HB; have HO_3 := n0_; have BK138 := n1_; have HB := n2_; clear n0_ n1_ n2_; (try clear hb); (try clear hb2); (try clear hk); (try clear hi)))
         go_ret
         exact ⟨by first | rfl | (simp [errW_none, errW_some] <;> rfl) | (simp [*, errW_none, errW_some] <;> rfl), by repeat (first | (with_reducible first | exact HB.out | apply below_alloc | apply pw_below_drewN | apply below_drew1 | refine below_set ?_ GE138.out) | exact HB.out)⟩
        ·rw [if_neg c29] at H
         exact absurd H (by simp)
       ·rw [if_neg c28] at H
        exact absurd H (by simp)
      ·rw [if_neg c26] at H
       exact absurd H (by simp)
end Go.Proofs.YtdmfakgbiaaacaaDoor.X
namespace Go.Proofs.YtdmfakgbiaaacaaDoor.X
open Go.RowKit Go.Proofs.YtdmfakgbiaaacaaDoorW.PrintWords Go.Proofs.YtdmfakgbiaaacaaDoorW.PrintLast Go.Proofs.YtdmfakgbiaaacaaDoorW.PrintMore
attribute [local go_sem] max2_int min2_int max_two min_two max_three min_three max_four min_four   -- for this text's walks alone
set_option linter.unusedVariables false
set_option linter.unusedSimpArgs false
def expr_Text.f (k : Nat) (a0_0 : Int) (a0_1 : Int) (l0_2 : List (S24)) : Option (ByteArray) := (expr_Check.f k a0_0 a0_1 l0_2).bind fun t150 => (if t150 = 0 then ((expr_text.f k a0_0 a0_1 l0_2).bind fun t151 => (some t151)) else (some (⟨#[]⟩ : ByteArray)))
set_option maxHeartbeats 8000000 in
set_option maxRecDepth 100000 in
theorem expr_Text.calls (k : Nat) (a0_0 : Int) (a0_1 : Int) (A0_2 : Option Addr) (c0_2 : Nat) (l0_2 : List (S24)) (r : ByteArray) (w : World) (htab : TabW w) (hr0_2 : Kd.C k24 w A0_2 l0_2.length l0_2) (hc0_2 : l0_2.length ≤ c0_2) (h : expr_Text.f k a0_0 a0_1 l0_2 = some r) :
  Calls Tryd.prog 13 #[.agg #[.int .i64 a0_0, .int .i64 a0_1, .slice A0_2 l0_2.length c0_2]] w fun e w' => e = .returned (.string r) ∧ Below w.heap.size w w' := by
 have hu24 := Tryd.underlying24
 have HR0_2 := Aside0.mk hr0_2
 have HC0_2 := Aside0.mk hc0_2
 clear hr0_2 hc0_2
 have HT := Aside0.mk htab
 clear htab
 have HB := Aside0.mk (Below.refl w.heap.size w)
 have H : ((expr_Check.f k a0_0 a0_1 l0_2).bind fun t150 => (if t150 = 0 then ((expr_text.f k a0_0 a0_1 l0_2).bind fun t151 => (some t151)) else (some (⟨#[]⟩ : ByteArray)))) = some r := h
 clear h
 replace H := Option.bind_eq_some_iff.mp H
 obtain ⟨t150, A20, H⟩ := H
 replace H : (if t150 = 0 then ((expr_text.f k a0_0 a0_1 l0_2).bind fun t151 => (some t151)) else (some (⟨#[]⟩ : ByteArray))) = some r := H
 have A2 := Aside0.mk A20
 clear A20
 by_cases c3 : t150 = 0
 ·rw [if_pos c3] at H
  have c3b0 : (t150 == 0) = true := beq_iff_eq.mpr c3
  have c3b1 : (t150 != 0) = false := bne_eq_false_iff_eq.mpr c3
  clear c3
  replace H := Option.bind_eq_some_iff.mp H
  obtain ⟨t151, A40, H⟩ := H
  replace H : (some t151) = some r := H
  have A4 := Aside0.mk A40
  clear A40
  obtain rfl := Option.some.inj H
  go_enter Tryd.func13, Tryd.ntmps13
  go_wp2_with (first | ((with_reducible refine gate_dst (N := 1) rfl ?_); refine box_event ?hg (N := 1) ?hd (cs := #[.int .i64 a0_0, .int .i64 a0_1, .slice A0_2 l0_2.length c0_2]) (t := 24) ?hr ?_; (case hd => rfl); (case hg => rfl); (case hr => first | (go_simp; done) | (go_simp; rfl)); intro gb149 hg w5 hbox hb; have n0_ := Aside0.mk (below_step (by repeat (first | (with_reducible first | exact HB.out | apply below_alloc | apply pw_below_drewN | apply below_drew1) | exact HB.out)) hb); have n1_ := Aside0.mk (hbox); have n2_ := Aside0.mk ((by rw [hg]; exact (below_size (by repeat (first | (with_reducible first | exact HB.out | apply below_alloc | apply pw_below_drewN | apply below_drew1) | exact HB.out))) : w.heap.size ≤ gb149)); have n3_ := Aside0.mk ((by rw [hg]; exact (below_size (by repeat (first | (with_reducible first | exact HB.out | apply below_alloc | apply pw_below_drewN | apply below_drew1) | exact HB.out))) : w.heap.size ≤ gb149)); clear HB; have HB := n0_; have BK149 := n1_; have GW149 := n2_; have GE149 := n3_; clear n0_ n1_ n2_ n3_; clear hb hbox hg; have hcz6_0 : w5.cell? ⟨gb149, 0, none⟩ = some (.int .i64 a0_0) := (blk_cell BK149.out 0).trans rfl; have hcz6_1 : w5.cell? ⟨gb149, 1, none⟩ = some (.int .i64 a0_1) := (blk_cell BK149.out 1).trans rfl; have hcz6_2 : w5.cell? ⟨gb149, 2, none⟩ = some (.slice A0_2 l0_2.length c0_2) := (blk_cell BK149.out 2).trans rfl; have hfz6_0 := blk_frozen BK149.out 0; have hfz6_1 := blk_frozen BK149.out 1; have hfz6_2 := blk_frozen BK149.out 2) | ((with_reducible refine gate_callee (f := 11) rfl ?_); refine goesL_ (some 4) rfl rfl Tryd.func11 (by kernel_rfl) rfl #[.agg #[.int .i64 a0_0, .int .i64 a0_1, .slice A0_2 l0_2.length c0_2]] rfl (by (try simp only [List.map_toArray, List.map_cons, List.map_nil]); first | done | rfl | (simp only [List.length_drop, List.length_take]; rfl)) ?_; (with_reducible refine (expr_Check.calls k a0_0 a0_1 _ _ l0_2 t150 _ ?side1 ?side2 A2.out).mono ?_); (case side1 => repeat (first | exact (Kd.C_below HR0_2.out HB.out) | (with_reducible refine Kd.C_alloc ?_ _) | (with_reducible refine Kd.C_drewN ?_ _) | (with_reducible refine Kd.C_drew ?_))); (case side2 => exact HC0_2.out); rintro e w7 ⟨rfl, hb⟩; refine ⟨_, rfl, ?_⟩; have n0_ := Aside0.mk (blk_below (g := gb149) (o := .cells #[.int .i64 a0_0, .int .i64 a0_1, .slice A0_2 l0_2.length c0_2] 24 (0, 0)) (by (with_reducible repeat (first | refine blk_drewN ?_ _ | refine blk_drew ?_ | refine blk_alloc ?_ _)); exact BK149.out) hb); have n1_ := Aside0.mk (below_step (by repeat (first | (with_reducible first | exact HB.out | apply below_alloc | apply pw_below_drewN | apply below_drew1 | refine below_set ?_ GE149.out) | exact HB.out)) hb); clear BK149; clear HB; have BK149 := n0_; have HB := n1_; clear n0_ n1_; (try clear hb); (try clear hb2); (try clear hk); (try clear hi); have hcz8_0 : w7.cell? ⟨gb149, 0, none⟩ = some (.int .i64 a0_0) := (blk_cell BK149.out 0).trans rfl; have hcz8_1 : w7.cell? ⟨gb149, 1, none⟩ = some (.int .i64 a0_1) := (blk_cell BK149.out 1).trans rfl; have hcz8_2 : w7.cell? ⟨gb149, 2, none⟩ = some (.slice A0_2 l0_2.length c0_2) := (blk_cell BK149.out 2).trans rfl; have hfz8_0 := blk_frozen BK149.out 0; have hfz8_1 := blk_frozen BK149.out 1; have hfz8_2 := blk_frozen BK149.out 2) | ((with_reducible refine gate_callee (f := 27) rfl ?_); refine goesL_ (some 7) rfl rfl Tryd.func27 (by kernel_rfl) rfl #[.agg #[.int .i64 a0_0, .int .i64 a0_1, .slice A0_2 l0_2.length c0_2]] rfl (by (try simp only [List.map_toArray, List.map_cons, List.map_nil]); first | done | rfl | (simp only [List.length_drop, List.length_take]; rfl)) ?_; (with_reducible refine (expr_text.calls k a0_0 a0_1 _ _ l0_2 t151 _ ?sideT ?side1 ?side2 A4.out).mono ?_); (case sideT => exact TabW.below HT.out (by repeat (first | (with_reducible first | exact HB.out | apply below_alloc | apply pw_below_drewN | apply below_drew1 | refine below_set ?_ GE149.out) | exact HB.out))); (case side1 => repeat (first | exact (Kd.C_below HR0_2.out HB.out) | (with_reducible refine Kd.C_alloc ?_ _) | (with_reducible refine Kd.C_drewN ?_ _) | (with_reducible refine Kd.C_drew ?_))); (case side2 => exact HC0_2.out); rintro e w9 ⟨rfl, hb⟩; refine ⟨_, rfl, ?_⟩; have n0_ := Aside0.mk (blk_below (g := gb149) (o := .cells #[.int .i64 a0_0, .int .i64 a0_1, .slice A0_2 l0_2.length c0_2] 24 (0, 0)) (by (with_reducible repeat (first | refine blk_drewN ?_ _ | refine blk_drew ?_ | refine blk_alloc ?_ _)); exact BK149.out) hb); have n1_ := Aside0.mk (below_step (by repeat (first | (with_reducible first | exact HB.out | apply below_alloc | apply pw_below_drewN | apply below_drew1 | refine below_set ?_ GE149.out) | exact HB.out)) hb); clear BK149; clear HB; have BK149 := n0_; have HB := n1_; clear n0_ n1_; (try clear hb); (try clear hb2); (try clear hk); (try clear hi)))
  go_ret
  exact ⟨by first | rfl | (simp [errW_none, errW_some] <;> rfl) | (simp [*, errW_none, errW_some] <;> rfl), by repeat (first | (with_reducible first | exact HB.out | apply below_alloc | apply pw_below_drewN | apply below_drew1 | refine below_set ?_ GE149.out) | exact HB.out)⟩
 ·rw [if_neg c3] at H
  have c3b0 : (t150 == 0) = false := beq_eq_false_iff_ne.mpr c3
  have c3b1 : (t150 != 0) = true := bne_iff_ne.mpr c3
  obtain rfl := Option.some.inj H
  go_enter Tryd.func13, Tryd.ntmps13
  go_wp2_with (first | ((with_reducible refine gate_dst (N := 1) rfl ?_); refine box_event ?hg (N := 1) ?hd (cs := #[.int .i64 a0_0, .int .i64 a0_1, .slice A0_2 l0_2.length c0_2]) (t := 24) ?hr ?_; (case hd => rfl); (case hg => rfl); (case hr => first | (go_simp; done) | (go_simp; rfl)); intro gb149 hg w10 hbox hb; have n0_ := Aside0.mk (below_step (by repeat (first | (with_reducible first | exact HB.out | apply below_alloc | apply pw_below_drewN | apply below_drew1) | exact HB.out)) hb); have n1_ := Aside0.mk (hbox); have n2_ := Aside0.mk ((by rw [hg]; exact (below_size (by repeat (first | (with_reducible first | exact HB.out | apply below_alloc | apply pw_below_drewN | apply below_drew1) | exact HB.out))) : w.heap.size ≤ gb149)); have n3_ := Aside0.mk ((by rw [hg]; exact (below_size (by repeat (first | (with_reducible first | exact HB.out | apply below_alloc | apply pw_below_drewN | apply below_drew1) | exact HB.out))) : w.heap.size ≤ gb149)); clear HB; have HB := n0_; have BK149 := n1_; have GW149 := n2_; have GE149 := n3_; clear n0_ n1_ n2_ n3_; clear hb hbox hg; have hcz11_0 : w10.cell? ⟨gb149, 0, none⟩ = some (.int .i64 a0_0) := (blk_cell BK149.out 0).trans rfl; have hcz11_1 : w10.cell? ⟨gb149, 1, none⟩ = some (.int .i64 a0_1) := (blk_cell BK149.out 1).trans rfl; have hcz11_2 : w10.cell? ⟨gb149, 2, none⟩ = some (.slice A0_2 l0_2.length c0_2) := (blk_cell BK149.out 2).trans rfl; have hfz11_0 := blk_frozen BK149.out 0; have hfz11_1 := blk_frozen BK149.out 1; have hfz11_2 := blk_frozen BK149.out 2) | ((with_reducible refine gate_callee (f := 11) rfl ?_); refine goesL_ (some 4) rfl rfl Tryd.func11 (by kernel_rfl) rfl #[.agg #[.int .i64 a0_0, .int .i64 a0_1, .slice A0_2 l0_2.length c0_2]] rfl (by (try simp only [List.map_toArray, List.map_cons, List.map_nil]); first | done | rfl | (simp only [List.length_drop, List.length_take]; rfl)) ?_; (with_reducible refine (expr_Check.calls k a0_0 a0_1 _ _ l0_2 t150 _ ?side1 ?side2 A2.out).mono ?_); (case side1 => repeat (first | exact (Kd.C_below HR0_2.out HB.out) | (with_reducible refine Kd.C_alloc ?_ _) | (with_reducible refine Kd.C_drewN ?_ _) | (with_reducible refine Kd.C_drew ?_))); (case side2 => exact HC0_2.out); rintro e w12 ⟨rfl, hb⟩; refine ⟨_, rfl, ?_⟩; have n0_ := Aside0.mk (blk_below (g := gb149) (o := .cells #[.int .i64 a0_0, .int .i64 a0_1, .slice A0_2 l0_2.length c0_2] 24 (0, 0)) (by (with_reducible repeat (first | refine blk_drewN ?_ _ | refine blk_drew ?_ | refine blk_alloc ?_ _)); exact BK149.out) hb); have n1_ := Aside0.mk (below_step (by repeat (first | (with_reducible first | exact HB.out | apply below_alloc | apply pw_below_drewN | apply below_drew1 | refine below_set ?_ GE149.out) | exact HB.out)) hb); clear BK149; clear HB; have BK149 := n0_; have HB := n1_; clear n0_ n1_; (try clear hb); (try clear hb2); (try clear hk); (try clear hi)))
  go_ret
  exact ⟨by first | rfl | (simp [errW_none, errW_some] <;> rfl) | (simp [*, errW_none, errW_some] <;> rfl), by repeat (first | (with_reducible first | exact HB.out | apply below_alloc | apply pw_below_drewN | apply below_drew1 | refine below_set ?_ GE149.out) | exact HB.out)⟩
end Go.Proofs.YtdmfakgbiaaacaaDoor.X
namespace Go.Proofs.YtdmfakgbiaaacaaDoor.X
open Go.RowKit Go.Lib Go.Proofs Go.Proofs.YtdmfakgbiaaacaaDoorW.PrintWords Go.Proofs.YtdmfakgbiaaacaaDoorW.PrintLast Go.Proofs.YtdmfakgbiaaacaaDoorW.PrintMore Go.Proofs.YtdmfakgbiaaacaaDoor
attribute [local go_sem] max2_int min2_int max_two min_two
set_option linter.unusedVariables false
set_option linter.unusedSimpArgs false
theorem six_ {W : World} {a b : Nat} {u0 u1 u2 v0 v1 v2 : Value} (h : W.heap[a]? = some (.cells #[u0, u1, u2] 24 (0, 0))) (h' : W.heap[b]? = some (.cells #[v0, v1, v2] 24 (0, 0))) :
    W.cell? ⟨a, 0, none⟩ = some u0 ∧ W.cell? ⟨a, 1, none⟩ = some u1 ∧ W.cell? ⟨a, 2, none⟩ = some u2 ∧ W.cell? ⟨b, 0, none⟩ = some v0 ∧ W.cell? ⟨b, 1, none⟩ = some v1 ∧ W.cell? ⟨b, 2, none⟩ = some v2 :=
  ⟨(blk_cell h 0).trans rfl, (blk_cell h 1).trans rfl, (blk_cell h 2).trans rfl, (blk_cell h' 0).trans rfl, (blk_cell h' 1).trans rfl, (blk_cell h' 2).trans rfl⟩
theorem three_c {W : World} {a : Nat} {u0 u1 u2 : Value} (h : W.heap[a]? = some (.cells #[u0, u1, u2] 24 (0, 0))) :
    W.cell? ⟨a, 0, none⟩ = some u0 ∧ W.cell? ⟨a, 1, none⟩ = some u1 ∧ W.cell? ⟨a, 2, none⟩ = some u2 :=
  ⟨(blk_cell h 0).trans rfl, (blk_cell h 1).trans rfl, (blk_cell h 2).trans rfl⟩
structure St (w W : World) (bs : List (Nat × Array Value)) : Prop where
  hb : Below w.heap.size w W
  hs : ∀ x ∈ bs, W.heap[x.1]? = some (.cells x.2 24 (0, 0)) ∧ w.heap.size ≤ x.1
  hn : (bs.map (·.1)).Nodup
theorem St.get {w W : World} {bs : List (Nat × Array Value)} (h : St w W bs) (x : Nat × Array Value) (hx : x ∈ bs) : W.heap[x.1]? = some (.cells x.2 24 (0, 0)) := (h.hs x hx).1
theorem St.head {w W : World} {g : Nat} {cs : Array Value} {bs : List (Nat × Array Value)} (h : St w W ((g, cs) :: bs)) : W.heap[g]? = some (.cells cs 24 (0, 0)) := h.get (g, cs) (by simp)
theorem St.step {w W W' : World} {bs : List (Nat × Array Value)} (h : St w W bs) (hb : Below W.heap.size W W') : St w W' bs :=
  ⟨below_step h.hb hb, fun x hx => ⟨blk_below (h.hs x hx).1 hb, (h.hs x hx).2⟩, h.hn⟩
theorem St.lt {w W : World} {bs : List (Nat × Array Value)} (h : St w W bs) (x : Nat × Array Value) (hx : x ∈ bs) : x.1 < W.heap.size := by
  have := h.get x hx
  rcases Nat.lt_or_ge x.1 W.heap.size with h1 | h1
  · exact h1
  · rw [Array.getElem?_eq_none h1] at this; cases this
theorem St.grow {w W W' : World} {bs : List (Nat × Array Value)} (h : St w W bs) (hb : Below W.heap.size W W') {g : Nat} {cs : Array Value} (hg : W.heap.size ≤ g) (hx : W'.heap[g]? = some (.cells cs 24 (0, 0))) : St w W' ((g, cs) :: bs) := by
  have h1 := h.step hb
  refine ⟨h1.hb, fun x hx' => ?_, ?_⟩
  · rcases List.mem_cons.1 hx' with rfl | hx'
    · exact ⟨hx, Nat.le_trans h.hb.size hg⟩
    · exact h1.hs x hx'
  · simp only [List.map_cons, List.nodup_cons]
    refine ⟨fun hm => ?_, h.hn⟩
    obtain ⟨x, hx1, hx2⟩ := List.mem_map.1 hm
    have := h.lt x hx1
    omega
theorem St.swap {w W : World} {x y : Nat × Array Value} {bs : List (Nat × Array Value)} (h : St w W (x :: y :: bs)) : St w W (y :: x :: bs) := by
  refine ⟨h.hb, fun z hz => h.hs z (by simp only [List.mem_cons] at hz ⊢; rcases hz with h | h | h <;> simp [h]), ?_⟩
  have := h.hn
  simp only [List.map_cons, List.nodup_cons, List.mem_cons, not_or] at this ⊢
  exact ⟨⟨fun e => this.1.1 e.symm, this.2.1⟩, this.1.2, this.2.2⟩
theorem St.drew {w W : World} {bs : List (Nat × Array Value)} (h : St w W bs) : St w W.drew bs := h.step (below_drew1 (Below.refl _ _))
theorem so_ (W : World) (g i : Nat) (v : Value) (j : Nat) (h : g ≠ j) : (W.setCell ⟨g, i, none⟩ v).heap[j]? = W.heap[j]? := by
  unfold World.setCell
  simp [Array.getElem?_modify, h]
theorem St.store {w W : World} {g : Nat} {u0 u1 u2 : Value} {bs : List (Nat × Array Value)} (h : St w W ((g, #[u0, u1, u2]) :: bs)) (v0 v1 v2 : Value) :
    St w (((W.setCell ⟨g, 0, none⟩ v0).setCell ⟨g, 1, none⟩ v1).setCell ⟨g, 2, none⟩ v2) ((g, #[v0, v1, v2]) :: bs) := by
  have h0 := h.head
  have hge : w.heap.size ≤ g := (h.hs (g, #[u0, u1, u2]) (by simp)).2
  have hne : ∀ x ∈ bs, x.1 ≠ g := fun x hx e => by
    have := h.hn
    simp only [List.map_cons, List.nodup_cons] at this
    exact this.1 (e ▸ List.mem_map.2 ⟨x, hx, rfl⟩)
  refine ⟨below_set (below_set (below_set h.hb hge) hge) hge, fun x hx => ?_, by simpa using h.hn⟩
  rcases List.mem_cons.1 hx with rfl | hx
  · refine ⟨?_, hge⟩
    refine blk_put (cs := #[v0, v1, u2]) ?_ 2 _ rfl
    refine blk_put (cs := #[v0, u1, u2]) ?_ 1 _ rfl
    exact blk_put (cs := #[u0, u1, u2]) h0 0 _ rfl
  · have := h.hs x (List.mem_cons_of_mem _ hx)
    refine ⟨?_, this.2⟩
    have e := hne x hx
    have so : ∀ (W : World) (i : Nat) (v : Value), W.heap[x.1]? = some (.cells x.2 24 (0, 0)) → (W.setCell ⟨g, i, none⟩ v).heap[x.1]? = some (.cells x.2 24 (0, 0)) := fun W i v h => by
      rw [← h]
      exact so_ W g i v x.1 (fun e' => e e'.symm)
    exact so _ _ _ (so _ _ _ (so _ _ _ this.1))
theorem row_step {P : Program} {ops : Array Oper} {o : Oper} {a : Act} {Kc : Act → World → Prop} {Q : Exit → Act → World → Prop} {W : World} (hw : Region.wanted o (yielded ops a.tmps) = true) {N : Tmp} (_hd : o.dst = some N) {n : Nat} {cs : Array Value} {t : TypeId}
    (hrun : (execOp a.eval o).run P W = .ok (.value (.slice (some ⟨W.heap.size, 0, none⟩) n n)) (W.alloc (.cells cs t (0, 0))))
    (h : ∀ g, g = W.heap.size → ∀ w1, w1.heap[g]? = some (.cells cs t (0, 0)) → Below W.heap.size W w1 → Kc (a.put o.dst (.slice (some ⟨g, 0, none⟩) n n)) w1) : if Region.wanted o (yielded ops a.tmps) = true then Oper.wp P o a W Kc Q else Kc (a.put o.dst undef) W :=
  event_step hw hrun (h _ rfl _ (blk_new W _) (below_alloc (Below.refl _ _) _))
theorem konst0 (n : Int) (w : World) : Calls Tryd.prog 19 #[.int .i64 n] w fun e w' => e = .returned (.agg #[.int .i64 1, .int .i64 n, .slice none 0 0]) ∧ Below w.heap.size w w' := by
  have hu24 := Tryd.underlying24
  go_enter Tryd.func19, Tryd.ntmps19
  go_wp2
  refine bodyPost_ret (results_cell_row rfl _ _ w.heap.size 24 #[.int .i64 1, .int .i64 n, .slice none 0 0] (0, 0) _ rfl (blk_new _ _) Tryd.underlying24 rfl (by kernel_rfl)) rfl ?_
  exact ⟨rfl, below_alloc (Below.refl _ _) _⟩
theorem two0 (op a0 a1 b0 b1 : Int) (va vb : Value) (w : World) : Calls Tryd.prog 17 #[.int .i64 op, .agg #[.int .i64 a0, .int .i64 a1, va], .agg #[.int .i64 b0, .int .i64 b1, vb]] w fun e w' => ∃ g : Nat, w.heap.size ≤ g ∧ e = .returned (.agg #[.int .i64 op, .int .i64 0, .slice (some ⟨g, 0, none⟩) 2 2]) ∧ w'.heap[g]? = some (.cells #[.int .i64 a0, .int .i64 a1, va, .int .i64 b0, .int .i64 b1, vb] 24 (0, 0)) ∧ Below w.heap.size w w' := by
  have hu24 := Tryd.underlying24
  go_enter Tryd.func17, Tryd.ntmps17
  go_wp2
  have hA : ∀ (W : World) (o : Obj) (n : Nat), W.heap.size = n → (W.alloc o).heap[n]? = some o := fun W o n h => h ▸ blk_new W o
  refine bodyPost_ret (results_cell_row rfl _ _ (w.heap.size + 1 + 1) 24 #[.int .i64 op, .int .i64 0, .slice (some ⟨w.heap.size + 1 + 1 + 1, 0, none⟩) 2 2] (0, 0) _ rfl (blk_alloc (hA _ _ _ (by simp)) _) Tryd.underlying24 rfl (by kernel_rfl)) rfl ?_
  exact ⟨w.heap.size + 1 + 1 + 1, by omega, rfl, hA _ _ _ (by simp), below_alloc (below_alloc (below_alloc (below_alloc (Below.refl _ _) _) _) _) _⟩
theorem rowC {W : World} {g : Nat} {cs : Array Value} {l : List S24} (hx : W.heap[g]? = some (.cells cs 24 (0, 0))) (hl : l.length ≤ 9223372036854775807)
    (hk : ∀ (j : Nat) x, l[j]? = some x → ∃ v, k24.K W x [.int .i64 x.f0, .int .i64 x.f1, v] ∧ cs[j * 3]? = some (.int .i64 x.f0) ∧ cs[j * 3 + 1]? = some (.int .i64 x.f1) ∧ cs[j * 3 + 2]? = some v) :
    Kd.C k24 W (some ⟨g, 0, none⟩) l.length l := by
  refine ⟨rfl, hl, fun _ => ⟨⟨g, 0, none⟩, rfl, fun j x hj => ?_⟩⟩
  obtain ⟨v, hK, h0, h1, h2⟩ := hk j x hj
  refine ⟨_, rfl, hK, fun i u hu => ?_⟩
  have hc : ∀ n, W.cell? ((⟨g, 0, none⟩ : Addr).add n) = cs[n]? := fun n => by
    rcases Nat.eq_zero_or_pos n with rfl | hn
    · simpa [Addr.add] using blk_cell hx 0
    · rw [show (⟨g, 0, none⟩ : Addr).add n = ⟨g, 0 + n, none⟩ by simp [Addr.add, Nat.ne_of_gt hn], Nat.zero_add]
      exact blk_cell hx n
  rw [show k24.sz = 3 from rfl, hc]
  match i, hu with
  | 0, hu => exact h0.trans hu
  | 1, hu => exact h1.trans hu
  | 2, hu => exact h2.trans hu
  | (n + 3), hu => simp at hu
theorem row2C {W : World} {g : Nat} {a0 a1 b0 b1 : Int} {A B : Option Addr} {na nb : Nat} {la lb : List S24} (hx : W.heap[g]? = some (.cells #[.int .i64 a0, .int .i64 a1, .slice A na na, .int .i64 b0, .int .i64 b1, .slice B nb nb] 24 (0, 0)))
    (ea : na = la.length) (eb : nb = lb.length) (ha : Kd.C k24 W A la.length la) (hb : Kd.C k24 W B lb.length lb) : Kd.C k24 W (some ⟨g, 0, none⟩) 2 [⟨a0, a1, la⟩, ⟨b0, b1, lb⟩] := by
  subst ea eb
  refine rowC (l := [⟨a0, a1, la⟩, ⟨b0, b1, lb⟩]) hx (by simp) (fun j x hj => ?_)
  match j, hj with
  | 0, hj => obtain rfl := Option.some.inj hj; exact ⟨_, k24_mk W ⟨a0, a1, la⟩ (Nat.le_refl _) ha, rfl, rfl, rfl⟩
  | 1, hj => obtain rfl := Option.some.inj hj; exact ⟨_, k24_mk W ⟨b0, b1, lb⟩ (Nat.le_refl _) hb, rfl, rfl, rfl⟩
  | (n + 2), hj => simp at hj
theorem row3C {W : World} {g : Nat} {a0 a1 b0 b1 c0 c1 : Int} {A B C : Option Addr} {na nb nc : Nat} {la lb lc : List S24} (hx : W.heap[g]? = some (.cells #[.int .i64 a0, .int .i64 a1, .slice A na na, .int .i64 b0, .int .i64 b1, .slice B nb nb, .int .i64 c0, .int .i64 c1, .slice C nc nc] 24 (0, 0)))
    (ea : na = la.length) (eb : nb = lb.length) (ec : nc = lc.length) (ha : Kd.C k24 W A la.length la) (hb : Kd.C k24 W B lb.length lb) (hc : Kd.C k24 W C lc.length lc) : Kd.C k24 W (some ⟨g, 0, none⟩) 3 [⟨a0, a1, la⟩, ⟨b0, b1, lb⟩, ⟨c0, c1, lc⟩] := by
  subst ea eb ec
  refine rowC (l := [⟨a0, a1, la⟩, ⟨b0, b1, lb⟩, ⟨c0, c1, lc⟩]) hx (by simp) (fun j x hj => ?_)
  match j, hj with
  | 0, hj => obtain rfl := Option.some.inj hj; exact ⟨_, k24_mk W ⟨a0, a1, la⟩ (Nat.le_refl _) ha, rfl, rfl, rfl⟩
  | 1, hj => obtain rfl := Option.some.inj hj; exact ⟨_, k24_mk W ⟨b0, b1, lb⟩ (Nat.le_refl _) hb, rfl, rfl, rfl⟩
  | 2, hj => obtain rfl := Option.some.inj hj; exact ⟨_, k24_mk W ⟨c0, c1, lc⟩ (Nat.le_refl _) hc, rfl, rfl, rfl⟩
  | (n + 3), hj => simp at hj
def LA : List S24 := [⟨7, 0, [⟨2, 0, []⟩, ⟨1, 2, []⟩]⟩, ⟨4, 0, []⟩]
def LB : List S24 := [⟨12, 0, [⟨4, 0, []⟩, ⟨1, 0, []⟩]⟩, ⟨1, -1, []⟩, ⟨1, 1, []⟩]
def LX : List S24 := [⟨5, 0, LA⟩, ⟨5, 0, []⟩]
theorem nilC (W : World) : Kd.C k24 W none 0 [] := ⟨rfl, by decide, fun h => absurd h (by decide)⟩
def KF (w W : World) (sa ga sb gi : Nat) : Prop := (W.cell? ⟨sa, 0, none⟩ = some (.int .i64 5) ∧ W.cell? ⟨sa, 1, none⟩ = some (.int .i64 0) ∧ W.cell? ⟨sa, 2, none⟩ = some (.slice (some ⟨ga, 0, none⟩) 2 2)) ∧
  (W.cell? ⟨sb, 0, none⟩ = some (.int .i64 14) ∧ W.cell? ⟨sb, 1, none⟩ = some (.int .i64 0) ∧ W.cell? ⟨sb, 2, none⟩ = some (.slice (some ⟨gi, 0, none⟩) 3 3)) ∧
  Kd.C k24 W (some ⟨ga, 0, none⟩) 2 LA ∧ Kd.C k24 W (some ⟨gi, 0, none⟩) 3 LB ∧ TabW W ∧ Below w.heap.size w W
theorem KF.of {w W : World} {sa ga gm sb gi gl : Nat} {bs : List (Nat × Array Value)} (htab : TabW w) (h : St w W ((sb, #[.int .i64 14, .int .i64 0, .slice (some ⟨gi, 0, none⟩) 3 3]) :: (gi, #[.int .i64 12, .int .i64 0, .slice (some ⟨gl, 0, none⟩) 2 2, .int .i64 1, .int .i64 (-1), .slice none 0 0, .int .i64 1, .int .i64 1, .slice none 0 0]) :: (gl, #[.int .i64 4, .int .i64 0, .slice none 0 0, .int .i64 1, .int .i64 0, .slice none 0 0]) :: (sa, #[.int .i64 5, .int .i64 0, .slice (some ⟨ga, 0, none⟩) 2 2]) :: (ga, #[.int .i64 7, .int .i64 0, .slice (some ⟨gm, 0, none⟩) 2 2, .int .i64 4, .int .i64 0, .slice none 0 0]) :: (gm, #[.int .i64 2, .int .i64 0, .slice none 0 0, .int .i64 1, .int .i64 2, .slice none 0 0]) :: bs)) : KF w W sa ga sb gi := by
  refine ⟨three_c (h.get (sa, _) (by simp)), three_c (h.get (sb, _) (by simp)), ?_, ?_, htab.below h.hb, h.hb⟩
  · exact row2C (h.get (ga, _) (by simp)) rfl rfl (row2C (h.get (gm, _) (by simp)) rfl rfl (nilC W) (nilC W)) (nilC W)
  · exact row3C (h.get (gi, _) (by simp)) rfl rfl rfl (row2C (h.get (gl, _) (by simp)) rfl rfl (nilC W) (nilC W)) (nilC W) (nilC W)
theorem KF.step {w W W' : World} {sa ga sb gi : Nat} (h : KF w W sa ga sb gi) (hb : Below W.heap.size W W') : KF w W' sa ga sb gi := by
  obtain ⟨⟨a0, a1, a2⟩, ⟨b0, b1, b2⟩, ha, hb', ht, hw⟩ := h
  have c : ∀ a v, W.cell? a = some v → W'.cell? a = some v := fun a v h => (hb.cell (World.block_lt_of_cell? W _ h)).trans h
  exact ⟨⟨c _ _ a0, c _ _ a1, c _ _ a2⟩, ⟨c _ _ b0, c _ _ b1, c _ _ b2⟩, Kd.C_below ha hb, Kd.C_below hb' hb, ht.below hb, below_step hw hb⟩
theorem knA : expr_Check.f 40 5 0 LA = some 0 := by kernel_rfl
theorem knB : expr_Eval.f 40 5 0 LA 3 0 4 = some 10 := by kernel_rfl
theorem knC : expr_Text.f 40 5 0 LA = some ⟨#[97, 100, 100, 40, 109, 117, 108, 40, 107, 101, 121, 44, 32, 99, 50, 41, 44, 32, 118, 97, 108, 41]⟩ := by kernel_rfl
theorem knD : expr_Text.f 40 14 0 LB = some ⟨#[105, 102, 40, 108, 116, 40, 118, 97, 108, 44, 32, 99, 48, 41, 44, 32, 99, 45, 49, 44, 32, 99, 49, 41]⟩ := by kernel_rfl
theorem knE : expr_Eval.f 40 14 0 LB 0 0 (-9) = some (-1) := by kernel_rfl
theorem knF : expr_Check.f 40 0 0 [] = some 70 := by kernel_rfl
theorem knG : expr_Check.f 40 5 0 LX = some 70 := by kernel_rfl
def knownW.T2 : Bool × List (List Nat × List Nat) := (true, [([], []), ([], []), ([0, 1, 1], [0, 1]), ([], []), ([2, 3, 2], [2, 3]), ([], []), ([5, 4, 4, 0, 1, 2, 3, 4, 5], [4, 5])])
def knownW.B2 : List Nat := [0, 0, 3, 0, 15, 0, 63]
theorem knownW.tab2 : rtab .any (opsOf Tryd.f8 2) = knownW.T2 := by kernel_rfl
theorem knownW.bits2 : waitsOk knownW.T2.2 knownW.B2 = true := by kernel_rfl
def knownW.T3 : Bool × List (List Nat × List Nat) := (true, [([], []), ([], []), ([0, 1, 1], [0, 1]), ([2], []), ([3], []), ([2, 3, 4], [2, 3, 4]), ([5], [5]), ([], []), ([7, 6, 4, 0, 1, 2, 3, 4, 5, 6, 7], [6, 7])])
def knownW.B3 : List Nat := [0, 0, 3, 7, 15, 31, 63, 0, 255]
theorem knownW.tab3 : rtab .any (opsOf Tryd.f8 3) = knownW.T3 := by kernel_rfl
theorem knownW.bits3 : waitsOk knownW.T3.2 knownW.B3 = true := by kernel_rfl
set_option maxHeartbeats 8000000 in
set_option maxRecDepth 100000 in
theorem known0 (w : World) (htab : TabW w) : Calls Tryd.prog 8 #[] w fun e w' => e = .returned (.bool true) ∧ Below w.heap.size w w' := by
  have hu24 := Tryd.underlying24
  have hu26 := Tryd.underlying26
  have HTB := Aside0.mk htab
  clear htab
  go_enter Tryd.func8, Tryd.ntmps8
  go_wp2_with fail
  have HS : Aside0 (St w ((w.alloc (.cells #[.int .i64 4, .int .i64 0, .slice none 0 0] 24)).alloc (.cells #[.int .i64 2, .int .i64 0, .slice none 0 0] 24)) [(w.heap.size + 1, #[.int .i64 2, .int .i64 0, .slice none 0 0]), (w.heap.size, #[.int .i64 4, .int .i64 0, .slice none 0 0])]) := by
    have h0 : St w w [] := ⟨Below.refl _ _, fun x hx => absurd hx (by simp), by simp⟩
    have h1 := h0.grow (below_alloc (Below.refl _ _) _) (Nat.le_refl _) (blk_new w (.cells #[.int .i64 4, .int .i64 0, .slice none 0 0] 24 (0, 0)))
    have h2 := h1.grow (below_alloc (Below.refl _ _) _) (Nat.le_refl _) (blk_new (w.alloc (.cells #[.int .i64 4, .int .i64 0, .slice none 0 0] 24 (0, 0))) (.cells #[.int .i64 2, .int .i64 0, .slice none 0 0] 24 (0, 0)))
    exact ⟨by simpa using h2⟩
  refine start_ (n := 7) (S := fun w' => w'.cell? ⟨w.heap.size, 0, none⟩ = some (.int .i64 4) ∧ w'.cell? ⟨w.heap.size, 1, none⟩ = some (.int .i64 0) ∧ w'.cell? ⟨w.heap.size, 2, none⟩ = some (.slice none 0 0) ∧ w'.cell? ⟨w.heap.size + 1, 0, none⟩ = some (.int .i64 2) ∧ w'.cell? ⟨w.heap.size + 1, 1, none⟩ = some (.int .i64 0) ∧ w'.cell? ⟨w.heap.size + 1, 2, none⟩ = some (.slice none 0 0)) (ds := [6]) #[false, false, false, false, false, false, false] (by kernel_rfl) rfl rfl (six_ (HS.out.get (w.heap.size, #[.int .i64 4, .int .i64 0, .slice none 0 0]) (by simp)) (HS.out.get ((w.heap.size + 1), #[.int .i64 2, .int .i64 0, .slice none 0 0]) (by simp))) (fun hHeld => ?_); refine with_tabW knownW.tab2 knownW.bits2 (fun HT_ HW_ => ?_)
  have HS0 := Aside0.mk HS.out.drew
  clear HS
  generalize World.drew _ = wa at HS0 hHeld ⊢
  refine take_ (i := 0) (N := some 7) (v := ?_) (a' := ?_) #[true, false, false, false, false, false, false] rfl rfl (take_ofW HT_.out HW_.out (by kernel_rfl)) (fun _ _ _ h => h) (Or.inl ⟨by rfl, ?_⟩) hHeld ?_ ?_
  rotate_left
  · rintro w' ⟨s0, s1, s2, s3, s4, s5⟩
    go_simp
    with_reducible rfl
  rotate_left
  · simp only [Act.put, List.setIfInBounds_toArray, List.set_cons_zero, List.set_cons_succ, i64_w, i32_w]
    rfl
  refine take_ (i := 3) (N := some 10) (v := ?_) (a' := ?_) #[true, false, false, true, false, false, false] rfl rfl (take_ofW HT_.out HW_.out (by kernel_rfl)) (fun _ _ _ h => h) (Or.inl ⟨by rfl, ?_⟩) hHeld ?_ ?_
  rotate_left
  · rintro w' ⟨s0, s1, s2, s3, s4, s5⟩
    go_simp
    with_reducible rfl
  rotate_left
  · simp only [Act.put, List.setIfInBounds_toArray, List.set_cons_zero, List.set_cons_succ, i64_w, i32_w]
    rfl
  refine join_ (σ := Nat × Nat × Nat) 1 #[true, true, true, true, true, true, false] (fun (s_ : Nat × Nat × Nat) => [(8, .agg #[.int .i64 1, .int .i64 2, .slice none 0 0]), (9, .agg #[.int .i64 7, .int .i64 0, .slice (some ⟨s_.2.1, 0, none⟩) 2 2]), (11, .agg #[.int .i64 5, .int .i64 0, .slice (some ⟨s_.2.2, 0, none⟩) 2 2]), (3, .pointer (some ⟨s_.1, 0, none⟩))]) (fun (s_ : Nat × Nat × Nat) w' => St w w' [(s_.1, #[.int .i64 0, .int .i64 0, .slice none 0 0]), (s_.2.2, #[.int .i64 7, .int .i64 0, .slice (some ⟨s_.2.1, 0, none⟩) 2 2, .int .i64 4, .int .i64 0, .slice none 0 0]), (s_.2.1, #[.int .i64 2, .int .i64 0, .slice none 0 0, .int .i64 1, .int .i64 2, .slice none 0 0]), ((w.heap.size + 1), #[.int .i64 2, .int .i64 0, .slice none 0 0]), (w.heap.size, #[.int .i64 4, .int .i64 0, .slice none 0 0])]) ?_ (fun hJ3 => ?_)
  · rintro ⟨sa, gm, ga⟩ wb hF
    have HS := Aside0.mk hF
    clear hF HS0
    have hHeld : wb.cell? ⟨w.heap.size, 0, none⟩ = some (.int .i64 4) ∧ wb.cell? ⟨w.heap.size, 1, none⟩ = some (.int .i64 0) ∧ wb.cell? ⟨w.heap.size, 2, none⟩ = some (.slice none 0 0) ∧ wb.cell? ⟨w.heap.size + 1, 0, none⟩ = some (.int .i64 2) ∧ wb.cell? ⟨w.heap.size + 1, 1, none⟩ = some (.int .i64 0) ∧ wb.cell? ⟨w.heap.size + 1, 2, none⟩ = some (.slice none 0 0) := (six_ (HS.out.get (w.heap.size, #[.int .i64 4, .int .i64 0, .slice none 0 0]) (by simp)) (HS.out.get ((w.heap.size + 1), #[.int .i64 2, .int .i64 0, .slice none 0 0]) (by simp)))
    refine norm_ (a' := ?_) ?_ ?_
    rotate_left
    · simp only [putAll, Act.put, List.setIfInBounds_toArray, List.set_cons_zero, List.set_cons_succ, i64_w, i32_w]
      rfl
    have hc0 : wb.cell? ⟨sa, 0, none⟩ = some (.int .i64 0) := (blk_cell (HS.out.head) 0).trans rfl
    have hc1 : wb.cell? ⟨sa, 1, none⟩ = some (.int .i64 0) := (blk_cell (HS.out.head) 1).trans rfl
    have hc2 : wb.cell? ⟨sa, 2, none⟩ = some (.slice none 0 0) := (blk_cell (HS.out.head) 2).trans rfl
    have hz0 := blk_frozen (HS.out.head) 0
    have hz1 := blk_frozen (HS.out.head) 1
    have hz2 := blk_frozen (HS.out.head) 2
    refine last_ (i := 6) (N := none) #[true, true, true, true, true, true, true] rfl rfl (one_of HT_.out (by kernel_rfl)) (by decide) (fun K hK => ?_)
    refine skip_ (w1 := ?_) (by rfl) rfl ?_ ?_
    rotate_left
    · go_simp
      rfl
    refine hK.out _ _ ?_
    clear hK K
    refine done_ (done_of HT_.out (by kernel_rfl)) ?_
    have HSn := Aside0.mk (HS.out.store (.int .i64 5) (.int .i64 0) (.slice (some ⟨ga, 0, none⟩) 2 2))
    clear hc0 hc1 hc2 hz0 hz1 hz2 hHeld HS
    have HS := HSn
    clear HSn
    generalize ((wb.setCell ⟨sa, 0, none⟩ (.int .i64 5)).setCell ⟨sa, 1, none⟩ (.int .i64 0)).setCell ⟨sa, 2, none⟩ (.slice (some ⟨ga, 0, none⟩) 2 2) = wx at HS ⊢
    go_wp2_with fail
    refine start_ (n := 9) (S := fun w' => w'.cell? ⟨w.heap.size, 0, none⟩ = some (.int .i64 4) ∧ w'.cell? ⟨w.heap.size, 1, none⟩ = some (.int .i64 0) ∧ w'.cell? ⟨w.heap.size, 2, none⟩ = some (.slice none 0 0)) (ds := [8]) #[false, false, false, false, false, false, false, false, false] (by kernel_rfl) rfl rfl (three_c (HS.out.get (w.heap.size, #[.int .i64 4, .int .i64 0, .slice none 0 0]) (by simp))) (fun hHeld => ?_); refine with_tabW knownW.tab3 knownW.bits3 (fun HT_ HW_ => ?_)
    have HS0 := Aside0.mk HS.out.drew
    clear HS
    generalize World.drew _ = wa at HS0 hHeld ⊢
    refine take_ (i := 0) (N := some 12) (v := ?_) (a' := ?_) #[true, false, false, false, false, false, false, false, false] rfl rfl (take_ofW HT_.out HW_.out (by kernel_rfl)) (fun _ _ _ h => h) (Or.inl ⟨by rfl, ?_⟩) hHeld ?_ ?_
    rotate_left
    · rintro w' ⟨s0, s1, s2⟩
      go_simp
      with_reducible rfl
    rotate_left
    · simp only [Act.put, List.setIfInBounds_toArray, List.set_cons_zero, List.set_cons_succ, i64_w, i32_w]
      rfl
    refine join_ (σ := Nat × Nat × Nat) 1 #[true, true, true, true, true, true, true, true, false] (fun (s_ : Nat × Nat × Nat) => [(13, .agg #[.int .i64 1, .int .i64 0, .slice none 0 0]), (14, .agg #[.int .i64 12, .int .i64 0, .slice (some ⟨s_.2.1, 0, none⟩) 2 2]), (15, .agg #[.int .i64 1, .int .i64 (-1), .slice none 0 0]), (16, .agg #[.int .i64 1, .int .i64 1, .slice none 0 0]), (17, .slice (some ⟨s_.2.2, 0, none⟩) 3 3), (18, .agg #[.int .i64 14, .int .i64 0, .slice (some ⟨s_.2.2, 0, none⟩) 3 3]), (4, .pointer (some ⟨s_.1, 0, none⟩))]) (fun (s_ : Nat × Nat × Nat) w' => St w w' [(s_.1, #[.int .i64 0, .int .i64 0, .slice none 0 0]), (s_.2.2, #[.int .i64 12, .int .i64 0, .slice (some ⟨s_.2.1, 0, none⟩) 2 2, .int .i64 1, .int .i64 (-1), .slice none 0 0, .int .i64 1, .int .i64 1, .slice none 0 0]), (s_.2.1, #[.int .i64 4, .int .i64 0, .slice none 0 0, .int .i64 1, .int .i64 0, .slice none 0 0]), (sa, #[.int .i64 5, .int .i64 0, .slice (some ⟨ga, 0, none⟩) 2 2]), (ga, #[.int .i64 7, .int .i64 0, .slice (some ⟨gm, 0, none⟩) 2 2, .int .i64 4, .int .i64 0, .slice none 0 0]), (gm, #[.int .i64 2, .int .i64 0, .slice none 0 0, .int .i64 1, .int .i64 2, .slice none 0 0]), ((w.heap.size + 1), #[.int .i64 2, .int .i64 0, .slice none 0 0]), (w.heap.size, #[.int .i64 4, .int .i64 0, .slice none 0 0])]) ?_ (fun hJ6 => ?_)
    · rintro ⟨sb, gl, gi⟩ wb hF
      have HS := Aside0.mk hF
      clear hF HS0
      have hHeld : wb.cell? ⟨w.heap.size, 0, none⟩ = some (.int .i64 4) ∧ wb.cell? ⟨w.heap.size, 1, none⟩ = some (.int .i64 0) ∧ wb.cell? ⟨w.heap.size, 2, none⟩ = some (.slice none 0 0) := (three_c (HS.out.get (w.heap.size, #[.int .i64 4, .int .i64 0, .slice none 0 0]) (by simp)))
      refine norm_ (a' := ?_) ?_ ?_
      rotate_left
      · simp only [putAll, Act.put, List.setIfInBounds_toArray, List.set_cons_zero, List.set_cons_succ, i64_w, i32_w]
        rfl
      have hc0 : wb.cell? ⟨sb, 0, none⟩ = some (.int .i64 0) := (blk_cell (HS.out.head) 0).trans rfl
      have hc1 : wb.cell? ⟨sb, 1, none⟩ = some (.int .i64 0) := (blk_cell (HS.out.head) 1).trans rfl
      have hc2 : wb.cell? ⟨sb, 2, none⟩ = some (.slice none 0 0) := (blk_cell (HS.out.head) 2).trans rfl
      have hz0 := blk_frozen (HS.out.head) 0
      have hz1 := blk_frozen (HS.out.head) 1
      have hz2 := blk_frozen (HS.out.head) 2
      refine last_ (i := 8) (N := none) #[true, true, true, true, true, true, true, true, true] rfl rfl (one_of HT_.out (by kernel_rfl)) (by decide) (fun K hK => ?_)
      refine skip_ (w1 := ?_) (by rfl) rfl ?_ ?_
      rotate_left
      · go_simp
        rfl
      refine hK.out _ _ ?_
      clear hK K
      refine done_ (done_of HT_.out (by kernel_rfl)) ?_
      have HSn := Aside0.mk (HS.out.store (.int .i64 14) (.int .i64 0) (.slice (some ⟨gi, 0, none⟩) 3 3))
      clear hc0 hc1 hc2 hz0 hz1 hz2 hHeld HS
      have HS := HSn
      clear HSn
      generalize ((wb.setCell ⟨sb, 0, none⟩ (.int .i64 14)).setCell ⟨sb, 1, none⟩ (.int .i64 0)).setCell ⟨sb, 2, none⟩ (.slice (some ⟨gi, 0, none⟩) 3 3) = wx at HS ⊢
      have HK := Aside0.mk (KF.of HTB.out HS.out)
      clear HS HTB
      obtain ⟨ca0, ca1, ca2⟩ := HK.out.1
      obtain ⟨cb0, cb1, cb2⟩ := HK.out.2.1
      go_wp2_with fail
      refine (expr_Check.calls 40 5 0 (some ⟨ga, 0, none⟩) 2 LA 0 _ HK.out.2.2.1 (by decide) knA).mono ?_
      rintro e_ wn ⟨rfl, hb⟩
      clear ca0 ca1 ca2 cb0 cb1 cb2
      have HK' := Aside0.mk (HK.out.step hb)
      clear HK hb
      have HK := HK'
      clear HK'
      have ca0 := HK.out.1.1
      have ca1 := HK.out.1.2.1
      have ca2 := HK.out.1.2.2
      have cb0 := HK.out.2.1.1
      have cb1 := HK.out.2.1.2.1
      have cb2 := HK.out.2.1.2.2
      go_wp2_with fail
      refine (expr_Eval.calls 40 5 0 (some ⟨ga, 0, none⟩) 2 LA 3 0 4 10 _ HK.out.2.2.1 (by decide) knB).mono ?_
      rintro e_ wn ⟨rfl, hb⟩
      clear ca0 ca1 ca2 cb0 cb1 cb2
      have HK' := Aside0.mk (HK.out.step hb)
      clear HK hb
      have HK := HK'
      clear HK'
      have ca0 := HK.out.1.1
      have ca1 := HK.out.1.2.1
      have ca2 := HK.out.1.2.2
      have cb0 := HK.out.2.1.1
      have cb1 := HK.out.2.1.2.1
      have cb2 := HK.out.2.1.2.2
      go_wp2_with fail
      refine (expr_Text.calls 40 5 0 (some ⟨ga, 0, none⟩) 2 LA _ _ HK.out.2.2.2.2.1 HK.out.2.2.1 (by decide) knC).mono ?_
      rintro e_ wn ⟨rfl, hb⟩
      clear ca0 ca1 ca2 cb0 cb1 cb2
      have HK' := Aside0.mk (HK.out.step hb)
      clear HK hb
      have HK := HK'
      clear HK'
      have ca0 := HK.out.1.1
      have ca1 := HK.out.1.2.1
      have ca2 := HK.out.1.2.2
      have cb0 := HK.out.2.1.1
      have cb1 := HK.out.2.1.2.1
      have cb2 := HK.out.2.1.2.2
      go_wp2_with fail
      refine (expr_Text.calls 40 14 0 (some ⟨gi, 0, none⟩) 3 LB _ _ HK.out.2.2.2.2.1 HK.out.2.2.2.1 (by decide) knD).mono ?_
      rintro e_ wn ⟨rfl, hb⟩
      clear ca0 ca1 ca2 cb0 cb1 cb2
      have HK' := Aside0.mk (HK.out.step hb)
      clear HK hb
      have HK := HK'
      clear HK'
      have ca0 := HK.out.1.1
      have ca1 := HK.out.1.2.1
      have ca2 := HK.out.1.2.2
      have cb0 := HK.out.2.1.1
      have cb1 := HK.out.2.1.2.1
      have cb2 := HK.out.2.1.2.2
      go_wp2_with fail
      refine (expr_Eval.calls 40 14 0 (some ⟨gi, 0, none⟩) 3 LB 0 0 (-9) (-1) _ HK.out.2.2.2.1 (by decide) knE).mono ?_
      rintro e_ wn ⟨rfl, hb⟩
      clear ca0 ca1 ca2 cb0 cb1 cb2
      have HK' := Aside0.mk (HK.out.step hb)
      clear HK hb
      have HK := HK'
      clear HK'
      have ca0 := HK.out.1.1
      have ca1 := HK.out.1.2.1
      have ca2 := HK.out.1.2.2
      have cb0 := HK.out.2.1.1
      have cb1 := HK.out.2.1.2.1
      have cb2 := HK.out.2.1.2.2
      go_wp2_with fail
      refine (expr_Check.calls 40 0 0 none 0 [] 70 _ (nilC _) (by decide) knF).mono ?_
      rintro e_ wn ⟨rfl, hb⟩
      clear ca0 ca1 ca2 cb0 cb1 cb2
      have HK' := Aside0.mk (HK.out.step hb)
      clear HK hb
      have HK := HK'
      clear HK'
      have ca0 := HK.out.1.1
      have ca1 := HK.out.1.2.1
      have ca2 := HK.out.1.2.2
      have cb0 := HK.out.2.1.1
      have cb1 := HK.out.2.1.2.1
      have cb2 := HK.out.2.1.2.2
      go_wp2_with fail
      refine (two0 5 5 0 5 0 (.slice (some ⟨ga, 0, none⟩) 2 2) (.slice none 0 0) _).mono ?_
      rintro e_ wn ⟨gx, hge, rfl, hx, hb⟩
      clear ca0 ca1 ca2 cb0 cb1 cb2
      have HK' := Aside0.mk (HK.out.step hb)
      have HX := Aside0.mk hx
      clear hx hge
      clear HK hb
      have HK := HK'
      clear HK'
      have ca0 := HK.out.1.1
      have ca1 := HK.out.1.2.1
      have ca2 := HK.out.1.2.2
      have cb0 := HK.out.2.1.1
      have cb1 := HK.out.2.1.2.1
      have cb2 := HK.out.2.1.2.2
      go_wp2_with fail
      refine (expr_Check.calls 40 5 0 (some ⟨gx, 0, none⟩) 2 LX 70 _ (row2C HX.out rfl rfl HK.out.2.2.1 (nilC _)) (by decide) knG).mono ?_
      rintro e_ wn ⟨rfl, hb⟩
      clear ca0 ca1 ca2 cb0 cb1 cb2
      have HK' := Aside0.mk (HK.out.step hb)
      clear HK hb
      have HK := HK'
      clear HK'
      have ca0 := HK.out.1.1
      have ca1 := HK.out.1.2.1
      have ca2 := HK.out.1.2.2
      have cb0 := HK.out.2.1.1
      have cb1 := HK.out.2.1.2.1
      have cb2 := HK.out.2.1.2.2
      go_wp2_with fail
      go_ret
      exact ⟨rfl, HK.out.2.2.2.2.2⟩
    refine join_ (σ := Nat × Nat × Nat) 2 #[true, true, true, true, true, true, false, true, false] (fun (s_ : Nat × Nat × Nat) => [(13, .agg #[.int .i64 1, .int .i64 0, .slice none 0 0]), (14, .agg #[.int .i64 12, .int .i64 0, .slice (some ⟨s_.2.1, 0, none⟩) 2 2]), (15, .agg #[.int .i64 1, .int .i64 (-1), .slice none 0 0]), (16, .agg #[.int .i64 1, .int .i64 1, .slice none 0 0]), (17, .slice (some ⟨s_.2.2, 0, none⟩) 3 3), (4, .pointer (some ⟨s_.1, 0, none⟩))]) (fun (s_ : Nat × Nat × Nat) w' => St w w' [(s_.1, #[.int .i64 0, .int .i64 0, .slice none 0 0]), (s_.2.2, #[.int .i64 12, .int .i64 0, .slice (some ⟨s_.2.1, 0, none⟩) 2 2, .int .i64 1, .int .i64 (-1), .slice none 0 0, .int .i64 1, .int .i64 1, .slice none 0 0]), (s_.2.1, #[.int .i64 4, .int .i64 0, .slice none 0 0, .int .i64 1, .int .i64 0, .slice none 0 0]), (sa, #[.int .i64 5, .int .i64 0, .slice (some ⟨ga, 0, none⟩) 2 2]), (ga, #[.int .i64 7, .int .i64 0, .slice (some ⟨gm, 0, none⟩) 2 2, .int .i64 4, .int .i64 0, .slice none 0 0]), (gm, #[.int .i64 2, .int .i64 0, .slice none 0 0, .int .i64 1, .int .i64 2, .slice none 0 0]), ((w.heap.size + 1), #[.int .i64 2, .int .i64 0, .slice none 0 0]), (w.heap.size, #[.int .i64 4, .int .i64 0, .slice none 0 0])]) ?_ (fun hJ5 => ?_)
    · rintro ⟨sb, gl, gi⟩ wb hF
      have HS := Aside0.mk hF
      clear hF HS0
      have hHeld : wb.cell? ⟨w.heap.size, 0, none⟩ = some (.int .i64 4) ∧ wb.cell? ⟨w.heap.size, 1, none⟩ = some (.int .i64 0) ∧ wb.cell? ⟨w.heap.size, 2, none⟩ = some (.slice none 0 0) := (three_c (HS.out.get (w.heap.size, #[.int .i64 4, .int .i64 0, .slice none 0 0]) (by simp)))
      refine norm_ (a' := ?_) ?_ ?_
      rotate_left
      · simp only [putAll, Act.put, List.setIfInBounds_toArray, List.set_cons_zero, List.set_cons_succ, i64_w, i32_w]
        rfl
      refine pure_ (i := 6) (N := some 18) (v := ?_) (a' := ?_) #[true, true, true, true, true, true, true, true, false] rfl rfl (any_of HT_.out (by kernel_rfl)) (fun _ _ _ h => h) (Or.inl ⟨by rfl, ?_⟩) ?_ ?_
      rotate_left
      · intro w'
        go_simp
        with_reducible rfl
      rotate_left
      · simp only [Act.put, List.setIfInBounds_toArray, List.set_cons_zero, List.set_cons_succ, i64_w, i32_w]
        rfl
      exact norm_ (by first | (simp only [putAll, Act.put, List.setIfInBounds_toArray, List.set_cons_zero, List.set_cons_succ]; done) | (simp only [putAll, Act.put, List.setIfInBounds_toArray, List.set_cons_zero, List.set_cons_succ]; rfl)) (hJ6 (sb, gl, gi) _ HS.out)
    refine join_ (σ := Nat × Nat) 3 #[true, true, true, true, true, false, false, true, false] (fun (s_ : Nat × Nat) => [(13, .agg #[.int .i64 1, .int .i64 0, .slice none 0 0]), (14, .agg #[.int .i64 12, .int .i64 0, .slice (some ⟨s_.2, 0, none⟩) 2 2]), (15, .agg #[.int .i64 1, .int .i64 (-1), .slice none 0 0]), (16, .agg #[.int .i64 1, .int .i64 1, .slice none 0 0]), (4, .pointer (some ⟨s_.1, 0, none⟩))]) (fun (s_ : Nat × Nat) w' => St w w' [(s_.1, #[.int .i64 0, .int .i64 0, .slice none 0 0]), (s_.2, #[.int .i64 4, .int .i64 0, .slice none 0 0, .int .i64 1, .int .i64 0, .slice none 0 0]), (sa, #[.int .i64 5, .int .i64 0, .slice (some ⟨ga, 0, none⟩) 2 2]), (ga, #[.int .i64 7, .int .i64 0, .slice (some ⟨gm, 0, none⟩) 2 2, .int .i64 4, .int .i64 0, .slice none 0 0]), (gm, #[.int .i64 2, .int .i64 0, .slice none 0 0, .int .i64 1, .int .i64 2, .slice none 0 0]), ((w.heap.size + 1), #[.int .i64 2, .int .i64 0, .slice none 0 0]), (w.heap.size, #[.int .i64 4, .int .i64 0, .slice none 0 0])]) ?_ (fun hJ4 => ?_)
    · rintro ⟨sb, gl⟩ wb hF
      have HS := Aside0.mk hF
      clear hF HS0
      have hHeld : wb.cell? ⟨w.heap.size, 0, none⟩ = some (.int .i64 4) ∧ wb.cell? ⟨w.heap.size, 1, none⟩ = some (.int .i64 0) ∧ wb.cell? ⟨w.heap.size, 2, none⟩ = some (.slice none 0 0) := (three_c (HS.out.get (w.heap.size, #[.int .i64 4, .int .i64 0, .slice none 0 0]) (by simp)))
      refine norm_ (a' := ?_) ?_ ?_
      rotate_left
      · simp only [putAll, Act.put, List.setIfInBounds_toArray, List.set_cons_zero, List.set_cons_succ, i64_w, i32_w]
        rfl
      refine one_ (i := 5) (N := some 17) #[true, true, true, true, true, true, false, true, false] rfl rfl (one_of HT_.out (by kernel_rfl)) (by decide) (fun K hK => ?_)
      refine row_step ?hg (N := 17) ?hd (n := 3) (cs := #[.int .i64 12, .int .i64 0, .slice (some ⟨gl, 0, none⟩) 2 2, .int .i64 1, .int .i64 (-1), .slice none 0 0, .int .i64 1, .int .i64 1, .slice none 0 0]) (t := 24) ?hr ?_; (case hd => rfl); (case hg => rfl); (case hr => first | (go_simp; done) | (go_simp; rfl))
      intro gi hg wc hx hb
      have HS' := Aside0.mk (HS.out.grow hb (Nat.le_of_eq hg.symm) hx)
      clear hg
      clear HS
      have HS := HS'
      clear HS'
      replace HS := Aside0.mk HS.out.swap
      try clear hb
      try clear hx
      try clear hge
      refine hK.out _ _ (three_c (HS.out.get (w.heap.size, #[.int .i64 4, .int .i64 0, .slice none 0 0]) (by simp))) (fun hHeld => ?_)
      clear hK K
      refine norm_ (a' := ?_) ?_ ?_
      rotate_left
      · show Act.put _ (some 17) _ = _
        simp only [Act.put, List.setIfInBounds_toArray, List.set_cons_zero, List.set_cons_succ, i64_w, i32_w]
        rfl
      exact norm_ (by first | (simp only [putAll, Act.put, List.setIfInBounds_toArray, List.set_cons_zero, List.set_cons_succ]; done) | (simp only [putAll, Act.put, List.setIfInBounds_toArray, List.set_cons_zero, List.set_cons_succ]; rfl)) (hJ5 (sb, gl, gi) _ HS.out)
    refine join_ (σ := Nat × Nat) 4 #[true, true, true, true, false, false, false, true, false] (fun (s_ : Nat × Nat) => [(13, .agg #[.int .i64 1, .int .i64 0, .slice none 0 0]), (14, .agg #[.int .i64 12, .int .i64 0, .slice (some ⟨s_.2, 0, none⟩) 2 2]), (15, .agg #[.int .i64 1, .int .i64 (-1), .slice none 0 0]), (4, .pointer (some ⟨s_.1, 0, none⟩))]) (fun (s_ : Nat × Nat) w' => St w w' [(s_.1, #[.int .i64 0, .int .i64 0, .slice none 0 0]), (s_.2, #[.int .i64 4, .int .i64 0, .slice none 0 0, .int .i64 1, .int .i64 0, .slice none 0 0]), (sa, #[.int .i64 5, .int .i64 0, .slice (some ⟨ga, 0, none⟩) 2 2]), (ga, #[.int .i64 7, .int .i64 0, .slice (some ⟨gm, 0, none⟩) 2 2, .int .i64 4, .int .i64 0, .slice none 0 0]), (gm, #[.int .i64 2, .int .i64 0, .slice none 0 0, .int .i64 1, .int .i64 2, .slice none 0 0]), ((w.heap.size + 1), #[.int .i64 2, .int .i64 0, .slice none 0 0]), (w.heap.size, #[.int .i64 4, .int .i64 0, .slice none 0 0])]) ?_ (fun hJ3 => ?_)
    · rintro ⟨sb, gl⟩ wb hF
      have HS := Aside0.mk hF
      clear hF HS0
      have hHeld : wb.cell? ⟨w.heap.size, 0, none⟩ = some (.int .i64 4) ∧ wb.cell? ⟨w.heap.size, 1, none⟩ = some (.int .i64 0) ∧ wb.cell? ⟨w.heap.size, 2, none⟩ = some (.slice none 0 0) := (three_c (HS.out.get (w.heap.size, #[.int .i64 4, .int .i64 0, .slice none 0 0]) (by simp)))
      refine norm_ (a' := ?_) ?_ ?_
      rotate_left
      · simp only [putAll, Act.put, List.setIfInBounds_toArray, List.set_cons_zero, List.set_cons_succ, i64_w, i32_w]
        rfl
      refine one_ (i := 4) (N := some 16) #[true, true, true, true, true, false, false, true, false] rfl rfl (one_of HT_.out (by kernel_rfl)) (by decide) (fun K hK => ?_)
      refine goes_ Tryd.func19 (by kernel_rfl) rfl #[.int .i64 1] (by rfl) rfl rfl (by (try simp only [List.map_toArray, List.map_cons, List.map_nil]); first | done | rfl) ?_
      refine (konst0 1 _).mono ?_
      rintro e_ wc ⟨rfl, hb⟩
      refine ⟨_, rfl, ?_⟩
      have HS' := Aside0.mk (HS.out.step hb)
      clear HS
      have HS := HS'
      clear HS'
      try clear hb
      try clear hx
      try clear hge
      refine hK.out _ _ (three_c (HS.out.get (w.heap.size, #[.int .i64 4, .int .i64 0, .slice none 0 0]) (by simp))) (fun hHeld => ?_)
      clear hK K
      refine norm_ (a' := ?_) ?_ ?_
      rotate_left
      · show Act.put _ (some 16) _ = _
        simp only [Act.put, List.setIfInBounds_toArray, List.set_cons_zero, List.set_cons_succ, i64_w, i32_w]
        rfl
      exact norm_ (by first | (simp only [putAll, Act.put, List.setIfInBounds_toArray, List.set_cons_zero, List.set_cons_succ]; done) | (simp only [putAll, Act.put, List.setIfInBounds_toArray, List.set_cons_zero, List.set_cons_succ]; rfl)) (hJ4 (sb, gl) _ HS.out)
    refine join_ (σ := Nat × Nat) 5 #[true, true, true, false, false, false, false, true, false] (fun (s_ : Nat × Nat) => [(13, .agg #[.int .i64 1, .int .i64 0, .slice none 0 0]), (14, .agg #[.int .i64 12, .int .i64 0, .slice (some ⟨s_.2, 0, none⟩) 2 2]), (4, .pointer (some ⟨s_.1, 0, none⟩))]) (fun (s_ : Nat × Nat) w' => St w w' [(s_.1, #[.int .i64 0, .int .i64 0, .slice none 0 0]), (s_.2, #[.int .i64 4, .int .i64 0, .slice none 0 0, .int .i64 1, .int .i64 0, .slice none 0 0]), (sa, #[.int .i64 5, .int .i64 0, .slice (some ⟨ga, 0, none⟩) 2 2]), (ga, #[.int .i64 7, .int .i64 0, .slice (some ⟨gm, 0, none⟩) 2 2, .int .i64 4, .int .i64 0, .slice none 0 0]), (gm, #[.int .i64 2, .int .i64 0, .slice none 0 0, .int .i64 1, .int .i64 2, .slice none 0 0]), ((w.heap.size + 1), #[.int .i64 2, .int .i64 0, .slice none 0 0]), (w.heap.size, #[.int .i64 4, .int .i64 0, .slice none 0 0])]) ?_ (fun hJ2 => ?_)
    · rintro ⟨sb, gl⟩ wb hF
      have HS := Aside0.mk hF
      clear hF HS0
      have hHeld : wb.cell? ⟨w.heap.size, 0, none⟩ = some (.int .i64 4) ∧ wb.cell? ⟨w.heap.size, 1, none⟩ = some (.int .i64 0) ∧ wb.cell? ⟨w.heap.size, 2, none⟩ = some (.slice none 0 0) := (three_c (HS.out.get (w.heap.size, #[.int .i64 4, .int .i64 0, .slice none 0 0]) (by simp)))
      refine norm_ (a' := ?_) ?_ ?_
      rotate_left
      · simp only [putAll, Act.put, List.setIfInBounds_toArray, List.set_cons_zero, List.set_cons_succ, i64_w, i32_w]
        rfl
      refine one_ (i := 3) (N := some 15) #[true, true, true, true, false, false, false, true, false] rfl rfl (one_of HT_.out (by kernel_rfl)) (by decide) (fun K hK => ?_)
      refine goes_ Tryd.func19 (by kernel_rfl) rfl #[.int .i64 (-1)] (by rfl) rfl rfl (by (try simp only [List.map_toArray, List.map_cons, List.map_nil]); first | done | rfl) ?_
      refine (konst0 (-1) _).mono ?_
      rintro e_ wc ⟨rfl, hb⟩
      refine ⟨_, rfl, ?_⟩
      have HS' := Aside0.mk (HS.out.step hb)
      clear HS
      have HS := HS'
      clear HS'
      try clear hb
      try clear hx
      try clear hge
      refine hK.out _ _ (three_c (HS.out.get (w.heap.size, #[.int .i64 4, .int .i64 0, .slice none 0 0]) (by simp))) (fun hHeld => ?_)
      clear hK K
      refine norm_ (a' := ?_) ?_ ?_
      rotate_left
      · show Act.put _ (some 15) _ = _
        simp only [Act.put, List.setIfInBounds_toArray, List.set_cons_zero, List.set_cons_succ, i64_w, i32_w]
        rfl
      exact norm_ (by first | (simp only [putAll, Act.put, List.setIfInBounds_toArray, List.set_cons_zero, List.set_cons_succ]; done) | (simp only [putAll, Act.put, List.setIfInBounds_toArray, List.set_cons_zero, List.set_cons_succ]; rfl)) (hJ3 (sb, gl) _ HS.out)
    refine join_ (σ := Nat) 6 #[true, true, false, false, false, false, false, true, false] (fun (s_ : Nat) => [(13, .agg #[.int .i64 1, .int .i64 0, .slice none 0 0]), (4, .pointer (some ⟨s_, 0, none⟩))]) (fun (s_ : Nat) w' => St w w' [(s_, #[.int .i64 0, .int .i64 0, .slice none 0 0]), (sa, #[.int .i64 5, .int .i64 0, .slice (some ⟨ga, 0, none⟩) 2 2]), (ga, #[.int .i64 7, .int .i64 0, .slice (some ⟨gm, 0, none⟩) 2 2, .int .i64 4, .int .i64 0, .slice none 0 0]), (gm, #[.int .i64 2, .int .i64 0, .slice none 0 0, .int .i64 1, .int .i64 2, .slice none 0 0]), ((w.heap.size + 1), #[.int .i64 2, .int .i64 0, .slice none 0 0]), (w.heap.size, #[.int .i64 4, .int .i64 0, .slice none 0 0])]) ?_ (fun hJ1 => ?_)
    · rintro sb wb hF
      have HS := Aside0.mk hF
      clear hF HS0
      have hHeld : wb.cell? ⟨w.heap.size, 0, none⟩ = some (.int .i64 4) ∧ wb.cell? ⟨w.heap.size, 1, none⟩ = some (.int .i64 0) ∧ wb.cell? ⟨w.heap.size, 2, none⟩ = some (.slice none 0 0) := (three_c (HS.out.get (w.heap.size, #[.int .i64 4, .int .i64 0, .slice none 0 0]) (by simp)))
      refine norm_ (a' := ?_) ?_ ?_
      rotate_left
      · simp only [putAll, Act.put, List.setIfInBounds_toArray, List.set_cons_zero, List.set_cons_succ, i64_w, i32_w]
        rfl
      refine one_ (i := 2) (N := some 14) #[true, true, true, false, false, false, false, true, false] rfl rfl (one_of HT_.out (by kernel_rfl)) (by decide) (fun K hK => ?_)
      refine goes_ Tryd.func17 (by kernel_rfl) rfl #[.int .i64 12, .agg #[.int .i64 4, .int .i64 0, .slice none 0 0], .agg #[.int .i64 1, .int .i64 0, .slice none 0 0]] (by rfl) rfl rfl (by (try simp only [List.map_toArray, List.map_cons, List.map_nil]); first | done | rfl) ?_
      refine (two0 12 4 0 1 0 (.slice none 0 0) (.slice none 0 0) _).mono ?_
      rintro e_ wc ⟨gl, hge, rfl, hx, hb⟩
      refine ⟨_, rfl, ?_⟩
      have HS' := Aside0.mk (HS.out.grow hb hge hx)
      clear HS
      have HS := HS'
      clear HS'
      replace HS := Aside0.mk HS.out.swap
      try clear hb
      try clear hx
      try clear hge
      refine hK.out _ _ (three_c (HS.out.get (w.heap.size, #[.int .i64 4, .int .i64 0, .slice none 0 0]) (by simp))) (fun hHeld => ?_)
      clear hK K
      refine norm_ (a' := ?_) ?_ ?_
      rotate_left
      · show Act.put _ (some 14) _ = _
        simp only [Act.put, List.setIfInBounds_toArray, List.set_cons_zero, List.set_cons_succ, i64_w, i32_w]
        rfl
      exact norm_ (by first | (simp only [putAll, Act.put, List.setIfInBounds_toArray, List.set_cons_zero, List.set_cons_succ]; done) | (simp only [putAll, Act.put, List.setIfInBounds_toArray, List.set_cons_zero, List.set_cons_succ]; rfl)) (hJ2 (sb, gl) _ HS.out)
    refine join_ (σ := Nat) 7 #[true, false, false, false, false, false, false, true, false] (fun (s_ : Nat) => [(4, .pointer (some ⟨s_, 0, none⟩))]) (fun (s_ : Nat) w' => St w w' [(s_, #[.int .i64 0, .int .i64 0, .slice none 0 0]), (sa, #[.int .i64 5, .int .i64 0, .slice (some ⟨ga, 0, none⟩) 2 2]), (ga, #[.int .i64 7, .int .i64 0, .slice (some ⟨gm, 0, none⟩) 2 2, .int .i64 4, .int .i64 0, .slice none 0 0]), (gm, #[.int .i64 2, .int .i64 0, .slice none 0 0, .int .i64 1, .int .i64 2, .slice none 0 0]), ((w.heap.size + 1), #[.int .i64 2, .int .i64 0, .slice none 0 0]), (w.heap.size, #[.int .i64 4, .int .i64 0, .slice none 0 0])]) ?_ (fun hJ0 => ?_)
    · rintro sb wb hF
      have HS := Aside0.mk hF
      clear hF HS0
      have hHeld : wb.cell? ⟨w.heap.size, 0, none⟩ = some (.int .i64 4) ∧ wb.cell? ⟨w.heap.size, 1, none⟩ = some (.int .i64 0) ∧ wb.cell? ⟨w.heap.size, 2, none⟩ = some (.slice none 0 0) := (three_c (HS.out.get (w.heap.size, #[.int .i64 4, .int .i64 0, .slice none 0 0]) (by simp)))
      refine norm_ (a' := ?_) ?_ ?_
      rotate_left
      · simp only [putAll, Act.put, List.setIfInBounds_toArray, List.set_cons_zero, List.set_cons_succ, i64_w, i32_w]
        rfl
      refine one_ (i := 1) (N := some 13) #[true, true, false, false, false, false, false, true, false] rfl rfl (one_of HT_.out (by kernel_rfl)) (by decide) (fun K hK => ?_)
      refine goes_ Tryd.func19 (by kernel_rfl) rfl #[.int .i64 0] (by rfl) rfl rfl (by (try simp only [List.map_toArray, List.map_cons, List.map_nil]); first | done | rfl) ?_
      refine (konst0 0 _).mono ?_
      rintro e_ wc ⟨rfl, hb⟩
      refine ⟨_, rfl, ?_⟩
      have HS' := Aside0.mk (HS.out.step hb)
      clear HS
      have HS := HS'
      clear HS'
      try clear hb
      try clear hx
      try clear hge
      refine hK.out _ _ (three_c (HS.out.get (w.heap.size, #[.int .i64 4, .int .i64 0, .slice none 0 0]) (by simp))) (fun hHeld => ?_)
      clear hK K
      refine norm_ (a' := ?_) ?_ ?_
      rotate_left
      · show Act.put _ (some 13) _ = _
        simp only [Act.put, List.setIfInBounds_toArray, List.set_cons_zero, List.set_cons_succ, i64_w, i32_w]
        rfl
      exact norm_ (by first | (simp only [putAll, Act.put, List.setIfInBounds_toArray, List.set_cons_zero, List.set_cons_succ]; done) | (simp only [putAll, Act.put, List.setIfInBounds_toArray, List.set_cons_zero, List.set_cons_succ]; rfl)) (hJ1 (sb) _ HS.out)
    have HS := HS0
    clear HS0
    refine two_ (i := 1) (j := 7) (Ni := some 13) (Nj := some 4) #[true, true, false, false, false, false, false, false, false] #[true, false, false, false, false, false, false, true, false] rfl rfl rfl rfl (two_of HT_.out (by kernel_rfl)) (by decide) (by decide) (fun K hK => ?_) (fun K hK => ?_)
    rotate_left
    · skip
      refine box_step ?hg (N := 4) ?hd (cs := #[.int .i64 0, .int .i64 0, .slice none 0 0]) (t := 24) ?hr ?_; (case hd => rfl); (case hg => rfl); (case hr => first | (go_simp; done) | (go_simp; rfl))
      intro sb hg wd0 hx hb
      have HS' := Aside0.mk (HS.out.grow hb (Nat.le_of_eq hg.symm) hx)
      clear HS
      have HS := HS'
      clear HS' hb hx hg
      refine hK.out _ _ (three_c (HS.out.get (w.heap.size, #[.int .i64 4, .int .i64 0, .slice none 0 0]) (by simp))) (fun hHeld => ?_)
      clear hK K
      refine norm_ (a' := ?_) ?_ ?_
      rotate_left
      · show Act.put _ (some 4) _ = _
        simp only [Act.put, List.setIfInBounds_toArray, List.set_cons_zero, List.set_cons_succ, i64_w, i32_w]
        rfl
      exact norm_ (by first | (simp only [putAll, Act.put, List.setIfInBounds_toArray, List.set_cons_zero, List.set_cons_succ]; done) | (simp only [putAll, Act.put, List.setIfInBounds_toArray, List.set_cons_zero, List.set_cons_succ]; rfl)) (hJ0 (sb) _ HS.out)
    refine goes_ Tryd.func19 (by kernel_rfl) rfl #[.int .i64 0] (by rfl) rfl rfl (by (try simp only [List.map_toArray, List.map_cons, List.map_nil]); first | done | rfl) ?_
    refine (konst0 0 _).mono ?_
    rintro e_ we0 ⟨rfl, hb⟩
    refine ⟨_, rfl, ?_⟩
    have HS' := Aside0.mk (HS.out.step hb)
    clear HS
    have HS := HS'
    clear HS'
    try clear hb
    try clear hx
    try clear hge
    refine hK.out _ _ (three_c (HS.out.get (w.heap.size, #[.int .i64 4, .int .i64 0, .slice none 0 0]) (by simp))) (fun hHeld => ?_)
    clear hK K
    refine norm_ (a' := ?_) ?_ ?_
    rotate_left
    · show Act.put _ (some 13) _ = _
      simp only [Act.put, List.setIfInBounds_toArray, List.set_cons_zero, List.set_cons_succ, i64_w, i32_w]
      rfl
    refine two_ (i := 2) (j := 7) (Ni := some 14) (Nj := some 4) #[true, true, true, false, false, false, false, false, false] #[true, true, false, false, false, false, false, true, false] rfl rfl rfl rfl (two_of HT_.out (by kernel_rfl)) (by decide) (by decide) (fun K hK => ?_) (fun K hK => ?_)
    rotate_left
    · skip
      refine box_step ?hg (N := 4) ?hd (cs := #[.int .i64 0, .int .i64 0, .slice none 0 0]) (t := 24) ?hr ?_; (case hd => rfl); (case hg => rfl); (case hr => first | (go_simp; done) | (go_simp; rfl))
      intro sb hg wd1 hx hb
      have HS' := Aside0.mk (HS.out.grow hb (Nat.le_of_eq hg.symm) hx)
      clear HS
      have HS := HS'
      clear HS' hb hx hg
      refine hK.out _ _ (three_c (HS.out.get (w.heap.size, #[.int .i64 4, .int .i64 0, .slice none 0 0]) (by simp))) (fun hHeld => ?_)
      clear hK K
      refine norm_ (a' := ?_) ?_ ?_
      rotate_left
      · show Act.put _ (some 4) _ = _
        simp only [Act.put, List.setIfInBounds_toArray, List.set_cons_zero, List.set_cons_succ, i64_w, i32_w]
        rfl
      exact norm_ (by first | (simp only [putAll, Act.put, List.setIfInBounds_toArray, List.set_cons_zero, List.set_cons_succ]; done) | (simp only [putAll, Act.put, List.setIfInBounds_toArray, List.set_cons_zero, List.set_cons_succ]; rfl)) (hJ1 (sb) _ HS.out)
    refine goes_ Tryd.func17 (by kernel_rfl) rfl #[.int .i64 12, .agg #[.int .i64 4, .int .i64 0, .slice none 0 0], .agg #[.int .i64 1, .int .i64 0, .slice none 0 0]] (by rfl) rfl rfl (by (try simp only [List.map_toArray, List.map_cons, List.map_nil]); first | done | rfl) ?_
    refine (two0 12 4 0 1 0 (.slice none 0 0) (.slice none 0 0) _).mono ?_
    rintro e_ we1 ⟨gl, hge, rfl, hx, hb⟩
    refine ⟨_, rfl, ?_⟩
    have HS' := Aside0.mk (HS.out.grow hb hge hx)
    clear HS
    have HS := HS'
    clear HS'
    try clear hb
    try clear hx
    try clear hge
    refine hK.out _ _ (three_c (HS.out.get (w.heap.size, #[.int .i64 4, .int .i64 0, .slice none 0 0]) (by simp))) (fun hHeld => ?_)
    clear hK K
    refine norm_ (a' := ?_) ?_ ?_
    rotate_left
    · show Act.put _ (some 14) _ = _
      simp only [Act.put, List.setIfInBounds_toArray, List.set_cons_zero, List.set_cons_succ, i64_w, i32_w]
      rfl
    refine two_ (i := 3) (j := 7) (Ni := some 15) (Nj := some 4) #[true, true, true, true, false, false, false, false, false] #[true, true, true, false, false, false, false, true, false] rfl rfl rfl rfl (two_of HT_.out (by kernel_rfl)) (by decide) (by decide) (fun K hK => ?_) (fun K hK => ?_)
    rotate_left
    · skip
      refine box_step ?hg (N := 4) ?hd (cs := #[.int .i64 0, .int .i64 0, .slice none 0 0]) (t := 24) ?hr ?_; (case hd => rfl); (case hg => rfl); (case hr => first | (go_simp; done) | (go_simp; rfl))
      intro sb hg wd2 hx hb
      have HS' := Aside0.mk (HS.out.grow hb (Nat.le_of_eq hg.symm) hx)
      clear HS
      have HS := HS'
      clear HS' hb hx hg
      refine hK.out _ _ (three_c (HS.out.get (w.heap.size, #[.int .i64 4, .int .i64 0, .slice none 0 0]) (by simp))) (fun hHeld => ?_)
      clear hK K
      refine norm_ (a' := ?_) ?_ ?_
      rotate_left
      · show Act.put _ (some 4) _ = _
        simp only [Act.put, List.setIfInBounds_toArray, List.set_cons_zero, List.set_cons_succ, i64_w, i32_w]
        rfl
      exact norm_ (by first | (simp only [putAll, Act.put, List.setIfInBounds_toArray, List.set_cons_zero, List.set_cons_succ]; done) | (simp only [putAll, Act.put, List.setIfInBounds_toArray, List.set_cons_zero, List.set_cons_succ]; rfl)) (hJ2 (sb, gl) _ HS.out)
    refine goes_ Tryd.func19 (by kernel_rfl) rfl #[.int .i64 (-1)] (by rfl) rfl rfl (by (try simp only [List.map_toArray, List.map_cons, List.map_nil]); first | done | rfl) ?_
    refine (konst0 (-1) _).mono ?_
    rintro e_ we2 ⟨rfl, hb⟩
    refine ⟨_, rfl, ?_⟩
    have HS' := Aside0.mk (HS.out.step hb)
    clear HS
    have HS := HS'
    clear HS'
    try clear hb
    try clear hx
    try clear hge
    refine hK.out _ _ (three_c (HS.out.get (w.heap.size, #[.int .i64 4, .int .i64 0, .slice none 0 0]) (by simp))) (fun hHeld => ?_)
    clear hK K
    refine norm_ (a' := ?_) ?_ ?_
    rotate_left
    · show Act.put _ (some 15) _ = _
      simp only [Act.put, List.setIfInBounds_toArray, List.set_cons_zero, List.set_cons_succ, i64_w, i32_w]
      rfl
    refine two_ (i := 4) (j := 7) (Ni := some 16) (Nj := some 4) #[true, true, true, true, true, false, false, false, false] #[true, true, true, true, false, false, false, true, false] rfl rfl rfl rfl (two_of HT_.out (by kernel_rfl)) (by decide) (by decide) (fun K hK => ?_) (fun K hK => ?_)
    rotate_left
    · skip
      refine box_step ?hg (N := 4) ?hd (cs := #[.int .i64 0, .int .i64 0, .slice none 0 0]) (t := 24) ?hr ?_; (case hd => rfl); (case hg => rfl); (case hr => first | (go_simp; done) | (go_simp; rfl))
      intro sb hg wd3 hx hb
      have HS' := Aside0.mk (HS.out.grow hb (Nat.le_of_eq hg.symm) hx)
      clear HS
      have HS := HS'
      clear HS' hb hx hg
      refine hK.out _ _ (three_c (HS.out.get (w.heap.size, #[.int .i64 4, .int .i64 0, .slice none 0 0]) (by simp))) (fun hHeld => ?_)
      clear hK K
      refine norm_ (a' := ?_) ?_ ?_
      rotate_left
      · show Act.put _ (some 4) _ = _
        simp only [Act.put, List.setIfInBounds_toArray, List.set_cons_zero, List.set_cons_succ, i64_w, i32_w]
        rfl
      exact norm_ (by first | (simp only [putAll, Act.put, List.setIfInBounds_toArray, List.set_cons_zero, List.set_cons_succ]; done) | (simp only [putAll, Act.put, List.setIfInBounds_toArray, List.set_cons_zero, List.set_cons_succ]; rfl)) (hJ3 (sb, gl) _ HS.out)
    refine goes_ Tryd.func19 (by kernel_rfl) rfl #[.int .i64 1] (by rfl) rfl rfl (by (try simp only [List.map_toArray, List.map_cons, List.map_nil]); first | done | rfl) ?_
    refine (konst0 1 _).mono ?_
    rintro e_ we3 ⟨rfl, hb⟩
    refine ⟨_, rfl, ?_⟩
    have HS' := Aside0.mk (HS.out.step hb)
    clear HS
    have HS := HS'
    clear HS'
    try clear hb
    try clear hx
    try clear hge
    refine hK.out _ _ (three_c (HS.out.get (w.heap.size, #[.int .i64 4, .int .i64 0, .slice none 0 0]) (by simp))) (fun hHeld => ?_)
    clear hK K
    refine norm_ (a' := ?_) ?_ ?_
    rotate_left
    · show Act.put _ (some 16) _ = _
      simp only [Act.put, List.setIfInBounds_toArray, List.set_cons_zero, List.set_cons_succ, i64_w, i32_w]
      rfl
    refine two_ (i := 5) (j := 7) (Ni := some 17) (Nj := some 4) #[true, true, true, true, true, true, false, false, false] #[true, true, true, true, true, false, false, true, false] rfl rfl rfl rfl (two_of HT_.out (by kernel_rfl)) (by decide) (by decide) (fun K hK => ?_) (fun K hK => ?_)
    rotate_left
    · skip
      refine box_step ?hg (N := 4) ?hd (cs := #[.int .i64 0, .int .i64 0, .slice none 0 0]) (t := 24) ?hr ?_; (case hd => rfl); (case hg => rfl); (case hr => first | (go_simp; done) | (go_simp; rfl))
      intro sb hg wd4 hx hb
      have HS' := Aside0.mk (HS.out.grow hb (Nat.le_of_eq hg.symm) hx)
      clear HS
      have HS := HS'
      clear HS' hb hx hg
      refine hK.out _ _ (three_c (HS.out.get (w.heap.size, #[.int .i64 4, .int .i64 0, .slice none 0 0]) (by simp))) (fun hHeld => ?_)
      clear hK K
      refine norm_ (a' := ?_) ?_ ?_
      rotate_left
      · show Act.put _ (some 4) _ = _
        simp only [Act.put, List.setIfInBounds_toArray, List.set_cons_zero, List.set_cons_succ, i64_w, i32_w]
        rfl
      exact norm_ (by first | (simp only [putAll, Act.put, List.setIfInBounds_toArray, List.set_cons_zero, List.set_cons_succ]; done) | (simp only [putAll, Act.put, List.setIfInBounds_toArray, List.set_cons_zero, List.set_cons_succ]; rfl)) (hJ4 (sb, gl) _ HS.out)
    refine row_step ?hg (N := 17) ?hd (n := 3) (cs := #[.int .i64 12, .int .i64 0, .slice (some ⟨gl, 0, none⟩) 2 2, .int .i64 1, .int .i64 (-1), .slice none 0 0, .int .i64 1, .int .i64 1, .slice none 0 0]) (t := 24) ?hr ?_; (case hd => rfl); (case hg => rfl); (case hr => first | (go_simp; done) | (go_simp; rfl))
    intro gi hg we4 hx hb
    have HS' := Aside0.mk (HS.out.grow hb (Nat.le_of_eq hg.symm) hx)
    clear hg
    clear HS
    have HS := HS'
    clear HS'
    try clear hb
    try clear hx
    try clear hge
    refine hK.out _ _ (three_c (HS.out.get (w.heap.size, #[.int .i64 4, .int .i64 0, .slice none 0 0]) (by simp))) (fun hHeld => ?_)
    clear hK K
    refine norm_ (a' := ?_) ?_ ?_
    rotate_left
    · show Act.put _ (some 17) _ = _
      simp only [Act.put, List.setIfInBounds_toArray, List.set_cons_zero, List.set_cons_succ, i64_w, i32_w]
      rfl
    refine pure_ (i := 6) (N := some 18) (v := ?_) (a' := ?_) #[true, true, true, true, true, true, true, false, false] rfl rfl (any_of HT_.out (by kernel_rfl)) (fun _ _ _ h => h) (Or.inl ⟨by rfl, ?_⟩) ?_ ?_
    rotate_left
    · intro w'
      go_simp
      with_reducible rfl
    rotate_left
    · simp only [Act.put, List.setIfInBounds_toArray, List.set_cons_zero, List.set_cons_succ, i64_w, i32_w]
      rfl
    refine one_ (i := 7) (N := some 4) #[true, true, true, true, true, true, true, true, false] rfl rfl (one_of HT_.out (by kernel_rfl)) (by decide) (fun K hK => ?_)
    refine box_step ?hg (N := 4) ?hd (cs := #[.int .i64 0, .int .i64 0, .slice none 0 0]) (t := 24) ?hr ?_; (case hd => rfl); (case hg => rfl); (case hr => first | (go_simp; done) | (go_simp; rfl))
    intro sb hg wf hx hb
    have HS' := Aside0.mk (HS.out.grow hb (Nat.le_of_eq hg.symm) hx)
    clear HS
    have HS := HS'
    clear HS' hb hx hg
    refine hK.out _ _ (three_c (HS.out.get (w.heap.size, #[.int .i64 4, .int .i64 0, .slice none 0 0]) (by simp))) (fun hHeld => ?_)
    clear hK K
    refine norm_ (a' := ?_) ?_ ?_
    rotate_left
    · show Act.put _ (some 4) _ = _
      simp only [Act.put, List.setIfInBounds_toArray, List.set_cons_zero, List.set_cons_succ, i64_w, i32_w]
      rfl
    exact norm_ (by first | (simp only [putAll, Act.put, List.setIfInBounds_toArray, List.set_cons_zero, List.set_cons_succ]; done) | (simp only [putAll, Act.put, List.setIfInBounds_toArray, List.set_cons_zero, List.set_cons_succ]; rfl)) (hJ6 (sb, gl, gi) _ HS.out)
  refine join_ (σ := Nat × Nat) 2 #[true, true, true, true, false, true, false] (fun (s_ : Nat × Nat) => [(8, .agg #[.int .i64 1, .int .i64 2, .slice none 0 0]), (9, .agg #[.int .i64 7, .int .i64 0, .slice (some ⟨s_.2, 0, none⟩) 2 2]), (3, .pointer (some ⟨s_.1, 0, none⟩))]) (fun (s_ : Nat × Nat) w' => St w w' [(s_.1, #[.int .i64 0, .int .i64 0, .slice none 0 0]), (s_.2, #[.int .i64 2, .int .i64 0, .slice none 0 0, .int .i64 1, .int .i64 2, .slice none 0 0]), ((w.heap.size + 1), #[.int .i64 2, .int .i64 0, .slice none 0 0]), (w.heap.size, #[.int .i64 4, .int .i64 0, .slice none 0 0])]) ?_ (fun hJ2 => ?_)
  · rintro ⟨sa, gm⟩ wb hF
    have HS := Aside0.mk hF
    clear hF HS0
    have hHeld : wb.cell? ⟨w.heap.size, 0, none⟩ = some (.int .i64 4) ∧ wb.cell? ⟨w.heap.size, 1, none⟩ = some (.int .i64 0) ∧ wb.cell? ⟨w.heap.size, 2, none⟩ = some (.slice none 0 0) ∧ wb.cell? ⟨w.heap.size + 1, 0, none⟩ = some (.int .i64 2) ∧ wb.cell? ⟨w.heap.size + 1, 1, none⟩ = some (.int .i64 0) ∧ wb.cell? ⟨w.heap.size + 1, 2, none⟩ = some (.slice none 0 0) := (six_ (HS.out.get (w.heap.size, #[.int .i64 4, .int .i64 0, .slice none 0 0]) (by simp)) (HS.out.get ((w.heap.size + 1), #[.int .i64 2, .int .i64 0, .slice none 0 0]) (by simp)))
    refine norm_ (a' := ?_) ?_ ?_
    rotate_left
    · simp only [putAll, Act.put, List.setIfInBounds_toArray, List.set_cons_zero, List.set_cons_succ, i64_w, i32_w]
      rfl
    refine one_ (i := 4) (N := some 11) #[true, true, true, true, true, true, false] rfl rfl (one_of HT_.out (by kernel_rfl)) (by decide) (fun K hK => ?_)
    refine goes_ Tryd.func17 (by kernel_rfl) rfl #[.int .i64 5, .agg #[.int .i64 7, .int .i64 0, .slice (some ⟨gm, 0, none⟩) 2 2], .agg #[.int .i64 4, .int .i64 0, .slice none 0 0]] (by rfl) rfl rfl (by (try simp only [List.map_toArray, List.map_cons, List.map_nil]); first | done | rfl) ?_
    refine (two0 5 7 0 4 0 (.slice (some ⟨gm, 0, none⟩) 2 2) (.slice none 0 0) _).mono ?_
    rintro e_ wc ⟨ga, hge, rfl, hx, hb⟩
    refine ⟨_, rfl, ?_⟩
    have HS' := Aside0.mk (HS.out.grow hb hge hx)
    clear HS
    have HS := HS'
    clear HS'
    replace HS := Aside0.mk HS.out.swap
    try clear hb
    try clear hx
    try clear hge
    refine hK.out _ _ (six_ (HS.out.get (w.heap.size, #[.int .i64 4, .int .i64 0, .slice none 0 0]) (by simp)) (HS.out.get ((w.heap.size + 1), #[.int .i64 2, .int .i64 0, .slice none 0 0]) (by simp))) (fun hHeld => ?_)
    clear hK K
    refine norm_ (a' := ?_) ?_ ?_
    rotate_left
    · show Act.put _ (some 11) _ = _
      simp only [Act.put, List.setIfInBounds_toArray, List.set_cons_zero, List.set_cons_succ, i64_w, i32_w]
      rfl
    exact norm_ (by first | (simp only [putAll, Act.put, List.setIfInBounds_toArray, List.set_cons_zero, List.set_cons_succ]; done) | (simp only [putAll, Act.put, List.setIfInBounds_toArray, List.set_cons_zero, List.set_cons_succ]; rfl)) (hJ3 (sa, gm, ga) _ HS.out)
  refine join_ (σ := Nat) 3 #[true, true, false, true, false, true, false] (fun (s_ : Nat) => [(8, .agg #[.int .i64 1, .int .i64 2, .slice none 0 0]), (3, .pointer (some ⟨s_, 0, none⟩))]) (fun (s_ : Nat) w' => St w w' [(s_, #[.int .i64 0, .int .i64 0, .slice none 0 0]), ((w.heap.size + 1), #[.int .i64 2, .int .i64 0, .slice none 0 0]), (w.heap.size, #[.int .i64 4, .int .i64 0, .slice none 0 0])]) ?_ (fun hJ1 => ?_)
  · rintro sa wb hF
    have HS := Aside0.mk hF
    clear hF HS0
    have hHeld : wb.cell? ⟨w.heap.size, 0, none⟩ = some (.int .i64 4) ∧ wb.cell? ⟨w.heap.size, 1, none⟩ = some (.int .i64 0) ∧ wb.cell? ⟨w.heap.size, 2, none⟩ = some (.slice none 0 0) ∧ wb.cell? ⟨w.heap.size + 1, 0, none⟩ = some (.int .i64 2) ∧ wb.cell? ⟨w.heap.size + 1, 1, none⟩ = some (.int .i64 0) ∧ wb.cell? ⟨w.heap.size + 1, 2, none⟩ = some (.slice none 0 0) := (six_ (HS.out.get (w.heap.size, #[.int .i64 4, .int .i64 0, .slice none 0 0]) (by simp)) (HS.out.get ((w.heap.size + 1), #[.int .i64 2, .int .i64 0, .slice none 0 0]) (by simp)))
    refine norm_ (a' := ?_) ?_ ?_
    rotate_left
    · simp only [putAll, Act.put, List.setIfInBounds_toArray, List.set_cons_zero, List.set_cons_succ, i64_w, i32_w]
      rfl
    refine one_ (i := 2) (N := some 9) #[true, true, true, true, false, true, false] rfl rfl (one_of HT_.out (by kernel_rfl)) (by decide) (fun K hK => ?_)
    refine goes_ Tryd.func17 (by kernel_rfl) rfl #[.int .i64 7, .agg #[.int .i64 2, .int .i64 0, .slice none 0 0], .agg #[.int .i64 1, .int .i64 2, .slice none 0 0]] (by rfl) rfl rfl (by (try simp only [List.map_toArray, List.map_cons, List.map_nil]); first | done | rfl) ?_
    refine (two0 7 2 0 1 2 (.slice none 0 0) (.slice none 0 0) _).mono ?_
    rintro e_ wc ⟨gm, hge, rfl, hx, hb⟩
    refine ⟨_, rfl, ?_⟩
    have HS' := Aside0.mk (HS.out.grow hb hge hx)
    clear HS
    have HS := HS'
    clear HS'
    replace HS := Aside0.mk HS.out.swap
    try clear hb
    try clear hx
    try clear hge
    refine hK.out _ _ (six_ (HS.out.get (w.heap.size, #[.int .i64 4, .int .i64 0, .slice none 0 0]) (by simp)) (HS.out.get ((w.heap.size + 1), #[.int .i64 2, .int .i64 0, .slice none 0 0]) (by simp))) (fun hHeld => ?_)
    clear hK K
    refine norm_ (a' := ?_) ?_ ?_
    rotate_left
    · show Act.put _ (some 9) _ = _
      simp only [Act.put, List.setIfInBounds_toArray, List.set_cons_zero, List.set_cons_succ, i64_w, i32_w]
      rfl
    exact norm_ (by first | (simp only [putAll, Act.put, List.setIfInBounds_toArray, List.set_cons_zero, List.set_cons_succ]; done) | (simp only [putAll, Act.put, List.setIfInBounds_toArray, List.set_cons_zero, List.set_cons_succ]; rfl)) (hJ2 (sa, gm) _ HS.out)
  refine join_ (σ := Nat) 4 #[true, false, false, true, false, true, false] (fun (s_ : Nat) => [(3, .pointer (some ⟨s_, 0, none⟩))]) (fun (s_ : Nat) w' => St w w' [(s_, #[.int .i64 0, .int .i64 0, .slice none 0 0]), ((w.heap.size + 1), #[.int .i64 2, .int .i64 0, .slice none 0 0]), (w.heap.size, #[.int .i64 4, .int .i64 0, .slice none 0 0])]) ?_ (fun hJ0 => ?_)
  · rintro sa wb hF
    have HS := Aside0.mk hF
    clear hF HS0
    have hHeld : wb.cell? ⟨w.heap.size, 0, none⟩ = some (.int .i64 4) ∧ wb.cell? ⟨w.heap.size, 1, none⟩ = some (.int .i64 0) ∧ wb.cell? ⟨w.heap.size, 2, none⟩ = some (.slice none 0 0) ∧ wb.cell? ⟨w.heap.size + 1, 0, none⟩ = some (.int .i64 2) ∧ wb.cell? ⟨w.heap.size + 1, 1, none⟩ = some (.int .i64 0) ∧ wb.cell? ⟨w.heap.size + 1, 2, none⟩ = some (.slice none 0 0) := (six_ (HS.out.get (w.heap.size, #[.int .i64 4, .int .i64 0, .slice none 0 0]) (by simp)) (HS.out.get ((w.heap.size + 1), #[.int .i64 2, .int .i64 0, .slice none 0 0]) (by simp)))
    refine norm_ (a' := ?_) ?_ ?_
    rotate_left
    · simp only [putAll, Act.put, List.setIfInBounds_toArray, List.set_cons_zero, List.set_cons_succ, i64_w, i32_w]
      rfl
    refine one_ (i := 1) (N := some 8) #[true, true, false, true, false, true, false] rfl rfl (one_of HT_.out (by kernel_rfl)) (by decide) (fun K hK => ?_)
    refine goes_ Tryd.func19 (by kernel_rfl) rfl #[.int .i64 2] (by rfl) rfl rfl (by (try simp only [List.map_toArray, List.map_cons, List.map_nil]); first | done | rfl) ?_
    refine (konst0 2 _).mono ?_
    rintro e_ wc ⟨rfl, hb⟩
    refine ⟨_, rfl, ?_⟩
    have HS' := Aside0.mk (HS.out.step hb)
    clear HS
    have HS := HS'
    clear HS'
    try clear hb
    try clear hx
    try clear hge
    refine hK.out _ _ (six_ (HS.out.get (w.heap.size, #[.int .i64 4, .int .i64 0, .slice none 0 0]) (by simp)) (HS.out.get ((w.heap.size + 1), #[.int .i64 2, .int .i64 0, .slice none 0 0]) (by simp))) (fun hHeld => ?_)
    clear hK K
    refine norm_ (a' := ?_) ?_ ?_
    rotate_left
    · show Act.put _ (some 8) _ = _
      simp only [Act.put, List.setIfInBounds_toArray, List.set_cons_zero, List.set_cons_succ, i64_w, i32_w]
      rfl
    exact norm_ (by first | (simp only [putAll, Act.put, List.setIfInBounds_toArray, List.set_cons_zero, List.set_cons_succ]; done) | (simp only [putAll, Act.put, List.setIfInBounds_toArray, List.set_cons_zero, List.set_cons_succ]; rfl)) (hJ1 (sa) _ HS.out)
  have HS := HS0
  clear HS0
  refine two_ (i := 1) (j := 5) (Ni := some 8) (Nj := some 3) #[true, true, false, true, false, false, false] #[true, false, false, true, false, true, false] rfl rfl rfl rfl (two_of HT_.out (by kernel_rfl)) (by decide) (by decide) (fun K hK => ?_) (fun K hK => ?_)
  rotate_left
  · skip
    refine box_step ?hg (N := 3) ?hd (cs := #[.int .i64 0, .int .i64 0, .slice none 0 0]) (t := 24) ?hr ?_; (case hd => rfl); (case hg => rfl); (case hr => first | (go_simp; done) | (go_simp; rfl))
    intro sa hg wd0 hx hb
    have HS' := Aside0.mk (HS.out.grow hb (Nat.le_of_eq hg.symm) hx)
    clear HS
    have HS := HS'
    clear HS' hb hx hg
    refine hK.out _ _ (six_ (HS.out.get (w.heap.size, #[.int .i64 4, .int .i64 0, .slice none 0 0]) (by simp)) (HS.out.get ((w.heap.size + 1), #[.int .i64 2, .int .i64 0, .slice none 0 0]) (by simp))) (fun hHeld => ?_)
    clear hK K
    refine norm_ (a' := ?_) ?_ ?_
    rotate_left
    · show Act.put _ (some 3) _ = _
      simp only [Act.put, List.setIfInBounds_toArray, List.set_cons_zero, List.set_cons_succ, i64_w, i32_w]
      rfl
    exact norm_ (by first | (simp only [putAll, Act.put, List.setIfInBounds_toArray, List.set_cons_zero, List.set_cons_succ]; done) | (simp only [putAll, Act.put, List.setIfInBounds_toArray, List.set_cons_zero, List.set_cons_succ]; rfl)) (hJ0 (sa) _ HS.out)
  refine goes_ Tryd.func19 (by kernel_rfl) rfl #[.int .i64 2] (by rfl) rfl rfl (by (try simp only [List.map_toArray, List.map_cons, List.map_nil]); first | done | rfl) ?_
  refine (konst0 2 _).mono ?_
  rintro e_ we0 ⟨rfl, hb⟩
  refine ⟨_, rfl, ?_⟩
  have HS' := Aside0.mk (HS.out.step hb)
  clear HS
  have HS := HS'
  clear HS'
  try clear hb
  try clear hx
  try clear hge
  refine hK.out _ _ (six_ (HS.out.get (w.heap.size, #[.int .i64 4, .int .i64 0, .slice none 0 0]) (by simp)) (HS.out.get ((w.heap.size + 1), #[.int .i64 2, .int .i64 0, .slice none 0 0]) (by simp))) (fun hHeld => ?_)
  clear hK K
  refine norm_ (a' := ?_) ?_ ?_
  rotate_left
  · show Act.put _ (some 8) _ = _
    simp only [Act.put, List.setIfInBounds_toArray, List.set_cons_zero, List.set_cons_succ, i64_w, i32_w]
    rfl
  refine two_ (i := 2) (j := 5) (Ni := some 9) (Nj := some 3) #[true, true, true, true, false, false, false] #[true, true, false, true, false, true, false] rfl rfl rfl rfl (two_of HT_.out (by kernel_rfl)) (by decide) (by decide) (fun K hK => ?_) (fun K hK => ?_)
  rotate_left
  · skip
    refine box_step ?hg (N := 3) ?hd (cs := #[.int .i64 0, .int .i64 0, .slice none 0 0]) (t := 24) ?hr ?_; (case hd => rfl); (case hg => rfl); (case hr => first | (go_simp; done) | (go_simp; rfl))
    intro sa hg wd1 hx hb
    have HS' := Aside0.mk (HS.out.grow hb (Nat.le_of_eq hg.symm) hx)
    clear HS
    have HS := HS'
    clear HS' hb hx hg
    refine hK.out _ _ (six_ (HS.out.get (w.heap.size, #[.int .i64 4, .int .i64 0, .slice none 0 0]) (by simp)) (HS.out.get ((w.heap.size + 1), #[.int .i64 2, .int .i64 0, .slice none 0 0]) (by simp))) (fun hHeld => ?_)
    clear hK K
    refine norm_ (a' := ?_) ?_ ?_
    rotate_left
    · show Act.put _ (some 3) _ = _
      simp only [Act.put, List.setIfInBounds_toArray, List.set_cons_zero, List.set_cons_succ, i64_w, i32_w]
      rfl
    exact norm_ (by first | (simp only [putAll, Act.put, List.setIfInBounds_toArray, List.set_cons_zero, List.set_cons_succ]; done) | (simp only [putAll, Act.put, List.setIfInBounds_toArray, List.set_cons_zero, List.set_cons_succ]; rfl)) (hJ1 (sa) _ HS.out)
  refine goes_ Tryd.func17 (by kernel_rfl) rfl #[.int .i64 7, .agg #[.int .i64 2, .int .i64 0, .slice none 0 0], .agg #[.int .i64 1, .int .i64 2, .slice none 0 0]] (by rfl) rfl rfl (by (try simp only [List.map_toArray, List.map_cons, List.map_nil]); first | done | rfl) ?_
  refine (two0 7 2 0 1 2 (.slice none 0 0) (.slice none 0 0) _).mono ?_
  rintro e_ we1 ⟨gm, hge, rfl, hx, hb⟩
  refine ⟨_, rfl, ?_⟩
  have HS' := Aside0.mk (HS.out.grow hb hge hx)
  clear HS
  have HS := HS'
  clear HS'
  try clear hb
  try clear hx
  try clear hge
  refine hK.out _ _ (six_ (HS.out.get (w.heap.size, #[.int .i64 4, .int .i64 0, .slice none 0 0]) (by simp)) (HS.out.get ((w.heap.size + 1), #[.int .i64 2, .int .i64 0, .slice none 0 0]) (by simp))) (fun hHeld => ?_)
  clear hK K
  refine norm_ (a' := ?_) ?_ ?_
  rotate_left
  · show Act.put _ (some 9) _ = _
    simp only [Act.put, List.setIfInBounds_toArray, List.set_cons_zero, List.set_cons_succ, i64_w, i32_w]
    rfl
  refine two_ (i := 4) (j := 5) (Ni := some 11) (Nj := some 3) #[true, true, true, true, true, false, false] #[true, true, true, true, false, true, false] rfl rfl rfl rfl (two_of HT_.out (by kernel_rfl)) (by decide) (by decide) (fun K hK => ?_) (fun K hK => ?_)
  rotate_left
  · skip
    refine box_step ?hg (N := 3) ?hd (cs := #[.int .i64 0, .int .i64 0, .slice none 0 0]) (t := 24) ?hr ?_; (case hd => rfl); (case hg => rfl); (case hr => first | (go_simp; done) | (go_simp; rfl))
    intro sa hg wd2 hx hb
    have HS' := Aside0.mk (HS.out.grow hb (Nat.le_of_eq hg.symm) hx)
    clear HS
    have HS := HS'
    clear HS' hb hx hg
    refine hK.out _ _ (six_ (HS.out.get (w.heap.size, #[.int .i64 4, .int .i64 0, .slice none 0 0]) (by simp)) (HS.out.get ((w.heap.size + 1), #[.int .i64 2, .int .i64 0, .slice none 0 0]) (by simp))) (fun hHeld => ?_)
    clear hK K
    refine norm_ (a' := ?_) ?_ ?_
    rotate_left
    · show Act.put _ (some 3) _ = _
      simp only [Act.put, List.setIfInBounds_toArray, List.set_cons_zero, List.set_cons_succ, i64_w, i32_w]
      rfl
    exact norm_ (by first | (simp only [putAll, Act.put, List.setIfInBounds_toArray, List.set_cons_zero, List.set_cons_succ]; done) | (simp only [putAll, Act.put, List.setIfInBounds_toArray, List.set_cons_zero, List.set_cons_succ]; rfl)) (hJ2 (sa, gm) _ HS.out)
  refine goes_ Tryd.func17 (by kernel_rfl) rfl #[.int .i64 5, .agg #[.int .i64 7, .int .i64 0, .slice (some ⟨gm, 0, none⟩) 2 2], .agg #[.int .i64 4, .int .i64 0, .slice none 0 0]] (by rfl) rfl rfl (by (try simp only [List.map_toArray, List.map_cons, List.map_nil]); first | done | rfl) ?_
  refine (two0 5 7 0 4 0 (.slice (some ⟨gm, 0, none⟩) 2 2) (.slice none 0 0) _).mono ?_
  rintro e_ we2 ⟨ga, hge, rfl, hx, hb⟩
  refine ⟨_, rfl, ?_⟩
  have HS' := Aside0.mk (HS.out.grow hb hge hx)
  clear HS
  have HS := HS'
  clear HS'
  try clear hb
  try clear hx
  try clear hge
  refine hK.out _ _ (six_ (HS.out.get (w.heap.size, #[.int .i64 4, .int .i64 0, .slice none 0 0]) (by simp)) (HS.out.get ((w.heap.size + 1), #[.int .i64 2, .int .i64 0, .slice none 0 0]) (by simp))) (fun hHeld => ?_)
  clear hK K
  refine norm_ (a' := ?_) ?_ ?_
  rotate_left
  · show Act.put _ (some 11) _ = _
    simp only [Act.put, List.setIfInBounds_toArray, List.set_cons_zero, List.set_cons_succ, i64_w, i32_w]
    rfl
  refine one_ (i := 5) (N := some 3) #[true, true, true, true, true, true, false] rfl rfl (one_of HT_.out (by kernel_rfl)) (by decide) (fun K hK => ?_)
  refine box_step ?hg (N := 3) ?hd (cs := #[.int .i64 0, .int .i64 0, .slice none 0 0]) (t := 24) ?hr ?_; (case hd => rfl); (case hg => rfl); (case hr => first | (go_simp; done) | (go_simp; rfl))
  intro sa hg wf hx hb
  have HS' := Aside0.mk (HS.out.grow hb (Nat.le_of_eq hg.symm) hx)
  clear HS
  have HS := HS'
  clear HS' hb hx hg
  refine hK.out _ _ (six_ (HS.out.get (w.heap.size, #[.int .i64 4, .int .i64 0, .slice none 0 0]) (by simp)) (HS.out.get ((w.heap.size + 1), #[.int .i64 2, .int .i64 0, .slice none 0 0]) (by simp))) (fun hHeld => ?_)
  clear hK K
  refine norm_ (a' := ?_) ?_ ?_
  rotate_left
  · show Act.put _ (some 3) _ = _
    simp only [Act.put, List.setIfInBounds_toArray, List.set_cons_zero, List.set_cons_succ, i64_w, i32_w]
    rfl
  exact norm_ (by first | (simp only [putAll, Act.put, List.setIfInBounds_toArray, List.set_cons_zero, List.set_cons_succ]; done) | (simp only [putAll, Act.put, List.setIfInBounds_toArray, List.set_cons_zero, List.set_cons_succ]; rfl)) (hJ3 (sa, gm, ga) _ HS.out)
end Go.Proofs.YtdmfakgbiaaacaaDoor.X
namespace Go.Proofs.YtdmfakgbiaaacaaDoor.X
open Go.RowKit Go.Lib Go.Proofs Go.Proofs.YtdmfakgbiaaacaaDoorW.PrintWords Go.Proofs.YtdmfakgbiaaacaaDoorW.PrintLast Go.Proofs.YtdmfakgbiaaacaaDoorW.PrintMore Go.Proofs.YtdmfakgbiaaacaaDoor
attribute [local go_sem] max2_int min2_int max_two min_two
set_option linter.unusedVariables false
set_option linter.unusedSimpArgs false
def XV (W : World) (A : Option Addr) (n c : Nat) (x : S24) : Prop := n = x.f2.length ∧ n ≤ c ∧ Kd.C k24 W A x.f2.length x.f2
theorem XV.below {W W' : World} {A : Option Addr} {n c : Nat} {x : S24} (h : XV W A n c x) (hb : Below W.heap.size W W') : XV W' A n c x := ⟨h.1, h.2.1, Kd.C_below h.2.2 hb⟩
theorem XV.nil (W : World) (op n : Int) : XV W none 0 0 ⟨op, n, []⟩ := ⟨rfl, Nat.le_refl _, nilC W⟩
theorem XV.two {W : World} {g : Nat} {op n : Int} {x y : S24} {A B : Option Addr} {na ca nb cb : Nat} (ha : XV W A na ca x) (hb : XV W B nb cb y)
    (hx : W.heap[g]? = some (.cells #[.int .i64 x.f0, .int .i64 x.f1, .slice A na ca, .int .i64 y.f0, .int .i64 y.f1, .slice B nb cb] 24 (0, 0))) : XV W (some ⟨g, 0, none⟩) 2 2 ⟨op, n, [x, y]⟩ := by
  obtain ⟨rfl, ha1, ha2⟩ := ha
  obtain ⟨rfl, hb1, hb2⟩ := hb
  refine ⟨rfl, by decide, rowC (l := [x, y]) hx (by simp) (fun j z hj => ?_)⟩
  match j, hj with
  | 0, hj => obtain rfl := Option.some.inj hj; exact ⟨_, k24_mk W _ ha1 ha2, rfl, rfl, rfl⟩
  | 1, hj => obtain rfl := Option.some.inj hj; exact ⟨_, k24_mk W _ hb1 hb2, rfl, rfl, rfl⟩
  | (n + 2), hj => simp at hj
def sameL.f (k : Nat) (x y : S24) (r0 r1 r2 : Int) : Option Bool := (leatref7_Check.f k x.f0 x.f1 x.f2).bind fun a => if a = 0 then ((leatref7_Check.f k y.f0 y.f1 y.f2).bind fun b => if b = 0 then ((expr_Eval.f k x.f0 x.f1 x.f2 r0 r1 r2).bind fun u => (expr_Eval.f k y.f0 y.f1 y.f2 r0 r1 r2).bind fun v => some (u == v)) else some true) else some true
def WF (w W : World) (px py pr : Nat) (x y : S24) (A B : Option Addr) (na ca nb cb : Nat) (r0 r1 r2 : Int) : Prop := W.heap[px]? = some (.cells #[.int .i64 x.f0, .int .i64 x.f1, .slice A na ca] 24 (0, 0)) ∧ W.heap[py]? = some (.cells #[.int .i64 y.f0, .int .i64 y.f1, .slice B nb cb] 24 (0, 0)) ∧
  W.heap[pr]? = some (.cells #[.int .i64 r0, .int .i64 r1, .int .i64 r2] 26 (0, 0)) ∧ XV W A na ca x ∧ XV W B nb cb y ∧ Below w.heap.size w W
theorem WF.step {w W W' : World} {px py pr : Nat} {x y : S24} {A B : Option Addr} {na ca nb cb : Nat} {r0 r1 r2 : Int} (h : WF w W px py pr x y A B na ca nb cb r0 r1 r2) (hb : Below W.heap.size W W') : WF w W' px py pr x y A B na ca nb cb r0 r1 r2 :=
  ⟨blk_below h.1 hb, blk_below h.2.1 hb, blk_below h.2.2.1 hb, h.2.2.2.1.below hb, h.2.2.2.2.1.below hb, below_step h.2.2.2.2.2 hb⟩
end Go.Proofs.YtdmfakgbiaaacaaDoor.X
namespace Go.Proofs.YtdmfakgbiaaacaaDoor.X
open Go.RowKit Go.Lib Go.Proofs Go.Proofs.YtdmfakgbiaaacaaDoorW.PrintWords Go.Proofs.YtdmfakgbiaaacaaDoorW.PrintLast Go.Proofs.YtdmfakgbiaaacaaDoorW.PrintMore Go.Proofs.YtdmfakgbiaaacaaDoor
set_option linter.unusedVariables false
set_option linter.unusedSimpArgs false
inductive XF (W : World) (g0 : Nat) : S24 → Option Addr → Nat → Nat → Prop where
  | leaf (op n : Int) : XF W g0 ⟨op, n, []⟩ none 0 0
  | two (op n : Int) (x y : S24) (g : Nat) (A B : Option Addr) (na ca nb cb : Nat) (hg : g ≠ g0) (hx : XF W g0 x A na ca) (hy : XF W g0 y B nb cb)
      (hb : W.heap[g]? = some (.cells #[.int .i64 x.f0, .int .i64 x.f1, .slice A na ca, .int .i64 y.f0, .int .i64 y.f1, .slice B nb cb] 24 (0, 0))) : XF W g0 ⟨op, n, [x, y]⟩ (some ⟨g, 0, none⟩) 2 2
theorem XF.xv {W : World} {g0 : Nat} {x : S24} {A : Option Addr} {n c : Nat} (h : XF W g0 x A n c) : XV W A n c x := by
  induction h with
  | leaf op n => exact XV.nil W op n
  | two op n x y g A B na ca nb cb hg hx hy hb ihx ihy => exact XV.two ihx ihy hb
theorem XF.keep {W W' : World} {g0 g1 : Nat} {x : S24} {A : Option Addr} {n c : Nat} (h : XF W g0 x A n c) (hk : ∀ b, b < W.heap.size → b ≠ g0 → W'.heap[b]? = W.heap[b]?) (h1 : ∀ b, b < W.heap.size → b ≠ g0 → b ≠ g1) : XF W' g1 x A n c := by
  induction h with
  | leaf op n => exact .leaf op n
  | two op n x y g A B na ca nb cb hg hx hy hb ihx ihy =>
    have hlt : g < W.heap.size := by
      rcases Nat.lt_or_ge g W.heap.size with h | h
      · exact h
      · rw [Array.getElem?_eq_none h] at hb; cases hb
    exact .two op n x y g A B na ca nb cb (h1 g hlt hg) ihx ihy ((hk g hlt hg).trans hb)
def TQ (W : World) (g off n c : Nat) (l : List S24) : Prop := n = l.length ∧ n ≤ c ∧ c ≤ maxLen ∧ g < W.heap.size ∧ (∀ i, i < c * 3 → (W.cell? ⟨g, off + i, none⟩).isSome = true ∧ W.frozen? ⟨g, off + i, none⟩ = false) ∧
  ∀ j x, l[j]? = some x → ∃ A n' c', W.cell? ⟨g, off + 3 * j, none⟩ = some (.int .i64 x.f0) ∧ W.cell? ⟨g, off + 3 * j + 1, none⟩ = some (.int .i64 x.f1) ∧ W.cell? ⟨g, off + 3 * j + 2, none⟩ = some (.slice A n' c') ∧ XF W g x A n' c'
theorem TQ.step {W W' : World} {g off n c : Nat} {l : List S24} (h : TQ W g off n c l) (hb : Below W.heap.size W W') : TQ W' g off n c l := by
  obtain ⟨h1, h2, h3, h4, h5, h6⟩ := h
  refine ⟨h1, h2, h3, Nat.lt_of_lt_of_le h4 hb.size, fun i hi => ?_, fun j x hx => ?_⟩
  · rw [hb.cell (p := ⟨g, off + i, none⟩) h4, hb.frozen (p := ⟨g, off + i, none⟩) h4]; exact h5 i hi
  · obtain ⟨A, n', c', e0, e1, e2, e3⟩ := h6 j x hx
    exact ⟨A, n', c', (hb.cell (p := ⟨g, _, none⟩) h4).trans e0, (hb.cell (p := ⟨g, _, none⟩) h4).trans e1, (hb.cell (p := ⟨g, _, none⟩) h4).trans e2, e3.keep (fun b hb' _ => hb.block b hb') (fun _ _ h => h)⟩
theorem TQ.drop {W : World} {g off n c : Nat} {l : List S24} (h : TQ W g off n c l) (k : Nat) (hk : k ≤ n) : TQ W g (off + 3 * k) (n - k) (c - k) (l.drop k) := by
  obtain ⟨h1, h2, h3, h4, h5, h6⟩ := h
  refine ⟨by rw [List.length_drop]; omega, by omega, by omega, h4, fun i hi => ?_, fun j x hx => ?_⟩
  · have := h5 (3 * k + i) (by omega)
    rwa [← Nat.add_assoc] at this
  · rw [List.getElem?_drop] at hx
    have := h6 (k + j) x hx
    rw [show off + 3 * (k + j) = off + 3 * k + 3 * j by omega] at this
    exact this
theorem info24q : (Tryd.prog.info? 24).map (fun i => (i.zero, i.size, i.bytes)) = some (some (.agg #[.int .i64 0, .int .i64 0, .slice none 0 0]), 3, 40) := by kernel_rfl
theorem TQ.app {W : World} {g off n c : Nat} {l : List S24} (h : TQ W g off n c l) (x : S24) (A : Option Addr) (n' c' : Nat) (ad : Addr) (cx ty : Nat) (hx : XF W g x A n' c') (hl : n + 1 ≤ 1000)
    (h0 : W.cell? (ad.add 0) = some (.int .i64 x.f0)) (h1 : W.cell? (ad.add 1) = some (.int .i64 x.f1)) (h2 : W.cell? (ad.add 2) = some (.slice A n' c')) :
    ∃ g' off' c2 W', (Builtin.append_ #[22, 22] ty #[.slice (some ⟨g, off, none⟩) n c, .slice (some ad) 1 cx]).run Tryd.prog W = .ok (.slice (some ⟨g', off', none⟩) (n + 1) c2) W' ∧ TQ W' g' off' (n + 1) c2 (l ++ [x]) ∧ (g' = g ∨ W.heap.size ≤ g') ∧
      W'.os = W.os ∧ W'.tape = W.tape ∧ W'.output = W.output ∧ W.heap.size ≤ W'.heap.size ∧ ∀ b, b < W.heap.size → b ≠ g → W'.heap[b]? = W.heap[b]? := by
  obtain ⟨e1, e2, e3, e4, e5, e6⟩ := h
  obtain ⟨i0, hi, hz0, hz1, hz2⟩ := info_parts info24q
  have hnews : ∀ j u, ([.int .i64 x.f0, .int .i64 x.f1, .slice A n' c'] : List Value)[j]? = some u → W.cell? (ad.add j) = some u := by
    intro j u hu
    match j, hu with
    | 0, hu => obtain rfl := Option.some.inj hu; exact h0
    | 1, hu => obtain rfl := Option.some.inj hu; exact h1
    | 2, hu => obtain rfl := Option.some.inj hu; exact h2
    | (k + 3), hu => simp at hu
  have hone : ∀ u ∈ ([.int .i64 x.f0, .int .i64 x.f1, .slice A n' c'] : List Value), u.oneCell' = true := by
    intro u hu
    simp only [List.mem_cons, List.not_mem_nil, or_false] at hu
    rcases hu with rfl | rfl | rfl <;> rfl
  have hlast : ∀ j y, (l ++ [x])[j]? = some y → (j < l.length ∧ l[j]? = some y) ∨ (j = l.length ∧ y = x) := by
    intro j y hy
    rcases Nat.lt_or_ge j l.length with hj | hj
    · rw [List.getElem?_append_left hj] at hy; exact Or.inl ⟨hj, hy⟩
    · rw [List.getElem?_append_right hj] at hy
      rcases Nat.eq_zero_or_pos (j - l.length) with h | h
      · rw [h] at hy; exact Or.inr ⟨by omega, by simpa using hy.symm⟩
      · rw [List.getElem?_eq_none (by simp; omega)] at hy; cases hy
  by_cases hr : n + 1 ≤ c
  · have hrun := run_append_room_cells (P := Tryd.prog) W 22 ty 24 i0 Tryd.underlying22 hi g off n c ad 1 cx [.int .i64 x.f0, .int .i64 x.f1, .slice A n' c'] (by rw [hz1]; rfl) hnews hone hr
      (fun j hj => by rw [hz1, Nat.add_assoc]; exact (e5 (n * 3 + j) (by simp at hj; omega)).1) (fun j hj => by rw [hz1, Nat.add_assoc]; exact (e5 (n * 3 + j) (by simp at hj; omega)).2)
    rw [hz1] at hrun
    obtain ⟨s1, s2, s3, s4⟩ := setCells_same g [.int .i64 x.f0, .int .i64 x.f1, .slice A n' c'] (off + n * 3) W
    have far : ∀ b, b ≠ g → (W.setCells g (off + n * 3) [.int .i64 x.f0, .int .i64 x.f1, .slice A n' c']).heap[b]? = W.heap[b]? := fun b hb => setCells_far _ _ b hb
    have cin := World.cell?_setCells_in g [.int .i64 x.f0, .int .i64 x.f1, .slice A n' c'] (off + n * 3) W (fun j hj => by rw [Nat.add_assoc]; exact (e5 (n * 3 + j) (by simp at hj; omega)).1)
    have cout : ∀ o, (o < off + n * 3 ∨ off + n * 3 + 3 ≤ o) → (W.setCells g (off + n * 3) [.int .i64 x.f0, .int .i64 x.f1, .slice A n' c']).cell? ⟨g, o, none⟩ = W.cell? ⟨g, o, none⟩ := fun o ho => World.cell?_setCells_out g _ _ W ⟨g, o, none⟩ (fun _ _ => ho)
    refine ⟨g, off, c, _, hrun, ⟨by simp; omega, hr, e3, by rw [s4]; exact e4, fun i hi' => ?_, fun j y hy => ?_⟩, Or.inl rfl, s1, s2, s3, by rw [s4]; exact Nat.le_refl _, fun b _ hb => far b hb⟩
    · refine ⟨?_, by rw [World.frozen?_setCells]; exact (e5 i hi').2⟩
      by_cases hin : n * 3 ≤ i ∧ i < n * 3 + 3
      · have := cin (i - n * 3) (by simp; omega)
        rw [show off + n * 3 + (i - n * 3) = off + i by omega] at this
        rw [this]; rfl
      · rw [cout (off + i) (by omega)]; exact (e5 i hi').1
    · rcases hlast j y hy with ⟨hj, hy'⟩ | ⟨hj, rfl⟩
      · obtain ⟨A1, n1, c1, f0, f1, f2, f3⟩ := e6 j y hy'
        exact ⟨A1, n1, c1, by rw [cout _ (by omega)]; exact f0, by rw [cout _ (by omega)]; exact f1, by rw [cout _ (by omega)]; exact f2, f3.keep (fun b _ hb => far b hb) (fun _ _ h => h)⟩
      · refine ⟨A, n', c', ?_, ?_, ?_, hx.keep (fun b _ hb => far b hb) (fun _ _ h => h)⟩
        · have := cin 0 (by simp); rw [show off + n * 3 + 0 = off + 3 * j by omega] at this; exact this
        · have := cin 1 (by simp); rw [show off + n * 3 + 1 = off + 3 * j + 1 by omega] at this; exact this
        · have := cin 2 (by simp); rw [show off + n * 3 + 2 = off + 3 * j + 2 by omega] at this; exact this
  · let olds : List Value := (List.range (n * 3)).map fun i => (W.cell? ⟨g, off + i, none⟩).getD undef
    have hol : olds.length = n * 3 := by simp [olds]
    have hoa : ∀ i, i < n * 3 → olds[i]? = W.cell? ⟨g, off + i, none⟩ := fun i hi' => by
      obtain ⟨v, hv⟩ := Option.isSome_iff_exists.1 (e5 i (by omega)).1
      simp [olds, hi', hv]
    have holds : ∀ j u, olds[j]? = some u → W.cell? ((⟨g, off, none⟩ : Addr).add j) = some u := fun j u hu => by
      have hj : j < n * 3 := by
        rcases Nat.lt_or_ge j (n * 3) with h | h
        · exact h
        · rw [List.getElem?_eq_none (by omega)] at hu; cases hu
      rw [hoa j hj] at hu
      rcases Nat.eq_zero_or_pos j with rfl | hp
      · simpa [Addr.add] using hu
      · rw [show (⟨g, off, none⟩ : Addr).add j = ⟨g, off + j, none⟩ by simp [Addr.add, Nat.ne_of_gt hp]]; exact hu
    obtain ⟨v', W', hrun, hown, hgr⟩ := run_append_arg_grows (P := Tryd.prog) W 22 ty 24 i0 _ 3 40 Tryd.underlying22 hi hz0 hz1 hz2 rfl (by decide) ⟨g, off, none⟩ n c olds hol holds ad 1 cx [.int .i64 x.f0, .int .i64 x.f1, .slice A n' c'] rfl hnews (by omega) (by unfold maxLen; omega) (by omega)
    rcases hown.2 with ⟨_, h0'⟩ | ⟨g2, cap, cur, rfl, hg2, hb2, hc2, hcm, hsz, htk⟩
    · omega
    have hcell : ∀ i, i < (n + 1) * 3 → W'.cell? ⟨g2, 0 + i, none⟩ = (olds ++ [.int .i64 x.f0, .int .i64 x.f1, .slice A n' c'])[i]? := fun i hi' => by
      rw [Nat.zero_add, blk_cell hb2 i, ← htk, List.getElem?_take_of_lt hi', Array.getElem?_toList]
    have hnew : ∀ i, i < 3 → W'.cell? ⟨g2, 0 + (n * 3 + i), none⟩ = ([.int .i64 x.f0, .int .i64 x.f1, .slice A n' c'] : List Value)[i]? := fun i hi' => by
      rw [hcell _ (by omega), List.getElem?_append_right (by omega), hol, Nat.add_sub_cancel_left]
    have hold : ∀ i, i < n * 3 → W'.cell? ⟨g2, 0 + i, none⟩ = W.cell? ⟨g, off + i, none⟩ := fun i hi' => by
      rw [hcell _ (by omega), List.getElem?_append_left (by omega)]; exact hoa i hi'
    have hkeep : ∀ b, b < W.heap.size → W'.heap[b]? = W.heap[b]? := fun b hb => hgr.block b hb (by simp)
    have hlt2 : g2 < W'.heap.size := blk_lt hb2
    refine ⟨g2, 0, cap, W', hrun, ⟨by simp; omega, hc2, hcm, hlt2, fun i hi' => ?_, fun j y hy => ?_⟩, Or.inr hg2, hgr.os, hgr.tape, hgr.output, hgr.size, fun b hb _ => hkeep b hb⟩
    · rw [Nat.zero_add]
      exact ⟨by rw [blk_cell hb2 i, Array.getElem?_eq_getElem (by omega)]; rfl, blk_frozen hb2 i⟩
    · rcases hlast j y hy with ⟨hj, hy'⟩ | ⟨hj, rfl⟩
      · obtain ⟨A1, n1, c1, f0, f1, f2, f3⟩ := e6 j y hy'
        refine ⟨A1, n1, c1, ?_, ?_, ?_, f3.keep (fun b hb _ => hkeep b hb) (fun b hb _ => by omega)⟩
        · rw [hold _ (by omega)]; exact f0
        · rw [Nat.add_assoc, hold _ (by omega), ← Nat.add_assoc]; exact f1
        · rw [Nat.add_assoc, hold _ (by omega), ← Nat.add_assoc]; exact f2
      · refine ⟨A, n', c', ?_, ?_, ?_, hx.keep (fun b hb _ => hkeep b hb) (fun b hb _ => by omega)⟩
        · have := hnew 0 (by omega); rw [show 0 + (n * 3 + 0) = 0 + 3 * j by omega] at this; exact this
        · have := hnew 1 (by omega); rw [show 0 + (n * 3 + 1) = 0 + 3 * j + 1 by omega] at this; exact this
        · have := hnew 2 (by omega); rw [show 0 + (n * 3 + 2) = 0 + 3 * j + 2 by omega] at this; exact this
end Go.Proofs.YtdmfakgbiaaacaaDoor.X
namespace Go.Proofs.YtdmfakgbiaaacaaDoor.X
open Go.RowKit Go.Lib Go.Proofs Go.Proofs.YtdmfakgbiaaacaaDoorW.PrintWords Go.Proofs.YtdmfakgbiaaacaaDoorW.PrintLast Go.Proofs.YtdmfakgbiaaacaaDoorW.PrintMore Go.Proofs.YtdmfakgbiaaacaaDoor
attribute [local go_sem] max2_int min2_int max_two min_two
set_option linter.unusedVariables false
set_option linter.unusedSimpArgs false
def deepE : Nat → S24
  | 0 => ⟨4, 0, []⟩
  | k + 1 => ⟨5, 0, [deepE k, ⟨1, 1, []⟩]⟩
def DF (w W : World) (p : Nat) (x : S24) : Prop := (∃ A n c, W.heap[p]? = some (.cells #[.int .i64 x.f0, .int .i64 x.f1, .slice A n c] 24 (0, 0)) ∧ XF W p x A n c) ∧ w.heap.size ≤ p ∧ Below w.heap.size w W
theorem DF.step {w W W' : World} {p : Nat} {x : S24} (h : DF w W p x) (hb : Below W.heap.size W W') : DF w W' p x := by
  obtain ⟨⟨A, n, c, h1, h2⟩, h3, h4⟩ := h
  exact ⟨⟨A, n, c, blk_below h1 hb, h2.keep (fun b h _ => hb.block b h) (fun _ _ h => h)⟩, h3, below_step h4 hb⟩
def DK (w W : World) (p : Nat) (x : S24) (A : Option Addr) (n c : Nat) : Prop := W.heap[p]? = some (.cells #[.int .i64 x.f0, .int .i64 x.f1, .slice A n c] 24 (0, 0)) ∧ XF W p x A n c ∧ w.heap.size ≤ p ∧ Below w.heap.size w W
theorem DK.step {w W W' : World} {p : Nat} {x : S24} {A : Option Addr} {n c : Nat} (h : DK w W p x A n c) (hb : Below W.heap.size W W') : DK w W' p x A n c :=
  ⟨blk_below h.1 hb, h.2.1.keep (fun b h _ => hb.block b h) (fun _ _ h => h), h.2.2.1, below_step h.2.2.2 hb⟩
def DT (w W : World) (p g : Nat) (x : S24) : Prop := (∃ u0 u1 u2, W.heap[p]? = some (.cells #[u0, u1, u2] 24 (0, 0))) ∧ XF W p ⟨5, 0, [x, ⟨1, 1, []⟩]⟩ (some ⟨g, 0, none⟩) 2 2 ∧ w.heap.size ≤ p ∧ Below w.heap.size w W
theorem DK.two {w W W' : World} {p g : Nat} {x : S24} {A : Option Addr} {n c : Nat} (h : DK w W p x A n c) (hge : W.heap.size ≤ g) (hx : W'.heap[g]? = some (.cells #[.int .i64 x.f0, .int .i64 x.f1, .slice A n c, .int .i64 1, .int .i64 1, .slice none 0 0] 24 (0, 0))) (hb : Below W.heap.size W W') :
    W'.heap[p]? = some (.cells #[.int .i64 x.f0, .int .i64 x.f1, .slice A n c] 24 (0, 0)) ∧ DT w W' p g x := by
  have h' := h.step hb
  have hp : p < W.heap.size := blk_lt h.1
  exact ⟨h'.1, ⟨_, _, _, h'.1⟩, .two 5 0 x ⟨1, 1, []⟩ g A none n c 0 0 (by omega) h'.2.1 (.leaf 1 1) hx, h'.2.2.1, h'.2.2.2⟩
theorem DT.store {w W : World} {p g k : Nat} (h : DT w W p g (deepE k)) : DF w (((W.setCell ⟨p, 0, none⟩ (.int .i64 5)).setCell ⟨p, 1, none⟩ (.int .i64 0)).setCell ⟨p, 2, none⟩ (.slice (some ⟨g, 0, none⟩) 2 2)) p (deepE (k + 1)) := by
  obtain ⟨⟨u0, u1, u2, h1⟩, h2, h3, h4⟩ := h
  refine ⟨⟨some ⟨g, 0, none⟩, 2, 2, ?_, ?_⟩, h3, below_set (below_set (below_set h4 h3) h3) h3⟩
  · refine blk_put (cs := #[.int .i64 5, .int .i64 0, u2]) ?_ 2 _ rfl
    refine blk_put (cs := #[.int .i64 5, u1, u2]) ?_ 1 _ rfl
    exact blk_put (cs := #[u0, u1, u2]) h1 0 _ rfl
  · refine h2.keep (fun b hb hne => ?_) (fun _ _ h => h)
    rw [so_ _ _ _ _ _ (fun e => hne e.symm), so_ _ _ _ _ _ (fun e => hne e.symm), so_ _ _ _ _ _ (fun e => hne e.symm)]
def deepW.T15 : Bool × List (List Nat × List Nat) := (true, [([], []), ([], []), ([0, 1, 1], [0, 1]), ([2, 2, 0, 1, 2], [2])])
def deepW.B15 : List Nat := [0, 0, 3, 7]
theorem deepW.tab15 : rtab .any (opsOf Tryd.f6 15) = deepW.T15 := by kernel_rfl
theorem deepW.bits15 : waitsOk deepW.T15.2 deepW.B15 = true := by kernel_rfl
def deepW.T10 : Bool × List (List Nat × List Nat) := (true, [([], []), ([0], [0]), ([], []), ([2], [2]), ([3], [3]), ([], []), ([5], [5]), ([6], [6]), ([4, 7], [4, 7]), ([8], [8]), ([1, 9, 8], [1, 9]), ([10, 10, 0, 1, 2, 3, 4, 5, 6, 7, 8, 9, 10], [0, 2, 5, 10])])
def deepW.B10 : List Nat := [0, 1, 0, 4, 12, 0, 32, 96, 252, 508, 1023, 2047]
theorem deepW.tab10 : rtab .any (opsOf Tryd.f6 10) = deepW.T10 := by kernel_rfl
theorem deepW.bits10 : waitsOk deepW.T10.2 deepW.B10 = true := by kernel_rfl
theorem echeck1 (k : Nat) (x : S24) (A : Option Addr) (n c : Nat) (r : Int) (w : World) (hx : XV w A n c x) (h : expr_Check.f k x.f0 x.f1 x.f2 = some r) :
    Calls Tryd.prog 11 #[.agg #[.int .i64 x.f0, .int .i64 x.f1, .slice A n c]] w fun e w' => e = .returned (.int .i64 r) ∧ Below w.heap.size w w' := by
  obtain ⟨rfl, h1, h2⟩ := hx
  exact expr_Check.calls k x.f0 x.f1 A c x.f2 r w h2 h1 h
theorem n_range (n : Int) : ∃ N : Nat, 1 + n.tmod 40 % 40 = (N : Int) ∧ 1 ≤ N ∧ N ≤ 40 := ⟨(1 + n.tmod 40 % 40).toNat, by omega, by omega, by omega⟩
theorem deep_check (k : Nat) (hk : k < 40) : expr_Check.f 400 (deepE k).f0 (deepE k).f1 (deepE k).f2 = some (if k < 8 then 0 else 71) := by
  have h : ((List.range 40).all fun k => expr_Check.f 400 (deepE k).f0 (deepE k).f1 (deepE k).f2 == some (if k < 8 then 0 else 71)) = true := by kernel_rfl
  have := List.all_eq_true.1 h k (List.mem_range.2 hk)
  exact beq_iff_eq.1 this
set_option maxHeartbeats 8000000 in
theorem deepNarrow (n : Int) (h0 : -9223372036854775808 ≤ n) (h1 : n ≤ 9223372036854775807) (w : World) (htab : TabW w) : Calls Tryd.prog 6 #[.int .i64 n, .bool false] w fun e w' => e = .returned (.bool true) ∧ Below w.heap.size w w' := by
  have hu24 := Tryd.underlying24
  have HT := Aside0.mk htab
  clear htab
  have t1 : -40 < n.tmod 40 := by have := Int.lt_tmod_of_pos n (show (0 : Int) < 40 by omega); omega
  have t2 : n.tmod 40 < 40 := Int.tmod_lt_of_pos n (by omega)
  go_enter Tryd.func6, Tryd.ntmps6
  go_wp2_with fail
  refine (known0 _ HT.out).mono ?_
  rintro e_ W1 ⟨rfl, hb⟩
  have HB := Aside0.mk hb
  clear hb
  go_wp2_with fail
  obtain ⟨N, hN, hN1, hN2⟩ := n_range n
  rw [hN]
  clear hN t1 t2
  have HD : Aside0 (DF w (W1.alloc (.cells #[.int .i64 4, .int .i64 0, .slice none 0 0] 24)) W1.heap.size (deepE 0)) := ⟨⟨⟨none, 0, 0, blk_new W1 _, .leaf 4 0⟩, HB.out.size, below_alloc HB.out _⟩⟩
  clear HB
  generalize W1.alloc _ = W2 at HD ⊢
  generalize W1.heap.size = p at HD ⊢
  go_loopw [8] (fun i wr => ∃ k : Nat, k + 1 ≤ N ∧ i = .int .i64 ((k : Int) + 1) ∧ DF w wr p (deepE k)) (fun i _ => N - (RowKit.intOf i).toNat)
  case atStart => exact ⟨0, hN1, rfl, HD.out⟩
  case round =>
    obtain ⟨k, hk, rfl, hD⟩ := hrel
    obtain ⟨⟨A, na, ca, hp, hx⟩, hge, hbw⟩ := hD
    have HK : Aside0 (DK w wr p (deepE k) A na ca) := ⟨⟨hp, hx, hge, hbw⟩⟩
    clear hp hx hge hbw HD
    by_cases hlt : k + 1 < N
    · go_wp2_with fail
      refine start_ (n := 4) (S := fun w' => w'.cell? ⟨p, 0, none⟩ = some (.int .i64 (deepE k).f0) ∧ w'.cell? ⟨p, 1, none⟩ = some (.int .i64 (deepE k).f1) ∧ w'.cell? ⟨p, 2, none⟩ = some (.slice A na ca)) (ds := [3]) #[false, false, false, false] (by kernel_rfl) rfl rfl (three_c HK.out.1) (fun hHeld => ?_); refine with_tabW deepW.tab15 deepW.bits15 (fun HT_ HW_ => ?_)
      have HK' := Aside0.mk (HK.out.step (below_drew1 (Below.refl _ _)))
      clear HK
      have HK := HK'
      clear HK'
      generalize World.drew _ = wa at HK hHeld ⊢
      refine take_ (i := 0) (N := some 71) (v := ?_) (a' := ?_) #[true, false, false, false] rfl rfl (take_ofW HT_.out HW_.out (by kernel_rfl)) (fun _ _ _ h => h) (Or.inl ⟨by rfl, ?_⟩) hHeld ?_ ?_
      rotate_left
      · rintro w' ⟨s0, s1, s2⟩
        go_simp
        with_reducible rfl
      rotate_left
      · simp only [Act.put, List.setIfInBounds_toArray, List.set_cons_zero, List.set_cons_succ, i64_w, i32_w]
        rfl
      refine one_ (i := 1) (N := some 72) #[true, true, false, false] rfl rfl (one_of HT_.out (by kernel_rfl)) (by decide) (fun K hK => ?_)
      refine goes_ Tryd.func19 (by kernel_rfl) rfl #[.int .i64 1] (by rfl) rfl rfl (by (try simp only [List.map_toArray, List.map_cons, List.map_nil]); first | done | rfl) ?_
      refine (konst0 1 _).mono ?_
      rintro e_ wb ⟨rfl, hb⟩
      refine ⟨_, rfl, ?_⟩
      have HK' := Aside0.mk (HK.out.step hb)
      clear HK hb
      have HK := HK'
      clear HK'
      refine hK.out _ _ (three_c HK.out.1) (fun hHeld => ?_)
      clear hK K
      refine norm_ (a' := ?_) ?_ ?_
      rotate_left
      · show Act.put _ (some 72) _ = _
        simp only [Act.put, List.setIfInBounds_toArray, List.set_cons_zero, List.set_cons_succ, i64_w, i32_w]
        rfl
      refine one_ (i := 2) (N := some 73) #[true, true, true, false] rfl rfl (one_of HT_.out (by kernel_rfl)) (by decide) (fun K hK => ?_)
      refine goes_ Tryd.func17 (by kernel_rfl) rfl #[.int .i64 5, .agg #[.int .i64 (deepE k).f0, .int .i64 (deepE k).f1, .slice A na ca], .agg #[.int .i64 1, .int .i64 1, .slice none 0 0]] (by rfl) rfl rfl (by (try simp only [List.map_toArray, List.map_cons, List.map_nil]); first | done | rfl) ?_
      refine (two0 5 (deepE k).f0 (deepE k).f1 1 1 (.slice A na ca) (.slice none 0 0) _).mono ?_
      rintro e_ wc ⟨g, hge, rfl, hx, hb⟩
      refine ⟨_, rfl, ?_⟩
      have HX := Aside0.mk (HK.out.two hge hx hb)
      clear HK hge hx hb
      refine hK.out _ _ (three_c HX.out.1) (fun hHeld => ?_)
      clear hK K
      refine norm_ (a' := ?_) ?_ ?_
      rotate_left
      · show Act.put _ (some 73) _ = _
        simp only [Act.put, List.setIfInBounds_toArray, List.set_cons_zero, List.set_cons_succ, i64_w, i32_w]
        rfl
      have hc0 : wc.cell? ⟨p, 0, none⟩ = some (.int .i64 (deepE k).f0) := (three_c HX.out.1).1
      have hc1 : wc.cell? ⟨p, 1, none⟩ = some (.int .i64 (deepE k).f1) := (three_c HX.out.1).2.1
      have hc2 : wc.cell? ⟨p, 2, none⟩ = some (.slice A na ca) := (three_c HX.out.1).2.2
      have hz0 := blk_frozen HX.out.1 0
      have hz1 := blk_frozen HX.out.1 1
      have hz2 := blk_frozen HX.out.1 2
      refine last_ (i := 3) (N := none) #[true, true, true, true] rfl rfl (one_of HT_.out (by kernel_rfl)) (by decide) (fun K hK => ?_)
      refine skip_ (w1 := ?_) (by rfl) rfl ?_ ?_
      rotate_left
      · go_simp
        rfl
      refine hK.out _ _ ?_
      clear hK K
      refine done_ (done_of HT_.out (by kernel_rfl)) ?_
      have HD := Aside0.mk (HX.out.2.store)
      clear hc0 hc1 hc2 hz0 hz1 hz2 hHeld HX
      generalize ((wc.setCell ⟨p, 0, none⟩ (.int .i64 5)).setCell ⟨p, 1, none⟩ (.int .i64 0)).setCell ⟨p, 2, none⟩ (.slice (some ⟨g, 0, none⟩) 2 2) = wx at HD ⊢
      go_wp2_with fail
      go_roundw
      case rel => exact ⟨k + 1, by omega, by go_num, HD.out⟩
      case measure => simp [RowKit.intOf]; omega
    · have hkN : N = k + 1 := by omega
      subst hkN
      obtain ⟨f0, f1, f2⟩ := three_c HK.out.1
      by_cases h8 : k < 8
      · have hc := (deep_check k (by omega)).trans (congrArg some (if_pos h8))
        have HC := Aside0.mk hc
        clear hc
        go_wp2_with fail
        refine (echeck1 400 (deepE k) A na ca 0 wr HK.out.2.1.xv HC.out).mono ?_
        rintro e_ wf ⟨rfl, hb⟩
        have HB := Aside0.mk (below_step HK.out.2.2.2 hb)
        clear hb f0 f1 f2 HK
        go_wp2_with fail
        go_ret
        exact ⟨rfl, HB.out⟩
      · have hc := (deep_check k (by omega)).trans (congrArg some (if_neg h8))
        have HC := Aside0.mk hc
        clear hc
        go_wp2_with fail
        refine (echeck1 400 (deepE k) A na ca 71 wr HK.out.2.1.xv HC.out).mono ?_
        rintro e_ wf ⟨rfl, hb⟩
        have HB := Aside0.mk (below_step HK.out.2.2.2 hb)
        clear hb f0 f1 f2 HK
        go_wp2_with fail
        go_ret
        exact ⟨rfl, HB.out⟩
def qs : List S24 → List S24
  | x :: y :: l => l ++ [⟨10, 0, [x, y]⟩]
  | l => l
def leafE : S24 := ⟨4, 0, []⟩
def qit : Nat → List S24 → List S24
  | 0, l => l
  | k + 1, l => qs (qit k l)
theorem wide_check (N : Nat) (h1 : 1 ≤ N) (h2 : N ≤ 40) : ∃ x, qit (N - 1) (List.replicate N leafE) = [x] ∧ expr_Check.f 400 x.f0 x.f1 x.f2 = some (if N ≤ 16 then 0 else 71) := by
  have h : ((List.range 41).all fun N => N == 0 || (match qit (N - 1) (List.replicate N leafE) with | [x] => expr_Check.f 400 x.f0 x.f1 x.f2 == some (if N ≤ 16 then 0 else 71) | _ => false)) = true := by kernel_rfl
  have h3 := List.all_eq_true.1 h N (List.mem_range.2 (by omega))
  rw [Bool.or_eq_true] at h3
  rcases h3 with h3 | h3
  · have := beq_iff_eq.1 h3; omega
  · generalize qit (N - 1) (List.replicate N leafE) = l at h3 ⊢
    match l, h3 with
    | [x], h3 => exact ⟨x, rfl, beq_iff_eq.1 h3⟩
theorem newc (W : World) (cs : Array Value) (i : Nat) : (W.alloc (.cells cs 24)).cell? ((⟨W.heap.size, 0, none⟩ : Addr).add i) = cs[i]? := by
  have := blk_cell (blk_new W (.cells cs 24)) i
  rcases Nat.eq_zero_or_pos i with rfl | h
  · simp [Addr.add] at this ⊢
  · rw [show (⟨W.heap.size, 0, none⟩ : Addr).add i = ⟨W.heap.size, i, none⟩ by simp [Addr.add, Nat.ne_of_gt h]]; exact this
def lenV : Value → Nat
  | .slice _ n _ => n
  | _ => 0
theorem wpList_app {ops : Array Oper} {rest : List Oper} {o : Oper} {a : Act} {Q : Exit → Act → World → Prop} {W : World} {g off n c : Nat} {l : List S24} (hg : o.guard = none) (s z : Operand) (hop : o.op = Op.call { callee := Callee.builtin Builtin.append, args := #[s, z], argTypes := #[22, 22] })
    (hs : a.eval s = .slice (some ⟨g, off, none⟩) n c) (ad : Addr) (cx : Nat) (hz : a.eval z = .slice (some ad) 1 cx) (h : TQ W g off n c l) (x : S24) (A : Option Addr) (n' c' : Nat) (hx : XF W g x A n' c') (hl : n + 1 ≤ 1000)
    (h0 : W.cell? (ad.add 0) = some (.int .i64 x.f0)) (h1 : W.cell? (ad.add 1) = some (.int .i64 x.f1)) (h2 : W.cell? (ad.add 2) = some (.slice A n' c'))
    (hk : ∀ g' off' c2 W', TQ W' g' off' (n + 1) c2 (l ++ [x]) → (g' = g ∨ W.heap.size ≤ g') → W'.os = W.os → W'.tape = W.tape → W'.output = W.output → W.heap.size ≤ W'.heap.size → (∀ b, b < W.heap.size → b ≠ g → W'.heap[b]? = W.heap[b]?) → wpList Tryd.prog ops Q rest (a.put o.dst (.slice (some ⟨g', off', none⟩) (n + 1) c2)) W') : wpList Tryd.prog ops Q (o :: rest) a W := by
  refine wpList_plain hg fun K hK' => ?_
  obtain ⟨g', off', c2, W', hrun, r1, r2, r3, r4, r5, r6, r7⟩ := h.app x A n' c' ad cx o.type hx hl h0 h1 h2
  unfold Oper.wp
  simp [execOp, hop, resolve, invoke, builtin, hs, hz, hrun, Result.andThen]
  exact hK' _ _ (hk g' off' c2 W' r1 r2 r3 r4 r5 r6 r7)
def WD (w W : World) (p g off n c : Nat) (l : List S24) : Prop := W.heap[p]? = some (.cells #[.int .i64 4, .int .i64 0, .slice none 0 0] 24 (0, 0)) ∧ TQ W g off n c l ∧ p ≠ g ∧ w.heap.size ≤ g ∧ Below w.heap.size w W
theorem WD.step {w W W' : World} {p g off n c : Nat} {l : List S24} (h : WD w W p g off n c l) (hb : Below W.heap.size W W') : WD w W' p g off n c l :=
  ⟨blk_below h.1 hb, h.2.1.step hb, h.2.2.1, h.2.2.2.1, below_step h.2.2.2.2 hb⟩
theorem WD.next {w W W' : World} {p g off n c g' off' n' c' : Nat} {l l' : List S24} (h : WD w W p g off n c l) (hq : TQ W' g' off' n' c' l') (hg : g' = g ∨ W.heap.size ≤ g') (h1 : W'.os = W.os) (h2 : W'.tape = W.tape) (h3 : W'.output = W.output) (h4 : W.heap.size ≤ W'.heap.size) (h5 : ∀ b, b < W.heap.size → b ≠ g → W'.heap[b]? = W.heap[b]?) : WD w W' p g' off' n' c' l' := by
  obtain ⟨e1, e2, e3, e4, e5⟩ := h
  have hp : p < W.heap.size := blk_lt e1
  refine ⟨(h5 p hp e3).trans e1, hq, by rcases hg with h | h <;> omega, by have := e5.size; rcases hg with h | h <;> omega, ⟨h1.trans e5.os, h2.trans e5.tape, h3.trans e5.output, Nat.le_trans e5.size h4, fun b hb => (h5 b (Nat.lt_of_lt_of_le hb e5.size) (by omega)).trans (e5.block b hb)⟩⟩
theorem wide_start {w W1 : World} (hb : Below w.heap.size w W1) : WD w ((W1.alloc (.cells #[.int .i64 4, .int .i64 0, .slice none 0 0] 24)).alloc (.cells #[.int .i64 4, .int .i64 0, .slice none 0 0] 24)) W1.heap.size (W1.heap.size + 1) 0 1 1 [leafE] := by
  have h2 : ((W1.alloc (.cells #[.int .i64 4, .int .i64 0, .slice none 0 0] 24)).alloc (.cells #[.int .i64 4, .int .i64 0, .slice none 0 0] 24)).heap[W1.heap.size + 1]? = some (.cells #[.int .i64 4, .int .i64 0, .slice none 0 0] 24 (0, 0)) := by
    have h := blk_new (W1.alloc (.cells #[.int .i64 4, .int .i64 0, .slice none 0 0] 24)) (.cells #[.int .i64 4, .int .i64 0, .slice none 0 0] 24)
    simpa using h
  refine ⟨blk_alloc (blk_new W1 _) _, ⟨rfl, by omega, by decide, blk_lt h2, fun i hi => ?_, fun j x hx => ?_⟩, by omega, by have := hb.size; omega, below_alloc (below_alloc hb _) _⟩
  · rw [Nat.zero_add]
    refine ⟨?_, blk_frozen h2 i⟩
    rw [blk_cell h2 i]
    match i, hi with
    | 0, _ => rfl
    | 1, _ => rfl
    | 2, _ => rfl
  · match j, hx with
    | 0, hx =>
      obtain rfl := Option.some.inj hx
      exact ⟨none, 0, 0, (blk_cell h2 0).trans rfl, (blk_cell h2 1).trans rfl, (blk_cell h2 2).trans rfl, .leaf 4 0⟩
    | (j + 1), hx => simp at hx
def EF (w W : World) (p g off M c : Nat) (x y : S24) (r : List S24) (A0 : Option Addr) (n0 c0 : Nat) (A1 : Option Addr) (n1 c1 : Nat) : Prop := WD w W p g off M c (x :: y :: r) ∧
  (W.cell? ⟨g, off, none⟩ = some (.int .i64 x.f0) ∧ W.cell? ⟨g, off + 1, none⟩ = some (.int .i64 x.f1) ∧ W.cell? ⟨g, off + 2, none⟩ = some (.slice A0 n0 c0) ∧ W.cell? ⟨g, off + 3, none⟩ = some (.int .i64 y.f0) ∧ W.cell? ⟨g, off + 3 + 1, none⟩ = some (.int .i64 y.f1) ∧ W.cell? ⟨g, off + 3 + 2, none⟩ = some (.slice A1 n1 c1)) ∧
  XF W g x A0 n0 c0 ∧ XF W g y A1 n1 c1
theorem EF.of {w W : World} {p g off M c : Nat} {x y : S24} {r : List S24} (h : WD w W p g off M c (x :: y :: r)) : ∃ A0 n0 c0 A1 n1 c1, EF w W p g off M c x y r A0 n0 c0 A1 n1 c1 := by
  obtain ⟨A0, n0, c0, e0, e1, e2, e3⟩ := h.2.1.2.2.2.2.2 0 x rfl
  obtain ⟨A1, n1, c1, f0, f1, f2, f3⟩ := h.2.1.2.2.2.2.2 1 y rfl
  exact ⟨A0, n0, c0, A1, n1, c1, h, ⟨e0, e1, e2, f0, f1, f2⟩, e3, f3⟩
theorem EF.step {w W W' : World} {p g off M c : Nat} {x y : S24} {r : List S24} {A0 : Option Addr} {n0 c0 : Nat} {A1 : Option Addr} {n1 c1 : Nat} (h : EF w W p g off M c x y r A0 n0 c0 A1 n1 c1) (hb : Below W.heap.size W W') : EF w W' p g off M c x y r A0 n0 c0 A1 n1 c1 := by
  obtain ⟨h1, ⟨e0, e1, e2, f0, f1, f2⟩, h2, h3⟩ := h
  have hg : g < W.heap.size := h1.2.1.2.2.2.1
  have c := fun o => hb.cell (p := ⟨g, o, none⟩) hg
  exact ⟨h1.step hb, ⟨(c _).trans e0, (c _).trans e1, (c _).trans e2, (c _).trans f0, (c _).trans f1, (c _).trans f2⟩, h2.keep (fun b h _ => hb.block b h) (fun _ _ h => h), h3.keep (fun b h _ => hb.block b h) (fun _ _ h => h)⟩
theorem EF.cells {w W : World} {p g off M c : Nat} {x y : S24} {r : List S24} {A0 : Option Addr} {n0 c0 : Nat} {A1 : Option Addr} {n1 c1 : Nat} (h : EF w W p g off M c x y r A0 n0 c0 A1 n1 c1) :
    W.cell? ⟨g, off, none⟩ = some (.int .i64 x.f0) ∧ W.cell? ⟨g, off + 1, none⟩ = some (.int .i64 x.f1) ∧ W.cell? ⟨g, off + 2, none⟩ = some (.slice A0 n0 c0) ∧ W.cell? ⟨g, off + 3, none⟩ = some (.int .i64 y.f0) ∧ W.cell? ⟨g, off + 3 + 1, none⟩ = some (.int .i64 y.f1) ∧ W.cell? ⟨g, off + 3 + 2, none⟩ = some (.slice A1 n1 c1) := h.2.1
theorem EF.two {w W W' : World} {p g off M c g2 : Nat} {x y : S24} {r : List S24} {A0 : Option Addr} {n0 c0 : Nat} {A1 : Option Addr} {n1 c1 : Nat} (h : EF w W p g off M c x y r A0 n0 c0 A1 n1 c1) (hge : W.heap.size ≤ g2)
    (hx : W'.heap[g2]? = some (.cells #[.int .i64 x.f0, .int .i64 x.f1, .slice A0 n0 c0, .int .i64 y.f0, .int .i64 y.f1, .slice A1 n1 c1] 24 (0, 0))) (hb : Below W.heap.size W W') : XF W' g ⟨10, 0, [x, y]⟩ (some ⟨g2, 0, none⟩) 2 2 := by
  have hg : g < W.heap.size := h.1.2.1.2.2.2.1
  have h' := h.step hb
  exact .two 10 0 x y g2 A0 A1 n0 c0 n1 c1 (by omega) h'.2.2.1 h'.2.2.2 hx
theorem EF.rest {w W : World} {p g off M c : Nat} {x y : S24} {r : List S24} {A0 : Option Addr} {n0 c0 : Nat} {A1 : Option Addr} {n1 c1 : Nat} (h : EF w W p g off M c x y r A0 n0 c0 A1 n1 c1) : TQ W g (off + 6) (M - 2) (c - 2) r :=
  h.1.2.1.drop 2 (by have := h.1.2.1.1; simp at this; omega)
theorem EF.rest_small {w W : World} {p g off : Nat} {x y : S24} {A0 : Option Addr} {n0 c0 : Nat} {A1 : Option Addr} {n1 c1 : Nat} (h : EF w W p g off 2 2 x y [] A0 n0 c0 A1 n1 c1) : TQ W g off 0 0 [] :=
  ⟨rfl, Nat.le_refl _, by decide, h.1.2.1.2.2.2.1, fun i hi => by omega, fun j x hx => by simp at hx⟩
theorem rowd {W : World} {g : Nat} {cs : Array Value} (h : W.heap[g]? = some (.cells cs 24 (0, 0))) (i : Nat) : W.cell? ((⟨g, 0, none⟩ : Addr).add i) = cs[i]? := by
  have := blk_cell h i
  rcases Nat.eq_zero_or_pos i with rfl | h
  · simpa [Addr.add] using this
  · rw [show (⟨g, 0, none⟩ : Addr).add i = ⟨g, i, none⟩ by simp [Addr.add, Nat.ne_of_gt h]]; exact this
theorem app_step {ops : Array Oper} {o : Oper} {a : Act} {K : Act → World → Prop} {Q : Exit → Act → World → Prop} {W : World} (hw : Region.wanted o (yielded ops a.tmps) = true) {N : Tmp} (hd : o.dst = some N) (s z : Operand) (hop : o.op = Op.call { callee := Callee.builtin Builtin.append, args := #[s, z], argTypes := #[22, 22] })
    {g off n c : Nat} {l : List S24} (hs : a.eval s = .slice (some ⟨g, off, none⟩) n c) (ad : Addr) (cx : Nat) (hz : a.eval z = .slice (some ad) 1 cx) (h : TQ W g off n c l) (x : S24) (A : Option Addr) (n' c' : Nat) (hx : XF W g x A n' c') (hl : n + 1 ≤ 1000)
    (h0 : W.cell? (ad.add 0) = some (.int .i64 x.f0)) (h1 : W.cell? (ad.add 1) = some (.int .i64 x.f1)) (h2 : W.cell? (ad.add 2) = some (.slice A n' c'))
    (hk : ∀ g' off' c2 W', TQ W' g' off' (n + 1) c2 (l ++ [x]) → (g' = g ∨ W.heap.size ≤ g') → W'.os = W.os → W'.tape = W.tape → W'.output = W.output → W.heap.size ≤ W'.heap.size → (∀ b, b < W.heap.size → b ≠ g → W'.heap[b]? = W.heap[b]?) → K (a.put (some N) (.slice (some ⟨g', off', none⟩) (n + 1) c2)) W') :
    if Region.wanted o (yielded ops a.tmps) = true then Oper.wp Tryd.prog o a W K Q else K (a.put (some N) undef) W := by
  rw [if_pos hw]
  obtain ⟨g', off', c2, W', hrun, r1, r2, r3, r4, r5, r6, r7⟩ := h.app x A n' c' ad cx o.type hx hl h0 h1 h2
  have := hk g' off' c2 W' r1 r2 r3 r4 r5 r6 r7
  rw [← hd] at this
  unfold Oper.wp
  simp [execOp, hop, resolve, invoke, builtin, hs, hz, hrun, Result.andThen]
  exact this
set_option maxHeartbeats 8000000 in
theorem deepWide (n : Int) (h0 : -9223372036854775808 ≤ n) (h1 : n ≤ 9223372036854775807) (w : World) (htab : TabW w) : Calls Tryd.prog 6 #[.int .i64 n, .bool true] w fun e w' => e = .returned (.bool true) ∧ Below w.heap.size w w' := by
  have hu24 := Tryd.underlying24
  have HT := Aside0.mk htab
  clear htab
  have t1 : -40 < n.tmod 40 := by have := Int.lt_tmod_of_pos n (show (0 : Int) < 40 by omega); omega
  have t2 : n.tmod 40 < 40 := Int.tmod_lt_of_pos n (by omega)
  go_enter Tryd.func6, Tryd.ntmps6
  go_wp2_with fail
  refine (known0 _ HT.out).mono ?_
  rintro e_ W1 ⟨rfl, hb⟩
  have HB := Aside0.mk hb
  clear hb
  go_wp2_with fail
  obtain ⟨N, hN, hN1, hN2⟩ := n_range n
  rw [hN]
  clear hN t1 t2
  have HD : Aside0 (WD w _ W1.heap.size (W1.heap.size + 1) 0 1 1 (List.replicate 1 leafE)) := ⟨wide_start HB.out⟩
  clear HB
  generalize (W1.alloc _).alloc _ = W2 at HD ⊢
  generalize W1.heap.size + 1 = gq at HD ⊢
  generalize W1.heap.size = p at HD ⊢
  generalize (n.tmod 40 + 40) % 40 = z15
  generalize n.tmod 40 + 40 = z14
  generalize n.tmod 40 = z13
  go_loopw [7] (fun v wr => ∃ m g off c : Nat, 1 ≤ m ∧ m ≤ N ∧ v = .slice (some ⟨g, off, none⟩) m c ∧ WD w wr p g off m c (List.replicate m leafE)) (fun v _ => N - lenV v)
  case atStart => exact ⟨1, gq, 0, 1, by omega, hN1, rfl, HD.out⟩
  case round =>
    obtain ⟨m, g, off, c, hm1, hm2, rfl, hW⟩ := hrel
    have HW := Aside0.mk hW
    clear hW HD
    by_cases hlt : m < N
    · obtain ⟨f0, f1, f2⟩ := three_c HW.out.1
      have HQ := Aside0.mk (HW.out.step (below_alloc (Below.refl wr.heap.size wr) (.cells #[.int .i64 4, .int .i64 0, .slice none 0 0] 24)))
      clear HW
      go_wp2_with (at_builtin; refine wpList_app rfl (.tmp 25) (.tmp 27) rfl rfl ⟨wr.heap.size, 0, none⟩ 1 rfl HQ.out.2.1 leafE none 0 0 (.leaf 4 0) (by omega) (newc wr _ 0) (newc wr _ 1) (newc wr _ 2) ?_; intro g' off' c2 W' q1 q2 q3 q4 q5 q6 q7)
      have HN := Aside0.mk (HQ.out.next q1 q2 q3 q4 q5 q6 q7)
      clear HQ q1 q2 q3 q4 q5 q6 q7 f0 f1 f2
      go_wp2_with fail
      go_roundw
      case rel => exact ⟨m + 1, g', off', c2, by omega, by omega, rfl, by rw [List.replicate_succ']; exact HN.out⟩
      case measure => simp [lenV]; omega
    · obtain rfl : m = N := by omega
      go_wp2_with fail
      have HQ : Aside0 (WD w wr p g off (m - 0) c (qit 0 (List.replicate m leafE))) := ⟨HW.out⟩
      clear HW
      go_loopw [7] (fun v wr => ∃ k g off c : Nat, k + 1 ≤ m ∧ v = .slice (some ⟨g, off, none⟩) (m - k) c ∧ WD w wr p g off (m - k) c (qit k (List.replicate m leafE)) ∧ (qit k (List.replicate m leafE)).length = m - k) (fun v _ => lenV v)
      case atStart => exact ⟨0, g, off, c, by omega, rfl, HQ.out, by simp [qit]⟩
      case round =>
        obtain ⟨k, g, off, c, hk, rfl, hW, hlen⟩ := hrel
        clear HQ
        have HW := Aside0.mk hW
        clear hW
        obtain ⟨M, hM⟩ : ∃ M, m - k = M := ⟨_, rfl⟩
        rw [hM] at HW hlen ⊢
        by_cases hlt : 1 < M
        · have d1 : decide ((1 : Int) < (M : Int)) = true := decide_eq_true (by omega)
          go_wp2_with fail
          obtain ⟨x, y, r, hl⟩ : ∃ x y r, qit k (List.replicate m leafE) = x :: y :: r := by
            match qit k (List.replicate m leafE), hlen with
            | x :: y :: r, _ => exact ⟨x, y, r, rfl⟩
            | [x], h2 => exact absurd h2 (by simp only [List.length_cons, List.length_nil]; omega)
            | [], h2 => exact absurd h2 (by simp only [List.length_nil]; omega)
          have HQ1 : Aside0 (qit (k + 1) (List.replicate m leafE) = r ++ [⟨10, 0, [x, y]⟩]) := ⟨by rw [qit, hl, qs]⟩
          rw [hl] at HW hlen
          have HRL := Aside0.mk hlen
          clear hl hlen
          have hMc : M ≤ c := HW.out.2.1.2.1
          have hcm : c ≤ maxLen := HW.out.2.1.2.2.1
          unfold maxLen at hcm
          obtain ⟨A0, n0, c0, A1, n1, c1, hE⟩ := EF.of HW.out
          have HE := Aside0.mk hE
          clear hE HW
          by_cases hc2 : c = 2
          · obtain rfl : M = 2 := by omega
            subst hc2
            obtain rfl : r = [] := List.length_eq_zero_iff.1 (by have := HRL.out; simp only [List.length_cons] at this; omega)
            clear hMc hcm
            refine start_ (n := 12) (S := fun w' => w'.cell? ⟨g, off, none⟩ = some (.int .i64 x.f0) ∧ w'.cell? ⟨g, off + 1, none⟩ = some (.int .i64 x.f1) ∧ w'.cell? ⟨g, off + 2, none⟩ = some (.slice A0 n0 c0) ∧ w'.cell? ⟨g, off + 3, none⟩ = some (.int .i64 y.f0) ∧ w'.cell? ⟨g, off + 3 + 1, none⟩ = some (.int .i64 y.f1) ∧ w'.cell? ⟨g, off + 3 + 2, none⟩ = some (.slice A1 n1 c1)) (ds := [10]) #[false, false, false, false, false, false, false, false, false, false, false, false] (by kernel_rfl) rfl rfl (HE.out.cells) (fun hHeld => ?_); refine with_tabW deepW.tab10 deepW.bits10 (fun HT_ HW_ => ?_)
            have HE' := Aside0.mk (HE.out.step (below_drew1 (Below.refl _ _)))
            clear HE
            have HE := HE'
            clear HE'
            generalize World.drew _ = wa at HE hHeld ⊢
            refine pure_ (i := 0) (N := some 32) (v := ?_) (a' := ?_) #[true, false, false, false, false, false, false, false, false, false, false, false] rfl rfl (any_of HT_.out (by kernel_rfl)) (fun _ _ _ h => h) (Or.inl ⟨by rfl, ?_⟩) ?_ ?_
            rotate_left
            · intro w'
              go_simp
              with_reducible rfl
            rotate_left
            · simp only [Act.put, List.setIfInBounds_toArray, List.set_cons_zero, List.set_cons_succ, i64_w, i32_w]
              rfl
            refine pure_ (i := 1) (N := some 33) (v := ?_) (a' := ?_) #[true, true, false, false, false, false, false, false, false, false, false, false] rfl rfl (any_of HT_.out (by kernel_rfl)) (fun _ _ _ h => h) (Or.inl ⟨by rfl, ?_⟩) ?_ ?_
            rotate_left
            · intro w'
              go_simp
              with_reducible rfl
            rotate_left
            · simp only [Act.put, List.setIfInBounds_toArray, List.set_cons_zero, List.set_cons_succ, i64_w, i32_w]
              rfl
            refine pure_ (i := 2) (N := some 34) (v := ?_) (a' := ?_) #[true, true, true, false, false, false, false, false, false, false, false, false] rfl rfl (any_of HT_.out (by kernel_rfl)) (fun _ _ _ h => h) (Or.inl ⟨by rfl, ?_⟩) ?_ ?_
            rotate_left
            · intro w'
              go_simp
              with_reducible rfl
            rotate_left
            · simp only [Act.put, List.setIfInBounds_toArray, List.set_cons_zero, List.set_cons_succ, i64_w, i32_w]
              rfl
            refine pure_ (i := 3) (N := some 35) (v := ?_) (a' := ?_) #[true, true, true, true, false, false, false, false, false, false, false, false] rfl rfl (any_of HT_.out (by kernel_rfl)) (fun _ _ _ h => h) (Or.inl ⟨by rfl, ?_⟩) ?_ ?_
            rotate_left
            · intro w'
              go_simp
              with_reducible rfl
            rotate_left
            · simp only [Act.put, List.setIfInBounds_toArray, List.set_cons_zero, List.set_cons_succ, i64_w, i32_w]
              rfl
            refine take_ (i := 4) (N := some 36) (v := ?_) (a' := ?_) #[true, true, true, true, true, false, false, false, false, false, false, false] rfl rfl (take_ofW HT_.out HW_.out (by kernel_rfl)) (fun _ _ _ h => h) (Or.inl ⟨by rfl, ?_⟩) hHeld ?_ ?_
            rotate_left
            · rintro w' ⟨s0, s1, s2, s3, s4, s5⟩
              go_simp
              with_reducible rfl
            rotate_left
            · simp only [Act.put, List.setIfInBounds_toArray, List.set_cons_zero, List.set_cons_succ, i64_w, i32_w]
              rfl
            refine pure_ (i := 5) (N := some 37) (v := ?_) (a' := ?_) #[true, true, true, true, true, true, false, false, false, false, false, false] rfl rfl (any_of HT_.out (by kernel_rfl)) (fun _ _ _ h => h) (Or.inl ⟨by rfl, ?_⟩) ?_ ?_
            rotate_left
            · intro w'
              go_simp
              with_reducible rfl
            rotate_left
            · simp only [Act.put, List.setIfInBounds_toArray, List.set_cons_zero, List.set_cons_succ, i64_w, i32_w]
              rfl
            refine pure_ (i := 6) (N := some 38) (v := ?_) (a' := ?_) #[true, true, true, true, true, true, true, false, false, false, false, false] rfl rfl (any_of HT_.out (by kernel_rfl)) (fun _ _ _ h => h) (Or.inl ⟨by rfl, ?_⟩) ?_ ?_
            rotate_left
            · intro w'
              go_simp
              with_reducible rfl
            rotate_left
            · simp only [Act.put, List.setIfInBounds_toArray, List.set_cons_zero, List.set_cons_succ, i64_w, i32_w]
              rfl
            refine take_ (i := 7) (N := some 39) (v := ?_) (a' := ?_) #[true, true, true, true, true, true, true, true, false, false, false, false] rfl rfl (take_ofW HT_.out HW_.out (by kernel_rfl)) (fun _ _ _ h => h) (Or.inl ⟨by rfl, ?_⟩) hHeld ?_ ?_
            rotate_left
            · rintro w' ⟨s0, s1, s2, s3, s4, s5⟩
              go_simp
              with_reducible rfl
            rotate_left
            · simp only [Act.put, List.setIfInBounds_toArray, List.set_cons_zero, List.set_cons_succ, i64_w, i32_w]
              rfl
            refine one_ (i := 8) (N := some 40) #[true, true, true, true, true, true, true, true, true, false, false, false] rfl rfl (one_of HT_.out (by kernel_rfl)) (by decide) (fun K hK => ?_)
            refine goes_ Tryd.func17 (by kernel_rfl) rfl #[.int .i64 10, .agg #[.int .i64 x.f0, .int .i64 x.f1, .slice A0 n0 c0], .agg #[.int .i64 y.f0, .int .i64 y.f1, .slice A1 n1 c1]] (by rfl) rfl rfl (by (try simp only [List.map_toArray, List.map_cons, List.map_nil]); first | done | rfl) ?_
            refine (two0 10 x.f0 x.f1 y.f0 y.f1 (.slice A0 n0 c0) (.slice A1 n1 c1) _).mono ?_
            rintro e_ wb ⟨g2, hge, rfl, hx, hb⟩
            refine ⟨_, rfl, ?_⟩
            have HX := Aside0.mk (HE.out.two hge hx hb)
            have HE' := Aside0.mk (HE.out.step hb)
            clear HE hge hx hb
            have HE := HE'
            clear HE'
            refine hK.out _ _ (HE.out.cells) (fun hHeld => ?_)
            clear hK K
            refine norm_ (a' := ?_) ?_ ?_
            rotate_left
            · show Act.put _ (some 40) _ = _
              simp only [Act.put, List.setIfInBounds_toArray, List.set_cons_zero, List.set_cons_succ, i64_w, i32_w]
              rfl
            refine one_ (i := 9) (N := some 41) #[true, true, true, true, true, true, true, true, true, true, false, false] rfl rfl (one_of HT_.out (by kernel_rfl)) (by decide) (fun K hK => ?_)
            refine row_step ?hg (N := 41) ?hd (n := 1) (cs := #[.int .i64 10, .int .i64 0, .slice (some ⟨g2, 0, none⟩) 2 2]) (t := 24) ?hr ?_; (case hd => rfl); (case hg => rfl); (case hr => first | (go_simp; done) | (go_simp; rfl))
            intro gr hgr wc hx hb
            clear hgr
            have HX' := Aside0.mk (HX.out.keep (fun b h _ => hb.block b h) (fun _ _ h => h))
            have HE' := Aside0.mk (HE.out.step hb)
            have HR := Aside0.mk hx
            clear HX HE hb hx
            have HX := HX'
            have HE := HE'
            clear HX' HE'
            refine hK.out _ _ (HE.out.cells) (fun hHeld => ?_)
            clear hK K
            refine norm_ (a' := ?_) ?_ ?_
            rotate_left
            · show Act.put _ (some 41) _ = _
              simp only [Act.put, List.setIfInBounds_toArray, List.set_cons_zero, List.set_cons_succ, i64_w, i32_w]
              rfl
            refine last_ (i := 10) (N := some 42) #[true, true, true, true, true, true, true, true, true, true, true, false] rfl rfl (one_of HT_.out (by kernel_rfl)) (by decide) (fun K hK => ?_)
            refine app_step ?hw (N := 42) ?hd (.tmp 33) (.tmp 41) rfl rfl ⟨gr, 0, none⟩ 1 rfl (HE.out.rest_small) ⟨10, 0, [x, y]⟩ (some ⟨g2, 0, none⟩) 2 2 HX.out (by omega) (rowd HR.out 0) (rowd HR.out 1) (rowd HR.out 2) ?_; (case hw => rfl); (case hd => rfl)
            intro g' off' c2 W' q1 q2 q3 q4 q5 q6 q7
            have HN := Aside0.mk (HE.out.1.next q1 q2 q3 q4 q5 q6 q7)
            clear HE HX HR q1 q2 q3 q4 q5 q6 q7
            refine hK.out _ _ ?_
            clear hK K hHeld
            refine norm_ (a' := ?_) ?_ ?_
            rotate_left
            · show Act.put _ (some 42) _ = _
              simp only [Act.put, List.setIfInBounds_toArray, List.set_cons_zero, List.set_cons_succ, i64_w, i32_w]
              rfl
            refine pure_ (i := 11) (N := some 7) (v := ?_) (a' := ?_) #[true, true, true, true, true, true, true, true, true, true, true, true] rfl rfl (any_of HT_.out (by kernel_rfl)) (fun _ _ _ h => h) (Or.inl ⟨by rfl, ?_⟩) ?_ ?_
            rotate_left
            · intro w'
              go_simp
              with_reducible rfl
            rotate_left
            · simp only [Act.put, List.setIfInBounds_toArray, List.set_cons_zero, List.set_cons_succ, i64_w, i32_w]
              rfl
            refine done_ (done_of HT_.out (by kernel_rfl)) ?_
            go_wp2_with fail
            go_roundw
            case rel => exact ⟨k + 1, g', off', c2, by omega, by rw [show m - (k + 1) = 1 by omega], by rw [HQ1.out, show m - (k + 1) = 0 + 1 by omega]; exact HN.out, by rw [HQ1.out]; have := HRL.out; simp only [List.length_cons, List.length_append, List.length_nil] at this ⊢; omega⟩
            case measure => simp [lenV]
          · have hc3 : 2 < c := by omega
            have m2 : ((2 : Int) ≤ (M : Int)) = True := eq_true (by omega)
            have m1 : ((1 : Int) < (M : Int)) = True := eq_true (by omega)
            have m0 : ((0 : Int) < (M : Int)) = True := eq_true (by omega)
            have m0n : (0 < M) = True := eq_true (by omega)
            refine start_ (n := 12) (S := fun w' => w'.cell? ⟨g, off, none⟩ = some (.int .i64 x.f0) ∧ w'.cell? ⟨g, off + 1, none⟩ = some (.int .i64 x.f1) ∧ w'.cell? ⟨g, off + 2, none⟩ = some (.slice A0 n0 c0) ∧ w'.cell? ⟨g, off + 3, none⟩ = some (.int .i64 y.f0) ∧ w'.cell? ⟨g, off + 3 + 1, none⟩ = some (.int .i64 y.f1) ∧ w'.cell? ⟨g, off + 3 + 2, none⟩ = some (.slice A1 n1 c1)) (ds := [10]) #[false, false, false, false, false, false, false, false, false, false, false, false] (by kernel_rfl) rfl rfl (HE.out.cells) (fun hHeld => ?_); refine with_tabW deepW.tab10 deepW.bits10 (fun HT_ HW_ => ?_)
            have HE' := Aside0.mk (HE.out.step (below_drew1 (Below.refl _ _)))
            clear HE
            have HE := HE'
            clear HE'
            generalize World.drew _ = wa at HE hHeld ⊢
            refine pure_ (i := 0) (N := some 32) (v := ?_) (a' := ?_) #[true, false, false, false, false, false, false, false, false, false, false, false] rfl rfl (any_of HT_.out (by kernel_rfl)) (fun _ _ _ h => h) (Or.inl ⟨by rfl, ?_⟩) ?_ ?_
            rotate_left
            · intro w'
              go_simp
              with_reducible rfl
            rotate_left
            · simp only [Act.put, List.setIfInBounds_toArray, List.set_cons_zero, List.set_cons_succ, i64_w, i32_w]
              rfl
            refine pure_ (i := 1) (N := some 33) (v := ?_) (a' := ?_) #[true, true, false, false, false, false, false, false, false, false, false, false] rfl rfl (any_of HT_.out (by kernel_rfl)) (fun _ _ _ h => h) (Or.inl ⟨by rfl, ?_⟩) ?_ ?_
            rotate_left
            · intro w'
              go_simp
              with_reducible rfl
            rotate_left
            · simp only [Act.put, List.setIfInBounds_toArray, List.set_cons_zero, List.set_cons_succ, i64_w, i32_w]
              rfl
            refine pure_ (i := 2) (N := some 34) (v := ?_) (a' := ?_) #[true, true, true, false, false, false, false, false, false, false, false, false] rfl rfl (any_of HT_.out (by kernel_rfl)) (fun _ _ _ h => h) (Or.inl ⟨by rfl, ?_⟩) ?_ ?_
            rotate_left
            · intro w'
              go_simp
              with_reducible rfl
            rotate_left
            · simp only [Act.put, List.setIfInBounds_toArray, List.set_cons_zero, List.set_cons_succ, i64_w, i32_w]
              rfl
            refine pure_ (i := 3) (N := some 35) (v := ?_) (a' := ?_) #[true, true, true, true, false, false, false, false, false, false, false, false] rfl rfl (any_of HT_.out (by kernel_rfl)) (fun _ _ _ h => h) (Or.inl ⟨by rfl, ?_⟩) ?_ ?_
            rotate_left
            · intro w'
              go_simp
              with_reducible rfl
            rotate_left
            · simp only [Act.put, List.setIfInBounds_toArray, List.set_cons_zero, List.set_cons_succ, i64_w, i32_w]
              rfl
            refine take_ (i := 4) (N := some 36) (v := ?_) (a' := ?_) #[true, true, true, true, true, false, false, false, false, false, false, false] rfl rfl (take_ofW HT_.out HW_.out (by kernel_rfl)) (fun _ _ _ h => h) (Or.inl ⟨by rfl, ?_⟩) hHeld ?_ ?_
            rotate_left
            · rintro w' ⟨s0, s1, s2, s3, s4, s5⟩
              go_simp
              with_reducible rfl
            rotate_left
            · simp only [Act.put, List.setIfInBounds_toArray, List.set_cons_zero, List.set_cons_succ, i64_w, i32_w]
              rfl
            refine pure_ (i := 5) (N := some 37) (v := ?_) (a' := ?_) #[true, true, true, true, true, true, false, false, false, false, false, false] rfl rfl (any_of HT_.out (by kernel_rfl)) (fun _ _ _ h => h) (Or.inl ⟨by rfl, ?_⟩) ?_ ?_
            rotate_left
            · intro w'
              go_simp
              with_reducible rfl
            rotate_left
            · simp only [Act.put, List.setIfInBounds_toArray, List.set_cons_zero, List.set_cons_succ, i64_w, i32_w]
              rfl
            refine pure_ (i := 6) (N := some 38) (v := ?_) (a' := ?_) #[true, true, true, true, true, true, true, false, false, false, false, false] rfl rfl (any_of HT_.out (by kernel_rfl)) (fun _ _ _ h => h) (Or.inl ⟨by rfl, ?_⟩) ?_ ?_
            rotate_left
            · intro w'
              go_simp
              with_reducible rfl
            rotate_left
            · simp only [Act.put, List.setIfInBounds_toArray, List.set_cons_zero, List.set_cons_succ, i64_w, i32_w]
              rfl
            refine take_ (i := 7) (N := some 39) (v := ?_) (a' := ?_) #[true, true, true, true, true, true, true, true, false, false, false, false] rfl rfl (take_ofW HT_.out HW_.out (by kernel_rfl)) (fun _ _ _ h => h) (Or.inl ⟨by rfl, ?_⟩) hHeld ?_ ?_
            rotate_left
            · rintro w' ⟨s0, s1, s2, s3, s4, s5⟩
              go_simp
              with_reducible rfl
            rotate_left
            · simp only [Act.put, List.setIfInBounds_toArray, List.set_cons_zero, List.set_cons_succ, i64_w, i32_w]
              rfl
            refine one_ (i := 8) (N := some 40) #[true, true, true, true, true, true, true, true, true, false, false, false] rfl rfl (one_of HT_.out (by kernel_rfl)) (by decide) (fun K hK => ?_)
            refine goes_ Tryd.func17 (by kernel_rfl) rfl #[.int .i64 10, .agg #[.int .i64 x.f0, .int .i64 x.f1, .slice A0 n0 c0], .agg #[.int .i64 y.f0, .int .i64 y.f1, .slice A1 n1 c1]] (by rfl) rfl rfl (by (try simp only [List.map_toArray, List.map_cons, List.map_nil]); first | done | rfl) ?_
            refine (two0 10 x.f0 x.f1 y.f0 y.f1 (.slice A0 n0 c0) (.slice A1 n1 c1) _).mono ?_
            rintro e_ wb ⟨g2, hge, rfl, hx, hb⟩
            refine ⟨_, rfl, ?_⟩
            have HX := Aside0.mk (HE.out.two hge hx hb)
            have HE' := Aside0.mk (HE.out.step hb)
            clear HE hge hx hb
            have HE := HE'
            clear HE'
            refine hK.out _ _ (HE.out.cells) (fun hHeld => ?_)
            clear hK K
            refine norm_ (a' := ?_) ?_ ?_
            rotate_left
            · show Act.put _ (some 40) _ = _
              simp only [Act.put, List.setIfInBounds_toArray, List.set_cons_zero, List.set_cons_succ, i64_w, i32_w]
              rfl
            refine one_ (i := 9) (N := some 41) #[true, true, true, true, true, true, true, true, true, true, false, false] rfl rfl (one_of HT_.out (by kernel_rfl)) (by decide) (fun K hK => ?_)
            refine row_step ?hg (N := 41) ?hd (n := 1) (cs := #[.int .i64 10, .int .i64 0, .slice (some ⟨g2, 0, none⟩) 2 2]) (t := 24) ?hr ?_; (case hd => rfl); (case hg => rfl); (case hr => first | (go_simp; done) | (go_simp; rfl))
            intro gr hgr wc hx hb
            clear hgr
            have HX' := Aside0.mk (HX.out.keep (fun b h _ => hb.block b h) (fun _ _ h => h))
            have HE' := Aside0.mk (HE.out.step hb)
            have HR := Aside0.mk hx
            clear HX HE hb hx
            have HX := HX'
            have HE := HE'
            clear HX' HE'
            refine hK.out _ _ (HE.out.cells) (fun hHeld => ?_)
            clear hK K
            refine norm_ (a' := ?_) ?_ ?_
            rotate_left
            · show Act.put _ (some 41) _ = _
              simp only [Act.put, List.setIfInBounds_toArray, List.set_cons_zero, List.set_cons_succ, i64_w, i32_w]
              rfl
            refine last_ (i := 10) (N := some 42) #[true, true, true, true, true, true, true, true, true, true, true, false] rfl rfl (one_of HT_.out (by kernel_rfl)) (by decide) (fun K hK => ?_)
            refine app_step ?hw (N := 42) ?hd (.tmp 33) (.tmp 41) rfl rfl ⟨gr, 0, none⟩ 1 rfl (HE.out.rest) ⟨10, 0, [x, y]⟩ (some ⟨g2, 0, none⟩) 2 2 HX.out (by omega) (rowd HR.out 0) (rowd HR.out 1) (rowd HR.out 2) ?_; (case hw => rfl); (case hd => rfl)
            intro g' off' c2 W' q1 q2 q3 q4 q5 q6 q7
            have HN := Aside0.mk (HE.out.1.next q1 q2 q3 q4 q5 q6 q7)
            clear HE HX HR q1 q2 q3 q4 q5 q6 q7
            refine hK.out _ _ ?_
            clear hK K hHeld
            refine norm_ (a' := ?_) ?_ ?_
            rotate_left
            · show Act.put _ (some 42) _ = _
              simp only [Act.put, List.setIfInBounds_toArray, List.set_cons_zero, List.set_cons_succ, i64_w, i32_w]
              rfl
            refine pure_ (i := 11) (N := some 7) (v := ?_) (a' := ?_) #[true, true, true, true, true, true, true, true, true, true, true, true] rfl rfl (any_of HT_.out (by kernel_rfl)) (fun _ _ _ h => h) (Or.inl ⟨by rfl, ?_⟩) ?_ ?_
            rotate_left
            · intro w'
              go_simp
              with_reducible rfl
            rotate_left
            · simp only [Act.put, List.setIfInBounds_toArray, List.set_cons_zero, List.set_cons_succ, i64_w, i32_w]
              rfl
            refine done_ (done_of HT_.out (by kernel_rfl)) ?_
            go_wp2_with fail
            go_roundw
            case rel => exact ⟨k + 1, g', off', c2, by omega, by rw [show m - (k + 1) = M - 2 + 1 by omega], by rw [HQ1.out, show m - (k + 1) = M - 2 + 1 by omega]; exact HN.out, by rw [HQ1.out]; have := HRL.out; simp only [List.length_cons, List.length_append, List.length_nil] at this ⊢; omega⟩
            case measure => simp [lenV]; omega
        · have d1 : decide ((1 : Int) < (M : Int)) = false := decide_eq_false (by omega)
          obtain rfl : M = 1 := by omega
          obtain rfl : k = m - 1 := by omega
          obtain ⟨x, hx, hc⟩ := wide_check m hm1 hN2
          rw [hx] at HW
          obtain ⟨A, na, ca, e0, e1, e2, e3⟩ := HW.out.2.1.2.2.2.2.2 0 x rfl
          simp only [Nat.mul_zero, Nat.add_zero] at e0 e1 e2
          have HX := Aside0.mk e3
          have HB := Aside0.mk HW.out.2.2.2.2
          have hgl := HW.out.2.1.2.2.2.1
          clear e3 hx hlen HW
          by_cases h16 : m ≤ 16
          · have d16 : decide (2 * (m : Int) - 1 ≤ 32) = true := decide_eq_true (by omega)
            rw [if_pos h16] at hc
            have HC := Aside0.mk hc
            clear hc
            go_wp2_with fail
            refine (echeck1 400 x A na ca 0 wr HX.out.xv HC.out).mono ?_
            rintro e_ wf ⟨rfl, hb⟩
            have HN := Aside0.mk (below_step HB.out hb)
            clear hb e0 e1 e2 HX HC HB
            go_wp2_with fail
            go_ret
            exact ⟨rfl, HN.out⟩
          · have d16 : decide (2 * (m : Int) - 1 ≤ 32) = false := decide_eq_false (by omega)
            rw [if_neg h16] at hc
            have HC := Aside0.mk hc
            clear hc
            go_wp2_with fail
            refine (echeck1 400 x A na ca 71 wr HX.out.xv HC.out).mono ?_
            rintro e_ wf ⟨rfl, hb⟩
            have HN := Aside0.mk (below_step HB.out hb)
            have HV := Aside0.mk (HX.out.xv.below hb)
            replace e0 := (hb.cell (p := ⟨g, off, none⟩) hgl).trans e0
            replace e1 := (hb.cell (p := ⟨g, off + 1, none⟩) hgl).trans e1
            replace e2 := (hb.cell (p := ⟨g, off + 2, none⟩) hgl).trans e2
            clear hb HX HB
            go_wp2_with fail
            refine (echeck1 400 x A na ca 71 wf HV.out HC.out).mono ?_
            rintro e_ wg ⟨rfl, hb⟩
            have HM := Aside0.mk (below_step HN.out hb)
            clear hb HN HV HC e0 e1 e2
            go_wp2_with fail
            go_ret
            exact ⟨rfl, HM.out⟩
def leatlaw7_ExprDeep.f (a0 : Int) (a1 : Bool) : Option Bool := if -9223372036854775808 ≤ a0 ∧ a0 ≤ 9223372036854775807 then some true else none
theorem leatlaw7_ExprDeep.calls (a0 : Int) (a1 : Bool) (r : Bool) (w : World) (htab : TabW w) (h : leatlaw7_ExprDeep.f a0 a1 = some r) : Calls Tryd.prog 6 #[.int .i64 a0, .bool a1] w fun e w' => e = .returned (.bool r) ∧ Below w.heap.size w w' := by
  unfold leatlaw7_ExprDeep.f at h
  split at h
  · rename_i hh
    obtain rfl : true = r := Option.some.inj h
    cases a1 with
    | false => exact deepNarrow a0 hh.1 hh.2 w htab
    | true => exact deepWide a0 hh.1 hh.2 w htab
  · cases h
end Go.Proofs.YtdmfakgbiaaacaaDoor.X
namespace Go.Proofs.YtdmfakgbiaaacaaDoor.X
open Go.RowKit Go.Proofs.YtdmfakgbiaaacaaDoorW.PrintWords Go.Proofs.YtdmfakgbiaaacaaDoorW.PrintLast Go.Proofs.YtdmfakgbiaaacaaDoorW.PrintMore
attribute [local go_sem] max2_int min2_int max_two min_two max_three min_three max_four min_four   -- for this text's walks alone
set_option linter.unusedVariables false
set_option linter.unusedSimpArgs false
end Go.Proofs.YtdmfakgbiaaacaaDoor.X
namespace Go.Proofs.YtdmfakgbiaaacaaDoor.X
open Go.RowKit Go.Proofs.YtdmfakgbiaaacaaDoorW.PrintWords Go.Proofs.YtdmfakgbiaaacaaDoorW.PrintLast Go.Proofs.YtdmfakgbiaaacaaDoorW.PrintMore
attribute [local go_sem] max2_int min2_int max_two min_two max_three min_three max_four min_four   -- for this text's walks alone
set_option linter.unusedVariables false
set_option linter.unusedSimpArgs false
end Go.Proofs.YtdmfakgbiaaacaaDoor.X
