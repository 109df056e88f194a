/- Proofs towards the law ExprLaws, joined into one text. No conditions beyond those typed. -/
import Derived.Test.YtdmfakgbiaaacaaDoorMExprLaws8
import Derived.Test.YtdmfakgbiaaacaaDoorMExprLaws10
import Derived.Test.YtdmfakgbiaaacaaDoorMExprLaws9
import Derived.WalkLawsBesides
namespace Go.Proofs.YtdmfakgbiaaacaaDoor.X
open Go.RowKit Go.Proofs.YtdmfakgbiaaacaaDoorW.PrintWords Go.Proofs.YtdmfakgbiaaacaaDoorW.PrintLast Go.Proofs.YtdmfakgbiaaacaaDoorW.PrintMore
attribute [local go_sem] max2_int min2_int max_two min_two max_three min_three max_four min_four   -- for this text's walks alone
set_option linter.unusedVariables false
set_option linter.unusedSimpArgs false
mutual
def expr_text.l0 : Nat → List ByteArray → List (S24) → Int → Int → Int → Int → List (S24) → Option (ByteArray)
 | 0, _, _, _, _, _, _, _ => none
 | k + 1, x3, x21, x22, x23, x139000, x139001, x139002 => if x23 < x22 then (if 0 ≤ x23 then (if x23 < (x21.length : Int) then ((expr_text.f k ((rd_T24 x21 x23).f0) ((rd_T24 x21 x23).f1) ((rd_T24 x21 x23).f2)).bind fun t143 => (if x3.length < 8796093022208 then (expr_text.l0 k (x3 ++ [t143]) x21 x22 (wrap64 (x23 + 1)) x139000 x139001 x139002) else (none))) else (none)) else (none)) else ((expr_word.f x139000).bind fun t147 => (if t147.size + 1 ≤ 9223372036854775807 then ((strings_Join.f x3 (⟨#[44, 32]⟩ : ByteArray)).bind fun t148 => (if (t147 ++ (⟨#[40]⟩ : ByteArray)).size + t148.size ≤ 9223372036854775807 then (if ((t147 ++ (⟨#[40]⟩ : ByteArray)) ++ t148).size + 1 ≤ 9223372036854775807 then (some (((t147 ++ (⟨#[40]⟩ : ByteArray)) ++ t148) ++ (⟨#[41]⟩ : ByteArray))) else (none)) else (none))) else (none)))
def expr_text.f : Nat → Int → Int → List (S24) → Option (ByteArray)
 | 0, _, _, _ => none
 | k + 1, a0_0, a0_1, l0_2 => if a0_0 = 1 then ((strconv_FormatInt_32.f a0_1 10).bind fun t139 => (if 1 + t139.size ≤ 9223372036854775807 then (some ((⟨#[99]⟩ : ByteArray) ++ t139)) else (none))) else (if (l0_2.length : Int) = 0 then ((expr_word.f a0_0).bind fun t140 => (some t140)) else (expr_text.l0 k ([] : List ByteArray) l0_2 (l0_2.length : Int) 0 a0_0 a0_1 l0_2))
end
set_option maxHeartbeats 8000000 in
set_option maxRecDepth 100000 in
theorem expr_text.calls (k : Nat) : ∀ (a0_0 : Int) (a0_1 : Int) (A0_2 : Option Addr) (c0_2 : Nat) (l0_2 : List (S24)) (r : ByteArray) (w : World) (htab : TabW w) (hr0_2 : Kd.C k24 w A0_2 l0_2.length l0_2) (hc0_2 : l0_2.length ≤ c0_2) (h : expr_text.f k a0_0 a0_1 l0_2 = some r),
  Calls Tryd.prog 27 #[.agg #[.int .i64 a0_0, .int .i64 a0_1, .slice A0_2 l0_2.length c0_2]] w fun e w' => e = .returned (.string r) ∧ Below w.heap.size w w' := by
 induction k using Nat.strongRecOn with
 | _ k ih =>
 intro a0_0 a0_1 A0_2 c0_2 l0_2 r w htab hr0_2 hc0_2 h
 cases k with
 | zero => exact absurd h (by simp [expr_text.f])
 | succ k =>
 simp only [expr_text.f] at h
 have hu24 := Tryd.underlying24
 have HR0_2 := Aside0.mk hr0_2
 have HC0_2 := Aside0.mk hc0_2
 clear hr0_2 hc0_2
 have HT := Aside0.mk htab
 clear htab
 have HB := Aside0.mk (Below.refl w.heap.size w)
 have H : (if a0_0 = 1 then ((strconv_FormatInt_32.f a0_1 10).bind fun t139 => (if 1 + t139.size ≤ 9223372036854775807 then (some ((⟨#[99]⟩ : ByteArray) ++ t139)) else (none))) else (if (l0_2.length : Int) = 0 then ((expr_word.f a0_0).bind fun t140 => (some t140)) else (expr_text.l0 k ([] : List ByteArray) l0_2 (l0_2.length : Int) 0 a0_0 a0_1 l0_2))) = some r := h
 clear h
 by_cases c2 : a0_0 = 1
 ·rw [if_pos c2] at H
  have c2b0 : (a0_0 == 1) = true := beq_iff_eq.mpr c2
  have c2b1 : (a0_0 != 1) = false := bne_eq_false_iff_eq.mpr c2
  clear c2
  replace H := Option.bind_eq_some_iff.mp H
  obtain ⟨t139, A30, H⟩ := H
  replace H : (if 1 + t139.size ≤ 9223372036854775807 then (some ((⟨#[99]⟩ : ByteArray) ++ t139)) else (none)) = some r := H
  have A3 := Aside0.mk A30
  clear A30
  by_cases c4 : 1 + t139.size ≤ 9223372036854775807
  ·rw [if_pos c4] at H
   have c4b0 := eq_true c4
   have c4b1 : decide (1 + t139.size ≤ 9223372036854775807) = true := decide_eq_true c4
   try have c4b2 : (9223372036854775807 < 1 + t139.size) = False := eq_false (Nat.not_lt.2 c4)
   obtain rfl := Option.some.inj H
   go_enter Tryd.func27, Tryd.ntmps27
   go_wp2_with (first | ((with_reducible refine gate_dst (N := 1) rfl ?_); refine box_event ?hg (N := 1) ?hd (cs := #[.int .i64 a0_0, .int .i64 a0_1, .slice A0_2 l0_2.length c0_2]) (t := 24) ?hr ?_; (case hd => rfl); (case hg => rfl); (case hr => first | (go_simp; done) | (go_simp; rfl)); intro gb138 hg w5 hbox hb; have n0_ := Aside0.mk (below_step (by repeat (first | (with_reducible first | exact HB.out | apply below_alloc | apply pw_below_drewN | apply below_drew1) | exact HB.out)) hb); have n1_ := Aside0.mk (hbox); have n2_ := Aside0.mk ((by rw [hg]; exact (below_size (by repeat (first | (with_reducible first | exact HB.out | apply below_alloc | apply pw_below_drewN | apply below_drew1) | exact HB.out))) : w.heap.size ≤ gb138)); have n3_ := Aside0.mk ((by rw [hg]; exact (below_size (by repeat (first | (with_reducible first | exact HB.out | apply below_alloc | apply pw_below_drewN | apply below_drew1) | exact HB.out))) : w.heap.size ≤ gb138)); clear HB; have HB := n0_; have BK138 := n1_; have GW138 := n2_; have GE138 := n3_; clear n0_ n1_ n2_ n3_; clear hb hbox hg; have hcz6_0 : w5.cell? ⟨gb138, 0, none⟩ = some (.int .i64 a0_0) := (blk_cell BK138.out 0).trans rfl; have hcz6_1 : w5.cell? ⟨gb138, 1, none⟩ = some (.int .i64 a0_1) := (blk_cell BK138.out 1).trans rfl; have hcz6_2 : w5.cell? ⟨gb138, 2, none⟩ = some (.slice A0_2 l0_2.length c0_2) := (blk_cell BK138.out 2).trans rfl; have hfz6_0 := blk_frozen BK138.out 0; have hfz6_1 := blk_frozen BK138.out 1; have hfz6_2 := blk_frozen BK138.out 2) | ((with_reducible refine gate_callee (f := 32) rfl ?_); refine goesL_ (some 11) rfl rfl Tryd.func32 (by kernel_rfl) rfl #[.int .i64 a0_1, .int .i64 10] rfl (by (try simp only [List.map_toArray, List.map_cons, List.map_nil]); first | done | rfl | (simp only [List.length_drop, List.length_take]; rfl)) ?_; (with_reducible refine (strconv_FormatInt_32.calls a0_1 10 t139 _ ?sideT A3.out).mono ?_); (case sideT => exact TabW.below HT.out (by repeat (first | (with_reducible first | exact HB.out | apply below_alloc | apply pw_below_drewN | apply below_drew1 | refine below_set ?_ GE138.out) | exact HB.out))); rintro e w7 ⟨rfl, hb⟩; refine ⟨_, rfl, ?_⟩; have n0_ := Aside0.mk (blk_below (g := gb138) (o := .cells #[.int .i64 a0_0, .int .i64 a0_1, .slice A0_2 l0_2.length c0_2] 24 (0, 0)) (by (with_reducible repeat (first | refine blk_drewN ?_ _ | refine blk_drew ?_ | refine blk_alloc ?_ _)); exact BK138.out) hb); have n1_ := Aside0.mk (below_step (by repeat (first | (with_reducible first | exact HB.out | apply below_alloc | apply pw_below_drewN | apply below_drew1 | refine below_set ?_ GE138.out) | exact HB.out)) hb); clear BK138; clear HB; have BK138 := n0_; have HB := n1_; clear n0_ n1_; (try clear hb); (try clear hb2); (try clear hk); (try clear hi)))
   go_ret
   exact ⟨by first | rfl | (simp [errW_none, errW_some] <;> rfl) | (simp [*, errW_none, errW_some] <;> rfl), by repeat (first | (with_reducible first | exact HB.out | apply below_alloc | apply pw_below_drewN | apply below_drew1 | refine below_set ?_ GE138.out) | exact HB.out)⟩
  ·rw [if_neg c4] at H
   exact absurd H (by simp)
 ·rw [if_neg c2] at H
  have c2b0 : (a0_0 == 1) = false := beq_eq_false_iff_ne.mpr c2
  have c2b1 : (a0_0 != 1) = true := bne_iff_ne.mpr c2
  by_cases c8 : (l0_2.length : Int) = 0
  ·rw [if_pos c8] at H
   have c8b0 : ((l0_2.length : Int) == 0) = true := beq_iff_eq.mpr c8
   have c8b1 : ((l0_2.length : Int) != 0) = false := bne_eq_false_iff_eq.mpr c8
   clear c8
   replace H := Option.bind_eq_some_iff.mp H
   obtain ⟨t140, A90, H⟩ := H
   replace H : (some t140) = some r := H
   have A9 := Aside0.mk A90
   clear A90
   obtain rfl := Option.some.inj H
   go_enter Tryd.func27, Tryd.ntmps27
   go_wp2_with (first | ((with_reducible refine gate_dst (N := 1) rfl ?_); refine box_event ?hg (N := 1) ?hd (cs := #[.int .i64 a0_0, .int .i64 a0_1, .slice A0_2 l0_2.length c0_2]) (t := 24) ?hr ?_; (case hd => rfl); (case hg => rfl); (case hr => first | (go_simp; done) | (go_simp; rfl)); intro gb138 hg w10 hbox hb; have n0_ := Aside0.mk (below_step (by repeat (first | (with_reducible first | exact HB.out | apply below_alloc | apply pw_below_drewN | apply below_drew1) | exact HB.out)) hb); have n1_ := Aside0.mk (hbox); have n2_ := Aside0.mk ((by rw [hg]; exact (below_size (by repeat (first | (with_reducible first | exact HB.out | apply below_alloc | apply pw_below_drewN | apply below_drew1) | exact HB.out))) : w.heap.size ≤ gb138)); have n3_ := Aside0.mk ((by rw [hg]; exact (below_size (by repeat (first | (with_reducible first | exact HB.out | apply below_alloc | apply pw_below_drewN | apply below_drew1) | exact HB.out))) : w.heap.size ≤ gb138)); clear HB; have HB := n0_; have BK138 := n1_; have GW138 := n2_; have GE138 := n3_; clear n0_ n1_ n2_ n3_; clear hb hbox hg; have hcz11_0 : w10.cell? ⟨gb138, 0, none⟩ = some (.int .i64 a0_0) := (blk_cell BK138.out 0).trans rfl; have hcz11_1 : w10.cell? ⟨gb138, 1, none⟩ = some (.int .i64 a0_1) := (blk_cell BK138.out 1).trans rfl; have hcz11_2 : w10.cell? ⟨gb138, 2, none⟩ = some (.slice A0_2 l0_2.length c0_2) := (blk_cell BK138.out 2).trans rfl; have hfz11_0 := blk_frozen BK138.out 0; have hfz11_1 := blk_frozen BK138.out 1; have hfz11_2 := blk_frozen BK138.out 2) | ((with_reducible refine gate_callee (f := 33) rfl ?_); refine goesL_ (some 19) rfl rfl Tryd.func33 (by kernel_rfl) rfl #[.int .i64 a0_0] rfl (by (try simp only [List.map_toArray, List.map_cons, List.map_nil]); first | done | rfl | (simp only [List.length_drop, List.length_take]; rfl)) ?_; (with_reducible refine (expr_word.calls a0_0 t140 _ A9.out).mono ?_); rintro e w12 ⟨rfl, hb⟩; refine ⟨_, rfl, ?_⟩; have n0_ := Aside0.mk (blk_below (g := gb138) (o := .cells #[.int .i64 a0_0, .int .i64 a0_1, .slice A0_2 l0_2.length c0_2] 24 (0, 0)) (by (with_reducible repeat (first | refine blk_drewN ?_ _ | refine blk_drew ?_ | refine blk_alloc ?_ _)); exact BK138.out) hb); have n1_ := Aside0.mk (below_step (by repeat (first | (with_reducible first | exact HB.out | apply below_alloc | apply pw_below_drewN | apply below_drew1 | refine below_set ?_ GE138.out) | exact HB.out)) hb); clear BK138; clear HB; have BK138 := n0_; have HB := n1_; clear n0_ n1_; (try clear hb); (try clear hb2); (try clear hk); (try clear hi)))
   go_ret
   exact ⟨by first | rfl | (simp [errW_none, errW_some] <;> rfl) | (simp [*, errW_none, errW_some] <;> rfl), by repeat (first | (with_reducible first | exact HB.out | apply below_alloc | apply pw_below_drewN | apply below_drew1 | refine below_set ?_ GE138.out) | exact HB.out)⟩
  ·rw [if_neg c8] at H
   have c8b0 : ((l0_2.length : Int) == 0) = false := beq_eq_false_iff_ne.mpr c8
   have c8b1 : ((l0_2.length : Int) != 0) = true := bne_iff_ne.mpr c8
   have c8b2 : ¬ (l0_2 = []) := fun h_ => c8 (by rw [h_]; rfl)
   have H' := Aside0.mk H
   clear H
   go_enter Tryd.func27, Tryd.ntmps27
   go_wp2_with (first | ((with_reducible refine gate_dst (N := 1) rfl ?_); refine box_event ?hg (N := 1) ?hd (cs := #[.int .i64 a0_0, .int .i64 a0_1, .slice A0_2 l0_2.length c0_2]) (t := 24) ?hr ?_; (case hd => rfl); (case hg => rfl); (case hr => first | (go_simp; done) | (go_simp; rfl)); intro gb138 hg w13 hbox hb; have n0_ := Aside0.mk (below_step (by repeat (first | (with_reducible first | exact HB.out | apply below_alloc | apply pw_below_drewN | apply below_drew1) | exact HB.out)) hb); have n1_ := Aside0.mk (hbox); have n2_ := Aside0.mk ((by rw [hg]; exact (below_size (by repeat (first | (with_reducible first | exact HB.out | apply below_alloc | apply pw_below_drewN | apply below_drew1) | exact HB.out))) : w.heap.size ≤ gb138)); have n3_ := Aside0.mk ((by rw [hg]; exact (below_size (by repeat (first | (with_reducible first | exact HB.out | apply below_alloc | apply pw_below_drewN | apply below_drew1) | exact HB.out))) : w.heap.size ≤ gb138)); clear HB; have HB := n0_; have BK138 := n1_; have GW138 := n2_; have GE138 := n3_; clear n0_ n1_ n2_ n3_; clear hb hbox hg; have hcz14_0 : w13.cell? ⟨gb138, 0, none⟩ = some (.int .i64 a0_0) := (blk_cell BK138.out 0).trans rfl; have hcz14_1 : w13.cell? ⟨gb138, 1, none⟩ = some (.int .i64 a0_1) := (blk_cell BK138.out 1).trans rfl; have hcz14_2 : w13.cell? ⟨gb138, 2, none⟩ = some (.slice A0_2 l0_2.length c0_2) := (blk_cell BK138.out 2).trans rfl; have hfz14_0 := blk_frozen BK138.out 0; have hfz14_1 := blk_frozen BK138.out 1; have hfz14_2 := blk_frozen BK138.out 2))
   go_loopg [3, 23] k (fun kq v3 v23 w' => ∃ (x3_1 : List ByteArray) (x23_1 : Int), v23 = .int .i64 x23_1 ∧ Aside0 (expr_text.l0 kq x3_1 l0_2 (l0_2.length : Int) x23_1 a0_0 a0_1 l0_2 = some r) ∧ Aside0 (kq ≤ k) ∧ Aside0 (Kd.R Kd.string 9 w' w.heap.size (fun _ => True) v3 x3_1) ∧ Aside0 (w'.heap[gb138]? = some (.cells #[.int .i64 a0_0, .int .i64 a0_1, (.slice A0_2 l0_2.length c0_2)] 24 (0, 0))) ∧ Aside0 (Below w.heap.size w w'))
   case atStart => exact ⟨(([] : List ByteArray)), (0), (by first | rfl | (simp; done) | (simp [*]; done)), H', ⟨Nat.le_refl _⟩, ⟨by first | exact Kd.R_nil _ _ _ _ _ | exact Kd.N_nil _ _ _ _ _ | exact Kd.V_nil _ _ _ _ _ | exact Kd.Q_nil _ _ _ _ _ | exact Kd.S_nil _ _ _ _ _⟩, ⟨by (with_reducible repeat (first | refine blk_drewN ?_ _ | refine blk_drew ?_ | refine blk_alloc ?_ _)); exact BK138.out⟩, ⟨by repeat (first | (with_reducible first | exact HB.out | apply below_alloc | apply pw_below_drewN | apply below_drew1 | refine below_set ?_ GE138.out) | exact HB.out)⟩⟩
   case round =>
    clear H'
    try clear c2; try clear c2b0; try clear c2b1; try clear p2; try clear c3; try clear c4; try clear c4b0; try clear c4b1; try clear c4b2; try clear c8; try clear c8b0; try clear c8b1; try clear c8b2; try clear hcz11_0; try clear hcz11_1; try clear hcz11_2; try clear hcz14_0; try clear hcz14_1; try clear hcz14_2; try clear hcz6_0; try clear hcz6_1; try clear hcz6_2; try clear hfz11_0; try clear hfz11_1; try clear hfz11_2; try clear hfz14_0; try clear hfz14_1; try clear hfz14_2; try clear hfz6_0; try clear hfz6_1; try clear hfz6_2
    obtain ⟨x3_1, x23_1, rfl, HA, HK1, HO_3, BK138, HB⟩ := hrel
    cases gk with
    | zero => exact absurd HA.out (by simp [expr_text.l0])
    | succ k1 =>
     have H := HA.out
     clear HA
     simp only [expr_text.l0] at H
     by_cases c15 : x23_1 < (l0_2.length : Int)
     ·rw [if_pos c15] at H
      have c15b0 : decide (x23_1 < (l0_2.length : Int)) = true := decide_eq_true c15
      clear c15
      by_cases c16 : 0 ≤ x23_1
      ·rw [if_pos c16] at H
       have c16b0 : decide (0 ≤ x23_1) = true := decide_eq_true c16
       clear c16
       by_cases c17 : x23_1 < (l0_2.length : Int)
       ·rw [if_pos c17] at H
        have c17b0 : decide (x23_1 < (l0_2.length : Int)) = true := decide_eq_true c17
        clear c17
        replace H := Option.bind_eq_some_iff.mp H
        obtain ⟨t143, A180, H⟩ := H
        replace H : (if x3_1.length < 8796093022208 then (expr_text.l0 k1 (x3_1 ++ [t143]) l0_2 (l0_2.length : Int) (wrap64 (x23_1 + 1)) a0_0 a0_1 l0_2) else (none)) = some r := H
        have A18 := Aside0.mk A180
        clear A180
        by_cases c19 : x3_1.length < 8796093022208
        ·rw [if_pos c19] at H
         have LMc19 := Aside0.mk c19
         clear c19
         obtain ⟨y144, hy144⟩ : ∃ y_ : List ByteArray, y_ = (x3_1 ++ [t143]) := ⟨_, rfl⟩
         replace H : (expr_text.l0 k1 y144 l0_2 (l0_2.length : Int) (wrap64 (x23_1 + 1)) a0_0 a0_1 l0_2) = some r := by first | (rw [hy144]; with_reducible exact H) | (have H2_ := (Option.bind_some _ _).symm.trans H; rw [hy144]; with_reducible exact H2_) | (have H2_ := (Option.bind_some _ _).symm.trans H; with_reducible exact H2_) | with_reducible exact H | (rw [hy144]; exact H) | exact H
         have Ny144 := Aside0.mk hy144
         clear hy144
         have H' := Aside0.mk H
         clear H
         have p141 : 0 ≤ (x23_1 : Int) := of_decide_eq_true (by first | (with_reducible assumption) | assumption)
         have q141 : x23_1 < (l0_2.length : Int) := of_decide_eq_true (by first | (with_reducible assumption) | assumption)
         obtain ⟨ad141, A141_2, c141_2, e141, hx141_0, hx141_1, hx141_2, hl141_2, hi141_2⟩ := at_T24 HR0_2.out x23_1 p141 q141
         cases e141
         replace hx141_0 := (HB.out.cell (World.block_lt_of_cell? w _ hx141_0)).trans hx141_0
         replace hx141_1 := (HB.out.cell (World.block_lt_of_cell? w _ hx141_1)).trans hx141_1
         replace hx141_2 := (HB.out.cell (World.block_lt_of_cell? w _ hx141_2)).trans hx141_2
         have HR141_2 := Aside0.mk hi141_2
         have HC141_2 := Aside0.mk hl141_2
         clear hi141_2 hl141_2
         replace p141 := eq_true p141
         replace q141 := eq_true q141
         go_wp2_with (first | ((with_reducible refine gate_dst (N := 5) rfl ?_); refine box_event ?hg (N := 5) ?hd (cs := #[.int .i64 0, .int .i64 0, .slice none 0 0]) (t := 24) ?hr ?_; (case hd => rfl); (case hg => rfl); (case hr => first | (go_simp; done) | (go_simp; rfl)); intro gb142 hg w20 hbox hb; have n0_ := Aside0.mk (Kd.R_below (by (with_reducible repeat (first | apply Kd.R_alloc | apply Kd.R_drewN | apply Kd.R_drew)); exact HO_3.out) hb); have n1_ := Aside0.mk (blk_below (g := gb138) (o := .cells #[.int .i64 a0_0, .int .i64 a0_1, .slice (some ad141) l0_2.length c0_2] 24 (0, 0)) (by (with_reducible repeat (first | refine blk_drewN ?_ _ | refine blk_drew ?_ | refine blk_alloc ?_ _)); exact BK138.out) hb); have n2_ := Aside0.mk (below_step (by repeat (first | (with_reducible first | exact HB.out | apply below_alloc | apply pw_below_drewN | apply below_drew1 | refine below_set ?_ GE138.out) | exact HB.out)) hb); have n3_ := Aside0.mk (hbox); have n4_ := Aside0.mk ((by rw [hg]; exact (below_size (by repeat (first | (with_reducible first | exact HB.out | apply below_alloc | apply pw_below_drewN | apply below_drew1 | refine below_set ?_ GE138.out) | exact HB.out))) : w.heap.size ≤ gb142)); have n5_ := Aside0.mk ((by rw [hg]; exact (below_size (by repeat (first | (with_reducible first | exact HB.out | apply below_alloc | apply pw_below_drewN | apply below_drew1 | refine below_set ?_ GE138.out) | exact HB.out))) : w.heap.size ≤ gb142)); have n6_ := Aside0.mk ((by rw [hg]; exact Nat.ne_of_lt (blk_lt (g := gb138) (o := .cells #[.int .i64 a0_0, .int .i64 a0_1, .slice (some ad141) l0_2.length c0_2] 24 (0, 0)) (by (with_reducible repeat (first | refine blk_drewN ?_ _ | refine blk_drew ?_ | refine blk_alloc ?_ _)); exact BK138.out)) : gb138 ≠ gb142)); have n7_ := Aside0.mk ((by rw [hg]; exact Nat.ne_of_gt (blk_lt (g := gb138) (o := .cells #[.int .i64 a0_0, .int .i64 a0_1, .slice (some ad141) l0_2.length c0_2] 24 (0, 0)) (by (with_reducible repeat (first | refine blk_drewN ?_ _ | refine blk_drew ?_ | refine blk_alloc ?_ _)); exact BK138.out)) : gb142 ≠ gb138)); clear HO_3; clear BK138; clear HB; have HO_3 := n0_; have BK138 := n1_; have HB := n2_; have BK142 := n3_; have GW142 := n4_; have GE142 := n5_; have NB138_142 := n6_; have NB142_138 := n7_; clear n0_ n1_ n2_ n3_ n4_ n5_ n6_ n7_; clear hb hbox hg; have hnb21 := NB142_138.out; have hnc21 := NB138_142.out; have hcz22_0 : w20.cell? ⟨gb142, 0, none⟩ = some (.int .i64 0) := (blk_cell BK142.out 0).trans rfl; have hcz22_1 : w20.cell? ⟨gb142, 1, none⟩ = some (.int .i64 0) := (blk_cell BK142.out 1).trans rfl; have hcz22_2 : w20.cell? ⟨gb142, 2, none⟩ = some (.slice none 0 0) := (blk_cell BK142.out 2).trans rfl; have hfz22_0 := blk_frozen BK142.out 0; have hfz22_1 := blk_frozen BK142.out 1; have hfz22_2 := blk_frozen BK142.out 2) | ((with_reducible refine gate_callee (f := 27) rfl ?_); refine goesL_ (some 29) rfl rfl Tryd.func27 (by kernel_rfl) rfl #[.agg #[.int .i64 ((rd_T24 l0_2 x23_1).f0), .int .i64 ((rd_T24 l0_2 x23_1).f1), .slice A141_2 ((rd_T24 l0_2 x23_1).f2).length c141_2]] rfl (by (try simp only [List.map_toArray, List.map_cons, List.map_nil]); first | done | rfl | (simp only [List.length_drop, List.length_take]; rfl)) ?_; (with_reducible refine (ih k1 (by have := HK1.out; omega) ((rd_T24 l0_2 x23_1).f0) ((rd_T24 l0_2 x23_1).f1) _ _ ((rd_T24 l0_2 x23_1).f2) t143 _ ?sideT ?side1 ?side2 A18.out).mono ?_); (case sideT => exact TabW.below HT.out (by repeat (first | (with_reducible first | exact HB.out | apply below_alloc | apply pw_below_drewN | apply below_drew1 | refine below_set ?_ GE138.out | refine below_set ?_ GE142.out) | exact HB.out))); (case side1 => exact Kd.C_below HR141_2.out (by repeat (first | (with_reducible first | exact HB.out | apply below_alloc | apply pw_below_drewN | apply below_drew1 | refine below_set ?_ GE138.out | refine below_set ?_ GE142.out) | exact HB.out))); (case side2 => exact HC141_2.out); rintro e w23 ⟨rfl, hb⟩; refine ⟨_, rfl, ?_⟩; have n0_ := Aside0.mk (Kd.R_below (by (with_reducible repeat (first | apply Kd.R_alloc | apply Kd.R_drewN | apply Kd.R_drew)); exact (Kd.R_mono (Kd.R_far (p := ⟨gb142, 2, none⟩) (Kd.R_far (p := ⟨gb142, 1, none⟩) (Kd.R_far (p := ⟨gb142, 0, none⟩) (Kd.R_types HO_3.out BK142.out (by decide)) (fun _ hk => hk.2) (.int .i64 ((rd_T24 l0_2 x23_1).f0))) (fun _ hk => hk.2) (.int .i64 ((rd_T24 l0_2 x23_1).f1))) (fun _ hk => hk.2) (.slice A141_2 ((rd_T24 l0_2 x23_1).f2).length c141_2)) (fun _ h_ => h_.1))) hb); have n1_ := Aside0.mk (blk_below (g := gb138) (o := .cells #[.int .i64 a0_0, .int .i64 a0_1, .slice (some ad141) l0_2.length c0_2] 24 (0, 0)) (by (with_reducible repeat (first | refine blk_drewN ?_ _ | refine blk_drew ?_ | refine blk_alloc ?_ _)); refine blk_far ?_ NB138_142.out _; (with_reducible repeat (first | refine blk_drewN ?_ _ | refine blk_drew ?_ | refine blk_alloc ?_ _)); refine blk_far ?_ NB138_142.out _; (with_reducible repeat (first | refine blk_drewN ?_ _ | refine blk_drew ?_ | refine blk_alloc ?_ _)); refine blk_far ?_ NB138_142.out _; (with_reducible repeat (first | refine blk_drewN ?_ _ | refine blk_drew ?_ | refine blk_alloc ?_ _)); exact BK138.out) hb); have n2_ := Aside0.mk (blk_below (g := gb142) (o := .cells #[.int .i64 ((rd_T24 l0_2 x23_1).f0), .int .i64 ((rd_T24 l0_2 x23_1).f1), .slice A141_2 ((rd_T24 l0_2 x23_1).f2).length c141_2] 24 (0, 0)) (by (with_reducible repeat (first | refine blk_drewN ?_ _ | refine blk_drew ?_ | refine blk_alloc ?_ _)); refine blk_put (cs := #[.int .i64 ((rd_T24 l0_2 x23_1).f0), .int .i64 ((rd_T24 l0_2 x23_1).f1), .slice none 0 0]) ?_ 2 _ rfl; (with_reducible repeat (first | refine blk_drewN ?_ _ | refine blk_drew ?_ | refine blk_alloc ?_ _)); refine blk_put (cs := #[.int .i64 ((rd_T24 l0_2 x23_1).f0), .int .i64 0, .slice none 0 0]) ?_ 1 _ rfl; (with_reducible repeat (first | refine blk_drewN ?_ _ | refine blk_drew ?_ | refine blk_alloc ?_ _)); refine blk_put (cs := #[.int .i64 0, .int .i64 0, .slice none 0 0]) ?_ 0 _ rfl; (with_reducible repeat (first | refine blk_drewN ?_ _ | refine blk_drew ?_ | refine blk_alloc ?_ _)); exact BK142.out) hb); have n3_ := Aside0.mk (below_step (by repeat (first | (with_reducible first | exact HB.out | apply below_alloc | apply pw_below_drewN | apply below_drew1 | refine below_set ?_ GE138.out | refine below_set ?_ GE142.out) | exact HB.out)) hb); clear HO_3; clear BK138; clear BK142; clear HB; have HO_3 := n0_; have BK138 := n1_; have BK142 := n2_; have HB := n3_; clear n0_ n1_ n2_ n3_; (try clear hb); (try clear hb2); (try clear hk); (try clear hi)) | ((with_reducible refine gate_builtin (b := .append) (xs := #[.tmp 27, .tmp 30]) rfl ?_); at_builtin; refine Kd.R_append Kd.string (w0 := w) w.heap.size rfl (.tmp 27) (.tmp 30) 47 9 (.string ⟨#[]⟩) 16 rfl Tryd.underlying47 info9 rfl (by decide) (by omega) u3 x3_1 t143 [.string t143] (fun _ => True) (fun _ => False) rfl rfl ?aP (fun _ hk => hk.elim) ?aF ?aO ?aB ?aS ?aL ?_; (case aP => exact rfl); (case aB => exact (by repeat (first | (with_reducible first | exact HB.out | apply below_alloc | apply pw_below_drewN | apply below_drew1 | refine below_set ?_ GE138.out | refine below_set ?_ GE142.out) | exact HB.out))); (case aF => exact (fun _ _ => trivial)); (case aO => exact (by (with_reducible repeat (first | apply Kd.R_alloc | apply Kd.R_drewN | apply Kd.R_drew)); exact HO_3.out)); (case aS => exact (below_size (by repeat (first | (with_reducible first | exact HB.out | apply below_alloc | apply pw_below_drewN | apply below_drew1 | refine below_set ?_ GE138.out | refine below_set ?_ GE142.out) | exact HB.out)))); (case aL => have := LMc19.out; omega); intro v145 w24 ho hb hg hat; rw [← Ny144.out] at ho; have n0_ := Aside0.mk (blk_grown (g := gb138) (o := .cells #[.int .i64 a0_0, .int .i64 a0_1, .slice (some ad141) l0_2.length c0_2] 24 (0, 0)) (by (with_reducible repeat (first | refine blk_drewN ?_ _ | refine blk_drew ?_ | refine blk_alloc ?_ _)); exact BK138.out) hg (Kd.R_ne HO_3.out BK138.out (by decide))); have n1_ := Aside0.mk (blk_grown (g := gb142) (o := .cells #[.int .i64 ((rd_T24 l0_2 x23_1).f0), .int .i64 ((rd_T24 l0_2 x23_1).f1), .slice A141_2 ((rd_T24 l0_2 x23_1).f2).length c141_2] 24 (0, 0)) (by (with_reducible repeat (first | refine blk_drewN ?_ _ | refine blk_drew ?_ | refine blk_alloc ?_ _)); exact BK142.out) hg (Kd.R_ne HO_3.out BK142.out (by decide))); have n2_ := Aside0.mk (hb); have n3_ := Aside0.mk (ho); clear BK138; clear BK142; clear HB; clear HO_3; have BK138 := n0_; have BK142 := n1_; have HB := n2_; have HO146 := n3_; clear n0_ n1_ n2_ n3_; clear ho hb hg hat))
         go_roundg k1
         case measure => have := HK1.out; omega
         case rel => exact ⟨(y144), (wrap64 (x23_1 + 1)), (by first | rfl | (simp; done) | (simp [*]; done)), H', ⟨by have := HK1.out; omega⟩, ⟨by (with_reducible repeat (first | apply Kd.R_alloc | apply Kd.R_drewN | apply Kd.R_drew)); exact HO146.out⟩, ⟨by (with_reducible repeat (first | refine blk_drewN ?_ _ | refine blk_drew ?_ | refine blk_alloc ?_ _)); exact BK138.out⟩, ⟨by repeat (first | (with_reducible first | exact HB.out | apply below_alloc | apply pw_below_drewN | apply below_drew1 | refine below_set ?_ GE138.out | refine below_set ?_ GE142.out) | exact HB.out)⟩⟩
        ·rw [if_neg c19] at H
         exact absurd H (by simp)
       ·rw [if_neg c17] at H
        exact absurd H (by simp)
      ·rw [if_neg c16] at H
       exact absurd H (by simp)
     ·rw [if_neg c15] at H
      have c15b0 : decide (x23_1 < (l0_2.length : Int)) = false := decide_eq_false c15
      clear c15
      replace H := Option.bind_eq_some_iff.mp H
      obtain ⟨t147, A250, H⟩ := H
      replace H : (if t147.size + 1 ≤ 9223372036854775807 then ((strings_Join.f x3_1 (⟨#[44, 32]⟩ : ByteArray)).bind fun t148 => (if (t147 ++ (⟨#[40]⟩ : ByteArray)).size + t148.size ≤ 9223372036854775807 then (if ((t147 ++ (⟨#[40]⟩ : ByteArray)) ++ t148).size + 1 ≤ 9223372036854775807 then (some (((t147 ++ (⟨#[40]⟩ : ByteArray)) ++ t148) ++ (⟨#[41]⟩ : ByteArray))) else (none)) else (none))) else (none)) = some r := H
      have A25 := Aside0.mk A250
      clear A250
      by_cases c26 : t147.size + 1 ≤ 9223372036854775807
      ·rw [if_pos c26] at H
       have c26b0 := eq_true c26
       have c26b1 : decide (t147.size + 1 ≤ 9223372036854775807) = true := decide_eq_true c26
       try have c26b2 : (9223372036854775807 < t147.size + 1) = False := eq_false (Nat.not_lt.2 c26)
       replace H := Option.bind_eq_some_iff.mp H
       obtain ⟨t148, A270, H⟩ := H
       replace H : (if (t147 ++ (⟨#[40]⟩ : ByteArray)).size + t148.size ≤ 9223372036854775807 then (if ((t147 ++ (⟨#[40]⟩ : ByteArray)) ++ t148).size + 1 ≤ 9223372036854775807 then (some (((t147 ++ (⟨#[40]⟩ : ByteArray)) ++ t148) ++ (⟨#[41]⟩ : ByteArray))) else (none)) else (none)) = some r := H
       have A27 := Aside0.mk A270
       clear A270
       by_cases c28 : (t147 ++ (⟨#[40]⟩ : ByteArray)).size + t148.size ≤ 9223372036854775807
       ·rw [if_pos c28] at H
        have c28b0 := eq_true c28
        have c28b1 : decide ((t147 ++ (⟨#[40]⟩ : ByteArray)).size + t148.size ≤ 9223372036854775807) = true := decide_eq_true c28
        try have c28b2 : (9223372036854775807 < (t147 ++ (⟨#[40]⟩ : ByteArray)).size + t148.size) = False := eq_false (Nat.not_lt.2 c28)
        by_cases c29 : ((t147 ++ (⟨#[40]⟩ : ByteArray)) ++ t148).size + 1 ≤ 9223372036854775807
        ·rw [if_pos c29] at H
         have c29b0 := eq_true c29
         have c29b1 : decide (((t147 ++ (⟨#[40]⟩ : ByteArray)) ++ t148).size + 1 ≤ 9223372036854775807) = true := decide_eq_true c29
         try have c29b2 : (9223372036854775807 < ((t147 ++ (⟨#[40]⟩ : ByteArray)) ++ t148).size + 1) = False := eq_false (Nat.not_lt.2 c29)
         obtain rfl := Option.some.inj H
         have z40 : (t147 ++ (⟨#[40]⟩ : ByteArray)).size = t147.size + 1 := by rw [ByteArray.size_append]; rfl
         have z41 : ((t147 ++ (⟨#[40]⟩ : ByteArray)) ++ t148).size = t147.size + 1 + t148.size := by rw [ByteArray.size_append, z40]
         have c28n : t147.size + 1 + t148.size ≤ 9223372036854775807 := by rw [z40] at c28; exact c28
         have c28n0 := eq_true c28n
         have c28n1 : (9223372036854775807 < t147.size + 1 + t148.size) = False := eq_false (Nat.not_lt.2 c28n)
         have c29n : t147.size + 1 + t148.size + 1 ≤ 9223372036854775807 := by rw [z41] at c29; exact c29
         have c29n0 := eq_true c29n
         have c29n1 : (9223372036854775807 < t147.size + 1 + t148.size + 1) = False := eq_false (Nat.not_lt.2 c29n)
         have hcz30_0 : wr.cell? ⟨gb138, 0, none⟩ = some (.int .i64 a0_0) := (blk_cell BK138.out 0).trans rfl
         have hcz30_1 : wr.cell? ⟨gb138, 1, none⟩ = some (.int .i64 a0_1) := (blk_cell BK138.out 1).trans rfl
         have hcz30_2 : wr.cell? ⟨gb138, 2, none⟩ = some (.slice A0_2 l0_2.length c0_2) := (blk_cell BK138.out 2).trans rfl
         have hfz30_0 := blk_frozen BK138.out 0
         have hfz30_1 := blk_frozen BK138.out 1
         have hfz30_2 := blk_frozen BK138.out 2
         go_wp2_with (first | ((with_reducible refine gate_callee (f := 33) rfl ?_); refine goesL_ (some 35) rfl rfl Tryd.func33 (by kernel_rfl) rfl #[.int .i64 a0_0] rfl (by (try simp only [List.map_toArray, List.map_cons, List.map_nil]); first | done | rfl | (simp only [List.length_drop, List.length_take]; rfl)) ?_; (with_reducible refine (expr_word.calls a0_0 t147 _ A25.out).mono ?_); rintro e w31 ⟨rfl, hb⟩; refine ⟨_, rfl, ?_⟩; have n0_ := Aside0.mk (Kd.R_below (by (with_reducible repeat (first | apply Kd.R_alloc | apply Kd.R_drewN | apply Kd.R_drew)); exact HO_3.out) hb); have n1_ := Aside0.mk (blk_below (g := gb138) (o := .cells #[.int .i64 a0_0, .int .i64 a0_1, .slice A0_2 l0_2.length c0_2] 24 (0, 0)) (by (with_reducible repeat (first | refine blk_drewN ?_ _ | refine blk_drew ?_ | refine blk_alloc ?_ _)); exact BK138.out) hb); have n2_ := Aside0.mk (below_step (by repeat (first | (with_reducible first | exact HB.out | apply below_alloc | apply pw_below_drewN | apply below_drew1 | refine below_set ?_ GE138.out) | exact HB.out)) hb); clear HO_3; clear BK138; clear HB; have HO_3 := n0_; have BK138 := n1_; have HB := n2_; clear n0_ n1_ n2_; (try clear hb); (try clear hb2); (try clear hk); (try clear hi); obtain ⟨Ao32, co32, eo32⟩ := Kd.R_slice HO_3.out; subst eo32) | ((with_reducible refine gate_callee (f := 34) rfl ?_); refine goesL_ (some 38) rfl rfl Tryd.func34 (by kernel_rfl) rfl #[.slice Ao32 x3_1.length co32, .string (⟨#[44, 32]⟩ : ByteArray)] rfl (by (try simp only [List.map_toArray, List.map_cons, List.map_nil]); first | done | rfl | (simp only [List.length_drop, List.length_take]; rfl)) ?_; (with_reducible refine (strings_Join.calls _ _ x3_1 (⟨#[44, 32]⟩ : ByteArray) t148 _ ?side1 ?side2 A27.out).mono ?_); (case side1 => repeat (first | exact (Kd.R_reads' HO_3.out).2.2 | (with_reducible refine Kd.C_alloc ?_ _) | (with_reducible refine Kd.C_drewN ?_ _) | (with_reducible refine Kd.C_drew ?_))); (case side2 => exact (Kd.R_reads' HO_3.out).2.1); rintro e w33 ⟨rfl, hb⟩; refine ⟨_, rfl, ?_⟩; have n0_ := Aside0.mk (Kd.R_below (by (with_reducible repeat (first | apply Kd.R_alloc | apply Kd.R_drewN | apply Kd.R_drew)); exact HO_3.out) hb); have n1_ := Aside0.mk (blk_below (g := gb138) (o := .cells #[.int .i64 a0_0, .int .i64 a0_1, .slice A0_2 l0_2.length c0_2] 24 (0, 0)) (by (with_reducible repeat (first | refine blk_drewN ?_ _ | refine blk_drew ?_ | refine blk_alloc ?_ _)); exact BK138.out) hb); have n2_ := Aside0.mk (below_step (by repeat (first | (with_reducible first | exact HB.out | apply below_alloc | apply pw_below_drewN | apply below_drew1 | refine below_set ?_ GE138.out) | exact HB.out)) hb); clear HO_3; clear BK138; clear HB; have HO_3 := n0_; have BK138 := n1_; have HB := n2_; clear n0_ n1_ n2_; (try clear hb); (try clear hb2); (try clear hk); (try clear hi)))
         go_ret
         exact ⟨by first | rfl | (simp [errW_none, errW_some] <;> rfl) | (simp [*, errW_none, errW_some] <;> rfl), by repeat (first | (with_reducible first | exact HB.out | apply below_alloc | apply pw_below_drewN | apply below_drew1 | refine below_set ?_ GE138.out) | exact HB.out)⟩
        ·rw [if_neg c29] at H
         exact absurd H (by simp)
       ·rw [if_neg c28] at H
        exact absurd H (by simp)
      ·rw [if_neg c26] at H
       exact absurd H (by simp)
end Go.Proofs.YtdmfakgbiaaacaaDoor.X
namespace Go.Proofs.YtdmfakgbiaaacaaDoor.X
open Go.RowKit Go.Proofs.YtdmfakgbiaaacaaDoorW.PrintWords Go.Proofs.YtdmfakgbiaaacaaDoorW.PrintLast Go.Proofs.YtdmfakgbiaaacaaDoorW.PrintMore
attribute [local go_sem] max2_int min2_int max_two min_two max_three min_three max_four min_four   -- for this text's walks alone
set_option linter.unusedVariables false
set_option linter.unusedSimpArgs false
def expr_Text.f (k : Nat) (a0_0 : Int) (a0_1 : Int) (l0_2 : List (S24)) : Option (ByteArray) := (expr_Check.f k a0_0 a0_1 l0_2).bind fun t150 => (if t150 = 0 then ((expr_text.f k a0_0 a0_1 l0_2).bind fun t151 => (some t151)) else (some (⟨#[]⟩ : ByteArray)))
set_option maxHeartbeats 8000000 in
set_option maxRecDepth 100000 in
theorem expr_Text.calls (k : Nat) (a0_0 : Int) (a0_1 : Int) (A0_2 : Option Addr) (c0_2 : Nat) (l0_2 : List (S24)) (r : ByteArray) (w : World) (htab : TabW w) (hr0_2 : Kd.C k24 w A0_2 l0_2.length l0_2) (hc0_2 : l0_2.length ≤ c0_2) (h : expr_Text.f k a0_0 a0_1 l0_2 = some r) :
  Calls Tryd.prog 13 #[.agg #[.int .i64 a0_0, .int .i64 a0_1, .slice A0_2 l0_2.length c0_2]] w fun e w' => e = .returned (.string r) ∧ Below w.heap.size w w' := by
 have hu24 := Tryd.underlying24
 have HR0_2 := Aside0.mk hr0_2
 have HC0_2 := Aside0.mk hc0_2
 clear hr0_2 hc0_2
 have HT := Aside0.mk htab
 clear htab
 have HB := Aside0.mk (Below.refl w.heap.size w)
 have H : ((expr_Check.f k a0_0 a0_1 l0_2).bind fun t150 => (if t150 = 0 then ((expr_text.f k a0_0 a0_1 l0_2).bind fun t151 => (some t151)) else (some (⟨#[]⟩ : ByteArray)))) = some r := h
 clear h
 replace H := Option.bind_eq_some_iff.mp H
 obtain ⟨t150, A20, H⟩ := H
 replace H : (if t150 = 0 then ((expr_text.f k a0_0 a0_1 l0_2).bind fun t151 => (some t151)) else (some (⟨#[]⟩ : ByteArray))) = some r := H
 have A2 := Aside0.mk A20
 clear A20
 by_cases c3 : t150 = 0
 ·rw [if_pos c3] at H
  have c3b0 : (t150 == 0) = true := beq_iff_eq.mpr c3
  have c3b1 : (t150 != 0) = false := bne_eq_false_iff_eq.mpr c3
  clear c3
  replace H := Option.bind_eq_some_iff.mp H
  obtain ⟨t151, A40, H⟩ := H
  replace H : (some t151) = some r := H
  have A4 := Aside0.mk A40
  clear A40
  obtain rfl := Option.some.inj H
  go_enter Tryd.func13, Tryd.ntmps13
  go_wp2_with (first | ((with_reducible refine gate_dst (N := 1) rfl ?_); refine box_event ?hg (N := 1) ?hd (cs := #[.int .i64 a0_0, .int .i64 a0_1, .slice A0_2 l0_2.length c0_2]) (t := 24) ?hr ?_; (case hd => rfl); (case hg => rfl); (case hr => first | (go_simp; done) | (go_simp; rfl)); intro gb149 hg w5 hbox hb; have n0_ := Aside0.mk (below_step (by repeat (first | (with_reducible first | exact HB.out | apply below_alloc | apply pw_below_drewN | apply below_drew1) | exact HB.out)) hb); have n1_ := Aside0.mk (hbox); have n2_ := Aside0.mk ((by rw [hg]; exact (below_size (by repeat (first | (with_reducible first | exact HB.out | apply below_alloc | apply pw_below_drewN | apply below_drew1) | exact HB.out))) : w.heap.size ≤ gb149)); have n3_ := Aside0.mk ((by rw [hg]; exact (below_size (by repeat (first | (with_reducible first | exact HB.out | apply below_alloc | apply pw_below_drewN | apply below_drew1) | exact HB.out))) : w.heap.size ≤ gb149)); clear HB; have HB := n0_; have BK149 := n1_; have GW149 := n2_; have GE149 := n3_; clear n0_ n1_ n2_ n3_; clear hb hbox hg; have hcz6_0 : w5.cell? ⟨gb149, 0, none⟩ = some (.int .i64 a0_0) := (blk_cell BK149.out 0).trans rfl; have hcz6_1 : w5.cell? ⟨gb149, 1, none⟩ = some (.int .i64 a0_1) := (blk_cell BK149.out 1).trans rfl; have hcz6_2 : w5.cell? ⟨gb149, 2, none⟩ = some (.slice A0_2 l0_2.length c0_2) := (blk_cell BK149.out 2).trans rfl; have hfz6_0 := blk_frozen BK149.out 0; have hfz6_1 := blk_frozen BK149.out 1; have hfz6_2 := blk_frozen BK149.out 2) | ((with_reducible refine gate_callee (f := 11) rfl ?_); refine goesL_ (some 4) rfl rfl Tryd.func11 (by kernel_rfl) rfl #[.agg #[.int .i64 a0_0, .int .i64 a0_1, .slice A0_2 l0_2.length c0_2]] rfl (by (try simp only [List.map_toArray, List.map_cons, List.map_nil]); first | done | rfl | (simp only [List.length_drop, List.length_take]; rfl)) ?_; (with_reducible refine (expr_Check.calls k a0_0 a0_1 _ _ l0_2 t150 _ ?side1 ?side2 A2.out).mono ?_); (case side1 => repeat (first | exact (Kd.C_below HR0_2.out HB.out) | (with_reducible refine Kd.C_alloc ?_ _) | (with_reducible refine Kd.C_drewN ?_ _) | (with_reducible refine Kd.C_drew ?_))); (case side2 => exact HC0_2.out); rintro e w7 ⟨rfl, hb⟩; refine ⟨_, rfl, ?_⟩; have n0_ := Aside0.mk (blk_below (g := gb149) (o := .cells #[.int .i64 a0_0, .int .i64 a0_1, .slice A0_2 l0_2.length c0_2] 24 (0, 0)) (by (with_reducible repeat (first | refine blk_drewN ?_ _ | refine blk_drew ?_ | refine blk_alloc ?_ _)); exact BK149.out) hb); have n1_ := Aside0.mk (below_step (by repeat (first | (with_reducible first | exact HB.out | apply below_alloc | apply pw_below_drewN | apply below_drew1 | refine below_set ?_ GE149.out) | exact HB.out)) hb); clear BK149; clear HB; have BK149 := n0_; have HB := n1_; clear n0_ n1_; (try clear hb); (try clear hb2); (try clear hk); (try clear hi); have hcz8_0 : w7.cell? ⟨gb149, 0, none⟩ = some (.int .i64 a0_0) := (blk_cell BK149.out 0).trans rfl; have hcz8_1 : w7.cell? ⟨gb149, 1, none⟩ = some (.int .i64 a0_1) := (blk_cell BK149.out 1).trans rfl; have hcz8_2 : w7.cell? ⟨gb149, 2, none⟩ = some (.slice A0_2 l0_2.length c0_2) := (blk_cell BK149.out 2).trans rfl; have hfz8_0 := blk_frozen BK149.out 0; have hfz8_1 := blk_frozen BK149.out 1; have hfz8_2 := blk_frozen BK149.out 2) | ((with_reducible refine gate_callee (f := 27) rfl ?_); refine goesL_ (some 7) rfl rfl Tryd.func27 (by kernel_rfl) rfl #[.agg #[.int .i64 a0_0, .int .i64 a0_1, .slice A0_2 l0_2.length c0_2]] rfl (by (try simp only [List.map_toArray, List.map_cons, List.map_nil]); first | done | rfl | (simp only [List.length_drop, List.length_take]; rfl)) ?_; (with_reducible refine (expr_text.calls k a0_0 a0_1 _ _ l0_2 t151 _ ?sideT ?side1 ?side2 A4.out).mono ?_); (case sideT => exact TabW.below HT.out (by repeat (first | (with_reducible first | exact HB.out | apply below_alloc | apply pw_below_drewN | apply below_drew1 | refine below_set ?_ GE149.out) | exact HB.out))); (case side1 => repeat (first | exact (Kd.C_below HR0_2.out HB.out) | (with_reducible refine Kd.C_alloc ?_ _) | (with_reducible refine Kd.C_drewN ?_ _) | (with_reducible refine Kd.C_drew ?_))); (case side2 => exact HC0_2.out); rintro e w9 ⟨rfl, hb⟩; refine ⟨_, rfl, ?_⟩; have n0_ := Aside0.mk (blk_below (g := gb149) (o := .cells #[.int .i64 a0_0, .int .i64 a0_1, .slice A0_2 l0_2.length c0_2] 24 (0, 0)) (by (with_reducible repeat (first | refine blk_drewN ?_ _ | refine blk_drew ?_ | refine blk_alloc ?_ _)); exact BK149.out) hb); have n1_ := Aside0.mk (below_step (by repeat (first | (with_reducible first | exact HB.out | apply below_alloc | apply pw_below_drewN | apply below_drew1 | refine below_set ?_ GE149.out) | exact HB.out)) hb); clear BK149; clear HB; have BK149 := n0_; have HB := n1_; clear n0_ n1_; (try clear hb); (try clear hb2); (try clear hk); (try clear hi)))
  go_ret
  exact ⟨by first | rfl | (simp [errW_none, errW_some] <;> rfl) | (simp [*, errW_none, errW_some] <;> rfl), by repeat (first | (with_reducible first | exact HB.out | apply below_alloc | apply pw_below_drewN | apply below_drew1 | refine below_set ?_ GE149.out) | exact HB.out)⟩
 ·rw [if_neg c3] at H
  have c3b0 : (t150 == 0) = false := beq_eq_false_iff_ne.mpr c3
  have c3b1 : (t150 != 0) = true := bne_iff_ne.mpr c3
  obtain rfl := Option.some.inj H
  go_enter Tryd.func13, Tryd.ntmps13
  go_wp2_with (first | ((with_reducible refine gate_dst (N := 1) rfl ?_); refine box_event ?hg (N := 1) ?hd (cs := #[.int .i64 a0_0, .int .i64 a0_1, .slice A0_2 l0_2.length c0_2]) (t := 24) ?hr ?_; (case hd => rfl); (case hg => rfl); (case hr => first | (go_simp; done) | (go_simp; rfl)); intro gb149 hg w10 hbox hb; have n0_ := Aside0.mk (below_step (by repeat (first | (with_reducible first | exact HB.out | apply below_alloc | apply pw_below_drewN | apply below_drew1) | exact HB.out)) hb); have n1_ := Aside0.mk (hbox); have n2_ := Aside0.mk ((by rw [hg]; exact (below_size (by repeat (first | (with_reducible first | exact HB.out | apply below_alloc | apply pw_below_drewN | apply below_drew1) | exact HB.out))) : w.heap.size ≤ gb149)); have n3_ := Aside0.mk ((by rw [hg]; exact (below_size (by repeat (first | (with_reducible first | exact HB.out | apply below_alloc | apply pw_below_drewN | apply below_drew1) | exact HB.out))) : w.heap.size ≤ gb149)); clear HB; have HB := n0_; have BK149 := n1_; have GW149 := n2_; have GE149 := n3_; clear n0_ n1_ n2_ n3_; clear hb hbox hg; have hcz11_0 : w10.cell? ⟨gb149, 0, none⟩ = some (.int .i64 a0_0) := (blk_cell BK149.out 0).trans rfl; have hcz11_1 : w10.cell? ⟨gb149, 1, none⟩ = some (.int .i64 a0_1) := (blk_cell BK149.out 1).trans rfl; have hcz11_2 : w10.cell? ⟨gb149, 2, none⟩ = some (.slice A0_2 l0_2.length c0_2) := (blk_cell BK149.out 2).trans rfl; have hfz11_0 := blk_frozen BK149.out 0; have hfz11_1 := blk_frozen BK149.out 1; have hfz11_2 := blk_frozen BK149.out 2) | ((with_reducible refine gate_callee (f := 11) rfl ?_); refine goesL_ (some 4) rfl rfl Tryd.func11 (by kernel_rfl) rfl #[.agg #[.int .i64 a0_0, .int .i64 a0_1, .slice A0_2 l0_2.length c0_2]] rfl (by (try simp only [List.map_toArray, List.map_cons, List.map_nil]); first | done | rfl | (simp only [List.length_drop, List.length_take]; rfl)) ?_; (with_reducible refine (expr_Check.calls k a0_0 a0_1 _ _ l0_2 t150 _ ?side1 ?side2 A2.out).mono ?_); (case side1 => repeat (first | exact (Kd.C_below HR0_2.out HB.out) | (with_reducible refine Kd.C_alloc ?_ _) | (with_reducible refine Kd.C_drewN ?_ _) | (with_reducible refine Kd.C_drew ?_))); (case side2 => exact HC0_2.out); rintro e w12 ⟨rfl, hb⟩; refine ⟨_, rfl, ?_⟩; have n0_ := Aside0.mk (blk_below (g := gb149) (o := .cells #[.int .i64 a0_0, .int .i64 a0_1, .slice A0_2 l0_2.length c0_2] 24 (0, 0)) (by (with_reducible repeat (first | refine blk_drewN ?_ _ | refine blk_drew ?_ | refine blk_alloc ?_ _)); exact BK149.out) hb); have n1_ := Aside0.mk (below_step (by repeat (first | (with_reducible first | exact HB.out | apply below_alloc | apply pw_below_drewN | apply below_drew1 | refine below_set ?_ GE149.out) | exact HB.out)) hb); clear BK149; clear HB; have BK149 := n0_; have HB := n1_; clear n0_ n1_; (try clear hb); (try clear hb2); (try clear hk); (try clear hi)))
  go_ret
  exact ⟨by first | rfl | (simp [errW_none, errW_some] <;> rfl) | (simp [*, errW_none, errW_some] <;> rfl), by repeat (first | (with_reducible first | exact HB.out | apply below_alloc | apply pw_below_drewN | apply below_drew1 | refine below_set ?_ GE149.out) | exact HB.out)⟩
end Go.Proofs.YtdmfakgbiaaacaaDoor.X
namespace Go.Proofs.YtdmfakgbiaaacaaDoor.X
open Go.RowKit Go.Lib Go.Proofs Go.Proofs.YtdmfakgbiaaacaaDoorW.PrintWords Go.Proofs.YtdmfakgbiaaacaaDoorW.PrintLast Go.Proofs.YtdmfakgbiaaacaaDoorW.PrintMore Go.Proofs.YtdmfakgbiaaacaaDoor
attribute [local go_sem] max2_int min2_int max_two min_two
set_option linter.unusedVariables false
set_option linter.unusedSimpArgs false
theorem six_ {W : World} {a b : Nat} {u0 u1 u2 v0 v1 v2 : Value} (h : W.heap[a]? = some (.cells #[u0, u1, u2] 24 (0, 0))) (h' : W.heap[b]? = some (.cells #[v0, v1, v2] 24 (0, 0))) :
    W.cell? ⟨a, 0, none⟩ = some u0 ∧ W.cell? ⟨a, 1, none⟩ = some u1 ∧ W.cell? ⟨a, 2, none⟩ = some u2 ∧ W.cell? ⟨b, 0, none⟩ = some v0 ∧ W.cell? ⟨b, 1, none⟩ = some v1 ∧ W.cell? ⟨b, 2, none⟩ = some v2 :=
  ⟨(blk_cell h 0).trans rfl, (blk_cell h 1).trans rfl, (blk_cell h 2).trans rfl, (blk_cell h' 0).trans rfl, (blk_cell h' 1).trans rfl, (blk_cell h' 2).trans rfl⟩
theorem three_c {W : World} {a : Nat} {u0 u1 u2 : Value} (h : W.heap[a]? = some (.cells #[u0, u1, u2] 24 (0, 0))) :
    W.cell? ⟨a, 0, none⟩ = some u0 ∧ W.cell? ⟨a, 1, none⟩ = some u1 ∧ W.cell? ⟨a, 2, none⟩ = some u2 :=
  ⟨(blk_cell h 0).trans rfl, (blk_cell h 1).trans rfl, (blk_cell h 2).trans rfl⟩
structure St (w W : World) (bs : List (Nat × Array Value)) : Prop where
  hb : Below w.heap.size w W
  hs : ∀ x ∈ bs, W.heap[x.1]? = some (.cells x.2 24 (0, 0)) ∧ w.heap.size ≤ x.1
  hn : (bs.map (·.1)).Nodup
theorem St.get {w W : World} {bs : List (Nat × Array Value)} (h : St w W bs) (x : Nat × Array Value) (hx : x ∈ bs) : W.heap[x.1]? = some (.cells x.2 24 (0, 0)) := (h.hs x hx).1
theorem St.head {w W : World} {g : Nat} {cs : Array Value} {bs : List (Nat × Array Value)} (h : St w W ((g, cs) :: bs)) : W.heap[g]? = some (.cells cs 24 (0, 0)) := h.get (g, cs) (by simp)
theorem St.step {w W W' : World} {bs : List (Nat × Array Value)} (h : St w W bs) (hb : Below W.heap.size W W') : St w W' bs :=
  ⟨below_step h.hb hb, fun x hx => ⟨blk_below (h.hs x hx).1 hb, (h.hs x hx).2⟩, h.hn⟩
theorem St.lt {w W : World} {bs : List (Nat × Array Value)} (h : St w W bs) (x : Nat × Array Value) (hx : x ∈ bs) : x.1 < W.heap.size := by
  have := h.get x hx
  rcases Nat.lt_or_ge x.1 W.heap.size with h1 | h1
  · exact h1
  · rw [Array.getElem?_eq_none h1] at this; cases this
theorem St.grow {w W W' : World} {bs : List (Nat × Array Value)} (h : St w W bs) (hb : Below W.heap.size W W') {g : Nat} {cs : Array Value} (hg : W.heap.size ≤ g) (hx : W'.heap[g]? = some (.cells cs 24 (0, 0))) : St w W' ((g, cs) :: bs) := by
  have h1 := h.step hb
  refine ⟨h1.hb, fun x hx' => ?_, ?_⟩
  · rcases List.mem_cons.1 hx' with rfl | hx'
    · exact ⟨hx, Nat.le_trans h.hb.size hg⟩
    · exact h1.hs x hx'
  · simp only [List.map_cons, List.nodup_cons]
    refine ⟨fun hm => ?_, h.hn⟩
    obtain ⟨x, hx1, hx2⟩ := List.mem_map.1 hm
    have := h.lt x hx1
    omega
theorem St.swap {w W : World} {x y : Nat × Array Value} {bs : List (Nat × Array Value)} (h : St w W (x :: y :: bs)) : St w W (y :: x :: bs) := by
  refine ⟨h.hb, fun z hz => h.hs z (by simp only [List.mem_cons] at hz ⊢; rcases hz with h | h | h <;> simp [h]), ?_⟩
  have := h.hn
  simp only [List.map_cons, List.nodup_cons, List.mem_cons, not_or] at this ⊢
  exact ⟨⟨fun e => this.1.1 e.symm, this.2.1⟩, this.1.2, this.2.2⟩
theorem St.drew {w W : World} {bs : List (Nat × Array Value)} (h : St w W bs) : St w W.drew bs := h.step (below_drew1 (Below.refl _ _))
theorem so_ (W : World) (g i : Nat) (v : Value) (j : Nat) (h : g ≠ j) : (W.setCell ⟨g, i, none⟩ v).heap[j]? = W.heap[j]? := by
  unfold World.setCell
  simp [Array.getElem?_modify, h]
theorem St.store {w W : World} {g : Nat} {u0 u1 u2 : Value} {bs : List (Nat × Array Value)} (h : St w W ((g, #[u0, u1, u2]) :: bs)) (v0 v1 v2 : Value) :
    St w (((W.setCell ⟨g, 0, none⟩ v0).setCell ⟨g, 1, none⟩ v1).setCell ⟨g, 2, none⟩ v2) ((g, #[v0, v1, v2]) :: bs) := by
  have h0 := h.head
  have hge : w.heap.size ≤ g := (h.hs (g, #[u0, u1, u2]) (by simp)).2
  have hne : ∀ x ∈ bs, x.1 ≠ g := fun x hx e => by
    have := h.hn
    simp only [List.map_cons, List.nodup_cons] at this
    exact this.1 (e ▸ List.mem_map.2 ⟨x, hx, rfl⟩)
  refine ⟨below_set (below_set (below_set h.hb hge) hge) hge, fun x hx => ?_, by simpa using h.hn⟩
  rcases List.mem_cons.1 hx with rfl | hx
  · refine ⟨?_, hge⟩
    refine blk_put (cs := #[v0, v1, u2]) ?_ 2 _ rfl
    refine blk_put (cs := #[v0, u1, u2]) ?_ 1 _ rfl
    exact blk_put (cs := #[u0, u1, u2]) h0 0 _ rfl
  · have := h.hs x (List.mem_cons_of_mem _ hx)
    refine ⟨?_, this.2⟩
    have e := hne x hx
    have so : ∀ (W : World) (i : Nat) (v : Value), W.heap[x.1]? = some (.cells x.2 24 (0, 0)) → (W.setCell ⟨g, i, none⟩ v).heap[x.1]? = some (.cells x.2 24 (0, 0)) := fun W i v h => by
      rw [← h]
      exact so_ W g i v x.1 (fun e' => e e'.symm)
    exact so _ _ _ (so _ _ _ (so _ _ _ this.1))
theorem row_step {P : Program} {ops : Array Oper} {o : Oper} {a : Act} {Kc : Act → World → Prop} {Q : Exit → Act → World → Prop} {W : World} (hw : Region.wanted o (yielded ops a.tmps) = true) {N : Tmp} (_hd : o.dst = some N) {n : Nat} {cs : Array Value} {t : TypeId}
    (hrun : (execOp a.eval o).run P W = .ok (.value (.slice (some ⟨W.heap.size, 0, none⟩) n n)) (W.alloc (.cells cs t (0, 0))))
    (h : ∀ g, g = W.heap.size → ∀ w1, w1.heap[g]? = some (.cells cs t (0, 0)) → Below W.heap.size W w1 → Kc (a.put o.dst (.slice (some ⟨g, 0, none⟩) n n)) w1) : if Region.wanted o (yielded ops a.tmps) = true then Oper.wp P o a W Kc Q else Kc (a.put o.dst undef) W :=
  event_step hw hrun (h _ rfl _ (blk_new W _) (below_alloc (Below.refl _ _) _))
theorem konst0 (n : Int) (w : World) : Calls Tryd.prog 19 #[.int .i64 n] w fun e w' => e = .returned (.agg #[.int .i64 1, .int .i64 n, .slice none 0 0]) ∧ Below w.heap.size w w' := by
  have hu24 := Tryd.underlying24
  go_enter Tryd.func19, Tryd.ntmps19
  go_wp2
  refine bodyPost_ret (results_cell_row rfl _ _ w.heap.size 24 #[.int .i64 1, .int .i64 n, .slice none 0 0] (0, 0) _ rfl (blk_new _ _) Tryd.underlying24 rfl (by kernel_rfl)) rfl ?_
  exact ⟨rfl, below_alloc (Below.refl _ _) _⟩
theorem two0 (op a0 a1 b0 b1 : Int) (va vb : Value) (w : World) : Calls Tryd.prog 17 #[.int .i64 op, .agg #[.int .i64 a0, .int .i64 a1, va], .agg #[.int .i64 b0, .int .i64 b1, vb]] w fun e w' => ∃ g : Nat, w.heap.size ≤ g ∧ e = .returned (.agg #[.int .i64 op, .int .i64 0, .slice (some ⟨g, 0, none⟩) 2 2]) ∧ w'.heap[g]? = some (.cells #[.int .i64 a0, .int .i64 a1, va, .int .i64 b0, .int .i64 b1, vb] 24 (0, 0)) ∧ Below w.heap.size w w' := by
  have hu24 := Tryd.underlying24
  go_enter Tryd.func17, Tryd.ntmps17
  go_wp2
  have hA : ∀ (W : World) (o : Obj) (n : Nat), W.heap.size = n → (W.alloc o).heap[n]? = some o := fun W o n h => h ▸ blk_new W o
  refine bodyPost_ret (results_cell_row rfl _ _ (w.heap.size + 1 + 1) 24 #[.int .i64 op, .int .i64 0, .slice (some ⟨w.heap.size + 1 + 1 + 1, 0, none⟩) 2 2] (0, 0) _ rfl (blk_alloc (hA _ _ _ (by simp)) _) Tryd.underlying24 rfl (by kernel_rfl)) rfl ?_
  exact ⟨w.heap.size + 1 + 1 + 1, by omega, rfl, hA _ _ _ (by simp), below_alloc (below_alloc (below_alloc (below_alloc (Below.refl _ _) _) _) _) _⟩
theorem rowC {W : World} {g : Nat} {cs : Array Value} {l : List S24} (hx : W.heap[g]? = some (.cells cs 24 (0, 0))) (hl : l.length ≤ 9223372036854775807)
    (hk : ∀ (j : Nat) x, l[j]? = some x → ∃ v, k24.K W x [.int .i64 x.f0, .int .i64 x.f1, v] ∧ cs[j * 3]? = some (.int .i64 x.f0) ∧ cs[j * 3 + 1]? = some (.int .i64 x.f1) ∧ cs[j * 3 + 2]? = some v) :
    Kd.C k24 W (some ⟨g, 0, none⟩) l.length l := by
  refine ⟨rfl, hl, fun _ => ⟨⟨g, 0, none⟩, rfl, fun j x hj => ?_⟩⟩
  obtain ⟨v, hK, h0, h1, h2⟩ := hk j x hj
  refine ⟨_, rfl, hK, fun i u hu => ?_⟩
  have hc : ∀ n, W.cell? ((⟨g, 0, none⟩ : Addr).add n) = cs[n]? := fun n => by
    rcases Nat.eq_zero_or_pos n with rfl | hn
    · simpa [Addr.add] using blk_cell hx 0
    · rw [show (⟨g, 0, none⟩ : Addr).add n = ⟨g, 0 + n, none⟩ by simp [Addr.add, Nat.ne_of_gt hn], Nat.zero_add]
      exact blk_cell hx n
  rw [show k24.sz = 3 from rfl, hc]
  match i, hu with
  | 0, hu => exact h0.trans hu
  | 1, hu => exact h1.trans hu
  | 2, hu => exact h2.trans hu
  | (n + 3), hu => simp at hu
theorem row2C {W : World} {g : Nat} {a0 a1 b0 b1 : Int} {A B : Option Addr} {na nb : Nat} {la lb : List S24} (hx : W.heap[g]? = some (.cells #[.int .i64 a0, .int .i64 a1, .slice A na na, .int .i64 b0, .int .i64 b1, .slice B nb nb] 24 (0, 0)))
    (ea : na = la.length) (eb : nb = lb.length) (ha : Kd.C k24 W A la.length la) (hb : Kd.C k24 W B lb.length lb) : Kd.C k24 W (some ⟨g, 0, none⟩) 2 [⟨a0, a1, la⟩, ⟨b0, b1, lb⟩] := by
  subst ea eb
  refine rowC (l := [⟨a0, a1, la⟩, ⟨b0, b1, lb⟩]) hx (by simp) (fun j x hj => ?_)
  match j, hj with
  | 0, hj => obtain rfl := Option.some.inj hj; exact ⟨_, k24_mk W ⟨a0, a1, la⟩ (Nat.le_refl _) ha, rfl, rfl, rfl⟩
  | 1, hj => obtain rfl := Option.some.inj hj; exact ⟨_, k24_mk W ⟨b0, b1, lb⟩ (Nat.le_refl _) hb, rfl, rfl, rfl⟩
  | (n + 2), hj => simp at hj
theorem row3C {W : World} {g : Nat} {a0 a1 b0 b1 c0 c1 : Int} {A B C : Option Addr} {na nb nc : Nat} {la lb lc : List S24} (hx : W.heap[g]? = some (.cells #[.int .i64 a0, .int .i64 a1, .slice A na na, .int .i64 b0, .int .i64 b1, .slice B nb nb, .int .i64 c0, .int .i64 c1, .slice C nc nc] 24 (0, 0)))
    (ea : na = la.length) (eb : nb = lb.length) (ec : nc = lc.length) (ha : Kd.C k24 W A la.length la) (hb : Kd.C k24 W B lb.length lb) (hc : Kd.C k24 W C lc.length lc) : Kd.C k24 W (some ⟨g, 0, none⟩) 3 [⟨a0, a1, la⟩, ⟨b0, b1, lb⟩, ⟨c0, c1, lc⟩] := by
  subst ea eb ec
  refine rowC (l := [⟨a0, a1, la⟩, ⟨b0, b1, lb⟩, ⟨c0, c1, lc⟩]) hx (by simp) (fun j x hj => ?_)
  match j, hj with
  | 0, hj => obtain rfl := Option.some.inj hj; exact ⟨_, k24_mk W ⟨a0, a1, la⟩ (Nat.le_refl _) ha, rfl, rfl, rfl⟩
  | 1, hj => obtain rfl := Option.some.inj hj; exact ⟨_, k24_mk W ⟨b0, b1, lb⟩ (Nat.le_refl _) hb, rfl, rfl, rfl⟩
  | 2, hj => obtain rfl := Option.some.inj hj; exact ⟨_, k24_mk W ⟨c0, c1, lc⟩ (Nat.le_refl _) hc, rfl, rfl, rfl⟩
  | (n + 3), hj => simp at hj
def LA : List S24 := [⟨7, 0, [⟨2, 0, []⟩, ⟨1, 2, []⟩]⟩, ⟨4, 0, []⟩]
def LB : List S24 := [⟨12, 0, [⟨4, 0, []⟩, ⟨1, 0, []⟩]⟩, ⟨1, -1, []⟩, ⟨1, 1, []⟩]
def LX : List S24 := [⟨5, 0, LA⟩, ⟨5, 0, []⟩]
theorem nilC (W : World) : Kd.C k24 W none 0 [] := ⟨rfl, by decide, fun h => absurd h (by decide)⟩
def KF (w W : World) (sa ga sb gi : Nat) : Prop := (W.cell? ⟨sa, 0, none⟩ = some (.int .i64 5) ∧ W.cell? ⟨sa, 1, none⟩ = some (.int .i64 0) ∧ W.cell? ⟨sa, 2, none⟩ = some (.slice (some ⟨ga, 0, none⟩) 2 2)) ∧
  (W.cell? ⟨sb, 0, none⟩ = some (.int .i64 14) ∧ W.cell? ⟨sb, 1, none⟩ = some (.int .i64 0) ∧ W.cell? ⟨sb, 2, none⟩ = some (.slice (some ⟨gi, 0, none⟩) 3 3)) ∧
  Kd.C k24 W (some ⟨ga, 0, none⟩) 2 LA ∧ Kd.C k24 W (some ⟨gi, 0, none⟩) 3 LB ∧ TabW W ∧ Below w.heap.size w W
theorem KF.of {w W : World} {sa ga gm sb gi gl : Nat} {bs : List (Nat × Array Value)} (htab : TabW w) (h : St w W ((sb, #[.int .i64 14, .int .i64 0, .slice (some ⟨gi, 0, none⟩) 3 3]) :: (gi, #[.int .i64 12, .int .i64 0, .slice (some ⟨gl, 0, none⟩) 2 2, .int .i64 1, .int .i64 (-1), .slice none 0 0, .int .i64 1, .int .i64 1, .slice none 0 0]) :: (gl, #[.int .i64 4, .int .i64 0, .slice none 0 0, .int .i64 1, .int .i64 0, .slice none 0 0]) :: (sa, #[.int .i64 5, .int .i64 0, .slice (some ⟨ga, 0, none⟩) 2 2]) :: (ga, #[.int .i64 7, .int .i64 0, .slice (some ⟨gm, 0, none⟩) 2 2, .int .i64 4, .int .i64 0, .slice none 0 0]) :: (gm, #[.int .i64 2, .int .i64 0, .slice none 0 0, .int .i64 1, .int .i64 2, .slice none 0 0]) :: bs)) : KF w W sa ga sb gi := by
  refine ⟨three_c (h.get (sa, _) (by simp)), three_c (h.get (sb, _) (by simp)), ?_, ?_, htab.below h.hb, h.hb⟩
  · exact row2C (h.get (ga, _) (by simp)) rfl rfl (row2C (h.get (gm, _) (by simp)) rfl rfl (nilC W) (nilC W)) (nilC W)
  · exact row3C (h.get (gi, _) (by simp)) rfl rfl rfl (row2C (h.get (gl, _) (by simp)) rfl rfl (nilC W) (nilC W)) (nilC W) (nilC W)
theorem KF.step {w W W' : World} {sa ga sb gi : Nat} (h : KF w W sa ga sb gi) (hb : Below W.heap.size W W') : KF w W' sa ga sb gi := by
  obtain ⟨⟨a0, a1, a2⟩, ⟨b0, b1, b2⟩, ha, hb', ht, hw⟩ := h
  have c : ∀ a v, W.cell? a = some v → W'.cell? a = some v := fun a v h => (hb.cell (World.block_lt_of_cell? W _ h)).trans h
  exact ⟨⟨c _ _ a0, c _ _ a1, c _ _ a2⟩, ⟨c _ _ b0, c _ _ b1, c _ _ b2⟩, Kd.C_below ha hb, Kd.C_below hb' hb, ht.below hb, below_step hw hb⟩
theorem knA : expr_Check.f 40 5 0 LA = some 0 := by kernel_rfl
theorem knB : expr_Eval.f 40 5 0 LA 3 0 4 = some 10 := by kernel_rfl
theorem knC : expr_Text.f 40 5 0 LA = some ⟨#[97, 100, 100, 40, 109, 117, 108, 40, 107, 101, 121, 44, 32, 99, 50, 41, 44, 32, 118, 97, 108, 41]⟩ := by kernel_rfl
theorem knD : expr_Text.f 40 14 0 LB = some ⟨#[105, 102, 40, 108, 116, 40, 118, 97, 108, 44, 32, 99, 48, 41, 44, 32, 99, 45, 49, 44, 32, 99, 49, 41]⟩ := by kernel_rfl
theorem knE : expr_Eval.f 40 14 0 LB 0 0 (-9) = some (-1) := by kernel_rfl
theorem knF : expr_Check.f 40 0 0 [] = some 70 := by kernel_rfl
theorem knG : expr_Check.f 40 5 0 LX = some 70 := by kernel_rfl
def knownW.T2 : Bool × List (List Nat × List Nat) := (true, [([], []), ([], []), ([0, 1, 1], [0, 1]), ([], []), ([2, 3, 2], [2, 3]), ([], []), ([5, 4, 4, 0, 1, 2, 3, 4, 5], [4, 5])])
def knownW.B2 : List Nat := [0, 0, 3, 0, 15, 0, 63]
theorem knownW.tab2 : rtab .any (opsOf Tryd.f8 2) = knownW.T2 := by kernel_rfl
theorem knownW.bits2 : waitsOk knownW.T2.2 knownW.B2 = true := by kernel_rfl
def knownW.T3 : Bool × List (List Nat × List Nat) := (true, [([], []), ([], []), ([0, 1, 1], [0, 1]), ([2], []), ([3], []), ([2, 3, 4], [2, 3, 4]), ([5], [5]), ([], []), ([7, 6, 4, 0, 1, 2, 3, 4, 5, 6, 7], [6, 7])])
def knownW.B3 : List Nat := [0, 0, 3, 7, 15, 31, 63, 0, 255]
theorem knownW.tab3 : rtab .any (opsOf Tryd.f8 3) = knownW.T3 := by kernel_rfl
theorem knownW.bits3 : waitsOk knownW.T3.2 knownW.B3 = true := by kernel_rfl
set_option maxHeartbeats 8000000 in
set_option maxRecDepth 100000 in
theorem known0 (w : World) (htab : TabW w) : Calls Tryd.prog 8 #[] w fun e w' => e = .returned (.bool true) ∧ Below w.heap.size w w' := by
  have hu24 := Tryd.underlying24
  have hu26 := Tryd.underlying26
  have HTB := Aside0.mk htab
  clear htab
  go_enter Tryd.func8, Tryd.ntmps8
  go_wp2_with fail
  have HS : Aside0 (St w ((w.alloc (.cells #[.int .i64 4, .int .i64 0, .slice none 0 0] 24)).alloc (.cells #[.int .i64 2, .int .i64 0, .slice none 0 0] 24)) [(w.heap.size + 1, #[.int .i64 2, .int .i64 0, .slice none 0 0]), (w.heap.size, #[.int .i64 4, .int .i64 0, .slice none 0 0])]) := by
    have h0 : St w w [] := ⟨Below.refl _ _, fun x hx => absurd hx (by simp), by simp⟩
    have h1 := h0.grow (below_alloc (Below.refl _ _) _) (Nat.le_refl _) (blk_new w (.cells #[.int .i64 4, .int .i64 0, .slice none 0 0] 24 (0, 0)))
    have h2 := h1.grow (below_alloc (Below.refl _ _) _) (Nat.le_refl _) (blk_new (w.alloc (.cells #[.int .i64 4, .int .i64 0, .slice none 0 0] 24 (0, 0))) (.cells #[.int .i64 2, .int .i64 0, .slice none 0 0] 24 (0, 0)))
    exact ⟨by simpa using h2⟩
  refine start_ (n := 7) (S := fun w' => w'.cell? ⟨w.heap.size, 0, none⟩ = some (.int .i64 4) ∧ w'.cell? ⟨w.heap.size, 1, none⟩ = some (.int .i64 0) ∧ w'.cell? ⟨w.heap.size, 2, none⟩ = some (.slice none 0 0) ∧ w'.cell? ⟨w.heap.size + 1, 0, none⟩ = some (.int .i64 2) ∧ w'.cell? ⟨w.heap.size + 1, 1, none⟩ = some (.int .i64 0) ∧ w'.cell? ⟨w.heap.size + 1, 2, none⟩ = some (.slice none 0 0)) (ds := [6]) #[false, false, false, false, false, false, false] (by kernel_rfl) rfl rfl (six_ (HS.out.get (w.heap.size, #[.int .i64 4, .int .i64 0, .slice none 0 0]) (by simp)) (HS.out.get ((w.heap.size + 1), #[.int .i64 2, .int .i64 0, .slice none 0 0]) (by simp))) (fun hHeld => ?_); refine with_tabW knownW.tab2 knownW.bits2 (fun HT_ HW_ => ?_)
  have HS0 := Aside0.mk HS.out.drew
  clear HS
  generalize World.drew _ = wa at HS0 hHeld ⊢
  refine take_ (i := 0) (N := some 7) (v := ?_) (a' := ?_) #[true, false, false, false, false, false, false] rfl rfl (take_ofW HT_.out HW_.out (by kernel_rfl)) (fun _ _ _ h => h) (Or.inl ⟨by rfl, ?_⟩) hHeld ?_ ?_
  rotate_left
  · rintro w' ⟨s0, s1, s2, s3, s4, s5⟩
    go_simp
    with_reducible rfl
  rotate_left
  · simp only [Act.put, List.setIfInBounds_toArray, List.set_cons_zero, List.set_cons_succ, i64_w, i32_w]
    rfl
  refine take_ (i := 3) (N := some 10) (v := ?_) (a' := ?_) #[true, false, false, true, false, false, false] rfl rfl (take_ofW HT_.out HW_.out (by kernel_rfl)) (fun _ _ _ h => h) (Or.inl ⟨by rfl, ?_⟩) hHeld ?_ ?_
  rotate_left
  · rintro w' ⟨s0, s1, s2, s3, s4, s5⟩
    go_simp
    with_reducible rfl
  rotate_left
  · simp only [Act.put, List.setIfInBounds_toArray, List.set_cons_zero, List.set_cons_succ, i64_w, i32_w]
    rfl
  refine join_ (σ := Nat × Nat × Nat) 1 #[true, true, true, true, true, true, false] (fun (s_ : Nat × Nat × Nat) => [(8, .agg #[.int .i64 1, .int .i64 2, .slice none 0 0]), (9, .agg #[.int .i64 7, .int .i64 0, .slice (some ⟨s_.2.1, 0, none⟩) 2 2]), (11, .agg #[.int .i64 5, .int .i64 0, .slice (some ⟨s_.2.2, 0, none⟩) 2 2]), (3, .pointer (some ⟨s_.1, 0, none⟩))]) (fun (s_ : Nat × Nat × Nat) w' => St w w' [(s_.1, #[.int .i64 0, .int .i64 0, .slice none 0 0]), (s_.2.2, #[.int .i64 7, .int .i64 0, .slice (some ⟨s_.2.1, 0, none⟩) 2 2, .int .i64 4, .int .i64 0, .slice none 0 0]), (s_.2.1, #[.int .i64 2, .int .i64 0, .slice none 0 0, .int .i64 1, .int .i64 2, .slice none 0 0]), ((w.heap.size + 1), #[.int .i64 2, .int .i64 0, .slice none 0 0]), (w.heap.size, #[.int .i64 4, .int .i64 0, .slice none 0 0])]) ?_ (fun hJ3 => ?_)
  · rintro ⟨sa, gm, ga⟩ wb hF
    have HS := Aside0.mk hF
    clear hF HS0
    have hHeld : wb.cell? ⟨w.heap.size, 0, none⟩ = some (.int .i64 4) ∧ wb.cell? ⟨w.heap.size, 1, none⟩ = some (.int .i64 0) ∧ wb.cell? ⟨w.heap.size, 2, none⟩ = some (.slice none 0 0) ∧ wb.cell? ⟨w.heap.size + 1, 0, none⟩ = some (.int .i64 2) ∧ wb.cell? ⟨w.heap.size + 1, 1, none⟩ = some (.int .i64 0) ∧ wb.cell? ⟨w.heap.size + 1, 2, none⟩ = some (.slice none 0 0) := (six_ (HS.out.get (w.heap.size, #[.int .i64 4, .int .i64 0, .slice none 0 0]) (by simp)) (HS.out.get ((w.heap.size + 1), #[.int .i64 2, .int .i64 0, .slice none 0 0]) (by simp)))
    refine norm_ (a' := ?_) ?_ ?_
    rotate_left
    · simp only [putAll, Act.put, List.setIfInBounds_toArray, List.set_cons_zero, List.set_cons_succ, i64_w, i32_w]
      rfl
    have hc0 : wb.cell? ⟨sa, 0, none⟩ = some (.int .i64 0) := (blk_cell (HS.out.head) 0).trans rfl
    have hc1 : wb.cell? ⟨sa, 1, none⟩ = some (.int .i64 0) := (blk_cell (HS.out.head) 1).trans rfl
    have hc2 : wb.cell? ⟨sa, 2, none⟩ = some (.slice none 0 0) := (blk_cell (HS.out.head) 2).trans rfl
    have hz0 := blk_frozen (HS.out.head) 0
    have hz1 := blk_frozen (HS.out.head) 1
    have hz2 := blk_frozen (HS.out.head) 2
    refine last_ (i := 6) (N := none) #[true, true, true, true, true, true, true] rfl rfl (one_of HT_.out (by kernel_rfl)) (by decide) (fun K hK => ?_)
    refine skip_ (w1 := ?_) (by rfl) rfl ?_ ?_
    rotate_left
    · go_simp
      rfl
    refine hK.out _ _ ?_
    clear hK K
    refine done_ (done_of HT_.out (by kernel_rfl)) ?_
    have HSn := Aside0.mk (HS.out.store (.int .i64 5) (.int .i64 0) (.slice (some ⟨ga, 0, none⟩) 2 2))
    clear hc0 hc1 hc2 hz0 hz1 hz2 hHeld HS
    have HS := HSn
    clear HSn
    generalize ((wb.setCell ⟨sa, 0, none⟩ (.int .i64 5)).setCell ⟨sa, 1, none⟩ (.int .i64 0)).setCell ⟨sa, 2, none⟩ (.slice (some ⟨ga, 0, none⟩) 2 2) = wx at HS ⊢
    go_wp2_with fail
    refine start_ (n := 9) (S := fun w' => w'.cell? ⟨w.heap.size, 0, none⟩ = some (.int .i64 4) ∧ w'.cell? ⟨w.heap.size, 1, none⟩ = some (.int .i64 0) ∧ w'.cell? ⟨w.heap.size, 2, none⟩ = some (.slice none 0 0)) (ds := [8]) #[false, false, false, false, false, false, false, false, false] (by kernel_rfl) rfl rfl (three_c (HS.out.get (w.heap.size, #[.int .i64 4, .int .i64 0, .slice none 0 0]) (by simp))) (fun hHeld => ?_); refine with_tabW knownW.tab3 knownW.bits3 (fun HT_ HW_ => ?_)
    have HS0 := Aside0.mk HS.out.drew
    clear HS
    generalize World.drew _ = wa at HS0 hHeld ⊢
    refine take_ (i := 0) (N := some 12) (v := ?_) (a' := ?_) #[true, false, false, false, false, false, false, false, false] rfl rfl (take_ofW HT_.out HW_.out (by kernel_rfl)) (fun _ _ _ h => h) (Or.inl ⟨by rfl, ?_⟩) hHeld ?_ ?_
    rotate_left
    · rintro w' ⟨s0, s1, s2⟩
      go_simp
      with_reducible rfl
    rotate_left
    · simp only [Act.put, List.setIfInBounds_toArray, List.set_cons_zero, List.set_cons_succ, i64_w, i32_w]
      rfl
    refine join_ (σ := Nat × Nat × Nat) 1 #[true, true, true, true, true, true, true, true, false] (fun (s_ : Nat × Nat × Nat) => [(13, .agg #[.int .i64 1, .int .i64 0, .slice none 0 0]), (14, .agg #[.int .i64 12, .int .i64 0, .slice (some ⟨s_.2.1, 0, none⟩) 2 2]), (15, .agg #[.int .i64 1, .int .i64 (-1), .slice none 0 0]), (16, .agg #[.int .i64 1, .int .i64 1, .slice none 0 0]), (17, .slice (some ⟨s_.2.2, 0, none⟩) 3 3), (18, .agg #[.int .i64 14, .int .i64 0, .slice (some ⟨s_.2.2, 0, none⟩) 3 3]), (4, .pointer (some ⟨s_.1, 0, none⟩))]) (fun (s_ : Nat × Nat × Nat) w' => St w w' [(s_.1, #[.int .i64 0, .int .i64 0, .slice none 0 0]), (s_.2.2, #[.int .i64 12, .int .i64 0, .slice (some ⟨s_.2.1, 0, none⟩) 2 2, .int .i64 1, .int .i64 (-1), .slice none 0 0, .int .i64 1, .int .i64 1, .slice none 0 0]), (s_.2.1, #[.int .i64 4, .int .i64 0, .slice none 0 0, .int .i64 1, .int .i64 0, .slice none 0 0]), (sa, #[.int .i64 5, .int .i64 0, .slice (some ⟨ga, 0, none⟩) 2 2]), (ga, #[.int .i64 7, .int .i64 0, .slice (some ⟨gm, 0, none⟩) 2 2, .int .i64 4, .int .i64 0, .slice none 0 0]), (gm, #[.int .i64 2, .int .i64 0, .slice none 0 0, .int .i64 1, .int .i64 2, .slice none 0 0]), ((w.heap.size + 1), #[.int .i64 2, .int .i64 0, .slice none 0 0]), (w.heap.size, #[.int .i64 4, .int .i64 0, .slice none 0 0])]) ?_ (fun hJ6 => ?_)
    · rintro ⟨sb, gl, gi⟩ wb hF
      have HS := Aside0.mk hF
      clear hF HS0
      have hHeld : wb.cell? ⟨w.heap.size, 0, none⟩ = some (.int .i64 4) ∧ wb.cell? ⟨w.heap.size, 1, none⟩ = some (.int .i64 0) ∧ wb.cell? ⟨w.heap.size, 2, none⟩ = some (.slice none 0 0) := (three_c (HS.out.get (w.heap.size, #[.int .i64 4, .int .i64 0, .slice none 0 0]) (by simp)))
      refine norm_ (a' := ?_) ?_ ?_
      rotate_left
      · simp only [putAll, Act.put, List.setIfInBounds_toArray, List.set_cons_zero, List.set_cons_succ, i64_w, i32_w]
        rfl
      have hc0 : wb.cell? ⟨sb, 0, none⟩ = some (.int .i64 0) := (blk_cell (HS.out.head) 0).trans rfl
      have hc1 : wb.cell? ⟨sb, 1, none⟩ = some (.int .i64 0) := (blk_cell (HS.out.head) 1).trans rfl
      have hc2 : wb.cell? ⟨sb, 2, none⟩ = some (.slice none 0 0) := (blk_cell (HS.out.head) 2).trans rfl
      have hz0 := blk_frozen (HS.out.head) 0
      have hz1 := blk_frozen (HS.out.head) 1
      have hz2 := blk_frozen (HS.out.head) 2
      refine last_ (i := 8) (N := none) #[true, true, true, true, true, true, true, true, true] rfl rfl (one_of HT_.out (by kernel_rfl)) (by decide) (fun K hK => ?_)
      refine skip_ (w1 := ?_) (by rfl) rfl ?_ ?_
      rotate_left
      · go_simp
        rfl
      refine hK.out _ _ ?_
      clear hK K
      refine done_ (done_of HT_.out (by kernel_rfl)) ?_
      have HSn := Aside0.mk (HS.out.store (.int .i64 14) (.int .i64 0) (.slice (some ⟨gi, 0, none⟩) 3 3))
      clear hc0 hc1 hc2 hz0 hz1 hz2 hHeld HS
      have HS := HSn
      clear HSn
      generalize ((wb.setCell ⟨sb, 0, none⟩ (.int .i64 14)).setCell ⟨sb, 1, none⟩ (.int .i64 0)).setCell ⟨sb, 2, none⟩ (.slice (some ⟨gi, 0, none⟩) 3 3) = wx at HS ⊢
      have HK := Aside0.mk (KF.of HTB.out HS.out)
      clear HS HTB
      obtain ⟨ca0, ca1, ca2⟩ := HK.out.1
      obtain ⟨cb0, cb1, cb2⟩ := HK.out.2.1
      go_wp2_with fail
      refine (expr_Check.calls 40 5 0 (some ⟨ga, 0, none⟩) 2 LA 0 _ HK.out.2.2.1 (by decide) knA).mono ?_
      rintro e_ wn ⟨rfl, hb⟩
      clear ca0 ca1 ca2 cb0 cb1 cb2
      have HK' := Aside0.mk (HK.out.step hb)
      clear HK hb
      have HK := HK'
      clear HK'
      have ca0 := HK.out.1.1
      have ca1 := HK.out.1.2.1
      have ca2 := HK.out.1.2.2
      have cb0 := HK.out.2.1.1
      have cb1 := HK.out.2.1.2.1
      have cb2 := HK.out.2.1.2.2
      go_wp2_with fail
      refine (expr_Eval.calls 40 5 0 (some ⟨ga, 0, none⟩) 2 LA 3 0 4 10 _ HK.out.2.2.1 (by decide) knB).mono ?_
      rintro e_ wn ⟨rfl, hb⟩
      clear ca0 ca1 ca2 cb0 cb1 cb2
      have HK' := Aside0.mk (HK.out.step hb)
      clear HK hb
      have HK := HK'
      clear HK'
      have ca0 := HK.out.1.1
      have ca1 := HK.out.1.2.1
      have ca2 := HK.out.1.2.2
      have cb0 := HK.out.2.1.1
      have cb1 := HK.out.2.1.2.1
      have cb2 := HK.out.2.1.2.2
      go_wp2_with fail
      refine (expr_Text.calls 40 5 0 (some ⟨ga, 0, none⟩) 2 LA _ _ HK.out.2.2.2.2.1 HK.out.2.2.1 (by decide) knC).mono ?_
      rintro e_ wn ⟨rfl, hb⟩
      clear ca0 ca1 ca2 cb0 cb1 cb2
      have HK' := Aside0.mk (HK.out.step hb)
      clear HK hb
      have HK := HK'
      clear HK'
      have ca0 := HK.out.1.1
      have ca1 := HK.out.1.2.1
      have ca2 := HK.out.1.2.2
      have cb0 := HK.out.2.1.1
      have cb1 := HK.out.2.1.2.1
      have cb2 := HK.out.2.1.2.2
      go_wp2_with fail
      refine (expr_Text.calls 40 14 0 (some ⟨gi, 0, none⟩) 3 LB _ _ HK.out.2.2.2.2.1 HK.out.2.2.2.1 (by decide) knD).mono ?_
      rintro e_ wn ⟨rfl, hb⟩
      clear ca0 ca1 ca2 cb0 cb1 cb2
      have HK' := Aside0.mk (HK.out.step hb)
      clear HK hb
      have HK := HK'
      clear HK'
      have ca0 := HK.out.1.1
      have ca1 := HK.out.1.2.1
      have ca2 := HK.out.1.2.2
      have cb0 := HK.out.2.1.1
      have cb1 := HK.out.2.1.2.1
      have cb2 := HK.out.2.1.2.2
      go_wp2_with fail
      refine (expr_Eval.calls 40 14 0 (some ⟨gi, 0, none⟩) 3 LB 0 0 (-9) (-1) _ HK.out.2.2.2.1 (by decide) knE).mono ?_
      rintro e_ wn ⟨rfl, hb⟩
      clear ca0 ca1 ca2 cb0 cb1 cb2
      have HK' := Aside0.mk (HK.out.step hb)
      clear HK hb
      have HK := HK'
      clear HK'
      have ca0 := HK.out.1.1
      have ca1 := HK.out.1.2.1
      have ca2 := HK.out.1.2.2
      have cb0 := HK.out.2.1.1
      have cb1 := HK.out.2.1.2.1
      have cb2 := HK.out.2.1.2.2
      go_wp2_with fail
      refine (expr_Check.calls 40 0 0 none 0 [] 70 _ (nilC _) (by decide) knF).mono ?_
      rintro e_ wn ⟨rfl, hb⟩
      clear ca0 ca1 ca2 cb0 cb1 cb2
      have HK' := Aside0.mk (HK.out.step hb)
      clear HK hb
      have HK := HK'
      clear HK'
      have ca0 := HK.out.1.1
      have ca1 := HK.out.1.2.1
      have ca2 := HK.out.1.2.2
      have cb0 := HK.out.2.1.1
      have cb1 := HK.out.2.1.2.1
      have cb2 := HK.out.2.1.2.2
      go_wp2_with fail
      refine (two0 5 5 0 5 0 (.slice (some ⟨ga, 0, none⟩) 2 2) (.slice none 0 0) _).mono ?_
      rintro e_ wn ⟨gx, hge, rfl, hx, hb⟩
      clear ca0 ca1 ca2 cb0 cb1 cb2
      have HK' := Aside0.mk (HK.out.step hb)
      have HX := Aside0.mk hx
      clear hx hge
      clear HK hb
      have HK := HK'
      clear HK'
      have ca0 := HK.out.1.1
      have ca1 := HK.out.1.2.1
      have ca2 := HK.out.1.2.2
      have cb0 := HK.out.2.1.1
      have cb1 := HK.out.2.1.2.1
      have cb2 := HK.out.2.1.2.2
      go_wp2_with fail
      refine (expr_Check.calls 40 5 0 (some ⟨gx, 0, none⟩) 2 LX 70 _ (row2C HX.out rfl rfl HK.out.2.2.1 (nilC _)) (by decide) knG).mono ?_
      rintro e_ wn ⟨rfl, hb⟩
      clear ca0 ca1 ca2 cb0 cb1 cb2
      have HK' := Aside0.mk (HK.out.step hb)
      clear HK hb
      have HK := HK'
      clear HK'
      have ca0 := HK.out.1.1
      have ca1 := HK.out.1.2.1
      have ca2 := HK.out.1.2.2
      have cb0 := HK.out.2.1.1
      have cb1 := HK.out.2.1.2.1
      have cb2 := HK.out.2.1.2.2
      go_wp2_with fail
      go_ret
      exact ⟨rfl, HK.out.2.2.2.2.2⟩
    refine join_ (σ := Nat × Nat × Nat) 2 #[true, true, true, true, true, true, false, true, false] (fun (s_ : Nat × Nat × Nat) => [(13, .agg #[.int .i64 1, .int .i64 0, .slice none 0 0]), (14, .agg #[.int .i64 12, .int .i64 0, .slice (some ⟨s_.2.1, 0, none⟩) 2 2]), (15, .agg #[.int .i64 1, .int .i64 (-1), .slice none 0 0]), (16, .agg #[.int .i64 1, .int .i64 1, .slice none 0 0]), (17, .slice (some ⟨s_.2.2, 0, none⟩) 3 3), (4, .pointer (some ⟨s_.1, 0, none⟩))]) (fun (s_ : Nat × Nat × Nat) w' => St w w' [(s_.1, #[.int .i64 0, .int .i64 0, .slice none 0 0]), (s_.2.2, #[.int .i64 12, .int .i64 0, .slice (some ⟨s_.2.1, 0, none⟩) 2 2, .int .i64 1, .int .i64 (-1), .slice none 0 0, .int .i64 1, .int .i64 1, .slice none 0 0]), (s_.2.1, #[.int .i64 4, .int .i64 0, .slice none 0 0, .int .i64 1, .int .i64 0, .slice none 0 0]), (sa, #[.int .i64 5, .int .i64 0, .slice (some ⟨ga, 0, none⟩) 2 2]), (ga, #[.int .i64 7, .int .i64 0, .slice (some ⟨gm, 0, none⟩) 2 2, .int .i64 4, .int .i64 0, .slice none 0 0]), (gm, #[.int .i64 2, .int .i64 0, .slice none 0 0, .int .i64 1, .int .i64 2, .slice none 0 0]), ((w.heap.size + 1), #[.int .i64 2, .int .i64 0, .slice none 0 0]), (w.heap.size, #[.int .i64 4, .int .i64 0, .slice none 0 0])]) ?_ (fun hJ5 => ?_)
    · rintro ⟨sb, gl, gi⟩ wb hF
      have HS := Aside0.mk hF
      clear hF HS0
      have hHeld : wb.cell? ⟨w.heap.size, 0, none⟩ = some (.int .i64 4) ∧ wb.cell? ⟨w.heap.size, 1, none⟩ = some (.int .i64 0) ∧ wb.cell? ⟨w.heap.size, 2, none⟩ = some (.slice none 0 0) := (three_c (HS.out.get (w.heap.size, #[.int .i64 4, .int .i64 0, .slice none 0 0]) (by simp)))
      refine norm_ (a' := ?_) ?_ ?_
      rotate_left
      · simp only [putAll, Act.put, List.setIfInBounds_toArray, List.set_cons_zero, List.set_cons_succ, i64_w, i32_w]
        rfl
      refine pure_ (i := 6) (N := some 18) (v := ?_) (a' := ?_) #[true, true, true, true, true, true, true, true, false] rfl rfl (any_of HT_.out (by kernel_rfl)) (fun _ _ _ h => h) (Or.inl ⟨by rfl, ?_⟩) ?_ ?_
      rotate_left
      · intro w'
        go_simp
        with_reducible rfl
      rotate_left
      · simp only [Act.put, List.setIfInBounds_toArray, List.set_cons_zero, List.set_cons_succ, i64_w, i32_w]
        rfl
      exact norm_ (by first | (simp only [putAll, Act.put, List.setIfInBounds_toArray, List.set_cons_zero, List.set_cons_succ]; done) | (simp only [putAll, Act.put, List.setIfInBounds_toArray, List.set_cons_zero, List.set_cons_succ]; rfl)) (hJ6 (sb, gl, gi) _ HS.out)
    refine join_ (σ := Nat × Nat) 3 #[true, true, true, true, true, false, false, true, false] (fun (s_ : Nat × Nat) => [(13, .agg #[.int .i64 1, .int .i64 0, .slice none 0 0]), (14, .agg #[.int .i64 12, .int .i64 0, .slice (some ⟨s_.2, 0, none⟩) 2 2]), (15, .agg #[.int .i64 1, .int .i64 (-1), .slice none 0 0]), (16, .agg #[.int .i64 1, .int .i64 1, .slice none 0 0]), (4, .pointer (some ⟨s_.1, 0, none⟩))]) (fun (s_ : Nat × Nat) w' => St w w' [(s_.1, #[.int .i64 0, .int .i64 0, .slice none 0 0]), (s_.2, #[.int .i64 4, .int .i64 0, .slice none 0 0, .int .i64 1, .int .i64 0, .slice none 0 0]), (sa, #[.int .i64 5, .int .i64 0, .slice (some ⟨ga, 0, none⟩) 2 2]), (ga, #[.int .i64 7, .int .i64 0, .slice (some ⟨gm, 0, none⟩) 2 2, .int .i64 4, .int .i64 0, .slice none 0 0]), (gm, #[.int .i64 2, .int .i64 0, .slice none 0 0, .int .i64 1, .int .i64 2, .slice none 0 0]), ((w.heap.size + 1), #[.int .i64 2, .int .i64 0, .slice none 0 0]), (w.heap.size, #[.int .i64 4, .int .i64 0, .slice none 0 0])]) ?_ (fun hJ4 => ?_)
    · rintro ⟨sb, gl⟩ wb hF
      have HS := Aside0.mk hF
      clear hF HS0
      have hHeld : wb.cell? ⟨w.heap.size, 0, none⟩ = some (.int .i64 4) ∧ wb.cell? ⟨w.heap.size, 1, none⟩ = some (.int .i64 0) ∧ wb.cell? ⟨w.heap.size, 2, none⟩ = some (.slice none 0 0) := (three_c (HS.out.get (w.heap.size, #[.int .i64 4, .int .i64 0, .slice none 0 0]) (by simp)))
      refine norm_ (a' := ?_) ?_ ?_
      rotate_left
      · simp only [putAll, Act.put, List.setIfInBounds_toArray, List.set_cons_zero, List.set_cons_succ, i64_w, i32_w]
        rfl
      refine one_ (i := 5) (N := some 17) #[true, true, true, true, true, true, false, true, false] rfl rfl (one_of HT_.out (by kernel_rfl)) (by decide) (fun K hK => ?_)
      refine row_step ?hg (N := 17) ?hd (n := 3) (cs := #[.int .i64 12, .int .i64 0, .slice (some ⟨gl, 0, none⟩) 2 2, .int .i64 1, .int .i64 (-1), .slice none 0 0, .int .i64 1, .int .i64 1, .slice none 0 0]) (t := 24) ?hr ?_; (case hd => rfl); (case hg => rfl); (case hr => first | (go_simp; done) | (go_simp; rfl))
      intro gi hg wc hx hb
      have HS' := Aside0.mk (HS.out.grow hb (Nat.le_of_eq hg.symm) hx)
      clear hg
      clear HS
      have HS := HS'
      clear HS'
      replace HS := Aside0.mk HS.out.swap
      try clear hb
      try clear hx
      try clear hge
      refine hK.out _ _ (three_c (HS.out.get (w.heap.size, #[.int .i64 4, .int .i64 0, .slice none 0 0]) (by simp))) (fun hHeld => ?_)
      clear hK K
      refine norm_ (a' := ?_) ?_ ?_
      rotate_left
      · show Act.put _ (some 17) _ = _
        simp only [Act.put, List.setIfInBounds_toArray, List.set_cons_zero, List.set_cons_succ, i64_w, i32_w]
        rfl
      exact norm_ (by first | (simp only [putAll, Act.put, List.setIfInBounds_toArray, List.set_cons_zero, List.set_cons_succ]; done) | (simp only [putAll, Act.put, List.setIfInBounds_toArray, List.set_cons_zero, List.set_cons_succ]; rfl)) (hJ5 (sb, gl, gi) _ HS.out)
    refine join_ (σ := Nat × Nat) 4 #[true, true, true, true, false, false, false, true, false] (fun (s_ : Nat × Nat) => [(13, .agg #[.int .i64 1, .int .i64 0, .slice none 0 0]), (14, .agg #[.int .i64 12, .int .i64 0, .slice (some ⟨s_.2, 0, none⟩) 2 2]), (15, .agg #[.int .i64 1, .int .i64 (-1), .slice none 0 0]), (4, .pointer (some ⟨s_.1, 0, none⟩))]) (fun (s_ : Nat × Nat) w' => St w w' [(s_.1, #[.int .i64 0, .int .i64 0, .slice none 0 0]), (s_.2, #[.int .i64 4, .int .i64 0, .slice none 0 0, .int .i64 1, .int .i64 0, .slice none 0 0]), (sa, #[.int .i64 5, .int .i64 0, .slice (some ⟨ga, 0, none⟩) 2 2]), (ga, #[.int .i64 7, .int .i64 0, .slice (some ⟨gm, 0, none⟩) 2 2, .int .i64 4, .int .i64 0, .slice none 0 0]), (gm, #[.int .i64 2, .int .i64 0, .slice none 0 0, .int .i64 1, .int .i64 2, .slice none 0 0]), ((w.heap.size + 1), #[.int .i64 2, .int .i64 0, .slice none 0 0]), (w.heap.size, #[.int .i64 4, .int .i64 0, .slice none 0 0])]) ?_ (fun hJ3 => ?_)
    · rintro ⟨sb, gl⟩ wb hF
      have HS := Aside0.mk hF
      clear hF HS0
      have hHeld : wb.cell? ⟨w.heap.size, 0, none⟩ = some (.int .i64 4) ∧ wb.cell? ⟨w.heap.size, 1, none⟩ = some (.int .i64 0) ∧ wb.cell? ⟨w.heap.size, 2, none⟩ = some (.slice none 0 0) := (three_c (HS.out.get (w.heap.size, #[.int .i64 4, .int .i64 0, .slice none 0 0]) (by simp)))
      refine norm_ (a' := ?_) ?_ ?_
      rotate_left
      · simp only [putAll, Act.put, List.setIfInBounds_toArray, List.set_cons_zero, List.set_cons_succ, i64_w, i32_w]
        rfl
      refine one_ (i := 4) (N := some 16) #[true, true, true, true, true, false, false, true, false] rfl rfl (one_of HT_.out (by kernel_rfl)) (by decide) (fun K hK => ?_)
      refine goes_ Tryd.func19 (by kernel_rfl) rfl #[.int .i64 1] (by rfl) rfl rfl (by (try simp only [List.map_toArray, List.map_cons, List.map_nil]); first | done | rfl) ?_
      refine (konst0 1 _).mono ?_
      rintro e_ wc ⟨rfl, hb⟩
      refine ⟨_, rfl, ?_⟩
      have HS' := Aside0.mk (HS.out.step hb)
      clear HS
      have HS := HS'
      clear HS'
      try clear hb
      try clear hx
      try clear hge
      refine hK.out _ _ (three_c (HS.out.get (w.heap.size, #[.int .i64 4, .int .i64 0, .slice none 0 0]) (by simp))) (fun hHeld => ?_)
      clear hK K
      refine norm_ (a' := ?_) ?_ ?_
      rotate_left
      · show Act.put _ (some 16) _ = _
        simp only [Act.put, List.setIfInBounds_toArray, List.set_cons_zero, List.set_cons_succ, i64_w, i32_w]
        rfl
      exact norm_ (by first | (simp only [putAll, Act.put, List.setIfInBounds_toArray, List.set_cons_zero, List.set_cons_succ]; done) | (simp only [putAll, Act.put, List.setIfInBounds_toArray, List.set_cons_zero, List.set_cons_succ]; rfl)) (hJ4 (sb, gl) _ HS.out)
    refine join_ (σ := Nat × Nat) 5 #[true, true, true, false, false, false, false, true, false] (fun (s_ : Nat × Nat) => [(13, .agg #[.int .i64 1, .int .i64 0, .slice none 0 0]), (14, .agg #[.int .i64 12, .int .i64 0, .slice (some ⟨s_.2, 0, none⟩) 2 2]), (4, .pointer (some ⟨s_.1, 0, none⟩))]) (fun (s_ : Nat × Nat) w' => St w w' [(s_.1, #[.int .i64 0, .int .i64 0, .slice none 0 0]), (s_.2, #[.int .i64 4, .int .i64 0, .slice none 0 0, .int .i64 1, .int .i64 0, .slice none 0 0]), (sa, #[.int .i64 5, .int .i64 0, .slice (some ⟨ga, 0, none⟩) 2 2]), (ga, #[.int .i64 7, .int .i64 0, .slice (some ⟨gm, 0, none⟩) 2 2, .int .i64 4, .int .i64 0, .slice none 0 0]), (gm, #[.int .i64 2, .int .i64 0, .slice none 0 0, .int .i64 1, .int .i64 2, .slice none 0 0]), ((w.heap.size + 1), #[.int .i64 2, .int .i64 0, .slice none 0 0]), (w.heap.size, #[.int .i64 4, .int .i64 0, .slice none 0 0])]) ?_ (fun hJ2 => ?_)
    · rintro ⟨sb, gl⟩ wb hF
      have HS := Aside0.mk hF
      clear hF HS0
      have hHeld : wb.cell? ⟨w.heap.size, 0, none⟩ = some (.int .i64 4) ∧ wb.cell? ⟨w.heap.size, 1, none⟩ = some (.int .i64 0) ∧ wb.cell? ⟨w.heap.size, 2, none⟩ = some (.slice none 0 0) := (three_c (HS.out.get (w.heap.size, #[.int .i64 4, .int .i64 0, .slice none 0 0]) (by simp)))
      refine norm_ (a' := ?_) ?_ ?_
      rotate_left
      · simp only [putAll, Act.put, List.setIfInBounds_toArray, List.set_cons_zero, List.set_cons_succ, i64_w, i32_w]
        rfl
      refine one_ (i := 3) (N := some 15) #[true, true, true, true, false, false, false, true, false] rfl rfl (one_of HT_.out (by kernel_rfl)) (by decide) (fun K hK => ?_)
      refine goes_ Tryd.func19 (by kernel_rfl) rfl #[.int .i64 (-1)] (by rfl) rfl rfl (by (try simp only [List.map_toArray, List.map_cons, List.map_nil]); first | done | rfl) ?_
      refine (konst0 (-1) _).mono ?_
      rintro e_ wc ⟨rfl, hb⟩
      refine ⟨_, rfl, ?_⟩
      have HS' := Aside0.mk (HS.out.step hb)
      clear HS
      have HS := HS'
      clear HS'
      try clear hb
      try clear hx
      try clear hge
      refine hK.out _ _ (three_c (HS.out.get (w.heap.size, #[.int .i64 4, .int .i64 0, .slice none 0 0]) (by simp))) (fun hHeld => ?_)
      clear hK K
      refine norm_ (a' := ?_) ?_ ?_
      rotate_left
      · show Act.put _ (some 15) _ = _
        simp only [Act.put, List.setIfInBounds_toArray, List.set_cons_zero, List.set_cons_succ, i64_w, i32_w]
        rfl
      exact norm_ (by first | (simp only [putAll, Act.put, List.setIfInBounds_toArray, List.set_cons_zero, List.set_cons_succ]; done) | (simp only [putAll, Act.put, List.setIfInBounds_toArray, List.set_cons_zero, List.set_cons_succ]; rfl)) (hJ3 (sb, gl) _ HS.out)
    refine join_ (σ := Nat) 6 #[true, true, false, false, false, false, false, true, false] (fun (s_ : Nat) => [(13, .agg #[.int .i64 1, .int .i64 0, .slice none 0 0]), (4, .pointer (some ⟨s_, 0, none⟩))]) (fun (s_ : Nat) w' => St w w' [(s_, #[.int .i64 0, .int .i64 0, .slice none 0 0]), (sa, #[.int .i64 5, .int .i64 0, .slice (some ⟨ga, 0, none⟩) 2 2]), (ga, #[.int .i64 7, .int .i64 0, .slice (some ⟨gm, 0, none⟩) 2 2, .int .i64 4, .int .i64 0, .slice none 0 0]), (gm, #[.int .i64 2, .int .i64 0, .slice none 0 0, .int .i64 1, .int .i64 2, .slice none 0 0]), ((w.heap.size + 1), #[.int .i64 2, .int .i64 0, .slice none 0 0]), (w.heap.size, #[.int .i64 4, .int .i64 0, .slice none 0 0])]) ?_ (fun hJ1 => ?_)
    · rintro sb wb hF
      have HS := Aside0.mk hF
      clear hF HS0
      have hHeld : wb.cell? ⟨w.heap.size, 0, none⟩ = some (.int .i64 4) ∧ wb.cell? ⟨w.heap.size, 1, none⟩ = some (.int .i64 0) ∧ wb.cell? ⟨w.heap.size, 2, none⟩ = some (.slice none 0 0) := (three_c (HS.out.get (w.heap.size, #[.int .i64 4, .int .i64 0, .slice none 0 0]) (by simp)))
      refine norm_ (a' := ?_) ?_ ?_
      rotate_left
      · simp only [putAll, Act.put, List.setIfInBounds_toArray, List.set_cons_zero, List.set_cons_succ, i64_w, i32_w]
        rfl
      refine one_ (i := 2) (N := some 14) #[true, true, true, false, false, false, false, true, false] rfl rfl (one_of HT_.out (by kernel_rfl)) (by decide) (fun K hK => ?_)
      refine goes_ Tryd.func17 (by kernel_rfl) rfl #[.int .i64 12, .agg #[.int .i64 4, .int .i64 0, .slice none 0 0], .agg #[.int .i64 1, .int .i64 0, .slice none 0 0]] (by rfl) rfl rfl (by (try simp only [List.map_toArray, List.map_cons, List.map_nil]); first | done | rfl) ?_
      refine (two0 12 4 0 1 0 (.slice none 0 0) (.slice none 0 0) _).mono ?_
      rintro e_ wc ⟨gl, hge, rfl, hx, hb⟩
      refine ⟨_, rfl, ?_⟩
      have HS' := Aside0.mk (HS.out.grow hb hge hx)
      clear HS
      have HS := HS'
      clear HS'
      replace HS := Aside0.mk HS.out.swap
      try clear hb
      try clear hx
      try clear hge
      refine hK.out _ _ (three_c (HS.out.get (w.heap.size, #[.int .i64 4, .int .i64 0, .slice none 0 0]) (by simp))) (fun hHeld => ?_)
      clear hK K
      refine norm_ (a' := ?_) ?_ ?_
      rotate_left
      · show Act.put _ (some 14) _ = _
        simp only [Act.put, List.setIfInBounds_toArray, List.set_cons_zero, List.set_cons_succ, i64_w, i32_w]
        rfl
      exact norm_ (by first | (simp only [putAll, Act.put, List.setIfInBounds_toArray, List.set_cons_zero, List.set_cons_succ]; done) | (simp only [putAll, Act.put, List.setIfInBounds_toArray, List.set_cons_zero, List.set_cons_succ]; rfl)) (hJ2 (sb, gl) _ HS.out)
    refine join_ (σ := Nat) 7 #[true, false, false, false, false, false, false, true, false] (fun (s_ : Nat) => [(4, .pointer (some ⟨s_, 0, none⟩))]) (fun (s_ : Nat) w' => St w w' [(s_, #[.int .i64 0, .int .i64 0, .slice none 0 0]), (sa, #[.int .i64 5, .int .i64 0, .slice (some ⟨ga, 0, none⟩) 2 2]), (ga, #[.int .i64 7, .int .i64 0, .slice (some ⟨gm, 0, none⟩) 2 2, .int .i64 4, .int .i64 0, .slice none 0 0]), (gm, #[.int .i64 2, .int .i64 0, .slice none 0 0, .int .i64 1, .int .i64 2, .slice none 0 0]), ((w.heap.size + 1), #[.int .i64 2, .int .i64 0, .slice none 0 0]), (w.heap.size, #[.int .i64 4, .int .i64 0, .slice none 0 0])]) ?_ (fun hJ0 => ?_)
    · rintro sb wb hF
      have HS := Aside0.mk hF
      clear hF HS0
      have hHeld : wb.cell? ⟨w.heap.size, 0, none⟩ = some (.int .i64 4) ∧ wb.cell? ⟨w.heap.size, 1, none⟩ = some (.int .i64 0) ∧ wb.cell? ⟨w.heap.size, 2, none⟩ = some (.slice none 0 0) := (three_c (HS.out.get (w.heap.size, #[.int .i64 4, .int .i64 0, .slice none 0 0]) (by simp)))
      refine norm_ (a' := ?_) ?_ ?_
      rotate_left
      · simp only [putAll, Act.put, List.setIfInBounds_toArray, List.set_cons_zero, List.set_cons_succ, i64_w, i32_w]
        rfl
      refine one_ (i := 1) (N := some 13) #[true, true, false, false, false, false, false, true, false] rfl rfl (one_of HT_.out (by kernel_rfl)) (by decide) (fun K hK => ?_)
      refine goes_ Tryd.func19 (by kernel_rfl) rfl #[.int .i64 0] (by rfl) rfl rfl (by (try simp only [List.map_toArray, List.map_cons, List.map_nil]); first | done | rfl) ?_
      refine (konst0 0 _).mono ?_
      rintro e_ wc ⟨rfl, hb⟩
      refine ⟨_, rfl, ?_⟩
      have HS' := Aside0.mk (HS.out.step hb)
      clear HS
      have HS := HS'
      clear HS'
      try clear hb
      try clear hx
      try clear hge
      refine hK.out _ _ (three_c (HS.out.get (w.heap.size, #[.int .i64 4, .int .i64 0, .slice none 0 0]) (by simp))) (fun hHeld => ?_)
      clear hK K
      refine norm_ (a' := ?_) ?_ ?_
      rotate_left
      · show Act.put _ (some 13) _ = _
        simp only [Act.put, List.setIfInBounds_toArray, List.set_cons_zero, List.set_cons_succ, i64_w, i32_w]
        rfl
      exact norm_ (by first | (simp only [putAll, Act.put, List.setIfInBounds_toArray, List.set_cons_zero, List.set_cons_succ]; done) | (simp only [putAll, Act.put, List.setIfInBounds_toArray, List.set_cons_zero, List.set_cons_succ]; rfl)) (hJ1 (sb) _ HS.out)
    have HS := HS0
    clear HS0
    refine two_ (i := 1) (j := 7) (Ni := some 13) (Nj := some 4) #[true, true, false, false, false, false, false, false, false] #[true, false, false, false, false, false, false, true, false] rfl rfl rfl rfl (two_of HT_.out (by kernel_rfl)) (by decide) (by decide) (fun K hK => ?_) (fun K hK => ?_)
    rotate_left
    · skip
      refine box_step ?hg (N := 4) ?hd (cs := #[.int .i64 0, .int .i64 0, .slice none 0 0]) (t := 24) ?hr ?_; (case hd => rfl); (case hg => rfl); (case hr => first | (go_simp; done) | (go_simp; rfl))
      intro sb hg wd0 hx hb
      have HS' := Aside0.mk (HS.out.grow hb (Nat.le_of_eq hg.symm) hx)
      clear HS
      have HS := HS'
      clear HS' hb hx hg
      refine hK.out _ _ (three_c (HS.out.get (w.heap.size, #[.int .i64 4, .int .i64 0, .slice none 0 0]) (by simp))) (fun hHeld => ?_)
      clear hK K
      refine norm_ (a' := ?_) ?_ ?_
      rotate_left
      · show Act.put _ (some 4) _ = _
        simp only [Act.put, List.setIfInBounds_toArray, List.set_cons_zero, List.set_cons_succ, i64_w, i32_w]
        rfl
      exact norm_ (by first | (simp only [putAll, Act.put, List.setIfInBounds_toArray, List.set_cons_zero, List.set_cons_succ]; done) | (simp only [putAll, Act.put, List.setIfInBounds_toArray, List.set_cons_zero, List.set_cons_succ]; rfl)) (hJ0 (sb) _ HS.out)
    refine goes_ Tryd.func19 (by kernel_rfl) rfl #[.int .i64 0] (by rfl) rfl rfl (by (try simp only [List.map_toArray, List.map_cons, List.map_nil]); first | done | rfl) ?_
    refine (konst0 0 _).mono ?_
    rintro e_ we0 ⟨rfl, hb⟩
    refine ⟨_, rfl, ?_⟩
    have HS' := Aside0.mk (HS.out.step hb)
    clear HS
    have HS := HS'
    clear HS'
    try clear hb
    try clear hx
    try clear hge
    refine hK.out _ _ (three_c (HS.out.get (w.heap.size, #[.int .i64 4, .int .i64 0, .slice none 0 0]) (by simp))) (fun hHeld => ?_)
    clear hK K
    refine norm_ (a' := ?_) ?_ ?_
    rotate_left
    · show Act.put _ (some 13) _ = _
      simp only [Act.put, List.setIfInBounds_toArray, List.set_cons_zero, List.set_cons_succ, i64_w, i32_w]
      rfl
    refine two_ (i := 2) (j := 7) (Ni := some 14) (Nj := some 4) #[true, true, true, false, false, false, false, false, false] #[true, true, false, false, false, false, false, true, false] rfl rfl rfl rfl (two_of HT_.out (by kernel_rfl)) (by decide) (by decide) (fun K hK => ?_) (fun K hK => ?_)
    rotate_left
    · skip
      refine box_step ?hg (N := 4) ?hd (cs := #[.int .i64 0, .int .i64 0, .slice none 0 0]) (t := 24) ?hr ?_; (case hd => rfl); (case hg => rfl); (case hr => first | (go_simp; done) | (go_simp; rfl))
      intro sb hg wd1 hx hb
      have HS' := Aside0.mk (HS.out.grow hb (Nat.le_of_eq hg.symm) hx)
      clear HS
      have HS := HS'
      clear HS' hb hx hg
      refine hK.out _ _ (three_c (HS.out.get (w.heap.size, #[.int .i64 4, .int .i64 0, .slice none 0 0]) (by simp))) (fun hHeld => ?_)
      clear hK K
      refine norm_ (a' := ?_) ?_ ?_
      rotate_left
      · show Act.put _ (some 4) _ = _
        simp only [Act.put, List.setIfInBounds_toArray, List.set_cons_zero, List.set_cons_succ, i64_w, i32_w]
        rfl
      exact norm_ (by first | (simp only [putAll, Act.put, List.setIfInBounds_toArray, List.set_cons_zero, List.set_cons_succ]; done) | (simp only [putAll, Act.put, List.setIfInBounds_toArray, List.set_cons_zero, List.set_cons_succ]; rfl)) (hJ1 (sb) _ HS.out)
    refine goes_ Tryd.func17 (by kernel_rfl) rfl #[.int .i64 12, .agg #[.int .i64 4, .int .i64 0, .slice none 0 0], .agg #[.int .i64 1, .int .i64 0, .slice none 0 0]] (by rfl) rfl rfl (by (try simp only [List.map_toArray, List.map_cons, List.map_nil]); first | done | rfl) ?_
    refine (two0 12 4 0 1 0 (.slice none 0 0) (.slice none 0 0) _).mono ?_
    rintro e_ we1 ⟨gl, hge, rfl, hx, hb⟩
    refine ⟨_, rfl, ?_⟩
    have HS' := Aside0.mk (HS.out.grow hb hge hx)
    clear HS
    have HS := HS'
    clear HS'
    try clear hb
    try clear hx
    try clear hge
    refine hK.out _ _ (three_c (HS.out.get (w.heap.size, #[.int .i64 4, .int .i64 0, .slice none 0 0]) (by simp))) (fun hHeld => ?_)
    clear hK K
    refine norm_ (a' := ?_) ?_ ?_
    rotate_left
    · show Act.put _ (some 14) _ = _
      simp only [Act.put, List.setIfInBounds_toArray, List.set_cons_zero, List.set_cons_succ, i64_w, i32_w]
      rfl
    refine two_ (i := 3) (j := 7) (Ni := some 15) (Nj := some 4) #[true, true, true, true, false, false, false, false, false] #[true, true, true, false, false, false, false, true, false] rfl rfl rfl rfl (two_of HT_.out (by kernel_rfl)) (by decide) (by decide) (fun K hK => ?_) (fun K hK => ?_)
    rotate_left
    · skip
      refine box_step ?hg (N := 4) ?hd (cs := #[.int .i64 0, .int .i64 0, .slice none 0 0]) (t := 24) ?hr ?_; (case hd => rfl); (case hg => rfl); (case hr => first | (go_simp; done) | (go_simp; rfl))
      intro sb hg wd2 hx hb
      have HS' := Aside0.mk (HS.out.grow hb (Nat.le_of_eq hg.symm) hx)
      clear HS
      have HS := HS'
      clear HS' hb hx hg
      refine hK.out _ _ (three_c (HS.out.get (w.heap.size, #[.int .i64 4, .int .i64 0, .slice none 0 0]) (by simp))) (fun hHeld => ?_)
      clear hK K
      refine norm_ (a' := ?_) ?_ ?_
      rotate_left
      · show Act.put _ (some 4) _ = _
        simp only [Act.put, List.setIfInBounds_toArray, List.set_cons_zero, List.set_cons_succ, i64_w, i32_w]
        rfl
      exact norm_ (by first | (simp only [putAll, Act.put, List.setIfInBounds_toArray, List.set_cons_zero, List.set_cons_succ]; done) | (simp only [putAll, Act.put, List.setIfInBounds_toArray, List.set_cons_zero, List.set_cons_succ]; rfl)) (hJ2 (sb, gl) _ HS.out)
    refine goes_ Tryd.func19 (by kernel_rfl) rfl #[.int .i64 (-1)] (by rfl) rfl rfl (by (try simp only [List.map_toArray, List.map_cons, List.map_nil]); first | done | rfl) ?_
    refine (konst0 (-1) _).mono ?_
    rintro e_ we2 ⟨rfl, hb⟩
    refine ⟨_, rfl, ?_⟩
    have HS' := Aside0.mk (HS.out.step hb)
    clear HS
    have HS := HS'
    clear HS'
    try clear hb
    try clear hx
    try clear hge
    refine hK.out _ _ (three_c (HS.out.get (w.heap.size, #[.int .i64 4, .int .i64 0, .slice none 0 0]) (by simp))) (fun hHeld => ?_)
    clear hK K
    refine norm_ (a' := ?_) ?_ ?_
    rotate_left
    · show Act.put _ (some 15) _ = _
      simp only [Act.put, List.setIfInBounds_toArray, List.set_cons_zero, List.set_cons_succ, i64_w, i32_w]
      rfl
    refine two_ (i := 4) (j := 7) (Ni := some 16) (Nj := some 4) #[true, true, true, true, true, false, false, false, false] #[true, true, true, true, false, false, false, true, false] rfl rfl rfl rfl (two_of HT_.out (by kernel_rfl)) (by decide) (by decide) (fun K hK => ?_) (fun K hK => ?_)
    rotate_left
    · skip
      refine box_step ?hg (N := 4) ?hd (cs := #[.int .i64 0, .int .i64 0, .slice none 0 0]) (t := 24) ?hr ?_; (case hd => rfl); (case hg => rfl); (case hr => first | (go_simp; done) | (go_simp; rfl))
      intro sb hg wd3 hx hb
      have HS' := Aside0.mk (HS.out.grow hb (Nat.le_of_eq hg.symm) hx)
      clear HS
      have HS := HS'
      clear HS' hb hx hg
      refine hK.out _ _ (three_c (HS.out.get (w.heap.size, #[.int .i64 4, .int .i64 0, .slice none 0 0]) (by simp))) (fun hHeld => ?_)
      clear hK K
      refine norm_ (a' := ?_) ?_ ?_
      rotate_left
      · show Act.put _ (some 4) _ = _
        simp only [Act.put, List.setIfInBounds_toArray, List.set_cons_zero, List.set_cons_succ, i64_w, i32_w]
        rfl
      exact norm_ (by first | (simp only [putAll, Act.put, List.setIfInBounds_toArray, List.set_cons_zero, List.set_cons_succ]; done) | (simp only [putAll, Act.put, List.setIfInBounds_toArray, List.set_cons_zero, List.set_cons_succ]; rfl)) (hJ3 (sb, gl) _ HS.out)
    refine goes_ Tryd.func19 (by kernel_rfl) rfl #[.int .i64 1] (by rfl) rfl rfl (by (try simp only [List.map_toArray, List.map_cons, List.map_nil]); first | done | rfl) ?_
    refine (konst0 1 _).mono ?_
    rintro e_ we3 ⟨rfl, hb⟩
    refine ⟨_, rfl, ?_⟩
    have HS' := Aside0.mk (HS.out.step hb)
    clear HS
    have HS := HS'
    clear HS'
    try clear hb
    try clear hx
    try clear hge
    refine hK.out _ _ (three_c (HS.out.get (w.heap.size, #[.int .i64 4, .int .i64 0, .slice none 0 0]) (by simp))) (fun hHeld => ?_)
    clear hK K
    refine norm_ (a' := ?_) ?_ ?_
    rotate_left
    · show Act.put _ (some 16) _ = _
      simp only [Act.put, List.setIfInBounds_toArray, List.set_cons_zero, List.set_cons_succ, i64_w, i32_w]
      rfl
    refine two_ (i := 5) (j := 7) (Ni := some 17) (Nj := some 4) #[true, true, true, true, true, true, false, false, false] #[true, true, true, true, true, false, false, true, false] rfl rfl rfl rfl (two_of HT_.out (by kernel_rfl)) (by decide) (by decide) (fun K hK => ?_) (fun K hK => ?_)
    rotate_left
    · skip
      refine box_step ?hg (N := 4) ?hd (cs := #[.int .i64 0, .int .i64 0, .slice none 0 0]) (t := 24) ?hr ?_; (case hd => rfl); (case hg => rfl); (case hr => first | (go_simp; done) | (go_simp; rfl))
      intro sb hg wd4 hx hb
      have HS' := Aside0.mk (HS.out.grow hb (Nat.le_of_eq hg.symm) hx)
      clear HS
      have HS := HS'
      clear HS' hb hx hg
      refine hK.out _ _ (three_c (HS.out.get (w.heap.size, #[.int .i64 4, .int .i64 0, .slice none 0 0]) (by simp))) (fun hHeld => ?_)
      clear hK K
      refine norm_ (a' := ?_) ?_ ?_
      rotate_left
      · show Act.put _ (some 4) _ = _
        simp only [Act.put, List.setIfInBounds_toArray, List.set_cons_zero, List.set_cons_succ, i64_w, i32_w]
        rfl
      exact norm_ (by first | (simp only [putAll, Act.put, List.setIfInBounds_toArray, List.set_cons_zero, List.set_cons_succ]; done) | (simp only [putAll, Act.put, List.setIfInBounds_toArray, List.set_cons_zero, List.set_cons_succ]; rfl)) (hJ4 (sb, gl) _ HS.out)
    refine row_step ?hg (N := 17) ?hd (n := 3) (cs := #[.int .i64 12, .int .i64 0, .slice (some ⟨gl, 0, none⟩) 2 2, .int .i64 1, .int .i64 (-1), .slice none 0 0, .int .i64 1, .int .i64 1, .slice none 0 0]) (t := 24) ?hr ?_; (case hd => rfl); (case hg => rfl); (case hr => first | (go_simp; done) | (go_simp; rfl))
    intro gi hg we4 hx hb
    have HS' := Aside0.mk (HS.out.grow hb (Nat.le_of_eq hg.symm) hx)
    clear hg
    clear HS
    have HS := HS'
    clear HS'
    try clear hb
    try clear hx
    try clear hge
    refine hK.out _ _ (three_c (HS.out.get (w.heap.size, #[.int .i64 4, .int .i64 0, .slice none 0 0]) (by simp))) (fun hHeld => ?_)
    clear hK K
    refine norm_ (a' := ?_) ?_ ?_
    rotate_left
    · show Act.put _ (some 17) _ = _
      simp only [Act.put, List.setIfInBounds_toArray, List.set_cons_zero, List.set_cons_succ, i64_w, i32_w]
      rfl
    refine pure_ (i := 6) (N := some 18) (v := ?_) (a' := ?_) #[true, true, true, true, true, true, true, false, false] rfl rfl (any_of HT_.out (by kernel_rfl)) (fun _ _ _ h => h) (Or.inl ⟨by rfl, ?_⟩) ?_ ?_
    rotate_left
    · intro w'
      go_simp
      with_reducible rfl
    rotate_left
    · simp only [Act.put, List.setIfInBounds_toArray, List.set_cons_zero, List.set_cons_succ, i64_w, i32_w]
      rfl
    refine one_ (i := 7) (N := some 4) #[true, true, true, true, true, true, true, true, false] rfl rfl (one_of HT_.out (by kernel_rfl)) (by decide) (fun K hK => ?_)
    refine box_step ?hg (N := 4) ?hd (cs := #[.int .i64 0, .int .i64 0, .slice none 0 0]) (t := 24) ?hr ?_; (case hd => rfl); (case hg => rfl); (case hr => first | (go_simp; done) | (go_simp; rfl))
    intro sb hg wf hx hb
    have HS' := Aside0.mk (HS.out.grow hb (Nat.le_of_eq hg.symm) hx)
    clear HS
    have HS := HS'
    clear HS' hb hx hg
    refine hK.out _ _ (three_c (HS.out.get (w.heap.size, #[.int .i64 4, .int .i64 0, .slice none 0 0]) (by simp))) (fun hHeld => ?_)
    clear hK K
    refine norm_ (a' := ?_) ?_ ?_
    rotate_left
    · show Act.put _ (some 4) _ = _
      simp only [Act.put, List.setIfInBounds_toArray, List.set_cons_zero, List.set_cons_succ, i64_w, i32_w]
      rfl
    exact norm_ (by first | (simp only [putAll, Act.put, List.setIfInBounds_toArray, List.set_cons_zero, List.set_cons_succ]; done) | (simp only [putAll, Act.put, List.setIfInBounds_toArray, List.set_cons_zero, List.set_cons_succ]; rfl)) (hJ6 (sb, gl, gi) _ HS.out)
  refine join_ (σ := Nat × Nat) 2 #[true, true, true, true, false, true, false] (fun (s_ : Nat × Nat) => [(8, .agg #[.int .i64 1, .int .i64 2, .slice none 0 0]), (9, .agg #[.int .i64 7, .int .i64 0, .slice (some ⟨s_.2, 0, none⟩) 2 2]), (3, .pointer (some ⟨s_.1, 0, none⟩))]) (fun (s_ : Nat × Nat) w' => St w w' [(s_.1, #[.int .i64 0, .int .i64 0, .slice none 0 0]), (s_.2, #[.int .i64 2, .int .i64 0, .slice none 0 0, .int .i64 1, .int .i64 2, .slice none 0 0]), ((w.heap.size + 1), #[.int .i64 2, .int .i64 0, .slice none 0 0]), (w.heap.size, #[.int .i64 4, .int .i64 0, .slice none 0 0])]) ?_ (fun hJ2 => ?_)
  · rintro ⟨sa, gm⟩ wb hF
    have HS := Aside0.mk hF
    clear hF HS0
    have hHeld : wb.cell? ⟨w.heap.size, 0, none⟩ = some (.int .i64 4) ∧ wb.cell? ⟨w.heap.size, 1, none⟩ = some (.int .i64 0) ∧ wb.cell? ⟨w.heap.size, 2, none⟩ = some (.slice none 0 0) ∧ wb.cell? ⟨w.heap.size + 1, 0, none⟩ = some (.int .i64 2) ∧ wb.cell? ⟨w.heap.size + 1, 1, none⟩ = some (.int .i64 0) ∧ wb.cell? ⟨w.heap.size + 1, 2, none⟩ = some (.slice none 0 0) := (six_ (HS.out.get (w.heap.size, #[.int .i64 4, .int .i64 0, .slice none 0 0]) (by simp)) (HS.out.get ((w.heap.size + 1), #[.int .i64 2, .int .i64 0, .slice none 0 0]) (by simp)))
    refine norm_ (a' := ?_) ?_ ?_
    rotate_left
    · simp only [putAll, Act.put, List.setIfInBounds_toArray, List.set_cons_zero, List.set_cons_succ, i64_w, i32_w]
      rfl
    refine one_ (i := 4) (N := some 11) #[true, true, true, true, true, true, false] rfl rfl (one_of HT_.out (by kernel_rfl)) (by decide) (fun K hK => ?_)
    refine goes_ Tryd.func17 (by kernel_rfl) rfl #[.int .i64 5, .agg #[.int .i64 7, .int .i64 0, .slice (some ⟨gm, 0, none⟩) 2 2], .agg #[.int .i64 4, .int .i64 0, .slice none 0 0]] (by rfl) rfl rfl (by (try simp only [List.map_toArray, List.map_cons, List.map_nil]); first | done | rfl) ?_
    refine (two0 5 7 0 4 0 (.slice (some ⟨gm, 0, none⟩) 2 2) (.slice none 0 0) _).mono ?_
    rintro e_ wc ⟨ga, hge, rfl, hx, hb⟩
    refine ⟨_, rfl, ?_⟩
    have HS' := Aside0.mk (HS.out.grow hb hge hx)
    clear HS
    have HS := HS'
    clear HS'
    replace HS := Aside0.mk HS.out.swap
    try clear hb
    try clear hx
    try clear hge
    refine hK.out _ _ (six_ (HS.out.get (w.heap.size, #[.int .i64 4, .int .i64 0, .slice none 0 0]) (by simp)) (HS.out.get ((w.heap.size + 1), #[.int .i64 2, .int .i64 0, .slice none 0 0]) (by simp))) (fun hHeld => ?_)
    clear hK K
    refine norm_ (a' := ?_) ?_ ?_
    rotate_left
    · show Act.put _ (some 11) _ = _
      simp only [Act.put, List.setIfInBounds_toArray, List.set_cons_zero, List.set_cons_succ, i64_w, i32_w]
      rfl
    exact norm_ (by first | (simp only [putAll, Act.put, List.setIfInBounds_toArray, List.set_cons_zero, List.set_cons_succ]; done) | (simp only [putAll, Act.put, List.setIfInBounds_toArray, List.set_cons_zero, List.set_cons_succ]; rfl)) (hJ3 (sa, gm, ga) _ HS.out)
  refine join_ (σ := Nat) 3 #[true, true, false, true, false, true, false] (fun (s_ : Nat) => [(8, .agg #[.int .i64 1, .int .i64 2, .slice none 0 0]), (3, .pointer (some ⟨s_, 0, none⟩))]) (fun (s_ : Nat) w' => St w w' [(s_, #[.int .i64 0, .int .i64 0, .slice none 0 0]), ((w.heap.size + 1), #[.int .i64 2, .int .i64 0, .slice none 0 0]), (w.heap.size, #[.int .i64 4, .int .i64 0, .slice none 0 0])]) ?_ (fun hJ1 => ?_)
  · rintro sa wb hF
    have HS := Aside0.mk hF
    clear hF HS0
    have hHeld : wb.cell? ⟨w.heap.size, 0, none⟩ = some (.int .i64 4) ∧ wb.cell? ⟨w.heap.size, 1, none⟩ = some (.int .i64 0) ∧ wb.cell? ⟨w.heap.size, 2, none⟩ = some (.slice none 0 0) ∧ wb.cell? ⟨w.heap.size + 1, 0, none⟩ = some (.int .i64 2) ∧ wb.cell? ⟨w.heap.size + 1, 1, none⟩ = some (.int .i64 0) ∧ wb.cell? ⟨w.heap.size + 1, 2, none⟩ = some (.slice none 0 0) := (six_ (HS.out.get (w.heap.size, #[.int .i64 4, .int .i64 0, .slice none 0 0]) (by simp)) (HS.out.get ((w.heap.size + 1), #[.int .i64 2, .int .i64 0, .slice none 0 0]) (by simp)))
    refine norm_ (a' := ?_) ?_ ?_
    rotate_left
    · simp only [putAll, Act.put, List.setIfInBounds_toArray, List.set_cons_zero, List.set_cons_succ, i64_w, i32_w]
      rfl
    refine one_ (i := 2) (N := some 9) #[true, true, true, true, false, true, false] rfl rfl (one_of HT_.out (by kernel_rfl)) (by decide) (fun K hK => ?_)
    refine goes_ Tryd.func17 (by kernel_rfl) rfl #[.int .i64 7, .agg #[.int .i64 2, .int .i64 0, .slice none 0 0], .agg #[.int .i64 1, .int .i64 2, .slice none 0 0]] (by rfl) rfl rfl (by (try simp only [List.map_toArray, List.map_cons, List.map_nil]); first | done | rfl) ?_
    refine (two0 7 2 0 1 2 (.slice none 0 0) (.slice none 0 0) _).mono ?_
    rintro e_ wc ⟨gm, hge, rfl, hx, hb⟩
    refine ⟨_, rfl, ?_⟩
    have HS' := Aside0.mk (HS.out.grow hb hge hx)
    clear HS
    have HS := HS'
    clear HS'
    replace HS := Aside0.mk HS.out.swap
    try clear hb
    try clear hx
    try clear hge
    refine hK.out _ _ (six_ (HS.out.get (w.heap.size, #[.int .i64 4, .int .i64 0, .slice none 0 0]) (by simp)) (HS.out.get ((w.heap.size + 1), #[.int .i64 2, .int .i64 0, .slice none 0 0]) (by simp))) (fun hHeld => ?_)
    clear hK K
    refine norm_ (a' := ?_) ?_ ?_
    rotate_left
    · show Act.put _ (some 9) _ = _
      simp only [Act.put, List.setIfInBounds_toArray, List.set_cons_zero, List.set_cons_succ, i64_w, i32_w]
      rfl
    exact norm_ (by first | (simp only [putAll, Act.put, List.setIfInBounds_toArray, List.set_cons_zero, List.set_cons_succ]; done) | (simp only [putAll, Act.put, List.setIfInBounds_toArray, List.set_cons_zero, List.set_cons_succ]; rfl)) (hJ2 (sa, gm) _ HS.out)
  refine join_ (σ := Nat) 4 #[true, false, false, true, false, true, false] (fun (s_ : Nat) => [(3, .pointer (some ⟨s_, 0, none⟩))]) (fun (s_ : Nat) w' => St w w' [(s_, #[.int .i64 0, .int .i64 0, .slice none 0 0]), ((w.heap.size + 1), #[.int .i64 2, .int .i64 0, .slice none 0 0]), (w.heap.size, #[.int .i64 4, .int .i64 0, .slice none 0 0])]) ?_ (fun hJ0 => ?_)
  · rintro sa wb hF
    have HS := Aside0.mk hF
    clear hF HS0
    have hHeld : wb.cell? ⟨w.heap.size, 0, none⟩ = some (.int .i64 4) ∧ wb.cell? ⟨w.heap.size, 1, none⟩ = some (.int .i64 0) ∧ wb.cell? ⟨w.heap.size, 2, none⟩ = some (.slice none 0 0) ∧ wb.cell? ⟨w.heap.size + 1, 0, none⟩ = some (.int .i64 2) ∧ wb.cell? ⟨w.heap.size + 1, 1, none⟩ = some (.int .i64 0) ∧ wb.cell? ⟨w.heap.size + 1, 2, none⟩ = some (.slice none 0 0) := (six_ (HS.out.get (w.heap.size, #[.int .i64 4, .int .i64 0, .slice none 0 0]) (by simp)) (HS.out.get ((w.heap.size + 1), #[.int .i64 2, .int .i64 0, .slice none 0 0]) (by simp)))
    refine norm_ (a' := ?_) ?_ ?_
    rotate_left
    · simp only [putAll, Act.put, List.setIfInBounds_toArray, List.set_cons_zero, List.set_cons_succ, i64_w, i32_w]
      rfl
    refine one_ (i := 1) (N := some 8) #[true, true, false, true, false, true, false] rfl rfl (one_of HT_.out (by kernel_rfl)) (by decide) (fun K hK => ?_)
    refine goes_ Tryd.func19 (by kernel_rfl) rfl #[.int .i64 2] (by rfl) rfl rfl (by (try simp only [List.map_toArray, List.map_cons, List.map_nil]); first | done | rfl) ?_
    refine (konst0 2 _).mono ?_
    rintro e_ wc ⟨rfl, hb⟩
    refine ⟨_, rfl, ?_⟩
    have HS' := Aside0.mk (HS.out.step hb)
    clear HS
    have HS := HS'
    clear HS'
    try clear hb
    try clear hx
    try clear hge
    refine hK.out _ _ (six_ (HS.out.get (w.heap.size, #[.int .i64 4, .int .i64 0, .slice none 0 0]) (by simp)) (HS.out.get ((w.heap.size + 1), #[.int .i64 2, .int .i64 0, .slice none 0 0]) (by simp))) (fun hHeld => ?_)
    clear hK K
    refine norm_ (a' := ?_) ?_ ?_
    rotate_left
    · show Act.put _ (some 8) _ = _
      simp only [Act.put, List.setIfInBounds_toArray, List.set_cons_zero, List.set_cons_succ, i64_w, i32_w]
      rfl
    exact norm_ (by first | (simp only [putAll, Act.put, List.setIfInBounds_toArray, List.set_cons_zero, List.set_cons_succ]; done) | (simp only [putAll, Act.put, List.setIfInBounds_toArray, List.set_cons_zero, List.set_cons_succ]; rfl)) (hJ1 (sa) _ HS.out)
  have HS := HS0
  clear HS0
  refine two_ (i := 1) (j := 5) (Ni := some 8) (Nj := some 3) #[true, true, false, true, false, false, false] #[true, false, false, true, false, true, false] rfl rfl rfl rfl (two_of HT_.out (by kernel_rfl)) (by decide) (by decide) (fun K hK => ?_) (fun K hK => ?_)
  rotate_left
  · skip
    refine box_step ?hg (N := 3) ?hd (cs := #[.int .i64 0, .int .i64 0, .slice none 0 0]) (t := 24) ?hr ?_; (case hd => rfl); (case hg => rfl); (case hr => first | (go_simp; done) | (go_simp; rfl))
    intro sa hg wd0 hx hb
    have HS' := Aside0.mk (HS.out.grow hb (Nat.le_of_eq hg.symm) hx)
    clear HS
    have HS := HS'
    clear HS' hb hx hg
    refine hK.out _ _ (six_ (HS.out.get (w.heap.size, #[.int .i64 4, .int .i64 0, .slice none 0 0]) (by simp)) (HS.out.get ((w.heap.size + 1), #[.int .i64 2, .int .i64 0, .slice none 0 0]) (by simp))) (fun hHeld => ?_)
    clear hK K
    refine norm_ (a' := ?_) ?_ ?_
    rotate_left
    · show Act.put _ (some 3) _ = _
      simp only [Act.put, List.setIfInBounds_toArray, List.set_cons_zero, List.set_cons_succ, i64_w, i32_w]
      rfl
    exact norm_ (by first | (simp only [putAll, Act.put, List.setIfInBounds_toArray, List.set_cons_zero, List.set_cons_succ]; done) | (simp only [putAll, Act.put, List.setIfInBounds_toArray, List.set_cons_zero, List.set_cons_succ]; rfl)) (hJ0 (sa) _ HS.out)
  refine goes_ Tryd.func19 (by kernel_rfl) rfl #[.int .i64 2] (by rfl) rfl rfl (by (try simp only [List.map_toArray, List.map_cons, List.map_nil]); first | done | rfl) ?_
  refine (konst0 2 _).mono ?_
  rintro e_ we0 ⟨rfl, hb⟩
  refine ⟨_, rfl, ?_⟩
  have HS' := Aside0.mk (HS.out.step hb)
  clear HS
  have HS := HS'
  clear HS'
  try clear hb
  try clear hx
  try clear hge
  refine hK.out _ _ (six_ (HS.out.get (w.heap.size, #[.int .i64 4, .int .i64 0, .slice none 0 0]) (by simp)) (HS.out.get ((w.heap.size + 1), #[.int .i64 2, .int .i64 0, .slice none 0 0]) (by simp))) (fun hHeld => ?_)
  clear hK K
  refine norm_ (a' := ?_) ?_ ?_
  rotate_left
  · show Act.put _ (some 8) _ = _
    simp only [Act.put, List.setIfInBounds_toArray, List.set_cons_zero, List.set_cons_succ, i64_w, i32_w]
    rfl
  refine two_ (i := 2) (j := 5) (Ni := some 9) (Nj := some 3) #[true, true, true, true, false, false, false] #[true, true, false, true, false, true, false] rfl rfl rfl rfl (two_of HT_.out (by kernel_rfl)) (by decide) (by decide) (fun K hK => ?_) (fun K hK => ?_)
  rotate_left
  · skip
    refine box_step ?hg (N := 3) ?hd (cs := #[.int .i64 0, .int .i64 0, .slice none 0 0]) (t := 24) ?hr ?_; (case hd => rfl); (case hg => rfl); (case hr => first | (go_simp; done) | (go_simp; rfl))
    intro sa hg wd1 hx hb
    have HS' := Aside0.mk (HS.out.grow hb (Nat.le_of_eq hg.symm) hx)
    clear HS
    have HS := HS'
    clear HS' hb hx hg
    refine hK.out _ _ (six_ (HS.out.get (w.heap.size, #[.int .i64 4, .int .i64 0, .slice none 0 0]) (by simp)) (HS.out.get ((w.heap.size + 1), #[.int .i64 2, .int .i64 0, .slice none 0 0]) (by simp))) (fun hHeld => ?_)
    clear hK K
    refine norm_ (a' := ?_) ?_ ?_
    rotate_left
    · show Act.put _ (some 3) _ = _
      simp only [Act.put, List.setIfInBounds_toArray, List.set_cons_zero, List.set_cons_succ, i64_w, i32_w]
      rfl
    exact norm_ (by first | (simp only [putAll, Act.put, List.setIfInBounds_toArray, List.set_cons_zero, List.set_cons_succ]; done) | (simp only [putAll, Act.put, List.setIfInBounds_toArray, List.set_cons_zero, List.set_cons_succ]; rfl)) (hJ1 (sa) _ HS.out)
  refine goes_ Tryd.func17 (by kernel_rfl) rfl #[.int .i64 7, .agg #[.int .i64 2, .int .i64 0, .slice none 0 0], .agg #[.int .i64 1, .int .i64 2, .slice none 0 0]] (by rfl) rfl rfl (by (try simp only [List.map_toArray, List.map_cons, List.map_nil]); first | done | rfl) ?_
  refine (two0 7 2 0 1 2 (.slice none 0 0) (.slice none 0 0) _).mono ?_
  rintro e_ we1 ⟨gm, hge, rfl, hx, hb⟩
  refine ⟨_, rfl, ?_⟩
  have HS' := Aside0.mk (HS.out.grow hb hge hx)
  clear HS
  have HS := HS'
  clear HS'
  try clear hb
  try clear hx
  try clear hge
  refine hK.out _ _ (six_ (HS.out.get (w.heap.size, #[.int .i64 4, .int .i64 0, .slice none 0 0]) (by simp)) (HS.out.get ((w.heap.size + 1), #[.int .i64 2, .int .i64 0, .slice none 0 0]) (by simp))) (fun hHeld => ?_)
  clear hK K
  refine norm_ (a' := ?_) ?_ ?_
  rotate_left
  · show Act.put _ (some 9) _ = _
    simp only [Act.put, List.setIfInBounds_toArray, List.set_cons_zero, List.set_cons_succ, i64_w, i32_w]
    rfl
  refine two_ (i := 4) (j := 5) (Ni := some 11) (Nj := some 3) #[true, true, true, true, true, false, false] #[true, true, true, true, false, true, false] rfl rfl rfl rfl (two_of HT_.out (by kernel_rfl)) (by decide) (by decide) (fun K hK => ?_) (fun K hK => ?_)
  rotate_left
  · skip
    refine box_step ?hg (N := 3) ?hd (cs := #[.int .i64 0, .int .i64 0, .slice none 0 0]) (t := 24) ?hr ?_; (case hd => rfl); (case hg => rfl); (case hr => first | (go_simp; done) | (go_simp; rfl))
    intro sa hg wd2 hx hb
    have HS' := Aside0.mk (HS.out.grow hb (Nat.le_of_eq hg.symm) hx)
    clear HS
    have HS := HS'
    clear HS' hb hx hg
    refine hK.out _ _ (six_ (HS.out.get (w.heap.size, #[.int .i64 4, .int .i64 0, .slice none 0 0]) (by simp)) (HS.out.get ((w.heap.size + 1), #[.int .i64 2, .int .i64 0, .slice none 0 0]) (by simp))) (fun hHeld => ?_)
    clear hK K
    refine norm_ (a' := ?_) ?_ ?_
    rotate_left
    · show Act.put _ (some 3) _ = _
      simp only [Act.put, List.setIfInBounds_toArray, List.set_cons_zero, List.set_cons_succ, i64_w, i32_w]
      rfl
    exact norm_ (by first | (simp only [putAll, Act.put, List.setIfInBounds_toArray, List.set_cons_zero, List.set_cons_succ]; done) | (simp only [putAll, Act.put, List.setIfInBounds_toArray, List.set_cons_zero, List.set_cons_succ]; rfl)) (hJ2 (sa, gm) _ HS.out)
  refine goes_ Tryd.func17 (by kernel_rfl) rfl #[.int .i64 5, .agg #[.int .i64 7, .int .i64 0, .slice (some ⟨gm, 0, none⟩) 2 2], .agg #[.int .i64 4, .int .i64 0, .slice none 0 0]] (by rfl) rfl rfl (by (try simp only [List.map_toArray, List.map_cons, List.map_nil]); first | done | rfl) ?_
  refine (two0 5 7 0 4 0 (.slice (some ⟨gm, 0, none⟩) 2 2) (.slice none 0 0) _).mono ?_
  rintro e_ we2 ⟨ga, hge, rfl, hx, hb⟩
  refine ⟨_, rfl, ?_⟩
  have HS' := Aside0.mk (HS.out.grow hb hge hx)
  clear HS
  have HS := HS'
  clear HS'
  try clear hb
  try clear hx
  try clear hge
  refine hK.out _ _ (six_ (HS.out.get (w.heap.size, #[.int .i64 4, .int .i64 0, .slice none 0 0]) (by simp)) (HS.out.get ((w.heap.size + 1), #[.int .i64 2, .int .i64 0, .slice none 0 0]) (by simp))) (fun hHeld => ?_)
  clear hK K
  refine norm_ (a' := ?_) ?_ ?_
  rotate_left
  · show Act.put _ (some 11) _ = _
    simp only [Act.put, List.setIfInBounds_toArray, List.set_cons_zero, List.set_cons_succ, i64_w, i32_w]
    rfl
  refine one_ (i := 5) (N := some 3) #[true, true, true, true, true, true, false] rfl rfl (one_of HT_.out (by kernel_rfl)) (by decide) (fun K hK => ?_)
  refine box_step ?hg (N := 3) ?hd (cs := #[.int .i64 0, .int .i64 0, .slice none 0 0]) (t := 24) ?hr ?_; (case hd => rfl); (case hg => rfl); (case hr => first | (go_simp; done) | (go_simp; rfl))
  intro sa hg wf hx hb
  have HS' := Aside0.mk (HS.out.grow hb (Nat.le_of_eq hg.symm) hx)
  clear HS
  have HS := HS'
  clear HS' hb hx hg
  refine hK.out _ _ (six_ (HS.out.get (w.heap.size, #[.int .i64 4, .int .i64 0, .slice none 0 0]) (by simp)) (HS.out.get ((w.heap.size + 1), #[.int .i64 2, .int .i64 0, .slice none 0 0]) (by simp))) (fun hHeld => ?_)
  clear hK K
  refine norm_ (a' := ?_) ?_ ?_
  rotate_left
  · show Act.put _ (some 3) _ = _
    simp only [Act.put, List.setIfInBounds_toArray, List.set_cons_zero, List.set_cons_succ, i64_w, i32_w]
    rfl
  exact norm_ (by first | (simp only [putAll, Act.put, List.setIfInBounds_toArray, List.set_cons_zero, List.set_cons_succ]; done) | (simp only [putAll, Act.put, List.setIfInBounds_toArray, List.set_cons_zero, List.set_cons_succ]; rfl)) (hJ3 (sa, gm, ga) _ HS.out)
end Go.Proofs.YtdmfakgbiaaacaaDoor.X
namespace Go.Proofs.YtdmfakgbiaaacaaDoor.X
open Go.RowKit Go.Lib Go.Proofs Go.Proofs.YtdmfakgbiaaacaaDoorW.PrintWords Go.Proofs.YtdmfakgbiaaacaaDoorW.PrintLast Go.Proofs.YtdmfakgbiaaacaaDoorW.PrintMore Go.Proofs.YtdmfakgbiaaacaaDoor
attribute [local go_sem] max2_int min2_int max_two min_two
set_option linter.unusedVariables false
set_option linter.unusedSimpArgs false
def XV (W : World) (A : Option Addr) (n c : Nat) (x : S24) : Prop := n = x.f2.length ∧ n ≤ c ∧ Kd.C k24 W A x.f2.length x.f2
theorem XV.below {W W' : World} {A : Option Addr} {n c : Nat} {x : S24} (h : XV W A n c x) (hb : Below W.heap.size W W') : XV W' A n c x := ⟨h.1, h.2.1, Kd.C_below h.2.2 hb⟩
theorem XV.nil (W : World) (op n : Int) : XV W none 0 0 ⟨op, n, []⟩ := ⟨rfl, Nat.le_refl _, nilC W⟩
theorem XV.two {W : World} {g : Nat} {op n : Int} {x y : S24} {A B : Option Addr} {na ca nb cb : Nat} (ha : XV W A na ca x) (hb : XV W B nb cb y)
    (hx : W.heap[g]? = some (.cells #[.int .i64 x.f0, .int .i64 x.f1, .slice A na ca, .int .i64 y.f0, .int .i64 y.f1, .slice B nb cb] 24 (0, 0))) : XV W (some ⟨g, 0, none⟩) 2 2 ⟨op, n, [x, y]⟩ := by
  obtain ⟨rfl, ha1, ha2⟩ := ha
  obtain ⟨rfl, hb1, hb2⟩ := hb
  refine ⟨rfl, by decide, rowC (l := [x, y]) hx (by simp) (fun j z hj => ?_)⟩
  match j, hj with
  | 0, hj => obtain rfl := Option.some.inj hj; exact ⟨_, k24_mk W _ ha1 ha2, rfl, rfl, rfl⟩
  | 1, hj => obtain rfl := Option.some.inj hj; exact ⟨_, k24_mk W _ hb1 hb2, rfl, rfl, rfl⟩
  | (n + 2), hj => simp at hj
theorem XV.three {W : World} {g : Nat} {op n : Int} {x y z : S24} {A B C : Option Addr} {na ca nb cb nc cc : Nat} (ha : XV W A na ca x) (hb : XV W B nb cb y) (hc : XV W C nc cc z)
    (hx : W.heap[g]? = some (.cells #[.int .i64 x.f0, .int .i64 x.f1, .slice A na ca, .int .i64 y.f0, .int .i64 y.f1, .slice B nb cb, .int .i64 z.f0, .int .i64 z.f1, .slice C nc cc] 24 (0, 0))) : XV W (some ⟨g, 0, none⟩) 3 3 ⟨op, n, [x, y, z]⟩ := by
  obtain ⟨rfl, ha1, ha2⟩ := ha
  obtain ⟨rfl, hb1, hb2⟩ := hb
  obtain ⟨rfl, hc1, hc2⟩ := hc
  refine ⟨rfl, by decide, rowC (l := [x, y, z]) hx (by simp) (fun j z hj => ?_)⟩
  match j, hj with
  | 0, hj => obtain rfl := Option.some.inj hj; exact ⟨_, k24_mk W _ ha1 ha2, rfl, rfl, rfl⟩
  | 1, hj => obtain rfl := Option.some.inj hj; exact ⟨_, k24_mk W _ hb1 hb2, rfl, rfl, rfl⟩
  | 2, hj => obtain rfl := Option.some.inj hj; exact ⟨_, k24_mk W _ hc1 hc2, rfl, rfl, rfl⟩
  | (n + 3), hj => simp at hj
theorem two1 (op : Int) (x y : S24) (A B : Option Addr) (na ca nb cb : Nat) (w : World) (hx : XV w A na ca x) (hy : XV w B nb cb y) :
    Calls Tryd.prog 17 #[.int .i64 op, .agg #[.int .i64 x.f0, .int .i64 x.f1, .slice A na ca], .agg #[.int .i64 y.f0, .int .i64 y.f1, .slice B nb cb]] w fun e w' => ∃ g : Nat, e = .returned (.agg #[.int .i64 op, .int .i64 0, .slice (some ⟨g, 0, none⟩) 2 2]) ∧ XV w' (some ⟨g, 0, none⟩) 2 2 ⟨op, 0, [x, y]⟩ ∧ Below w.heap.size w w' := by
  refine (two0 op x.f0 x.f1 y.f0 y.f1 (.slice A na ca) (.slice B nb cb) w).mono ?_
  rintro e w' ⟨g, _, rfl, h, hb⟩
  exact ⟨g, rfl, XV.two (hx.below hb) (hy.below hb) h, hb⟩
def sameL.f (k : Nat) (x y : S24) (r0 r1 r2 : Int) : Option Bool := (leatref7_Check.f k x.f0 x.f1 x.f2).bind fun a => if a = 0 then ((leatref7_Check.f k y.f0 y.f1 y.f2).bind fun b => if b = 0 then ((expr_Eval.f k x.f0 x.f1 x.f2 r0 r1 r2).bind fun u => (expr_Eval.f k y.f0 y.f1 y.f2 r0 r1 r2).bind fun v => some (u == v)) else some true) else some true
def WF (w W : World) (px py pr : Nat) (x y : S24) (A B : Option Addr) (na ca nb cb : Nat) (r0 r1 r2 : Int) : Prop := W.heap[px]? = some (.cells #[.int .i64 x.f0, .int .i64 x.f1, .slice A na ca] 24 (0, 0)) ∧ W.heap[py]? = some (.cells #[.int .i64 y.f0, .int .i64 y.f1, .slice B nb cb] 24 (0, 0)) ∧
  W.heap[pr]? = some (.cells #[.int .i64 r0, .int .i64 r1, .int .i64 r2] 26 (0, 0)) ∧ XV W A na ca x ∧ XV W B nb cb y ∧ Below w.heap.size w W
theorem WF.step {w W W' : World} {px py pr : Nat} {x y : S24} {A B : Option Addr} {na ca nb cb : Nat} {r0 r1 r2 : Int} (h : WF w W px py pr x y A B na ca nb cb r0 r1 r2) (hb : Below W.heap.size W W') : WF w W' px py pr x y A B na ca nb cb r0 r1 r2 :=
  ⟨blk_below h.1 hb, blk_below h.2.1 hb, blk_below h.2.2.1 hb, h.2.2.2.1.below hb, h.2.2.2.2.1.below hb, below_step h.2.2.2.2.2 hb⟩
theorem WF.start {w : World} {pr : Nat} {x y : S24} {A B : Option Addr} {na ca nb cb : Nat} {r0 r1 r2 : Int} (hr : w.heap[pr]? = some (.cells #[.int .i64 r0, .int .i64 r1, .int .i64 r2] 26 (0, 0))) (hx : XV w A na ca x) (hy : XV w B nb cb y) :
    WF w ((w.alloc (.cells #[.int .i64 x.f0, .int .i64 x.f1, .slice A na ca] 24)).alloc (.cells #[.int .i64 y.f0, .int .i64 y.f1, .slice B nb cb] 24)) w.heap.size (w.heap.size + 1) pr x y A B na ca nb cb r0 r1 r2 := by
  have hb : Below w.heap.size w ((w.alloc (.cells #[.int .i64 x.f0, .int .i64 x.f1, .slice A na ca] 24)).alloc (.cells #[.int .i64 y.f0, .int .i64 y.f1, .slice B nb cb] 24)) := below_alloc (below_alloc (Below.refl _ _) _) _
  refine ⟨blk_alloc (blk_new w _) _, ?_, blk_below hr hb, hx.below hb, hy.below hb, hb⟩
  have h := blk_new (w.alloc (.cells #[.int .i64 x.f0, .int .i64 x.f1, .slice A na ca] 24)) (.cells #[.int .i64 y.f0, .int .i64 y.f1, .slice B nb cb] 24)
  simpa using h
def sameW.T1 : Bool × List (List Nat × List Nat) := (true, [([], []), ([0], [0]), ([1], [1]), ([2, 1], [2]), ([3], [3]), ([4, 3, 3], [3, 4]), ([5, 3], [3, 5]), ([3, 6], [3, 6]), ([7, 5], [7]), ([8], [8]), ([8], [8]), ([9, 10, 8, 8], [8, 9, 10]), ([8], [8]), ([8], [8]), ([12, 13, 11, 8], [8, 12, 13]), ([11, 14, 8], [8, 11, 14]), ([8, 15], [8, 15]), ([16, 14, 0, 1, 2, 3, 4, 5, 6, 7, 8, 9, 10, 11, 12, 13, 14, 15, 16], [16])])
def sameW.B1 : List Nat := [0, 1, 3, 7, 15, 31, 63, 127, 255, 511, 511, 2047, 511, 511, 16383, 32767, 65535, 131071]
theorem sameW.tab1 : rtab .any (opsOf Tryd.f21 1) = sameW.T1 := by kernel_rfl
theorem sameW.bits1 : waitsOk sameW.T1.2 sameW.B1 = true := by kernel_rfl
set_option maxHeartbeats 8000000 in
theorem same_0 (k : Nat) (x y : S24) (A B : Option Addr) (na ca nb cb pr : Nat) (r0 r1 r2 : Int) (w : World) (hr : w.heap[pr]? = some (.cells #[.int .i64 r0, .int .i64 r1, .int .i64 r2] 26 (0, 0))) (hx : XV w A na ca x) (hy : XV w B nb cb y) (t : Int) (hcx : leatref7_Check.f k x.f0 x.f1 x.f2 = some t) (ht : ¬ t = 0) :
    Calls Tryd.prog 21 #[.agg #[.int .i64 x.f0, .int .i64 x.f1, .slice A na ca], .agg #[.int .i64 y.f0, .int .i64 y.f1, .slice B nb cb], .pointer (some ⟨pr, 0, none⟩)] w fun e w' => e = .returned (.bool true) ∧ Below w.heap.size w w' := by
  have CX : ∀ W, XV W A na ca x → Calls Tryd.prog 10 #[.agg #[.int .i64 x.f0, .int .i64 x.f1, .slice A na ca]] W fun e W' => e = .returned (.int .i64 t) ∧ Below W.heap.size W W' := fun W h => by
    obtain ⟨rfl, h1, h2⟩ := h
    exact leatref7_Check.calls k x.f0 x.f1 A ca x.f2 t W h2 h1 hcx
  have tn : (t != 0) = true := bne_iff_ne.2 ht
  clear ht
  have hu24 := Tryd.underlying24
  have hu26 := Tryd.underlying26
  have HG := Aside0.mk (WF.start hr hx hy)
  clear hr hx hy hcx
  go_enter Tryd.func21, Tryd.ntmps21
  go_wp2_with fail
  generalize w.heap.size + 1 = py at HG ⊢
  generalize (w.alloc _).alloc _ = W0 at HG ⊢
  obtain ⟨px, hpx⟩ : ∃ p, w.heap.size = p := ⟨_, rfl⟩
  have HPX := Aside0.mk hpx
  rw [hpx] at HG ⊢
  clear hpx
  refine start_ (n := 18) (S := fun w' => w'.cell? ⟨px, 0, none⟩ = some (.int .i64 x.f0) ∧ w'.cell? ⟨px, 1, none⟩ = some (.int .i64 x.f1) ∧ w'.cell? ⟨px, 2, none⟩ = some (.slice A na ca) ∧ w'.cell? ⟨py, 0, none⟩ = some (.int .i64 y.f0) ∧ w'.cell? ⟨py, 1, none⟩ = some (.int .i64 y.f1) ∧ w'.cell? ⟨py, 2, none⟩ = some (.slice B nb cb) ∧ w'.cell? ⟨pr, 0, none⟩ = some (.int .i64 r0) ∧ w'.cell? ⟨pr, 1, none⟩ = some (.int .i64 r1) ∧ w'.cell? ⟨pr, 2, none⟩ = some (.int .i64 r2)) (ds := []) #[false, false, false, false, false, false, false, false, false, false, false, false, false, false, false, false, false, false] (by kernel_rfl) rfl rfl ⟨(blk_cell HG.out.1 0).trans rfl, (blk_cell HG.out.1 1).trans rfl, (blk_cell HG.out.1 2).trans rfl, (blk_cell HG.out.2.1 0).trans rfl, (blk_cell HG.out.2.1 1).trans rfl, (blk_cell HG.out.2.1 2).trans rfl, (blk_cell HG.out.2.2.1 0).trans rfl, (blk_cell HG.out.2.2.1 1).trans rfl, (blk_cell HG.out.2.2.1 2).trans rfl⟩ (fun hHeld => ?_); refine with_tabW sameW.tab1 sameW.bits1 (fun HT_ HW_ => ?_)
  have HG0 := Aside0.mk (HG.out.step (below_drew1 (Below.refl _ _)))
  clear HG
  have HG := HG0
  clear HG0
  generalize World.drew _ = wa at HG hHeld ⊢
  refine take_ (i := 0) (N := some 6) (v := ?_) (a' := ?_) #[true, false, false, false, false, false, false, false, false, false, false, false, false, false, false, false, false, false] rfl rfl (take_ofW HT_.out HW_.out (by kernel_rfl)) (fun _ _ _ h => h) (Or.inl ⟨by rfl, ?_⟩) hHeld ?_ ?_
  rotate_left
  · rintro w' ⟨s0, s1, s2, s3, s4, s5, s6, s7, s8⟩
    go_simp
    with_reducible rfl
  rotate_left
  · simp only [Act.put, List.setIfInBounds_toArray, List.set_cons_zero, List.set_cons_succ, i64_w, i32_w]
    rfl
  refine one_ (i := 1) (N := some 7) #[true, true, false, false, false, false, false, false, false, false, false, false, false, false, false, false, false, false] rfl rfl (one_of HT_.out (by kernel_rfl)) (by decide) (fun K hK => ?_)
  refine goes_ Tryd.func10 (by kernel_rfl) rfl #[.agg #[.int .i64 x.f0, .int .i64 x.f1, .slice A na ca]] (by rfl) rfl rfl (by (try simp only [List.map_toArray, List.map_cons, List.map_nil]); first | done | rfl) ?_
  refine (CX _ HG.out.2.2.2.1).mono ?_
  rintro e_ wb ⟨rfl, hb⟩
  refine ⟨_, rfl, ?_⟩
  have HG0 := Aside0.mk (HG.out.step hb)
  clear HG hb
  have HG := HG0
  clear HG0
  refine hK.out _ _ ⟨(blk_cell HG.out.1 0).trans rfl, (blk_cell HG.out.1 1).trans rfl, (blk_cell HG.out.1 2).trans rfl, (blk_cell HG.out.2.1 0).trans rfl, (blk_cell HG.out.2.1 1).trans rfl, (blk_cell HG.out.2.1 2).trans rfl, (blk_cell HG.out.2.2.1 0).trans rfl, (blk_cell HG.out.2.2.1 1).trans rfl, (blk_cell HG.out.2.2.1 2).trans rfl⟩ (fun hHeld => ?_)
  clear hK K
  refine norm_ (a' := ?_) ?_ ?_
  rotate_left
  · show Act.put _ (some 7) _ = _
    simp only [Act.put, List.setIfInBounds_toArray, List.set_cons_zero, List.set_cons_succ, i64_w, i32_w]
    rfl
  refine pure_ (i := 2) (N := some 8) (v := ?_) (a' := ?_) #[true, true, true, false, false, false, false, false, false, false, false, false, false, false, false, false, false, false] rfl rfl (any_of HT_.out (by kernel_rfl)) (fun _ _ _ h => h) (Or.inl ⟨by rfl, ?_⟩) ?_ ?_
  rotate_left
  · intro w'
    go_simp
    with_reducible rfl
  rotate_left
  · simp only [Act.put, List.setIfInBounds_toArray, List.set_cons_zero, List.set_cons_succ, i64_w, i32_w]
    rfl
  refine pure_ (i := 3) (N := some 9) (v := ?_) (a' := ?_) #[true, true, true, true, false, false, false, false, false, false, false, false, false, false, false, false, false, false] rfl rfl (any_of HT_.out (by kernel_rfl)) (fun _ _ _ h => h) (Or.inl ⟨by rfl, ?_⟩) ?_ ?_
  rotate_left
  · intro w'
    go_simp
    with_reducible rfl
  rotate_left
  · simp only [Act.put, List.setIfInBounds_toArray, List.set_cons_zero, List.set_cons_succ, i64_w, i32_w]
    rfl
  refine take_ (i := 4) (N := some 10) (v := undef) (a' := ?_) #[true, true, true, true, true, false, false, false, false, false, false, false, false, false, false, false, false, false] rfl rfl (take_ofW HT_.out HW_.out (by kernel_rfl)) (fun _ _ _ h => h) (Or.inr ⟨by rfl, rfl⟩) hHeld ?_ ?_
  rotate_left
  · simp only [Act.put, List.setIfInBounds_toArray, List.set_cons_zero, List.set_cons_succ, i64_w, i32_w]
    rfl
  refine one_ (i := 5) (N := some 11) #[true, true, true, true, true, true, false, false, false, false, false, false, false, false, false, false, false, false] rfl rfl (one_of HT_.out (by kernel_rfl)) (by decide) (fun K hK => ?_)
  refine off_ (by rfl) ?_
  refine hK.out _ _ ⟨(blk_cell HG.out.1 0).trans rfl, (blk_cell HG.out.1 1).trans rfl, (blk_cell HG.out.1 2).trans rfl, (blk_cell HG.out.2.1 0).trans rfl, (blk_cell HG.out.2.1 1).trans rfl, (blk_cell HG.out.2.1 2).trans rfl, (blk_cell HG.out.2.2.1 0).trans rfl, (blk_cell HG.out.2.2.1 1).trans rfl, (blk_cell HG.out.2.2.1 2).trans rfl⟩ (fun hHeld => ?_)
  clear hK K
  refine norm_ (a' := ?_) ?_ ?_
  rotate_left
  · show Act.put _ (some 11) _ = _
    simp only [Act.put, List.setIfInBounds_toArray, List.set_cons_zero, List.set_cons_succ, i64_w, i32_w]
    rfl
  refine take_ (i := 6) (N := some 12) (v := undef) (a' := ?_) #[true, true, true, true, true, true, true, false, false, false, false, false, false, false, false, false, false, false] rfl rfl (take_ofW HT_.out HW_.out (by kernel_rfl)) (fun _ _ _ h => h) (Or.inr ⟨by rfl, rfl⟩) hHeld ?_ ?_
  rotate_left
  · simp only [Act.put, List.setIfInBounds_toArray, List.set_cons_zero, List.set_cons_succ, i64_w, i32_w]
    rfl
  refine pure_ (i := 7) (N := some 13) (v := ?_) (a' := ?_) #[true, true, true, true, true, true, true, true, false, false, false, false, false, false, false, false, false, false] rfl rfl (any_of HT_.out (by kernel_rfl)) (fun _ _ _ h => h) (Or.inl ⟨by rfl, ?_⟩) ?_ ?_
  rotate_left
  · intro w'
    go_simp
    with_reducible rfl
  rotate_left
  · simp only [Act.put, List.setIfInBounds_toArray, List.set_cons_zero, List.set_cons_succ, i64_w, i32_w]
    rfl
  refine pure_ (i := 8) (N := some 14) (v := ?_) (a' := ?_) #[true, true, true, true, true, true, true, true, true, false, false, false, false, false, false, false, false, false] rfl rfl (any_of HT_.out (by kernel_rfl)) (fun _ _ _ h => h) (Or.inl ⟨by rfl, ?_⟩) ?_ ?_
  rotate_left
  · intro w'
    go_simp
    with_reducible rfl
  rotate_left
  · simp only [Act.put, List.setIfInBounds_toArray, List.set_cons_zero, List.set_cons_succ, i64_w, i32_w]
    rfl
  refine take_ (i := 9) (N := some 15) (v := undef) (a' := ?_) #[true, true, true, true, true, true, true, true, true, true, false, false, false, false, false, false, false, false] rfl rfl (take_ofW HT_.out HW_.out (by kernel_rfl)) (fun _ _ _ h => h) (Or.inr ⟨by rfl, rfl⟩) hHeld ?_ ?_
  rotate_left
  · simp only [Act.put, List.setIfInBounds_toArray, List.set_cons_zero, List.set_cons_succ, i64_w, i32_w]
    rfl
  refine take_ (i := 10) (N := some 16) (v := undef) (a' := ?_) #[true, true, true, true, true, true, true, true, true, true, true, false, false, false, false, false, false, false] rfl rfl (take_ofW HT_.out HW_.out (by kernel_rfl)) (fun _ _ _ h => h) (Or.inr ⟨by rfl, rfl⟩) hHeld ?_ ?_
  rotate_left
  · simp only [Act.put, List.setIfInBounds_toArray, List.set_cons_zero, List.set_cons_succ, i64_w, i32_w]
    rfl
  refine take_ (i := 12) (N := some 18) (v := undef) (a' := ?_) #[true, true, true, true, true, true, true, true, true, true, true, false, true, false, false, false, false, false] rfl rfl (take_ofW HT_.out HW_.out (by kernel_rfl)) (fun _ _ _ h => h) (Or.inr ⟨by rfl, rfl⟩) hHeld ?_ ?_
  rotate_left
  · simp only [Act.put, List.setIfInBounds_toArray, List.set_cons_zero, List.set_cons_succ, i64_w, i32_w]
    rfl
  refine take_ (i := 13) (N := some 19) (v := undef) (a' := ?_) #[true, true, true, true, true, true, true, true, true, true, true, false, true, true, false, false, false, false] rfl rfl (take_ofW HT_.out HW_.out (by kernel_rfl)) (fun _ _ _ h => h) (Or.inr ⟨by rfl, rfl⟩) hHeld ?_ ?_
  rotate_left
  · simp only [Act.put, List.setIfInBounds_toArray, List.set_cons_zero, List.set_cons_succ, i64_w, i32_w]
    rfl
  refine one_ (i := 11) (N := some 17) #[true, true, true, true, true, true, true, true, true, true, true, true, true, true, false, false, false, false] rfl rfl (one_of HT_.out (by kernel_rfl)) (by decide) (fun K hK => ?_)
  refine off_ (by rfl) ?_
  refine hK.out _ _ ⟨(blk_cell HG.out.1 0).trans rfl, (blk_cell HG.out.1 1).trans rfl, (blk_cell HG.out.1 2).trans rfl, (blk_cell HG.out.2.1 0).trans rfl, (blk_cell HG.out.2.1 1).trans rfl, (blk_cell HG.out.2.1 2).trans rfl, (blk_cell HG.out.2.2.1 0).trans rfl, (blk_cell HG.out.2.2.1 1).trans rfl, (blk_cell HG.out.2.2.1 2).trans rfl⟩ (fun hHeld => ?_)
  clear hK K
  refine norm_ (a' := ?_) ?_ ?_
  rotate_left
  · show Act.put _ (some 17) _ = _
    simp only [Act.put, List.setIfInBounds_toArray, List.set_cons_zero, List.set_cons_succ, i64_w, i32_w]
    rfl
  refine one_ (i := 14) (N := some 20) #[true, true, true, true, true, true, true, true, true, true, true, true, true, true, true, false, false, false] rfl rfl (one_of HT_.out (by kernel_rfl)) (by decide) (fun K hK => ?_)
  refine off_ (by rfl) ?_
  refine hK.out _ _ ⟨(blk_cell HG.out.1 0).trans rfl, (blk_cell HG.out.1 1).trans rfl, (blk_cell HG.out.1 2).trans rfl, (blk_cell HG.out.2.1 0).trans rfl, (blk_cell HG.out.2.1 1).trans rfl, (blk_cell HG.out.2.1 2).trans rfl, (blk_cell HG.out.2.2.1 0).trans rfl, (blk_cell HG.out.2.2.1 1).trans rfl, (blk_cell HG.out.2.2.1 2).trans rfl⟩ (fun hHeld => ?_)
  clear hK K
  refine norm_ (a' := ?_) ?_ ?_
  rotate_left
  · show Act.put _ (some 20) _ = _
    simp only [Act.put, List.setIfInBounds_toArray, List.set_cons_zero, List.set_cons_succ, i64_w, i32_w]
    rfl
  refine take_ (i := 15) (N := some 21) (v := undef) (a' := ?_) #[true, true, true, true, true, true, true, true, true, true, true, true, true, true, true, true, false, false] rfl rfl (take_ofW HT_.out HW_.out (by kernel_rfl)) (fun _ _ _ h => h) (Or.inr ⟨by rfl, rfl⟩) hHeld ?_ ?_
  rotate_left
  · simp only [Act.put, List.setIfInBounds_toArray, List.set_cons_zero, List.set_cons_succ, i64_w, i32_w]
    rfl
  refine pure_ (i := 16) (N := some 22) (v := ?_) (a' := ?_) #[true, true, true, true, true, true, true, true, true, true, true, true, true, true, true, true, true, false] rfl rfl (any_of HT_.out (by kernel_rfl)) (fun _ _ _ h => h) (Or.inl ⟨by rfl, ?_⟩) ?_ ?_
  rotate_left
  · intro w'
    go_simp
    with_reducible rfl
  rotate_left
  · simp only [Act.put, List.setIfInBounds_toArray, List.set_cons_zero, List.set_cons_succ, i64_w, i32_w]
    rfl
  refine pure_ (i := 17) (N := some 5) (v := ?_) (a' := ?_) #[true, true, true, true, true, true, true, true, true, true, true, true, true, true, true, true, true, true] rfl rfl (any_of HT_.out (by kernel_rfl)) (fun _ _ _ h => h) (Or.inl ⟨by rfl, ?_⟩) ?_ ?_
  rotate_left
  · intro w'
    go_simp
    with_reducible rfl
  rotate_left
  · simp only [Act.put, List.setIfInBounds_toArray, List.set_cons_zero, List.set_cons_succ, i64_w, i32_w]
    rfl
  refine done_ (done_of HT_.out (by kernel_rfl)) ?_
  go_wp2_with fail
  go_ret
  exact ⟨rfl, HG.out.2.2.2.2.2⟩
set_option maxHeartbeats 8000000 in
theorem same_1 (k : Nat) (x y : S24) (A B : Option Addr) (na ca nb cb pr : Nat) (r0 r1 r2 : Int) (w : World) (hr : w.heap[pr]? = some (.cells #[.int .i64 r0, .int .i64 r1, .int .i64 r2] 26 (0, 0))) (hx : XV w A na ca x) (hy : XV w B nb cb y) (t' : Int) (hcx : leatref7_Check.f k x.f0 x.f1 x.f2 = some 0) (hcy : leatref7_Check.f k y.f0 y.f1 y.f2 = some t') (ht : ¬ t' = 0) :
    Calls Tryd.prog 21 #[.agg #[.int .i64 x.f0, .int .i64 x.f1, .slice A na ca], .agg #[.int .i64 y.f0, .int .i64 y.f1, .slice B nb cb], .pointer (some ⟨pr, 0, none⟩)] w fun e w' => e = .returned (.bool true) ∧ Below w.heap.size w w' := by
  have CX : ∀ W, XV W A na ca x → Calls Tryd.prog 10 #[.agg #[.int .i64 x.f0, .int .i64 x.f1, .slice A na ca]] W fun e W' => e = .returned (.int .i64 0) ∧ Below W.heap.size W W' := fun W h => by
    obtain ⟨rfl, h1, h2⟩ := h
    exact leatref7_Check.calls k x.f0 x.f1 A ca x.f2 0 W h2 h1 hcx
  have CY : ∀ W, XV W B nb cb y → Calls Tryd.prog 10 #[.agg #[.int .i64 y.f0, .int .i64 y.f1, .slice B nb cb]] W fun e W' => e = .returned (.int .i64 t') ∧ Below W.heap.size W W' := fun W h => by
    obtain ⟨rfl, h1, h2⟩ := h
    exact leatref7_Check.calls k y.f0 y.f1 B cb y.f2 t' W h2 h1 hcy
  have tn : (t' != 0) = true := bne_iff_ne.2 ht
  clear ht
  have hu24 := Tryd.underlying24
  have hu26 := Tryd.underlying26
  have HG := Aside0.mk (WF.start hr hx hy)
  clear hr hx hy hcx hcy
  go_enter Tryd.func21, Tryd.ntmps21
  go_wp2_with fail
  generalize w.heap.size + 1 = py at HG ⊢
  generalize (w.alloc _).alloc _ = W0 at HG ⊢
  obtain ⟨px, hpx⟩ : ∃ p, w.heap.size = p := ⟨_, rfl⟩
  have HPX := Aside0.mk hpx
  rw [hpx] at HG ⊢
  clear hpx
  refine start_ (n := 18) (S := fun w' => w'.cell? ⟨px, 0, none⟩ = some (.int .i64 x.f0) ∧ w'.cell? ⟨px, 1, none⟩ = some (.int .i64 x.f1) ∧ w'.cell? ⟨px, 2, none⟩ = some (.slice A na ca) ∧ w'.cell? ⟨py, 0, none⟩ = some (.int .i64 y.f0) ∧ w'.cell? ⟨py, 1, none⟩ = some (.int .i64 y.f1) ∧ w'.cell? ⟨py, 2, none⟩ = some (.slice B nb cb) ∧ w'.cell? ⟨pr, 0, none⟩ = some (.int .i64 r0) ∧ w'.cell? ⟨pr, 1, none⟩ = some (.int .i64 r1) ∧ w'.cell? ⟨pr, 2, none⟩ = some (.int .i64 r2)) (ds := []) #[false, false, false, false, false, false, false, false, false, false, false, false, false, false, false, false, false, false] (by kernel_rfl) rfl rfl ⟨(blk_cell HG.out.1 0).trans rfl, (blk_cell HG.out.1 1).trans rfl, (blk_cell HG.out.1 2).trans rfl, (blk_cell HG.out.2.1 0).trans rfl, (blk_cell HG.out.2.1 1).trans rfl, (blk_cell HG.out.2.1 2).trans rfl, (blk_cell HG.out.2.2.1 0).trans rfl, (blk_cell HG.out.2.2.1 1).trans rfl, (blk_cell HG.out.2.2.1 2).trans rfl⟩ (fun hHeld => ?_); refine with_tabW sameW.tab1 sameW.bits1 (fun HT_ HW_ => ?_)
  have HG0 := Aside0.mk (HG.out.step (below_drew1 (Below.refl _ _)))
  clear HG
  have HG := HG0
  clear HG0
  generalize World.drew _ = wa at HG hHeld ⊢
  refine take_ (i := 0) (N := some 6) (v := ?_) (a' := ?_) #[true, false, false, false, false, false, false, false, false, false, false, false, false, false, false, false, false, false] rfl rfl (take_ofW HT_.out HW_.out (by kernel_rfl)) (fun _ _ _ h => h) (Or.inl ⟨by rfl, ?_⟩) hHeld ?_ ?_
  rotate_left
  · rintro w' ⟨s0, s1, s2, s3, s4, s5, s6, s7, s8⟩
    go_simp
    with_reducible rfl
  rotate_left
  · simp only [Act.put, List.setIfInBounds_toArray, List.set_cons_zero, List.set_cons_succ, i64_w, i32_w]
    rfl
  refine one_ (i := 1) (N := some 7) #[true, true, false, false, false, false, false, false, false, false, false, false, false, false, false, false, false, false] rfl rfl (one_of HT_.out (by kernel_rfl)) (by decide) (fun K hK => ?_)
  refine goes_ Tryd.func10 (by kernel_rfl) rfl #[.agg #[.int .i64 x.f0, .int .i64 x.f1, .slice A na ca]] (by rfl) rfl rfl (by (try simp only [List.map_toArray, List.map_cons, List.map_nil]); first | done | rfl) ?_
  refine (CX _ HG.out.2.2.2.1).mono ?_
  rintro e_ wb ⟨rfl, hb⟩
  refine ⟨_, rfl, ?_⟩
  have HG0 := Aside0.mk (HG.out.step hb)
  clear HG hb
  have HG := HG0
  clear HG0
  refine hK.out _ _ ⟨(blk_cell HG.out.1 0).trans rfl, (blk_cell HG.out.1 1).trans rfl, (blk_cell HG.out.1 2).trans rfl, (blk_cell HG.out.2.1 0).trans rfl, (blk_cell HG.out.2.1 1).trans rfl, (blk_cell HG.out.2.1 2).trans rfl, (blk_cell HG.out.2.2.1 0).trans rfl, (blk_cell HG.out.2.2.1 1).trans rfl, (blk_cell HG.out.2.2.1 2).trans rfl⟩ (fun hHeld => ?_)
  clear hK K
  refine norm_ (a' := ?_) ?_ ?_
  rotate_left
  · show Act.put _ (some 7) _ = _
    simp only [Act.put, List.setIfInBounds_toArray, List.set_cons_zero, List.set_cons_succ, i64_w, i32_w]
    rfl
  refine pure_ (i := 2) (N := some 8) (v := ?_) (a' := ?_) #[true, true, true, false, false, false, false, false, false, false, false, false, false, false, false, false, false, false] rfl rfl (any_of HT_.out (by kernel_rfl)) (fun _ _ _ h => h) (Or.inl ⟨by rfl, ?_⟩) ?_ ?_
  rotate_left
  · intro w'
    go_simp
    with_reducible rfl
  rotate_left
  · simp only [Act.put, List.setIfInBounds_toArray, List.set_cons_zero, List.set_cons_succ, i64_w, i32_w]
    rfl
  refine pure_ (i := 3) (N := some 9) (v := ?_) (a' := ?_) #[true, true, true, true, false, false, false, false, false, false, false, false, false, false, false, false, false, false] rfl rfl (any_of HT_.out (by kernel_rfl)) (fun _ _ _ h => h) (Or.inl ⟨by rfl, ?_⟩) ?_ ?_
  rotate_left
  · intro w'
    go_simp
    with_reducible rfl
  rotate_left
  · simp only [Act.put, List.setIfInBounds_toArray, List.set_cons_zero, List.set_cons_succ, i64_w, i32_w]
    rfl
  refine take_ (i := 4) (N := some 10) (v := ?_) (a' := ?_) #[true, true, true, true, true, false, false, false, false, false, false, false, false, false, false, false, false, false] rfl rfl (take_ofW HT_.out HW_.out (by kernel_rfl)) (fun _ _ _ h => h) (Or.inl ⟨by rfl, ?_⟩) hHeld ?_ ?_
  rotate_left
  · rintro w' ⟨s0, s1, s2, s3, s4, s5, s6, s7, s8⟩
    go_simp
    with_reducible rfl
  rotate_left
  · simp only [Act.put, List.setIfInBounds_toArray, List.set_cons_zero, List.set_cons_succ, i64_w, i32_w]
    rfl
  refine one_ (i := 5) (N := some 11) #[true, true, true, true, true, true, false, false, false, false, false, false, false, false, false, false, false, false] rfl rfl (one_of HT_.out (by kernel_rfl)) (by decide) (fun K hK => ?_)
  refine goes_ Tryd.func10 (by kernel_rfl) rfl #[.agg #[.int .i64 y.f0, .int .i64 y.f1, .slice B nb cb]] (by rfl) rfl rfl (by (try simp only [List.map_toArray, List.map_cons, List.map_nil]); first | done | rfl) ?_
  refine (CY _ HG.out.2.2.2.2.1).mono ?_
  rintro e_ wc ⟨rfl, hb⟩
  refine ⟨_, rfl, ?_⟩
  have HG0 := Aside0.mk (HG.out.step hb)
  clear HG hb
  have HG := HG0
  clear HG0
  refine hK.out _ _ ⟨(blk_cell HG.out.1 0).trans rfl, (blk_cell HG.out.1 1).trans rfl, (blk_cell HG.out.1 2).trans rfl, (blk_cell HG.out.2.1 0).trans rfl, (blk_cell HG.out.2.1 1).trans rfl, (blk_cell HG.out.2.1 2).trans rfl, (blk_cell HG.out.2.2.1 0).trans rfl, (blk_cell HG.out.2.2.1 1).trans rfl, (blk_cell HG.out.2.2.1 2).trans rfl⟩ (fun hHeld => ?_)
  clear hK K
  refine norm_ (a' := ?_) ?_ ?_
  rotate_left
  · show Act.put _ (some 11) _ = _
    simp only [Act.put, List.setIfInBounds_toArray, List.set_cons_zero, List.set_cons_succ, i64_w, i32_w]
    rfl
  refine pure_ (i := 6) (N := some 12) (v := ?_) (a' := ?_) #[true, true, true, true, true, true, true, false, false, false, false, false, false, false, false, false, false, false] rfl rfl (any_of HT_.out (by kernel_rfl)) (fun _ _ _ h => h) (Or.inl ⟨by rfl, ?_⟩) ?_ ?_
  rotate_left
  · intro w'
    go_simp
    with_reducible rfl
  rotate_left
  · simp only [Act.put, List.setIfInBounds_toArray, List.set_cons_zero, List.set_cons_succ, i64_w, i32_w]
    rfl
  refine pure_ (i := 7) (N := some 13) (v := ?_) (a' := ?_) #[true, true, true, true, true, true, true, true, false, false, false, false, false, false, false, false, false, false] rfl rfl (any_of HT_.out (by kernel_rfl)) (fun _ _ _ h => h) (Or.inl ⟨by rfl, ?_⟩) ?_ ?_
  rotate_left
  · intro w'
    go_simp
    with_reducible rfl
  rotate_left
  · simp only [Act.put, List.setIfInBounds_toArray, List.set_cons_zero, List.set_cons_succ, i64_w, i32_w]
    rfl
  refine pure_ (i := 8) (N := some 14) (v := ?_) (a' := ?_) #[true, true, true, true, true, true, true, true, true, false, false, false, false, false, false, false, false, false] rfl rfl (any_of HT_.out (by kernel_rfl)) (fun _ _ _ h => h) (Or.inl ⟨by rfl, ?_⟩) ?_ ?_
  rotate_left
  · intro w'
    go_simp
    with_reducible rfl
  rotate_left
  · simp only [Act.put, List.setIfInBounds_toArray, List.set_cons_zero, List.set_cons_succ, i64_w, i32_w]
    rfl
  refine take_ (i := 9) (N := some 15) (v := undef) (a' := ?_) #[true, true, true, true, true, true, true, true, true, true, false, false, false, false, false, false, false, false] rfl rfl (take_ofW HT_.out HW_.out (by kernel_rfl)) (fun _ _ _ h => h) (Or.inr ⟨by rfl, rfl⟩) hHeld ?_ ?_
  rotate_left
  · simp only [Act.put, List.setIfInBounds_toArray, List.set_cons_zero, List.set_cons_succ, i64_w, i32_w]
    rfl
  refine take_ (i := 10) (N := some 16) (v := undef) (a' := ?_) #[true, true, true, true, true, true, true, true, true, true, true, false, false, false, false, false, false, false] rfl rfl (take_ofW HT_.out HW_.out (by kernel_rfl)) (fun _ _ _ h => h) (Or.inr ⟨by rfl, rfl⟩) hHeld ?_ ?_
  rotate_left
  · simp only [Act.put, List.setIfInBounds_toArray, List.set_cons_zero, List.set_cons_succ, i64_w, i32_w]
    rfl
  refine take_ (i := 12) (N := some 18) (v := undef) (a' := ?_) #[true, true, true, true, true, true, true, true, true, true, true, false, true, false, false, false, false, false] rfl rfl (take_ofW HT_.out HW_.out (by kernel_rfl)) (fun _ _ _ h => h) (Or.inr ⟨by rfl, rfl⟩) hHeld ?_ ?_
  rotate_left
  · simp only [Act.put, List.setIfInBounds_toArray, List.set_cons_zero, List.set_cons_succ, i64_w, i32_w]
    rfl
  refine take_ (i := 13) (N := some 19) (v := undef) (a' := ?_) #[true, true, true, true, true, true, true, true, true, true, true, false, true, true, false, false, false, false] rfl rfl (take_ofW HT_.out HW_.out (by kernel_rfl)) (fun _ _ _ h => h) (Or.inr ⟨by rfl, rfl⟩) hHeld ?_ ?_
  rotate_left
  · simp only [Act.put, List.setIfInBounds_toArray, List.set_cons_zero, List.set_cons_succ, i64_w, i32_w]
    rfl
  refine one_ (i := 11) (N := some 17) #[true, true, true, true, true, true, true, true, true, true, true, true, true, true, false, false, false, false] rfl rfl (one_of HT_.out (by kernel_rfl)) (by decide) (fun K hK => ?_)
  refine off_ (by rfl) ?_
  refine hK.out _ _ ⟨(blk_cell HG.out.1 0).trans rfl, (blk_cell HG.out.1 1).trans rfl, (blk_cell HG.out.1 2).trans rfl, (blk_cell HG.out.2.1 0).trans rfl, (blk_cell HG.out.2.1 1).trans rfl, (blk_cell HG.out.2.1 2).trans rfl, (blk_cell HG.out.2.2.1 0).trans rfl, (blk_cell HG.out.2.2.1 1).trans rfl, (blk_cell HG.out.2.2.1 2).trans rfl⟩ (fun hHeld => ?_)
  clear hK K
  refine norm_ (a' := ?_) ?_ ?_
  rotate_left
  · show Act.put _ (some 17) _ = _
    simp only [Act.put, List.setIfInBounds_toArray, List.set_cons_zero, List.set_cons_succ, i64_w, i32_w]
    rfl
  refine one_ (i := 14) (N := some 20) #[true, true, true, true, true, true, true, true, true, true, true, true, true, true, true, false, false, false] rfl rfl (one_of HT_.out (by kernel_rfl)) (by decide) (fun K hK => ?_)
  refine off_ (by rfl) ?_
  refine hK.out _ _ ⟨(blk_cell HG.out.1 0).trans rfl, (blk_cell HG.out.1 1).trans rfl, (blk_cell HG.out.1 2).trans rfl, (blk_cell HG.out.2.1 0).trans rfl, (blk_cell HG.out.2.1 1).trans rfl, (blk_cell HG.out.2.1 2).trans rfl, (blk_cell HG.out.2.2.1 0).trans rfl, (blk_cell HG.out.2.2.1 1).trans rfl, (blk_cell HG.out.2.2.1 2).trans rfl⟩ (fun hHeld => ?_)
  clear hK K
  refine norm_ (a' := ?_) ?_ ?_
  rotate_left
  · show Act.put _ (some 20) _ = _
    simp only [Act.put, List.setIfInBounds_toArray, List.set_cons_zero, List.set_cons_succ, i64_w, i32_w]
    rfl
  refine take_ (i := 15) (N := some 21) (v := undef) (a' := ?_) #[true, true, true, true, true, true, true, true, true, true, true, true, true, true, true, true, false, false] rfl rfl (take_ofW HT_.out HW_.out (by kernel_rfl)) (fun _ _ _ h => h) (Or.inr ⟨by rfl, rfl⟩) hHeld ?_ ?_
  rotate_left
  · simp only [Act.put, List.setIfInBounds_toArray, List.set_cons_zero, List.set_cons_succ, i64_w, i32_w]
    rfl
  refine pure_ (i := 16) (N := some 22) (v := ?_) (a' := ?_) #[true, true, true, true, true, true, true, true, true, true, true, true, true, true, true, true, true, false] rfl rfl (any_of HT_.out (by kernel_rfl)) (fun _ _ _ h => h) (Or.inl ⟨by rfl, ?_⟩) ?_ ?_
  rotate_left
  · intro w'
    go_simp
    with_reducible rfl
  rotate_left
  · simp only [Act.put, List.setIfInBounds_toArray, List.set_cons_zero, List.set_cons_succ, i64_w, i32_w]
    rfl
  refine pure_ (i := 17) (N := some 5) (v := ?_) (a' := ?_) #[true, true, true, true, true, true, true, true, true, true, true, true, true, true, true, true, true, true] rfl rfl (any_of HT_.out (by kernel_rfl)) (fun _ _ _ h => h) (Or.inl ⟨by rfl, ?_⟩) ?_ ?_
  rotate_left
  · intro w'
    go_simp
    with_reducible rfl
  rotate_left
  · simp only [Act.put, List.setIfInBounds_toArray, List.set_cons_zero, List.set_cons_succ, i64_w, i32_w]
    rfl
  refine done_ (done_of HT_.out (by kernel_rfl)) ?_
  go_wp2_with fail
  go_ret
  exact ⟨rfl, HG.out.2.2.2.2.2⟩
set_option maxHeartbeats 8000000 in
theorem same_2 (k : Nat) (x y : S24) (A B : Option Addr) (na ca nb cb pr : Nat) (r0 r1 r2 : Int) (w : World) (hr : w.heap[pr]? = some (.cells #[.int .i64 r0, .int .i64 r1, .int .i64 r2] 26 (0, 0))) (hx : XV w A na ca x) (hy : XV w B nb cb y) (u : Int) (hcx : leatref7_Check.f k x.f0 x.f1 x.f2 = some 0) (hcy : leatref7_Check.f k y.f0 y.f1 y.f2 = some 0) (hex : expr_Eval.f k x.f0 x.f1 x.f2 r0 r1 r2 = some u) (hey : expr_Eval.f k y.f0 y.f1 y.f2 r0 r1 r2 = some u) :
    Calls Tryd.prog 21 #[.agg #[.int .i64 x.f0, .int .i64 x.f1, .slice A na ca], .agg #[.int .i64 y.f0, .int .i64 y.f1, .slice B nb cb], .pointer (some ⟨pr, 0, none⟩)] w fun e w' => e = .returned (.bool true) ∧ Below w.heap.size w w' := by
  have CX : ∀ W, XV W A na ca x → Calls Tryd.prog 10 #[.agg #[.int .i64 x.f0, .int .i64 x.f1, .slice A na ca]] W fun e W' => e = .returned (.int .i64 0) ∧ Below W.heap.size W W' := fun W h => by
    obtain ⟨rfl, h1, h2⟩ := h
    exact leatref7_Check.calls k x.f0 x.f1 A ca x.f2 0 W h2 h1 hcx
  have CY : ∀ W, XV W B nb cb y → Calls Tryd.prog 10 #[.agg #[.int .i64 y.f0, .int .i64 y.f1, .slice B nb cb]] W fun e W' => e = .returned (.int .i64 0) ∧ Below W.heap.size W W' := fun W h => by
    obtain ⟨rfl, h1, h2⟩ := h
    exact leatref7_Check.calls k y.f0 y.f1 B cb y.f2 0 W h2 h1 hcy
  have EX : ∀ W, XV W A na ca x → Calls Tryd.prog 12 #[.agg #[.int .i64 x.f0, .int .i64 x.f1, .slice A na ca], .agg #[.int .i64 r0, .int .i64 r1, .int .i64 r2]] W fun e W' => e = .returned (.int .i64 u) ∧ Below W.heap.size W W' := fun W h => by
    obtain ⟨rfl, h1, h2⟩ := h
    exact expr_Eval.calls k x.f0 x.f1 A ca x.f2 r0 r1 r2 u W h2 h1 hex
  have EY : ∀ W, XV W B nb cb y → Calls Tryd.prog 12 #[.agg #[.int .i64 y.f0, .int .i64 y.f1, .slice B nb cb], .agg #[.int .i64 r0, .int .i64 r1, .int .i64 r2]] W fun e W' => e = .returned (.int .i64 u) ∧ Below W.heap.size W W' := fun W h => by
    obtain ⟨rfl, h1, h2⟩ := h
    exact expr_Eval.calls k y.f0 y.f1 B cb y.f2 r0 r1 r2 u W h2 h1 hey
  have hu24 := Tryd.underlying24
  have hu26 := Tryd.underlying26
  have HG := Aside0.mk (WF.start hr hx hy)
  clear hr hx hy hcx hcy hex hey
  go_enter Tryd.func21, Tryd.ntmps21
  go_wp2_with fail
  generalize w.heap.size + 1 = py at HG ⊢
  generalize (w.alloc _).alloc _ = W0 at HG ⊢
  obtain ⟨px, hpx⟩ : ∃ p, w.heap.size = p := ⟨_, rfl⟩
  have HPX := Aside0.mk hpx
  rw [hpx] at HG ⊢
  clear hpx
  refine start_ (n := 18) (S := fun w' => w'.cell? ⟨px, 0, none⟩ = some (.int .i64 x.f0) ∧ w'.cell? ⟨px, 1, none⟩ = some (.int .i64 x.f1) ∧ w'.cell? ⟨px, 2, none⟩ = some (.slice A na ca) ∧ w'.cell? ⟨py, 0, none⟩ = some (.int .i64 y.f0) ∧ w'.cell? ⟨py, 1, none⟩ = some (.int .i64 y.f1) ∧ w'.cell? ⟨py, 2, none⟩ = some (.slice B nb cb) ∧ w'.cell? ⟨pr, 0, none⟩ = some (.int .i64 r0) ∧ w'.cell? ⟨pr, 1, none⟩ = some (.int .i64 r1) ∧ w'.cell? ⟨pr, 2, none⟩ = some (.int .i64 r2)) (ds := []) #[false, false, false, false, false, false, false, false, false, false, false, false, false, false, false, false, false, false] (by kernel_rfl) rfl rfl ⟨(blk_cell HG.out.1 0).trans rfl, (blk_cell HG.out.1 1).trans rfl, (blk_cell HG.out.1 2).trans rfl, (blk_cell HG.out.2.1 0).trans rfl, (blk_cell HG.out.2.1 1).trans rfl, (blk_cell HG.out.2.1 2).trans rfl, (blk_cell HG.out.2.2.1 0).trans rfl, (blk_cell HG.out.2.2.1 1).trans rfl, (blk_cell HG.out.2.2.1 2).trans rfl⟩ (fun hHeld => ?_); refine with_tabW sameW.tab1 sameW.bits1 (fun HT_ HW_ => ?_)
  have HG0 := Aside0.mk (HG.out.step (below_drew1 (Below.refl _ _)))
  clear HG
  have HG := HG0
  clear HG0
  generalize World.drew _ = wa at HG hHeld ⊢
  refine take_ (i := 0) (N := some 6) (v := ?_) (a' := ?_) #[true, false, false, false, false, false, false, false, false, false, false, false, false, false, false, false, false, false] rfl rfl (take_ofW HT_.out HW_.out (by kernel_rfl)) (fun _ _ _ h => h) (Or.inl ⟨by rfl, ?_⟩) hHeld ?_ ?_
  rotate_left
  · rintro w' ⟨s0, s1, s2, s3, s4, s5, s6, s7, s8⟩
    go_simp
    with_reducible rfl
  rotate_left
  · simp only [Act.put, List.setIfInBounds_toArray, List.set_cons_zero, List.set_cons_succ, i64_w, i32_w]
    rfl
  refine one_ (i := 1) (N := some 7) #[true, true, false, false, false, false, false, false, false, false, false, false, false, false, false, false, false, false] rfl rfl (one_of HT_.out (by kernel_rfl)) (by decide) (fun K hK => ?_)
  refine goes_ Tryd.func10 (by kernel_rfl) rfl #[.agg #[.int .i64 x.f0, .int .i64 x.f1, .slice A na ca]] (by rfl) rfl rfl (by (try simp only [List.map_toArray, List.map_cons, List.map_nil]); first | done | rfl) ?_
  refine (CX _ HG.out.2.2.2.1).mono ?_
  rintro e_ wb ⟨rfl, hb⟩
  refine ⟨_, rfl, ?_⟩
  have HG0 := Aside0.mk (HG.out.step hb)
  clear HG hb
  have HG := HG0
  clear HG0
  refine hK.out _ _ ⟨(blk_cell HG.out.1 0).trans rfl, (blk_cell HG.out.1 1).trans rfl, (blk_cell HG.out.1 2).trans rfl, (blk_cell HG.out.2.1 0).trans rfl, (blk_cell HG.out.2.1 1).trans rfl, (blk_cell HG.out.2.1 2).trans rfl, (blk_cell HG.out.2.2.1 0).trans rfl, (blk_cell HG.out.2.2.1 1).trans rfl, (blk_cell HG.out.2.2.1 2).trans rfl⟩ (fun hHeld => ?_)
  clear hK K
  refine norm_ (a' := ?_) ?_ ?_
  rotate_left
  · show Act.put _ (some 7) _ = _
    simp only [Act.put, List.setIfInBounds_toArray, List.set_cons_zero, List.set_cons_succ, i64_w, i32_w]
    rfl
  refine pure_ (i := 2) (N := some 8) (v := ?_) (a' := ?_) #[true, true, true, false, false, false, false, false, false, false, false, false, false, false, false, false, false, false] rfl rfl (any_of HT_.out (by kernel_rfl)) (fun _ _ _ h => h) (Or.inl ⟨by rfl, ?_⟩) ?_ ?_
  rotate_left
  · intro w'
    go_simp
    with_reducible rfl
  rotate_left
  · simp only [Act.put, List.setIfInBounds_toArray, List.set_cons_zero, List.set_cons_succ, i64_w, i32_w]
    rfl
  refine pure_ (i := 3) (N := some 9) (v := ?_) (a' := ?_) #[true, true, true, true, false, false, false, false, false, false, false, false, false, false, false, false, false, false] rfl rfl (any_of HT_.out (by kernel_rfl)) (fun _ _ _ h => h) (Or.inl ⟨by rfl, ?_⟩) ?_ ?_
  rotate_left
  · intro w'
    go_simp
    with_reducible rfl
  rotate_left
  · simp only [Act.put, List.setIfInBounds_toArray, List.set_cons_zero, List.set_cons_succ, i64_w, i32_w]
    rfl
  refine take_ (i := 4) (N := some 10) (v := ?_) (a' := ?_) #[true, true, true, true, true, false, false, false, false, false, false, false, false, false, false, false, false, false] rfl rfl (take_ofW HT_.out HW_.out (by kernel_rfl)) (fun _ _ _ h => h) (Or.inl ⟨by rfl, ?_⟩) hHeld ?_ ?_
  rotate_left
  · rintro w' ⟨s0, s1, s2, s3, s4, s5, s6, s7, s8⟩
    go_simp
    with_reducible rfl
  rotate_left
  · simp only [Act.put, List.setIfInBounds_toArray, List.set_cons_zero, List.set_cons_succ, i64_w, i32_w]
    rfl
  refine one_ (i := 5) (N := some 11) #[true, true, true, true, true, true, false, false, false, false, false, false, false, false, false, false, false, false] rfl rfl (one_of HT_.out (by kernel_rfl)) (by decide) (fun K hK => ?_)
  refine goes_ Tryd.func10 (by kernel_rfl) rfl #[.agg #[.int .i64 y.f0, .int .i64 y.f1, .slice B nb cb]] (by rfl) rfl rfl (by (try simp only [List.map_toArray, List.map_cons, List.map_nil]); first | done | rfl) ?_
  refine (CY _ HG.out.2.2.2.2.1).mono ?_
  rintro e_ wc ⟨rfl, hb⟩
  refine ⟨_, rfl, ?_⟩
  have HG0 := Aside0.mk (HG.out.step hb)
  clear HG hb
  have HG := HG0
  clear HG0
  refine hK.out _ _ ⟨(blk_cell HG.out.1 0).trans rfl, (blk_cell HG.out.1 1).trans rfl, (blk_cell HG.out.1 2).trans rfl, (blk_cell HG.out.2.1 0).trans rfl, (blk_cell HG.out.2.1 1).trans rfl, (blk_cell HG.out.2.1 2).trans rfl, (blk_cell HG.out.2.2.1 0).trans rfl, (blk_cell HG.out.2.2.1 1).trans rfl, (blk_cell HG.out.2.2.1 2).trans rfl⟩ (fun hHeld => ?_)
  clear hK K
  refine norm_ (a' := ?_) ?_ ?_
  rotate_left
  · show Act.put _ (some 11) _ = _
    simp only [Act.put, List.setIfInBounds_toArray, List.set_cons_zero, List.set_cons_succ, i64_w, i32_w]
    rfl
  refine pure_ (i := 6) (N := some 12) (v := ?_) (a' := ?_) #[true, true, true, true, true, true, true, false, false, false, false, false, false, false, false, false, false, false] rfl rfl (any_of HT_.out (by kernel_rfl)) (fun _ _ _ h => h) (Or.inl ⟨by rfl, ?_⟩) ?_ ?_
  rotate_left
  · intro w'
    go_simp
    with_reducible rfl
  rotate_left
  · simp only [Act.put, List.setIfInBounds_toArray, List.set_cons_zero, List.set_cons_succ, i64_w, i32_w]
    rfl
  refine pure_ (i := 7) (N := some 13) (v := ?_) (a' := ?_) #[true, true, true, true, true, true, true, true, false, false, false, false, false, false, false, false, false, false] rfl rfl (any_of HT_.out (by kernel_rfl)) (fun _ _ _ h => h) (Or.inl ⟨by rfl, ?_⟩) ?_ ?_
  rotate_left
  · intro w'
    go_simp
    with_reducible rfl
  rotate_left
  · simp only [Act.put, List.setIfInBounds_toArray, List.set_cons_zero, List.set_cons_succ, i64_w, i32_w]
    rfl
  refine pure_ (i := 8) (N := some 14) (v := ?_) (a' := ?_) #[true, true, true, true, true, true, true, true, true, false, false, false, false, false, false, false, false, false] rfl rfl (any_of HT_.out (by kernel_rfl)) (fun _ _ _ h => h) (Or.inl ⟨by rfl, ?_⟩) ?_ ?_
  rotate_left
  · intro w'
    go_simp
    with_reducible rfl
  rotate_left
  · simp only [Act.put, List.setIfInBounds_toArray, List.set_cons_zero, List.set_cons_succ, i64_w, i32_w]
    rfl
  refine take_ (i := 9) (N := some 15) (v := ?_) (a' := ?_) #[true, true, true, true, true, true, true, true, true, true, false, false, false, false, false, false, false, false] rfl rfl (take_ofW HT_.out HW_.out (by kernel_rfl)) (fun _ _ _ h => h) (Or.inl ⟨by rfl, ?_⟩) hHeld ?_ ?_
  rotate_left
  · rintro w' ⟨s0, s1, s2, s3, s4, s5, s6, s7, s8⟩
    go_simp
    with_reducible rfl
  rotate_left
  · simp only [Act.put, List.setIfInBounds_toArray, List.set_cons_zero, List.set_cons_succ, i64_w, i32_w]
    rfl
  refine take_ (i := 10) (N := some 16) (v := ?_) (a' := ?_) #[true, true, true, true, true, true, true, true, true, true, true, false, false, false, false, false, false, false] rfl rfl (take_ofW HT_.out HW_.out (by kernel_rfl)) (fun _ _ _ h => h) (Or.inl ⟨by rfl, ?_⟩) hHeld ?_ ?_
  rotate_left
  · rintro w' ⟨s0, s1, s2, s3, s4, s5, s6, s7, s8⟩
    go_simp
    with_reducible rfl
  rotate_left
  · simp only [Act.put, List.setIfInBounds_toArray, List.set_cons_zero, List.set_cons_succ, i64_w, i32_w]
    rfl
  refine take_ (i := 12) (N := some 18) (v := ?_) (a' := ?_) #[true, true, true, true, true, true, true, true, true, true, true, false, true, false, false, false, false, false] rfl rfl (take_ofW HT_.out HW_.out (by kernel_rfl)) (fun _ _ _ h => h) (Or.inl ⟨by rfl, ?_⟩) hHeld ?_ ?_
  rotate_left
  · rintro w' ⟨s0, s1, s2, s3, s4, s5, s6, s7, s8⟩
    go_simp
    with_reducible rfl
  rotate_left
  · simp only [Act.put, List.setIfInBounds_toArray, List.set_cons_zero, List.set_cons_succ, i64_w, i32_w]
    rfl
  refine take_ (i := 13) (N := some 19) (v := ?_) (a' := ?_) #[true, true, true, true, true, true, true, true, true, true, true, false, true, true, false, false, false, false] rfl rfl (take_ofW HT_.out HW_.out (by kernel_rfl)) (fun _ _ _ h => h) (Or.inl ⟨by rfl, ?_⟩) hHeld ?_ ?_
  rotate_left
  · rintro w' ⟨s0, s1, s2, s3, s4, s5, s6, s7, s8⟩
    go_simp
    with_reducible rfl
  rotate_left
  · simp only [Act.put, List.setIfInBounds_toArray, List.set_cons_zero, List.set_cons_succ, i64_w, i32_w]
    rfl
  refine one_ (i := 11) (N := some 17) #[true, true, true, true, true, true, true, true, true, true, true, true, true, true, false, false, false, false] rfl rfl (one_of HT_.out (by kernel_rfl)) (by decide) (fun K hK => ?_)
  refine goes_ Tryd.func12 (by kernel_rfl) rfl #[.agg #[.int .i64 x.f0, .int .i64 x.f1, .slice A na ca], .agg #[.int .i64 r0, .int .i64 r1, .int .i64 r2]] (by rfl) rfl rfl (by (try simp only [List.map_toArray, List.map_cons, List.map_nil]); first | done | rfl) ?_
  refine (EX _ HG.out.2.2.2.1).mono ?_
  rintro e_ wd ⟨rfl, hb⟩
  refine ⟨_, rfl, ?_⟩
  have HG0 := Aside0.mk (HG.out.step hb)
  clear HG hb
  have HG := HG0
  clear HG0
  refine hK.out _ _ ⟨(blk_cell HG.out.1 0).trans rfl, (blk_cell HG.out.1 1).trans rfl, (blk_cell HG.out.1 2).trans rfl, (blk_cell HG.out.2.1 0).trans rfl, (blk_cell HG.out.2.1 1).trans rfl, (blk_cell HG.out.2.1 2).trans rfl, (blk_cell HG.out.2.2.1 0).trans rfl, (blk_cell HG.out.2.2.1 1).trans rfl, (blk_cell HG.out.2.2.1 2).trans rfl⟩ (fun hHeld => ?_)
  clear hK K
  refine norm_ (a' := ?_) ?_ ?_
  rotate_left
  · show Act.put _ (some 17) _ = _
    simp only [Act.put, List.setIfInBounds_toArray, List.set_cons_zero, List.set_cons_succ, i64_w, i32_w]
    rfl
  refine one_ (i := 14) (N := some 20) #[true, true, true, true, true, true, true, true, true, true, true, true, true, true, true, false, false, false] rfl rfl (one_of HT_.out (by kernel_rfl)) (by decide) (fun K hK => ?_)
  refine goes_ Tryd.func12 (by kernel_rfl) rfl #[.agg #[.int .i64 y.f0, .int .i64 y.f1, .slice B nb cb], .agg #[.int .i64 r0, .int .i64 r1, .int .i64 r2]] (by rfl) rfl rfl (by (try simp only [List.map_toArray, List.map_cons, List.map_nil]); first | done | rfl) ?_
  refine (EY _ HG.out.2.2.2.2.1).mono ?_
  rintro e_ we ⟨rfl, hb⟩
  refine ⟨_, rfl, ?_⟩
  have HG0 := Aside0.mk (HG.out.step hb)
  clear HG hb
  have HG := HG0
  clear HG0
  refine hK.out _ _ ⟨(blk_cell HG.out.1 0).trans rfl, (blk_cell HG.out.1 1).trans rfl, (blk_cell HG.out.1 2).trans rfl, (blk_cell HG.out.2.1 0).trans rfl, (blk_cell HG.out.2.1 1).trans rfl, (blk_cell HG.out.2.1 2).trans rfl, (blk_cell HG.out.2.2.1 0).trans rfl, (blk_cell HG.out.2.2.1 1).trans rfl, (blk_cell HG.out.2.2.1 2).trans rfl⟩ (fun hHeld => ?_)
  clear hK K
  refine norm_ (a' := ?_) ?_ ?_
  rotate_left
  · show Act.put _ (some 20) _ = _
    simp only [Act.put, List.setIfInBounds_toArray, List.set_cons_zero, List.set_cons_succ, i64_w, i32_w]
    rfl
  refine pure_ (i := 15) (N := some 21) (v := ?_) (a' := ?_) #[true, true, true, true, true, true, true, true, true, true, true, true, true, true, true, true, false, false] rfl rfl (any_of HT_.out (by kernel_rfl)) (fun _ _ _ h => h) (Or.inl ⟨by rfl, ?_⟩) ?_ ?_
  rotate_left
  · intro w'
    go_simp
    with_reducible rfl
  rotate_left
  · simp only [Act.put, List.setIfInBounds_toArray, List.set_cons_zero, List.set_cons_succ, i64_w, i32_w]
    rfl
  refine pure_ (i := 16) (N := some 22) (v := ?_) (a' := ?_) #[true, true, true, true, true, true, true, true, true, true, true, true, true, true, true, true, true, false] rfl rfl (any_of HT_.out (by kernel_rfl)) (fun _ _ _ h => h) (Or.inl ⟨by rfl, ?_⟩) ?_ ?_
  rotate_left
  · intro w'
    go_simp
    with_reducible rfl
  rotate_left
  · simp only [Act.put, List.setIfInBounds_toArray, List.set_cons_zero, List.set_cons_succ, i64_w, i32_w]
    rfl
  refine pure_ (i := 17) (N := some 5) (v := ?_) (a' := ?_) #[true, true, true, true, true, true, true, true, true, true, true, true, true, true, true, true, true, true] rfl rfl (any_of HT_.out (by kernel_rfl)) (fun _ _ _ h => h) (Or.inl ⟨by rfl, ?_⟩) ?_ ?_
  rotate_left
  · intro w'
    go_simp
    with_reducible rfl
  rotate_left
  · simp only [Act.put, List.setIfInBounds_toArray, List.set_cons_zero, List.set_cons_succ, i64_w, i32_w]
    rfl
  refine done_ (done_of HT_.out (by kernel_rfl)) ?_
  go_wp2_with fail
  go_ret
  exact ⟨rfl, HG.out.2.2.2.2.2⟩
theorem same1 (k : Nat) (x y : S24) (A B : Option Addr) (na ca nb cb pr : Nat) (r0 r1 r2 : Int) (w : World) (hr : w.heap[pr]? = some (.cells #[.int .i64 r0, .int .i64 r1, .int .i64 r2] 26 (0, 0))) (hx : XV w A na ca x) (hy : XV w B nb cb y) (h : sameL.f k x y r0 r1 r2 = some true) :
    Calls Tryd.prog 21 #[.agg #[.int .i64 x.f0, .int .i64 x.f1, .slice A na ca], .agg #[.int .i64 y.f0, .int .i64 y.f1, .slice B nb cb], .pointer (some ⟨pr, 0, none⟩)] w fun e w' => e = .returned (.bool true) ∧ Below w.heap.size w w' := by
  unfold sameL.f at h
  obtain ⟨t, hcx, h⟩ := Option.bind_eq_some_iff.mp h
  by_cases ht : t = 0
  · subst ht
    rw [if_pos rfl] at h
    obtain ⟨t', hcy, h⟩ := Option.bind_eq_some_iff.mp h
    by_cases ht : t' = 0
    · subst ht
      rw [if_pos rfl] at h
      obtain ⟨u, hex, h⟩ := Option.bind_eq_some_iff.mp h
      obtain ⟨v, hey, h⟩ := Option.bind_eq_some_iff.mp h
      obtain rfl : u = v := by simpa using h
      exact same_2 k x y A B na ca nb cb pr r0 r1 r2 w hr hx hy u hcx hcy hex hey
    · exact same_1 k x y A B na ca nb cb pr r0 r1 r2 w hr hx hy t' hcx hcy ht
  · exact same_0 k x y A B na ca nb cb pr r0 r1 r2 w hr hx hy t hcx ht
end Go.Proofs.YtdmfakgbiaaacaaDoor.X
namespace Go.Proofs.YtdmfakgbiaaacaaDoor.X
open Go.RowKit Go.Proofs.YtdmfakgbiaaacaaDoorW.PrintWords Go.Proofs.YtdmfakgbiaaacaaDoorW.PrintLast Go.Proofs.YtdmfakgbiaaacaaDoorW.PrintMore
attribute [local go_sem] max2_int min2_int max_two min_two max_three min_three max_four min_four   -- for this text's walks alone
set_option linter.unusedVariables false
set_option linter.unusedSimpArgs false
end Go.Proofs.YtdmfakgbiaaacaaDoor.X
namespace Go.Proofs.YtdmfakgbiaaacaaDoor.X
open Go.RowKit Go.Proofs.YtdmfakgbiaaacaaDoorW.PrintWords Go.Proofs.YtdmfakgbiaaacaaDoorW.PrintLast Go.Proofs.YtdmfakgbiaaacaaDoorW.PrintMore
attribute [local go_sem] max2_int min2_int max_two min_two max_three min_three max_four min_four   -- for this text's walks alone
set_option linter.unusedVariables false
set_option linter.unusedSimpArgs false
end Go.Proofs.YtdmfakgbiaaacaaDoor.X
