-- written by wip/myprint.py out of the translation
import Derived.Test.YtodpmiaedpmngaaXt
import Derived.Test.YtodpmiaedpmngaaXf14
namespace Go.Proofs.Ytodpmiaedpmngaa.X
open Go.RowKit Go.Proofs.YtodpmiaedpmngaaW.PrintWords Go.Proofs.YtodpmiaedpmngaaW.PrintLast Go.Proofs.YtodpmiaedpmngaaW.PrintMore
attribute [local go_sem] max2_int min2_int max_two min_two max_three min_three max_four min_four   -- for this text's walks alone
set_option linter.unusedVariables false
set_option linter.unusedSimpArgs false

/-! ### leatref10_Add: function 13 -/
def leatref10_Add.f (k : Nat) (a0 : Int) (a1 : Int) (a2 : Int) : Option (Int) := if a0 = 2 then (some (wrap64 (a1 + 1))) else ((leatref10_Merge.f k a0 a1 a2).bind fun t116 => (some t116))
theorem leatref10_Add.mono : ∀ a0 a1 a2 k, LeO (leatref10_Add.f k a0 a1 a2) (leatref10_Add.f (k + 1) a0 a1 a2) := by
  intro a0 a1 a2 k
  unfold leatref10_Add.f
  repeat' first
      | (with_reducible exact leatref10_Merge.mono _ _ _ _)
      | (with_reducible exact LeO.refl _)
      | (with_reducible exact LeO.none _)
      | (with_reducible refine LeO.ite ?_ ?_)
      | (with_reducible refine LeO.bind ?_ (fun _ => ?_))
      | exact leatref10_Merge.mono _ _ _ _
      | exact LeO.none _
      | refine LeO.ite ?_ ?_
      | refine LeO.bind ?_ (fun _ => ?_)
set_option maxHeartbeats 8000000 in
set_option maxRecDepth 100000 in
theorem leatref10_Add.calls (k : Nat) (a0 : Int) (a1 : Int) (a2 : Int) (r : Int) (w : World) (h : leatref10_Add.f k a0 a1 a2 = some r) :
    Calls Try.prog 13 #[.int .i64 a0, .int .i64 a1, .int .i64 a2] w fun e w' => e = .returned (.int .i64 r) ∧ Below w.heap.size w w' := by
  have HB := Aside0.mk (Below.refl w.heap.size w)
  have H : (if a0 = 2 then (some (wrap64 (a1 + 1))) else ((leatref10_Merge.f k a0 a1 a2).bind fun t116 => (some t116))) = some r := h
  clear h
  by_cases c4 : a0 = 2
  · rw [if_pos c4] at H
    have c4b0 : (a0 == 2) = true := beq_iff_eq.mpr c4
    have c4b1 : (a0 != 2) = false := bne_eq_false_iff_eq.mpr c4
    clear c4
    obtain rfl := Option.some.inj H
    go_enter Try.func13, Try.ntmps13
    go_wp2
    go_ret
    exact ⟨by first | rfl | (simp [errW_none, errW_some] <;> rfl) | (simp [*, errW_none, errW_some] <;> rfl), by repeat (first | (with_reducible first | exact HB.out | apply below_alloc | apply pw_below_drewN | apply below_drew1) | exact HB.out)⟩
  · rw [if_neg c4] at H
    have c4b0 : (a0 == 2) = false := beq_eq_false_iff_ne.mpr c4
    have c4b1 : (a0 != 2) = true := bne_iff_ne.mpr c4
    replace H := Option.bind_eq_some_iff.mp H
    obtain ⟨t116, A50, H⟩ := H
    replace H : (some t116) = some r := H
    have A5 := Aside0.mk A50
    clear A50
    obtain rfl := Option.some.inj H
    go_enter Try.func13, Try.ntmps13
    go_wp2_with (first | ((with_reducible refine gate_callee (f := 14) rfl ?_); refine goesL_ (some 14) rfl rfl Try.func14 (by kernel_rfl) rfl #[.int .i64 a0, .int .i64 a1, .int .i64 a2] rfl (by (try simp only [List.map_toArray, List.map_cons, List.map_nil]); first | done | rfl | (simp only [List.length_drop, List.length_take]; rfl)) ?_; (with_reducible refine (leatref10_Merge.calls k a0 a1 a2 t116 _ A5.out).mono ?_); rintro e w6 ⟨rfl, hb⟩; refine ⟨_, rfl, ?_⟩; have n0_ := Aside0.mk (below_step (by repeat (first | (with_reducible first | exact HB.out | apply below_alloc | apply pw_below_drewN | apply below_drew1) | exact HB.out)) hb); clear HB; have HB := n0_; clear n0_; (try clear hb); (try clear hb2); (try clear hk); (try clear hi)))
    go_ret
    exact ⟨by first | rfl | (simp [errW_none, errW_some] <;> rfl) | (simp [*, errW_none, errW_some] <;> rfl), by repeat (first | (with_reducible first | exact HB.out | apply below_alloc | apply pw_below_drewN | apply below_drew1) | exact HB.out)⟩

end Go.Proofs.Ytodpmiaedpmngaa.X
