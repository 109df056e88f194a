/- The contract of job.inputs. No conditions beyond those typed. -/
import Derived.Test.YtpbmfdbfimcpjaaMJobOrder1
namespace Go.Proofs.Ytpbmfdbfimcpjaa.X
open Go.RowKit Go.Proofs.YtpbmfdbfimcpjaaW.PrintWords Go.Proofs.YtpbmfdbfimcpjaaW.PrintLast
set_option linter.unusedVariables false
set_option linter.unusedSimpArgs false

def lenOk (kind n : Int) : Bool := if kind = 1 then n == 0 else if kind = 5 then decide (1 ≤ n) && decide (n ≤ 4) else n == 1
def job_inputs.f (l0_0 : List S38) (a1_0 : Int) (l1_1 : List Int) (a1_2 a1_3 a1_4 : Int) (l1_5 : List S34) (a1_6 a1_7 a1_8 a1_9 : Int) : Option Bool :=
  some (lenOk a1_0 l1_1.length && !(l1_1.any (badIn l0_0)))

set_option maxHeartbeats 4000000 in
theorem job_inputs.calls (A0 : Option Addr) (c0 : Nat) (l0 : List S38) (a1_0 : Int) (A1 : Option Addr) (c1 : Nat) (l1 : List Int) (a1_2 a1_3 a1_4 : Int) (A5 : Option Addr) (c5 : Nat) (l5 : List S34) (a1_6 a1_7 a1_8 a1_9 : Int) (r : Bool) (w : World)
    (hr0 : Kd.C k38 w A0 l0.length l0) (hc0 : l0.length ≤ c0) (hr1 : Kd.C (Kd.int .i64) w A1 l1.length l1) (hc1 : l1.length ≤ c1) (hr5 : Kd.C k34 w A5 l5.length l5) (hc5 : l5.length ≤ c5)
    (h : job_inputs.f l0 a1_0 l1 a1_2 a1_3 a1_4 l5 a1_6 a1_7 a1_8 a1_9 = some r) :
    Calls Try.prog 36 #[.agg #[.slice A0 l0.length c0], .agg #[.int .i64 a1_0, .slice A1 l1.length c1, .int .i64 a1_2, .int .i64 a1_3, .int .i64 a1_4, .slice A5 l5.length c5, .int .i64 a1_6, .int .i64 a1_7, .int .i64 a1_8, .int .i64 a1_9]] w fun e w' => e = .returned (.bool r) ∧ Below w.heap.size w w' := by
  obtain rfl := Option.some.inj h
  clear h
  have hcall : ∀ (W : World), Below w.heap.size w W → W.cell? ⟨w.heap.size, 0, none⟩ = some (.slice A0 l0.length c0) → w.heap.size < W.heap.size →
      Calls Try.prog 19 #[.slice A1 l1.length c1, .func (.func 42) #[] #[.pointer (some ⟨w.heap.size, 0, none⟩)]] W fun e w' => e = .returned (.bool (l1.any (badIn l0))) ∧ Below W.heap.size W w' := by
    intro W hb hc hlt
    refine contains_19 42 #[.pointer (some ⟨w.heap.size, 0, none⟩)] (badIn l0) A1 c1 l1 W (fun _ _ => by kernel_rfl) (Kd.C_below hr1 hb) hc1 ?_
    intro x _ W2 hb2
    exact inputs1_any w.heap.size A0 c0 l0 x W2 ((hb2.cell (p := ⟨w.heap.size, 0, none⟩) hlt).trans hc) (Kd.C_below (Kd.C_below hr0 hb) hb2)
  have HC := Aside0.mk hcall
  clear hcall
  have fin : ∀ (b : Bool), lenOk a1_0 l1.length = b → Aside0 (lenOk a1_0 l1.length = b) := fun b h => ⟨h⟩
  have hno : Aside0 (lenOk a1_0 l1.length = false → (lenOk a1_0 l1.length && !(l1.any (badIn l0))) = false) := ⟨fun h => by rw [h]; rfl⟩
  have hyes : Aside0 (lenOk a1_0 l1.length = true → (lenOk a1_0 l1.length && !(l1.any (badIn l0))) = !(l1.any (badIn l0))) := ⟨fun h => by rw [h]; rfl⟩
  by_cases k1 : a1_0 = 1
  · subst k1
    by_cases n0 : (l1.length : Int) > 0
    · skip
      have HL := fin false (by unfold lenOk; rw [if_pos rfl, beq_eq_false_iff_ne]; omega)
      clear fin
      go_enter Try.func36, Try.ntmps36
      go_wp2_with fail
      go_ret
      exact ⟨by rw [hno.out HL.out]; rfl, ((Below.refl _ _).alloc (Nat.le_refl _) _).alloc (by simp) _⟩
    · skip
      have HL := fin true (by unfold lenOk; rw [if_pos rfl, beq_iff_eq]; omega)
      clear fin
      go_enter Try.func36, Try.ntmps36
      go_wp2_with fail
      refine (HC.out _ (((Below.refl _ _).alloc (Nat.le_refl _) _).alloc (by simp) _) (by simp) (by simp; omega)).mono ?_
      rintro e w1 ⟨rfl, hb⟩
      go_wp2_with fail
      go_ret
      exact ⟨by rw [hyes.out HL.out]; rfl, below_step (((Below.refl _ _).alloc (Nat.le_refl _) _).alloc (by simp) _) hb⟩
  have k1b : (a1_0 == 1) = false := by simpa using k1
  by_cases k5 : a1_0 = 5
  · subst k5
    by_cases n0 : (l1.length : Int) < 1
    · skip
      have HL := fin false (by unfold lenOk; rw [if_neg (by decide), if_pos rfl, Bool.and_eq_false_iff]; left; exact decide_eq_false (by omega))
      clear fin
      go_enter Try.func36, Try.ntmps36
      go_wp2_with fail
      go_ret
      exact ⟨by rw [hno.out HL.out]; rfl, ((Below.refl _ _).alloc (Nat.le_refl _) _).alloc (by simp) _⟩
    by_cases n1 : (l1.length : Int) > 4
    · skip
      have HL := fin false (by unfold lenOk; rw [if_neg (by decide), if_pos rfl, Bool.and_eq_false_iff]; right; exact decide_eq_false (by omega))
      clear fin
      go_enter Try.func36, Try.ntmps36
      go_wp2_with fail
      go_ret
      exact ⟨by rw [hno.out HL.out]; rfl, ((Below.refl _ _).alloc (Nat.le_refl _) _).alloc (by simp) _⟩
    have HL := fin true (by unfold lenOk; rw [if_neg (by decide), if_pos rfl, Bool.and_eq_true, decide_eq_true_eq, decide_eq_true_eq]; omega)
    clear fin
    go_enter Try.func36, Try.ntmps36
    go_wp2_with fail
    refine (HC.out _ (((Below.refl _ _).alloc (Nat.le_refl _) _).alloc (by simp) _) (by simp) (by simp; omega)).mono ?_
    rintro e w1 ⟨rfl, hb⟩
    go_wp2_with fail
    go_ret
    exact ⟨by rw [hyes.out HL.out]; rfl, below_step (((Below.refl _ _).alloc (Nat.le_refl _) _).alloc (by simp) _) hb⟩
  have k5b : (a1_0 == 5) = false := by simpa using k5
  by_cases n0 : (l1.length : Int) < 1
  · skip
    have HL := fin false (by unfold lenOk; rw [if_neg k1, if_neg k5, beq_eq_false_iff_ne]; omega)
    clear fin
    go_enter Try.func36, Try.ntmps36
    go_wp2_with fail
    go_ret
    exact ⟨by rw [hno.out HL.out]; rfl, ((Below.refl _ _).alloc (Nat.le_refl _) _).alloc (by simp) _⟩
  by_cases n1 : (l1.length : Int) > 1
  · skip
    have HL := fin false (by unfold lenOk; rw [if_neg k1, if_neg k5, beq_eq_false_iff_ne]; omega)
    clear fin
    go_enter Try.func36, Try.ntmps36
    go_wp2_with fail
    go_ret
    exact ⟨by rw [hno.out HL.out]; rfl, ((Below.refl _ _).alloc (Nat.le_refl _) _).alloc (by simp) _⟩
  have HL := fin true (by unfold lenOk; rw [if_neg k1, if_neg k5, beq_iff_eq]; omega)
  clear fin
  go_enter Try.func36, Try.ntmps36
  go_wp2_with fail
  refine (HC.out _ (((Below.refl _ _).alloc (Nat.le_refl _) _).alloc (by simp) _) (by simp) (by simp; omega)).mono ?_
  rintro e w1 ⟨rfl, hb⟩
  go_wp2_with fail
  go_ret
  exact ⟨by rw [hyes.out HL.out]; rfl, below_step (((Below.refl _ _).alloc (Nat.le_refl _) _).alloc (by simp) _) hb⟩
end Go.Proofs.Ytpbmfdbfimcpjaa.X
