/- Contracts of job.inputs and of the predicates that package job hands to slices.ContainsFunc. No conditions beyond those typed. -/
import Derived.Test.YtpbmfdbfimcpjaaA
import Derived.Test.YtpbmfdbfimcpjaaXf29
namespace Go.Proofs.Ytpbmfdbfimcpjaa.X
open Go.RowKit Go.Proofs.YtpbmfdbfimcpjaaW.PrintWords Go.Proofs.YtpbmfdbfimcpjaaW.PrintLast
set_option linter.unusedVariables false
set_option linter.unusedSimpArgs false

/-! ### w > MaxWeight -/
theorem check1_any (x : Int) (w : World) : Calls Try.prog 21 #[.int .i64 x] w fun e w' => e = .returned (.bool (decide (x > 64))) ∧ w = w' := by
  go_enter Try.func21, Try.ntmps21
  go_wp2
  go_ret
  exact ⟨rfl, rfl⟩
def slices_ContainsFunc_int_int__job_Check_1.f (l : List Int) (_ : Unit) : Option Bool := some (l.any fun x => decide (x > 64))
theorem slices_ContainsFunc_int_int__job_Check_1.calls (A : Option Addr) (c : Nat) (l : List Int) (u : Unit) (r : Bool) (w : World) (hC : Kd.C (Kd.int .i64) w A l.length l) (hc : l.length ≤ c) (h : slices_ContainsFunc_int_int__job_Check_1.f l u = some r) :
    Calls Try.prog 19 #[.slice A l.length c, .func (.func 21) #[] #[]] w fun e w' => e = .returned (.bool r) ∧ Below w.heap.size w w' := by
  obtain rfl := Option.some.inj h
  exact contains_19 21 #[] _ A c l w (fun _ _ => by kernel_rfl) hC hc (fun x _ W _ => (check1_any x W).mono fun e w' ⟨h1, h2⟩ => ⟨h1, h2 ▸ Below.refl _ _⟩)

/-! ### a sink -/
theorem check2_any (x : S38) (cs : List Value) (w : World) (v : World) (hK : k38.K v x cs) : Calls Try.prog 23 #[.agg cs.toArray] w fun e w' => e = .returned (.bool (x.f0 == 8)) ∧ Below w.heap.size w w' := by
  obtain ⟨A1, c1, A5, c5, rfl, _⟩ := k38_open hK
  go_enter Try.func23, Try.ntmps23
  go_wp2
  go_ret
  exact ⟨rfl, (Below.refl _ _).alloc (Nat.le_refl _) _⟩
def api_Node__job_Check_2.f (l : List S38) (_ : Unit) : Option Bool := some (l.any fun x => x.f0 == 8)
theorem api_Node__job_Check_2.calls (A : Option Addr) (c : Nat) (l : List S38) (u : Unit) (r : Bool) (w : World) (hC : Kd.C k38 w A l.length l) (hc : l.length ≤ c) (h : api_Node__job_Check_2.f l u = some r) :
    Calls Try.prog 22 #[.slice A l.length c, .func (.func 23) #[] #[]] w fun e w' => e = .returned (.bool r) ∧ Below w.heap.size w w' := by
  obtain rfl := Option.some.inj h
  exact contains_22 23 #[] _ A c l w (fun _ _ => by kernel_rfl) hC hc (fun x _ cs hK W _ => check2_any x cs W w hK)

/-! ### an item that may not be; the end -/
def itemOk (x : S47) : Bool := (job_item.f x.f0 x.f1.f0 x.f1.f1 x.f1.f2 x.f2).getD false
theorem item_some (x : S47) : job_item.f x.f0 x.f1.f0 x.f1.f1 x.f1.f2 x.f2 = some (itemOk x) := by
  have h : ∃ b, job_item.f x.f0 x.f1.f0 x.f1.f1 x.f1.f2 x.f2 = some b := by
    unfold job_item.f
    repeat' (first | exact ⟨_, rfl⟩ | split)
  obtain ⟨b, hb⟩ := h
  rw [itemOk, hb]; rfl
theorem logs1_any (x : S47) (w : World) : Calls Try.prog 28 #[.agg #[.int .i64 x.f0, .int .i64 x.f1.f0, .int .i64 x.f1.f1, .int .i64 x.f1.f2, .int .i64 x.f2]] w fun e w' => e = .returned (.bool (!itemOk x)) ∧ Below w.heap.size w w' := by
  have hi := fun w => job_item.calls x.f0 x.f1.f0 x.f1.f1 x.f1.f2 x.f2 (itemOk x) w (item_some x)
  go_enter Try.func28, Try.ntmps28
  go_wp2_with (go_at_call 29; refine (hi _).mono ?_; rintro e w1 ⟨rfl, hb⟩)
  go_ret
  exact ⟨rfl, below_step ((Below.refl _ _).alloc (Nat.le_refl _) _) hb⟩
def api_Item__job_Logs_1.f (l : List S47) (_ : Unit) : Option Bool := some (l.any fun x => !itemOk x)
theorem api_Item__job_Logs_1.calls (A : Option Addr) (c : Nat) (l : List S47) (u : Unit) (r : Bool) (w : World) (hC : Kd.C k47 w A l.length l) (hc : l.length ≤ c) (h : api_Item__job_Logs_1.f l u = some r) :
    Calls Try.prog 27 #[.slice A l.length c, .func (.func 28) #[] #[]] w fun e w' => e = .returned (.bool r) ∧ Below w.heap.size w w' := by
  obtain rfl := Option.some.inj h
  exact contains_27 28 #[] _ A c l w (fun _ _ => by kernel_rfl) hC hc (fun x _ W _ => logs1_any x W)
theorem whole1_any (x : S47) (w : World) : Calls Try.prog 30 #[.agg #[.int .i64 x.f0, .int .i64 x.f1.f0, .int .i64 x.f1.f1, .int .i64 x.f1.f2, .int .i64 x.f2]] w fun e w' => e = .returned (.bool (x.f0 == 2 && x.f2 == 9223372036854775807)) ∧ Below w.heap.size w w' := by
  by_cases h : x.f0 = 2
  all_goals
    go_enter Try.func30, Try.ntmps30
    go_wp2
    go_ret
    exact ⟨by simp [h], (Below.refl _ _).alloc (Nat.le_refl _) _⟩
def api_Item__job_Whole_1.f (l : List S47) (_ : Unit) : Option Bool := some (l.any fun x => x.f0 == 2 && x.f2 == 9223372036854775807)
theorem api_Item__job_Whole_1.calls (A : Option Addr) (c : Nat) (l : List S47) (u : Unit) (r : Bool) (w : World) (hC : Kd.C k47 w A l.length l) (hc : l.length ≤ c) (h : api_Item__job_Whole_1.f l u = some r) :
    Calls Try.prog 27 #[.slice A l.length c, .func (.func 30) #[] #[]] w fun e w' => e = .returned (.bool r) ∧ Below w.heap.size w w' := by
  obtain rfl := Option.some.inj h
  exact contains_27 30 #[] _ A c l w (fun _ _ => by kernel_rfl) hC hc (fun x _ W _ => whole1_any x W)

/-! ### inputs -/
def badIn (l : List S38) (i : Int) : Bool := decide (i < 0) || decide (i ≥ l.length) || (rd_T38 l i).f0 == 8
theorem inputs1_any (b : Nat) (A : Option Addr) (c : Nat) (l : List S38) (i : Int) (w : World) (hb : w.cell? ⟨b, 0, none⟩ = some (.slice A l.length c)) (hC : Kd.C k38 w A l.length l) :
    Calls Try.prog 42 #[.int .i64 i, .pointer (some ⟨b, 0, none⟩)] w fun e w' => e = .returned (.bool (badIn l i)) ∧ Below w.heap.size w w' := by
  by_cases h0 : i < 0
  · go_enter Try.func42, Try.ntmps42
    go_wp2
    go_ret
    exact ⟨by simp [badIn, h0], Below.refl _ _⟩
  · by_cases h1 : i ≥ l.length
    · go_enter Try.func42, Try.ntmps42
      go_wp2
      go_ret
      exact ⟨by simp [badIn, h0, h1], Below.refl _ _⟩
    · obtain ⟨ad, A1, c1, A5, c5, e, hx0, _⟩ := at_T38 hC i (by omega) (by omega)
      cases e
      obtain ⟨j, rfl⟩ := Int.eq_ofNat_of_zero_le (show 0 ≤ i by omega)
      rw [Int.toNat_natCast] at hx0
      have hf : Aside0 (badIn l (j : Int) = ((rd_T38 l j).f0 == 8)) := ⟨by simp [badIn]; omega⟩
      go_enter Try.func42, Try.ntmps42
      go_wp2
      go_ret
      exact ⟨by rw [hf.out]; rfl, Below.refl _ _⟩
end Go.Proofs.Ytpbmfdbfimcpjaa.X
