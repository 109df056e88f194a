/- Contracts of slices.IndexFunc and slices.ContainsFunc at the element types of the job layer, at any function value whose calls are known. -/
import Derived.Test.YtpbmfdbfimcpjaaMJobHeavy5
import Derived.Lib.Hide
import Derived.WalkLawsBesides
import Derived.Laws.EntriesVeiled
import Derived.Test.YtpbmfdbfimcpjaaMJobHeavy2
namespace Go.Proofs.Ytpbmfdbfimcpjaa.X
open Go.RowKit Go.Proofs.YtpbmfdbfimcpjaaW.PrintWords Go.Proofs.YtpbmfdbfimcpjaaW.PrintLast
set_option linter.unusedVariables false
set_option linter.unusedSimpArgs false
def idxOf {α : Type} (p : α → Bool) (l : List α) : Int := match l.findIdx? p with | some i => i | none => -1
theorem idx_none {α : Type} {p : α → Bool} {l : List α} (h : ∀ j (hj : j < l.length), p l[j] = false) : idxOf p l = -1 := by
  unfold idxOf
  rw [List.findIdx?_eq_none_iff.2]
  intro x hx; obtain ⟨j, hj, rfl⟩ := List.getElem_of_mem hx; exact h j hj
theorem idx_some {α : Type} {p : α → Bool} {l : List α} {i : Nat} (hi : i < l.length) (h1 : p l[i] = true) (h : ∀ j (hj : j < i), p (l[j]'(by omega)) = false) : idxOf p l = i := by
  unfold idxOf
  rw [(List.findIdx?_eq_some_iff_getElem).2 ⟨hi, h1, fun j hj => by rw [h j hj]; simp⟩]
theorem idx_any {α : Type} (p : α → Bool) (l : List α) : decide (0 ≤ idxOf p l) = l.any p := by
  unfold idxOf
  cases h : l.findIdx? p with
  | none =>
    have := List.findIdx?_eq_none_iff.1 h
    have e : l.any p = false := by rw [List.any_eq_false]; intro x hx; rw [this x hx]; simp
    rw [e]; rfl
  | some i =>
    obtain ⟨hi, h1, _⟩ := List.findIdx?_eq_some_iff_getElem.1 h
    have e : l.any p = true := List.any_eq_true.2 ⟨l[i], List.getElem_mem hi, h1⟩
    rw [e]; simp
def Pred {α : Type} (vals : α → Value) (g : Nat) (cap : Array Value) (p : α → Bool) (l : List α) (w : World) : Prop :=
  ∀ (x : α), x ∈ l → ∀ W, Below w.heap.size w W → Calls Try.prog g (#[vals x] ++ cap) W fun e W' => e = .returned (.bool (p x)) ∧ Below W.heap.size W W'
def PredK {α : Type} (K : World → α → List Value → Prop) (g : Nat) (cap : Array Value) (p : α → Bool) (l : List α) (w : World) : Prop :=
  ∀ (x : α), x ∈ l → ∀ cs, K w x cs → ∀ W, Below w.heap.size w W → Calls Try.prog g (#[.agg cs.toArray] ++ cap) W fun e W' => e = .returned (.bool (p x)) ∧ Below W.heap.size W W'
set_option maxHeartbeats 2000000 in
theorem idx_32 (g : Nat) (cap : Array Value) (p : Int → Bool) (A : Option Addr) (c : Nat) (l : List Int) (w : World)
    (eg : ∀ args w, (callFunc g args).run Try.prog w = .ok (.enter g args) w)
    (hC : Kd.C (Kd.int .i64) w A l.length l) (hl : l.length ≤ c)
    (hp : Pred (fun x : Int => .int .i64 x) g cap p l w) :
    Calls Try.prog 32 #[.slice A l.length c, .func (.func g) #[] cap] w fun e w' => e = .returned (.int .i64 (idxOf p l)) ∧ Below w.heap.size w w' := by
  have hn : l.length ≤ 9223372036854775807 := hC.2.1
  have HC := Aside0.mk hC
  have HP := Aside0.mk hp
  clear hC hp
  go_enter Try.func32, Try.ntmps32
  go_wp2
  go_loopg [5, 8] l.length (fun k v5 v8 wr => ∃ i : Nat, v8 = .int .i64 i ∧ i ≤ l.length ∧ Aside0 (k + i = l.length) ∧ Aside0 (∀ j (hj : j < l.length), j < i → p l[j] = false) ∧ Aside0 (Below w.heap.size w wr))
  case atStart => exact ⟨0, rfl, by omega, ⟨by omega⟩, ⟨fun j hj h => absurd h (by omega)⟩, ⟨Below.refl _ _⟩⟩
  case round =>
    obtain ⟨i, rfl, hi, HK, HN, HB⟩ := hrel
    by_cases hlt : i < l.length
    · have _t := hlt
      obtain ⟨ad, e, hx0⟩ := Kd.at_int HC.out (i : Int) (by omega) (by omega)
      cases e
      have er : rd l (i : Int) = l[i] := by simp [rd, hlt]
      obtain ⟨x, HX⟩ : ∃ x, Aside0 (x = l[i]) := ⟨_, ⟨rfl⟩⟩
      rw [← HX.out] at er
      simp only [er, Int.toNat_natCast] at hx0
      clear er
      replace hx0 := (HB.out.cell (World.block_lt_of_cell? w _ hx0)).trans hx0
      obtain ⟨b, HBB⟩ : ∃ b, Aside0 (b = p x) := ⟨_, ⟨rfl⟩⟩
      go_wp2_with fail
      have hcall := HP.out x (by rw [HX.out]; exact List.getElem_mem _) wr HB.out
      rw [← HBB.out] at hcall
      refine hcall.mono ?_
      clear hcall
      rintro e w1 ⟨rfl, hb⟩
      have n0_ := Aside0.mk (below_step HB.out hb)
      clear HB hb
      cases b with
      | true =>
        go_wp2
        go_ret
        exact ⟨by rw [idx_some hlt (by rw [← HX.out]; exact HBB.out.symm) (fun j hj => HN.out j (by omega) hj)]; rfl, n0_.out⟩
      | false =>
        go_wp2
        go_roundg (gk - 1)
        case measure => have := HK.out; omega
        case rel => exact ⟨i + 1, by go_num, by omega, ⟨by have := HK.out; omega⟩, ⟨fun j hj h => by
          rcases Nat.lt_or_ge j i with h1 | h1
          · exact HN.out j hj h1
          · obtain rfl : j = i := by omega
            rw [← HX.out]; exact HBB.out.symm⟩, n0_⟩
    · go_wp2_with fail
      go_ret
      exact ⟨by rw [idx_none (fun j hj => HN.out j hj (by omega))]; rfl, HB.out⟩
theorem contains_19 (g : Nat) (cap : Array Value) (p : Int → Bool) (A : Option Addr) (c : Nat) (l : List Int) (w : World)
    (eg : ∀ args w, (callFunc g args).run Try.prog w = .ok (.enter g args) w)
    (hC : Kd.C (Kd.int .i64) w A l.length l) (hl : l.length ≤ c)
    (hp : Pred (fun x : Int => .int .i64 x) g cap p l w) :
    Calls Try.prog 19 #[.slice A l.length c, .func (.func g) #[] cap] w fun e w' => e = .returned (.bool (l.any p)) ∧ Below w.heap.size w w' := by
  have hc := idx_32 g cap p A c l w eg hC hl hp
  have HI := Aside0.mk (idx_any p l)
  clear hC hp
  go_enter Try.func19, Try.ntmps19
  go_wp2_with (go_at_call 32; refine hc.mono ?_; rintro e w1 ⟨rfl, hb⟩)
  go_ret
  exact ⟨by rw [← HI.out]; rfl, hb⟩
set_option maxHeartbeats 2000000 in
theorem idx_33 (g : Nat) (cap : Array Value) (p : S38 → Bool) (A : Option Addr) (c : Nat) (l : List S38) (w : World)
    (eg : ∀ args w, (callFunc g args).run Try.prog w = .ok (.enter g args) w)
    (hC : Kd.C k38 w A l.length l) (hl : l.length ≤ c)
    (hp : PredK (fun w => k38.K w) g cap p l w) :
    Calls Try.prog 33 #[.slice A l.length c, .func (.func g) #[] cap] w fun e w' => e = .returned (.int .i64 (idxOf p l)) ∧ Below w.heap.size w w' := by
  have hn : l.length ≤ 9223372036854775807 := hC.2.1
  have HC := Aside0.mk hC
  have HP := Aside0.mk hp
  clear hC hp
  go_enter Try.func33, Try.ntmps33
  go_wp2
  go_loopg [5, 8] l.length (fun k v5 v8 wr => ∃ i : Nat, v8 = .int .i64 i ∧ i ≤ l.length ∧ Aside0 (k + i = l.length) ∧ Aside0 (∀ j (hj : j < l.length), j < i → p l[j] = false) ∧ Aside0 (Below w.heap.size w wr))
  case atStart => exact ⟨0, rfl, by omega, ⟨by omega⟩, ⟨fun j hj h => absurd h (by omega)⟩, ⟨Below.refl _ _⟩⟩
  case round =>
    obtain ⟨i, rfl, hi, HK, HN, HB⟩ := hrel
    by_cases hlt : i < l.length
    · have _t := hlt
      obtain ⟨ad, A1, c1, A5, c5, e, hx0, hx1, hx2, hx3, hx4, hx5, hx6, hx7, hx8, hx9, g0_, g1_, g2_, g3_⟩ := at_T38 HC.out (i : Int) (by omega) (by omega)
      cases e
      have er : rd_T38 l (i : Int) = l[i] := by simp [rd_T38, hlt]
      obtain ⟨x, HX⟩ : ∃ x, Aside0 (x = l[i]) := ⟨_, ⟨rfl⟩⟩
      rw [← HX.out] at er
      simp only [er, Int.toNat_natCast] at hx0 hx1 hx2 hx3 hx4 hx5 hx6 hx7 hx8 hx9 g0_ g1_ g2_ g3_
      clear er
      have HK_ := Aside0.mk (k38_mk w x g0_ g1_ g2_ g3_)
      clear g0_ g1_ g2_ g3_
      replace hx0 := (HB.out.cell (World.block_lt_of_cell? w _ hx0)).trans hx0
      replace hx1 := (HB.out.cell (World.block_lt_of_cell? w _ hx1)).trans hx1
      replace hx2 := (HB.out.cell (World.block_lt_of_cell? w _ hx2)).trans hx2
      replace hx3 := (HB.out.cell (World.block_lt_of_cell? w _ hx3)).trans hx3
      replace hx4 := (HB.out.cell (World.block_lt_of_cell? w _ hx4)).trans hx4
      replace hx5 := (HB.out.cell (World.block_lt_of_cell? w _ hx5)).trans hx5
      replace hx6 := (HB.out.cell (World.block_lt_of_cell? w _ hx6)).trans hx6
      replace hx7 := (HB.out.cell (World.block_lt_of_cell? w _ hx7)).trans hx7
      replace hx8 := (HB.out.cell (World.block_lt_of_cell? w _ hx8)).trans hx8
      replace hx9 := (HB.out.cell (World.block_lt_of_cell? w _ hx9)).trans hx9
      obtain ⟨b, HBB⟩ : ∃ b, Aside0 (b = p x) := ⟨_, ⟨rfl⟩⟩
      go_wp2_with fail
      have hcall := HP.out x (by rw [HX.out]; exact List.getElem_mem _) _ HK_.out wr HB.out
      rw [← HBB.out] at hcall
      refine hcall.mono ?_
      clear hcall
      rintro e w1 ⟨rfl, hb⟩
      have n0_ := Aside0.mk (below_step HB.out hb)
      clear HB hb
      cases b with
      | true =>
        go_wp2
        go_ret
        exact ⟨by rw [idx_some hlt (by rw [← HX.out]; exact HBB.out.symm) (fun j hj => HN.out j (by omega) hj)]; rfl, n0_.out⟩
      | false =>
        go_wp2
        go_roundg (gk - 1)
        case measure => have := HK.out; omega
        case rel => exact ⟨i + 1, by go_num, by omega, ⟨by have := HK.out; omega⟩, ⟨fun j hj h => by
          rcases Nat.lt_or_ge j i with h1 | h1
          · exact HN.out j hj h1
          · obtain rfl : j = i := by omega
            rw [← HX.out]; exact HBB.out.symm⟩, n0_⟩
    · go_wp2_with fail
      go_ret
      exact ⟨by rw [idx_none (fun j hj => HN.out j hj (by omega))]; rfl, HB.out⟩
theorem contains_22 (g : Nat) (cap : Array Value) (p : S38 → Bool) (A : Option Addr) (c : Nat) (l : List S38) (w : World)
    (eg : ∀ args w, (callFunc g args).run Try.prog w = .ok (.enter g args) w)
    (hC : Kd.C k38 w A l.length l) (hl : l.length ≤ c)
    (hp : PredK (fun w => k38.K w) g cap p l w) :
    Calls Try.prog 22 #[.slice A l.length c, .func (.func g) #[] cap] w fun e w' => e = .returned (.bool (l.any p)) ∧ Below w.heap.size w w' := by
  have hc := idx_33 g cap p A c l w eg hC hl hp
  have HI := Aside0.mk (idx_any p l)
  clear hC hp
  go_enter Try.func22, Try.ntmps22
  go_wp2_with (go_at_call 33; refine hc.mono ?_; rintro e w1 ⟨rfl, hb⟩)
  go_ret
  exact ⟨by rw [← HI.out]; rfl, hb⟩
set_option maxHeartbeats 2000000 in
theorem idx_35 (g : Nat) (cap : Array Value) (p : S47 → Bool) (A : Option Addr) (c : Nat) (l : List S47) (w : World)
    (eg : ∀ args w, (callFunc g args).run Try.prog w = .ok (.enter g args) w)
    (hC : Kd.C k47 w A l.length l) (hl : l.length ≤ c)
    (hp : Pred (fun x : S47 => .agg #[.int .i64 x.f0, .int .i64 x.f1.f0, .int .i64 x.f1.f1, .int .i64 x.f1.f2, .int .i64 x.f2]) g cap p l w) :
    Calls Try.prog 35 #[.slice A l.length c, .func (.func g) #[] cap] w fun e w' => e = .returned (.int .i64 (idxOf p l)) ∧ Below w.heap.size w w' := by
  have hn : l.length ≤ 9223372036854775807 := hC.2.1
  have HC := Aside0.mk hC
  have HP := Aside0.mk hp
  clear hC hp
  go_enter Try.func35, Try.ntmps35
  go_wp2
  go_loopg [5, 8] l.length (fun k v5 v8 wr => ∃ i : Nat, v8 = .int .i64 i ∧ i ≤ l.length ∧ Aside0 (k + i = l.length) ∧ Aside0 (∀ j (hj : j < l.length), j < i → p l[j] = false) ∧ Aside0 (Below w.heap.size w wr))
  case atStart => exact ⟨0, rfl, by omega, ⟨by omega⟩, ⟨fun j hj h => absurd h (by omega)⟩, ⟨Below.refl _ _⟩⟩
  case round =>
    obtain ⟨i, rfl, hi, HK, HN, HB⟩ := hrel
    by_cases hlt : i < l.length
    · have _t := hlt
      obtain ⟨ad, e, hx0, hx1, hx2, hx3, hx4⟩ := at_T47 HC.out (i : Int) (by omega) (by omega)
      cases e
      have er : rd_T47 l (i : Int) = l[i] := by simp [rd_T47, hlt]
      obtain ⟨x, HX⟩ : ∃ x, Aside0 (x = l[i]) := ⟨_, ⟨rfl⟩⟩
      rw [← HX.out] at er
      simp only [er, Int.toNat_natCast] at hx0 hx1 hx2 hx3 hx4
      clear er
      replace hx0 := (HB.out.cell (World.block_lt_of_cell? w _ hx0)).trans hx0
      replace hx1 := (HB.out.cell (World.block_lt_of_cell? w _ hx1)).trans hx1
      replace hx2 := (HB.out.cell (World.block_lt_of_cell? w _ hx2)).trans hx2
      replace hx3 := (HB.out.cell (World.block_lt_of_cell? w _ hx3)).trans hx3
      replace hx4 := (HB.out.cell (World.block_lt_of_cell? w _ hx4)).trans hx4
      obtain ⟨b, HBB⟩ : ∃ b, Aside0 (b = p x) := ⟨_, ⟨rfl⟩⟩
      go_wp2_with fail
      have hcall := HP.out x (by rw [HX.out]; exact List.getElem_mem _) wr HB.out
      rw [← HBB.out] at hcall
      refine hcall.mono ?_
      clear hcall
      rintro e w1 ⟨rfl, hb⟩
      have n0_ := Aside0.mk (below_step HB.out hb)
      clear HB hb
      cases b with
      | true =>
        go_wp2
        go_ret
        exact ⟨by rw [idx_some hlt (by rw [← HX.out]; exact HBB.out.symm) (fun j hj => HN.out j (by omega) hj)]; rfl, n0_.out⟩
      | false =>
        go_wp2
        go_roundg (gk - 1)
        case measure => have := HK.out; omega
        case rel => exact ⟨i + 1, by go_num, by omega, ⟨by have := HK.out; omega⟩, ⟨fun j hj h => by
          rcases Nat.lt_or_ge j i with h1 | h1
          · exact HN.out j hj h1
          · obtain rfl : j = i := by omega
            rw [← HX.out]; exact HBB.out.symm⟩, n0_⟩
    · go_wp2_with fail
      go_ret
      exact ⟨by rw [idx_none (fun j hj => HN.out j hj (by omega))]; rfl, HB.out⟩
theorem contains_27 (g : Nat) (cap : Array Value) (p : S47 → Bool) (A : Option Addr) (c : Nat) (l : List S47) (w : World)
    (eg : ∀ args w, (callFunc g args).run Try.prog w = .ok (.enter g args) w)
    (hC : Kd.C k47 w A l.length l) (hl : l.length ≤ c)
    (hp : Pred (fun x : S47 => .agg #[.int .i64 x.f0, .int .i64 x.f1.f0, .int .i64 x.f1.f1, .int .i64 x.f1.f2, .int .i64 x.f2]) g cap p l w) :
    Calls Try.prog 27 #[.slice A l.length c, .func (.func g) #[] cap] w fun e w' => e = .returned (.bool (l.any p)) ∧ Below w.heap.size w w' := by
  have hc := idx_35 g cap p A c l w eg hC hl hp
  have HI := Aside0.mk (idx_any p l)
  clear hC hp
  go_enter Try.func27, Try.ntmps27
  go_wp2_with (go_at_call 35; refine hc.mono ?_; rintro e w1 ⟨rfl, hb⟩)
  go_ret
  exact ⟨by rw [← HI.out]; rfl, hb⟩
end Go.Proofs.Ytpbmfdbfimcpjaa.X
namespace Go.Proofs.Ytpbmfdbfimcpjaa.X
open Go.RowKit Go.Proofs.YtpbmfdbfimcpjaaW.PrintWords Go.Proofs.YtpbmfdbfimcpjaaW.PrintLast
set_option linter.unusedVariables false
set_option linter.unusedSimpArgs false
theorem check1_any (x : Int) (w : World) : Calls Try.prog 21 #[.int .i64 x] w fun e w' => e = .returned (.bool (decide (x > 64))) ∧ w = w' := by
  go_enter Try.func21, Try.ntmps21
  go_wp2
  go_ret
  exact ⟨rfl, rfl⟩
def slices_ContainsFunc_int_int__job_Check_1.f (l : List Int) (_ : Unit) : Option Bool := some (l.any fun x => decide (x > 64))
theorem slices_ContainsFunc_int_int__job_Check_1.calls (A : Option Addr) (c : Nat) (l : List Int) (u : Unit) (r : Bool) (w : World) (hC : Kd.C (Kd.int .i64) w A l.length l) (hc : l.length ≤ c) (h : slices_ContainsFunc_int_int__job_Check_1.f l u = some r) :
    Calls Try.prog 19 #[.slice A l.length c, .func (.func 21) #[] #[]] w fun e w' => e = .returned (.bool r) ∧ Below w.heap.size w w' := by
  obtain rfl := Option.some.inj h
  exact contains_19 21 #[] _ A c l w (fun _ _ => by kernel_rfl) hC hc (fun x _ W _ => (check1_any x W).mono fun e w' ⟨h1, h2⟩ => ⟨h1, h2 ▸ Below.refl _ _⟩)
theorem check2_any (x : S38) (cs : List Value) (w : World) (v : World) (hK : k38.K v x cs) : Calls Try.prog 23 #[.agg cs.toArray] w fun e w' => e = .returned (.bool (x.f0 == 8)) ∧ Below w.heap.size w w' := by
  obtain ⟨A1, c1, A5, c5, rfl, _⟩ := k38_open hK
  go_enter Try.func23, Try.ntmps23
  go_wp2
  go_ret
  exact ⟨rfl, (Below.refl _ _).alloc (Nat.le_refl _) _⟩
def api_Node__job_Check_2.f (l : List S38) (_ : Unit) : Option Bool := some (l.any fun x => x.f0 == 8)
theorem api_Node__job_Check_2.calls (A : Option Addr) (c : Nat) (l : List S38) (u : Unit) (r : Bool) (w : World) (hC : Kd.C k38 w A l.length l) (hc : l.length ≤ c) (h : api_Node__job_Check_2.f l u = some r) :
    Calls Try.prog 22 #[.slice A l.length c, .func (.func 23) #[] #[]] w fun e w' => e = .returned (.bool r) ∧ Below w.heap.size w w' := by
  obtain rfl := Option.some.inj h
  exact contains_22 23 #[] _ A c l w (fun _ _ => by kernel_rfl) hC hc (fun x _ cs hK W _ => check2_any x cs W w hK)
def itemOk (x : S47) : Bool := (job_item.f x.f0 x.f1.f0 x.f1.f1 x.f1.f2 x.f2).getD false
theorem item_some (x : S47) : job_item.f x.f0 x.f1.f0 x.f1.f1 x.f1.f2 x.f2 = some (itemOk x) := by
  have h : ∃ b, job_item.f x.f0 x.f1.f0 x.f1.f1 x.f1.f2 x.f2 = some b := by
    unfold job_item.f
    repeat' (first | exact ⟨_, rfl⟩ | split)
  obtain ⟨b, hb⟩ := h
  rw [itemOk, hb]; rfl
theorem logs1_any (x : S47) (w : World) : Calls Try.prog 28 #[.agg #[.int .i64 x.f0, .int .i64 x.f1.f0, .int .i64 x.f1.f1, .int .i64 x.f1.f2, .int .i64 x.f2]] w fun e w' => e = .returned (.bool (!itemOk x)) ∧ Below w.heap.size w w' := by
  have hi := fun w => job_item.calls x.f0 x.f1.f0 x.f1.f1 x.f1.f2 x.f2 (itemOk x) w (item_some x)
  go_enter Try.func28, Try.ntmps28
  go_wp2_with (go_at_call 29; refine (hi _).mono ?_; rintro e w1 ⟨rfl, hb⟩)
  go_ret
  exact ⟨rfl, below_step ((Below.refl _ _).alloc (Nat.le_refl _) _) hb⟩
def api_Item__job_Logs_1.f (l : List S47) (_ : Unit) : Option Bool := some (l.any fun x => !itemOk x)
theorem api_Item__job_Logs_1.calls (A : Option Addr) (c : Nat) (l : List S47) (u : Unit) (r : Bool) (w : World) (hC : Kd.C k47 w A l.length l) (hc : l.length ≤ c) (h : api_Item__job_Logs_1.f l u = some r) :
    Calls Try.prog 27 #[.slice A l.length c, .func (.func 28) #[] #[]] w fun e w' => e = .returned (.bool r) ∧ Below w.heap.size w w' := by
  obtain rfl := Option.some.inj h
  exact contains_27 28 #[] _ A c l w (fun _ _ => by kernel_rfl) hC hc (fun x _ W _ => logs1_any x W)
theorem whole1_any (x : S47) (w : World) : Calls Try.prog 30 #[.agg #[.int .i64 x.f0, .int .i64 x.f1.f0, .int .i64 x.f1.f1, .int .i64 x.f1.f2, .int .i64 x.f2]] w fun e w' => e = .returned (.bool (x.f0 == 2 && x.f2 == 9223372036854775807)) ∧ Below w.heap.size w w' := by
  by_cases h : x.f0 = 2
  all_goals
    go_enter Try.func30, Try.ntmps30
    go_wp2
    go_ret
    exact ⟨by simp [h], (Below.refl _ _).alloc (Nat.le_refl _) _⟩
def api_Item__job_Whole_1.f (l : List S47) (_ : Unit) : Option Bool := some (l.any fun x => x.f0 == 2 && x.f2 == 9223372036854775807)
theorem api_Item__job_Whole_1.calls (A : Option Addr) (c : Nat) (l : List S47) (u : Unit) (r : Bool) (w : World) (hC : Kd.C k47 w A l.length l) (hc : l.length ≤ c) (h : api_Item__job_Whole_1.f l u = some r) :
    Calls Try.prog 27 #[.slice A l.length c, .func (.func 30) #[] #[]] w fun e w' => e = .returned (.bool r) ∧ Below w.heap.size w w' := by
  obtain rfl := Option.some.inj h
  exact contains_27 30 #[] _ A c l w (fun _ _ => by kernel_rfl) hC hc (fun x _ W _ => whole1_any x W)
def badIn (l : List S38) (i : Int) : Bool := decide (i < 0) || decide (i ≥ l.length) || (rd_T38 l i).f0 == 8
theorem inputs1_any (b : Nat) (A : Option Addr) (c : Nat) (l : List S38) (i : Int) (w : World) (hb : w.cell? ⟨b, 0, none⟩ = some (.slice A l.length c)) (hC : Kd.C k38 w A l.length l) :
    Calls Try.prog 42 #[.int .i64 i, .pointer (some ⟨b, 0, none⟩)] w fun e w' => e = .returned (.bool (badIn l i)) ∧ Below w.heap.size w w' := by
  by_cases h0 : i < 0
  · go_enter Try.func42, Try.ntmps42
    go_wp2
    go_ret
    exact ⟨by simp [badIn, h0], Below.refl _ _⟩
  · by_cases h1 : i ≥ l.length
    · go_enter Try.func42, Try.ntmps42
      go_wp2
      go_ret
      exact ⟨by simp [badIn, h0, h1], Below.refl _ _⟩
    · obtain ⟨ad, A1, c1, A5, c5, e, hx0, _⟩ := at_T38 hC i (by omega) (by omega)
      cases e
      obtain ⟨j, rfl⟩ := Int.eq_ofNat_of_zero_le (show 0 ≤ i by omega)
      rw [Int.toNat_natCast] at hx0
      have hf : Aside0 (badIn l (j : Int) = ((rd_T38 l j).f0 == 8)) := ⟨by simp [badIn]; omega⟩
      go_enter Try.func42, Try.ntmps42
      go_wp2
      go_ret
      exact ⟨by rw [hf.out]; rfl, Below.refl _ _⟩
end Go.Proofs.Ytpbmfdbfimcpjaa.X
namespace Go.Proofs.Ytpbmfdbfimcpjaa.X
open Go.RowKit Go.Proofs.YtpbmfdbfimcpjaaW.PrintWords Go.Proofs.YtpbmfdbfimcpjaaW.PrintLast
set_option linter.unusedVariables false
set_option linter.unusedSimpArgs false
def lenOk (kind n : Int) : Bool := if kind = 1 then n == 0 else if kind = 5 then decide (1 ≤ n) && decide (n ≤ 4) else n == 1
def job_inputs.f (l0_0 : List S38) (a1_0 : Int) (l1_1 : List Int) (a1_2 a1_3 a1_4 : Int) (l1_5 : List S34) (a1_6 a1_7 a1_8 a1_9 : Int) : Option Bool :=
  some (lenOk a1_0 l1_1.length && !(l1_1.any (badIn l0_0)))
set_option maxHeartbeats 4000000 in
theorem job_inputs.calls (A0 : Option Addr) (c0 : Nat) (l0 : List S38) (a1_0 : Int) (A1 : Option Addr) (c1 : Nat) (l1 : List Int) (a1_2 a1_3 a1_4 : Int) (A5 : Option Addr) (c5 : Nat) (l5 : List S34) (a1_6 a1_7 a1_8 a1_9 : Int) (r : Bool) (w : World)
    (hr0 : Kd.C k38 w A0 l0.length l0) (hc0 : l0.length ≤ c0) (hr1 : Kd.C (Kd.int .i64) w A1 l1.length l1) (hc1 : l1.length ≤ c1) (hr5 : Kd.C k34 w A5 l5.length l5) (hc5 : l5.length ≤ c5)
    (h : job_inputs.f l0 a1_0 l1 a1_2 a1_3 a1_4 l5 a1_6 a1_7 a1_8 a1_9 = some r) :
    Calls Try.prog 36 #[.agg #[.slice A0 l0.length c0], .agg #[.int .i64 a1_0, .slice A1 l1.length c1, .int .i64 a1_2, .int .i64 a1_3, .int .i64 a1_4, .slice A5 l5.length c5, .int .i64 a1_6, .int .i64 a1_7, .int .i64 a1_8, .int .i64 a1_9]] w fun e w' => e = .returned (.bool r) ∧ Below w.heap.size w w' := by
  obtain rfl := Option.some.inj h
  clear h
  have hcall : ∀ (W : World), Below w.heap.size w W → W.cell? ⟨w.heap.size, 0, none⟩ = some (.slice A0 l0.length c0) → w.heap.size < W.heap.size →
      Calls Try.prog 19 #[.slice A1 l1.length c1, .func (.func 42) #[] #[.pointer (some ⟨w.heap.size, 0, none⟩)]] W fun e w' => e = .returned (.bool (l1.any (badIn l0))) ∧ Below W.heap.size W w' := by
    intro W hb hc hlt
    refine contains_19 42 #[.pointer (some ⟨w.heap.size, 0, none⟩)] (badIn l0) A1 c1 l1 W (fun _ _ => by kernel_rfl) (Kd.C_below hr1 hb) hc1 ?_
    intro x _ W2 hb2
    exact inputs1_any w.heap.size A0 c0 l0 x W2 ((hb2.cell (p := ⟨w.heap.size, 0, none⟩) hlt).trans hc) (Kd.C_below (Kd.C_below hr0 hb) hb2)
  have HC := Aside0.mk hcall
  clear hcall
  have fin : ∀ (b : Bool), lenOk a1_0 l1.length = b → Aside0 (lenOk a1_0 l1.length = b) := fun b h => ⟨h⟩
  have hno : Aside0 (lenOk a1_0 l1.length = false → (lenOk a1_0 l1.length && !(l1.any (badIn l0))) = false) := ⟨fun h => by rw [h]; rfl⟩
  have hyes : Aside0 (lenOk a1_0 l1.length = true → (lenOk a1_0 l1.length && !(l1.any (badIn l0))) = !(l1.any (badIn l0))) := ⟨fun h => by rw [h]; rfl⟩
  by_cases k1 : a1_0 = 1
  · subst k1
    by_cases n0 : (l1.length : Int) > 0
    · skip
      have HL := fin false (by unfold lenOk; rw [if_pos rfl, beq_eq_false_iff_ne]; omega)
      clear fin
      go_enter Try.func36, Try.ntmps36
      go_wp2_with fail
      go_ret
      exact ⟨by rw [hno.out HL.out]; rfl, ((Below.refl _ _).alloc (Nat.le_refl _) _).alloc (by simp) _⟩
    · skip
      have HL := fin true (by unfold lenOk; rw [if_pos rfl, beq_iff_eq]; omega)
      clear fin
      go_enter Try.func36, Try.ntmps36
      go_wp2_with fail
      refine (HC.out _ (((Below.refl _ _).alloc (Nat.le_refl _) _).alloc (by simp) _) (by simp) (by simp; omega)).mono ?_
      rintro e w1 ⟨rfl, hb⟩
      go_wp2_with fail
      go_ret
      exact ⟨by rw [hyes.out HL.out]; rfl, below_step (((Below.refl _ _).alloc (Nat.le_refl _) _).alloc (by simp) _) hb⟩
  have k1b : (a1_0 == 1) = false := by simpa using k1
  by_cases k5 : a1_0 = 5
  · subst k5
    by_cases n0 : (l1.length : Int) < 1
    · skip
      have HL := fin false (by unfold lenOk; rw [if_neg (by decide), if_pos rfl, Bool.and_eq_false_iff]; left; exact decide_eq_false (by omega))
      clear fin
      go_enter Try.func36, Try.ntmps36
      go_wp2_with fail
      go_ret
      exact ⟨by rw [hno.out HL.out]; rfl, ((Below.refl _ _).alloc (Nat.le_refl _) _).alloc (by simp) _⟩
    by_cases n1 : (l1.length : Int) > 4
    · skip
      have HL := fin false (by unfold lenOk; rw [if_neg (by decide), if_pos rfl, Bool.and_eq_false_iff]; right; exact decide_eq_false (by omega))
      clear fin
      go_enter Try.func36, Try.ntmps36
      go_wp2_with fail
      go_ret
      exact ⟨by rw [hno.out HL.out]; rfl, ((Below.refl _ _).alloc (Nat.le_refl _) _).alloc (by simp) _⟩
    have HL := fin true (by unfold lenOk; rw [if_neg (by decide), if_pos rfl, Bool.and_eq_true, decide_eq_true_eq, decide_eq_true_eq]; omega)
    clear fin
    go_enter Try.func36, Try.ntmps36
    go_wp2_with fail
    refine (HC.out _ (((Below.refl _ _).alloc (Nat.le_refl _) _).alloc (by simp) _) (by simp) (by simp; omega)).mono ?_
    rintro e w1 ⟨rfl, hb⟩
    go_wp2_with fail
    go_ret
    exact ⟨by rw [hyes.out HL.out]; rfl, below_step (((Below.refl _ _).alloc (Nat.le_refl _) _).alloc (by simp) _) hb⟩
  have k5b : (a1_0 == 5) = false := by simpa using k5
  by_cases n0 : (l1.length : Int) < 1
  · skip
    have HL := fin false (by unfold lenOk; rw [if_neg k1, if_neg k5, beq_eq_false_iff_ne]; omega)
    clear fin
    go_enter Try.func36, Try.ntmps36
    go_wp2_with fail
    go_ret
    exact ⟨by rw [hno.out HL.out]; rfl, ((Below.refl _ _).alloc (Nat.le_refl _) _).alloc (by simp) _⟩
  by_cases n1 : (l1.length : Int) > 1
  · skip
    have HL := fin false (by unfold lenOk; rw [if_neg k1, if_neg k5, beq_eq_false_iff_ne]; omega)
    clear fin
    go_enter Try.func36, Try.ntmps36
    go_wp2_with fail
    go_ret
    exact ⟨by rw [hno.out HL.out]; rfl, ((Below.refl _ _).alloc (Nat.le_refl _) _).alloc (by simp) _⟩
  have HL := fin true (by unfold lenOk; rw [if_neg k1, if_neg k5, beq_iff_eq]; omega)
  clear fin
  go_enter Try.func36, Try.ntmps36
  go_wp2_with fail
  refine (HC.out _ (((Below.refl _ _).alloc (Nat.le_refl _) _).alloc (by simp) _) (by simp) (by simp; omega)).mono ?_
  rintro e w1 ⟨rfl, hb⟩
  go_wp2_with fail
  go_ret
  exact ⟨by rw [hyes.out HL.out]; rfl, below_step (((Below.refl _ _).alloc (Nat.le_refl _) _).alloc (by simp) _) hb⟩
end Go.Proofs.Ytpbmfdbfimcpjaa.X
namespace Go.Proofs.Ytpbmfdbfimcpjaa.X
open Go.RowKit Go.Proofs.YtpbmfdbfimcpjaaW.PrintWords Go.Proofs.YtpbmfdbfimcpjaaW.PrintLast Go.Proofs.YtpbmfdbfimcpjaaW.PrintMore
attribute [local go_sem] max2_int min2_int max_two min_two max_three min_three max_four min_four   -- for this text's walks alone
set_option linter.unusedVariables false
set_option linter.unusedSimpArgs false
attribute [local go_sem high] eqA36
mutual
def job_node.j0 : Nat → Bool → Bool → List (S38) → Int → List Int → Int → Int → Int → List (S34) → Int → Int → Int → Int → Option (Int)
 | 0, _, _, _, _, _, _, _, _, _, _, _, _, _ => none
 | k + 1, x5, x6, x122000, x123000, x123001, x123002, x123003, x123004, x123005, x123006, x123007, x123008, x123009 => if x123000 < 1 then (job_node.j1 k x5 x6 true x122000 x123000 x123001 x123002 x123003 x123004 x123005 x123006 x123007 x123008 x123009) else (job_node.j1 k x5 x6 (decide (x123000 > 8)) x122000 x123000 x123001 x123002 x123003 x123004 x123005 x123006 x123007 x123008 x123009)
def job_node.j1 : Nat → Bool → Bool → Bool → List (S38) → Int → List Int → Int → Int → Int → List (S34) → Int → Int → Int → Int → Option (Int)
 | 0, _, _, _, _, _, _, _, _, _, _, _, _, _, _ => none
 | k + 1, x5, x6, x28, x122000, x123000, x123001, x123002, x123003, x123004, x123005, x123006, x123007, x123008, x123009 => if x28 = true then (some 81) else ((job_inputs.f x122000 x123000 x123001 x123002 x123003 x123004 x123005 x123006 x123007 x123008 x123009).bind fun t123 => (if t123 = true then (if x123002 < 1 then (job_node.j2 k x5 x6 true x123000 x123001 x123002 x123003 x123004 x123005 x123006 x123007 x123008 x123009) else (job_node.j2 k x5 x6 (decide (x123002 > 4)) x123000 x123001 x123002 x123003 x123004 x123005 x123006 x123007 x123008 x123009)) else (some 82)))
def job_node.j2 : Nat → Bool → Bool → Bool → Int → List Int → Int → Int → Int → List (S34) → Int → Int → Int → Int → Option (Int)
 | 0, _, _, _, _, _, _, _, _, _, _, _, _, _ => none
 | k + 1, x5, x6, x42, x123000, x123001, x123002, x123003, x123004, x123005, x123006, x123007, x123008, x123009 => if x42 = true then (some 84) else (if x5 = true then (none) else ((job_zero.f x123003 x123004 x123005).bind fun t124 => (if t124 = true then (if x6 = true then (if x123006 < 1 then (job_node.j3 k true x123000 x123001 x123002 x123003 x123004 x123005 x123006 x123007 x123008 x123009) else (if x123006 > 5 then (job_node.j3 k true x123000 x123001 x123002 x123003 x123004 x123005 x123006 x123007 x123008 x123009) else (job_node.j3 k false x123000 x123001 x123002 x123003 x123004 x123005 x123006 x123007 x123008 x123009))) else (job_node.j3 k (x123006 != 0) x123000 x123001 x123002 x123003 x123004 x123005 x123006 x123007 x123008 x123009)) else (some 85))))
def job_node.j3 : Nat → Bool → Int → List Int → Int → Int → Int → List (S34) → Int → Int → Int → Int → Option (Int)
 | 0, _, _, _, _, _, _, _, _, _, _, _ => none
 | k + 1, x69, x123000, x123001, x123002, x123003, x123004, x123005, x123006, x123007, x123008, x123009 => if x69 = true then (some 86) else (if x123000 = 7 then ((job_win.f k x123007 x123008 x123009).bind fun t125 => (if t125 = true then (some 0) else (some 87))) else (if (!(x123007 == 0) || (!(x123008 == 0) || (!(x123009 == 0)))) = true then (some 87) else (some 0)))
end
def job_node.f (k : Nat) (l0_0 : List (S38)) (a1_0 : Int) (l1_1 : List Int) (a1_2 : Int) (a1_3 : Int) (a1_4 : Int) (l1_5 : List (S34)) (a1_6 : Int) (a1_7 : Int) (a1_8 : Int) (a1_9 : Int) : Option (Int) := if a1_0 = 2 then (none) else (if a1_0 = 3 then (none) else (if a1_0 = 6 then (job_node.j0 k (a1_0 == 4) true l0_0 a1_0 l1_1 a1_2 a1_3 a1_4 l1_5 a1_6 a1_7 a1_8 a1_9) else (job_node.j0 k (a1_0 == 4) (a1_0 == 7) l0_0 a1_0 l1_1 a1_2 a1_3 a1_4 l1_5 a1_6 a1_7 a1_8 a1_9)))
theorem job_node.mono_l : ∀ k, (∀ y0 y1 y2 y3 y4 y5 y6 y7 y8 y9 y10 y11 y12, LeO (job_node.j0 k y0 y1 y2 y3 y4 y5 y6 y7 y8 y9 y10 y11 y12) (job_node.j0 (k + 1) y0 y1 y2 y3 y4 y5 y6 y7 y8 y9 y10 y11 y12)) ∧ (∀ y0 y1 y2 y3 y4 y5 y6 y7 y8 y9 y10 y11 y12 y13, LeO (job_node.j1 k y0 y1 y2 y3 y4 y5 y6 y7 y8 y9 y10 y11 y12 y13) (job_node.j1 (k + 1) y0 y1 y2 y3 y4 y5 y6 y7 y8 y9 y10 y11 y12 y13)) ∧ (∀ y0 y1 y2 y3 y4 y5 y6 y7 y8 y9 y10 y11 y12, LeO (job_node.j2 k y0 y1 y2 y3 y4 y5 y6 y7 y8 y9 y10 y11 y12) (job_node.j2 (k + 1) y0 y1 y2 y3 y4 y5 y6 y7 y8 y9 y10 y11 y12)) ∧ (∀ y0 y1 y2 y3 y4 y5 y6 y7 y8 y9 y10, LeO (job_node.j3 k y0 y1 y2 y3 y4 y5 y6 y7 y8 y9 y10) (job_node.j3 (k + 1) y0 y1 y2 y3 y4 y5 y6 y7 y8 y9 y10))
 | 0 => ⟨fun _ _ _ _ _ _ _ _ _ _ _ _ _ r h => by simp [job_node.j0] at h, fun _ _ _ _ _ _ _ _ _ _ _ _ _ _ r h => by simp [job_node.j1] at h, fun _ _ _ _ _ _ _ _ _ _ _ _ _ r h => by simp [job_node.j2] at h, fun _ _ _ _ _ _ _ _ _ _ _ r h => by simp [job_node.j3] at h⟩
 | k + 1 => by
  obtain ⟨ih0, ih1, ih2, ih3⟩ := job_node.mono_l k
  refine ⟨?_, ?_, ?_, ?_⟩
  ·intro y0 y1 y2 y3 y4 y5 y6 y7 y8 y9 y10 y11 y12
   unfold job_node.j0
   repeat' first
   | (with_reducible exact ih0 _ _ _ _ _ _ _ _ _ _ _ _ _)
   | (with_reducible exact ih1 _ _ _ _ _ _ _ _ _ _ _ _ _ _)
   | (with_reducible exact ih2 _ _ _ _ _ _ _ _ _ _ _ _ _)
   | (with_reducible exact ih3 _ _ _ _ _ _ _ _ _ _ _)
   | (with_reducible exact job_win.mono _ _ _ _)
   | (with_reducible exact LeO.refl _)
   | (with_reducible exact LeO.none _)
   | (with_reducible refine LeO.ite ?_ ?_)
   | (with_reducible refine LeO.bind ?_ (fun _ => ?_))
   | exact ih0 _ _ _ _ _ _ _ _ _ _ _ _ _
   | exact ih1 _ _ _ _ _ _ _ _ _ _ _ _ _ _
   | exact ih2 _ _ _ _ _ _ _ _ _ _ _ _ _
   | exact ih3 _ _ _ _ _ _ _ _ _ _ _
   | exact job_win.mono _ _ _ _
   | exact LeO.none _
   | refine LeO.ite ?_ ?_
   | refine LeO.bind ?_ (fun _ => ?_)
  ·intro y0 y1 y2 y3 y4 y5 y6 y7 y8 y9 y10 y11 y12 y13
   unfold job_node.j1
   repeat' first
   | (with_reducible exact ih0 _ _ _ _ _ _ _ _ _ _ _ _ _)
   | (with_reducible exact ih1 _ _ _ _ _ _ _ _ _ _ _ _ _ _)
   | (with_reducible exact ih2 _ _ _ _ _ _ _ _ _ _ _ _ _)
   | (with_reducible exact ih3 _ _ _ _ _ _ _ _ _ _ _)
   | (with_reducible exact job_win.mono _ _ _ _)
   | (with_reducible exact LeO.refl _)
   | (with_reducible exact LeO.none _)
   | (with_reducible refine LeO.ite ?_ ?_)
   | (with_reducible refine LeO.bind ?_ (fun _ => ?_))
   | exact ih0 _ _ _ _ _ _ _ _ _ _ _ _ _
   | exact ih1 _ _ _ _ _ _ _ _ _ _ _ _ _ _
   | exact ih2 _ _ _ _ _ _ _ _ _ _ _ _ _
   | exact ih3 _ _ _ _ _ _ _ _ _ _ _
   | exact job_win.mono _ _ _ _
   | exact LeO.none _
   | refine LeO.ite ?_ ?_
   | refine LeO.bind ?_ (fun _ => ?_)
  ·intro y0 y1 y2 y3 y4 y5 y6 y7 y8 y9 y10 y11 y12
   unfold job_node.j2
   repeat' first
   | (with_reducible exact ih0 _ _ _ _ _ _ _ _ _ _ _ _ _)
   | (with_reducible exact ih1 _ _ _ _ _ _ _ _ _ _ _ _ _ _)
   | (with_reducible exact ih2 _ _ _ _ _ _ _ _ _ _ _ _ _)
   | (with_reducible exact ih3 _ _ _ _ _ _ _ _ _ _ _)
   | (with_reducible exact job_win.mono _ _ _ _)
   | (with_reducible exact LeO.refl _)
   | (with_reducible exact LeO.none _)
   | (with_reducible refine LeO.ite ?_ ?_)
   | (with_reducible refine LeO.bind ?_ (fun _ => ?_))
   | exact ih0 _ _ _ _ _ _ _ _ _ _ _ _ _
   | exact ih1 _ _ _ _ _ _ _ _ _ _ _ _ _ _
   | exact ih2 _ _ _ _ _ _ _ _ _ _ _ _ _
   | exact ih3 _ _ _ _ _ _ _ _ _ _ _
   | exact job_win.mono _ _ _ _
   | exact LeO.none _
   | refine LeO.ite ?_ ?_
   | refine LeO.bind ?_ (fun _ => ?_)
  ·intro y0 y1 y2 y3 y4 y5 y6 y7 y8 y9 y10
   unfold job_node.j3
   repeat' first
   | (with_reducible exact ih0 _ _ _ _ _ _ _ _ _ _ _ _ _)
   | (with_reducible exact ih1 _ _ _ _ _ _ _ _ _ _ _ _ _ _)
   | (with_reducible exact ih2 _ _ _ _ _ _ _ _ _ _ _ _ _)
   | (with_reducible exact ih3 _ _ _ _ _ _ _ _ _ _ _)
   | (with_reducible exact job_win.mono _ _ _ _)
   | (with_reducible exact LeO.refl _)
   | (with_reducible exact LeO.none _)
   | (with_reducible refine LeO.ite ?_ ?_)
   | (with_reducible refine LeO.bind ?_ (fun _ => ?_))
   | exact ih0 _ _ _ _ _ _ _ _ _ _ _ _ _
   | exact ih1 _ _ _ _ _ _ _ _ _ _ _ _ _ _
   | exact ih2 _ _ _ _ _ _ _ _ _ _ _ _ _
   | exact ih3 _ _ _ _ _ _ _ _ _ _ _
   | exact job_win.mono _ _ _ _
   | exact LeO.none _
   | refine LeO.ite ?_ ?_
   | refine LeO.bind ?_ (fun _ => ?_)
theorem job_node.mono : ∀ a0 a1 a2 a3 a4 a5 a6 a7 a8 a9 a10 k, LeO (job_node.f k a0 a1 a2 a3 a4 a5 a6 a7 a8 a9 a10) (job_node.f (k + 1) a0 a1 a2 a3 a4 a5 a6 a7 a8 a9 a10) := by
 intro a0 a1 a2 a3 a4 a5 a6 a7 a8 a9 a10 k
 obtain ⟨ih0, ih1, ih2, ih3⟩ := job_node.mono_l k
 unfold job_node.f
 repeat' first
   | (with_reducible exact ih0 _ _ _ _ _ _ _ _ _ _ _ _ _)
   | (with_reducible exact ih1 _ _ _ _ _ _ _ _ _ _ _ _ _ _)
   | (with_reducible exact ih2 _ _ _ _ _ _ _ _ _ _ _ _ _)
   | (with_reducible exact ih3 _ _ _ _ _ _ _ _ _ _ _)
   | (with_reducible exact job_win.mono _ _ _ _)
   | (with_reducible exact LeO.refl _)
   | (with_reducible exact LeO.none _)
   | (with_reducible refine LeO.ite ?_ ?_)
   | (with_reducible refine LeO.bind ?_ (fun _ => ?_))
   | exact ih0 _ _ _ _ _ _ _ _ _ _ _ _ _
   | exact ih1 _ _ _ _ _ _ _ _ _ _ _ _ _ _
   | exact ih2 _ _ _ _ _ _ _ _ _ _ _ _ _
   | exact ih3 _ _ _ _ _ _ _ _ _ _ _
   | exact job_win.mono _ _ _ _
   | exact LeO.none _
   | refine LeO.ite ?_ ?_
   | refine LeO.bind ?_ (fun _ => ?_)
set_option maxHeartbeats 8000000 in
set_option maxRecDepth 100000 in
theorem job_node.calls (k : Nat) (A0_0 : Option Addr) (c0_0 : Nat) (l0_0 : List (S38)) (a1_0 : Int) (A1_1 : Option Addr) (c1_1 : Nat) (l1_1 : List Int) (a1_2 : Int) (a1_3 : Int) (a1_4 : Int) (A1_5 : Option Addr) (c1_5 : Nat) (l1_5 : List (S34)) (a1_6 : Int) (a1_7 : Int) (a1_8 : Int) (a1_9 : Int) (r : Int) (w : World) (hr0_0 : Kd.C k38 w A0_0 l0_0.length l0_0) (hc0_0 : l0_0.length ≤ c0_0) (hr1_1 : Kd.C (Kd.int .i64) w A1_1 l1_1.length l1_1) (hc1_1 : l1_1.length ≤ c1_1) (hr1_5 : Kd.C k34 w A1_5 l1_5.length l1_5) (hc1_5 : l1_5.length ≤ c1_5) (h : job_node.f k l0_0 a1_0 l1_1 a1_2 a1_3 a1_4 l1_5 a1_6 a1_7 a1_8 a1_9 = some r) :
  Calls Try.prog 31 #[.agg #[.slice A0_0 l0_0.length c0_0], .agg #[.int .i64 a1_0, .slice A1_1 l1_1.length c1_1, .int .i64 a1_2, .int .i64 a1_3, .int .i64 a1_4, .slice A1_5 l1_5.length c1_5, .int .i64 a1_6, .int .i64 a1_7, .int .i64 a1_8, .int .i64 a1_9]] w fun e w' => e = .returned (.int .i64 r) ∧ Below w.heap.size w w' := by
 have hu24 := Try.underlying24
 have hu38 := Try.underlying38
 have hu34 := Try.underlying34
 have hu36 := Try.underlying36
 have HR0_0 := Aside0.mk hr0_0
 have HC0_0 := Aside0.mk hc0_0
 clear hr0_0 hc0_0
 have HR1_1 := Aside0.mk hr1_1
 have HC1_1 := Aside0.mk hc1_1
 clear hr1_1 hc1_1
 have HR1_5 := Aside0.mk hr1_5
 have HC1_5 := Aside0.mk hc1_5
 clear hr1_5 hc1_5
 have HB := Aside0.mk (Below.refl w.heap.size w)
 have H : (if a1_0 = 2 then (none) else (if a1_0 = 3 then (none) else (if a1_0 = 6 then (job_node.j0 k (a1_0 == 4) true l0_0 a1_0 l1_1 a1_2 a1_3 a1_4 l1_5 a1_6 a1_7 a1_8 a1_9) else (job_node.j0 k (a1_0 == 4) (a1_0 == 7) l0_0 a1_0 l1_1 a1_2 a1_3 a1_4 l1_5 a1_6 a1_7 a1_8 a1_9)))) = some r := h
 clear h
 by_cases c3 : a1_0 = 2
 ·rw [if_pos c3] at H
  exact absurd H (by simp)
 ·rw [if_neg c3] at H
  have c3b0 : (a1_0 == 2) = false := beq_eq_false_iff_ne.mpr c3
  have c3b1 : (a1_0 != 2) = true := bne_iff_ne.mpr c3
  by_cases c4 : a1_0 = 3
  ·rw [if_pos c4] at H
   exact absurd H (by simp)
  ·rw [if_neg c4] at H
   have c4b0 : (a1_0 == 3) = false := beq_eq_false_iff_ne.mpr c4
   have c4b1 : (a1_0 != 3) = true := bne_iff_ne.mpr c4
   have HC5 := Aside0.mk H
   clear H
   go_enter Try.func31, Try.ntmps31
   go_upto_region 2 with (first | ((with_reducible refine gate_dst (N := 2) rfl ?_); refine box_event ?hg (N := 2) ?hd (cs := #[.slice A0_0 l0_0.length c0_0]) (t := 24) ?hr ?_; (case hd => rfl); (case hg => rfl); (case hr => first | (go_simp; done) | (go_simp; rfl)); intro gb121 hg w6 hbox hb; have n0_ := Aside0.mk (below_step (by repeat (first | (with_reducible first | exact HB.out | apply below_alloc | apply pw_below_drewN | apply below_drew1) | exact HB.out)) hb); have n1_ := Aside0.mk (hbox); have n2_ := Aside0.mk ((by rw [hg]; exact (below_size (by repeat (first | (with_reducible first | exact HB.out | apply below_alloc | apply pw_below_drewN | apply below_drew1) | exact HB.out))) : w.heap.size ≤ gb121)); have n3_ := Aside0.mk ((by rw [hg]; exact (below_size (by repeat (first | (with_reducible first | exact HB.out | apply below_alloc | apply pw_below_drewN | apply below_drew1) | exact HB.out))) : w.heap.size ≤ gb121)); clear HB; have HB := n0_; have BK121 := n1_; have GW121 := n2_; have GE121 := n3_; clear n0_ n1_ n2_ n3_; clear hb hbox hg) | ((with_reducible refine gate_dst (N := 3) rfl ?_); refine box_event ?hg (N := 3) ?hd (cs := #[.int .i64 a1_0, .slice A1_1 l1_1.length c1_1, .int .i64 a1_2, .int .i64 a1_3, .int .i64 a1_4, .slice A1_5 l1_5.length c1_5, .int .i64 a1_6, .int .i64 a1_7, .int .i64 a1_8, .int .i64 a1_9]) (t := 38) ?hr ?_; (case hd => rfl); (case hg => rfl); (case hr => first | (go_simp; done) | (go_simp; rfl)); intro gb122 hg w7 hbox hb; have n0_ := Aside0.mk (blk_below (g := gb121) (o := .cells #[.slice A0_0 l0_0.length c0_0] 24 (0, 0)) (by (with_reducible repeat (first | refine blk_drewN ?_ _ | refine blk_drew ?_ | refine blk_alloc ?_ _)); exact BK121.out) hb); have n1_ := Aside0.mk (below_step (by repeat (first | (with_reducible first | exact HB.out | apply below_alloc | apply pw_below_drewN | apply below_drew1 | refine below_set ?_ GE121.out) | exact HB.out)) hb); have n2_ := Aside0.mk (hbox); have n3_ := Aside0.mk ((by rw [hg]; exact (below_size (by repeat (first | (with_reducible first | exact HB.out | apply below_alloc | apply pw_below_drewN | apply below_drew1 | refine below_set ?_ GE121.out) | exact HB.out))) : w.heap.size ≤ gb122)); have n4_ := Aside0.mk ((by rw [hg]; exact (below_size (by repeat (first | (with_reducible first | exact HB.out | apply below_alloc | apply pw_below_drewN | apply below_drew1 | refine below_set ?_ GE121.out) | exact HB.out))) : w.heap.size ≤ gb122)); have n5_ := Aside0.mk ((by rw [hg]; exact Nat.ne_of_lt (blk_lt (g := gb121) (o := .cells #[.slice A0_0 l0_0.length c0_0] 24 (0, 0)) (by (with_reducible repeat (first | refine blk_drewN ?_ _ | refine blk_drew ?_ | refine blk_alloc ?_ _)); exact BK121.out)) : gb121 ≠ gb122)); have n6_ := Aside0.mk ((by rw [hg]; exact Nat.ne_of_gt (blk_lt (g := gb121) (o := .cells #[.slice A0_0 l0_0.length c0_0] 24 (0, 0)) (by (with_reducible repeat (first | refine blk_drewN ?_ _ | refine blk_drew ?_ | refine blk_alloc ?_ _)); exact BK121.out)) : gb122 ≠ gb121)); clear BK121; clear HB; have BK121 := n0_; have HB := n1_; have BK122 := n2_; have GW122 := n3_; have GE122 := n4_; have NB121_122 := n5_; have NB122_121 := n6_; clear n0_ n1_ n2_ n3_ n4_ n5_ n6_; clear hb hbox hg; have hnb8 := NB122_121.out; have hnc8 := NB121_122.out; have hcz9_0 : w7.cell? ⟨gb122, 0, none⟩ = some (.int .i64 a1_0) := (blk_cell BK122.out 0).trans rfl; have hcz9_1 : w7.cell? ⟨gb122, 1, none⟩ = some (.slice A1_1 l1_1.length c1_1) := (blk_cell BK122.out 1).trans rfl; have hcz9_2 : w7.cell? ⟨gb122, 2, none⟩ = some (.int .i64 a1_2) := (blk_cell BK122.out 2).trans rfl; have hcz9_3 : w7.cell? ⟨gb122, 3, none⟩ = some (.int .i64 a1_3) := (blk_cell BK122.out 3).trans rfl; have hcz9_4 : w7.cell? ⟨gb122, 4, none⟩ = some (.int .i64 a1_4) := (blk_cell BK122.out 4).trans rfl; have hcz9_5 : w7.cell? ⟨gb122, 5, none⟩ = some (.slice A1_5 l1_5.length c1_5) := (blk_cell BK122.out 5).trans rfl; have hcz9_6 : w7.cell? ⟨gb122, 6, none⟩ = some (.int .i64 a1_6) := (blk_cell BK122.out 6).trans rfl; have hcz9_7 : w7.cell? ⟨gb122, 7, none⟩ = some (.int .i64 a1_7) := (blk_cell BK122.out 7).trans rfl; have hcz9_8 : w7.cell? ⟨gb122, 8, none⟩ = some (.int .i64 a1_8) := (blk_cell BK122.out 8).trans rfl; have hcz9_9 : w7.cell? ⟨gb122, 9, none⟩ = some (.int .i64 a1_9) := (blk_cell BK122.out 9).trans rfl; have hfz9_0 := blk_frozen BK122.out 0; have hfz9_1 := blk_frozen BK122.out 1; have hfz9_2 := blk_frozen BK122.out 2; have hfz9_3 := blk_frozen BK122.out 3; have hfz9_4 := blk_frozen BK122.out 4; have hfz9_5 := blk_frozen BK122.out 5; have hfz9_6 := blk_frozen BK122.out 6; have hfz9_7 := blk_frozen BK122.out 7; have hfz9_8 := blk_frozen BK122.out 8; have hfz9_9 := blk_frozen BK122.out 9))
   (try simp only [Act.put, List.setIfInBounds_toArray, List.set_cons_zero, List.set_cons_succ])
   go_cut [6] (fun v6 wc => ∃ (kq : Nat) (x6_4 : Bool), v6 = .bool x6_4 ∧ Aside0 (job_node.j0 kq (a1_0 == 4) x6_4 l0_0 a1_0 l1_1 a1_2 a1_3 a1_4 l1_5 a1_6 a1_7 a1_8 a1_9 = some r) ∧ Aside0 (kq ≤ k) ∧ Aside0 (wc.heap[gb121]? = some (.cells #[(.slice A0_0 l0_0.length c0_0)] 24 (0, 0))) ∧ Aside0 (wc.heap[gb122]? = some (.cells #[.int .i64 a1_0, (.slice A1_1 l1_1.length c1_1), .int .i64 a1_2, .int .i64 a1_3, .int .i64 a1_4, (.slice A1_5 l1_5.length c1_5), .int .i64 a1_6, .int .i64 a1_7, .int .i64 a1_8, .int .i64 a1_9] 38 (0, 0))) ∧ Aside0 (Below w.heap.size w wc))
   case first =>
    have H := HC5.out
    clear HC5
    by_cases c10 : a1_0 = 6
    ·rw [if_pos c10] at H
     have c10b0 : (a1_0 == 6) = true := beq_iff_eq.mpr c10
     have c10b1 : (a1_0 != 6) = false := bne_eq_false_iff_eq.mpr c10
     clear c10
     (first | rw [c10b0] | (simp only [i64_w, i32_w]; rw [c10b0]) | skip)
     have H' := Aside0.mk H
     clear H
     have hnb11 := NB122_121.out
     have hnc11 := NB121_122.out
     have hcz12_0 : w7.cell? ⟨gb122, 0, none⟩ = some (.int .i64 a1_0) := (blk_cell BK122.out 0).trans rfl
     have hcz12_1 : w7.cell? ⟨gb122, 1, none⟩ = some (.slice A1_1 l1_1.length c1_1) := (blk_cell BK122.out 1).trans rfl
     have hcz12_2 : w7.cell? ⟨gb122, 2, none⟩ = some (.int .i64 a1_2) := (blk_cell BK122.out 2).trans rfl
     have hcz12_3 : w7.cell? ⟨gb122, 3, none⟩ = some (.int .i64 a1_3) := (blk_cell BK122.out 3).trans rfl
     have hcz12_4 : w7.cell? ⟨gb122, 4, none⟩ = some (.int .i64 a1_4) := (blk_cell BK122.out 4).trans rfl
     have hcz12_5 : w7.cell? ⟨gb122, 5, none⟩ = some (.slice A1_5 l1_5.length c1_5) := (blk_cell BK122.out 5).trans rfl
     have hcz12_6 : w7.cell? ⟨gb122, 6, none⟩ = some (.int .i64 a1_6) := (blk_cell BK122.out 6).trans rfl
     have hcz12_7 : w7.cell? ⟨gb122, 7, none⟩ = some (.int .i64 a1_7) := (blk_cell BK122.out 7).trans rfl
     have hcz12_8 : w7.cell? ⟨gb122, 8, none⟩ = some (.int .i64 a1_8) := (blk_cell BK122.out 8).trans rfl
     have hcz12_9 : w7.cell? ⟨gb122, 9, none⟩ = some (.int .i64 a1_9) := (blk_cell BK122.out 9).trans rfl
     have hfz12_0 := blk_frozen BK122.out 0
     have hfz12_1 := blk_frozen BK122.out 1
     have hfz12_2 := blk_frozen BK122.out 2
     have hfz12_3 := blk_frozen BK122.out 3
     have hfz12_4 := blk_frozen BK122.out 4
     have hfz12_5 := blk_frozen BK122.out 5
     have hfz12_6 := blk_frozen BK122.out 6
     have hfz12_7 := blk_frozen BK122.out 7
     have hfz12_8 := blk_frozen BK122.out 8
     have hfz12_9 := blk_frozen BK122.out 9
     go_wp2
     go_meet
     case rel => exact ⟨_, (true), (by first | rfl | (simp; done) | (simp [*]; done)), H', ⟨by first | omega | exact Nat.le_refl _⟩, ⟨by (with_reducible repeat (first | refine blk_drewN ?_ _ | refine blk_drew ?_ | refine blk_alloc ?_ _)); exact BK121.out⟩, ⟨by (with_reducible repeat (first | refine blk_drewN ?_ _ | refine blk_drew ?_ | refine blk_alloc ?_ _)); exact BK122.out⟩, ⟨by repeat (first | (with_reducible first | exact HB.out | apply below_alloc | apply pw_below_drewN | apply below_drew1 | refine below_set ?_ GE121.out | refine below_set ?_ GE122.out) | exact HB.out)⟩⟩
    ·rw [if_neg c10] at H
     have c10b0 : (a1_0 == 6) = false := beq_eq_false_iff_ne.mpr c10
     have c10b1 : (a1_0 != 6) = true := bne_iff_ne.mpr c10
     (first | rw [c10b0] | (simp only [i64_w, i32_w]; rw [c10b0]) | skip)
     have H' := Aside0.mk H
     clear H
     have hnb13 := NB122_121.out
     have hnc13 := NB121_122.out
     have hcz14_0 : w7.cell? ⟨gb122, 0, none⟩ = some (.int .i64 a1_0) := (blk_cell BK122.out 0).trans rfl
     have hcz14_1 : w7.cell? ⟨gb122, 1, none⟩ = some (.slice A1_1 l1_1.length c1_1) := (blk_cell BK122.out 1).trans rfl
     have hcz14_2 : w7.cell? ⟨gb122, 2, none⟩ = some (.int .i64 a1_2) := (blk_cell BK122.out 2).trans rfl
     have hcz14_3 : w7.cell? ⟨gb122, 3, none⟩ = some (.int .i64 a1_3) := (blk_cell BK122.out 3).trans rfl
     have hcz14_4 : w7.cell? ⟨gb122, 4, none⟩ = some (.int .i64 a1_4) := (blk_cell BK122.out 4).trans rfl
     have hcz14_5 : w7.cell? ⟨gb122, 5, none⟩ = some (.slice A1_5 l1_5.length c1_5) := (blk_cell BK122.out 5).trans rfl
     have hcz14_6 : w7.cell? ⟨gb122, 6, none⟩ = some (.int .i64 a1_6) := (blk_cell BK122.out 6).trans rfl
     have hcz14_7 : w7.cell? ⟨gb122, 7, none⟩ = some (.int .i64 a1_7) := (blk_cell BK122.out 7).trans rfl
     have hcz14_8 : w7.cell? ⟨gb122, 8, none⟩ = some (.int .i64 a1_8) := (blk_cell BK122.out 8).trans rfl
     have hcz14_9 : w7.cell? ⟨gb122, 9, none⟩ = some (.int .i64 a1_9) := (blk_cell BK122.out 9).trans rfl
     have hfz14_0 := blk_frozen BK122.out 0
     have hfz14_1 := blk_frozen BK122.out 1
     have hfz14_2 := blk_frozen BK122.out 2
     have hfz14_3 := blk_frozen BK122.out 3
     have hfz14_4 := blk_frozen BK122.out 4
     have hfz14_5 := blk_frozen BK122.out 5
     have hfz14_6 := blk_frozen BK122.out 6
     have hfz14_7 := blk_frozen BK122.out 7
     have hfz14_8 := blk_frozen BK122.out 8
     have hfz14_9 := blk_frozen BK122.out 9
     go_wp2
     go_meet
     case rel => exact ⟨_, ((a1_0 == 7)), (by first | rfl | (simp; done) | (simp [*]; done)), H', ⟨by first | omega | exact Nat.le_refl _⟩, ⟨by (with_reducible repeat (first | refine blk_drewN ?_ _ | refine blk_drew ?_ | refine blk_alloc ?_ _)); exact BK121.out⟩, ⟨by (with_reducible repeat (first | refine blk_drewN ?_ _ | refine blk_drew ?_ | refine blk_alloc ?_ _)); exact BK122.out⟩, ⟨by repeat (first | (with_reducible first | exact HB.out | apply below_alloc | apply pw_below_drewN | apply below_drew1 | refine below_set ?_ GE121.out | refine below_set ?_ GE122.out) | exact HB.out)⟩⟩
   case rest =>
    clear HC5
    try clear c1; try clear p2; try clear c3; try clear c3b0; try clear c3b1; try clear c4; try clear c4b0; try clear c4b1; try clear c8; try clear c10; try clear c10b0; try clear c10b1; try clear c11; try clear c13; try clear hcz12_0; try clear hcz12_1; try clear hcz12_2; try clear hcz12_3; try clear hcz12_4; try clear hcz12_5; try clear hcz12_6; try clear hcz12_7; try clear hcz12_8; try clear hcz12_9; try clear hcz14_0; try clear hcz14_1; try clear hcz14_2; try clear hcz14_3; try clear hcz14_4; try clear hcz14_5; try clear hcz14_6; try clear hcz14_7; try clear hcz14_8; try clear hcz14_9; try clear hcz9_0; try clear hcz9_1; try clear hcz9_2; try clear hcz9_3; try clear hcz9_4; try clear hcz9_5; try clear hcz9_6; try clear hcz9_7; try clear hcz9_8; try clear hcz9_9; try clear hfz12_0; try clear hfz12_1; try clear hfz12_2; try clear hfz12_3; try clear hfz12_4; try clear hfz12_5; try clear hfz12_6; try clear hfz12_7; try clear hfz12_8; try clear hfz12_9; try clear hfz14_0; try clear hfz14_1; try clear hfz14_2; try clear hfz14_3; try clear hfz14_4; try clear hfz14_5; try clear hfz14_6; try clear hfz14_7; try clear hfz14_8; try clear hfz14_9; try clear hfz9_0; try clear hfz9_1; try clear hfz9_2; try clear hfz9_3; try clear hfz9_4; try clear hfz9_5; try clear hfz9_6; try clear hfz9_7; try clear hfz9_8; try clear hfz9_9
    obtain ⟨kq, x6_4, rfl, HA, HJ4, BK121, BK122, HB⟩ := hcut
    cases kq with
    | zero => exact absurd HA.out (by simp [job_node.j0])
    | succ kj4 =>
     have H := HA.out
     clear HA
     simp only [job_node.j0] at H
     have HC15 := Aside0.mk H
     clear H
     go_upto_region 3 with (fail)
     go_cut [28] (fun v28 wc => ∃ (kq : Nat) (x28_14 : Bool), v28 = .bool x28_14 ∧ Aside0 (job_node.j1 kq (a1_0 == 4) x6_4 x28_14 l0_0 a1_0 l1_1 a1_2 a1_3 a1_4 l1_5 a1_6 a1_7 a1_8 a1_9 = some r) ∧ Aside0 (kq ≤ kj4) ∧ Aside0 (wc.heap[gb121]? = some (.cells #[(.slice A0_0 l0_0.length c0_0)] 24 (0, 0))) ∧ Aside0 (wc.heap[gb122]? = some (.cells #[.int .i64 a1_0, (.slice A1_1 l1_1.length c1_1), .int .i64 a1_2, .int .i64 a1_3, .int .i64 a1_4, (.slice A1_5 l1_5.length c1_5), .int .i64 a1_6, .int .i64 a1_7, .int .i64 a1_8, .int .i64 a1_9] 38 (0, 0))) ∧ Aside0 (Below w.heap.size w wc))
     case first =>
      have H := HC15.out
      clear HC15
      by_cases c16 : a1_0 < 1
      ·rw [if_pos c16] at H
       have c16b0 : decide (a1_0 < 1) = true := decide_eq_true c16
       clear c16
       (first | rw [c16b0] | (simp only [i64_w, i32_w]; rw [c16b0]) | skip)
       have H' := Aside0.mk H
       clear H
       have hnb17 := NB122_121.out
       have hnc17 := NB121_122.out
       have hcz18_0 : wc.cell? ⟨gb122, 0, none⟩ = some (.int .i64 a1_0) := (blk_cell BK122.out 0).trans rfl
       have hcz18_1 : wc.cell? ⟨gb122, 1, none⟩ = some (.slice A1_1 l1_1.length c1_1) := (blk_cell BK122.out 1).trans rfl
       have hcz18_2 : wc.cell? ⟨gb122, 2, none⟩ = some (.int .i64 a1_2) := (blk_cell BK122.out 2).trans rfl
       have hcz18_3 : wc.cell? ⟨gb122, 3, none⟩ = some (.int .i64 a1_3) := (blk_cell BK122.out 3).trans rfl
       have hcz18_4 : wc.cell? ⟨gb122, 4, none⟩ = some (.int .i64 a1_4) := (blk_cell BK122.out 4).trans rfl
       have hcz18_5 : wc.cell? ⟨gb122, 5, none⟩ = some (.slice A1_5 l1_5.length c1_5) := (blk_cell BK122.out 5).trans rfl
       have hcz18_6 : wc.cell? ⟨gb122, 6, none⟩ = some (.int .i64 a1_6) := (blk_cell BK122.out 6).trans rfl
       have hcz18_7 : wc.cell? ⟨gb122, 7, none⟩ = some (.int .i64 a1_7) := (blk_cell BK122.out 7).trans rfl
       have hcz18_8 : wc.cell? ⟨gb122, 8, none⟩ = some (.int .i64 a1_8) := (blk_cell BK122.out 8).trans rfl
       have hcz18_9 : wc.cell? ⟨gb122, 9, none⟩ = some (.int .i64 a1_9) := (blk_cell BK122.out 9).trans rfl
       have hfz18_0 := blk_frozen BK122.out 0
       have hfz18_1 := blk_frozen BK122.out 1
       have hfz18_2 := blk_frozen BK122.out 2
       have hfz18_3 := blk_frozen BK122.out 3
       have hfz18_4 := blk_frozen BK122.out 4
       have hfz18_5 := blk_frozen BK122.out 5
       have hfz18_6 := blk_frozen BK122.out 6
       have hfz18_7 := blk_frozen BK122.out 7
       have hfz18_8 := blk_frozen BK122.out 8
       have hfz18_9 := blk_frozen BK122.out 9
       go_wp2
       go_meet
       case rel => exact ⟨_, (true), (by first | rfl | (simp; done) | (simp [*]; done)), H', ⟨by have := HJ4.out; first | omega | exact Nat.le_refl _⟩, ⟨by (with_reducible repeat (first | refine blk_drewN ?_ _ | refine blk_drew ?_ | refine blk_alloc ?_ _)); exact BK121.out⟩, ⟨by (with_reducible repeat (first | refine blk_drewN ?_ _ | refine blk_drew ?_ | refine blk_alloc ?_ _)); exact BK122.out⟩, ⟨by repeat (first | (with_reducible first | exact HB.out | apply below_alloc | apply pw_below_drewN | apply below_drew1 | refine below_set ?_ GE121.out | refine below_set ?_ GE122.out) | exact HB.out)⟩⟩
      ·rw [if_neg c16] at H
       have c16b0 : decide (a1_0 < 1) = false := decide_eq_false c16
       clear c16
       (first | rw [c16b0] | (simp only [i64_w, i32_w]; rw [c16b0]) | skip)
       have H' := Aside0.mk H
       clear H
       have hnb19 := NB122_121.out
       have hnc19 := NB121_122.out
       have hcz20_0 : wc.cell? ⟨gb122, 0, none⟩ = some (.int .i64 a1_0) := (blk_cell BK122.out 0).trans rfl
       have hcz20_1 : wc.cell? ⟨gb122, 1, none⟩ = some (.slice A1_1 l1_1.length c1_1) := (blk_cell BK122.out 1).trans rfl
       have hcz20_2 : wc.cell? ⟨gb122, 2, none⟩ = some (.int .i64 a1_2) := (blk_cell BK122.out 2).trans rfl
       have hcz20_3 : wc.cell? ⟨gb122, 3, none⟩ = some (.int .i64 a1_3) := (blk_cell BK122.out 3).trans rfl
       have hcz20_4 : wc.cell? ⟨gb122, 4, none⟩ = some (.int .i64 a1_4) := (blk_cell BK122.out 4).trans rfl
       have hcz20_5 : wc.cell? ⟨gb122, 5, none⟩ = some (.slice A1_5 l1_5.length c1_5) := (blk_cell BK122.out 5).trans rfl
       have hcz20_6 : wc.cell? ⟨gb122, 6, none⟩ = some (.int .i64 a1_6) := (blk_cell BK122.out 6).trans rfl
       have hcz20_7 : wc.cell? ⟨gb122, 7, none⟩ = some (.int .i64 a1_7) := (blk_cell BK122.out 7).trans rfl
       have hcz20_8 : wc.cell? ⟨gb122, 8, none⟩ = some (.int .i64 a1_8) := (blk_cell BK122.out 8).trans rfl
       have hcz20_9 : wc.cell? ⟨gb122, 9, none⟩ = some (.int .i64 a1_9) := (blk_cell BK122.out 9).trans rfl
       have hfz20_0 := blk_frozen BK122.out 0
       have hfz20_1 := blk_frozen BK122.out 1
       have hfz20_2 := blk_frozen BK122.out 2
       have hfz20_3 := blk_frozen BK122.out 3
       have hfz20_4 := blk_frozen BK122.out 4
       have hfz20_5 := blk_frozen BK122.out 5
       have hfz20_6 := blk_frozen BK122.out 6
       have hfz20_7 := blk_frozen BK122.out 7
       have hfz20_8 := blk_frozen BK122.out 8
       have hfz20_9 := blk_frozen BK122.out 9
       go_wp2
       go_meet
       case rel => exact ⟨_, (decide (a1_0 > 8)), (by first | rfl | (simp; done) | (simp [*]; done)), H', ⟨by have := HJ4.out; first | omega | exact Nat.le_refl _⟩, ⟨by (with_reducible repeat (first | refine blk_drewN ?_ _ | refine blk_drew ?_ | refine blk_alloc ?_ _)); exact BK121.out⟩, ⟨by (with_reducible repeat (first | refine blk_drewN ?_ _ | refine blk_drew ?_ | refine blk_alloc ?_ _)); exact BK122.out⟩, ⟨by repeat (first | (with_reducible first | exact HB.out | apply below_alloc | apply pw_below_drewN | apply below_drew1 | refine below_set ?_ GE121.out | refine below_set ?_ GE122.out) | exact HB.out)⟩⟩
     case rest =>
      clear HC15
      try clear c1; try clear p2; try clear c3; try clear c3b0; try clear c3b1; try clear c4; try clear c4b0; try clear c4b1; try clear c8; try clear c10; try clear c10b0; try clear c10b1; try clear c11; try clear c13; try clear c16; try clear c16b0; try clear c17; try clear c19; try clear hcz12_0; try clear hcz12_1; try clear hcz12_2; try clear hcz12_3; try clear hcz12_4; try clear hcz12_5; try clear hcz12_6; try clear hcz12_7; try clear hcz12_8; try clear hcz12_9; try clear hcz14_0; try clear hcz14_1; try clear hcz14_2; try clear hcz14_3; try clear hcz14_4; try clear hcz14_5; try clear hcz14_6; try clear hcz14_7; try clear hcz14_8; try clear hcz14_9; try clear hcz18_0; try clear hcz18_1; try clear hcz18_2; try clear hcz18_3; try clear hcz18_4; try clear hcz18_5; try clear hcz18_6; try clear hcz18_7; try clear hcz18_8; try clear hcz18_9; try clear hcz20_0; try clear hcz20_1; try clear hcz20_2; try clear hcz20_3; try clear hcz20_4; try clear hcz20_5; try clear hcz20_6; try clear hcz20_7; try clear hcz20_8; try clear hcz20_9; try clear hcz9_0; try clear hcz9_1; try clear hcz9_2; try clear hcz9_3; try clear hcz9_4; try clear hcz9_5; try clear hcz9_6; try clear hcz9_7; try clear hcz9_8; try clear hcz9_9; try clear hfz12_0; try clear hfz12_1; try clear hfz12_2; try clear hfz12_3; try clear hfz12_4; try clear hfz12_5; try clear hfz12_6; try clear hfz12_7; try clear hfz12_8; try clear hfz12_9; try clear hfz14_0; try clear hfz14_1; try clear hfz14_2; try clear hfz14_3; try clear hfz14_4; try clear hfz14_5; try clear hfz14_6; try clear hfz14_7; try clear hfz14_8; try clear hfz14_9; try clear hfz18_0; try clear hfz18_1; try clear hfz18_2; try clear hfz18_3; try clear hfz18_4; try clear hfz18_5; try clear hfz18_6; try clear hfz18_7; try clear hfz18_8; try clear hfz18_9; try clear hfz20_0; try clear hfz20_1; try clear hfz20_2; try clear hfz20_3; try clear hfz20_4; try clear hfz20_5; try clear hfz20_6; try clear hfz20_7; try clear hfz20_8; try clear hfz20_9; try clear hfz9_0; try clear hfz9_1; try clear hfz9_2; try clear hfz9_3; try clear hfz9_4; try clear hfz9_5; try clear hfz9_6; try clear hfz9_7; try clear hfz9_8; try clear hfz9_9; try clear p2
      obtain ⟨kq, x28_14, rfl, HA, HJ14, BK121, BK122, HB⟩ := hcut
      cases kq with
      | zero => exact absurd HA.out (by simp [job_node.j1])
      | succ kj14 =>
       have H := HA.out
       clear HA
       simp only [job_node.j1] at H
       by_cases c21 : x28_14 = true
       ·subst c21
        have H1 : (some 81) = some r := by rw [if_pos rfl] at H; exact H
        clear H
        have H := H1
        clear H1
        obtain rfl := Option.some.inj H
        go_wp2
        go_ret
        exact ⟨by first | rfl | (simp [errW_none, errW_some] <;> rfl) | (simp [*, errW_none, errW_some] <;> rfl), by repeat (first | (with_reducible first | exact HB.out | apply below_alloc | apply pw_below_drewN | apply below_drew1 | refine below_set ?_ GE121.out | refine below_set ?_ GE122.out) | exact HB.out)⟩
       ·replace c21 := Bool.eq_false_iff.mpr c21
        subst c21
        have H1 : ((job_inputs.f l0_0 a1_0 l1_1 a1_2 a1_3 a1_4 l1_5 a1_6 a1_7 a1_8 a1_9).bind fun t123 => (if t123 = true then (if a1_2 < 1 then (job_node.j2 kj14 (a1_0 == 4) x6_4 true a1_0 l1_1 a1_2 a1_3 a1_4 l1_5 a1_6 a1_7 a1_8 a1_9) else (job_node.j2 kj14 (a1_0 == 4) x6_4 (decide (a1_2 > 4)) a1_0 l1_1 a1_2 a1_3 a1_4 l1_5 a1_6 a1_7 a1_8 a1_9)) else (some 82))) = some r := by rw [if_neg (show ¬ (false = true) by decide)] at H; exact H
        clear H
        have H := H1
        clear H1
        replace H := Option.bind_eq_some_iff.mp H
        obtain ⟨t123, A220, H⟩ := H
        replace H : (if t123 = true then (if a1_2 < 1 then (job_node.j2 kj14 (a1_0 == 4) x6_4 true a1_0 l1_1 a1_2 a1_3 a1_4 l1_5 a1_6 a1_7 a1_8 a1_9) else (job_node.j2 kj14 (a1_0 == 4) x6_4 (decide (a1_2 > 4)) a1_0 l1_1 a1_2 a1_3 a1_4 l1_5 a1_6 a1_7 a1_8 a1_9)) else (some 82)) = some r := H
        have A22 := Aside0.mk A220
        clear A220
        by_cases c23 : t123 = true
        ·subst c23
         have H1 : (if a1_2 < 1 then (job_node.j2 kj14 (a1_0 == 4) x6_4 true a1_0 l1_1 a1_2 a1_3 a1_4 l1_5 a1_6 a1_7 a1_8 a1_9) else (job_node.j2 kj14 (a1_0 == 4) x6_4 (decide (a1_2 > 4)) a1_0 l1_1 a1_2 a1_3 a1_4 l1_5 a1_6 a1_7 a1_8 a1_9)) = some r := by rw [if_pos rfl] at H; exact H
         clear H
         have H := H1
         clear H1
         have HC24 := Aside0.mk H
         clear H
         have hnb25 := NB121_122.out
         have hnc25 := NB122_121.out
         have hcz26_0 : wc.cell? ⟨gb121, 0, none⟩ = some (.slice A0_0 l0_0.length c0_0) := (blk_cell BK121.out 0).trans rfl
         have hfz26_0 := blk_frozen BK121.out 0
         have hcz27_0 : wc.cell? ⟨gb122, 0, none⟩ = some (.int .i64 a1_0) := (blk_cell BK122.out 0).trans rfl
         have hcz27_1 : wc.cell? ⟨gb122, 1, none⟩ = some (.slice A1_1 l1_1.length c1_1) := (blk_cell BK122.out 1).trans rfl
         have hcz27_2 : wc.cell? ⟨gb122, 2, none⟩ = some (.int .i64 a1_2) := (blk_cell BK122.out 2).trans rfl
         have hcz27_3 : wc.cell? ⟨gb122, 3, none⟩ = some (.int .i64 a1_3) := (blk_cell BK122.out 3).trans rfl
         have hcz27_4 : wc.cell? ⟨gb122, 4, none⟩ = some (.int .i64 a1_4) := (blk_cell BK122.out 4).trans rfl
         have hcz27_5 : wc.cell? ⟨gb122, 5, none⟩ = some (.slice A1_5 l1_5.length c1_5) := (blk_cell BK122.out 5).trans rfl
         have hcz27_6 : wc.cell? ⟨gb122, 6, none⟩ = some (.int .i64 a1_6) := (blk_cell BK122.out 6).trans rfl
         have hcz27_7 : wc.cell? ⟨gb122, 7, none⟩ = some (.int .i64 a1_7) := (blk_cell BK122.out 7).trans rfl
         have hcz27_8 : wc.cell? ⟨gb122, 8, none⟩ = some (.int .i64 a1_8) := (blk_cell BK122.out 8).trans rfl
         have hcz27_9 : wc.cell? ⟨gb122, 9, none⟩ = some (.int .i64 a1_9) := (blk_cell BK122.out 9).trans rfl
         have hfz27_0 := blk_frozen BK122.out 0
         have hfz27_1 := blk_frozen BK122.out 1
         have hfz27_2 := blk_frozen BK122.out 2
         have hfz27_3 := blk_frozen BK122.out 3
         have hfz27_4 := blk_frozen BK122.out 4
         have hfz27_5 := blk_frozen BK122.out 5
         have hfz27_6 := blk_frozen BK122.out 6
         have hfz27_7 := blk_frozen BK122.out 7
         have hfz27_8 := blk_frozen BK122.out 8
         have hfz27_9 := blk_frozen BK122.out 9
         go_upto_region 7 with (first | ((with_reducible refine gate_callee (f := 36) rfl ?_); refine goesL_ (some 40) rfl rfl Try.func36 (by kernel_rfl) rfl #[.agg #[.slice A0_0 l0_0.length c0_0], .agg #[.int .i64 a1_0, .slice A1_1 l1_1.length c1_1, .int .i64 a1_2, .int .i64 a1_3, .int .i64 a1_4, .slice A1_5 l1_5.length c1_5, .int .i64 a1_6, .int .i64 a1_7, .int .i64 a1_8, .int .i64 a1_9]] rfl (by (try simp only [List.map_toArray, List.map_cons, List.map_nil]); first | done | rfl | (simp only [List.length_drop, List.length_take]; rfl)) ?_; (with_reducible refine (job_inputs.calls _ _ l0_0 a1_0 _ _ l1_1 a1_2 a1_3 a1_4 _ _ l1_5 a1_6 a1_7 a1_8 a1_9 true _ ?side1 ?side2 ?side3 ?side4 ?side5 ?side6 A22.out).mono ?_); (case side1 => repeat (first | exact (Kd.C_below HR0_0.out HB.out) | (with_reducible refine Kd.C_alloc ?_ _) | (with_reducible refine Kd.C_drewN ?_ _) | (with_reducible refine Kd.C_drew ?_))); (case side2 => exact HC0_0.out); (case side3 => repeat (first | exact (Kd.C_below HR1_1.out HB.out) | (with_reducible refine Kd.C_alloc ?_ _) | (with_reducible refine Kd.C_drewN ?_ _) | (with_reducible refine Kd.C_drew ?_))); (case side4 => exact HC1_1.out); (case side5 => repeat (first | exact (Kd.C_below HR1_5.out HB.out) | (with_reducible refine Kd.C_alloc ?_ _) | (with_reducible refine Kd.C_drewN ?_ _) | (with_reducible refine Kd.C_drew ?_))); (case side6 => exact HC1_5.out); rintro e w28 ⟨rfl, hb⟩; refine ⟨_, rfl, ?_⟩; have n0_ := Aside0.mk (blk_below (g := gb121) (o := .cells #[.slice A0_0 l0_0.length c0_0] 24 (0, 0)) (by (with_reducible repeat (first | refine blk_drewN ?_ _ | refine blk_drew ?_ | refine blk_alloc ?_ _)); exact BK121.out) hb); have n1_ := Aside0.mk (blk_below (g := gb122) (o := .cells #[.int .i64 a1_0, .slice A1_1 l1_1.length c1_1, .int .i64 a1_2, .int .i64 a1_3, .int .i64 a1_4, .slice A1_5 l1_5.length c1_5, .int .i64 a1_6, .int .i64 a1_7, .int .i64 a1_8, .int .i64 a1_9] 38 (0, 0)) (by (with_reducible repeat (first | refine blk_drewN ?_ _ | refine blk_drew ?_ | refine blk_alloc ?_ _)); exact BK122.out) hb); have n2_ := Aside0.mk (below_step (by repeat (first | (with_reducible first | exact HB.out | apply below_alloc | apply pw_below_drewN | apply below_drew1 | refine below_set ?_ GE121.out | refine below_set ?_ GE122.out) | exact HB.out)) hb); clear BK121; clear BK122; clear HB; have BK121 := n0_; have BK122 := n1_; have HB := n2_; clear n0_ n1_ n2_; (try clear hb); (try clear hb2); (try clear hk); (try clear hi)))
         (try simp only [Act.put, List.setIfInBounds_toArray, List.set_cons_zero, List.set_cons_succ])
         go_cut [42] (fun v42 wc => ∃ (kq : Nat) (x42_23 : Bool), v42 = .bool x42_23 ∧ Aside0 (job_node.j2 kq (a1_0 == 4) x6_4 x42_23 a1_0 l1_1 a1_2 a1_3 a1_4 l1_5 a1_6 a1_7 a1_8 a1_9 = some r) ∧ Aside0 (kq ≤ kj14) ∧ Aside0 (wc.heap[gb121]? = some (.cells #[(.slice A0_0 l0_0.length c0_0)] 24 (0, 0))) ∧ Aside0 (wc.heap[gb122]? = some (.cells #[.int .i64 a1_0, (.slice A1_1 l1_1.length c1_1), .int .i64 a1_2, .int .i64 a1_3, .int .i64 a1_4, (.slice A1_5 l1_5.length c1_5), .int .i64 a1_6, .int .i64 a1_7, .int .i64 a1_8, .int .i64 a1_9] 38 (0, 0))) ∧ Aside0 (Below w.heap.size w wc))
         case first =>
          have H := HC24.out
          clear HC24
          by_cases c29 : a1_2 < 1
          ·rw [if_pos c29] at H
           have c29b0 : decide (a1_2 < 1) = true := decide_eq_true c29
           clear c29
           (first | rw [c29b0] | (simp only [i64_w, i32_w]; rw [c29b0]) | skip)
           have H' := Aside0.mk H
           clear H
           have hnb30 := NB122_121.out
           have hnc30 := NB121_122.out
           have hcz31_0 : w28.cell? ⟨gb122, 0, none⟩ = some (.int .i64 a1_0) := (blk_cell BK122.out 0).trans rfl
           have hcz31_1 : w28.cell? ⟨gb122, 1, none⟩ = some (.slice A1_1 l1_1.length c1_1) := (blk_cell BK122.out 1).trans rfl
           have hcz31_2 : w28.cell? ⟨gb122, 2, none⟩ = some (.int .i64 a1_2) := (blk_cell BK122.out 2).trans rfl
           have hcz31_3 : w28.cell? ⟨gb122, 3, none⟩ = some (.int .i64 a1_3) := (blk_cell BK122.out 3).trans rfl
           have hcz31_4 : w28.cell? ⟨gb122, 4, none⟩ = some (.int .i64 a1_4) := (blk_cell BK122.out 4).trans rfl
           have hcz31_5 : w28.cell? ⟨gb122, 5, none⟩ = some (.slice A1_5 l1_5.length c1_5) := (blk_cell BK122.out 5).trans rfl
           have hcz31_6 : w28.cell? ⟨gb122, 6, none⟩ = some (.int .i64 a1_6) := (blk_cell BK122.out 6).trans rfl
           have hcz31_7 : w28.cell? ⟨gb122, 7, none⟩ = some (.int .i64 a1_7) := (blk_cell BK122.out 7).trans rfl
           have hcz31_8 : w28.cell? ⟨gb122, 8, none⟩ = some (.int .i64 a1_8) := (blk_cell BK122.out 8).trans rfl
           have hcz31_9 : w28.cell? ⟨gb122, 9, none⟩ = some (.int .i64 a1_9) := (blk_cell BK122.out 9).trans rfl
           have hfz31_0 := blk_frozen BK122.out 0
           have hfz31_1 := blk_frozen BK122.out 1
           have hfz31_2 := blk_frozen BK122.out 2
           have hfz31_3 := blk_frozen BK122.out 3
           have hfz31_4 := blk_frozen BK122.out 4
           have hfz31_5 := blk_frozen BK122.out 5
           have hfz31_6 := blk_frozen BK122.out 6
           have hfz31_7 := blk_frozen BK122.out 7
           have hfz31_8 := blk_frozen BK122.out 8
           have hfz31_9 := blk_frozen BK122.out 9
           go_wp2
           go_meet
           case rel => exact ⟨_, (true), (by first | rfl | (simp; done) | (simp [*]; done)), H', ⟨by have := HJ4.out; have := HJ14.out; first | omega | exact Nat.le_refl _⟩, ⟨by (with_reducible repeat (first | refine blk_drewN ?_ _ | refine blk_drew ?_ | refine blk_alloc ?_ _)); exact BK121.out⟩, ⟨by (with_reducible repeat (first | refine blk_drewN ?_ _ | refine blk_drew ?_ | refine blk_alloc ?_ _)); exact BK122.out⟩, ⟨by repeat (first | (with_reducible first | exact HB.out | apply below_alloc | apply pw_below_drewN | apply below_drew1 | refine below_set ?_ GE121.out | refine below_set ?_ GE122.out) | exact HB.out)⟩⟩
          ·rw [if_neg c29] at H
           have c29b0 : decide (a1_2 < 1) = false := decide_eq_false c29
           clear c29
           (first | rw [c29b0] | (simp only [i64_w, i32_w]; rw [c29b0]) | skip)
           have H' := Aside0.mk H
           clear H
           have hnb32 := NB122_121.out
           have hnc32 := NB121_122.out
           have hcz33_0 : w28.cell? ⟨gb122, 0, none⟩ = some (.int .i64 a1_0) := (blk_cell BK122.out 0).trans rfl
           have hcz33_1 : w28.cell? ⟨gb122, 1, none⟩ = some (.slice A1_1 l1_1.length c1_1) := (blk_cell BK122.out 1).trans rfl
           have hcz33_2 : w28.cell? ⟨gb122, 2, none⟩ = some (.int .i64 a1_2) := (blk_cell BK122.out 2).trans rfl
           have hcz33_3 : w28.cell? ⟨gb122, 3, none⟩ = some (.int .i64 a1_3) := (blk_cell BK122.out 3).trans rfl
           have hcz33_4 : w28.cell? ⟨gb122, 4, none⟩ = some (.int .i64 a1_4) := (blk_cell BK122.out 4).trans rfl
           have hcz33_5 : w28.cell? ⟨gb122, 5, none⟩ = some (.slice A1_5 l1_5.length c1_5) := (blk_cell BK122.out 5).trans rfl
           have hcz33_6 : w28.cell? ⟨gb122, 6, none⟩ = some (.int .i64 a1_6) := (blk_cell BK122.out 6).trans rfl
           have hcz33_7 : w28.cell? ⟨gb122, 7, none⟩ = some (.int .i64 a1_7) := (blk_cell BK122.out 7).trans rfl
           have hcz33_8 : w28.cell? ⟨gb122, 8, none⟩ = some (.int .i64 a1_8) := (blk_cell BK122.out 8).trans rfl
           have hcz33_9 : w28.cell? ⟨gb122, 9, none⟩ = some (.int .i64 a1_9) := (blk_cell BK122.out 9).trans rfl
           have hfz33_0 := blk_frozen BK122.out 0
           have hfz33_1 := blk_frozen BK122.out 1
           have hfz33_2 := blk_frozen BK122.out 2
           have hfz33_3 := blk_frozen BK122.out 3
           have hfz33_4 := blk_frozen BK122.out 4
           have hfz33_5 := blk_frozen BK122.out 5
           have hfz33_6 := blk_frozen BK122.out 6
           have hfz33_7 := blk_frozen BK122.out 7
           have hfz33_8 := blk_frozen BK122.out 8
           have hfz33_9 := blk_frozen BK122.out 9
           go_wp2
           go_meet
           case rel => exact ⟨_, (decide (a1_2 > 4)), (by first | rfl | (simp; done) | (simp [*]; done)), H', ⟨by have := HJ4.out; have := HJ14.out; first | omega | exact Nat.le_refl _⟩, ⟨by (with_reducible repeat (first | refine blk_drewN ?_ _ | refine blk_drew ?_ | refine blk_alloc ?_ _)); exact BK121.out⟩, ⟨by (with_reducible repeat (first | refine blk_drewN ?_ _ | refine blk_drew ?_ | refine blk_alloc ?_ _)); exact BK122.out⟩, ⟨by repeat (first | (with_reducible first | exact HB.out | apply below_alloc | apply pw_below_drewN | apply below_drew1 | refine below_set ?_ GE121.out | refine below_set ?_ GE122.out) | exact HB.out)⟩⟩
         case rest =>
          clear HC24
          try clear c1; try clear c2; try clear p2; try clear c3; try clear c3b0; try clear c3b1; try clear c4; try clear c4b0; try clear c4b1; try clear c8; try clear c10; try clear c10b0; try clear c10b1; try clear c11; try clear c13; try clear c16; try clear c16b0; try clear c17; try clear c19; try clear c21; try clear c23; try clear c25; try clear c29; try clear c29b0; try clear c30; try clear c31; try clear c32; try clear hcz12_0; try clear hcz12_1; try clear hcz12_2; try clear hcz12_3; try clear hcz12_4; try clear hcz12_5; try clear hcz12_6; try clear hcz12_7; try clear hcz12_8; try clear hcz12_9; try clear hcz14_0; try clear hcz14_1; try clear hcz14_2; try clear hcz14_3; try clear hcz14_4; try clear hcz14_5; try clear hcz14_6; try clear hcz14_7; try clear hcz14_8; try clear hcz14_9; try clear hcz18_0; try clear hcz18_1; try clear hcz18_2; try clear hcz18_3; try clear hcz18_4; try clear hcz18_5; try clear hcz18_6; try clear hcz18_7; try clear hcz18_8; try clear hcz18_9; try clear hcz20_0; try clear hcz20_1; try clear hcz20_2; try clear hcz20_3; try clear hcz20_4; try clear hcz20_5; try clear hcz20_6; try clear hcz20_7; try clear hcz20_8; try clear hcz20_9; try clear hcz26_0; try clear hcz27_0; try clear hcz27_1; try clear hcz27_2; try clear hcz27_3; try clear hcz27_4; try clear hcz27_5; try clear hcz27_6; try clear hcz27_7; try clear hcz27_8; try clear hcz27_9; try clear hcz31_0; try clear hcz31_1; try clear hcz31_2; try clear hcz31_3; try clear hcz31_4; try clear hcz31_5; try clear hcz31_6; try clear hcz31_7; try clear hcz31_8; try clear hcz31_9; try clear hcz33_0; try clear hcz33_1; try clear hcz33_2; try clear hcz33_3; try clear hcz33_4; try clear hcz33_5; try clear hcz33_6; try clear hcz33_7; try clear hcz33_8; try clear hcz33_9; try clear hcz9_0; try clear hcz9_1; try clear hcz9_2; try clear hcz9_3; try clear hcz9_4; try clear hcz9_5; try clear hcz9_6; try clear hcz9_7; try clear hcz9_8; try clear hcz9_9; try clear hfz12_0; try clear hfz12_1; try clear hfz12_2; try clear hfz12_3; try clear hfz12_4; try clear hfz12_5; try clear hfz12_6; try clear hfz12_7; try clear hfz12_8; try clear hfz12_9; try clear hfz14_0; try clear hfz14_1; try clear hfz14_2; try clear hfz14_3; try clear hfz14_4; try clear hfz14_5; try clear hfz14_6; try clear hfz14_7; try clear hfz14_8; try clear hfz14_9; try clear hfz18_0; try clear hfz18_1; try clear hfz18_2; try clear hfz18_3; try clear hfz18_4; try clear hfz18_5; try clear hfz18_6; try clear hfz18_7; try clear hfz18_8; try clear hfz18_9; try clear hfz20_0; try clear hfz20_1; try clear hfz20_2; try clear hfz20_3; try clear hfz20_4; try clear hfz20_5; try clear hfz20_6; try clear hfz20_7; try clear hfz20_8; try clear hfz20_9; try clear hfz26_0; try clear hfz27_0; try clear hfz27_1; try clear hfz27_2; try clear hfz27_3; try clear hfz27_4; try clear hfz27_5; try clear hfz27_6; try clear hfz27_7; try clear hfz27_8; try clear hfz27_9; try clear hfz31_0; try clear hfz31_1; try clear hfz31_2; try clear hfz31_3; try clear hfz31_4; try clear hfz31_5; try clear hfz31_6; try clear hfz31_7; try clear hfz31_8; try clear hfz31_9; try clear hfz33_0; try clear hfz33_1; try clear hfz33_2; try clear hfz33_3; try clear hfz33_4; try clear hfz33_5; try clear hfz33_6; try clear hfz33_7; try clear hfz33_8; try clear hfz33_9; try clear hfz9_0; try clear hfz9_1; try clear hfz9_2; try clear hfz9_3; try clear hfz9_4; try clear hfz9_5; try clear hfz9_6; try clear hfz9_7; try clear hfz9_8; try clear hfz9_9; try clear p2
          obtain ⟨kq, x42_23, rfl, HA, HJ23, BK121, BK122, HB⟩ := hcut
          cases kq with
          | zero => exact absurd HA.out (by simp [job_node.j2])
          | succ kj23 =>
           have H := HA.out
           clear HA
           simp only [job_node.j2] at H
           by_cases c34 : x42_23 = true
           ·subst c34
            have H1 : (some 84) = some r := by rw [if_pos rfl] at H; exact H
            clear H
            have H := H1
            clear H1
            obtain rfl := Option.some.inj H
            go_wp2
            go_ret
            exact ⟨by first | rfl | (simp [errW_none, errW_some] <;> rfl) | (simp [*, errW_none, errW_some] <;> rfl), by repeat (first | (with_reducible first | exact HB.out | apply below_alloc | apply pw_below_drewN | apply below_drew1 | refine below_set ?_ GE121.out | refine below_set ?_ GE122.out) | exact HB.out)⟩
           ·replace c34 := Bool.eq_false_iff.mpr c34
            subst c34
            have H1 : (if (a1_0 == 4) = true then (none) else ((job_zero.f a1_3 a1_4 l1_5).bind fun t124 => (if t124 = true then (if x6_4 = true then (if a1_6 < 1 then (job_node.j3 kj23 true a1_0 l1_1 a1_2 a1_3 a1_4 l1_5 a1_6 a1_7 a1_8 a1_9) else (if a1_6 > 5 then (job_node.j3 kj23 true a1_0 l1_1 a1_2 a1_3 a1_4 l1_5 a1_6 a1_7 a1_8 a1_9) else (job_node.j3 kj23 false a1_0 l1_1 a1_2 a1_3 a1_4 l1_5 a1_6 a1_7 a1_8 a1_9))) else (job_node.j3 kj23 (a1_6 != 0) a1_0 l1_1 a1_2 a1_3 a1_4 l1_5 a1_6 a1_7 a1_8 a1_9)) else (some 85)))) = some r := by rw [if_neg (show ¬ (false = true) by decide)] at H; exact H
            clear H
            have H := H1
            clear H1
            by_cases c35 : (a1_0 == 4) = true
            ·rw [if_pos c35] at H
             exact absurd H (by simp)
            ·rw [if_neg c35] at H
             have c35b0 : (a1_0 == 4) = false := by simpa using c35
             (try (have c35b1 : decide (a1_0 = 4) = false := by simpa using c35))
             (try (have c35b2 : (a1_0 == 4) = false := by simpa using c35))
             (try (have c35b3 : ¬ (a1_0 = 4) := by simpa using c35))
             clear c35
             replace H := Option.bind_eq_some_iff.mp H
             obtain ⟨t124, A360, H⟩ := H
             replace H : (if t124 = true then (if x6_4 = true then (if a1_6 < 1 then (job_node.j3 kj23 true a1_0 l1_1 a1_2 a1_3 a1_4 l1_5 a1_6 a1_7 a1_8 a1_9) else (if a1_6 > 5 then (job_node.j3 kj23 true a1_0 l1_1 a1_2 a1_3 a1_4 l1_5 a1_6 a1_7 a1_8 a1_9) else (job_node.j3 kj23 false a1_0 l1_1 a1_2 a1_3 a1_4 l1_5 a1_6 a1_7 a1_8 a1_9))) else (job_node.j3 kj23 (a1_6 != 0) a1_0 l1_1 a1_2 a1_3 a1_4 l1_5 a1_6 a1_7 a1_8 a1_9)) else (some 85)) = some r := H
             have A36 := Aside0.mk A360
             clear A360
             by_cases c37 : t124 = true
             ·subst c37
              have H1 : (if x6_4 = true then (if a1_6 < 1 then (job_node.j3 kj23 true a1_0 l1_1 a1_2 a1_3 a1_4 l1_5 a1_6 a1_7 a1_8 a1_9) else (if a1_6 > 5 then (job_node.j3 kj23 true a1_0 l1_1 a1_2 a1_3 a1_4 l1_5 a1_6 a1_7 a1_8 a1_9) else (job_node.j3 kj23 false a1_0 l1_1 a1_2 a1_3 a1_4 l1_5 a1_6 a1_7 a1_8 a1_9))) else (job_node.j3 kj23 (a1_6 != 0) a1_0 l1_1 a1_2 a1_3 a1_4 l1_5 a1_6 a1_7 a1_8 a1_9)) = some r := by rw [if_pos rfl] at H; exact H
              clear H
              have H := H1
              clear H1
              have HC38 := Aside0.mk H
              clear H
              have hnb39 := NB122_121.out
              have hnc39 := NB121_122.out
              have hcz40_0 : wc.cell? ⟨gb122, 0, none⟩ = some (.int .i64 a1_0) := (blk_cell BK122.out 0).trans rfl
              have hcz40_1 : wc.cell? ⟨gb122, 1, none⟩ = some (.slice A1_1 l1_1.length c1_1) := (blk_cell BK122.out 1).trans rfl
              have hcz40_2 : wc.cell? ⟨gb122, 2, none⟩ = some (.int .i64 a1_2) := (blk_cell BK122.out 2).trans rfl
              have hcz40_3 : wc.cell? ⟨gb122, 3, none⟩ = some (.int .i64 a1_3) := (blk_cell BK122.out 3).trans rfl
              have hcz40_4 : wc.cell? ⟨gb122, 4, none⟩ = some (.int .i64 a1_4) := (blk_cell BK122.out 4).trans rfl
              have hcz40_5 : wc.cell? ⟨gb122, 5, none⟩ = some (.slice A1_5 l1_5.length c1_5) := (blk_cell BK122.out 5).trans rfl
              have hcz40_6 : wc.cell? ⟨gb122, 6, none⟩ = some (.int .i64 a1_6) := (blk_cell BK122.out 6).trans rfl
              have hcz40_7 : wc.cell? ⟨gb122, 7, none⟩ = some (.int .i64 a1_7) := (blk_cell BK122.out 7).trans rfl
              have hcz40_8 : wc.cell? ⟨gb122, 8, none⟩ = some (.int .i64 a1_8) := (blk_cell BK122.out 8).trans rfl
              have hcz40_9 : wc.cell? ⟨gb122, 9, none⟩ = some (.int .i64 a1_9) := (blk_cell BK122.out 9).trans rfl
              have hfz40_0 := blk_frozen BK122.out 0
              have hfz40_1 := blk_frozen BK122.out 1
              have hfz40_2 := blk_frozen BK122.out 2
              have hfz40_3 := blk_frozen BK122.out 3
              have hfz40_4 := blk_frozen BK122.out 4
              have hfz40_5 := blk_frozen BK122.out 5
              have hfz40_6 := blk_frozen BK122.out 6
              have hfz40_7 := blk_frozen BK122.out 7
              have hfz40_8 := blk_frozen BK122.out 8
              have hfz40_9 := blk_frozen BK122.out 9
              go_upto_region 11 with (first | (go_at_call 38; (with_reducible refine (job_zero.calls a1_3 a1_4 _ _ l1_5 true _ ?side1 ?side2 A36.out).mono ?_); (case side1 => repeat (first | exact (Kd.C_below HR1_5.out HB.out) | (with_reducible refine Kd.C_alloc ?_ _) | (with_reducible refine Kd.C_drewN ?_ _) | (with_reducible refine Kd.C_drew ?_))); (case side2 => exact HC1_5.out); rintro e w41 ⟨rfl, hb⟩; have n0_ := Aside0.mk (blk_below (g := gb121) (o := .cells #[.slice A0_0 l0_0.length c0_0] 24 (0, 0)) (by (with_reducible repeat (first | refine blk_drewN ?_ _ | refine blk_drew ?_ | refine blk_alloc ?_ _)); exact BK121.out) hb); have n1_ := Aside0.mk (blk_below (g := gb122) (o := .cells #[.int .i64 a1_0, .slice A1_1 l1_1.length c1_1, .int .i64 a1_2, .int .i64 a1_3, .int .i64 a1_4, .slice A1_5 l1_5.length c1_5, .int .i64 a1_6, .int .i64 a1_7, .int .i64 a1_8, .int .i64 a1_9] 38 (0, 0)) (by (with_reducible repeat (first | refine blk_drewN ?_ _ | refine blk_drew ?_ | refine blk_alloc ?_ _)); exact BK122.out) hb); have n2_ := Aside0.mk (below_step (by repeat (first | (with_reducible first | exact HB.out | apply below_alloc | apply pw_below_drewN | apply below_drew1 | refine below_set ?_ GE121.out | refine below_set ?_ GE122.out) | exact HB.out)) hb); clear BK121; clear BK122; clear HB; have BK121 := n0_; have BK122 := n1_; have HB := n2_; clear n0_ n1_ n2_; (try clear hb); (try clear hb2); (try clear hk); (try clear hi)))
              (try simp only [Act.put, List.setIfInBounds_toArray, List.set_cons_zero, List.set_cons_succ])
              go_cut [69] (fun v69 wc => ∃ (kq : Nat) (x69_37 : Bool), v69 = .bool x69_37 ∧ Aside0 (job_node.j3 kq x69_37 a1_0 l1_1 a1_2 a1_3 a1_4 l1_5 a1_6 a1_7 a1_8 a1_9 = some r) ∧ Aside0 (kq ≤ kj23) ∧ Aside0 (wc.heap[gb121]? = some (.cells #[(.slice A0_0 l0_0.length c0_0)] 24 (0, 0))) ∧ Aside0 (wc.heap[gb122]? = some (.cells #[.int .i64 a1_0, (.slice A1_1 l1_1.length c1_1), .int .i64 a1_2, .int .i64 a1_3, .int .i64 a1_4, (.slice A1_5 l1_5.length c1_5), .int .i64 a1_6, .int .i64 a1_7, .int .i64 a1_8, .int .i64 a1_9] 38 (0, 0))) ∧ Aside0 (Below w.heap.size w wc))
              case first =>
               have H := HC38.out
               clear HC38
               by_cases c42 : x6_4 = true
               ·subst c42
                have H1 : (if a1_6 < 1 then (job_node.j3 kj23 true a1_0 l1_1 a1_2 a1_3 a1_4 l1_5 a1_6 a1_7 a1_8 a1_9) else (if a1_6 > 5 then (job_node.j3 kj23 true a1_0 l1_1 a1_2 a1_3 a1_4 l1_5 a1_6 a1_7 a1_8 a1_9) else (job_node.j3 kj23 false a1_0 l1_1 a1_2 a1_3 a1_4 l1_5 a1_6 a1_7 a1_8 a1_9))) = some r := by rw [if_pos rfl] at H; exact H
                clear H
                have H := H1
                clear H1
                by_cases c43 : a1_6 < 1
                ·rw [if_pos c43] at H
                 have c43b0 : decide (a1_6 < 1) = true := decide_eq_true c43
                 clear c43
                 (first | rw [c43b0] | (simp only [i64_w, i32_w]; rw [c43b0]) | skip)
                 have H' := Aside0.mk H
                 clear H
                 have hnb44 := NB122_121.out
                 have hnc44 := NB121_122.out
                 have hcz45_0 : w41.cell? ⟨gb122, 0, none⟩ = some (.int .i64 a1_0) := (blk_cell BK122.out 0).trans rfl
                 have hcz45_1 : w41.cell? ⟨gb122, 1, none⟩ = some (.slice A1_1 l1_1.length c1_1) := (blk_cell BK122.out 1).trans rfl
                 have hcz45_2 : w41.cell? ⟨gb122, 2, none⟩ = some (.int .i64 a1_2) := (blk_cell BK122.out 2).trans rfl
                 have hcz45_3 : w41.cell? ⟨gb122, 3, none⟩ = some (.int .i64 a1_3) := (blk_cell BK122.out 3).trans rfl
                 have hcz45_4 : w41.cell? ⟨gb122, 4, none⟩ = some (.int .i64 a1_4) := (blk_cell BK122.out 4).trans rfl
                 have hcz45_5 : w41.cell? ⟨gb122, 5, none⟩ = some (.slice A1_5 l1_5.length c1_5) := (blk_cell BK122.out 5).trans rfl
                 have hcz45_6 : w41.cell? ⟨gb122, 6, none⟩ = some (.int .i64 a1_6) := (blk_cell BK122.out 6).trans rfl
                 have hcz45_7 : w41.cell? ⟨gb122, 7, none⟩ = some (.int .i64 a1_7) := (blk_cell BK122.out 7).trans rfl
                 have hcz45_8 : w41.cell? ⟨gb122, 8, none⟩ = some (.int .i64 a1_8) := (blk_cell BK122.out 8).trans rfl
                 have hcz45_9 : w41.cell? ⟨gb122, 9, none⟩ = some (.int .i64 a1_9) := (blk_cell BK122.out 9).trans rfl
                 have hfz45_0 := blk_frozen BK122.out 0
                 have hfz45_1 := blk_frozen BK122.out 1
                 have hfz45_2 := blk_frozen BK122.out 2
                 have hfz45_3 := blk_frozen BK122.out 3
                 have hfz45_4 := blk_frozen BK122.out 4
                 have hfz45_5 := blk_frozen BK122.out 5
                 have hfz45_6 := blk_frozen BK122.out 6
                 have hfz45_7 := blk_frozen BK122.out 7
                 have hfz45_8 := blk_frozen BK122.out 8
                 have hfz45_9 := blk_frozen BK122.out 9
                 go_wp2
                 go_meet
                 case rel => exact ⟨_, (true), (by first | rfl | (simp; done) | (simp [*]; done)), H', ⟨by have := HJ4.out; have := HJ14.out; have := HJ23.out; first | omega | exact Nat.le_refl _⟩, ⟨by (with_reducible repeat (first | refine blk_drewN ?_ _ | refine blk_drew ?_ | refine blk_alloc ?_ _)); exact BK121.out⟩, ⟨by (with_reducible repeat (first | refine blk_drewN ?_ _ | refine blk_drew ?_ | refine blk_alloc ?_ _)); exact BK122.out⟩, ⟨by repeat (first | (with_reducible first | exact HB.out | apply below_alloc | apply pw_below_drewN | apply below_drew1 | refine below_set ?_ GE121.out | refine below_set ?_ GE122.out) | exact HB.out)⟩⟩
                ·rw [if_neg c43] at H
                 have c43b0 : decide (a1_6 < 1) = false := decide_eq_false c43
                 clear c43
                 (first | rw [c43b0] | (simp only [i64_w, i32_w]; rw [c43b0]) | skip)
                 by_cases c46 : a1_6 > 5
                 ·rw [if_pos c46] at H
                  have c46b0 : decide (5 < a1_6) = true := decide_eq_true c46
                  clear c46
                  have H' := Aside0.mk H
                  clear H
                  have hnb47 := NB122_121.out
                  have hnc47 := NB121_122.out
                  have hcz48_0 : w41.cell? ⟨gb122, 0, none⟩ = some (.int .i64 a1_0) := (blk_cell BK122.out 0).trans rfl
                  have hcz48_1 : w41.cell? ⟨gb122, 1, none⟩ = some (.slice A1_1 l1_1.length c1_1) := (blk_cell BK122.out 1).trans rfl
                  have hcz48_2 : w41.cell? ⟨gb122, 2, none⟩ = some (.int .i64 a1_2) := (blk_cell BK122.out 2).trans rfl
                  have hcz48_3 : w41.cell? ⟨gb122, 3, none⟩ = some (.int .i64 a1_3) := (blk_cell BK122.out 3).trans rfl
                  have hcz48_4 : w41.cell? ⟨gb122, 4, none⟩ = some (.int .i64 a1_4) := (blk_cell BK122.out 4).trans rfl
                  have hcz48_5 : w41.cell? ⟨gb122, 5, none⟩ = some (.slice A1_5 l1_5.length c1_5) := (blk_cell BK122.out 5).trans rfl
                  have hcz48_6 : w41.cell? ⟨gb122, 6, none⟩ = some (.int .i64 a1_6) := (blk_cell BK122.out 6).trans rfl
                  have hcz48_7 : w41.cell? ⟨gb122, 7, none⟩ = some (.int .i64 a1_7) := (blk_cell BK122.out 7).trans rfl
                  have hcz48_8 : w41.cell? ⟨gb122, 8, none⟩ = some (.int .i64 a1_8) := (blk_cell BK122.out 8).trans rfl
                  have hcz48_9 : w41.cell? ⟨gb122, 9, none⟩ = some (.int .i64 a1_9) := (blk_cell BK122.out 9).trans rfl
                  have hfz48_0 := blk_frozen BK122.out 0
                  have hfz48_1 := blk_frozen BK122.out 1
                  have hfz48_2 := blk_frozen BK122.out 2
                  have hfz48_3 := blk_frozen BK122.out 3
                  have hfz48_4 := blk_frozen BK122.out 4
                  have hfz48_5 := blk_frozen BK122.out 5
                  have hfz48_6 := blk_frozen BK122.out 6
                  have hfz48_7 := blk_frozen BK122.out 7
                  have hfz48_8 := blk_frozen BK122.out 8
                  have hfz48_9 := blk_frozen BK122.out 9
                  go_wp2
                  go_meet
                  case rel => exact ⟨_, (true), (by first | rfl | (simp; done) | (simp [*]; done)), H', ⟨by have := HJ4.out; have := HJ14.out; have := HJ23.out; first | omega | exact Nat.le_refl _⟩, ⟨by (with_reducible repeat (first | refine blk_drewN ?_ _ | refine blk_drew ?_ | refine blk_alloc ?_ _)); exact BK121.out⟩, ⟨by (with_reducible repeat (first | refine blk_drewN ?_ _ | refine blk_drew ?_ | refine blk_alloc ?_ _)); exact BK122.out⟩, ⟨by repeat (first | (with_reducible first | exact HB.out | apply below_alloc | apply pw_below_drewN | apply below_drew1 | refine below_set ?_ GE121.out | refine below_set ?_ GE122.out) | exact HB.out)⟩⟩
                 ·rw [if_neg c46] at H
                  have c46b0 : decide (5 < a1_6) = false := decide_eq_false c46
                  clear c46
                  have H' := Aside0.mk H
                  clear H
                  have hnb49 := NB122_121.out
                  have hnc49 := NB121_122.out
                  have hcz50_0 : w41.cell? ⟨gb122, 0, none⟩ = some (.int .i64 a1_0) := (blk_cell BK122.out 0).trans rfl
                  have hcz50_1 : w41.cell? ⟨gb122, 1, none⟩ = some (.slice A1_1 l1_1.length c1_1) := (blk_cell BK122.out 1).trans rfl
                  have hcz50_2 : w41.cell? ⟨gb122, 2, none⟩ = some (.int .i64 a1_2) := (blk_cell BK122.out 2).trans rfl
                  have hcz50_3 : w41.cell? ⟨gb122, 3, none⟩ = some (.int .i64 a1_3) := (blk_cell BK122.out 3).trans rfl
                  have hcz50_4 : w41.cell? ⟨gb122, 4, none⟩ = some (.int .i64 a1_4) := (blk_cell BK122.out 4).trans rfl
                  have hcz50_5 : w41.cell? ⟨gb122, 5, none⟩ = some (.slice A1_5 l1_5.length c1_5) := (blk_cell BK122.out 5).trans rfl
                  have hcz50_6 : w41.cell? ⟨gb122, 6, none⟩ = some (.int .i64 a1_6) := (blk_cell BK122.out 6).trans rfl
                  have hcz50_7 : w41.cell? ⟨gb122, 7, none⟩ = some (.int .i64 a1_7) := (blk_cell BK122.out 7).trans rfl
                  have hcz50_8 : w41.cell? ⟨gb122, 8, none⟩ = some (.int .i64 a1_8) := (blk_cell BK122.out 8).trans rfl
                  have hcz50_9 : w41.cell? ⟨gb122, 9, none⟩ = some (.int .i64 a1_9) := (blk_cell BK122.out 9).trans rfl
                  have hfz50_0 := blk_frozen BK122.out 0
                  have hfz50_1 := blk_frozen BK122.out 1
                  have hfz50_2 := blk_frozen BK122.out 2
                  have hfz50_3 := blk_frozen BK122.out 3
                  have hfz50_4 := blk_frozen BK122.out 4
                  have hfz50_5 := blk_frozen BK122.out 5
                  have hfz50_6 := blk_frozen BK122.out 6
                  have hfz50_7 := blk_frozen BK122.out 7
                  have hfz50_8 := blk_frozen BK122.out 8
                  have hfz50_9 := blk_frozen BK122.out 9
                  go_wp2
                  go_meet
                  case rel => exact ⟨_, (false), (by first | rfl | (simp; done) | (simp [*]; done)), H', ⟨by have := HJ4.out; have := HJ14.out; have := HJ23.out; first | omega | exact Nat.le_refl _⟩, ⟨by (with_reducible repeat (first | refine blk_drewN ?_ _ | refine blk_drew ?_ | refine blk_alloc ?_ _)); exact BK121.out⟩, ⟨by (with_reducible repeat (first | refine blk_drewN ?_ _ | refine blk_drew ?_ | refine blk_alloc ?_ _)); exact BK122.out⟩, ⟨by repeat (first | (with_reducible first | exact HB.out | apply below_alloc | apply pw_below_drewN | apply below_drew1 | refine below_set ?_ GE121.out | refine below_set ?_ GE122.out) | exact HB.out)⟩⟩
               ·replace c42 := Bool.eq_false_iff.mpr c42
                subst c42
                have H1 : (job_node.j3 kj23 (a1_6 != 0) a1_0 l1_1 a1_2 a1_3 a1_4 l1_5 a1_6 a1_7 a1_8 a1_9) = some r := by rw [if_neg (show ¬ (false = true) by decide)] at H; exact H
                clear H
                have H := H1
                clear H1
                have H' := Aside0.mk H
                clear H
                have hnb51 := NB122_121.out
                have hnc51 := NB121_122.out
                have hcz52_0 : w41.cell? ⟨gb122, 0, none⟩ = some (.int .i64 a1_0) := (blk_cell BK122.out 0).trans rfl
                have hcz52_1 : w41.cell? ⟨gb122, 1, none⟩ = some (.slice A1_1 l1_1.length c1_1) := (blk_cell BK122.out 1).trans rfl
                have hcz52_2 : w41.cell? ⟨gb122, 2, none⟩ = some (.int .i64 a1_2) := (blk_cell BK122.out 2).trans rfl
                have hcz52_3 : w41.cell? ⟨gb122, 3, none⟩ = some (.int .i64 a1_3) := (blk_cell BK122.out 3).trans rfl
                have hcz52_4 : w41.cell? ⟨gb122, 4, none⟩ = some (.int .i64 a1_4) := (blk_cell BK122.out 4).trans rfl
                have hcz52_5 : w41.cell? ⟨gb122, 5, none⟩ = some (.slice A1_5 l1_5.length c1_5) := (blk_cell BK122.out 5).trans rfl
                have hcz52_6 : w41.cell? ⟨gb122, 6, none⟩ = some (.int .i64 a1_6) := (blk_cell BK122.out 6).trans rfl
                have hcz52_7 : w41.cell? ⟨gb122, 7, none⟩ = some (.int .i64 a1_7) := (blk_cell BK122.out 7).trans rfl
                have hcz52_8 : w41.cell? ⟨gb122, 8, none⟩ = some (.int .i64 a1_8) := (blk_cell BK122.out 8).trans rfl
                have hcz52_9 : w41.cell? ⟨gb122, 9, none⟩ = some (.int .i64 a1_9) := (blk_cell BK122.out 9).trans rfl
                have hfz52_0 := blk_frozen BK122.out 0
                have hfz52_1 := blk_frozen BK122.out 1
                have hfz52_2 := blk_frozen BK122.out 2
                have hfz52_3 := blk_frozen BK122.out 3
                have hfz52_4 := blk_frozen BK122.out 4
                have hfz52_5 := blk_frozen BK122.out 5
                have hfz52_6 := blk_frozen BK122.out 6
                have hfz52_7 := blk_frozen BK122.out 7
                have hfz52_8 := blk_frozen BK122.out 8
                have hfz52_9 := blk_frozen BK122.out 9
                go_wp2
                go_meet
                case rel => exact ⟨_, ((a1_6 != 0)), (by first | rfl | (simp; done) | (simp [*]; done)), H', ⟨by have := HJ4.out; have := HJ14.out; have := HJ23.out; first | omega | exact Nat.le_refl _⟩, ⟨by (with_reducible repeat (first | refine blk_drewN ?_ _ | refine blk_drew ?_ | refine blk_alloc ?_ _)); exact BK121.out⟩, ⟨by (with_reducible repeat (first | refine blk_drewN ?_ _ | refine blk_drew ?_ | refine blk_alloc ?_ _)); exact BK122.out⟩, ⟨by repeat (first | (with_reducible first | exact HB.out | apply below_alloc | apply pw_below_drewN | apply below_drew1 | refine below_set ?_ GE121.out | refine below_set ?_ GE122.out) | exact HB.out)⟩⟩
              case rest =>
               clear HC38
               try clear c1; try clear c2; try clear p2; try clear c3; try clear c3b0; try clear c3b1; try clear c4; try clear c4b0; try clear c4b1; try clear c5; try clear c8; try clear c10; try clear c10b0; try clear c10b1; try clear c11; try clear c13; try clear c16; try clear c16b0; try clear c17; try clear c19; try clear c21; try clear c23; try clear c25; try clear c29; try clear c29b0; try clear c30; try clear c31; try clear c32; try clear c34; try clear c35; try clear c35b0; try clear c35b1; try clear c35b2; try clear c36; try clear c37; try clear c39; try clear c42; try clear c43; try clear c43b0; try clear c44; try clear c46; try clear c46b0; try clear c47; try clear c49; try clear c51; try clear hcz12_0; try clear hcz12_1; try clear hcz12_2; try clear hcz12_3; try clear hcz12_4; try clear hcz12_5; try clear hcz12_6; try clear hcz12_7; try clear hcz12_8; try clear hcz12_9; try clear hcz14_0; try clear hcz14_1; try clear hcz14_2; try clear hcz14_3; try clear hcz14_4; try clear hcz14_5; try clear hcz14_6; try clear hcz14_7; try clear hcz14_8; try clear hcz14_9; try clear hcz18_0; try clear hcz18_1; try clear hcz18_2; try clear hcz18_3; try clear hcz18_4; try clear hcz18_5; try clear hcz18_6; try clear hcz18_7; try clear hcz18_8; try clear hcz18_9; try clear hcz20_0; try clear hcz20_1; try clear hcz20_2; try clear hcz20_3; try clear hcz20_4; try clear hcz20_5; try clear hcz20_6; try clear hcz20_7; try clear hcz20_8; try clear hcz20_9; try clear hcz26_0; try clear hcz27_0; try clear hcz27_1; try clear hcz27_2; try clear hcz27_3; try clear hcz27_4; try clear hcz27_5; try clear hcz27_6; try clear hcz27_7; try clear hcz27_8; try clear hcz27_9; try clear hcz31_0; try clear hcz31_1; try clear hcz31_2; try clear hcz31_3; try clear hcz31_4; try clear hcz31_5; try clear hcz31_6; try clear hcz31_7; try clear hcz31_8; try clear hcz31_9; try clear hcz33_0; try clear hcz33_1; try clear hcz33_2; try clear hcz33_3; try clear hcz33_4; try clear hcz33_5; try clear hcz33_6; try clear hcz33_7; try clear hcz33_8; try clear hcz33_9; try clear hcz40_0; try clear hcz40_1; try clear hcz40_2; try clear hcz40_3; try clear hcz40_4; try clear hcz40_5; try clear hcz40_6; try clear hcz40_7; try clear hcz40_8; try clear hcz40_9; try clear hcz45_0; try clear hcz45_1; try clear hcz45_2; try clear hcz45_3; try clear hcz45_4; try clear hcz45_5; try clear hcz45_6; try clear hcz45_7; try clear hcz45_8; try clear hcz45_9; try clear hcz48_0; try clear hcz48_1; try clear hcz48_2; try clear hcz48_3; try clear hcz48_4; try clear hcz48_5; try clear hcz48_6; try clear hcz48_7; try clear hcz48_8; try clear hcz48_9; try clear hcz50_0; try clear hcz50_1; try clear hcz50_2; try clear hcz50_3; try clear hcz50_4; try clear hcz50_5; try clear hcz50_6; try clear hcz50_7; try clear hcz50_8; try clear hcz50_9; try clear hcz52_0; try clear hcz52_1; try clear hcz52_2; try clear hcz52_3; try clear hcz52_4; try clear hcz52_5; try clear hcz52_6; try clear hcz52_7; try clear hcz52_8; try clear hcz52_9; try clear hcz9_0; try clear hcz9_1; try clear hcz9_2; try clear hcz9_3; try clear hcz9_4; try clear hcz9_5; try clear hcz9_6; try clear hcz9_7; try clear hcz9_8; try clear hcz9_9; try clear hfz12_0; try clear hfz12_1; try clear hfz12_2; try clear hfz12_3; try clear hfz12_4; try clear hfz12_5; try clear hfz12_6; try clear hfz12_7; try clear hfz12_8; try clear hfz12_9; try clear hfz14_0; try clear hfz14_1; try clear hfz14_2; try clear hfz14_3; try clear hfz14_4; try clear hfz14_5; try clear hfz14_6; try clear hfz14_7; try clear hfz14_8; try clear hfz14_9; try clear hfz18_0; try clear hfz18_1; try clear hfz18_2; try clear hfz18_3; try clear hfz18_4; try clear hfz18_5; try clear hfz18_6; try clear hfz18_7; try clear hfz18_8; try clear hfz18_9; try clear hfz20_0; try clear hfz20_1; try clear hfz20_2; try clear hfz20_3; try clear hfz20_4; try clear hfz20_5; try clear hfz20_6; try clear hfz20_7; try clear hfz20_8; try clear hfz20_9; try clear hfz26_0; try clear hfz27_0; try clear hfz27_1
               try clear hfz27_2; try clear hfz27_3; try clear hfz27_4; try clear hfz27_5; try clear hfz27_6; try clear hfz27_7; try clear hfz27_8; try clear hfz27_9; try clear hfz31_0; try clear hfz31_1; try clear hfz31_2; try clear hfz31_3; try clear hfz31_4; try clear hfz31_5; try clear hfz31_6; try clear hfz31_7; try clear hfz31_8; try clear hfz31_9; try clear hfz33_0; try clear hfz33_1; try clear hfz33_2; try clear hfz33_3; try clear hfz33_4; try clear hfz33_5; try clear hfz33_6; try clear hfz33_7; try clear hfz33_8; try clear hfz33_9; try clear hfz40_0; try clear hfz40_1; try clear hfz40_2; try clear hfz40_3; try clear hfz40_4; try clear hfz40_5; try clear hfz40_6; try clear hfz40_7; try clear hfz40_8; try clear hfz40_9; try clear hfz45_0; try clear hfz45_1; try clear hfz45_2; try clear hfz45_3; try clear hfz45_4; try clear hfz45_5; try clear hfz45_6; try clear hfz45_7; try clear hfz45_8; try clear hfz45_9; try clear hfz48_0; try clear hfz48_1; try clear hfz48_2; try clear hfz48_3; try clear hfz48_4; try clear hfz48_5; try clear hfz48_6; try clear hfz48_7; try clear hfz48_8; try clear hfz48_9; try clear hfz50_0; try clear hfz50_1; try clear hfz50_2; try clear hfz50_3; try clear hfz50_4; try clear hfz50_5; try clear hfz50_6; try clear hfz50_7; try clear hfz50_8; try clear hfz50_9; try clear hfz52_0; try clear hfz52_1; try clear hfz52_2; try clear hfz52_3; try clear hfz52_4; try clear hfz52_5; try clear hfz52_6; try clear hfz52_7; try clear hfz52_8; try clear hfz52_9; try clear hfz9_0; try clear hfz9_1; try clear hfz9_2; try clear hfz9_3; try clear hfz9_4; try clear hfz9_5; try clear hfz9_6; try clear hfz9_7; try clear hfz9_8; try clear hfz9_9; try clear p2
               obtain ⟨kq, x69_37, rfl, HA, HJ37, BK121, BK122, HB⟩ := hcut
               cases kq with
               | zero => exact absurd HA.out (by simp [job_node.j3])
               | succ kj37 =>
                have H := HA.out
                clear HA
                simp only [job_node.j3] at H
                by_cases c53 : x69_37 = true
                ·subst c53
                 have H1 : (some 86) = some r := by rw [if_pos rfl] at H; exact H
                 clear H
                 have H := H1
                 clear H1
                 obtain rfl := Option.some.inj H
                 go_wp2
                 go_ret
                 exact ⟨by first | rfl | (simp [errW_none, errW_some] <;> rfl) | (simp [*, errW_none, errW_some] <;> rfl), by repeat (first | (with_reducible first | exact HB.out | apply below_alloc | apply pw_below_drewN | apply below_drew1 | refine below_set ?_ GE121.out | refine below_set ?_ GE122.out) | exact HB.out)⟩
                ·replace c53 := Bool.eq_false_iff.mpr c53
                 subst c53
                 have H1 : (if a1_0 = 7 then ((job_win.f kj37 a1_7 a1_8 a1_9).bind fun t125 => (if t125 = true then (some 0) else (some 87))) else (if (!(a1_7 == 0) || (!(a1_8 == 0) || (!(a1_9 == 0)))) = true then (some 87) else (some 0))) = some r := by rw [if_neg (show ¬ (false = true) by decide)] at H; exact H
                 clear H
                 have H := H1
                 clear H1
                 by_cases c54 : a1_0 = 7
                 ·rw [if_pos c54] at H
                  have c54b0 : (a1_0 == 7) = true := beq_iff_eq.mpr c54
                  have c54b1 : (a1_0 != 7) = false := bne_eq_false_iff_eq.mpr c54
                  clear c54
                  replace H := Option.bind_eq_some_iff.mp H
                  obtain ⟨t125, A550, H⟩ := H
                  replace H : (if t125 = true then (some 0) else (some 87)) = some r := H
                  have A55 := Aside0.mk A550
                  clear A550
                  by_cases c56 : t125 = true
                  ·subst c56
                   have H1 : (some 0) = some r := by rw [if_pos rfl] at H; exact H
                   clear H
                   have H := H1
                   clear H1
                   obtain rfl := Option.some.inj H
                   have hnb57 := NB122_121.out
                   have hnc57 := NB121_122.out
                   have hcz58_0 : wc.cell? ⟨gb122, 0, none⟩ = some (.int .i64 a1_0) := (blk_cell BK122.out 0).trans rfl
                   have hcz58_1 : wc.cell? ⟨gb122, 1, none⟩ = some (.slice A1_1 l1_1.length c1_1) := (blk_cell BK122.out 1).trans rfl
                   have hcz58_2 : wc.cell? ⟨gb122, 2, none⟩ = some (.int .i64 a1_2) := (blk_cell BK122.out 2).trans rfl
                   have hcz58_3 : wc.cell? ⟨gb122, 3, none⟩ = some (.int .i64 a1_3) := (blk_cell BK122.out 3).trans rfl
                   have hcz58_4 : wc.cell? ⟨gb122, 4, none⟩ = some (.int .i64 a1_4) := (blk_cell BK122.out 4).trans rfl
                   have hcz58_5 : wc.cell? ⟨gb122, 5, none⟩ = some (.slice A1_5 l1_5.length c1_5) := (blk_cell BK122.out 5).trans rfl
                   have hcz58_6 : wc.cell? ⟨gb122, 6, none⟩ = some (.int .i64 a1_6) := (blk_cell BK122.out 6).trans rfl
                   have hcz58_7 : wc.cell? ⟨gb122, 7, none⟩ = some (.int .i64 a1_7) := (blk_cell BK122.out 7).trans rfl
                   have hcz58_8 : wc.cell? ⟨gb122, 8, none⟩ = some (.int .i64 a1_8) := (blk_cell BK122.out 8).trans rfl
                   have hcz58_9 : wc.cell? ⟨gb122, 9, none⟩ = some (.int .i64 a1_9) := (blk_cell BK122.out 9).trans rfl
                   have hfz58_0 := blk_frozen BK122.out 0
                   have hfz58_1 := blk_frozen BK122.out 1
                   have hfz58_2 := blk_frozen BK122.out 2
                   have hfz58_3 := blk_frozen BK122.out 3
                   have hfz58_4 := blk_frozen BK122.out 4
                   have hfz58_5 := blk_frozen BK122.out 5
                   have hfz58_6 := blk_frozen BK122.out 6
                   have hfz58_7 := blk_frozen BK122.out 7
                   have hfz58_8 := blk_frozen BK122.out 8
                   have hfz58_9 := blk_frozen BK122.out 9
                   go_wp2_with (first | (go_at_call 39; (with_reducible refine (job_win.calls kj37 a1_7 a1_8 a1_9 true _ A55.out).mono ?_); rintro e w59 ⟨rfl, hb⟩; have n0_ := Aside0.mk (blk_below (g := gb121) (o := .cells #[.slice A0_0 l0_0.length c0_0] 24 (0, 0)) (by (with_reducible repeat (first | refine blk_drewN ?_ _ | refine blk_drew ?_ | refine blk_alloc ?_ _)); exact BK121.out) hb); have n1_ := Aside0.mk (blk_below (g := gb122) (o := .cells #[.int .i64 a1_0, .slice A1_1 l1_1.length c1_1, .int .i64 a1_2, .int .i64 a1_3, .int .i64 a1_4, .slice A1_5 l1_5.length c1_5, .int .i64 a1_6, .int .i64 a1_7, .int .i64 a1_8, .int .i64 a1_9] 38 (0, 0)) (by (with_reducible repeat (first | refine blk_drewN ?_ _ | refine blk_drew ?_ | refine blk_alloc ?_ _)); exact BK122.out) hb); have n2_ := Aside0.mk (below_step (by repeat (first | (with_reducible first | exact HB.out | apply below_alloc | apply pw_below_drewN | apply below_drew1 | refine below_set ?_ GE121.out | refine below_set ?_ GE122.out) | exact HB.out)) hb); clear BK121; clear BK122; clear HB; have BK121 := n0_; have BK122 := n1_; have HB := n2_; clear n0_ n1_ n2_; (try clear hb); (try clear hb2); (try clear hk); (try clear hi); have hcz60_0 : w59.cell? ⟨gb122, 0, none⟩ = some (.int .i64 a1_0) := (blk_cell BK122.out 0).trans rfl; have hcz60_1 : w59.cell? ⟨gb122, 1, none⟩ = some (.slice A1_1 l1_1.length c1_1) := (blk_cell BK122.out 1).trans rfl; have hcz60_2 : w59.cell? ⟨gb122, 2, none⟩ = some (.int .i64 a1_2) := (blk_cell BK122.out 2).trans rfl; have hcz60_3 : w59.cell? ⟨gb122, 3, none⟩ = some (.int .i64 a1_3) := (blk_cell BK122.out 3).trans rfl; have hcz60_4 : w59.cell? ⟨gb122, 4, none⟩ = some (.int .i64 a1_4) := (blk_cell BK122.out 4).trans rfl; have hcz60_5 : w59.cell? ⟨gb122, 5, none⟩ = some (.slice A1_5 l1_5.length c1_5) := (blk_cell BK122.out 5).trans rfl; have hcz60_6 : w59.cell? ⟨gb122, 6, none⟩ = some (.int .i64 a1_6) := (blk_cell BK122.out 6).trans rfl; have hcz60_7 : w59.cell? ⟨gb122, 7, none⟩ = some (.int .i64 a1_7) := (blk_cell BK122.out 7).trans rfl; have hcz60_8 : w59.cell? ⟨gb122, 8, none⟩ = some (.int .i64 a1_8) := (blk_cell BK122.out 8).trans rfl; have hcz60_9 : w59.cell? ⟨gb122, 9, none⟩ = some (.int .i64 a1_9) := (blk_cell BK122.out 9).trans rfl; have hfz60_0 := blk_frozen BK122.out 0; have hfz60_1 := blk_frozen BK122.out 1; have hfz60_2 := blk_frozen BK122.out 2; have hfz60_3 := blk_frozen BK122.out 3; have hfz60_4 := blk_frozen BK122.out 4; have hfz60_5 := blk_frozen BK122.out 5; have hfz60_6 := blk_frozen BK122.out 6; have hfz60_7 := blk_frozen BK122.out 7; have hfz60_8 := blk_frozen BK122.out 8; have hfz60_9 := blk_frozen BK122.out 9))
                   go_ret
                   exact ⟨by first | rfl | (simp [errW_none, errW_some] <;> rfl) | (simp [*, errW_none, errW_some] <;> rfl), by repeat (first | (with_reducible first | exact HB.out | apply below_alloc | apply pw_below_drewN | apply below_drew1 | refine below_set ?_ GE121.out | refine below_set ?_ GE122.out) | exact HB.out)⟩
                  ·replace c56 := Bool.eq_false_iff.mpr c56
                   subst c56
                   have H1 : (some 87) = some r := by rw [if_neg (show ¬ (false = true) by decide)] at H; exact H
                   clear H
                   have H := H1
                   clear H1
                   obtain rfl := Option.some.inj H
                   have hnb61 := NB122_121.out
                   have hnc61 := NB121_122.out
                   have hcz62_0 : wc.cell? ⟨gb122, 0, none⟩ = some (.int .i64 a1_0) := (blk_cell BK122.out 0).trans rfl
                   have hcz62_1 : wc.cell? ⟨gb122, 1, none⟩ = some (.slice A1_1 l1_1.length c1_1) := (blk_cell BK122.out 1).trans rfl
                   have hcz62_2 : wc.cell? ⟨gb122, 2, none⟩ = some (.int .i64 a1_2) := (blk_cell BK122.out 2).trans rfl
                   have hcz62_3 : wc.cell? ⟨gb122, 3, none⟩ = some (.int .i64 a1_3) := (blk_cell BK122.out 3).trans rfl
                   have hcz62_4 : wc.cell? ⟨gb122, 4, none⟩ = some (.int .i64 a1_4) := (blk_cell BK122.out 4).trans rfl
                   have hcz62_5 : wc.cell? ⟨gb122, 5, none⟩ = some (.slice A1_5 l1_5.length c1_5) := (blk_cell BK122.out 5).trans rfl
                   have hcz62_6 : wc.cell? ⟨gb122, 6, none⟩ = some (.int .i64 a1_6) := (blk_cell BK122.out 6).trans rfl
                   have hcz62_7 : wc.cell? ⟨gb122, 7, none⟩ = some (.int .i64 a1_7) := (blk_cell BK122.out 7).trans rfl
                   have hcz62_8 : wc.cell? ⟨gb122, 8, none⟩ = some (.int .i64 a1_8) := (blk_cell BK122.out 8).trans rfl
                   have hcz62_9 : wc.cell? ⟨gb122, 9, none⟩ = some (.int .i64 a1_9) := (blk_cell BK122.out 9).trans rfl
                   have hfz62_0 := blk_frozen BK122.out 0
                   have hfz62_1 := blk_frozen BK122.out 1
                   have hfz62_2 := blk_frozen BK122.out 2
                   have hfz62_3 := blk_frozen BK122.out 3
                   have hfz62_4 := blk_frozen BK122.out 4
                   have hfz62_5 := blk_frozen BK122.out 5
                   have hfz62_6 := blk_frozen BK122.out 6
                   have hfz62_7 := blk_frozen BK122.out 7
                   have hfz62_8 := blk_frozen BK122.out 8
                   have hfz62_9 := blk_frozen BK122.out 9
                   go_wp2_with (first | (go_at_call 39; (with_reducible refine (job_win.calls kj37 a1_7 a1_8 a1_9 false _ A55.out).mono ?_); rintro e w63 ⟨rfl, hb⟩; have n0_ := Aside0.mk (blk_below (g := gb121) (o := .cells #[.slice A0_0 l0_0.length c0_0] 24 (0, 0)) (by (with_reducible repeat (first | refine blk_drewN ?_ _ | refine blk_drew ?_ | refine blk_alloc ?_ _)); exact BK121.out) hb); have n1_ := Aside0.mk (blk_below (g := gb122) (o := .cells #[.int .i64 a1_0, .slice A1_1 l1_1.length c1_1, .int .i64 a1_2, .int .i64 a1_3, .int .i64 a1_4, .slice A1_5 l1_5.length c1_5, .int .i64 a1_6, .int .i64 a1_7, .int .i64 a1_8, .int .i64 a1_9] 38 (0, 0)) (by (with_reducible repeat (first | refine blk_drewN ?_ _ | refine blk_drew ?_ | refine blk_alloc ?_ _)); exact BK122.out) hb); have n2_ := Aside0.mk (below_step (by repeat (first | (with_reducible first | exact HB.out | apply below_alloc | apply pw_below_drewN | apply below_drew1 | refine below_set ?_ GE121.out | refine below_set ?_ GE122.out) | exact HB.out)) hb); clear BK121; clear BK122; clear HB; have BK121 := n0_; have BK122 := n1_; have HB := n2_; clear n0_ n1_ n2_; (try clear hb); (try clear hb2); (try clear hk); (try clear hi)))
                   go_ret
                   exact ⟨by first | rfl | (simp [errW_none, errW_some] <;> rfl) | (simp [*, errW_none, errW_some] <;> rfl), by repeat (first | (with_reducible first | exact HB.out | apply below_alloc | apply pw_below_drewN | apply below_drew1 | refine below_set ?_ GE121.out | refine below_set ?_ GE122.out) | exact HB.out)⟩
                 ·rw [if_neg c54] at H
                  have c54b0 : (a1_0 == 7) = false := beq_eq_false_iff_ne.mpr c54
                  have c54b1 : (a1_0 != 7) = true := bne_iff_ne.mpr c54
                  by_cases c64 : (!(a1_7 == 0) || (!(a1_8 == 0) || (!(a1_9 == 0)))) = true
                  ·rw [if_pos c64] at H
                   have c64b0 : (!(a1_7 == 0) || (!(a1_8 == 0) || (!(a1_9 == 0)))) = true := c64
                   clear c64
                   obtain rfl := Option.some.inj H
                   have hnb65 := NB122_121.out
                   have hnc65 := NB121_122.out
                   have hcz66_0 : wc.cell? ⟨gb122, 0, none⟩ = some (.int .i64 a1_0) := (blk_cell BK122.out 0).trans rfl
                   have hcz66_1 : wc.cell? ⟨gb122, 1, none⟩ = some (.slice A1_1 l1_1.length c1_1) := (blk_cell BK122.out 1).trans rfl
                   have hcz66_2 : wc.cell? ⟨gb122, 2, none⟩ = some (.int .i64 a1_2) := (blk_cell BK122.out 2).trans rfl
                   have hcz66_3 : wc.cell? ⟨gb122, 3, none⟩ = some (.int .i64 a1_3) := (blk_cell BK122.out 3).trans rfl
                   have hcz66_4 : wc.cell? ⟨gb122, 4, none⟩ = some (.int .i64 a1_4) := (blk_cell BK122.out 4).trans rfl
                   have hcz66_5 : wc.cell? ⟨gb122, 5, none⟩ = some (.slice A1_5 l1_5.length c1_5) := (blk_cell BK122.out 5).trans rfl
                   have hcz66_6 : wc.cell? ⟨gb122, 6, none⟩ = some (.int .i64 a1_6) := (blk_cell BK122.out 6).trans rfl
                   have hcz66_7 : wc.cell? ⟨gb122, 7, none⟩ = some (.int .i64 a1_7) := (blk_cell BK122.out 7).trans rfl
                   have hcz66_8 : wc.cell? ⟨gb122, 8, none⟩ = some (.int .i64 a1_8) := (blk_cell BK122.out 8).trans rfl
                   have hcz66_9 : wc.cell? ⟨gb122, 9, none⟩ = some (.int .i64 a1_9) := (blk_cell BK122.out 9).trans rfl
                   have hfz66_0 := blk_frozen BK122.out 0
                   have hfz66_1 := blk_frozen BK122.out 1
                   have hfz66_2 := blk_frozen BK122.out 2
                   have hfz66_3 := blk_frozen BK122.out 3
                   have hfz66_4 := blk_frozen BK122.out 4
                   have hfz66_5 := blk_frozen BK122.out 5
                   have hfz66_6 := blk_frozen BK122.out 6
                   have hfz66_7 := blk_frozen BK122.out 7
                   have hfz66_8 := blk_frozen BK122.out 8
                   have hfz66_9 := blk_frozen BK122.out 9
                   go_wp2
                   go_ret
                   exact ⟨by first | rfl | (simp [errW_none, errW_some] <;> rfl) | (simp [*, errW_none, errW_some] <;> rfl), by repeat (first | (with_reducible first | exact HB.out | apply below_alloc | apply pw_below_drewN | apply below_drew1 | refine below_set ?_ GE121.out | refine below_set ?_ GE122.out) | exact HB.out)⟩
                  ·rw [if_neg c64] at H
                   have c64b0 : (!(a1_7 == 0) || (!(a1_8 == 0) || (!(a1_9 == 0)))) = false := by simpa using c64
                   clear c64
                   obtain rfl := Option.some.inj H
                   have hnb67 := NB122_121.out
                   have hnc67 := NB121_122.out
                   have hcz68_0 : wc.cell? ⟨gb122, 0, none⟩ = some (.int .i64 a1_0) := (blk_cell BK122.out 0).trans rfl
                   have hcz68_1 : wc.cell? ⟨gb122, 1, none⟩ = some (.slice A1_1 l1_1.length c1_1) := (blk_cell BK122.out 1).trans rfl
                   have hcz68_2 : wc.cell? ⟨gb122, 2, none⟩ = some (.int .i64 a1_2) := (blk_cell BK122.out 2).trans rfl
                   have hcz68_3 : wc.cell? ⟨gb122, 3, none⟩ = some (.int .i64 a1_3) := (blk_cell BK122.out 3).trans rfl
                   have hcz68_4 : wc.cell? ⟨gb122, 4, none⟩ = some (.int .i64 a1_4) := (blk_cell BK122.out 4).trans rfl
                   have hcz68_5 : wc.cell? ⟨gb122, 5, none⟩ = some (.slice A1_5 l1_5.length c1_5) := (blk_cell BK122.out 5).trans rfl
                   have hcz68_6 : wc.cell? ⟨gb122, 6, none⟩ = some (.int .i64 a1_6) := (blk_cell BK122.out 6).trans rfl
                   have hcz68_7 : wc.cell? ⟨gb122, 7, none⟩ = some (.int .i64 a1_7) := (blk_cell BK122.out 7).trans rfl
                   have hcz68_8 : wc.cell? ⟨gb122, 8, none⟩ = some (.int .i64 a1_8) := (blk_cell BK122.out 8).trans rfl
                   have hcz68_9 : wc.cell? ⟨gb122, 9, none⟩ = some (.int .i64 a1_9) := (blk_cell BK122.out 9).trans rfl
                   have hfz68_0 := blk_frozen BK122.out 0
                   have hfz68_1 := blk_frozen BK122.out 1
                   have hfz68_2 := blk_frozen BK122.out 2
                   have hfz68_3 := blk_frozen BK122.out 3
                   have hfz68_4 := blk_frozen BK122.out 4
                   have hfz68_5 := blk_frozen BK122.out 5
                   have hfz68_6 := blk_frozen BK122.out 6
                   have hfz68_7 := blk_frozen BK122.out 7
                   have hfz68_8 := blk_frozen BK122.out 8
                   have hfz68_9 := blk_frozen BK122.out 9
                   go_wp2
                   go_ret
                   exact ⟨by first | rfl | (simp [errW_none, errW_some] <;> rfl) | (simp [*, errW_none, errW_some] <;> rfl), by repeat (first | (with_reducible first | exact HB.out | apply below_alloc | apply pw_below_drewN | apply below_drew1 | refine below_set ?_ GE121.out | refine below_set ?_ GE122.out) | exact HB.out)⟩
             ·replace c37 := Bool.eq_false_iff.mpr c37
              subst c37
              have H1 : (some 85) = some r := by rw [if_neg (show ¬ (false = true) by decide)] at H; exact H
              clear H
              have H := H1
              clear H1
              obtain rfl := Option.some.inj H
              have hnb69 := NB122_121.out
              have hnc69 := NB121_122.out
              have hcz70_0 : wc.cell? ⟨gb122, 0, none⟩ = some (.int .i64 a1_0) := (blk_cell BK122.out 0).trans rfl
              have hcz70_1 : wc.cell? ⟨gb122, 1, none⟩ = some (.slice A1_1 l1_1.length c1_1) := (blk_cell BK122.out 1).trans rfl
              have hcz70_2 : wc.cell? ⟨gb122, 2, none⟩ = some (.int .i64 a1_2) := (blk_cell BK122.out 2).trans rfl
              have hcz70_3 : wc.cell? ⟨gb122, 3, none⟩ = some (.int .i64 a1_3) := (blk_cell BK122.out 3).trans rfl
              have hcz70_4 : wc.cell? ⟨gb122, 4, none⟩ = some (.int .i64 a1_4) := (blk_cell BK122.out 4).trans rfl
              have hcz70_5 : wc.cell? ⟨gb122, 5, none⟩ = some (.slice A1_5 l1_5.length c1_5) := (blk_cell BK122.out 5).trans rfl
              have hcz70_6 : wc.cell? ⟨gb122, 6, none⟩ = some (.int .i64 a1_6) := (blk_cell BK122.out 6).trans rfl
              have hcz70_7 : wc.cell? ⟨gb122, 7, none⟩ = some (.int .i64 a1_7) := (blk_cell BK122.out 7).trans rfl
              have hcz70_8 : wc.cell? ⟨gb122, 8, none⟩ = some (.int .i64 a1_8) := (blk_cell BK122.out 8).trans rfl
              have hcz70_9 : wc.cell? ⟨gb122, 9, none⟩ = some (.int .i64 a1_9) := (blk_cell BK122.out 9).trans rfl
              have hfz70_0 := blk_frozen BK122.out 0
              have hfz70_1 := blk_frozen BK122.out 1
              have hfz70_2 := blk_frozen BK122.out 2
              have hfz70_3 := blk_frozen BK122.out 3
              have hfz70_4 := blk_frozen BK122.out 4
              have hfz70_5 := blk_frozen BK122.out 5
              have hfz70_6 := blk_frozen BK122.out 6
              have hfz70_7 := blk_frozen BK122.out 7
              have hfz70_8 := blk_frozen BK122.out 8
              have hfz70_9 := blk_frozen BK122.out 9
              go_wp2_with (first | (go_at_call 38; (with_reducible refine (job_zero.calls a1_3 a1_4 _ _ l1_5 false _ ?side1 ?side2 A36.out).mono ?_); (case side1 => repeat (first | exact (Kd.C_below HR1_5.out HB.out) | (with_reducible refine Kd.C_alloc ?_ _) | (with_reducible refine Kd.C_drewN ?_ _) | (with_reducible refine Kd.C_drew ?_))); (case side2 => exact HC1_5.out); rintro e w71 ⟨rfl, hb⟩; have n0_ := Aside0.mk (blk_below (g := gb121) (o := .cells #[.slice A0_0 l0_0.length c0_0] 24 (0, 0)) (by (with_reducible repeat (first | refine blk_drewN ?_ _ | refine blk_drew ?_ | refine blk_alloc ?_ _)); exact BK121.out) hb); have n1_ := Aside0.mk (blk_below (g := gb122) (o := .cells #[.int .i64 a1_0, .slice A1_1 l1_1.length c1_1, .int .i64 a1_2, .int .i64 a1_3, .int .i64 a1_4, .slice A1_5 l1_5.length c1_5, .int .i64 a1_6, .int .i64 a1_7, .int .i64 a1_8, .int .i64 a1_9] 38 (0, 0)) (by (with_reducible repeat (first | refine blk_drewN ?_ _ | refine blk_drew ?_ | refine blk_alloc ?_ _)); exact BK122.out) hb); have n2_ := Aside0.mk (below_step (by repeat (first | (with_reducible first | exact HB.out | apply below_alloc | apply pw_below_drewN | apply below_drew1 | refine below_set ?_ GE121.out | refine below_set ?_ GE122.out) | exact HB.out)) hb); clear BK121; clear BK122; clear HB; have BK121 := n0_; have BK122 := n1_; have HB := n2_; clear n0_ n1_ n2_; (try clear hb); (try clear hb2); (try clear hk); (try clear hi)))
              go_ret
              exact ⟨by first | rfl | (simp [errW_none, errW_some] <;> rfl) | (simp [*, errW_none, errW_some] <;> rfl), by repeat (first | (with_reducible first | exact HB.out | apply below_alloc | apply pw_below_drewN | apply below_drew1 | refine below_set ?_ GE121.out | refine below_set ?_ GE122.out) | exact HB.out)⟩
        ·replace c23 := Bool.eq_false_iff.mpr c23
         subst c23
         have H1 : (some 82) = some r := by rw [if_neg (show ¬ (false = true) by decide)] at H; exact H
         clear H
         have H := H1
         clear H1
         obtain rfl := Option.some.inj H
         have hnb72 := NB121_122.out
         have hnc72 := NB122_121.out
         have hcz73_0 : wc.cell? ⟨gb121, 0, none⟩ = some (.slice A0_0 l0_0.length c0_0) := (blk_cell BK121.out 0).trans rfl
         have hfz73_0 := blk_frozen BK121.out 0
         have hcz74_0 : wc.cell? ⟨gb122, 0, none⟩ = some (.int .i64 a1_0) := (blk_cell BK122.out 0).trans rfl
         have hcz74_1 : wc.cell? ⟨gb122, 1, none⟩ = some (.slice A1_1 l1_1.length c1_1) := (blk_cell BK122.out 1).trans rfl
         have hcz74_2 : wc.cell? ⟨gb122, 2, none⟩ = some (.int .i64 a1_2) := (blk_cell BK122.out 2).trans rfl
         have hcz74_3 : wc.cell? ⟨gb122, 3, none⟩ = some (.int .i64 a1_3) := (blk_cell BK122.out 3).trans rfl
         have hcz74_4 : wc.cell? ⟨gb122, 4, none⟩ = some (.int .i64 a1_4) := (blk_cell BK122.out 4).trans rfl
         have hcz74_5 : wc.cell? ⟨gb122, 5, none⟩ = some (.slice A1_5 l1_5.length c1_5) := (blk_cell BK122.out 5).trans rfl
         have hcz74_6 : wc.cell? ⟨gb122, 6, none⟩ = some (.int .i64 a1_6) := (blk_cell BK122.out 6).trans rfl
         have hcz74_7 : wc.cell? ⟨gb122, 7, none⟩ = some (.int .i64 a1_7) := (blk_cell BK122.out 7).trans rfl
         have hcz74_8 : wc.cell? ⟨gb122, 8, none⟩ = some (.int .i64 a1_8) := (blk_cell BK122.out 8).trans rfl
         have hcz74_9 : wc.cell? ⟨gb122, 9, none⟩ = some (.int .i64 a1_9) := (blk_cell BK122.out 9).trans rfl
         have hfz74_0 := blk_frozen BK122.out 0
         have hfz74_1 := blk_frozen BK122.out 1
         have hfz74_2 := blk_frozen BK122.out 2
         have hfz74_3 := blk_frozen BK122.out 3
         have hfz74_4 := blk_frozen BK122.out 4
         have hfz74_5 := blk_frozen BK122.out 5
         have hfz74_6 := blk_frozen BK122.out 6
         have hfz74_7 := blk_frozen BK122.out 7
         have hfz74_8 := blk_frozen BK122.out 8
         have hfz74_9 := blk_frozen BK122.out 9
         go_wp2_with (first | ((with_reducible refine gate_callee (f := 36) rfl ?_); refine goesL_ (some 40) rfl rfl Try.func36 (by kernel_rfl) rfl #[.agg #[.slice A0_0 l0_0.length c0_0], .agg #[.int .i64 a1_0, .slice A1_1 l1_1.length c1_1, .int .i64 a1_2, .int .i64 a1_3, .int .i64 a1_4, .slice A1_5 l1_5.length c1_5, .int .i64 a1_6, .int .i64 a1_7, .int .i64 a1_8, .int .i64 a1_9]] rfl (by (try simp only [List.map_toArray, List.map_cons, List.map_nil]); first | done | rfl | (simp only [List.length_drop, List.length_take]; rfl)) ?_; (with_reducible refine (job_inputs.calls _ _ l0_0 a1_0 _ _ l1_1 a1_2 a1_3 a1_4 _ _ l1_5 a1_6 a1_7 a1_8 a1_9 false _ ?side1 ?side2 ?side3 ?side4 ?side5 ?side6 A22.out).mono ?_); (case side1 => repeat (first | exact (Kd.C_below HR0_0.out HB.out) | (with_reducible refine Kd.C_alloc ?_ _) | (with_reducible refine Kd.C_drewN ?_ _) | (with_reducible refine Kd.C_drew ?_))); (case side2 => exact HC0_0.out); (case side3 => repeat (first | exact (Kd.C_below HR1_1.out HB.out) | (with_reducible refine Kd.C_alloc ?_ _) | (with_reducible refine Kd.C_drewN ?_ _) | (with_reducible refine Kd.C_drew ?_))); (case side4 => exact HC1_1.out); (case side5 => repeat (first | exact (Kd.C_below HR1_5.out HB.out) | (with_reducible refine Kd.C_alloc ?_ _) | (with_reducible refine Kd.C_drewN ?_ _) | (with_reducible refine Kd.C_drew ?_))); (case side6 => exact HC1_5.out); rintro e w75 ⟨rfl, hb⟩; refine ⟨_, rfl, ?_⟩; have n0_ := Aside0.mk (blk_below (g := gb121) (o := .cells #[.slice A0_0 l0_0.length c0_0] 24 (0, 0)) (by (with_reducible repeat (first | refine blk_drewN ?_ _ | refine blk_drew ?_ | refine blk_alloc ?_ _)); exact BK121.out) hb); have n1_ := Aside0.mk (blk_below (g := gb122) (o := .cells #[.int .i64 a1_0, .slice A1_1 l1_1.length c1_1, .int .i64 a1_2, .int .i64 a1_3, .int .i64 a1_4, .slice A1_5 l1_5.length c1_5, .int .i64 a1_6, .int .i64 a1_7, .int .i64 a1_8, .int .i64 a1_9] 38 (0, 0)) (by (with_reducible repeat (first | refine blk_drewN ?_ _ | refine blk_drew ?_ | refine blk_alloc ?_ _)); exact BK122.out) hb); have n2_ := Aside0.mk (below_step (by repeat (first | (with_reducible first | exact HB.out | apply below_alloc | apply pw_below_drewN | apply below_drew1 | refine below_set ?_ GE121.out | refine below_set ?_ GE122.out) | exact HB.out)) hb); clear BK121; clear BK122; clear HB; have BK121 := n0_; have BK122 := n1_; have HB := n2_; clear n0_ n1_ n2_; (try clear hb); (try clear hb2); (try clear hk); (try clear hi)))
         go_ret
         exact ⟨by first | rfl | (simp [errW_none, errW_some] <;> rfl) | (simp [*, errW_none, errW_some] <;> rfl), by repeat (first | (with_reducible first | exact HB.out | apply below_alloc | apply pw_below_drewN | apply below_drew1 | refine below_set ?_ GE121.out | refine below_set ?_ GE122.out) | exact HB.out)⟩
end Go.Proofs.Ytpbmfdbfimcpjaa.X
namespace Go.Proofs.Ytpbmfdbfimcpjaa.X
open Go.RowKit Go.Proofs.YtpbmfdbfimcpjaaW.PrintWords Go.Proofs.YtpbmfdbfimcpjaaW.PrintLast
set_option linter.unusedVariables false
set_option linter.unusedSimpArgs false
def mayB (ins : List Bool) (i : Int) : Bool := decide (0 ≤ i) && (decide (i < ins.length) && ins.getD i.toNat false)
def bcells (ins : List Bool) : Array Value := (ins.map Value.bool).toArray
theorem bcells_at (ins : List Bool) (i : Nat) (h : i < ins.length) : (bcells ins)[i]? = some (.bool (ins.getD i false)) := by
  simp [bcells, h]
theorem bcells_set (ins : List Bool) (i : Nat) : (bcells ins).setIfInBounds i (.bool true) = bcells (ins.set i true) := by
  simp [bcells, List.map_set]
theorem may_any (b4 bs n : Nat) (ins : List Bool) (hn : ins.length = n) (i : Int) (w : World) (h4 : w.cell? ⟨b4, 0, none⟩ = some (.slice (some ⟨bs, 0, none⟩) n n)) (hs : w.heap[bs]? = some (.cells (bcells ins) 4 (0, 0))) :
    Calls Try.prog 24 #[.int .i64 i, .pointer (some ⟨b4, 0, none⟩)] w fun e w' => e = .returned (.bool (mayB ins i)) ∧ w = w' := by
  subst hn
  by_cases h0 : 0 ≤ i
  · by_cases h1 : i < ins.length
    · obtain ⟨j, rfl⟩ := Int.eq_ofNat_of_zero_le h0
      have hx : w.cell? ⟨bs, j, none⟩ = some (.bool (ins.getD j false)) := (blk_cell hs j).trans (bcells_at ins j (by omega))
      have hf : Aside0 (mayB ins (j : Int) = ins.getD j false) := ⟨by simp [mayB]; omega⟩
      obtain ⟨b, HB⟩ : ∃ b, Aside0 (b = ins.getD j false) := ⟨_, ⟨rfl⟩⟩
      rw [← HB.out] at hx
      clear hs
      go_enter Try.func24, Try.ntmps24
      go_wp2
      go_ret
      exact ⟨by rw [hf.out, ← HB.out]; rfl, rfl⟩
    · go_enter Try.func24, Try.ntmps24
      go_wp2
      go_ret
      exact ⟨by rw [mayB, decide_eq_false (by omega : ¬ (i < (ins.length : Int))), Bool.false_and, Bool.and_false]; rfl, rfl⟩
  · go_enter Try.func24, Try.ntmps24
    go_wp2
    go_ret
    exact ⟨by rw [mayB, decide_eq_false (by omega : ¬ (0 ≤ i)), Bool.false_and]; rfl, rfl⟩
def readyN (l : List S38) (ins : List Bool) (i : Nat) : Bool := !ins.getD i false && (l.getD i z38).f1.all (mayB ins)
def nextN (l : List S38) (ins : List Bool) : Option Nat := (List.range l.length).find? (readyN l ins)
def orderGo (l : List S38) : Nat → List Bool → List Int → List Int
  | 0, _, out => out
  | k + 1, ins, out => match nextN l ins with | none => out | some i => orderGo l k (ins.set i true) (out ++ [(i : Int)])
def jobOrder (l : List S38) : List Int := orderGo l (l.length + 1) (List.replicate l.length false) []
theorem next_none {l : List S38} {ins : List Bool} (h : ∀ j, j < l.length → readyN l ins j = false) : nextN l ins = none := by
  unfold nextN; rw [List.find?_eq_none]; intro x hx; rw [h x (by simpa using hx)]; simp
theorem next_some {l : List S38} {ins : List Bool} {i : Nat} (hi : i < l.length) (h : ∀ j, j < i → readyN l ins j = false) (hr : readyN l ins i = true) : nextN l ins = some i := by
  unfold nextN
  rw [List.find?_range_eq_some]
  exact ⟨hr, by simpa using hi, fun j hj => by rw [h j hj]; rfl⟩
theorem order_none {l : List S38} {k : Nat} {ins : List Bool} {out : List Int} (h : nextN l ins = none) : orderGo l (k + 1) ins out = out := by
  rw [orderGo, h]
theorem order_some {l : List S38} {k i : Nat} {ins : List Bool} {out : List Int} (h : nextN l ins = some i) : orderGo l (k + 1) ins out = orderGo l k (ins.set i true) (out ++ [(i : Int)]) := by
  rw [orderGo, h]
theorem count_step {ins : List Bool} {i : Nat} (hi : i < ins.length) (h : ins.getD i false = false) : (ins.set i true).count false + 1 = ins.count false := by
  have h' : ins[i] = false := by simpa [List.getD_eq_getElem?_getD, hi] using h
  have hp : 0 < ins.count false := List.count_pos_iff.2 (h' ▸ List.getElem_mem hi)
  rw [List.count_set hi, h']; simp; omega
def job_Order.f (l : List S38) : Option (List Int) := if l.length < 17592186044416 then some (jobOrder l) else none
theorem made_bools (n : Nat) : madeCells #[.bool false] n = bcells (List.replicate n false) := by
  apply Array.ext'
  simp [madeCells, bcells]
  apply List.ext_getElem
  · simp
  · intro i h1 h2; simp [Nat.mod_one]
structure OrdW (w : World) (A0 : Option Addr) (c0 : Nat) (l : List S38) (ins : List Bool) (wr : World) : Prop where
  bj : wr.heap[w.heap.size]? = some (.cells #[.slice A0 l.length c0] 24 (0, 0))
  bs : wr.heap[w.heap.size + 1]? = some (.cells (bcells ins) 4 (0, 0))
  b4 : wr.heap[w.heap.size + 1 + 1]? = some (.cells #[.slice (some ⟨w.heap.size + 1, 0, none⟩) l.length l.length] 29 (0, 0))
  hb : Below w.heap.size w wr
  hl : ins.length = l.length
theorem OrdW.step {w wr w2 : World} {A0 : Option Addr} {c0 : Nat} {l : List S38} {ins : List Bool} (h : OrdW w A0 c0 l ins wr) (k : Below wr.heap.size wr w2) : OrdW w A0 c0 l ins w2 :=
  ⟨blk_below h.bj k, blk_below h.bs k, blk_below h.b4 k, below_step h.hb k, h.hl⟩
theorem OrdW.grown {w wr w2 : World} {A0 : Option Addr} {c0 : Nat} {l : List S38} {ins : List Bool} {v : Value} {xs : List Int} (h : OrdW w A0 c0 l ins wr) (ho : Kd.R (Kd.int .i64) 3 wr w.heap.size (fun _ => True) v xs) (hg : wr.grownBy w2 v.ownBlock) (hb : Below w.heap.size w w2) : OrdW w A0 c0 l ins w2 :=
  ⟨blk_grown h.bj hg (Kd.R_ne ho h.bj (by decide)), blk_grown h.bs hg (Kd.R_ne ho h.bs (by decide)), blk_grown h.b4 hg (Kd.R_ne ho h.b4 (by decide)), hb, h.hl⟩
theorem OrdW.store {w wr : World} {A0 : Option Addr} {c0 : Nat} {l : List S38} {ins : List Bool} (h : OrdW w A0 c0 l ins wr) (i : Nat) : OrdW w A0 c0 l (ins.set i true) (wr.setCell ⟨w.heap.size + 1, i, none⟩ (.bool true)) :=
  ⟨blk_far h.bj (by simp) _, by rw [blk_set h.bs, bcells_set], blk_far h.b4 (by simp) _, h.hb.setCell (by simp) _, by rw [List.length_set]; exact h.hl⟩
theorem OrdW.cj {w wr : World} {A0 : Option Addr} {c0 : Nat} {l : List S38} {ins : List Bool} (h : OrdW w A0 c0 l ins wr) : wr.cell? ⟨w.heap.size, 0, none⟩ = some (.slice A0 l.length c0) := (blk_cell h.bj 0).trans rfl
theorem OrdW.c4 {w wr : World} {A0 : Option Addr} {c0 : Nat} {l : List S38} {ins : List Bool} (h : OrdW w A0 c0 l ins wr) : wr.cell? ⟨w.heap.size + 1 + 1, 0, none⟩ = some (.slice (some ⟨w.heap.size + 1, 0, none⟩) l.length l.length) := (blk_cell h.b4 0).trans rfl
theorem OrdW.cs {w wr : World} {A0 : Option Addr} {c0 : Nat} {l : List S38} {ins : List Bool} (h : OrdW w A0 c0 l ins wr) (i : Nat) (hi : i < l.length) : wr.cell? ⟨w.heap.size + 1, i, none⟩ = some (.bool (ins.getD i false)) := (blk_cell h.bs i).trans (bcells_at ins i (by rw [h.hl]; exact hi))
theorem OrdW.fs {w wr : World} {A0 : Option Addr} {c0 : Nat} {l : List S38} {ins : List Bool} (h : OrdW w A0 c0 l ins wr) (i : Nat) : wr.frozen? ⟨w.heap.size + 1, i, none⟩ = false := blk_frozen h.bs i
set_option maxHeartbeats 4000000 in
theorem job_Order.calls (A0 : Option Addr) (c0 : Nat) (l : List S38) (r : List Int) (w : World) (hr0 : Kd.C k38 w A0 l.length l) (hc0 : l.length ≤ c0) (h : job_Order.f l = some r) :
    Calls Try.prog 9 #[.agg #[.slice A0 l.length c0]] w fun e w' => ∃ v0_ : Value, e = .returned v0_ ∧ Kd.R (Kd.int .i64) 3 w' w.heap.size (fun _ => True) v0_ r ∧ Below w.heap.size w w' := by
  have hn : l.length < 17592186044416 := by unfold job_Order.f at h; split at h; assumption; cases h
  obtain rfl : jobOrder l = r := by unfold job_Order.f at h; rw [if_pos hn] at h; exact Option.some.inj h
  clear h
  have hmk : ∀ W : World, (Instr.makeSlice 29 (.int .i64 (l.length : Int)) (.int .i64 (l.length : Int))).run Try.prog W = .ok (.slice (some ⟨W.heap.size, 0, none⟩) l.length l.length) (W.alloc (.cells (madeCells #[.bool false] l.length) 4)) := by
    intro W
    exact run_make_row' 29 4 (.bool false) 1 Try.underlying29 info4 rfl .i64 .i64 l.length (by omega) (by omega) W
  go_enter Try.func9, Try.ntmps9
  go_wp2_with fail
  go_step3
  go_wp2_with fail
  go_step3
  go_wp2_with fail
  have HR0 := Aside0.mk hr0
  have HO := Aside0.mk (show OrdW w A0 c0 l (List.replicate l.length false) (((w.alloc (.cells #[.slice A0 l.length c0] 24)).alloc (.cells (madeCells #[.bool false] l.length) 4)).alloc (.cells #[.slice (some ⟨w.heap.size + 1, 0, none⟩) l.length l.length] 29)) from
    ⟨((Below.heap_alloc _ _ _ (by simp; omega)).trans (Below.heap_alloc _ _ _ (by simp))).trans (heap_alloc_new _ _), (Below.heap_alloc _ _ _ (by simp)).trans (by rw [made_bools]; have := heap_alloc_new (w.alloc (.cells #[.slice A0 l.length c0] 24)) (.cells (bcells (List.replicate l.length false)) 4); simpa using this), by have := heap_alloc_new ((w.alloc (.cells #[.slice A0 l.length c0] 24)).alloc (.cells (madeCells #[.bool false] l.length) 4)) (.cells #[.slice (some ⟨w.heap.size + 1, 0, none⟩) l.length l.length] 29); simpa using this, (((Below.refl _ _).alloc (Nat.le_refl _) _).alloc (by simp) _).alloc (by simp; omega) _, by simp⟩)
  clear hr0
  go_loopg [3] (l.length + 1) (fun k v3 wr => ∃ (ins : List Bool) (outl : List Int), Aside0 (k = ins.count false + 1) ∧ Aside0 (outl.length + ins.count false = l.length) ∧ Aside0 (orderGo l k ins outl = jobOrder l) ∧ Aside0 (OrdW w A0 c0 l ins wr) ∧ Aside0 (Kd.R (Kd.int .i64) 3 wr w.heap.size (fun _ => True) v3 outl))
  case atStart => exact ⟨_, [], ⟨by simp⟩, ⟨by simp⟩, ⟨rfl⟩, HO, ⟨Kd.R_nil _ _ _ _ _⟩⟩
  case round =>
    obtain ⟨ins, outl, HK, HL, HG, HO, HV⟩ := hrel
    obtain ⟨g1, Hg1⟩ : ∃ g1, Aside0 (gk = g1 + 1) := ⟨gk - 1, ⟨by have := HK.out; omega⟩⟩
    have hcj := HO.out.cj
    go_wp2_with fail
    go_step3
    go_wp2_with fail
    go_step3
    go_wp2_with fail
    clear hcj
    go_loopg [3, 18] l.length (fun k y3 y18 wr2 => ∃ i : Nat, y18 = .int .i64 i ∧ y3 = u3 ∧ i ≤ l.length ∧ Aside0 (k + i = l.length) ∧ Aside0 (∀ j, j < i → readyN l ins j = false) ∧ Aside0 (OrdW w A0 c0 l ins wr2) ∧ Aside0 (Kd.R (Kd.int .i64) 3 wr2 w.heap.size (fun _ => True) u3 outl))
    case atStart => exact ⟨0, rfl, rfl, by omega, ⟨by omega⟩, ⟨fun j h => absurd h (by omega)⟩, HO, HV⟩
    case round =>
      clear HO HV
      obtain ⟨i, rfl, rfl, hi, HI, HN, HO, HV⟩ := hrel
      by_cases hlt : i < l.length
      · obtain ⟨ad, A1, c1, A5, c5, e, hx0, hx1, hx2, hx3, hx4, hx5, hx6, hx7, hx8, hx9, l1, g1, l5, g5⟩ := at_T38 HR0.out (i : Int) (by omega) (by omega)
        cases e
        have er : rd_T38 l (i : Int) = l.getD i z38 := by simp [rd_T38]
        obtain ⟨x, HX⟩ : ∃ x, Aside0 (x = l.getD i z38) := ⟨_, ⟨rfl⟩⟩
        rw [← HX.out] at er
        simp only [er, Int.toNat_natCast] at hx0 hx1 hx2 hx3 hx4 hx5 hx6 hx7 hx8 hx9 l1 g1
        clear er l5 g5
        have hxl : x.f1.length ≤ 9223372036854775807 := g1.2.1
        have HL1 := Aside0.mk l1
        have HG1 := Aside0.mk g1
        clear l1 g1
        replace hx0 := (HO.out.hb.cell (World.block_lt_of_cell? w _ hx0)).trans hx0
        replace hx1 := (HO.out.hb.cell (World.block_lt_of_cell? w _ hx1)).trans hx1
        replace hx2 := (HO.out.hb.cell (World.block_lt_of_cell? w _ hx2)).trans hx2
        replace hx3 := (HO.out.hb.cell (World.block_lt_of_cell? w _ hx3)).trans hx3
        replace hx4 := (HO.out.hb.cell (World.block_lt_of_cell? w _ hx4)).trans hx4
        replace hx5 := (HO.out.hb.cell (World.block_lt_of_cell? w _ hx5)).trans hx5
        replace hx6 := (HO.out.hb.cell (World.block_lt_of_cell? w _ hx6)).trans hx6
        replace hx7 := (HO.out.hb.cell (World.block_lt_of_cell? w _ hx7)).trans hx7
        replace hx8 := (HO.out.hb.cell (World.block_lt_of_cell? w _ hx8)).trans hx8
        replace hx9 := (HO.out.hb.cell (World.block_lt_of_cell? w _ hx9)).trans hx9
        have hc4 := HO.out.c4
        have hcs := HO.out.cs i hlt
        obtain ⟨b, HBB⟩ : ∃ b, Aside0 (b = ins.getD i false) := ⟨_, ⟨rfl⟩⟩
        rw [← HBB.out] at hcs
        have hsz : w.heap.size + 1 + 1 < wr.heap.size := blk_lt HO.out.b4
        have hsz1 : w.heap.size + 1 < wr.heap.size := blk_lt HO.out.bs
        obtain ⟨g2, Hg2⟩ : ∃ g2, Aside0 (gk = g2 + 1) := ⟨gk - 1, ⟨by have := HI.out; omega⟩⟩
        have HI' : Aside0 (g2 + (i + 1) = l.length) := ⟨by have := HI.out; have := Hg2.out; omega⟩
        cases b with
        | true =>
          go_wp2_with fail
          go_roundg g2
          case measure => have := Hg2.out; omega
          case rel => exact ⟨i + 1, by go_num, rfl, by omega, HI', ⟨fun j hj => by
            rcases Nat.lt_or_ge j i with h1 | h1
            · exact HN.out j h1
            · obtain rfl : j = i := by omega
              unfold readyN; rw [← HBB.out]; rfl⟩, ⟨HO.out.step ((Below.refl _ _).alloc (Nat.le_refl _) _)⟩, ⟨Kd.R_below HV.out ((Below.refl _ _).alloc (Nat.le_refl _) _)⟩⟩
        | false =>
          go_wp2_with fail
          clear hx0 hx1 hx2 hx3 hx4 hx5 hx6 hx7 hx8 hx9 hc4 hcs hsz hsz1
          go_loopg [30] x.f1.length (fun k y30 wr3 => ∃ m : Nat, y30 = .int .i64 m ∧ m ≤ x.f1.length ∧ Aside0 (k + m = x.f1.length) ∧ Aside0 (∀ q, q < m → mayB ins (x.f1.getD q 0) = true) ∧ Aside0 (OrdW w (some ad) c0 l ins wr3) ∧ Aside0 (Kd.R (Kd.int .i64) 3 wr3 w.heap.size (fun _ => True) u3 outl))
          case atStart => exact ⟨0, rfl, by omega, ⟨by omega⟩, ⟨fun q h => absurd h (by omega)⟩, ⟨HO.out.step ((Below.refl _ _).alloc (Nat.le_refl _) _)⟩, ⟨Kd.R_below HV.out ((Below.refl _ _).alloc (Nat.le_refl _) _)⟩⟩
          case round =>
            clear HO HV
            obtain ⟨m, rfl, hm, HM, HQ, HO, HV⟩ := hrel
            by_cases hmt : m < x.f1.length
            · obtain ⟨ad1, e, hy⟩ := Kd.at_int HG1.out (m : Int) (by omega) (by omega)
              cases e
              have er : rd x.f1 (m : Int) = x.f1.getD m 0 := by simp [rd]
              obtain ⟨y, HY⟩ : ∃ y, Aside0 (y = x.f1.getD m 0) := ⟨_, ⟨rfl⟩⟩
              rw [er, ← HY.out, Int.toNat_natCast] at hy
              clear er
              replace hy := (HO.out.hb.cell (World.block_lt_of_cell? w _ hy)).trans hy
              obtain ⟨g3, Hg3⟩ : ∃ g3, Aside0 (gk = g3 + 1) := ⟨gk - 1, ⟨by have := HM.out; omega⟩⟩
              have HM' : Aside0 (g3 + (m + 1) = x.f1.length) := ⟨by have := HM.out; have := Hg3.out; omega⟩
              obtain ⟨b, HBY⟩ : ∃ b, Aside0 (b = mayB ins y) := ⟨_, ⟨rfl⟩⟩
              go_wp2_with fail
              have hcall := may_any _ _ _ ins HO.out.hl y wr HO.out.c4 HO.out.bs
              rw [← HBY.out] at hcall
              refine hcall.mono ?_
              clear hcall
              rintro e w1 ⟨rfl, rfl⟩
              cases b with
              | true =>
                go_wp2_with fail
                go_roundg g3
                case measure => have := Hg3.out; omega
                case rel => exact ⟨m + 1, by go_num, by omega, HM', ⟨fun q hq => by
                  rcases Nat.lt_or_ge q m with h1 | h1
                  · exact HQ.out q h1
                  · obtain rfl : q = m := by omega
                    rw [← HY.out]; exact HBY.out.symm⟩, HO, HV⟩
              | false =>
                go_wp2_with fail
                go_roundg g2
                case measure => have := Hg2.out; omega
                case rel => exact ⟨i + 1, by go_num, rfl, by omega, HI', ⟨fun j hj => by
                  rcases Nat.lt_or_ge j i with h1 | h1
                  · exact HN.out j h1
                  · obtain rfl : j = i := by omega
                    unfold readyN
                    rw [← HX.out, List.all_eq_false.2 ⟨y, by rw [HY.out, List.getD_eq_getElem?_getD, List.getElem?_eq_getElem hmt]; exact List.getElem_mem hmt, by rw [← HBY.out]; simp⟩, Bool.and_false]⟩, HO, HV⟩
            · have hrdy : readyN l ins i = true := by
                unfold readyN
                rw [← HBB.out, ← HX.out, List.all_eq_true.2 (fun y hy => by
                  obtain ⟨q, hq, rfl⟩ := List.getElem_of_mem hy
                  have := HQ.out q (by omega)
                  rwa [List.getD_eq_getElem?_getD, List.getElem?_eq_getElem hq] at this)]
                rfl
              have HNX := Aside0.mk (next_some hlt HN.out hrdy)
              clear hrdy
              have hc4 := HO.out.c4
              have hcs := HO.out.cs i hlt
              have hfs := HO.out.fs i
              have HC := Aside0.mk (count_step (ins := ins) (i := i) (by rw [HO.out.hl]; exact hlt) HBB.out.symm)
              have HI2 := Aside0.mk (HO.out.store i)
              have HV2 := Aside0.mk (Kd.R_set HV.out HO.out.bs (by decide) i (.bool true))
              clear HO HV
              go_wp2_with (at_builtin; refine Kd.R_append (Kd.int .i64) (w0 := w) w.heap.size rfl (.tmp 42) (.tmp 44) 30 3 (.int .i64 0) 8 rfl Try.underlying30 info3 rfl (by decide) (by omega) u3 outl (i : Int) [.int .i64 (i : Int)] (fun _ => True) (fun _ => False) rfl (Eq.trans (b := Value.slice (some ⟨wr.heap.size, 0, none⟩) 1 1) rfl (by simp)) rfl (fun _ h => h.elim) (fun _ _ => trivial) HV2.out HI2.out.hb HI2.out.hb.size ?aL ?_)
              case aL => have := HL.out; have := HC.out; omega
              intro v1 w1 ho hb hg _hat
              have HI3 := Aside0.mk (HI2.out.grown HV2.out (World.grownBy.trans (World.grownBy.refl _ _) hg) hb)
              have HV3 := Aside0.mk ho
              clear ho hb hg _hat HI2 HV2
              go_wp2_with fail
              rw [Exit.noGoto_exit]
              go_wp2_with fail
              go_roundg g1
              case measure => have := Hg1.out; omega
              case rel => exact ⟨ins.set i true, outl ++ [(i : Int)], ⟨by have := HK.out; have := Hg1.out; have := HC.out; omega⟩, ⟨by have := HL.out; have := HC.out; simp only [List.length_append, List.length_cons, List.length_nil]; omega⟩, ⟨by have := HG.out; rw [Hg1.out, order_some HNX.out] at this; exact this⟩, HI3, HV3⟩
      · have HNX := Aside0.mk (next_none (l := l) (ins := ins) (fun j hj => HN.out j (by omega)))
        have HR := HG.out
        rw [Hg1.out, order_none HNX.out] at HR
        have HR' := Aside0.mk HR
        clear HR
        go_wp2_with fail
        rw [Exit.noGoto_ret]
        simp only [Exit.inBlock, Exit.then, Exit.noGoto_ret]
        go_ret
        refine ⟨u3, rfl, ?_, HO.out.hb⟩
        rw [← HR'.out]; exact HV.out
end Go.Proofs.Ytpbmfdbfimcpjaa.X
namespace Go.Proofs.Ytpbmfdbfimcpjaa.X
open Go.RowKit Go.Proofs.YtpbmfdbfimcpjaaW.PrintWords
set_option linter.unusedVariables false
set_option linter.unusedSimpArgs false
section
variable {α β : Type}
theorem ev_pos {c : Prop} [Decidable c] {f g : Nat → Option α} {r : α} (h : c) (k : Ev f r) : Ev (fun n => if c then f n else g n) r := Ev.congr (fun _ => if_pos h) k
theorem ev_neg {c : Prop} [Decidable c] {f g : Nat → Option α} {r : α} (h : ¬ c) (k : Ev g r) : Ev (fun n => if c then f n else g n) r := Ev.congr (fun _ => if_neg h) k
theorem ev_now {r r' : α} (h : r' = r) : Ev (fun _ => some r') r := h ▸ Ev.now _
end
theorem step_i {i n : Nat} (h : i < n) (hn : n ≤ 9223372036854775807) : wrap64 ((i : Int) + 1) = ((i + 1 : Nat) : Int) := by unfold wrap64; omega
theorem rd_at {l : List Int} {i : Nat} (h : i < l.length) : rd l (i : Int) = l[i] := by simp [rd, h]
theorem rd38_at {l : List S38} {i : Nat} (h : i < l.length) : rd_T38 l (i : Int) = l[i] := by simp [rd_T38, h]
def SmallD : Nat → S34 → Prop
  | 0, _ => False
  | d + 1, e => e.f2.length ≤ 9223372036854775807 ∧ ∀ x ∈ e.f2, SmallD d x
def SmallN (x : S38) : Prop := x.f1.length ≤ 9223372036854775807 ∧ ∃ d, SmallD d x.f3
end Go.Proofs.Ytpbmfdbfimcpjaa.X
namespace Go.Proofs.Ytpbmfdbfimcpjaa.X
open Go.RowKit Go.Proofs.YtpbmfdbfimcpjaaW.PrintWords
set_option linter.unusedVariables false
set_option linter.unusedSimpArgs false
theorem next_of {l : List S38} {ins : List Bool} {i : Nat} (h : nextN l ins = some i) : i < l.length ∧ readyN l ins i = true := by
  unfold nextN at h
  exact ⟨List.mem_range.1 (List.mem_of_find?_eq_some h), List.find?_some h⟩
theorem ready_not {l : List S38} {ins : List Bool} {i : Nat} (h : readyN l ins i = true) : ins.getD i false = false := by
  unfold readyN at h; rw [Bool.and_eq_true] at h; simpa using h.1
end Go.Proofs.Ytpbmfdbfimcpjaa.X
