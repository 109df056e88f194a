/- Contracts of slices.IndexFunc and slices.ContainsFunc at the element types of the job layer, at any function value whose calls are known. -/
import Derived.Test.YtpbmfdbfimcpjaaXt
import Derived.Lib.Hide
import Derived.WalkLawsBesides
import Derived.Laws.EntriesVeiled
namespace Go.Proofs.Ytpbmfdbfimcpjaa.X
open Go.RowKit Go.Proofs.YtpbmfdbfimcpjaaW.PrintWords Go.Proofs.YtpbmfdbfimcpjaaW.PrintLast
set_option linter.unusedVariables false
set_option linter.unusedSimpArgs false
def idxOf {α : Type} (p : α → Bool) (l : List α) : Int := match l.findIdx? p with | some i => i | none => -1
theorem idx_none {α : Type} {p : α → Bool} {l : List α} (h : ∀ j (hj : j < l.length), p l[j] = false) : idxOf p l = -1 := by
  unfold idxOf
  rw [List.findIdx?_eq_none_iff.2]
  intro x hx; obtain ⟨j, hj, rfl⟩ := List.getElem_of_mem hx; exact h j hj
theorem idx_some {α : Type} {p : α → Bool} {l : List α} {i : Nat} (hi : i < l.length) (h1 : p l[i] = true) (h : ∀ j (hj : j < i), p (l[j]'(by omega)) = false) : idxOf p l = i := by
  unfold idxOf
  rw [(List.findIdx?_eq_some_iff_getElem).2 ⟨hi, h1, fun j hj => by rw [h j hj]; simp⟩]
theorem idx_any {α : Type} (p : α → Bool) (l : List α) : decide (0 ≤ idxOf p l) = l.any p := by
  unfold idxOf
  cases h : l.findIdx? p with
  | none =>
    have := List.findIdx?_eq_none_iff.1 h
    have e : l.any p = false := by rw [List.any_eq_false]; intro x hx; rw [this x hx]; simp
    rw [e]; rfl
  | some i =>
    obtain ⟨hi, h1, _⟩ := List.findIdx?_eq_some_iff_getElem.1 h
    have e : l.any p = true := List.any_eq_true.2 ⟨l[i], List.getElem_mem hi, h1⟩
    rw [e]; simp
/-- What a call of the function value answers, at each element, in every later world. -/
def Pred {α : Type} (vals : α → Value) (g : Nat) (cap : Array Value) (p : α → Bool) (l : List α) (w : World) : Prop :=
  ∀ (x : α), x ∈ l → ∀ W, Below w.heap.size w W → Calls Try.prog g (#[vals x] ++ cap) W fun e W' => e = .returned (.bool (p x)) ∧ Below W.heap.size W W'
/-- The same where an element's cells lead to memory. -/
def PredK {α : Type} (K : World → α → List Value → Prop) (g : Nat) (cap : Array Value) (p : α → Bool) (l : List α) (w : World) : Prop :=
  ∀ (x : α), x ∈ l → ∀ cs, K w x cs → ∀ W, Below w.heap.size w W → Calls Try.prog g (#[.agg cs.toArray] ++ cap) W fun e W' => e = .returned (.bool (p x)) ∧ Below W.heap.size W W'

set_option maxHeartbeats 2000000 in
theorem idx_32 (g : Nat) (cap : Array Value) (p : Int → Bool) (A : Option Addr) (c : Nat) (l : List Int) (w : World)
    (eg : ∀ args w, (callFunc g args).run Try.prog w = .ok (.enter g args) w)
    (hC : Kd.C (Kd.int .i64) w A l.length l) (hl : l.length ≤ c)
    (hp : Pred (fun x : Int => .int .i64 x) g cap p l w) :
    Calls Try.prog 32 #[.slice A l.length c, .func (.func g) #[] cap] w fun e w' => e = .returned (.int .i64 (idxOf p l)) ∧ Below w.heap.size w w' := by
  have hn : l.length ≤ 9223372036854775807 := hC.2.1
  have HC := Aside0.mk hC
  have HP := Aside0.mk hp
  clear hC hp
  go_enter Try.func32, Try.ntmps32
  go_wp2
  go_loopg [5, 8] l.length (fun k v5 v8 wr => ∃ i : Nat, v8 = .int .i64 i ∧ i ≤ l.length ∧ Aside0 (k + i = l.length) ∧ Aside0 (∀ j (hj : j < l.length), j < i → p l[j] = false) ∧ Aside0 (Below w.heap.size w wr))
  case atStart => exact ⟨0, rfl, by omega, ⟨by omega⟩, ⟨fun j hj h => absurd h (by omega)⟩, ⟨Below.refl _ _⟩⟩
  case round =>
    obtain ⟨i, rfl, hi, HK, HN, HB⟩ := hrel
    by_cases hlt : i < l.length
    · have _t := hlt
      obtain ⟨ad, e, hx0⟩ := Kd.at_int HC.out (i : Int) (by omega) (by omega)
      cases e
      have er : rd l (i : Int) = l[i] := by simp [rd, hlt]
      obtain ⟨x, HX⟩ : ∃ x, Aside0 (x = l[i]) := ⟨_, ⟨rfl⟩⟩
      rw [← HX.out] at er
      simp only [er, Int.toNat_natCast] at hx0
      clear er
      replace hx0 := (HB.out.cell (World.block_lt_of_cell? w _ hx0)).trans hx0
      obtain ⟨b, HBB⟩ : ∃ b, Aside0 (b = p x) := ⟨_, ⟨rfl⟩⟩
      go_wp2_with fail
      have hcall := HP.out x (by rw [HX.out]; exact List.getElem_mem _) wr HB.out
      rw [← HBB.out] at hcall
      refine hcall.mono ?_
      clear hcall
      rintro e w1 ⟨rfl, hb⟩
      have n0_ := Aside0.mk (below_step HB.out hb)
      clear HB hb
      cases b with
      | true =>
        go_wp2
        go_ret
        exact ⟨by rw [idx_some hlt (by rw [← HX.out]; exact HBB.out.symm) (fun j hj => HN.out j (by omega) hj)]; rfl, n0_.out⟩
      | false =>
        go_wp2
        go_roundg (gk - 1)
        case measure => have := HK.out; omega
        case rel => exact ⟨i + 1, by go_num, by omega, ⟨by have := HK.out; omega⟩, ⟨fun j hj h => by
          rcases Nat.lt_or_ge j i with h1 | h1
          · exact HN.out j hj h1
          · obtain rfl : j = i := by omega
            rw [← HX.out]; exact HBB.out.symm⟩, n0_⟩
    · go_wp2_with fail
      go_ret
      exact ⟨by rw [idx_none (fun j hj => HN.out j hj (by omega))]; rfl, HB.out⟩

theorem contains_19 (g : Nat) (cap : Array Value) (p : Int → Bool) (A : Option Addr) (c : Nat) (l : List Int) (w : World)
    (eg : ∀ args w, (callFunc g args).run Try.prog w = .ok (.enter g args) w)
    (hC : Kd.C (Kd.int .i64) w A l.length l) (hl : l.length ≤ c)
    (hp : Pred (fun x : Int => .int .i64 x) g cap p l w) :
    Calls Try.prog 19 #[.slice A l.length c, .func (.func g) #[] cap] w fun e w' => e = .returned (.bool (l.any p)) ∧ Below w.heap.size w w' := by
  have hc := idx_32 g cap p A c l w eg hC hl hp
  have HI := Aside0.mk (idx_any p l)
  clear hC hp
  go_enter Try.func19, Try.ntmps19
  go_wp2_with (go_at_call 32; refine hc.mono ?_; rintro e w1 ⟨rfl, hb⟩)
  go_ret
  exact ⟨by rw [← HI.out]; rfl, hb⟩

set_option maxHeartbeats 2000000 in
theorem idx_33 (g : Nat) (cap : Array Value) (p : S38 → Bool) (A : Option Addr) (c : Nat) (l : List S38) (w : World)
    (eg : ∀ args w, (callFunc g args).run Try.prog w = .ok (.enter g args) w)
    (hC : Kd.C k38 w A l.length l) (hl : l.length ≤ c)
    (hp : PredK (fun w => k38.K w) g cap p l w) :
    Calls Try.prog 33 #[.slice A l.length c, .func (.func g) #[] cap] w fun e w' => e = .returned (.int .i64 (idxOf p l)) ∧ Below w.heap.size w w' := by
  have hn : l.length ≤ 9223372036854775807 := hC.2.1
  have HC := Aside0.mk hC
  have HP := Aside0.mk hp
  clear hC hp
  go_enter Try.func33, Try.ntmps33
  go_wp2
  go_loopg [5, 8] l.length (fun k v5 v8 wr => ∃ i : Nat, v8 = .int .i64 i ∧ i ≤ l.length ∧ Aside0 (k + i = l.length) ∧ Aside0 (∀ j (hj : j < l.length), j < i → p l[j] = false) ∧ Aside0 (Below w.heap.size w wr))
  case atStart => exact ⟨0, rfl, by omega, ⟨by omega⟩, ⟨fun j hj h => absurd h (by omega)⟩, ⟨Below.refl _ _⟩⟩
  case round =>
    obtain ⟨i, rfl, hi, HK, HN, HB⟩ := hrel
    by_cases hlt : i < l.length
    · have _t := hlt
      obtain ⟨ad, A1, c1, A5, c5, e, hx0, hx1, hx2, hx3, hx4, hx5, hx6, hx7, hx8, hx9, g0_, g1_, g2_, g3_⟩ := at_T38 HC.out (i : Int) (by omega) (by omega)
      cases e
      have er : rd_T38 l (i : Int) = l[i] := by simp [rd_T38, hlt]
      obtain ⟨x, HX⟩ : ∃ x, Aside0 (x = l[i]) := ⟨_, ⟨rfl⟩⟩
      rw [← HX.out] at er
      simp only [er, Int.toNat_natCast] at hx0 hx1 hx2 hx3 hx4 hx5 hx6 hx7 hx8 hx9 g0_ g1_ g2_ g3_
      clear er
      have HK_ := Aside0.mk (k38_mk w x g0_ g1_ g2_ g3_)
      clear g0_ g1_ g2_ g3_
      replace hx0 := (HB.out.cell (World.block_lt_of_cell? w _ hx0)).trans hx0
      replace hx1 := (HB.out.cell (World.block_lt_of_cell? w _ hx1)).trans hx1
      replace hx2 := (HB.out.cell (World.block_lt_of_cell? w _ hx2)).trans hx2
      replace hx3 := (HB.out.cell (World.block_lt_of_cell? w _ hx3)).trans hx3
      replace hx4 := (HB.out.cell (World.block_lt_of_cell? w _ hx4)).trans hx4
      replace hx5 := (HB.out.cell (World.block_lt_of_cell? w _ hx5)).trans hx5
      replace hx6 := (HB.out.cell (World.block_lt_of_cell? w _ hx6)).trans hx6
      replace hx7 := (HB.out.cell (World.block_lt_of_cell? w _ hx7)).trans hx7
      replace hx8 := (HB.out.cell (World.block_lt_of_cell? w _ hx8)).trans hx8
      replace hx9 := (HB.out.cell (World.block_lt_of_cell? w _ hx9)).trans hx9
      obtain ⟨b, HBB⟩ : ∃ b, Aside0 (b = p x) := ⟨_, ⟨rfl⟩⟩
      go_wp2_with fail
      have hcall := HP.out x (by rw [HX.out]; exact List.getElem_mem _) _ HK_.out wr HB.out
      rw [← HBB.out] at hcall
      refine hcall.mono ?_
      clear hcall
      rintro e w1 ⟨rfl, hb⟩
      have n0_ := Aside0.mk (below_step HB.out hb)
      clear HB hb
      cases b with
      | true =>
        go_wp2
        go_ret
        exact ⟨by rw [idx_some hlt (by rw [← HX.out]; exact HBB.out.symm) (fun j hj => HN.out j (by omega) hj)]; rfl, n0_.out⟩
      | false =>
        go_wp2
        go_roundg (gk - 1)
        case measure => have := HK.out; omega
        case rel => exact ⟨i + 1, by go_num, by omega, ⟨by have := HK.out; omega⟩, ⟨fun j hj h => by
          rcases Nat.lt_or_ge j i with h1 | h1
          · exact HN.out j hj h1
          · obtain rfl : j = i := by omega
            rw [← HX.out]; exact HBB.out.symm⟩, n0_⟩
    · go_wp2_with fail
      go_ret
      exact ⟨by rw [idx_none (fun j hj => HN.out j hj (by omega))]; rfl, HB.out⟩

theorem contains_22 (g : Nat) (cap : Array Value) (p : S38 → Bool) (A : Option Addr) (c : Nat) (l : List S38) (w : World)
    (eg : ∀ args w, (callFunc g args).run Try.prog w = .ok (.enter g args) w)
    (hC : Kd.C k38 w A l.length l) (hl : l.length ≤ c)
    (hp : PredK (fun w => k38.K w) g cap p l w) :
    Calls Try.prog 22 #[.slice A l.length c, .func (.func g) #[] cap] w fun e w' => e = .returned (.bool (l.any p)) ∧ Below w.heap.size w w' := by
  have hc := idx_33 g cap p A c l w eg hC hl hp
  have HI := Aside0.mk (idx_any p l)
  clear hC hp
  go_enter Try.func22, Try.ntmps22
  go_wp2_with (go_at_call 33; refine hc.mono ?_; rintro e w1 ⟨rfl, hb⟩)
  go_ret
  exact ⟨by rw [← HI.out]; rfl, hb⟩

set_option maxHeartbeats 2000000 in
theorem idx_35 (g : Nat) (cap : Array Value) (p : S47 → Bool) (A : Option Addr) (c : Nat) (l : List S47) (w : World)
    (eg : ∀ args w, (callFunc g args).run Try.prog w = .ok (.enter g args) w)
    (hC : Kd.C k47 w A l.length l) (hl : l.length ≤ c)
    (hp : Pred (fun x : S47 => .agg #[.int .i64 x.f0, .int .i64 x.f1.f0, .int .i64 x.f1.f1, .int .i64 x.f1.f2, .int .i64 x.f2]) g cap p l w) :
    Calls Try.prog 35 #[.slice A l.length c, .func (.func g) #[] cap] w fun e w' => e = .returned (.int .i64 (idxOf p l)) ∧ Below w.heap.size w w' := by
  have hn : l.length ≤ 9223372036854775807 := hC.2.1
  have HC := Aside0.mk hC
  have HP := Aside0.mk hp
  clear hC hp
  go_enter Try.func35, Try.ntmps35
  go_wp2
  go_loopg [5, 8] l.length (fun k v5 v8 wr => ∃ i : Nat, v8 = .int .i64 i ∧ i ≤ l.length ∧ Aside0 (k + i = l.length) ∧ Aside0 (∀ j (hj : j < l.length), j < i → p l[j] = false) ∧ Aside0 (Below w.heap.size w wr))
  case atStart => exact ⟨0, rfl, by omega, ⟨by omega⟩, ⟨fun j hj h => absurd h (by omega)⟩, ⟨Below.refl _ _⟩⟩
  case round =>
    obtain ⟨i, rfl, hi, HK, HN, HB⟩ := hrel
    by_cases hlt : i < l.length
    · have _t := hlt
      obtain ⟨ad, e, hx0, hx1, hx2, hx3, hx4⟩ := at_T47 HC.out (i : Int) (by omega) (by omega)
      cases e
      have er : rd_T47 l (i : Int) = l[i] := by simp [rd_T47, hlt]
      obtain ⟨x, HX⟩ : ∃ x, Aside0 (x = l[i]) := ⟨_, ⟨rfl⟩⟩
      rw [← HX.out] at er
      simp only [er, Int.toNat_natCast] at hx0 hx1 hx2 hx3 hx4
      clear er
      replace hx0 := (HB.out.cell (World.block_lt_of_cell? w _ hx0)).trans hx0
      replace hx1 := (HB.out.cell (World.block_lt_of_cell? w _ hx1)).trans hx1
      replace hx2 := (HB.out.cell (World.block_lt_of_cell? w _ hx2)).trans hx2
      replace hx3 := (HB.out.cell (World.block_lt_of_cell? w _ hx3)).trans hx3
      replace hx4 := (HB.out.cell (World.block_lt_of_cell? w _ hx4)).trans hx4
      obtain ⟨b, HBB⟩ : ∃ b, Aside0 (b = p x) := ⟨_, ⟨rfl⟩⟩
      go_wp2_with fail
      have hcall := HP.out x (by rw [HX.out]; exact List.getElem_mem _) wr HB.out
      rw [← HBB.out] at hcall
      refine hcall.mono ?_
      clear hcall
      rintro e w1 ⟨rfl, hb⟩
      have n0_ := Aside0.mk (below_step HB.out hb)
      clear HB hb
      cases b with
      | true =>
        go_wp2
        go_ret
        exact ⟨by rw [idx_some hlt (by rw [← HX.out]; exact HBB.out.symm) (fun j hj => HN.out j (by omega) hj)]; rfl, n0_.out⟩
      | false =>
        go_wp2
        go_roundg (gk - 1)
        case measure => have := HK.out; omega
        case rel => exact ⟨i + 1, by go_num, by omega, ⟨by have := HK.out; omega⟩, ⟨fun j hj h => by
          rcases Nat.lt_or_ge j i with h1 | h1
          · exact HN.out j hj h1
          · obtain rfl : j = i := by omega
            rw [← HX.out]; exact HBB.out.symm⟩, n0_⟩
    · go_wp2_with fail
      go_ret
      exact ⟨by rw [idx_none (fun j hj => HN.out j hj (by omega))]; rfl, HB.out⟩

theorem contains_27 (g : Nat) (cap : Array Value) (p : S47 → Bool) (A : Option Addr) (c : Nat) (l : List S47) (w : World)
    (eg : ∀ args w, (callFunc g args).run Try.prog w = .ok (.enter g args) w)
    (hC : Kd.C k47 w A l.length l) (hl : l.length ≤ c)
    (hp : Pred (fun x : S47 => .agg #[.int .i64 x.f0, .int .i64 x.f1.f0, .int .i64 x.f1.f1, .int .i64 x.f1.f2, .int .i64 x.f2]) g cap p l w) :
    Calls Try.prog 27 #[.slice A l.length c, .func (.func g) #[] cap] w fun e w' => e = .returned (.bool (l.any p)) ∧ Below w.heap.size w w' := by
  have hc := idx_35 g cap p A c l w eg hC hl hp
  have HI := Aside0.mk (idx_any p l)
  clear hC hp
  go_enter Try.func27, Try.ntmps27
  go_wp2_with (go_at_call 35; refine hc.mono ?_; rintro e w1 ⟨rfl, hb⟩)
  go_ret
  exact ⟨by rw [← HI.out]; rfl, hb⟩
end Go.Proofs.Ytpbmfdbfimcpjaa.X
