/- A reading of an argument opened into the printed kinds: numbers, truth values, strings, slices, structs, and structs nested in themselves. No conditions. -/
import Derived.Test.YtpbmfdbfimcpjaaMJobHeavy2
import Derived.Test.YtpbmfdbfimcpjaaProg
import Derived.ChangeArms
import Derived.DataElems
import Derived.WideShapes
import Derived.SizedLaws
namespace Go.Proofs.Ytpbmfdbfimcpjaa.Op
open Go.RowKit Go.Proofs.YtpbmfdbfimcpjaaW.PrintWords Go.WideShapes
set_option linter.unusedVariables false
set_option linter.unusedSimpArgs false
set_option autoImplicit false
def Opens {α : Type} (n : Nat) (d : Kd α) (t : TypeId) (G : α → Prop) : Prop :=
  ∀ (H : Type) (enc : TypeId × Value → H) (W : World) (m : Nat) (cs : List Value) (y : DataW H × List MemPlace), m ≤ n → DataW.trod enc Try.prog W 0 (fun _ => true) true m t cs = some y →
    ∃ x, d.K W x cs ∧ ((y.1.weights Try.prog t).all (· ≤ reachBytes) = true → G x)
section
variable {α β : Type} {n : Nat}
theorem opens_int {t : TypeId} (k : IntKind) (hu : Try.prog.underlying t = some (.int k)) : Opens n (Kd.int k) t (fun x => (Lit.int k x).wf = true) := by
  intro H enc W m cs y _ hd
  obtain ⟨x, rfl, rfl, hw⟩ := DataW.trod_int hu hd
  exact ⟨x, rfl, fun _ => hw⟩
theorem choose_list {Q : Nat → α → Prop} : ∀ (m : Nat), (∀ i, i < m → ∃ x, Q i x) → ∃ xs : List α, xs.length = m ∧ ∀ i x, xs[i]? = some x → Q i x
  | 0, _ => ⟨[], rfl, fun i x h => by simp at h⟩
  | m + 1, h => by
    obtain ⟨xs, hl, hx⟩ := choose_list m (fun i hi => h i (by omega))
    obtain ⟨x, hq⟩ := h m (by omega)
    refine ⟨xs ++ [x], by simp [hl], fun i z hz => ?_⟩
    rcases Nat.lt_or_ge i m with h1 | h1
    · rw [List.getElem?_append_left (by omega)] at hz; exact hx i z hz
    · rw [List.getElem?_append_right (by omega)] at hz
      have : i - xs.length = 0 := by
        rcases Nat.eq_zero_or_pos (i - xs.length) with h2 | h2
        · exact h2
        · rw [List.getElem?_eq_none (show ([x] : List α).length ≤ i - xs.length by simp; omega)] at hz; cases hz
      rw [this] at hz
      have hz' : z = x := by simpa using hz.symm
      have hi : i = m := by omega
      subst hz'; subst hi; exact hq
theorem all_mem {H : Type} {P : Program} {e : TypeId} {f : Nat → Bool} : ∀ {ds : List (DataW H)}, (DataW.weightsAll P e ds).all f = true → ∀ (i : Nat) (d : DataW H), ds[i]? = some d → (d.weights P e).all f = true
  | [], _, i, d, h => by simp at h
  | d0 :: ds, h, i, d, hi => by
    rw [DataW.weightsAll, List.all_append, Bool.and_eq_true] at h
    cases i with
    | zero => simp at hi; subst hi; exact h.1
    | succ i => exact all_mem h.2 i d (by simpa using hi)
theorem opens_slice {d : Kd α} {G : α → Prop} {t e : TypeId} (hu : Try.prog.underlying t = some (.slice e)) (hc : Try.prog.cellsOf e = d.sz) {B : Nat} (hB : Try.prog.bytesOf e = B) (h : Opens n d e G) :
    Opens (n + 1) (Kd.slice e d) t (fun xs => xs.length * B ≤ 140737488351232 ∧ xs.length ≤ 9223372036854775807 ∧ ∀ x ∈ xs, G x) := by
  intro H enc W m cs y hm hd
  rcases DataW.trod_slice hu hd with ⟨rfl, rfl⟩ | ⟨a, len, cap, elems, rest, m', hm', rfl, rfl, hb, hl, hmx, hlen, hel, hsp, hns⟩
  · exact ⟨[], ⟨none, 0, rfl, by simp, Kd.C_nil d W⟩, fun _ => ⟨by simp, by simp, by simp⟩⟩
  · have hmx' : cap ≤ 9223372036854775807 := by unfold maxLen at hmx; omega
    have key : ∀ i, i < len → ∃ x, (∃ c, c.length = d.sz ∧ d.K W x c ∧ ∀ j u, c[j]? = some u → W.cell? (a.add (i * d.sz + j)) = some u) ∧ ((DataW.weightsAll Try.prog e (elems.map (·.1))).all (· ≤ reachBytes) = true → G x) := by
      intro i hi
      have he := hel i hi
      rw [List.getElem?_eq_getElem (by omega)] at he
      obtain ⟨c, hcell, hc2⟩ := Option.bind_eq_some_iff.1 he
      obtain ⟨_, hl1, hl2⟩ := World.cells?_some hcell
      obtain ⟨x, hk, hg⟩ := h _ enc W m' c _ (by omega) hc2
      refine ⟨x, ⟨c, by rw [hl1, hc], hk, fun j u hj => ?_⟩, fun hw => hg (all_mem hw i _ ?_)⟩
      · have hj' : j < Try.prog.cellsOf e := by
          rw [← hl1]
          rcases Nat.lt_or_ge j c.length with h1 | h1
          · exact h1
          · rw [List.getElem?_eq_none h1] at hj; cases hj
        rw [← hj, ← hl2 j hj', Addr.add_add, hc]
      · simp [List.getElem?_eq_getElem (show i < elems.length by omega)]
    obtain ⟨xs, hxl, hx⟩ := choose_list len key
    refine ⟨xs, ⟨some a, cap, by rw [hxl], by omega, ⟨rfl, by omega, fun _ => ⟨a, rfl, fun j p hp => (hx j p hp).1⟩⟩⟩, fun hw => ?_⟩
    simp only [DataW.weights, hu, List.all_cons, List.all_append, Bool.and_eq_true, decide_eq_true_eq] at hw
    obtain ⟨hw0, hw1, _⟩ := hw
    refine ⟨?_, by omega, fun x hx' => ?_⟩
    · rw [hB] at hw0
      have h1 : xs.length ≤ (elems.map (·.1)).length + (rest.map (·.1)).length := by simp; omega
      exact Nat.le_trans (Nat.mul_le_mul_right B h1) hw0
    · obtain ⟨i, hi, rfl⟩ := List.getElem_of_mem hx'
      exact (hx i _ (List.getElem?_eq_getElem hi)).2 hw1
theorem opens_zero {d : Kd α} {t : TypeId} {G : α → Prop} : Opens 0 d t G := by
  intro H enc W m cs y hm hd
  obtain rfl : m = 0 := by omega
  simp [DataW.trod] at hd
end
theorem opens_sl {α : Type} {d : Kd α} {G : α → Prop} {t e : TypeId} (hu : Try.prog.underlying t = some (.slice e)) (hc : Try.prog.cellsOf e = d.sz) {B : Nat} (hB : Try.prog.bytesOf e = B) (h : ∀ n, Opens n d e G) :
    ∀ n, Opens n (Kd.slice e d) t (fun xs => xs.length * B ≤ 140737488351232 ∧ xs.length ≤ 9223372036854775807 ∧ ∀ x ∈ xs, G x)
  | 0 => opens_zero
  | n + 1 => opens_slice hu hc hB (h n)
theorem arg_slice {α : Type} {d : Kd α} {t e : TypeId} {W : World} {base : Nat} {v : Value} {xs : List α} (hu : Try.prog.underlying t = some (.slice e)) (hv : Value.okWide Try.prog W .any base t v) (h : (Kd.slice e d).K W xs v.cells.toList) :
    ∃ A c, v = .slice A xs.length c ∧ xs.length ≤ c ∧ d.C W A xs.length xs := by
  obtain ⟨a, len, cap, rfl⟩ := okWide_slice hu hv
  obtain ⟨A, c, hcs, hl, hC⟩ := h
  have hcs' : [Value.slice a len cap] = [.slice A xs.length c] := hcs
  injection hcs' with h1 _
  exact ⟨A, c, h1, hl, hC⟩
theorem open_arg {α : Type} {d : Kd α} {t : TypeId} {G : α → Prop} (h : ∀ n, Opens n d t G) {H : Type} {enc : TypeId × Value → H} {W : World} {v : Value} {D : DataW H} {ps : List MemPlace} {ts : List TypeId} {ds : List (DataW H)} {j : Nat}
    (hsz : (DataW.weightsEach Try.prog ts ds).all (· ≤ reachBytes) = true) (ht : ts[j]? = some t) (hd : ds[j]? = some D) (hD : DataW.Trod enc Try.prog W 0 (fun _ => true) true t v D ps) : ∃ x, d.K W x v.cells.toList ∧ G x := by
  obtain ⟨m, hm⟩ := hD
  obtain ⟨x, hk, hg⟩ := h m _ enc W m _ _ (Nat.le_refl m) hm
  exact ⟨x, hk, hg (List.all_eq_true.2 fun q hq => List.all_eq_true.1 hsz q (DataW.weights_mem_each ht hd q hq))⟩
end Go.Proofs.Ytpbmfdbfimcpjaa.Op
