/- What is asked of the law WindowKeys, in plain Lean. No conditions. -/
import Derived.Test.YtdinbnbogdadgaaMWindowKeys17
import Derived.Test.YtdinbnbogdadgaaMWindowKeys16
import Derived.Test.YtdinbnbogdadgaaMWindowKeys15
namespace Go.Proofs.Ytdinbnbogdadgaa.Op
open Go.RowKit Go.Proofs.YtdinbnbogdadgaaW.PrintWords Go.Proofs.Ytdinbnbogdadgaa.X
def WindowKeysPure : Prop := ∀ (a0_0 : Int) (a0_1 : Int) (a0_2 : Int) (a1 : Int) (l2 : List (S37)), ((Lit.int .i64 a0_0).wf = true) → ((Lit.int .i64 a0_1).wf = true) → ((Lit.int .i64 a0_2).wf = true) → ((Lit.int .i64 a1).wf = true) → (l2.length * 24 ≤ 140737488351232 ∧ l2.length ≤ 9223372036854775807 ∧ ∀ x ∈ l2, Good37 x) → ∃ k, leatlaw11_WindowKeys.f k a0_0 a0_1 a0_2 a1 l2 = some true
end Go.Proofs.Ytdinbnbogdadgaa.Op
namespace Go.Proofs.Ytdinbnbogdadgaa.Pure
open Go.RowKit Go.Sort Go.Proofs.YtdinbnbogdadgaaW.PrintWords Go.Proofs.YtdinbnbogdadgaaW.PrintMore Go.Proofs.Ytdinbnbogdadgaa Go.Proofs.Ytdinbnbogdadgaa.X Go.Proofs.Ytdinbnbogdadgaa.Nf Go.Proofs.Ytdinbnbogdadgaa.Th Go.Proofs.Ytdinbnbogdadgaa.Op
set_option linter.unusedVariables false
set_option linter.unusedSimpArgs false
theorem keys_l0 {kind size slide a : Int} (ha : aggOk a = true) (hf : Fit kind size slide) (l : List S37) (hl : l.length ≤ 60) (hg : ∀ r ∈ l, I64 r.f2) : ∀ (d i : Nat) (all even other : List S46) (A B : List S37), l.length = i + d →
    (A ++ B).Perm (l.take i) → (∀ r ∈ A, Int.tmod r.f0 2 = 0) → (∀ r ∈ B, ¬ Int.tmod r.f0 2 = 0) →
    Is kind a (ones a (spansP kind size slide) (l.take i)) all → Is kind a (ones a (spansP kind size slide) A) even → Is kind a (ones a (spansP kind size slide) B) other →
    Ev (fun k => leatlaw11_WindowKeys.l0 k a l all even other (i : Int) kind size slide) true
  | 0, i, all, even, other, A, B, h, hp, hA, hB, I1, I2, I3 => by
    have hli := len_of hp hl
    have l2 := is_len I2
    have l3 := is_len I3
    have l1 := is_len I1
    have hi : l.take i = l := List.take_of_length_le (by omega)
    rw [hi] at I1 hp l1
    have hN : NK kind (other ++ even) := by
      unfold NK Normal
      rw [List.pairwise_append]
      refine ⟨I3.nk, I2.nk, fun x hx y hy hh => ?_⟩
      obtain ⟨x', hx', ex⟩ := rs_keys I3.rs x hx
      obtain ⟨y', hy', ey⟩ := rs_keys I2.rs y hy
      obtain ⟨r, hr, er⟩ := ones_key _ _ hx'
      obtain ⟨s, hs, es⟩ := ones_key _ _ hy'
      have hk := hitK_key hh
      have h1 := hB r hr
      have h2 := hA s hs
      rw [er, ex] at h1
      rw [es, ey, hk] at h2
      exact h1 h2
    have hJ : Is kind a (ones a (spansP kind size slide) (B ++ A)) (sortP (other ++ even)) := by
      rw [ones_app]
      exact Is.sort ha (RS.both I3.rs I2.rs) hN
    have he : sortP (other ++ even) = all := Is.unique ha hJ I1 (ones_perm _ _ (List.perm_append_comm.trans hp))
    have hc := panes_ev all (by omega)
    refine Ev.step (fun k => ?_) (Ev.bind hc (Ev.now true))
    simp only [leatlaw11_WindowKeys.l0]
    rw [if_neg (by omega), if_pos (by simp; omega), Option.bind_some, if_pos (by simp; omega), List.nil_append, sort_ev _ (by simp; omega), Option.bind_some, he]
  | d + 1, i, all, even, other, A, B, h, hp, hA, hB, I1, I2, I3 => by
    have hlt : i < l.length := by omega
    have hli := len_of hp hl
    have l1 := is_len I1
    have l2 := is_len I2
    have l3 := is_len I3
    rw [List.length_take] at l1
    have hv := hg _ (List.getElem_mem hlt)
    have hw := step_i hlt (by omega)
    have hd : ∀ {g : Nat → Option Bool} , (∀ k, leatlaw11_WindowKeys.l0 (k + 1) a l all even other (i : Int) kind size slide = g k) → Ev g true → Ev (fun k => leatlaw11_WindowKeys.l0 k a l all even other (i : Int) kind size slide) true := fun h1 h2 => Ev.step h1 h2
    by_cases ht : TimeOk l[i].f1
    · have hput := put_ev (a := a) hf ht l[i].f0 l[i].f2 all (by omega)
      have J1 := put_is ha hf I1 hv
      rw [← take_snoc hlt] at J1
      by_cases hk : Int.tmod l[i].f0 2 = 0
      · have hput2 := put_ev (a := a) hf ht l[i].f0 l[i].f2 even (by omega)
        have ih := keys_l0 ha hf l hl hg d (i + 1) _ _ other (A ++ [l[i]]) B (by omega) (by rw [take_snoc hlt]; exact perm_l hp) (fun r hr => by
          rcases List.mem_append.1 hr with hr | hr
          · exact hA r hr
          · rw [List.mem_singleton.1 hr]; exact hk) hB J1 (put_is ha hf I2 hv) I3
        refine hd (g := fun k => (window_Put.f k kind size slide a all l[i].f0 l[i].f1 l[i].f2).bind fun t1 => (window_Put.f k kind size slide a even l[i].f0 l[i].f1 l[i].f2).bind fun t2 => leatlaw11_WindowKeys.l0 k a l t1 t2 other ((i + 1 : Nat) : Int) kind size slide) (fun k => ?_) (Ev.bind hput (Ev.bind hput2 ih))
        simp only [leatlaw11_WindowKeys.l0]
        rw [if_pos (by omega), if_pos (by omega), rd37_at hlt, time_eq, Option.bind_some, if_pos (decide_eq_true ht), hw]
        congr 1
        funext x
        rw [if_pos hk]
      · have hput2 := put_ev (a := a) hf ht l[i].f0 l[i].f2 other (by omega)
        have ih := keys_l0 ha hf l hl hg d (i + 1) _ even _ A (B ++ [l[i]]) (by omega) (by rw [take_snoc hlt]; exact perm_r hp) hA (fun r hr => by
          rcases List.mem_append.1 hr with hr | hr
          · exact hB r hr
          · rw [List.mem_singleton.1 hr]; exact hk) J1 I2 (put_is ha hf I3 hv)
        refine hd (g := fun k => (window_Put.f k kind size slide a all l[i].f0 l[i].f1 l[i].f2).bind fun t1 => (window_Put.f k kind size slide a other l[i].f0 l[i].f1 l[i].f2).bind fun t2 => leatlaw11_WindowKeys.l0 k a l t1 even t2 ((i + 1 : Nat) : Int) kind size slide) (fun k => ?_) (Ev.bind hput (Ev.bind hput2 ih))
        simp only [leatlaw11_WindowKeys.l0]
        rw [if_pos (by omega), if_pos (by omega), rd37_at hlt, time_eq, Option.bind_some, if_pos (decide_eq_true ht), hw]
        congr 1
        funext x
        rw [if_neg hk]
    · refine hd (g := fun _ => some true) (fun k => ?_) (Ev.now true)
      simp only [leatlaw11_WindowKeys.l0]
      rw [if_pos (by omega), if_pos (by omega), rd37_at hlt, time_eq, Option.bind_some, decide_eq_false ht, if_neg (by simp)]
theorem WindowKeys : Go.Proofs.Ytdinbnbogdadgaa.Op.WindowKeysPure := by
  intro kind size slide a l w1 w2 w3 w4 hl
  refine Ev.rounds (g := fun k => leatlaw11_WindowKeys.f k kind size slide a l) ?_
  have hg : ∀ r ∈ l, I64 r.f2 := fun r hr => i64_wf (hl.2.2 r hr).2.2
  have jt : Ev (fun k => leatlaw11_WindowKeys.j0 k a l true kind size slide) true := Ev.step (f := fun _ => some true) (fun k => by simp only [leatlaw11_WindowKeys.j0]; exact if_pos trivial) (Ev.now _)
  refine Ev.congr (fun k => by rw [leatlaw11_WindowKeys.f]) (Ev.bind known_ev (Ev.congr (fun k => if_pos rfl) ?_))
  obtain ⟨b, hb, hfit⟩ := fit_sp kind size slide
  refine Ev.bind hfit ?_
  cases b with
  | false => exact Ev.congr (fun k => if_neg (by simp)) jt
  | true =>
    have hf := hb rfl
    refine Ev.congr (fun k => if_pos rfl) ?_
    by_cases h60 : (l.length : Int) > 60
    · exact Ev.congr (fun k => if_pos h60) jt
    · refine Ev.congr (fun k => if_neg h60) (Ev.congr (fun k => by rw [agg_Is.f, Option.bind_some]) ?_)
      cases ha : aggOk a with
      | false => exact jt
      | true =>
        refine Ev.step (fun k => by simp only [leatlaw11_WindowKeys.j0]; exact if_neg (by simp)) ?_
        exact keys_l0 ha hf l (by omega) hg l.length 0 [] [] [] [] [] (by omega) (by simp) (by simp) (by simp) (Is.nil _ _) (Is.nil _ _) (Is.nil _ _)
end Go.Proofs.Ytdinbnbogdadgaa.Pure
