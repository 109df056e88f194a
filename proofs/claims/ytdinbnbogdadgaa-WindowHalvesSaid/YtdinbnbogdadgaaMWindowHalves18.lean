/- What is asked of the law WindowHalves, in plain Lean. No conditions. -/
import Derived.Test.YtdinbnbogdadgaaMWindowHalves17
import Derived.Test.YtdinbnbogdadgaaMWindowHalves16
import Derived.Test.YtdinbnbogdadgaaMWindowHalves15
namespace Go.Proofs.Ytdinbnbogdadgaa.Op
open Go.RowKit Go.Proofs.YtdinbnbogdadgaaW.PrintWords Go.Proofs.Ytdinbnbogdadgaa.X
def WindowHalvesPure : Prop := ∀ (a0_0 : Int) (a0_1 : Int) (a0_2 : Int) (a1 : Int) (l2 : List (S37)) (a3 : Int), ((Lit.int .i64 a0_0).wf = true) → ((Lit.int .i64 a0_1).wf = true) → ((Lit.int .i64 a0_2).wf = true) → ((Lit.int .i64 a1).wf = true) → (l2.length * 24 ≤ 140737488351232 ∧ l2.length ≤ 9223372036854775807 ∧ ∀ x ∈ l2, Good37 x) → ((Lit.int .u64 a3).wf = true) → ∃ k, leatlaw11_WindowHalves.f k a0_0 a0_1 a0_2 a1 l2 a3 = some true
end Go.Proofs.Ytdinbnbogdadgaa.Op
namespace Go.Proofs.Ytdinbnbogdadgaa.Pure
open Go.RowKit Go.Sort Go.Proofs.YtdinbnbogdadgaaW.PrintWords Go.Proofs.YtdinbnbogdadgaaW.PrintMore Go.Proofs.Ytdinbnbogdadgaa Go.Proofs.Ytdinbnbogdadgaa.X Go.Proofs.Ytdinbnbogdadgaa.Nf Go.Proofs.Ytdinbnbogdadgaa.Th Go.Proofs.Ytdinbnbogdadgaa.Op
set_option linter.unusedVariables false
set_option linter.unusedSimpArgs false
theorem and_nonneg {i : Nat} (h : i < 60) : 0 ≤ Go.bits .and .i64 (i : Int) 63 := by
  have : ∀ j : Fin 60, 0 ≤ Go.bits .and .i64 ((j.val : Nat) : Int) 63 := by decide +kernel
  exact this ⟨i, h⟩
theorem halves_l0 {size slide a : Int} (ha : aggOk a = true) (hf : Fit 3 size slide) (w : Int) (l : List S37) (hl : l.length ≤ 60) (hg : ∀ r ∈ l, I64 r.f2) : ∀ (d i : Nat) (one x y : List S46) (A B : List S37), l.length = i + d →
    (A ++ B).Perm (l.take i) →
    Is 3 a (ones a (spansP 3 size slide) (l.take i)) one → Is 3 a (ones a (spansP 3 size slide) A) x → Is 3 a (ones a (spansP 3 size slide) B) y →
    Ev (fun k => leatlaw11_WindowHalves.l0 k a l w one x y (i : Int) 3 size slide) true
  | 0, i, one, x, y, A, B, h, hp, I1, I2, I3 => by
    have hli := len_of hp hl
    have l2 := is_len I2
    have l3 := is_len I3
    have l1 := is_len I1
    have hi : l.take i = l := List.take_of_length_le (by omega)
    rw [hi] at I1 hp l1
    have hJ0 := join_is ha (y ++ x)
    have hJ : Is 3 a (ones a (spansP 3 size slide) (B ++ A)) (sortP (joinF a (y ++ x).length (y ++ x) [])) := by
      rw [ones_app]
      exact ⟨RS.trans (RS.both I3.rs I2.rs) hJ0.rs, hJ0.nk, hJ0.st⟩
    have he : sortP (joinF a (y ++ x).length (y ++ x) []) = one := Is.unique ha hJ I1 (ones_perm _ _ (List.perm_append_comm.trans hp))
    have hc := panes_ev one (by omega)
    refine Ev.step (fun k => ?_) (Ev.bind hc (Ev.now true))
    simp only [leatlaw11_WindowHalves.l0]
    rw [if_neg (by omega), if_pos (by simp; omega), Option.bind_some, if_pos (by simp; omega), List.nil_append, join_ev _ _ (by simp; omega), Option.bind_some, he]
  | d + 1, i, one, x, y, A, B, h, hp, I1, I2, I3 => by
    have hlt : i < l.length := by omega
    have hli := len_of hp hl
    have l1 := is_len I1
    have l2 := is_len I2
    have l3 := is_len I3
    rw [List.length_take] at l1
    have hv := hg _ (List.getElem_mem hlt)
    have hw := step_i hlt (by omega)
    have hd : ∀ {g : Nat → Option Bool} , (∀ k, leatlaw11_WindowHalves.l0 (k + 1) a l w one x y (i : Int) 3 size slide = g k) → Ev g true → Ev (fun k => leatlaw11_WindowHalves.l0 k a l w one x y (i : Int) 3 size slide) true := fun h1 h2 => Ev.step h1 h2
    by_cases ht : TimeOk l[i].f1
    · have hput := put_ev (a := a) hf ht l[i].f0 l[i].f2 one (by omega)
      have J1 := put_is ha hf I1 hv
      rw [← take_snoc hlt] at J1
      by_cases hk : (Go.bits .and .u64 (shr .u64 w (Go.bits .and .i64 (i : Int) 63)) 1) = 0
      · have hput2 := put_ev (a := a) hf ht l[i].f0 l[i].f2 x (by omega)
        have ih := halves_l0 ha hf w l hl hg d (i + 1) _ _ y (A ++ [l[i]]) B (by omega) (by rw [take_snoc hlt]; exact perm_l hp) J1 (put_is ha hf I2 hv) I3
        refine hd (g := fun k => (window_Put.f k 3 size slide a one l[i].f0 l[i].f1 l[i].f2).bind fun t1 => (window_Put.f k 3 size slide a x l[i].f0 l[i].f1 l[i].f2).bind fun t2 => leatlaw11_WindowHalves.l0 k a l w t1 t2 y ((i + 1 : Nat) : Int) 3 size slide) (fun k => ?_) (Ev.bind hput (Ev.bind hput2 ih))
        simp only [leatlaw11_WindowHalves.l0]
        rw [if_pos (by omega), if_pos (by omega), rd37_at hlt, time_eq, Option.bind_some, if_pos (decide_eq_true ht), hw]
        congr 1
        funext t
        rw [if_pos (and_nonneg (by omega)), if_pos hk]
      · have hput2 := put_ev (a := a) hf ht l[i].f0 l[i].f2 y (by omega)
        have ih := halves_l0 ha hf w l hl hg d (i + 1) _ x _ A (B ++ [l[i]]) (by omega) (by rw [take_snoc hlt]; exact perm_r hp) J1 I2 (put_is ha hf I3 hv)
        refine hd (g := fun k => (window_Put.f k 3 size slide a one l[i].f0 l[i].f1 l[i].f2).bind fun t1 => (window_Put.f k 3 size slide a y l[i].f0 l[i].f1 l[i].f2).bind fun t2 => leatlaw11_WindowHalves.l0 k a l w t1 x t2 ((i + 1 : Nat) : Int) 3 size slide) (fun k => ?_) (Ev.bind hput (Ev.bind hput2 ih))
        simp only [leatlaw11_WindowHalves.l0]
        rw [if_pos (by omega), if_pos (by omega), rd37_at hlt, time_eq, Option.bind_some, if_pos (decide_eq_true ht), hw]
        congr 1
        funext t
        rw [if_pos (and_nonneg (by omega)), if_neg hk]
    · refine hd (g := fun _ => some true) (fun k => ?_) (Ev.now true)
      simp only [leatlaw11_WindowHalves.l0]
      rw [if_pos (by omega), if_pos (by omega), rd37_at hlt, time_eq, Option.bind_some, decide_eq_false ht, if_neg (by simp)]
theorem WindowHalves : Go.Proofs.Ytdinbnbogdadgaa.Op.WindowHalvesPure := by
  intro kind size slide a l w w1 w2 w3 w4 hl w5
  refine Ev.rounds (g := fun k => leatlaw11_WindowHalves.f k kind size slide a l w) ?_
  have hg : ∀ r ∈ l, I64 r.f2 := fun r hr => i64_wf (hl.2.2 r hr).2.2
  have jt : Ev (fun k => leatlaw11_WindowHalves.j0 k a l w true kind size slide) true := Ev.step (f := fun _ => some true) (fun k => by simp only [leatlaw11_WindowHalves.j0]; exact if_pos trivial) (Ev.now _)
  refine Ev.congr (fun k => by rw [leatlaw11_WindowHalves.f]) (Ev.bind known_ev (Ev.congr (fun k => if_pos rfl) ?_))
  obtain ⟨b, hb, hfit⟩ := fit_sp kind size slide
  refine Ev.bind hfit ?_
  cases b with
  | false => exact Ev.congr (fun k => if_neg (by simp)) jt
  | true =>
    have hf := hb rfl
    refine Ev.congr (fun k => if_pos rfl) ?_
    by_cases h3 : kind = 3
    · subst h3
      refine Ev.congr (fun k => if_pos rfl) ?_
      by_cases h60 : (l.length : Int) > 60
      · exact Ev.congr (fun k => if_pos h60) jt
      · refine Ev.congr (fun k => if_neg h60) (Ev.congr (fun k => by rw [agg_Is.f, Option.bind_some]) ?_)
        cases ha : aggOk a with
        | false => exact jt
        | true =>
          refine Ev.step (fun k => by simp only [leatlaw11_WindowHalves.j0]; exact if_neg (by simp)) ?_
          exact halves_l0 ha hf w l (by omega) hg l.length 0 [] [] [] [] [] (by omega) (by simp) (Is.nil _ _) (Is.nil _ _) (Is.nil _ _)
    · exact Ev.congr (fun k => if_neg h3) jt
end Go.Proofs.Ytdinbnbogdadgaa.Pure
