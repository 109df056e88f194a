/- WindowJoin in plain Lean: panes are sorted, and overlapping ones of one key joined, as the document says. No conditions but those typed. -/
import Derived.Test.YtdinbnbogdadgaaDSayWindowJoin
import Derived.Test.YtdinbnbogdadgaaDPr
import Derived.Test.YtdinbnbogdadgaaDXf25
namespace Go.Proofs.Ytdinbnbogdadgaa.Pure
open Go.RowKit Go.Sort Go.Proofs.YtdinbnbogdadgaaW.PrintWords Go.Proofs.YtdinbnbogdadgaaW.PrintMore Go.Proofs.Ytdinbnbogdadgaa Go.Proofs.Ytdinbnbogdadgaa.X Go.Proofs.Ytdinbnbogdadgaa.Nf Go.Proofs.Ytdinbnbogdadgaa.Th Go.Proofs.Ytdinbnbogdadgaa.Op
set_option linter.unusedVariables false
set_option linter.unusedSimpArgs false
theorem panesOk_l0 (l : List S46) (hl : l.length ≤ 200) : ∀ (d i : Nat), l.length = i + d → (∀ j (h : j < l.length), j < i → Proper l[j]) →
  Sp (fun b => b = true → ∀ x ∈ l, Proper x) (fun k => leatlaw11_panes.l0 k l (i : Int))
 | 0, i, h, hp => by
  refine ⟨true, fun _ x hx => ?_, Ev.step (f := fun _ => some true) (fun k => ?_) (Ev.now _)⟩
  ·obtain ⟨j, hj, rfl⟩ := List.getElem_of_mem hx
   exact hp j hj (by omega)
  ·simp only [leatlaw11_panes.l0]; rw [if_neg (by omega)]
 | d + 1, i, h, hp => by
  have hlt : i < l.length := by omega
  have hw := step_i hlt (by omega)
  by_cases h1 : TimeOk l[i].f1.f0
  ·by_cases h2 : TimeOk l[i].f1.f1
   ·by_cases h3 : l[i].f1.f0 ≥ l[i].f1.f1
    ·refine ⟨false, nofun, Ev.step (f := fun _ => some false) (fun k => ?_) (Ev.now _)⟩
     simp only [leatlaw11_panes.l0]
     rw [if_pos (by omega), if_pos (by omega), rd46_at hlt, time_eq, Option.bind_some, if_pos (decide_eq_true h1), time_eq, Option.bind_some, if_pos (decide_eq_true h2), if_pos h3]
    ·obtain ⟨b, hb, hev⟩ := panesOk_l0 l hl d (i + 1) (by omega) (fun j hj h4 => by
      rcases Nat.lt_or_ge j i with h5 | h5
      ·exact hp j hj h5
      ·obtain rfl : j = i := by omega
       unfold Proper; omega)
     refine ⟨b, hb, Ev.step (fun k => ?_) hev⟩
     simp only [leatlaw11_panes.l0]
     rw [if_pos (by omega), if_pos (by omega), rd46_at hlt, time_eq, Option.bind_some, if_pos (decide_eq_true h1), time_eq, Option.bind_some, if_pos (decide_eq_true h2), if_neg h3, hw]
   ·refine ⟨false, nofun, Ev.step (f := fun _ => some false) (fun k => ?_) (Ev.now _)⟩
    simp only [leatlaw11_panes.l0]
    rw [if_pos (by omega), if_pos (by omega), rd46_at hlt, time_eq, Option.bind_some, if_pos (decide_eq_true h1), time_eq, Option.bind_some, if_neg (by rw [decide_eq_false h2]; simp)]
  ·refine ⟨false, nofun, Ev.step (f := fun _ => some false) (fun k => ?_) (Ev.now _)⟩
   simp only [leatlaw11_panes.l0]
   rw [if_pos (by omega), if_pos (by omega), rd46_at hlt, time_eq, Option.bind_some, if_neg (by rw [decide_eq_false h1]; simp)]
theorem panesOk_sp (l : List S46) : Sp (fun b => b = true → l.length ≤ 200 ∧ ∀ x ∈ l, Proper x) (fun k => leatlaw11_panes.f k l) := by
 by_cases h : (l.length : Int) > 200
 ·exact ⟨false, nofun, Ev.congr (fun k => by rw [leatlaw11_panes.f, if_pos h]) (Ev.now _)⟩
 ·obtain ⟨b, hb, hev⟩ := panesOk_l0 l (by omega) l.length 0 (by omega) (fun j hj h => absurd h (by omega))
  exact ⟨b, fun e => ⟨by omega, hb e⟩, Ev.congr (fun k => by rw [leatlaw11_panes.f, if_neg h]; rfl) hev⟩
theorem joinLaw_l0 {a : Int} (ha : aggOk a = true) (l : List S46) (hl : l.length ≤ 200) (hp : ∀ x ∈ l, Proper x) : ∀ (n : Nat) (back : List S46), n ≤ l.length → back = (l.drop n).reverse → 
  Ev (fun k => leatlaw11_WindowJoin.l0 k a l back ((n : Int) - 1)) true
 | 0, back, hn, hb => by
  rw [List.drop_zero] at hb
  have hperm : back.Perm l := by rw [hb]; exact List.reverse_perm l
  have hbl := hperm.length_eq
  have I1 := join_is ha l
  have I2 := join_is ha back
  have I3 := join_is ha (sortP (joinF a l.length l []))
  have l1 := rs_len I1.rs
  have e2 : sortP (joinF a back.length back []) = sortP (joinF a l.length l []) := Is.unique ha I2 I1 hperm
  have e3 : sortP (joinF a (sortP (joinF a l.length l [])).length (sortP (joinF a l.length l [])) []) = sortP (joinF a l.length l []) :=
   Is.unique ha I3 ⟨.done (.refl _), I1.nk, I1.st⟩ (.refl _)
  have e4 : sortP back = sortP l := sortP_congr hperm
  obtain ⟨rj, hrj, evj⟩ := rjoin_sp ha l (by omega) hp
  have e1 : rj = sortP (joinF a l.length l []) := Is.unique ha hrj I1 (.refl _)
  subst e1
  have j1 := join_ev a l (by omega)
  have j2 := join_ev a back (by omega)
  have j3 := join_ev a (sortP (joinF a l.length l [])) (by omega)
  have hs := rsort_ev l (by omega)
  have c1 := panes_ev (sortP l) (by rw [sortP_len]; omega)
  have c2 := panes_ev (sortP (joinF a l.length l [])) (by omega)
  rw [e2] at j2
  rw [e3] at j3
  generalize sortP (joinF a l.length l []) = J at *
  refine Ev.step (fun k => by simp only [leatlaw11_WindowJoin.l0]; rw [if_neg (by omega), j1, Option.bind_some, sort_ev l (by omega), Option.bind_some]) ?_
  refine Ev.bind hs ?_
  refine Ev.bind c1 ?_
  refine Ev.congr (fun k => if_pos rfl) ?_
  refine Ev.bind evj ?_
  refine Ev.bind c2 ?_
  refine Ev.congr (fun k => if_pos rfl) ?_
  refine Ev.congr (fun k => by rw [j2, Option.bind_some]) ?_
  refine Ev.bind c2 ?_
  refine Ev.congr (fun k => if_pos rfl) ?_
  refine Ev.congr (fun k => by rw [j3, Option.bind_some]) ?_
  refine Ev.bind c2 ?_
  refine Ev.congr (fun k => if_pos rfl) ?_
  refine Ev.congr (fun k => by rw [sort_ev back (by omega), Option.bind_some, e4, Option.bind_some]) ?_
  exact Ev.bind c1 (Ev.now true)
 | n + 1, back, hn, hb => by
  have hlt : n < l.length := by omega
  have hl2 : back.length < 4398046511104 := by rw [hb]; simp; omega
  refine Ev.step (fun k => ?_) (joinLaw_l0 ha l hl hp n (back ++ [l[n]]) (by omega) (by rw [hb, List.drop_eq_getElem_cons hlt, List.reverse_cons]))
  simp only [leatlaw11_WindowJoin.l0]
  rw [if_pos (by omega), if_pos (by omega), if_pos (by omega), if_pos hl2, show ((n + 1 : Nat) : Int) - 1 = (n : Int) by omega, rd46_at hlt, w_in (by omega)]
theorem WindowJoin : Go.Proofs.Ytdinbnbogdadgaa.Op.WindowJoinPure := by
 intro a l w1 hw
 refine Ev.rounds (g := fun k => leatlaw11_WindowJoin.f k a l) ?_
 have jt : Ev (fun k => leatlaw11_WindowJoin.j0 k a l true) true := Ev.step (f := fun _ => some true) (fun k => by simp only [leatlaw11_WindowJoin.j0]; exact if_pos trivial) (Ev.now _)
 refine Ev.congr (fun k => by rw [leatlaw11_WindowJoin.f]) (Ev.bind known_ev (Ev.congr (fun k => if_pos rfl) ?_))
 obtain ⟨b, hb, hev⟩ := panesOk_sp l
 refine Ev.bind hev ?_
 cases b with
 | false => exact Ev.congr (fun k => if_neg (by simp)) jt
 | true =>
  obtain ⟨hl, hp⟩ := hb rfl
  refine Ev.congr (fun k => if_pos rfl) ?_
  by_cases h1 : a < 1
  ·exact Ev.congr (fun k => if_pos h1) jt
  ·refine Ev.congr (fun k => if_neg h1) ?_
   by_cases h5 : a > 5
   ·rw [decide_eq_true h5]; exact jt
   ·rw [decide_eq_false h5]
    refine Ev.step (fun k => by simp only [leatlaw11_WindowJoin.j0]; exact if_neg (by simp)) ?_
    have h := joinLaw_l0 (agg_ok h1 h5) l hl hp l.length [] (Nat.le_refl _) (by simp)
    rw [w_in (by omega)]
    exact h
end Go.Proofs.Ytdinbnbogdadgaa.Pure
