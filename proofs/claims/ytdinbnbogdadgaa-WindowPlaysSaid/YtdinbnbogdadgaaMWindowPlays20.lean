/- What is asked of the law WindowPlays, in plain Lean. No conditions. -/
import Derived.Test.YtdinbnbogdadgaaMWindowPlays19
import Derived.Test.YtdinbnbogdadgaaMWindowPlays18
import Derived.Test.YtdinbnbogdadgaaMWindowPlays17
namespace Go.Proofs.Ytdinbnbogdadgaa.Op
open Go.RowKit Go.Proofs.YtdinbnbogdadgaaW.PrintWords Go.Proofs.Ytdinbnbogdadgaa.X
def WindowPlaysPure : Prop := ∀ (a0_0 : Int) (a0_1 : Int) (a0_2 : Int) (a1 : Int) (l2 : List (S37)) (l3 : List Int), ((Lit.int .i64 a0_0).wf = true) → ((Lit.int .i64 a0_1).wf = true) → ((Lit.int .i64 a0_2).wf = true) → ((Lit.int .i64 a1).wf = true) → (l2.length * 24 ≤ 140737488351232 ∧ l2.length ≤ 9223372036854775807 ∧ ∀ x ∈ l2, Good37 x) → (l3.length * 8 ≤ 140737488351232 ∧ l3.length ≤ 9223372036854775807 ∧ ∀ x ∈ l3, (Lit.int .i64 x).wf = true) → ∃ k, leatlaw11_WindowPlays.f k a0_0 a0_1 a0_2 a1 l2 l3 = some true
end Go.Proofs.Ytdinbnbogdadgaa.Op
namespace Go.Proofs.Ytdinbnbogdadgaa.Pure
open Go.RowKit Go.Sort Go.Proofs.YtdinbnbogdadgaaW.PrintWords Go.Proofs.YtdinbnbogdadgaaW.PrintMore Go.Proofs.Ytdinbnbogdadgaa Go.Proofs.Ytdinbnbogdadgaa.So Go.Proofs.Ytdinbnbogdadgaa.X Go.Proofs.Ytdinbnbogdadgaa.Nf Go.Proofs.Ytdinbnbogdadgaa.Th Go.Proofs.Ytdinbnbogdadgaa.Op
set_option linter.unusedVariables false
set_option linter.unusedSimpArgs false
theorem plays_l0 {kind size slide a : Int} (ha : aggOk a = true) (hf : Fit kind size slide) (l : List S37) (hl : l.length ≤ 60) (hg : ∀ r ∈ l, I64 r.f2) (ms : List Int) : ∀ (d i : Nat) (p : List S46), l.length = i + d →
  NK kind p → Sorted p → (∀ y ∈ p, Proper y) → p.length ≤ i * 64 →
  Ev (fun k => leatlaw11_WindowPlays.l0 k a l ms p p (i : Int) kind size slide) true
 | 0, i, p, h, hN, hS, hP, hpl => by
  refine Ev.step (f := fun _ => some true) (fun k => ?_) (Ev.now _)
  simp only [leatlaw11_WindowPlays.l0]
  rw [if_neg (by omega)]
 | d + 1, i, p, h, hN, hS, hP, hpl => by
  have hlt : i < l.length := by omega
  have hw := step_i hlt (by omega)
  have hv := hg _ (List.getElem_mem hlt)
  by_cases ht : TimeOk l[i].f1
  ·have hput := put_ev (a := a) hf ht l[i].f0 l[i].f2 p (by omega)
   have I0 : Is kind a p p := ⟨.done (.refl _), hN, hS⟩
   have J := Is.put ha I0 l[i].f0 hv (spansP kind size slide l[i].f1)
   obtain ⟨r, hr, hev⟩ := rput_sp ha hf ht l[i].f0 l[i].f2 p (by omega) hN hS hP
   have he : r = putL kind a l[i].f0 l[i].f2 (spansP kind size slide l[i].f1) p := Is.unique ha hr.is J (.refl _)
   have hlen := rs_len hr.is.rs
   have hsl := spansP_len kind size slide l[i].f1
   rw [List.length_append, List.length_map] at hlen
   rw [← he] at hput
   have c0 := panes_ev p (by omega)
   have c1 := panes_ev r (by omega)
   refine Ev.step (f := fun k => (window_Put.f k kind size slide a p l[i].f0 l[i].f1 l[i].f2).bind fun t319 => (leathelp_Panes.f k p p).bind fun t322 => if t322 = true then (leatref11_Put.f k kind size slide a p l[i].f0 l[i].f1 l[i].f2).bind fun t324 => (leathelp_Panes.f k t319 t324).bind fun t327 => if t327 = true then (if (i : Int) < (ms.length : Int) then ((window_Fire.f k t319 (rd ms i)).bind fun bt329 => ((leatref11_Fire.f k t324 (rd ms i)).bind fun bt336 => ((leathelp_Records.f k bt329.1 bt336.1).bind fun t342 => (if t342 = true then ((leathelp_Panes.f k bt329.2 bt336.2).bind fun t343 => (if t343 = true then (leatlaw11_WindowPlays.l0 k a l ms bt329.2 bt336.2 ((i + 1 : Nat) : Int) kind size slide) else (none))) else (none))))) else (leatlaw11_WindowPlays.l0 k a l ms t319 t324 ((i + 1 : Nat) : Int) kind size slide)) else none else none) (fun k => ?_) ?_
   ·simp only [leatlaw11_WindowPlays.l0]
    rw [if_pos (by omega), if_pos (by omega), rd37_at hlt, time_eq, Option.bind_some, if_pos (decide_eq_true ht), if_pos (by simp; omega), hw]
    rfl
   ·refine Ev.bind hput ?_
    refine Ev.bind c0 ?_
    refine Ev.congr (fun k => if_pos rfl) ?_
    refine Ev.bind hev ?_
    refine Ev.bind c1 ?_
    refine Ev.congr (fun k => if_pos rfl) ?_
    by_cases hm : (i : Int) < (ms.length : Int)
    ·refine Ev.congr (fun k => if_pos hm) ?_
     have f1 := fire_ev (rd ms i) r (by omega)
     have f2 := rfire_ev (rd ms i) r (by omega)
     rw [sortP_same hr.is.st] at f1 f2
     have hl1 : (outR (rd ms i) r).length ≤ r.length := by unfold outR; rw [List.length_map]; exact List.length_filter_le _ _
     have hl2 : (leftR (rd ms i) r).length ≤ r.length := List.length_filter_le _ _
     have c2 := records_ev (outR (rd ms i) r) (by omega)
     have c3 := panes_ev (leftR (rd ms i) r) (by omega)
     have hsub : (leftR (rd ms i) r).Sublist r := List.filter_sublist
     refine Ev.bind f1 ?_
     refine Ev.bind f2 ?_
     refine Ev.bind c2 ?_
     refine Ev.congr (fun k => if_pos rfl) ?_
     refine Ev.bind c3 ?_
     refine Ev.congr (fun k => if_pos rfl) ?_
     exact plays_l0 ha hf l hl hg ms d (i + 1) _ (by omega) (List.Pairwise.sublist hsub hr.is.nk) (List.Pairwise.sublist hsub hr.is.st) (fun y hy => hr.pr y (hsub.subset hy)) (by show (leftR (rd ms i) r).length ≤ (i + 1) * 64; omega)
    ·refine Ev.congr (fun k => if_neg hm) ?_
     exact plays_l0 ha hf l hl hg ms d (i + 1) r (by omega) hr.is.nk hr.is.st hr.pr (by omega)
  ·refine Ev.step (f := fun _ => some true) (fun k => ?_) (Ev.now true)
   simp only [leatlaw11_WindowPlays.l0]
   rw [if_pos (by omega), if_pos (by omega), rd37_at hlt, time_eq, Option.bind_some, decide_eq_false ht, if_neg (by simp)]
theorem WindowPlays : Go.Proofs.Ytdinbnbogdadgaa.Op.WindowPlaysPure := by
 intro kind size slide a l ms w1 w2 w3 w4 hl w5
 refine Ev.rounds (g := fun k => leatlaw11_WindowPlays.f k kind size slide a l ms) ?_
 have hg : ∀ r ∈ l, I64 r.f2 := fun r hr => i64_wf (hl.2.2 r hr).2.2
 have jt : Ev (fun k => leatlaw11_WindowPlays.j0 k a l ms true kind size slide) true := Ev.step (f := fun _ => some true) (fun k => by simp only [leatlaw11_WindowPlays.j0]; exact if_pos trivial) (Ev.now _)
 refine Ev.congr (fun k => by rw [leatlaw11_WindowPlays.f]) (Ev.bind known_ev (Ev.congr (fun k => if_pos rfl) ?_))
 obtain ⟨b, hb, hfit⟩ := fit_sp kind size slide
 refine Ev.bind hfit ?_
 cases b with
 | false => exact Ev.congr (fun k => if_neg (by simp)) jt
 | true =>
  have hf := hb rfl
  refine Ev.congr (fun k => if_pos rfl) ?_
  by_cases h60 : (l.length : Int) > 60
  ·exact Ev.congr (fun k => if_pos h60) jt
  ·refine Ev.congr (fun k => if_neg h60) ?_
   by_cases m60 : (ms.length : Int) > 60
   ·exact Ev.congr (fun k => if_pos m60) jt
   ·refine Ev.congr (fun k => if_neg m60) ?_
    by_cases h1 : a < 1
    ·exact Ev.congr (fun k => if_pos h1) jt
    ·refine Ev.congr (fun k => if_neg h1) ?_
     by_cases h5 : a > 5
     ·rw [decide_eq_true h5]; exact jt
     ·rw [decide_eq_false h5]
      refine Ev.step (fun k => by simp only [leatlaw11_WindowPlays.j0]; exact if_neg (by simp)) ?_
      exact plays_l0 (agg_ok h1 h5) hf l (by omega) hg ms l.length 0 [] (by omega) List.Pairwise.nil List.Pairwise.nil (by simp) (by simp)
end Go.Proofs.Ytdinbnbogdadgaa.Pure
