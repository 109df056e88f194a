/- Lemmas towards the laws of the aggregates: contracts of the Go functions of package agg, and the plain arithmetic beneath. No conditions. -/
import Derived.Test.YtodpmiaedpmngaaQ
import Derived.Test.YtodpmiaedpmngaaXf3
import Derived.Test.YtodpmiaedpmngaaXf4
namespace Go.Proofs.Ytodpmiaedpmngaa.X
open Go.RowKit Go.Proofs.YtodpmiaedpmngaaW.PrintWords
set_option linter.unusedVariables false
set_option linter.unusedSimpArgs false

theorem small {n : Nat} (h : n * 8 ≤ 140737488351232) : n < 4611686018427387904 := by omega

theorem no_all {a : Int} (ha : aggOk a = false) (l : List Int) : aggAll a l = 0 := by
  unfold aggAll
  have hz : aggZero a = 0 := zero_no (by have := ha; simp [aggOk] at this; omega)
  rw [hz]
  induction l with
  | nil => rfl
  | cons x l ih => rw [List.foldl_cons, show aggAdd a 0 x = 0 from by simp [aggAdd, ha]]; exact ih

theorem AggPlays : leatlaw10_AggPlays.Pure := by
  intro a l x y ha hl1 hl hl3 hx hy
  refine Ev.rounds (g := fun k => leatlaw10_AggPlays.f k a l x y) ?_
  refine Ev.congr (fun k => by rw [leatlaw10_AggPlays.f]) (Ev.bind known_ev ?_)
  refine ev_pos rfl ?_
  by_cases h0 : (l.length : Int) > 2000
  · exact ev_pos h0 (Ev.now _)
  refine ev_neg h0 ?_
  have key : Ev (fun k => leatlaw10_AggPlays.j0 k a l x y false) true := by
    by_cases hok : aggOk a = true
    · refine Ev.step (f := ?f1) (fun k => ?h1) ?r1
      case h1 =>
        conv => lhs; simp only [leatlaw10_AggPlays.j0, agg_Is.f, agg_Zero.f, agg_Add.f, agg_Merge.f, Option.bind_some, hok, rzero, if_true, Bool.false_eq_true, if_false]
      refine Ev.bind (radd_ev hok x y) (ev_pos rfl ?_)
      refine Ev.bind (rmerge_ev hok x y) (ev_pos rfl ?_)
      refine Ev.bind (all_ev a l (small hl)) ?_
      refine Ev.bind (rall_ev hok l (small hl)) (ev_now ?_)
      simp
    · have hno : aggOk a = false := by simpa using hok
      have hz : aggZero a = 0 := zero_no (by have := hno; simp [aggOk] at this; omega)
      refine Ev.step (f := ?f2) (fun k => ?h2) ?r2
      case h2 =>
        conv => lhs; simp only [leatlaw10_AggPlays.j0, agg_Is.f, agg_Zero.f, agg_Add.f, agg_Merge.f, Option.bind_some, hno, hz, aggAdd, aggMerge, if_true, Bool.false_eq_true, if_false]
      refine Ev.bind (all_ev a l (small hl)) (ev_now ?_)
      rw [no_all hno]; rfl
  have hb : aggOk a = decide (a ≥ 1 ∧ a ≤ 5) := rfl
  refine Ev.congr (fun k => ?_) key
  simp only [agg_Is.f, Option.bind_some]
  by_cases h1 : a ≥ 1
  · rw [if_pos h1, hb]; simp [h1]
  · rw [if_neg h1, hb]; simp [h1]

theorem AggMonoid : leatlaw10_AggMonoid.Pure := by
  intro a x y z l m ha hx hy hz hl1 hl hlw hm1 hm hmw
  have hx := i64_wf hx; have hy := i64_wf hy; have hz := i64_wf hz
  refine Ev.rounds (g := fun k => leatlaw10_AggMonoid.f k a x y z l m) ?_
  refine Ev.congr (fun k => by rw [leatlaw10_AggMonoid.f]) (Ev.bind known_ev ?_)
  refine ev_pos rfl ?_
  have fin : Ev (fun k => leatlaw10_AggMonoid.j0 k a x y z l m true) true := by
    refine Ev.step (f := fun _ => some true) (fun k => ?_) (Ev.now _)
    simp only [leatlaw10_AggMonoid.j0]; rfl
  by_cases hok : aggOk a = true
  · refine Ev.congr (fun k => by simp only [agg_Is.f, Option.bind_some, hok, if_true]; rfl) ?_
    by_cases h0 : (l.length : Int) > 1000
    · exact ev_pos h0 fin
    refine ev_neg h0 ?_
    by_cases h1 : (m.length : Int) > 1000
    · rw [decide_eq_true h1]; exact fin
    rw [decide_eq_false h1]
    refine Ev.step (f := ?f3) (fun k => ?h3) ?r3
    case h3 =>
      conv => lhs; simp only [leatlaw10_AggMonoid.j0, agg_Is.f, agg_Zero.f, agg_Add.f, agg_Merge.f, Option.bind_some, hok, aggMerge, if_true, Bool.false_eq_true, if_false]
    refine ev_pos (by simp; omega) (ev_pos (by simp; omega) (ev_pos (both_comm a x y) (ev_pos (both_assoc a x y z) (ev_pos (both_zero hok hx) ?_))))
    refine Ev.bind (all_ev a l (small hl)) (Ev.bind (all_ev a m (small hm)) (Ev.bind (all_ev a _ ?_) (ev_now ?_)))
    · simp; omega
    · rw [List.nil_append, all_append hok (fun x hx => i64_wf (hmw x hx)), both_comm]; simp
  · have hno : aggOk a = false := by simpa using hok
    exact Ev.congr (fun k => by simp only [agg_Is.f, Option.bind_some, hno]; rfl) fin
end Go.Proofs.Ytodpmiaedpmngaa.X
