/- Lemmas towards the laws of the aggregates: contracts of the Go functions of package agg, and the plain arithmetic beneath. No conditions. -/
import Derived.Test.YtodpmiaedpmngaaP
import Derived.Test.YtodpmiaedpmngaaXf6
import Derived.Test.YtodpmiaedpmngaaXf15
namespace Go.Proofs.Ytodpmiaedpmngaa.X
open Go.RowKit Go.Proofs.YtodpmiaedpmngaaW.PrintWords
set_option linter.unusedVariables false
set_option linter.unusedSimpArgs false

theorem step_i {i n : Nat} (h : i < n) (hn : n < 4611686018427387904) : wrap64 ((i : Int) + 1) = ((i + 1 : Nat) : Int) := by unfold wrap64; omega
theorem rd_at {l : List Int} {i : Nat} (h : i < l.length) : rd l (i : Int) = l[i] := by simp [rd, h]

theorem all_l0 (a : Int) (l : List Int) (hn : l.length < 4611686018427387904) : ∀ (d i : Nat) (acc : Int), l.length = i + d →
    Ev (fun k => agg_All.l0 k a acc l (l.length : Int) (i : Int)) ((l.drop i).foldl (aggAdd a) acc)
  | 0, i, acc, h => by
    refine Ev.step (f := fun _ => some acc) (fun k => ?_) (ev_now ?_)
    · simp only [agg_All.l0]; rw [if_neg (by omega)]
    · rw [List.drop_of_length_le (by omega)]; rfl
  | d + 1, i, acc, h => by
    have hlt : i < l.length := by omega
    have hr : (l.drop i).foldl (aggAdd a) acc = (l.drop (i + 1)).foldl (aggAdd a) (aggAdd a acc l[i]) := by
      rw [List.drop_eq_getElem_cons hlt]; rfl
    rw [hr]
    refine Ev.step (fun k => ?_) (all_l0 a l hn d (i + 1) (aggAdd a acc l[i]) (by omega))
    simp only [agg_All.l0, agg_Add.f, Option.bind_some]
    rw [if_pos (by omega), if_pos (by omega), if_pos (by omega), rd_at hlt, step_i hlt hn]
theorem all_ev (a : Int) (l : List Int) (hn : l.length < 4611686018427387904) : Ev (fun k => agg_All.f k a l) (aggAll a l) := by
  have := all_l0 a l hn l.length 0 (aggZero a) (by omega)
  exact Ev.congr (fun k => by simp [agg_All.f, agg_Zero.f]) this

theorem known_ev : Ev (fun k => leatlaw10_known.f k) true := by
  have h1 := all_ev 2 [5, 5] (by decide)
  have e1 : aggAll 2 [5, 5] = 2 := by decide +kernel
  rw [e1] at h1
  refine Ev.congr (fun k => by rw [leatlaw10_known.f]) (Ev.bind h1 ?_)
  exact Ev.congr (fun k => by decide +kernel) (Ev.now true)

/-! ### the reference -/
theorem rmerge_ev {a : Int} (ha : aggOk a = true) (x y : Int) : Ev (fun k => leatref10_Merge.f k a x y) (aggMerge a x y) := by
  have ha' : 1 ≤ a ∧ a ≤ 5 := by simpa [aggOk] using ha
  have hm : aggMerge a x y = aggBoth a x y := by unfold aggMerge; rw [if_pos ha]
  have key : ∀ b : Bool, b = (a == 1 || a == 2) → Ev (fun k => leatref10_Merge.j0 k x y a b) (aggMerge a x y) := by
    intro b hb
    refine Ev.step (f := fun _ => some (aggBoth a x y)) (fun k => ?_) (ev_now hm.symm)
    simp only [leatref10_Merge.j0]
    unfold aggBoth
    by_cases h1 : a = 1 ∨ a = 2
    · have : b = true := by rw [hb]; simpa using h1
      rw [if_pos this, if_pos h1]
    · have : ¬ b = true := by rw [hb]; simpa using h1
      rw [if_neg this, if_neg h1]
      by_cases h3 : a = 3
      · rw [if_pos h3, if_pos h3]; unfold mn; congr 1; omega
      · rw [if_neg h3, if_neg h3]
        by_cases h4 : a = 4
        · rw [if_pos h4, if_pos h4]; unfold mx; congr 1; omega
        · rw [if_neg h4, if_neg h4, if_pos (by omega), if_pos (by omega)]
  by_cases h1 : a = 1
  · exact Ev.congr (fun k => by rw [leatref10_Merge.f, if_pos h1]) (key (a == 1) (by simp [h1]))
  · exact Ev.congr (fun k => by rw [leatref10_Merge.f, if_neg h1]) (key (a == 2) (by simp [h1]))
theorem radd_ev {a : Int} (ha : aggOk a = true) (x y : Int) : Ev (fun k => leatref10_Add.f k a x y) (aggAdd a x y) := by
  by_cases h2 : a = 2
  · subst h2
    exact Ev.congr (fun k => by rw [leatref10_Add.f, if_pos rfl]) (ev_now (by simp [aggAdd, aggOk, aggBoth, aggVal]))
  · have hm : aggAdd a x y = aggMerge a x y := by unfold aggAdd aggMerge aggVal; rw [if_neg h2]
    rw [hm]
    exact Ev.congr (fun k => by rw [leatref10_Add.f, if_neg h2]) (Ev.bind (rmerge_ev ha x y) (Ev.now _))
theorem rzero (a : Int) : leatref10_Zero.f a = some (aggZero a) := by
  unfold leatref10_Zero.f aggZero
  split
  · rfl
  · split <;> rfl
theorem rall_l0 {a : Int} (ha : aggOk a = true) (l : List Int) (hn : l.length < 4611686018427387904) : ∀ (d i : Nat) (acc : Int), l.length = i + d →
    Ev (fun k => leatref10_All.l0 k a l acc (i : Int)) ((l.drop i).foldl (aggAdd a) acc)
  | 0, i, acc, h => by
    refine Ev.step (f := fun _ => some acc) (fun k => ?_) (ev_now ?_)
    · simp only [leatref10_All.l0]; rw [if_neg (by omega)]
    · rw [List.drop_of_length_le (by omega)]; rfl
  | d + 1, i, acc, h => by
    have hlt : i < l.length := by omega
    have hr : (l.drop i).foldl (aggAdd a) acc = (l.drop (i + 1)).foldl (aggAdd a) (aggAdd a acc l[i]) := by
      rw [List.drop_eq_getElem_cons hlt]; rfl
    rw [hr]
    refine Ev.step (fun k => ?_) (Ev.bind (f := fun k t => leatref10_All.l0 k a l t ((i + 1 : Nat) : Int)) (radd_ev ha acc l[i]) (rall_l0 ha l hn d (i + 1) (aggAdd a acc l[i]) (by omega)))
    simp only [leatref10_All.l0]
    rw [if_pos (by omega), if_pos (by omega), rd_at hlt, step_i hlt hn]
theorem rall_ev {a : Int} (ha : aggOk a = true) (l : List Int) (hn : l.length < 4611686018427387904) : Ev (fun k => leatref10_All.f k a l) (aggAll a l) := by
  have := rall_l0 ha l hn l.length 0 (aggZero a) (by omega)
  exact Ev.congr (fun k => by simp [leatref10_All.f, rzero]) this
end Go.Proofs.Ytodpmiaedpmngaa.X
