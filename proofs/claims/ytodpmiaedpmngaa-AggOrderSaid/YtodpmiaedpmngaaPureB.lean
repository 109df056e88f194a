/- Lemmas towards the laws of the aggregates: contracts of the Go functions of package agg, and the plain arithmetic beneath. No conditions. -/
import Derived.Test.YtodpmiaedpmngaaQ
import Derived.Test.YtodpmiaedpmngaaXf5
namespace Go.Proofs.Ytodpmiaedpmngaa.X
open Go.RowKit Go.Proofs.YtodpmiaedpmngaaW.PrintWords
set_option linter.unusedVariables false
set_option linter.unusedSimpArgs false

theorem count_all (l : List Int) : ∀ (acc : Int), 0 ≤ acc → acc + l.length < 9223372036854775807 → l.foldl (aggAdd 2) acc = acc + l.length := by
  induction l with
  | nil => intro acc _ _; simp
  | cons x l ih =>
    intro acc h0 h1
    simp only [List.length_cons] at h1
    have : aggAdd 2 acc x = acc + 1 := by
      have : aggAdd 2 acc x = wrap64 (acc + 1) := rfl
      rw [this]; exact wrap_in (by unfold I64; omega)
    rw [List.foldl_cons, this, ih _ (by omega) (by omega)]; simp only [List.length_cons]; omega

theorem j4_ev {a x : Int} {l : List Int} (hok : aggOk a = true) (hl : ∀ y ∈ l, I64 y) (hx : I64 x) (hn : l.length ≤ 500) : Ev (fun k => leatlaw10_AggOrder.j4 k a l x (aggAll a l) false) true := by
  have ha : 1 ≤ a ∧ a ≤ 5 := by simpa [aggOk] using hok
  have hin := all_in hok hl
  refine Ev.step (f := fun _ => some true) (fun k => ?_) (Ev.now _)
  simp only [leatlaw10_AggOrder.j4, agg_Add.f, Option.bind_some, Bool.false_eq_true, if_false]
  by_cases h2 : a = 2
  · subst h2
    rw [if_pos rfl]
    have : aggAll 2 l = l.length := by unfold aggAll; rw [show aggZero 2 = 0 from rfl, count_all l 0 (by omega) (by omega)]; omega
    rw [this]; simp
  rw [if_neg h2]
  by_cases h3 : a = 3
  · subst h3; rw [if_pos rfl]
    have : aggAdd 3 (aggAll 3 l) x = min (aggAll 3 l) x := rfl
    rw [this]; congr 1; simp; omega
  rw [if_neg h3]
  by_cases h4 : a = 4
  · subst h4; rw [if_pos rfl]
    have : aggAdd 4 (aggAll 4 l) x = max (aggAll 4 l) x := rfl
    rw [this]; congr 1; simp; omega
  rw [if_neg h4]
  by_cases h5 : a = 5
  · subst h5; rw [if_pos rfl]
    have e : ∀ u v, aggAdd 5 u v = bits .xor .i64 u v := fun _ _ => rfl
    rw [e, e, bits_xor, bits_xor, bv_toInt, BitVec.xor_assoc, BitVec.xor_self, BitVec.xor_zero, toInt_bv hin]; simp
  rw [if_neg h5]
  have h1 : a = 1 := by omega
  subst h1
  have e : ∀ u v, aggAdd 1 u v = wrap64 (u + v) := fun _ _ => rfl
  rw [e, e]
  have : wrap64 (wrap64 (aggAll 1 l + x) + wrap64 (-x)) = aggAll 1 l := by unfold I64 at hin; unfold wrap64; omega
  rw [this]; simp

theorem l0_ev {a x : Int} {l t : List Int} (hok : aggOk a = true) (hl : ∀ y ∈ l, I64 y) (hx : I64 x) (hn : l.length ≤ 500) (ht : l.Perm t) : ∀ (n : Nat), n ≤ l.length →
    Ev (fun k => leatlaw10_AggOrder.l0 k a l x t (l.drop n).reverse ((n : Int) - 1)) true
  | 0, _ => by
    have htn : t.length ≤ 500 := by rw [← ht.length_eq]; exact hn
    refine Ev.step (f := ?f1) (fun k => ?h1) ?r1
    case h1 =>
      conv => lhs; simp only [leatlaw10_AggOrder.l0, List.drop_zero, agg_Add.f, Option.bind_some]
    refine ev_neg (by omega) (Ev.bind (all_ev a l (by omega)) (ev_pos (by simp; omega) (ev_pos (by simp; omega) (Ev.bind (all_ev a t (by omega)) (ev_pos (all_perm hok ht hl).symm (Ev.bind (all_ev a l.reverse (by simp; omega)) (ev_pos (all_perm hok (List.reverse_perm l).symm hl).symm (Ev.bind (all_ev a _ (by simp; omega)) ?_))))))))
    rw [List.nil_append, all_snoc]
    simp only [bne_self_eq_false]
    exact j4_ev hok hl hx hn
  | n + 1, h => by
    have ih := l0_ev (t := t) hok hl hx hn ht n (by omega)
    refine Ev.step (fun k => ?_) ih
    have e1 : (((n + 1 : Nat) : Int) - 1) = (n : Int) := by omega
    have e2 : wrap64 ((n : Int) - 1) = (n : Int) - 1 := by unfold wrap64; omega
    simp only [leatlaw10_AggOrder.l0, e1]
    rw [if_pos (by omega), if_pos (by omega), if_pos (by omega), if_pos (by simp; omega), rd_at (by omega), e2, List.drop_eq_getElem_cons (show n < l.length by omega), List.reverse_cons]

theorem AggOrder : leatlaw10_AggOrder.Pure := by
  intro a l at_ x ha hl1 hl hlw hat hx
  have hx := i64_wf hx
  have hlw := fun y hy => i64_wf (hlw y hy)
  refine Ev.rounds (g := fun k => leatlaw10_AggOrder.f k a l at_ x) ?_
  refine Ev.congr (fun k => by rw [leatlaw10_AggOrder.f]) (Ev.bind known_ev ?_)
  refine ev_pos rfl ?_
  have fin : Ev (fun k => leatlaw10_AggOrder.j0 k a l at_ x true) true := by
    refine Ev.step (f := fun _ => some true) (fun k => ?_) (Ev.now _)
    simp only [leatlaw10_AggOrder.j0]; rfl
  by_cases hok : aggOk a = true
  · refine Ev.congr (fun k => by simp only [agg_Is.f, Option.bind_some, hok, if_true]; rfl) ?_
    by_cases h0 : (l.length : Int) > 500
    · rw [decide_eq_true h0]; exact fin
    rw [decide_eq_false h0]
    have j2 : ∀ i : Int, 0 ≤ i → i ≤ l.length → Ev (fun k => leatlaw10_AggOrder.j2 k a l i x) true := by
      intro i h1 h2
      refine Ev.step (f := ?f2) (fun k => ?h2) ?r2
      case h2 => conv => lhs; simp only [leatlaw10_AggOrder.j2, Option.bind_some]
      refine ev_pos h1 (ev_pos h2 (ev_pos (by simp; omega) (ev_pos (by simp; omega) ?_)))
      have hp : l.Perm ([] ++ l.drop i.toNat ++ l.take i.toNat) := by
        rw [List.nil_append]
        have := List.perm_append_comm (l₁ := l.take i.toNat) (l₂ := l.drop i.toNat)
        rwa [List.take_append_drop] at this
      have := l0_ev hok hlw hx (by omega) hp l.length (Nat.le_refl _)
      rw [List.drop_length] at this
      have e : wrap64 ((l.length : Int) - 1) = (l.length : Int) - 1 := by unfold wrap64; omega
      rw [e]; exact this
    have j1 : ∀ b : Bool, (b = false → 0 ≤ at_ ∧ at_ ≤ l.length) → Ev (fun k => leatlaw10_AggOrder.j1 k a l at_ x b) true := by
      intro b hb
      refine Ev.step (f := ?f3) (fun k => ?h3) ?r3
      case h3 => conv => lhs; simp only [leatlaw10_AggOrder.j1]
      cases b with
      | true =>
        refine ev_pos rfl ?_
        have e : wrap64 ((l.length : Int) / 2) = (l.length : Int) / 2 := by unfold wrap64; omega
        rw [e]; exact j2 _ (by omega) (by omega)
      | false => exact ev_neg (by simp) (j2 _ (hb rfl).1 (hb rfl).2)
    refine Ev.step (f := ?f4) (fun k => ?h4) ?r4
    case h4 => conv => lhs; simp only [leatlaw10_AggOrder.j0]
    refine ev_neg (by simp) ?_
    by_cases h1 : at_ < 0
    · exact ev_pos h1 (j1 true (by simp))
    · refine ev_neg h1 (j1 _ ?_)
      intro h; have := of_decide_eq_false h; omega
  · have hno : aggOk a = false := by simpa using hok
    exact Ev.congr (fun k => by simp only [agg_Is.f, Option.bind_some, hno]; rfl) fin
end Go.Proofs.Ytodpmiaedpmngaa.X
