/- WindowCounts in plain Lean: windows share all records out between them, by counts and by sums. No conditions but those typed. -/
import Derived.Test.YtdinbnbogdadgaaDSayWindowCounts
import Derived.Test.YtdinbnbogdadgaaB18
namespace Go.Proofs.Ytdinbnbogdadgaa.Pure
open Go.RowKit Go.Sort Go.Proofs.YtdinbnbogdadgaaW.PrintWords Go.Proofs.YtdinbnbogdadgaaW.PrintMore Go.Proofs.Ytdinbnbogdadgaa Go.Proofs.Ytdinbnbogdadgaa.X Go.Proofs.Ytdinbnbogdadgaa.Nf Go.Proofs.Ytdinbnbogdadgaa.Th Go.Proofs.Ytdinbnbogdadgaa.Op
set_option linter.unusedVariables false
set_option linter.unusedSimpArgs false
def sumA (l : List S46) : Int := (l.map (fun p => p.f2)).sum
theorem sumA_cons (p : S46) (l : List S46) : sumA (p :: l) = p.f2 + sumA l := by simp [sumA]
theorem sumA_app (x y : List S46) : sumA (x ++ y) = sumA x + sumA y := by simp [sumA]
theorem sumA_perm {x y : List S46} (h : x.Perm y) : sumA x = sumA y := by
 induction h with
 | nil => rfl
 | cons a h ih => rw [sumA_cons, sumA_cons, ih]
 | swap a b l => simp only [sumA_cons]; omega
 | trans h1 h2 ih1 ih2 => rw [ih1, ih2]
theorem wrap_add (x y : Int) : wrap64 (wrap64 x + y) = wrap64 (x + y) := by unfold wrap64; omega
theorem rs_sum {kind a : Int} (ha : a = 1 ∨ a = 2) {x p : List S46} (h : RSk kind a x p) : wrap64 (sumA x) = wrap64 (sumA p) := by
 induction h with
 | done h => rw [sumA_perm h]
 | step h1 h2 ih =>
  obtain ⟨u, v, r, e1, e2, e3⟩ := h1.out
  rw [← ih, sumA_perm e1, sumA_perm e3, sumA_cons, sumA_cons, sumA_cons]
  show _ = wrap64 (aggMerge a u.f2 v.f2 + _)
  have hm : aggMerge a u.f2 v.f2 = wrap64 (u.f2 + v.f2) := by
   have hk : aggOk a = true := by unfold aggOk; exact decide_eq_true (by omega)
   rw [merge_both hk, aggBoth, if_pos ha]
  rw [hm, wrap_add, Int.add_assoc]
def era (p : S46) : S46 := ⟨p.f0, p.f1, 0⟩
def joinE (p x : S46) : S46 := era (joinP 1 p x)
theorem hit_era (kind : Int) (p x : S46) : hitK kind (era p) x ↔ hitK kind p x := Iff.rfl
theorem mgE (kind : Int) : Mg (hitK kind) joinE where
 sym h := (mgK kind (a := 1) rfl).sym h
 comm h := by unfold joinE; rw [(mgK kind (a := 1) rfl).comm h]
 turn {x y z} h1 h2 := by
  have h := (mgK kind (a := 1) rfl).turn h1 h2
  have e1 : (joinP 1 (joinP 1 x y) z).f1 = (joinP 1 (joinP 1 x z) y).f1 := by rw [h]
  exact S46_ext rfl (congrArg S31.f0 e1) (congrArg S31.f1 e1) rfl
 mono h1 h2 := (hit_era kind _ _).2 ((mgK kind (a := 1) rfl).mono h1 h2)
theorem rs_era {kind a : Int} {x p : List S46} (h : RSk kind a x p) : RS (hitK kind) joinE (x.map era) (p.map era) := by
 induction h with
 | done h => exact .done (h.map _)
 | step h1 h2 ih =>
  obtain ⟨u, v, r, e1, e2, e3⟩ := h1.out
  have hh : hitK kind (era u) (era v) := e2
  have hj : era (joinP a u v) = joinE (era u) (era v) := S46_ext rfl rfl rfl rfl
  refine .step (.mk (x := era u) (y := era v) (r := r.map era) (e1.map era) hh ?_) ih
  rw [← hj]; exact e3.map era
theorem nk_era {kind : Int} {p : List S46} (h : NK kind p) : NK kind (p.map era) := by
 unfold NK Normal at *
 rw [List.pairwise_map]
 exact h
theorem ones_era (sp : Int → List S31) (rs : List S37) : (ones 2 sp rs).map era = (ones 1 sp rs).map era := by
 unfold ones
 rw [List.map_flatMap, List.map_flatMap]
 congr 1
 funext r
 rw [List.map_map, List.map_map]
 rfl
theorem one_sum (a key val : Int) (c : Int) (h : aggAdd a (aggZero a) val = c) : ∀ ss : List S31, sumA (ss.map (one a key val)) = ss.length * c
 | [] => by simp [sumA]
 | s :: ss => by
  rw [List.map_cons, sumA_cons, one_sum a key val c h ss, List.length_cons]
  show aggAdd a (aggZero a) val + _ = _
  rw [h, Int.natCast_succ, Int.add_mul, Int.one_mul, Int.add_comm]
theorem counts_l2 (p q : List S46) (hq : q.length ≤ 4000) (hpq : p.length = q.length) : ∀ (d i : Nat) (s : Int), q.length = i + d → wrap64 (s - sumA (q.drop i)) = 0 → wrap64 s = s →
  Ev (fun k => leatlaw11_WindowCounts.l2 k p q 0 s (i : Int)) true
 | 0, i, s, h, hs, hw => by
  rw [List.drop_eq_nil_of_le (by omega)] at hs
  have h0 : s = 0 := by rw [show sumA [] = 0 from rfl, Int.sub_zero, hw] at hs; exact hs
  refine Ev.step (f := fun _ => some true) (fun k => ?_) (Ev.now _)
  simp only [leatlaw11_WindowCounts.l2]
  rw [if_neg (by omega), if_pos trivial, if_pos h0, hpq]
  simp
 | d + 1, i, s, h, hs, hw => by
  have hlt : i < q.length := by omega
  rw [List.drop_eq_getElem_cons hlt, sumA_cons] at hs
  refine Ev.step (fun k => ?_) (counts_l2 p q hq hpq d (i + 1) (wrap64 (s - q[i].f2)) (by omega) (by rw [Int.sub_eq_add_neg, wrap_add, show s - q[i].f2 + -sumA (q.drop (i + 1)) = s - (q[i].f2 + sumA (q.drop (i + 1))) by omega]; exact hs) (by unfold wrap64; omega))
  simp only [leatlaw11_WindowCounts.l2]
  rw [if_pos (by omega), if_pos (by omega), rd46_at hlt, step_i hlt (by omega)]
theorem counts_l1 (p q : List S46) (hq : q.length ≤ 4000) (hpq : p.length = q.length) (s : Int) (hs : wrap64 (s - sumA q) = 0) (hw : wrap64 s = s) : ∀ (d i : Nat) (c : Int), p.length = i + d → wrap64 (c - sumA (p.drop i)) = 0 → wrap64 c = c →
  Ev (fun k => leatlaw11_WindowCounts.l1 k p q c s (i : Int)) true
 | 0, i, c, h, hc, hwc => by
  rw [List.drop_eq_nil_of_le (by omega)] at hc
  have h0 : c = 0 := by rw [show sumA [] = 0 from rfl, Int.sub_zero, hwc] at hc; exact hc
  subst h0
  refine Ev.step (fun k => ?_) (counts_l2 p q hq hpq q.length 0 s (by omega) (by simpa using hs) hw)
  simp only [leatlaw11_WindowCounts.l1]
  rw [if_neg (by omega)]
  rfl
 | d + 1, i, c, h, hc, hwc => by
  have hlt : i < p.length := by omega
  rw [List.drop_eq_getElem_cons hlt, sumA_cons] at hc
  refine Ev.step (fun k => ?_) (counts_l1 p q hq hpq s hs hw d (i + 1) (wrap64 (c - p[i].f2)) (by omega) (by rw [Int.sub_eq_add_neg, wrap_add, show c - p[i].f2 + -sumA (p.drop (i + 1)) = c - (p[i].f2 + sumA (p.drop (i + 1))) by omega]; exact hc) (by unfold wrap64; omega))
  simp only [leatlaw11_WindowCounts.l1]
  rw [if_pos (by omega), if_pos (by omega), rd46_at hlt, step_i hlt (by omega)]
theorem counts_l0 {kind size slide : Int} (hf : Fit kind size slide) (l : List S37) (hl : l.length ≤ 60) (hg : ∀ r ∈ l, I64 r.f2) : ∀ (d i : Nat) (p q : List S46), l.length = i + d →
  Is kind 2 (ones 2 (spansP kind size slide) (l.take i)) p → Is kind 1 (ones 1 (spansP kind size slide) (l.take i)) q →
  Ev (fun k => leatlaw11_WindowCounts.l0 k l p q (wrap64 (sumA (ones 2 (spansP kind size slide) (l.take i)))) (wrap64 (sumA (ones 1 (spansP kind size slide) (l.take i)))) (i : Int) kind size slide) true
 | 0, i, p, q, h, I1, I2 => by
  have l1 := is_len I1
  have l2 := is_len I2
  have hi : l.take i = l := List.take_of_length_le (by omega)
  rw [hi] at I1 I2 l1 l2 ⊢
  have h1 := rs_sum (.inr rfl) I1.rs
  have h2 := rs_sum (.inl rfl) I2.rs
  have hpq : p.length = q.length := by
   have e1 := rs_era I1.rs
   have e2 := rs_era I2.rs
   rw [ones_era] at e1
   have := (Nf.unique (mgE kind) e1 e2 (nk_era I1.nk) (nk_era I2.nk)).length_eq
   simpa using this
  have hz : ∀ x y : Int, wrap64 x = wrap64 y → wrap64 (wrap64 x - y) = 0 := by intro x y h; unfold wrap64 at *; omega
  refine Ev.step (fun k => ?_) (counts_l1 p q (by omega) hpq _ (hz _ _ h2) (by unfold wrap64; omega) p.length 0 (wrap64 (sumA (ones 2 (spansP kind size slide) l))) (by omega) (hz _ _ (by simpa using h1)) (by unfold wrap64; omega))
  simp only [leatlaw11_WindowCounts.l0]
  rw [if_neg (by omega)]
  rfl
 | d + 1, i, p, q, h, I1, I2 => by
  have hlt : i < l.length := by omega
  have l1 := is_len I1
  have l2 := is_len I2
  rw [List.length_take] at l1 l2
  have hv := hg _ (List.getElem_mem hlt)
  have hw := step_i hlt (by omega)
  by_cases ht : TimeOk l[i].f1
  ·have hsp := spans_ev hf ht
   have hput := put_ev (a := 2) hf ht l[i].f0 l[i].f2 p (by omega)
   have hput2 := put_ev (a := 1) hf ht l[i].f0 l[i].f2 q (by omega)
   have J1 := put_is rfl hf I1 hv
   have J2 := put_is rfl hf I2 hv
   rw [← take_snoc hlt] at J1 J2
   have ih := counts_l0 hf l hl hg d (i + 1) _ _ (by omega) J1 J2
   have a2 : aggAdd 2 (aggZero 2) l[i].f2 = 1 := by rw [add_eq rfl, show aggVal 2 l[i].f2 = 1 from if_pos rfl]; decide +kernel
   have a1 : aggAdd 1 (aggZero 1) l[i].f2 = l[i].f2 := by
    rw [add_eq rfl]
    show wrap64 (0 + (if (1 : Int) = 2 then 1 else l[i].f2)) = l[i].f2
    rw [if_neg (by omega), Int.zero_add]; exact wrap_in hv
   have s2 : wrap64 (wrap64 (sumA (ones 2 (spansP kind size slide) (l.take i))) + ((spansP kind size slide l[i].f1).length : Int)) = wrap64 (sumA (ones 2 (spansP kind size slide) (l.take (i + 1)))) := by
    rw [take_snoc hlt, ones_snoc, sumA_app, one_sum 2 _ _ 1 a2, wrap_add, Int.mul_one]
   have s1 : wrap64 (wrap64 (sumA (ones 1 (spansP kind size slide) (l.take i))) + wrap64 (((spansP kind size slide l[i].f1).length : Int) * l[i].f2)) = wrap64 (sumA (ones 1 (spansP kind size slide) (l.take (i + 1)))) := by
    rw [take_snoc hlt, ones_snoc, sumA_app, one_sum 1 _ _ _ a1]
    generalize ((spansP kind size slide l[i].f1).length : Int) * l[i].f2 = m
    unfold wrap64; omega
   refine Ev.step (f := fun k => (window_Spans.f k kind size slide l[i].f1).bind fun t0 => (window_Put.f k kind size slide 2 p l[i].f0 l[i].f1 l[i].f2).bind fun t1 => (window_Put.f k kind size slide 1 q l[i].f0 l[i].f1 l[i].f2).bind fun t2 => leatlaw11_WindowCounts.l0 k l t1 t2 (wrap64 (wrap64 (sumA (ones 2 (spansP kind size slide) (l.take i))) + (t0.length : Int))) (wrap64 (wrap64 (sumA (ones 1 (spansP kind size slide) (l.take i))) + wrap64 ((t0.length : Int) * l[i].f2))) ((i + 1 : Nat) : Int) kind size slide) (fun k => ?_) (Ev.bind hsp (Ev.bind hput (Ev.bind hput2 ?_)))
   ·simp only [leatlaw11_WindowCounts.l0]
    rw [if_pos (by omega), if_pos (by omega), rd37_at hlt, time_eq, Option.bind_some, if_pos (decide_eq_true ht), hw]
   ·rw [s1, s2]; exact ih
  ·refine Ev.step (f := fun _ => some true) (fun k => ?_) (Ev.now true)
   simp only [leatlaw11_WindowCounts.l0]
   rw [if_pos (by omega), if_pos (by omega), rd37_at hlt, time_eq, Option.bind_some, decide_eq_false ht, if_neg (by simp)]
theorem WindowCounts : Go.Proofs.Ytdinbnbogdadgaa.Op.WindowCountsPure := by
 intro kind size slide l w1 w2 w3 hl
 refine Ev.rounds (g := fun k => leatlaw11_WindowCounts.f k kind size slide l) ?_
 have hg : ∀ r ∈ l, I64 r.f2 := fun r hr => i64_wf (hl.2.2 r hr).2.2
 have jt : Ev (fun k => leatlaw11_WindowCounts.j0 k l true kind size slide) true := Ev.step (f := fun _ => some true) (fun k => by simp only [leatlaw11_WindowCounts.j0]; exact if_pos trivial) (Ev.now _)
 refine Ev.congr (fun k => by rw [leatlaw11_WindowCounts.f]) (Ev.bind known_ev (Ev.congr (fun k => if_pos rfl) ?_))
 obtain ⟨b, hb, hfit⟩ := fit_sp kind size slide
 refine Ev.bind hfit ?_
 cases b with
 | false => exact Ev.congr (fun k => if_neg (by simp)) jt
 | true =>
  have hf := hb rfl
  refine Ev.congr (fun k => if_pos rfl) ?_
  by_cases h60 : (l.length : Int) > 60
  ·rw [decide_eq_true h60]; exact jt
  ·rw [decide_eq_false h60]
   refine Ev.step (fun k => by simp only [leatlaw11_WindowCounts.j0]; exact if_neg (by simp)) ?_
   have h := counts_l0 hf l (by omega) hg l.length 0 [] [] (by omega) (Is.nil _ _) (Is.nil _ _)
   have z : ∀ a, wrap64 (sumA (ones a (spansP kind size slide) (l.take 0))) = 0 := fun a => by rw [List.take_zero]; show wrap64 0 = 0; decide +kernel
   rw [z, z] at h
   exact h
end Go.Proofs.Ytdinbnbogdadgaa.Pure
