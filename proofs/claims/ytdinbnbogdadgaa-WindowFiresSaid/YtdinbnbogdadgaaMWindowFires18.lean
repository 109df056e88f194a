/- What is asked of the law WindowFires, in plain Lean. No conditions. -/
import Derived.Test.YtdinbnbogdadgaaMWindowFires17
import Derived.Test.YtdinbnbogdadgaaMWindowFires16
import Derived.Test.YtdinbnbogdadgaaMWindowFires15
import Derived.Test.YtdinbnbogdadgaaMWindowFires10
namespace Go.Proofs.Ytdinbnbogdadgaa.Op
open Go.RowKit Go.Proofs.YtdinbnbogdadgaaW.PrintWords Go.Proofs.Ytdinbnbogdadgaa.X
def WindowFiresPure : Prop := ∀ (l0 : List (S46)) (l1 : List Int), (l0.length * 32 ≤ 140737488351232 ∧ l0.length ≤ 9223372036854775807 ∧ ∀ x ∈ l0, Good46 x) → (l1.length * 8 ≤ 140737488351232 ∧ l1.length ≤ 9223372036854775807 ∧ ∀ x ∈ l1, (Lit.int .i64 x).wf = true) → ∃ k, leatlaw11_WindowFires.f k l0 l1 = some true
end Go.Proofs.Ytdinbnbogdadgaa.Op
namespace Go.Proofs.Ytdinbnbogdadgaa.Pure
open Go.RowKit Go.Sort Go.Proofs.YtdinbnbogdadgaaW.PrintWords Go.Proofs.YtdinbnbogdadgaaW.PrintMore Go.Proofs.Ytdinbnbogdadgaa Go.Proofs.Ytdinbnbogdadgaa.X Go.Proofs.Ytdinbnbogdadgaa.Nf Go.Proofs.Ytdinbnbogdadgaa.Th Go.Proofs.Ytdinbnbogdadgaa.Op
set_option linter.unusedVariables false
set_option linter.unusedSimpArgs false
theorem firePanes_l0 (l : List S46) (hl : l.length ≤ 200) : ∀ (d i : Nat), l.length = i + d → (∀ j (h : j < l.length), j < i → TimeOk l[j].f1.f1) →
  Sp (fun b => b = true → ∀ x ∈ l, TimeOk x.f1.f1) (fun k => leatlaw11_panes.l0 k l (i : Int))
 | 0, i, h, hp => by
  refine ⟨true, fun _ x hx => ?_, Ev.step (f := fun _ => some true) (fun k => ?_) (Ev.now _)⟩
  ·obtain ⟨j, hj, rfl⟩ := List.getElem_of_mem hx
   exact hp j hj (by omega)
  ·simp only [leatlaw11_panes.l0]; rw [if_neg (by omega)]
 | d + 1, i, h, hp => by
  have hlt : i < l.length := by omega
  have hw := step_i hlt (by omega)
  by_cases h1 : TimeOk l[i].f1.f0
  ·by_cases h2 : TimeOk l[i].f1.f1
   ·by_cases h3 : l[i].f1.f0 ≥ l[i].f1.f1
    ·refine ⟨false, nofun, Ev.step (f := fun _ => some false) (fun k => ?_) (Ev.now _)⟩
     simp only [leatlaw11_panes.l0]
     rw [if_pos (by omega), if_pos (by omega), rd46_at hlt, time_eq, Option.bind_some, if_pos (decide_eq_true h1), time_eq, Option.bind_some, if_pos (decide_eq_true h2), if_pos h3]
    ·obtain ⟨b, hb, hev⟩ := firePanes_l0 l hl d (i + 1) (by omega) (fun j hj h4 => by
      rcases Nat.lt_or_ge j i with h5 | h5
      ·exact hp j hj h5
      ·obtain rfl : j = i := by omega
       exact h2)
     refine ⟨b, hb, Ev.step (fun k => ?_) hev⟩
     simp only [leatlaw11_panes.l0]
     rw [if_pos (by omega), if_pos (by omega), rd46_at hlt, time_eq, Option.bind_some, if_pos (decide_eq_true h1), time_eq, Option.bind_some, if_pos (decide_eq_true h2), if_neg h3, hw]
   ·refine ⟨false, nofun, Ev.step (f := fun _ => some false) (fun k => ?_) (Ev.now _)⟩
    simp only [leatlaw11_panes.l0]
    rw [if_pos (by omega), if_pos (by omega), rd46_at hlt, time_eq, Option.bind_some, if_pos (decide_eq_true h1), time_eq, Option.bind_some, if_neg (by rw [decide_eq_false h2]; simp)]
  ·refine ⟨false, nofun, Ev.step (f := fun _ => some false) (fun k => ?_) (Ev.now _)⟩
   simp only [leatlaw11_panes.l0]
   rw [if_pos (by omega), if_pos (by omega), rd46_at hlt, time_eq, Option.bind_some, if_neg (by rw [decide_eq_false h1]; simp)]
theorem firePanes_sp (l : List S46) : Sp (fun b => b = true → l.length ≤ 200 ∧ ∀ x ∈ l, TimeOk x.f1.f1) (fun k => leatlaw11_panes.f k l) := by
 by_cases h : (l.length : Int) > 200
 ·exact ⟨false, nofun, Ev.congr (fun k => by rw [leatlaw11_panes.f, if_pos h]) (Ev.now _)⟩
 ·obtain ⟨b, hb, hev⟩ := firePanes_l0 l (by omega) l.length 0 (by omega) (fun j hj h => absurd h (by omega))
  exact ⟨b, fun e => ⟨by omega, hb e⟩, Ev.congr (fun k => by rw [leatlaw11_panes.f, if_neg h]; rfl) hev⟩
def recR (p : S46) : S37 := ⟨p.f0, wrap64 (p.f1.f1 - 1), p.f2⟩
theorem outR_eq (m : Int) (l : List S46) : outR m l = (l.filter (Th.due m)).map recR := rfl
theorem due_mx (t m : Int) (p : S46) : Th.due (mx t m) p = (Th.due t p || Th.due m p) := by
 have h : Th.due (mx t m) p = true ↔ (Th.due t p || Th.due m p) = true := by
  unfold Th.due mx
  rw [Bool.or_eq_true, decide_eq_true_iff, decide_eq_true_iff, decide_eq_true_iff]
  split <;> omega
 cases h1 : Th.due (mx t m) p <;> cases h2 : (Th.due t p || Th.due m p) <;> simp_all
theorem left_mx (t m : Int) (l : List S46) : leftR m (leftR t l) = leftR (mx t m) l := by
 unfold leftR
 rw [List.filter_filter]
 congr 1
 funext p
 rw [due_mx, Bool.not_or, Bool.and_comm]
theorem out_mx (t m : Int) (l : List S46) : (outR t l ++ outR m (leftR t l)).Perm (outR (mx t m) l) := by
 rw [outR_eq, outR_eq, outR_eq, ← List.map_append]
 refine List.Perm.map _ ?_
 have h := List.filter_append_perm (Th.due t) (l.filter (Th.due (mx t m)))
 refine List.Perm.trans ?_ h
 have e1 : (l.filter (Th.due (mx t m))).filter (Th.due t) = l.filter (Th.due t) := by
  rw [List.filter_filter]
  congr 1
  funext p
  rw [due_mx]
  cases Th.due t p <;> simp
 have e2 : (l.filter (Th.due (mx t m))).filter (fun x => !Th.due t x) = (leftR t l).filter (Th.due m) := by
  unfold leftR
  rw [List.filter_filter, List.filter_filter]
  congr 1
  funext p
  rw [due_mx]
  cases Th.due t p <;> simp
 rw [e1, e2]
theorem outR_perm (m : Int) {x y : List S46} (h : x.Perm y) : (outR m x).Perm (outR m y) := by rw [outR_eq, outR_eq]; exact (h.filter _).map _
theorem leftR_perm (m : Int) {x y : List S46} (h : x.Perm y) : (leftR m x).Perm (leftR m y) := h.filter _
theorem w1 (x y : Int) : wrap64 (wrap64 x + y) = wrap64 (x + y) := by unfold wrap64; omega
theorem w2 (x y : Int) : wrap64 (x + wrap64 y) = wrap64 (x + y) := by unfold wrap64; omega
theorem w3 (x y : Int) : wrap64 (wrap64 x - y) = wrap64 (x - y) := by unfold wrap64; omega
theorem w4 (x y : Int) : wrap64 (x - wrap64 y) = wrap64 (x - y) := by unfold wrap64; omega
def gR (r : S37) : Int := r.f2 * 7 + r.f1 * 3 + r.f0
def sumR (l : List S37) : Int := (l.map gR).sum
theorem sumR_cons (r : S37) (l : List S37) : sumR (r :: l) = gR r + sumR l := by simp [sumR]
theorem sumR_perm {x y : List S37} (h : x.Perm y) : sumR x = sumR y := by
 induction h with
 | nil => rfl
 | cons a h ih => rw [sumR_cons, sumR_cons, ih]
 | swap a b l => simp only [sumR_cons]; omega
 | trans h1 h2 ih1 ih2 => rw [ih1, ih2]
theorem fires_l2 (top : Int) (rest : List S46) (hl : rest.length ≤ 4000) (hr : ∀ x ∈ rest, Th.due top x = false) (s : Int) (hs : s = 0) : ∀ (d i : Nat), rest.length = i + d → Ev (fun k => leatlaw11_WindowFires.l2 k top rest s (i : Int)) true
 | 0, i, h => by
  refine Ev.step (f := fun _ => some true) (fun k => ?_) (Ev.now _)
  simp only [leatlaw11_WindowFires.l2]
  rw [if_neg (by omega), hs]; rfl
 | d + 1, i, h => by
  have hlt : i < rest.length := by omega
  have hd := of_decide_eq_false (hr _ (List.getElem_mem hlt))
  refine Ev.step (fun k => ?_) (fires_l2 top rest hl hr s hs d (i + 1) (by omega))
  simp only [leatlaw11_WindowFires.l2]
  rw [if_pos (by omega), if_pos (by omega), rd46_at hlt, if_neg hd, step_i hlt (by omega)]
theorem fires_l1 (top : Int) (all out : List S37) (rest : List S46) (hl : rest.length ≤ 4000) (ho : out.length ≤ 4000) (hlen : all.length = out.length) (ha : ∀ r ∈ all, r.f1 ≤ top) (hr : ∀ x ∈ rest, Th.due top x = false) : ∀ (d i : Nat) (s : Int), out.length = i + d → wrap64 (s + sumR (out.drop i) - sumR (all.drop i)) = 0 → wrap64 s = s →
  Ev (fun k => leatlaw11_WindowFires.l1 k all top out rest s (i : Int)) true
 | 0, i, s, h, hs, hw => by
  rw [List.drop_eq_nil_of_le (by omega), List.drop_eq_nil_of_le (by omega)] at hs
  have h0 : s = 0 := by rw [show sumR [] = 0 from rfl, Int.add_zero, Int.sub_zero, hw] at hs; exact hs
  refine Ev.step (fun k => ?_) (fires_l2 top rest hl hr s h0 rest.length 0 (by omega))
  simp only [leatlaw11_WindowFires.l1]
  rw [if_neg (by omega)]
  rfl
 | d + 1, i, s, h, hs, hw => by
  have hlt : i < out.length := by omega
  have hlt2 : i < all.length := by omega
  have ht := ha _ (List.getElem_mem hlt2)
  rw [List.drop_eq_getElem_cons hlt, List.drop_eq_getElem_cons hlt2, sumR_cons, sumR_cons] at hs
  refine Ev.step (fun k => ?_) (fires_l1 top all out rest hl ho hlen ha hr d (i + 1) (wrap64 (s + gR out[i] - gR all[i])) (by omega) ?_ (by unfold wrap64; omega))
  ·simp only [leatlaw11_WindowFires.l1]
   rw [if_pos (by omega), if_pos (by omega), if_pos (by omega), rd37_at hlt, rd37_at hlt2, if_neg (by omega), step_i hlt (by omega)]
   congr 1
   simp only [w1, w2, w3, w4]
   unfold gR
   congr 1
   omega
  ·rw [show wrap64 (s + gR out[i] - gR all[i]) + sumR (out.drop (i + 1)) - sumR (all.drop (i + 1)) = wrap64 (s + gR out[i] - gR all[i]) + (sumR (out.drop (i + 1)) - sumR (all.drop (i + 1))) by omega, w1, ← hs]
   congr 1
   omega
theorem fires_l0 (l : List S46) (hl : l.length ≤ 200) (ms : List Int) (hm : ms.length ≤ 40) (hT : ∀ x ∈ l, TimeOk x.f1.f1) : ∀ (d i : Nat) (all : List S37) (left : List S46) (top : Int), ms.length = i + d → (i = 0 → top = -9223372036854775808) →
  left.Perm (leftR top l) → all.Perm (outR top l) →
  Ev (fun k => leatlaw11_WindowFires.l0 k l ms all left top (i : Int)) true
 | 0, i, all, left, top, h, h0, hL, hA => by
  have hf := fire_ev top l (by omega)
  have hp := sortP_perm l
  have hl1 : (outR top (sortP l)).length ≤ 200 := by
   rw [outR_eq, List.length_map]; exact Nat.le_trans (List.length_filter_le _ _) (by rw [sortP_len]; exact hl)
  have hl2 : (leftR top (sortP l)).length ≤ 200 := Nat.le_trans (List.length_filter_le _ _) (by rw [sortP_len]; exact hl)
  refine Ev.step (f := fun k => (window_Fire.f k l top).bind fun bt205 => (if (ms.length : Int) = 0 then (if (bt205.1.length : Int) = 0 then (some ((bt205.2.length : Int) == (l.length : Int))) else (some false)) else (if (all.length : Int) = (bt205.1.length : Int) then ((window_Sort.f left).bind fun t211 => ((leathelp_Panes.f k bt205.2 t211).bind fun t214 => (leatlaw11_WindowFires.j2 k all top bt205.1 bt205.2 (!t214)))) else (leatlaw11_WindowFires.j2 k all top bt205.1 bt205.2 true)))) (fun k => ?_) ?_
  ·simp only [leatlaw11_WindowFires.l0]
   rw [if_neg (by omega)]
  ·refine Ev.bind hf ?_
   by_cases hz : (ms.length : Int) = 0
   ·have ht := h0 (by omega)
    have hnd : ∀ x ∈ l, Th.due top x = false := fun x hx => by
     have := hT x hx
     unfold TimeOk at this
     unfold Th.due
     rw [decide_eq_false_iff_not, w_in (by omega), ht]; omega
    have e1 : outR top (sortP l) = [] := by
     rw [outR_eq, List.map_eq_nil_iff, List.filter_eq_nil_iff]
     intro x hx
     rw [hnd x (hp.subset hx)]; simp
    have e2 : leftR top (sortP l) = sortP l := by
     unfold leftR
     rw [List.filter_eq_self]
     intro x hx
     rw [hnd x (hp.subset hx)]; rfl
    refine Ev.congr (fun k => if_pos hz) ?_
    rw [e1, e2]
    refine Ev.congr (fun k => if_pos rfl) ?_
    rw [sortP_len]
    exact Ev.congr (fun k => by simp) (Ev.now true)
   ·have hperm : all.Perm (outR top (sortP l)) := hA.trans (outR_perm top hp.symm)
    have hlen := hperm.length_eq
    have hsl : sortP left = leftR top (sortP l) := by
     refine sorted_unique ((sortP_perm left).trans (hL.trans (leftR_perm top hp.symm))) (sortP_sorted _) ?_
     exact List.Pairwise.sublist List.filter_sublist (sortP_sorted l)
    have hll : left.length < 4398046511104 := by have := hL.length_eq; have h3 := List.length_filter_le (fun p => !Th.due top p) l; unfold leftR at this; omega
    have hc := panes_ev (leftR top (sortP l)) (by omega)
    refine Ev.congr (fun k => if_neg hz) ?_
    refine Ev.congr (fun k => if_pos (by show (all.length : Int) = ((outR top (sortP l)).length : Int); omega)) ?_
    refine Ev.congr (fun k => by rw [sort_ev left hll, Option.bind_some, hsl]) ?_
    refine Ev.bind hc ?_
    refine Ev.step (fun k => by simp only [leatlaw11_WindowFires.j2]; exact if_neg (by simp)) ?_
    refine fires_l1 top all (outR top (sortP l)) (leftR top (sortP l)) (by omega) (by omega) hlen (fun r hr => ?_) (fun x hx => ?_) _ 0 0 (Nat.zero_add _).symm ?_ (by decide +kernel)
    ·have h3 := hperm.subset hr
     rw [outR_eq] at h3
     obtain ⟨p, hp3, rfl⟩ := List.mem_map.1 h3
     exact of_decide_eq_true (List.mem_filter.1 hp3).2
    ·have h3 := (List.mem_filter.1 hx).2
     simpa using h3
    ·rw [List.drop_zero, List.drop_zero, sumR_perm hperm, show (0 : Int) + sumR (outR top (sortP l)) - sumR (outR top (sortP l)) = 0 by omega]
     decide +kernel
 | d + 1, i, all, left, top, h, h0, hL, hA => by
  have hlt : i < ms.length := by omega
  have hlL : left.length ≤ 200 := by have := hL.length_eq; have h3 := List.length_filter_le (fun p => !Th.due top p) l; unfold leftR at this; omega
  have hlA : all.length ≤ 200 := by have := hA.length_eq; rw [outR_eq, List.length_map] at this; have h3 := List.length_filter_le (Th.due top) l; omega
  have hf := fire_ev (rd ms i) left (by omega)
  have hp := sortP_perm left
  have hlo : (outR (rd ms i) (sortP left)).length ≤ 200 := by
   rw [outR_eq, List.length_map]; exact Nat.le_trans (List.length_filter_le _ _) (by rw [sortP_len]; exact hlL)
  have ih := fires_l0 l hl ms hm hT d (i + 1) (all ++ outR (rd ms i) (sortP left)) (leftR (rd ms i) (sortP left)) (mx top (rd ms i)) (by omega) (fun hh => absurd hh (by omega))
   (by rw [← left_mx]; exact leftR_perm _ (hp.trans hL))
   ((hA.append (outR_perm _ (hp.trans hL))).trans (out_mx _ _ _))
  refine Ev.step (f := fun k => (window_Fire.f k left (rd ms i)).bind fun bt195 => if all.length + bt195.1.length < 5864062014805 then leatlaw11_WindowFires.l0 k l ms (all ++ bt195.1) bt195.2 (mx top (rd ms i)) ((i + 1 : Nat) : Int) else none) (fun k => ?_) ?_
  ·simp only [leatlaw11_WindowFires.l0]
   rw [if_pos (by omega), if_pos (by omega), step_i hlt (by omega)]
  ·refine Ev.bind hf ?_
   exact Ev.congr (fun k => if_pos (by show all.length + (outR (rd ms i) (sortP left)).length < 5864062014805; omega)) ih
theorem WindowFires : Go.Proofs.Ytdinbnbogdadgaa.Op.WindowFiresPure := by
 intro l ms hl hms
 refine Ev.rounds (g := fun k => leatlaw11_WindowFires.f k l ms) ?_
 have jt : Ev (fun k => leatlaw11_WindowFires.j0 k l ms true) true := Ev.step (f := fun _ => some true) (fun k => by simp only [leatlaw11_WindowFires.j0]; exact if_pos trivial) (Ev.now _)
 refine Ev.congr (fun k => by rw [leatlaw11_WindowFires.f]) (Ev.bind known_ev (Ev.congr (fun k => if_pos rfl) ?_))
 obtain ⟨b, hb, hev⟩ := firePanes_sp l
 refine Ev.bind hev ?_
 cases b with
 | false => exact Ev.congr (fun k => if_neg (by simp)) jt
 | true =>
  obtain ⟨h200, hT⟩ := hb rfl
  refine Ev.congr (fun k => if_pos rfl) ?_
  by_cases h40 : (ms.length : Int) > 40
  ·rw [decide_eq_true h40]; exact jt
  ·rw [decide_eq_false h40]
   refine Ev.step (fun k => by simp only [leatlaw11_WindowFires.j0]; exact if_neg (by simp)) ?_
   have hnd : ∀ x ∈ l, Th.due (-9223372036854775808) x = false := fun x hx => by
    have := hT x hx
    unfold TimeOk at this
    unfold Th.due
    rw [decide_eq_false_iff_not, w_in (by omega)]; omega
   refine fires_l0 l h200 ms (by omega) hT ms.length 0 [] l _ (by omega) (fun _ => rfl) ?_ ?_
   ·have e : leftR (-9223372036854775808) l = l := by
     unfold leftR
     rw [List.filter_eq_self]
     intro x hx
     rw [hnd x hx]; rfl
    rw [e]
   ·have e : outR (-9223372036854775808) l = [] := by
     rw [outR_eq, List.map_eq_nil_iff, List.filter_eq_nil_iff]
     intro x hx
     rw [hnd x hx]; simp
    rw [e]
end Go.Proofs.Ytdinbnbogdadgaa.Pure
