/- WindowOrder in plain Lean: in whichever order records come the panes are the same, and sessions of one key don't overlap. No conditions but those typed. -/
import Derived.Test.YtdinbnbogdadgaaDSayWindowOrder
import Derived.Test.YtdinbnbogdadgaaDPy
import Derived.Test.YtdinbnbogdadgaaDXf24
namespace Go.Proofs.Ytdinbnbogdadgaa.Pure
open Go.RowKit Go.Sort Go.Proofs.YtdinbnbogdadgaaW.PrintWords Go.Proofs.YtdinbnbogdadgaaW.PrintMore Go.Proofs.Ytdinbnbogdadgaa Go.Proofs.Ytdinbnbogdadgaa.So Go.Proofs.Ytdinbnbogdadgaa.X Go.Proofs.Ytdinbnbogdadgaa.Nf Go.Proofs.Ytdinbnbogdadgaa.Th Go.Proofs.Ytdinbnbogdadgaa.Op
set_option linter.unusedVariables false
set_option linter.unusedSimpArgs false
theorem place_sp (t m : Int) (hm : 1 ≤ m ∧ m ≤ 100000) : ∃ p, leathelp_Place.f t m = some p ∧ 0 ≤ p ∧ p < m := by
 have h1 := Int.emod_nonneg t (show m ≠ 0 by omega)
 have h2 := Int.emod_lt_of_pos t (show 0 < m by omega)
 unfold leathelp_Place.f
 rw [if_neg (by omega)]
 rcases tmod_cases t m hm.1 with h | ⟨h, h3, h4⟩
 ·rw [h, if_neg (by omega)]; exact ⟨_, rfl, by omega, by omega⟩
 ·rw [h, if_pos (by omega), w_in (by omega)]; exact ⟨_, rfl, by omega, by omega⟩
theorem swap_perm (l : List S37) {i j : Nat} (hi : i < l.length) (hj : j < l.length) : ((l.set i l[j]).set j l[i]).Perm l := by
 have h := Array.swap_perm (xs := l.toArray) (i := i) (j := j) (by simpa using hi) (by simpa using hj)
 have h2 := h.toList
 simpa [Array.toList_swap] using h2
theorem order_l2 (kind size slide : Int) (p : List S46) (hp : p.length ≤ 4000) (hk : kind = 3 → NK 3 p) (hs : Sorted p) (hpr : ∀ x ∈ p, x.f1.f0 < x.f1.f1) : ∀ (d i : Nat), 1 ≤ i → p.length ≤ i + d →
  Ev (fun k => leatlaw11_WindowOrder.l2 k p p (i : Int) kind size slide) true
 | d, i, h1, h => by
  have hc := panes_ev p (by omega)
  have jf : Ev (fun k => leatlaw11_WindowOrder.j4 k p p (i : Int) false kind size slide) true := by
   refine Ev.step (fun k => ?_) (Ev.bind hc (Ev.now true))
   simp only [leatlaw11_WindowOrder.j4]
   rw [if_neg (by simp)]
  by_cases hlt : i < p.length
  ·by_cases h3 : kind = 3
   ·match d, h with
    | 0, h => omega
    | d + 1, h =>
     have ih := order_l2 kind size slide p hp hk hs hpr d (i + 1) (by omega) (by omega)
     have hw1 : wrap64 ((i : Int) - 1) = ((i - 1 : Nat) : Int) := by rw [w_in (by omega)]; omega
     have hw2 := step_i hlt (by omega)
     have hl1 : i - 1 < p.length := by omega
     have hb : (kind == 3) = true := beq_iff_eq.2 h3
     refine Ev.step (f := fun k => leatlaw11_WindowOrder.j4 k p p (i : Int) true kind size slide) (fun k => by simp only [leatlaw11_WindowOrder.l2]; rw [if_pos (by omega), hb]) (Ev.step (fun k => ?_) ih)
     simp only [leatlaw11_WindowOrder.j4]
     rw [if_pos trivial, if_pos (by omega), if_pos (by omega), hw1, if_pos (by omega), if_pos (by omega), rd46_at hlt, rd46_at hl1, hw2]
     by_cases hkey : p[i].f0 = p[i - 1].f0
     ·rw [if_pos hkey, if_neg]
      intro hov
      have hno := List.pairwise_iff_getElem.1 (hk h3) (i - 1) i hl1 hlt (by omega)
      apply hno
      have hle := List.pairwise_iff_getElem.1 hs (i - 1) i hl1 hlt (by omega)
      rw [leO_iff, ltO_false] at hle
      have a1 := hpr _ (List.getElem_mem hlt)
      have a2 := hpr _ (List.getElem_mem hl1)
      unfold hitK
      rw [if_pos rfl, hitP_iff]
      omega
     ·rw [if_neg hkey]
   ·have hb : (kind == 3) = false := beq_eq_false_iff_ne.2 h3
    refine Ev.step (fun k => ?_) jf
    simp only [leatlaw11_WindowOrder.l2]
    rw [if_pos (by omega), hb]
  ·refine Ev.step (fun k => ?_) jf
   simp only [leatlaw11_WindowOrder.l2]
   rw [if_neg (by omega)]
theorem order_l1 {kind size slide a : Int} (ha : aggOk a = true) (hf : Fit kind size slide) (l m : List S37) (hm : m.Perm l) (hl : l.length ≤ 60) (hg : ∀ r ∈ l, I64 r.f2) : ∀ (d i : Nat) (p q : List S46), l.length = i + d →
  (∀ r ∈ l.take i, TimeOk r.f1) → Is kind a (ones a (spX hf) (l.take i)) p → Is kind a (ones a (spX hf) (m.take i)) q →
  Ev (fun k => leatlaw11_WindowOrder.l1 k a l m p q (i : Int) kind size slide) true
 | 0, i, p, q, h, hT, I1, I2 => by
  have hml := hm.length_eq
  have l1 := isX_len hf I1
  rw [List.length_take] at l1
  have hi : l.take i = l := List.take_of_length_le (by omega)
  have hi2 : m.take i = m := List.take_of_length_le (by omega)
  rw [hi] at I1 hT
  rw [hi2] at I2
  have he : q = p := Is.unique ha I2 I1 (ones_perm _ _ hm)
  subst he
  have hpr : ∀ x ∈ q, x.f1.f0 < x.f1.f1 := by
   refine rs_all (P := fun x => x.f1.f0 < x.f1.f1) (fun x y h1 h2 => ?_) I1.rs (ones_all (fun r hr s hs => ?_))
   ·show mn _ _ < mx _ _
    unfold mn mx
    (repeat' split) <;> omega
   ·rw [spX_ok hf (hT r hr)] at hs
    have h1 := spansP_size _ _ _ _ s hs
    have h2 := hf.s1
    show s.f0 < s.f1
    omega
  have h2 := order_l2 kind size slide q (by omega) (fun h3 => by have := I1.nk; rw [h3] at this; exact this) I1.st hpr q.length 1 (Nat.le_refl _) (by omega)
  refine Ev.step (fun k => ?_) h2
  simp only [leatlaw11_WindowOrder.l1]
  rw [if_neg (by omega)]
  rfl
 | d + 1, i, p, q, h, hT, I1, I2 => by
  have hml := hm.length_eq
  have hlt : i < l.length := by omega
  have hlt2 : i < m.length := by omega
  have l1 := isX_len hf I1
  have l2 := isX_len hf I2
  rw [List.length_take] at l1 l2
  have hv := hg _ (List.getElem_mem hlt)
  have hv2 := hg _ (hm.subset (List.getElem_mem hlt2))
  have hw := step_i hlt (by omega)
  by_cases ht : TimeOk l[i].f1
  ·have hput := putX_ev hf l[i].f1 a l[i].f0 l[i].f2 p (by omega)
   have hput2 := putX_ev hf m[i].f1 a m[i].f0 m[i].f2 q (by omega)
   have J1 := putX_is ha hf I1 hv
   have J2 := putX_is ha hf I2 hv2
   rw [← take_snoc hlt] at J1
   rw [← take_snoc hlt2] at J2
   have ih := order_l1 ha hf l m hm hl hg d (i + 1) _ _ (by omega) (fun r hr => by
    rw [take_snoc hlt] at hr
    rcases List.mem_append.1 hr with hr | hr
    ·exact hT r hr
    ·rw [List.mem_singleton.1 hr]; exact ht) J1 J2
   refine Ev.step (f := fun k => (window_Put.f k kind size slide a p l[i].f0 l[i].f1 l[i].f2).bind fun t1 => (window_Put.f k kind size slide a q m[i].f0 m[i].f1 m[i].f2).bind fun t2 => leatlaw11_WindowOrder.l1 k a l m t1 t2 ((i + 1 : Nat) : Int) kind size slide) (fun k => ?_) (Ev.bind hput (Ev.bind hput2 ih))
   simp only [leatlaw11_WindowOrder.l1]
   rw [if_pos (by omega), if_pos (by omega), rd37_at hlt, time_eq, Option.bind_some, if_pos (decide_eq_true ht), rd37_at hlt2, hw]
   congr 1
   funext t
   rw [if_pos (by omega)]
  ·refine Ev.step (f := fun _ => some true) (fun k => ?_) (Ev.now true)
   simp only [leatlaw11_WindowOrder.l1]
   rw [if_pos (by omega), if_pos (by omega), rd37_at hlt, time_eq, Option.bind_some, decide_eq_false ht, if_neg (by simp)]
theorem order_l0 {kind size slide a : Int} (ha : aggOk a = true) (hf : Fit kind size slide) (w : Int) (l : List S37) (hl : l.length ≤ 60) (hg : ∀ r ∈ l, I64 r.f2) : ∀ (d i : Nat) (m : List S37), l.length = i + d → m.Perm l →
  Ev (fun k => leatlaw11_WindowOrder.l0 k a l w m (i : Int) kind size slide) true
 | 0, i, m, h, hm => by
  have hml := hm.length_eq
  have h1 := order_l1 ha hf l m hm hl hg l.length 0 [] [] (by omega) (by simp) (by rw [List.take_zero]; exact Is.nil _ _) (by rw [List.take_zero]; exact Is.nil _ _)
  refine Ev.step (fun k => ?_) h1
  simp only [leatlaw11_WindowOrder.l0]
  rw [if_neg (by omega)]
  rfl
 | d + 1, i, m, h, hm => by
  have hml := hm.length_eq
  have hlt : i < m.length := by omega
  obtain ⟨P, hP, hP0, hP1⟩ := place_sp w 1000 (by omega)
  have hw := step_i hlt (by omega)
  have hw7 : wrap64 (7 * (i : Int)) = 7 * i := w_in (by omega)
  have hwp : wrap64 (P + 7 * (i : Int)) = P + 7 * i := w_in (by omega)
  have htm : Int.tmod (P + 7 * (i : Int)) (m.length : Int) = (((P + 7 * i).toNat % m.length : Nat) : Int) := by
   rw [Int.tmod_eq_emod_of_nonneg (by omega), Int.natCast_emod]
   congr 1
   omega
  generalize hj : (P + 7 * i).toNat % m.length = j at htm
  have hjl : j < m.length := by rw [← hj]; exact Nat.mod_lt _ (by omega)
  have ih := order_l0 ha hf w l hl hg d (i + 1) ((m.set i m[j]).set j m[i]) (by omega) ((swap_perm m hlt hjl).trans hm)
  refine Ev.step (fun k => ?_) ih
  simp only [leatlaw11_WindowOrder.l0]
  rw [if_pos (by omega), hP, Option.bind_some, if_neg (by omega), hw7, hwp, htm, if_pos (by omega), if_pos (by omega), if_pos (by omega), rd37_at hlt, rd37_at hjl, hw, Int.toNat_natCast, Int.toNat_natCast]
theorem WindowOrder : Go.Proofs.Ytdinbnbogdadgaa.Op.WindowOrderPure := by
 intro kind size slide a l w w1 w2 w3 w4 hl w5
 refine Ev.rounds (g := fun k => leatlaw11_WindowOrder.f k kind size slide a l w) ?_
 have hg : ∀ r ∈ l, I64 r.f2 := fun r hr => i64_wf (hl.2.2 r hr).2.2
 have jt : Ev (fun k => leatlaw11_WindowOrder.j0 k a l w true kind size slide) true := Ev.step (f := fun _ => some true) (fun k => by simp only [leatlaw11_WindowOrder.j0]; exact if_pos trivial) (Ev.now _)
 refine Ev.congr (fun k => by rw [leatlaw11_WindowOrder.f]) (Ev.bind known_ev (Ev.congr (fun k => if_pos rfl) ?_))
 obtain ⟨b, hb, hfit⟩ := fit_sp kind size slide
 refine Ev.bind hfit ?_
 cases b with
 | false => exact Ev.congr (fun k => if_neg (by simp)) jt
 | true =>
  have hf := hb rfl
  refine Ev.congr (fun k => if_pos rfl) ?_
  by_cases h60 : (l.length : Int) > 60
  ·exact Ev.congr (fun k => if_pos h60) jt
  ·refine Ev.congr (fun k => if_neg h60) ?_
   by_cases h1 : a < 1
   ·exact Ev.congr (fun k => if_pos h1) jt
   ·refine Ev.congr (fun k => if_neg h1) ?_
    by_cases h5 : a > 5
    ·rw [decide_eq_true h5]; exact jt
    ·rw [decide_eq_false h5]
     refine Ev.step (fun k => by simp only [leatlaw11_WindowOrder.j0]; rw [if_neg (by simp), if_pos (by simp; omega), List.nil_append]) ?_
     exact order_l0 (agg_ok h1 h5) hf w l (by omega) hg l.length 0 l (by omega) (.refl _)
end Go.Proofs.Ytdinbnbogdadgaa.Pure
