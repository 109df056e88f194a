/- WindowShift in plain Lean: records later by a multiple of size and slide make panes that are later by as much. No conditions but those typed. -/
import Derived.Test.YtdinbnbogdadgaaDSayWindowShift
import Derived.Test.YtdinbnbogdadgaaDPy
import Derived.Test.YtdinbnbogdadgaaDXf24
namespace Go.Proofs.Ytdinbnbogdadgaa.Pure
open Go.RowKit Go.Sort Go.Proofs.YtdinbnbogdadgaaW.PrintWords Go.Proofs.YtdinbnbogdadgaaW.PrintMore Go.Proofs.Ytdinbnbogdadgaa Go.Proofs.Ytdinbnbogdadgaa.So Go.Proofs.Ytdinbnbogdadgaa.X Go.Proofs.Ytdinbnbogdadgaa.Nf Go.Proofs.Ytdinbnbogdadgaa.Th Go.Proofs.Ytdinbnbogdadgaa.Op
set_option linter.unusedVariables false
set_option linter.unusedSimpArgs false
theorem place_sh (t m : Int) (hm : 1 ≤ m ∧ m ≤ 100000) : ∃ p, leathelp_Place.f t m = some p ∧ 0 ≤ p ∧ p < m := by
 have h1 := Int.emod_nonneg t (show m ≠ 0 by omega)
 have h2 := Int.emod_lt_of_pos t (show 0 < m by omega)
 unfold leathelp_Place.f
 rw [if_neg (by omega)]
 rcases tmod_cases t m hm.1 with h | ⟨h, h3, h4⟩
 ·rw [h, if_neg (by omega)]; exact ⟨_, rfl, by omega, by omega⟩
 ·rw [h, if_pos (by omega), w_in (by omega)]; exact ⟨_, rfl, by omega, by omega⟩
def shS (c : Int) (s : S31) : S31 := ⟨s.f0 + c, s.f1 + c⟩
def shP (c : Int) (p : S46) : S46 := ⟨p.f0, shS c p.f1, p.f2⟩
theorem S31_ext {x y : S31} (h0 : x.f0 = y.f0) (h1 : x.f1 = y.f1) : x = y := by
 obtain ⟨_, _⟩ := x; obtain ⟨_, _⟩ := y; simp_all
theorem back_sh (size slide t c : Int) : ∀ (n : Nat) (s : Int), backL size slide (t + c) n (s + c) = (backL size slide t n s).map (shS c)
 | 0, s => rfl
 | n + 1, s => by
  rw [backL, backL]
  by_cases h : s + size > t
  ·rw [if_pos (show s + c + size > t + c by omega), if_pos h, List.map_cons, show s + c - slide = (s - slide) + c by omega, back_sh size slide t c n]
   congr 1
   exact S31_ext rfl (show s + c + size = s + size + c by omega)
  ·rw [if_neg (show ¬ s + c + size > t + c by omega), if_neg h]; rfl
theorem fl_sh (t n c : Int) : fl (t + n * c) n = fl t n + n * c := by
 unfold fl
 rw [Int.add_mul_emod_self_left]; omega
theorem spans_sh {kind size slide : Int} (c : Int) (h1 : kind = 1 → ∃ u, c = size * u) (h2 : kind ≠ 1 → kind ≠ 3 → ∃ u, c = slide * u) (t : Int) : spansP kind size slide (t + c) = (spansP kind size slide t).map (shS c) := by
 unfold spansP
 by_cases k1 : kind = 1
 ·obtain ⟨u, rfl⟩ := h1 k1
  rw [if_pos k1, if_pos k1, fl_sh]
  show [_] = [_]
  congr 1
  exact S31_ext rfl (show fl t size + size * u + size = fl t size + size + size * u by omega)
 ·rw [if_neg k1, if_neg k1]
  by_cases k3 : kind = 3
  ·rw [if_pos k3, if_pos k3]
   show [_] = [_]
   congr 1
   exact S31_ext rfl (show t + c + size = t + size + c by omega)
  ·rw [if_neg k3, if_neg k3]
   obtain ⟨u, rfl⟩ := h2 k1 k3
   rw [fl_sh, back_sh, List.map_reverse]
theorem hit_sh {kind c : Int} {p x : S46} : hitK kind (shP c p) (shP c x) ↔ hitK kind p x := by
 unfold hitK
 by_cases k3 : kind = 3
 ·rw [if_pos k3, if_pos k3, hitP_iff, hitP_iff]
  show (x.f0 = p.f0 ∧ x.f1.f0 + c < p.f1.f1 + c ∧ p.f1.f0 + c < x.f1.f1 + c ∧ x.f1.f0 + c < x.f1.f1 + c ∧ p.f1.f0 + c < p.f1.f1 + c) ↔ _
  omega
 ·rw [if_neg k3, if_neg k3, sameP_iff, sameP_iff]
  show (x.f0 = p.f0 ∧ x.f1.f0 + c = p.f1.f0 + c ∧ x.f1.f1 + c = p.f1.f1 + c) ↔ _
  omega
theorem join_sh {a c : Int} (p x : S46) : joinP a (shP c p) (shP c x) = shP c (joinP a p x) := by
 refine S46_ext rfl ?_ ?_ rfl
 ·show mn (p.f1.f0 + c) (x.f1.f0 + c) = mn p.f1.f0 x.f1.f0 + c
  unfold mn; split <;> split <;> omega
 ·show mx (p.f1.f1 + c) (x.f1.f1 + c) = mx p.f1.f1 x.f1.f1 + c
  unfold mx; split <;> split <;> omega
theorem rs_sh {kind a c : Int} {x p : List S46} (h : RSk kind a x p) : RSk kind a (x.map (shP c)) (p.map (shP c)) := by
 induction h with
 | done h => exact .done (h.map _)
 | step h1 h2 ih =>
  obtain ⟨u, v, r, e1, e2, e3⟩ := h1.out
  refine .step (.mk (x := shP c u) (y := shP c v) (r := r.map (shP c)) (e1.map _) (hit_sh.2 e2) ?_) ih
  rw [join_sh]; exact e3.map _
theorem le_sh (c : Int) (x y : S46) : leO (shP c x) (shP c y) = leO x y := by
 have h : ltOf cmpO (shP c y) (shP c x) = ltOf cmpO y x := by
  cases h : ltOf cmpO y x with
  | false =>
   rw [ltO_false] at h ⊢
   show ¬ (y.f0 < x.f0 ∨ y.f0 = x.f0 ∧ (y.f1.f0 + c < x.f1.f0 + c ∨ y.f1.f0 + c = x.f1.f0 + c ∧ (y.f1.f1 + c < x.f1.f1 + c ∨ y.f1.f1 + c = x.f1.f1 + c ∧ y.f2 < x.f2)))
   omega
  | true =>
   rw [ltO_iff] at h ⊢
   show (y.f0 < x.f0 ∨ y.f0 = x.f0 ∧ (y.f1.f0 + c < x.f1.f0 + c ∨ y.f1.f0 + c = x.f1.f0 + c ∧ (y.f1.f1 + c < x.f1.f1 + c ∨ y.f1.f1 + c = x.f1.f1 + c ∧ y.f2 < x.f2)))
   omega
 unfold leO; rw [h]
theorem is_sh {kind a : Int} (c : Int) {x p : List S46} (h : Is kind a x p) : Is kind a (x.map (shP c)) (p.map (shP c)) := by
 refine ⟨rs_sh h.rs, ?_, ?_⟩
 ·unfold NK Normal
  rw [List.pairwise_map]
  exact h.nk.imp (fun hn hh => hn (hit_sh.1 hh))
 ·unfold Sorted
  rw [List.pairwise_map]
  exact h.st.imp (fun {x y} hn => by rw [le_sh]; exact hn)
theorem one_sh (a key val c : Int) (ss : List S31) : (ss.map (shS c)).map (one a key val) = (ss.map (one a key val)).map (shP c) := by
 rw [List.map_map, List.map_map]; rfl
def Rg (p : S46) : Prop := (-4503599627370496 ≤ p.f1.f0 ∧ p.f1.f0 ≤ 4503599627370496) ∧ (-4503599627370496 ≤ p.f1.f1 ∧ p.f1.f1 ≤ 4503599627370496)
theorem spans_near {kind size slide t : Int} (hf : Fit kind size slide) (ht : TimeOk t) : ∀ s ∈ spansP kind size slide t, t - 68719476736 ≤ s.f0 ∧ s.f0 ≤ t := by
 have hs1 := hf.s1
 have hs2 := hf.s2
 unfold spansP
 by_cases k1 : kind = 1
 ·rw [if_pos k1]
  intro s hs
  rw [List.mem_singleton.1 hs]
  have := fl_bounds t size hs1
  show _ ≤ fl t size ∧ fl t size ≤ t
  omega
 ·rw [if_neg k1]
  by_cases k3 : kind = 3
  ·rw [if_pos k3]
   intro s hs
   rw [List.mem_singleton.1 hs]
   show _ ≤ t ∧ t ≤ t
   omega
  ·rw [if_neg k3]
   have h2 : kind = 2 := by have := hf.k1; have := hf.k3; omega
   have hsl := hf.sl h2
   have hb := fl_bounds t slide hsl.1
   intro s hs
   rw [List.mem_reverse] at hs
   have key : ∀ (n : Nat) (u : Int), u ≤ t → ∀ s ∈ backL size slide t n u, t - 68719476736 ≤ s.f0 ∧ s.f0 ≤ t := by
    intro n
    induction n with
    | zero => intro u hu s hs; simp [backL] at hs
    | succ n ih =>
     intro u hu s hs
     rw [backL] at hs
     by_cases hc : u + size > t
     ·rw [if_pos hc] at hs
      rcases List.mem_cons.1 hs with rfl | hs
      ·show _ ≤ u ∧ u ≤ t; omega
      ·exact ih _ (by omega) s hs
     ·rw [if_neg hc] at hs; simp at hs
   exact key 64 _ hb.1 s hs
theorem shift_l1 (c : Int) (hc : -8796093022208 ≤ c ∧ c ≤ 8796093022208) (p : List S46) (hp : p.length ≤ 4000) (hr : ∀ x ∈ p, Rg x) : ∀ (d i : Nat) (q : List S46), p.length = i + d → q = p.take i ++ (p.drop i).map (shP c) →
  Ev (fun k => leatlaw11_WindowShift.l1 k c p q (i : Int)) true
 | 0, i, q, h, hq => by
  rw [List.take_of_length_le (by omega), List.drop_eq_nil_of_le (by omega), List.map_nil, List.append_nil] at hq
  subst hq
  refine Ev.step (fun k => ?_) (Ev.bind (panes_ev q (by omega)) (Ev.now true))
  simp only [leatlaw11_WindowShift.l1]
  rw [if_neg (by omega)]
 | d + 1, i, q, h, hq => by
  have hlt : i < p.length := by omega
  have hql : q.length = p.length := by rw [hq]; simp; omega
  have hlt2 : i < q.length := by omega
  have hqi : q[i] = shP c p[i] := by
   have : q[i]? = some (shP c p[i]) := by
    rw [hq, List.getElem?_append_right (by simp; omega)]
    simp [Nat.min_eq_left (Nat.le_of_lt hlt), List.getElem?_drop, hlt]
   rw [List.getElem?_eq_getElem hlt2] at this
   exact Option.some.inj this
  have hx := hr _ (List.getElem_mem hlt)
  unfold Rg at hx
  have ih := shift_l1 c hc p hp hr d (i + 1) (q.set i p[i]) (by omega) (by
   apply List.ext_getElem?
   intro t
   rw [List.getElem?_set, hq]
   by_cases ht : i = t
   ·subst ht
    rw [if_pos rfl, if_pos (by simp; omega), List.getElem?_append_left (by simp; omega), List.getElem?_take_of_lt (by omega), List.getElem?_eq_getElem hlt]
   ·rw [if_neg ht]
    by_cases ht2 : t < i
    ·rw [List.getElem?_append_left (by simp; omega), List.getElem?_append_left (by simp; omega), List.getElem?_take_of_lt ht2, List.getElem?_take_of_lt (by omega)]
    ·rw [List.getElem?_append_right (by simp; omega), List.getElem?_append_right (by simp; omega), List.length_take, List.length_take, Nat.min_eq_left (by omega), Nat.min_eq_left (by omega), List.getElem?_map, List.getElem?_map, List.getElem?_drop, List.getElem?_drop]
     congr 2
     omega)
  have e : (⟨(shP c p[i]).f0, (⟨wrap64 ((shP c p[i]).f1.f0 - c), wrap64 ((shP c p[i]).f1.f1 - c)⟩ : S31), (shP c p[i]).f2⟩ : S46) = p[i] := by
   refine S46_ext rfl ?_ ?_ rfl
   ·show wrap64 (p[i].f1.f0 + c - c) = p[i].f1.f0
    rw [w_in (by omega)]; omega
   ·show wrap64 (p[i].f1.f1 + c - c) = p[i].f1.f1
    rw [w_in (by omega)]; omega
  refine Ev.step (fun k => ?_) ih
  simp only [leatlaw11_WindowShift.l1]
  rw [if_pos (by omega), if_pos (by omega), rd46_at hlt2, hqi, e, Int.toNat_natCast, step_i hlt2 (by omega)]
theorem shift_l0 {kind size slide a : Int} (ha : aggOk a = true) (hf : Fit kind size slide) (c : Int) (hc : -8796093022208 ≤ c ∧ c ≤ 8796093022208) (h1 : kind = 1 → ∃ u, c = size * u) (h2 : kind ≠ 1 → kind ≠ 3 → ∃ u, c = slide * u)
  (l : List S37) (hl : l.length ≤ 60) (hg : ∀ r ∈ l, I64 r.f1 ∧ I64 r.f2) : ∀ (d i : Nat) (p q : List S46), l.length = i + d → (∀ r ∈ l.take i, TimeOk r.f1) →
  Is kind a (ones a (spansP kind size slide) (l.take i)) p → Is kind a ((ones a (spansP kind size slide) (l.take i)).map (shP c)) q →
  Ev (fun k => leatlaw11_WindowShift.l0 k a l c p q (i : Int) kind size slide) true
 | 0, i, p, q, h, hT, I1, I2 => by
  have l1 := is_len I1
  rw [List.length_take] at l1
  have he : q = p.map (shP c) := Is.unique ha I2 (is_sh c I1) (.refl _)
  have hr : ∀ x ∈ p, Rg x := by
   refine rs_all (P := Rg) (fun x y hx hy => ?_) I1.rs (ones_all (fun r hr s hs => ?_))
   ·unfold Rg at *
    show (_ ≤ mn _ _ ∧ mn _ _ ≤ _) ∧ (_ ≤ mx _ _ ∧ mx _ _ ≤ _)
    unfold mn mx
    (repeat' split) <;> omega
   ·have ht := hT r hr
    have n1 := spans_near hf ht s hs
    have n2 := spansP_size _ _ _ _ s hs
    have hs1 := hf.s1
    have hs2 := hf.s2
    unfold TimeOk at ht
    show (_ ≤ s.f0 ∧ s.f0 ≤ _) ∧ (_ ≤ s.f1 ∧ s.f1 ≤ _)
    omega
  have h3 := shift_l1 c hc p (by omega) hr p.length 0 q (by omega) (by rw [he]; simp)
  refine Ev.step (fun k => ?_) h3
  simp only [leatlaw11_WindowShift.l0]
  rw [if_neg (by omega), if_pos (by rw [he]; simp)]
  rfl
 | d + 1, i, p, q, h, hT, I1, I2 => by
  have hlt : i < l.length := by omega
  have l1 := is_len I1
  have l2 := rs_len I2.rs
  have l3 := ones_len a _ 64 (spansP_len kind size slide) (l.take i)
  rw [List.length_map] at l2
  rw [List.length_take] at l1 l3
  have hv := hg _ (List.getElem_mem hlt)
  have hw := step_i hlt (by omega)
  have jt : Ev (fun k => leatlaw11_WindowShift.j2 k a l c p q (i : Int) true kind size slide) true := Ev.step (f := fun _ => some true) (fun k => by simp only [leatlaw11_WindowShift.j2]; exact if_pos trivial) (Ev.now _)
  by_cases ht : TimeOk l[i].f1
  ·have ht' := ht
   unfold TimeOk at ht'
   have hwc : wrap64 (l[i].f1 + c) = l[i].f1 + c := w_in (by omega)
   by_cases ht2 : TimeOk (l[i].f1 + c)
   ·have hput := put_ev (a := a) hf ht l[i].f0 l[i].f2 p (by omega)
    have hput2 := put_ev (a := a) hf ht2 l[i].f0 l[i].f2 q (by omega)
    have J1 := put_is ha hf I1 hv.2
    rw [← take_snoc hlt] at J1
    have J2 := Is.put ha I2 l[i].f0 hv.2 (spansP kind size slide (l[i].f1 + c))
    rw [spans_sh c h1 h2, one_sh, ← List.map_append, ← ones_snoc, ← take_snoc hlt] at J2
    rw [← spans_sh c h1 h2] at J2
    have ih := shift_l0 ha hf c hc h1 h2 l hl hg d (i + 1) _ _ (by omega) (fun r hr => by
     rw [take_snoc hlt] at hr
     rcases List.mem_append.1 hr with hr | hr
     ·exact hT r hr
     ·rw [List.mem_singleton.1 hr]; exact ht) J1 J2
    refine Ev.step (f := fun k => leatlaw11_WindowShift.j2 k a l c p q (i : Int) false kind size slide) (fun k => ?_) (Ev.step (f := fun k => (window_Put.f k kind size slide a p l[i].f0 l[i].f1 l[i].f2).bind fun t1 => (window_Put.f k kind size slide a q l[i].f0 (l[i].f1 + c) l[i].f2).bind fun t2 => leatlaw11_WindowShift.l0 k a l c t1 t2 ((i + 1 : Nat) : Int) kind size slide) (fun k => ?_) (Ev.bind hput (Ev.bind hput2 ih)))
    ·simp only [leatlaw11_WindowShift.l0]
     rw [if_pos (by omega), if_pos (by omega), rd37_at hlt, time_eq, Option.bind_some, if_pos (decide_eq_true ht), hwc, time_eq, Option.bind_some, decide_eq_true ht2]
     rfl
    ·simp only [leatlaw11_WindowShift.j2]
     rw [if_neg (by simp), if_pos (by omega), if_pos (by omega), rd37_at hlt, hwc, hw]
   ·refine Ev.step (fun k => ?_) jt
    simp only [leatlaw11_WindowShift.l0]
    rw [if_pos (by omega), if_pos (by omega), rd37_at hlt, time_eq, Option.bind_some, if_pos (decide_eq_true ht), hwc, time_eq, Option.bind_some, decide_eq_false ht2]
    rfl
  ·refine Ev.step (fun k => ?_) jt
   simp only [leatlaw11_WindowShift.l0]
   rw [if_pos (by omega), if_pos (by omega), rd37_at hlt, time_eq, Option.bind_some, decide_eq_false ht, if_neg (by simp)]
theorem WindowShift : Go.Proofs.Ytdinbnbogdadgaa.Op.WindowShiftPure := by
 intro kind size slide a l w w1 w2 w3 w4 hl w5
 refine Ev.rounds (g := fun k => leatlaw11_WindowShift.f k kind size slide a l w) ?_
 have hg : ∀ r ∈ l, I64 r.f1 ∧ I64 r.f2 := fun r hr => ⟨i64_wf (hl.2.2 r hr).2.1, i64_wf (hl.2.2 r hr).2.2⟩
 have jt : Ev (fun k => leatlaw11_WindowShift.j0 k a l w true kind size slide) true := Ev.step (f := fun _ => some true) (fun k => by simp only [leatlaw11_WindowShift.j0]; exact if_pos trivial) (Ev.now _)
 refine Ev.congr (fun k => by rw [leatlaw11_WindowShift.f]) (Ev.bind known_ev (Ev.congr (fun k => if_pos rfl) ?_))
 obtain ⟨b, hb, hfit⟩ := fit_sp kind size slide
 refine Ev.bind hfit ?_
 cases b with
 | false => exact Ev.congr (fun k => if_neg (by simp)) jt
 | true =>
  have hf := hb rfl
  refine Ev.congr (fun k => if_pos rfl) ?_
  by_cases h60 : (l.length : Int) > 60
  ·exact Ev.congr (fun k => if_pos h60) jt
  ·refine Ev.congr (fun k => if_neg h60) (Ev.congr (fun k => by rw [agg_Is.f, Option.bind_some]) ?_)
   cases ha : aggOk a with
   | false => exact Ev.congr (fun k => if_neg (by simp)) jt
   | true =>
    refine Ev.congr (fun k => if_pos rfl) ?_
    by_cases hs : size > 1048576
    ·exact Ev.congr (fun k => if_pos hs) jt
    ·refine Ev.congr (fun k => if_neg hs) ?_
     by_cases hsl : slide > 1048576
     ·rw [decide_eq_true hsl]; exact jt
     ·rw [decide_eq_false hsl]
      obtain ⟨P, hP, hP0, hP1⟩ := place_sh w 9 (by omega)
      have hs1 := hf.s1
      have hm : 1 ≤ mx slide 1 ∧ mx slide 1 ≤ 1048576 := by unfold mx; split <;> omega
      have hprod : 1 ≤ size * mx slide 1 ∧ size * mx slide 1 ≤ 1099511627776 := by
       have e1 : 1 * 1 ≤ size * mx slide 1 := Int.mul_le_mul hs1 hm.1 (by omega) (by omega)
       have e2 : size * mx slide 1 ≤ 1048576 * 1048576 := Int.mul_le_mul (by omega) hm.2 (by omega) (by omega)
       omega
      have hw1 : wrap64 (size * mx slide 1) = size * mx slide 1 := w_in (by omega)
      have hw2 : wrap64 (P - 4) = P - 4 := w_in (by omega)
      have hb1 : size * mx slide 1 * (P - 4) ≤ size * mx slide 1 * 4 := Int.mul_le_mul_of_nonneg_left (by omega) (by omega)
      have hb2 : size * mx slide 1 * (-4) ≤ size * mx slide 1 * (P - 4) := Int.mul_le_mul_of_nonneg_left (by omega) (by omega)
      have hw3 : wrap64 (size * mx slide 1 * (P - 4)) = size * mx slide 1 * (P - 4) := w_in (by omega)
      refine Ev.step (fun k => by simp only [leatlaw11_WindowShift.j0]; rw [if_neg (by simp), hP, Option.bind_some, hw1, hw2, hw3]) ?_
      refine shift_l0 ha hf _ (by omega) (fun _ => ⟨mx slide 1 * (P - 4), by rw [Int.mul_assoc]⟩) (fun k1 k3 => ?_) l (by omega) hg l.length 0 [] [] (by omega) (by simp) (by rw [List.take_zero]; exact Is.nil _ _) (by rw [List.take_zero]; exact Is.nil _ _)
      have h2 : kind = 2 := by have := hf.k1; have := hf.k3; omega
      have h3 := hf.sl h2
      have e : mx slide 1 = slide := by unfold mx; split <;> omega
      rw [e]
      exact ⟨size * (P - 4), by rw [Int.mul_comm size slide, Int.mul_assoc]⟩
end Go.Proofs.Ytdinbnbogdadgaa.Pure
