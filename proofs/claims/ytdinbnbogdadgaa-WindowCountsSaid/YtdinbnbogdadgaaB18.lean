/- What the printed helpers of the window laws come to, in plain Lean. No conditions but those typed. -/
import Derived.Test.YtdinbnbogdadgaaB16
import Derived.Test.YtdinbnbogdadgaaB17
import Derived.Test.YtdinbnbogdadgaaB11
namespace Go.Proofs.Ytdinbnbogdadgaa.Th
open Go.RowKit Go.Sort Go.Proofs.YtdinbnbogdadgaaW.PrintWords Go.Proofs.YtdinbnbogdadgaaW.PrintMore Go.Proofs.Ytdinbnbogdadgaa Go.Proofs.Ytdinbnbogdadgaa.So Go.Proofs.Ytdinbnbogdadgaa.X Go.Proofs.Ytdinbnbogdadgaa.Nf
set_option linter.unusedVariables false
set_option linter.unusedSimpArgs false
def Sp {α : Type} (P : α → Prop) (f : Nat → Option α) : Prop := ∃ r, P r ∧ Ev f r
theorem w_in {x : Int} (h : -9223372036854775808 ≤ x ∧ x ≤ 9223372036854775807) : wrap64 x = x := wrap_in h
theorem step_i {i n : Nat} (h : i < n) (hn : n < 4611686018427387904) : wrap64 ((i : Int) + 1) = ((i + 1 : Nat) : Int) := by unfold wrap64; omega
theorem rd46_at {l : List S46} {i : Nat} (h : i < l.length) : rd_T46 l (i : Int) = l[i] := by simp [rd_T46, h]
theorem rd37_at {l : List S37} {i : Nat} (h : i < l.length) : rd_T37 l (i : Int) = l[i] := by simp [rd_T37, h]
theorem rd31_at {l : List S31} {i : Nat} (h : i < l.length) : rd_T31 l (i : Int) = l[i] := by simp [rd_T31, h]
theorem panes_l0 (l : List S46) (hn : l.length < 4611686018427387904) : ∀ (d i : Nat), l.length = i + d → Ev (fun k => leathelp_Panes.l0 k l l (i : Int)) true
 | 0, i, h => by
  refine Ev.step (f := fun _ => some true) (fun k => ?_) (Ev.now _)
  simp only [leathelp_Panes.l0]; rw [if_neg (by omega)]
 | d + 1, i, h => by
  refine Ev.step (fun k => ?_) (panes_l0 l hn d (i + 1) (by omega))
  simp only [leathelp_Panes.l0]
  rw [if_pos (by omega), if_pos (by omega), if_pos (by omega), if_neg (by simp), step_i (show i < l.length by omega) hn]
theorem panes_ev (l : List S46) (hn : l.length < 4611686018427387904) : Ev (fun k => leathelp_Panes.f k l l) true :=
 Ev.congr (fun k => by rw [leathelp_Panes.f, if_pos rfl]; rfl) (panes_l0 l hn l.length 0 (by omega))
theorem spans_l0 (l : List S31) (hn : l.length < 4611686018427387904) : ∀ (d i : Nat), l.length = i + d → Ev (fun k => leathelp_Spans.l0 k l l (i : Int)) true
 | 0, i, h => by
  refine Ev.step (f := fun _ => some true) (fun k => ?_) (Ev.now _)
  simp only [leathelp_Spans.l0]; rw [if_neg (by omega)]
 | d + 1, i, h => by
  refine Ev.step (fun k => ?_) (spans_l0 l hn d (i + 1) (by omega))
  simp only [leathelp_Spans.l0]
  rw [if_pos (by omega), if_pos (by omega), if_pos (by omega), if_neg (by simp), step_i (show i < l.length by omega) hn]
theorem spansEq_ev (l : List S31) (hn : l.length < 4611686018427387904) : Ev (fun k => leathelp_Spans.f k l l) true :=
 Ev.congr (fun k => by rw [leathelp_Spans.f, if_pos rfl]; rfl) (spans_l0 l hn l.length 0 (by omega))
theorem records_l0 (l : List S37) (hn : l.length < 4611686018427387904) : ∀ (d i : Nat), l.length = i + d → Ev (fun k => leathelp_Records.l0 k l l (i : Int)) true
 | 0, i, h => by
  refine Ev.step (f := fun _ => some true) (fun k => ?_) (Ev.now _)
  simp only [leathelp_Records.l0]; rw [if_neg (by omega)]
 | d + 1, i, h => by
  refine Ev.step (fun k => ?_) (records_l0 l hn d (i + 1) (by omega))
  simp only [leathelp_Records.l0]
  rw [if_pos (by omega), if_pos (by omega), if_pos (by omega), if_neg (by simp), step_i (show i < l.length by omega) hn]
theorem records_ev (l : List S37) (hn : l.length < 4611686018427387904) : Ev (fun k => leathelp_Records.f k l l) true :=
 Ev.congr (fun k => by rw [leathelp_Records.f, if_pos rfl]; rfl) (records_l0 l hn l.length 0 (by omega))
structure Fit (kind size slide : Int) : Prop where
 k1 : 1 ≤ kind
 k3 : kind ≤ 3
 s1 : 1 ≤ size
 s2 : size ≤ 68719476736
 sl : kind = 2 → 1 ≤ slide ∧ slide ≤ 68719476736 ∧ size ≤ 64 * slide
 no : kind ≠ 2 → slide = 0
def TimeOk (t : Int) : Prop := -1125899906842624 ≤ t ∧ t ≤ 1125899906842624
instance (t : Int) : Decidable (TimeOk t) := by unfold TimeOk; infer_instance
theorem time_eq (t : Int) : leatlaw11_time.f t = some (decide (TimeOk t)) := by
 unfold leatlaw11_time.f
 by_cases h : t ≥ -1125899906842624
 ·rw [if_pos h]
  by_cases h2 : t ≤ 1125899906842624
  ·rw [decide_eq_true h2, decide_eq_true (show TimeOk t from ⟨h, h2⟩)]
  ·rw [decide_eq_false h2, decide_eq_false (fun hh : TimeOk t => h2 hh.2)]
 ·rw [if_neg h, decide_eq_false (fun hh : TimeOk t => h hh.1)]
theorem tdiv_le {x y : Int} (hx : 0 ≤ x) (hy : 1 ≤ y) (h : Int.tdiv x y < 64) : x < 64 * y := by
 rw [Int.tdiv_eq_ediv_of_nonneg hx] at h
 have h1 := Int.lt_ediv_add_one_mul_self x (show 0 < y by omega)
 have h2 : (x / y + 1) * y ≤ 64 * y := Int.mul_le_mul_of_nonneg_right (by omega) (by omega)
 omega
theorem fit_sp (kind size slide : Int) : Sp (fun b => b = true → Fit kind size slide) (fun k => leatlaw11_fit.f k kind size slide) := by
 have j1 : Ev (fun k => leatlaw11_fit.j0 k true kind size slide) false := Ev.step (f := fun _ => some false) (fun k => by simp only [leatlaw11_fit.j0]; exact if_pos trivial) (Ev.now _)
 by_cases h1 : kind < 1
 ·exact ⟨false, nofun, Ev.congr (fun k => by rw [leatlaw11_fit.f, if_pos h1]) j1⟩
 by_cases h2 : kind > 3
 ·exact ⟨false, nofun, Ev.congr (fun k => by rw [leatlaw11_fit.f, if_neg h1, if_pos h2]) j1⟩
 by_cases h3 : size < 1
 ·exact ⟨false, nofun, Ev.congr (fun k => by rw [leatlaw11_fit.f, if_neg h1, if_neg h2, if_pos h3]) j1⟩
 have e : ∀ k, leatlaw11_fit.f k kind size slide = leatlaw11_fit.j0 k (decide (size > 68719476736)) kind size slide := fun k => by rw [leatlaw11_fit.f, if_neg h1, if_neg h2, if_neg h3]
 by_cases h4 : size > 68719476736
 ·exact ⟨false, nofun, Ev.congr (fun k => by rw [e, decide_eq_true h4]) j1⟩
 have e2 : ∀ k, leatlaw11_fit.f k kind size slide = leatlaw11_fit.j0 k false kind size slide := fun k => by rw [e, decide_eq_false h4]
 by_cases h5 : kind = 2
 ·by_cases h6 : slide ≥ 1
  ·by_cases h7 : slide ≤ 68719476736
   ·have hw : wrap64 (size - 1) = size - 1 := w_in (by omega)
    have hd : 0 ≤ Int.tdiv (size - 1) slide := by rw [Int.tdiv_eq_ediv_of_nonneg (by omega)]; exact Int.ediv_nonneg (by omega) (by omega)
    have hd2 : Int.tdiv (size - 1) slide ≤ size - 1 := by rw [Int.tdiv_eq_ediv_of_nonneg (by omega)]; exact Int.ediv_le_self _ (by omega)
    have hw2 : wrap64 (Int.tdiv (size - 1) slide) = Int.tdiv (size - 1) slide := w_in (by omega)
    refine ⟨decide (Int.tdiv (size - 1) slide < 64), fun h => ⟨by omega, by omega, by omega, by omega, fun _ => ⟨by omega, h7, ?_⟩, fun hn => absurd h5 hn⟩, ?_⟩
    ·have := tdiv_le (show 0 ≤ size - 1 by omega) (show 1 ≤ slide by omega) (of_decide_eq_true h)
     omega
    ·refine Ev.congr e2 (Ev.step (f := fun _ => some _) (fun k => ?_) (Ev.now _))
     simp only [leatlaw11_fit.j0]
     rw [if_neg (by simp), if_pos h5, if_pos h6, if_pos h7, if_neg (by omega), hw, hw2]
   ·refine ⟨false, nofun, Ev.congr e2 (Ev.step (f := fun _ => some _) (fun k => ?_) (Ev.now _))⟩
    simp only [leatlaw11_fit.j0]
    rw [if_neg (by simp), if_pos h5, if_pos h6, if_neg h7]
  ·refine ⟨false, nofun, Ev.congr e2 (Ev.step (f := fun _ => some _) (fun k => ?_) (Ev.now _))⟩
   simp only [leatlaw11_fit.j0]
   rw [if_neg (by simp), if_pos h5, if_neg h6]
 ·refine ⟨slide == 0, fun h => ⟨by omega, by omega, by omega, by omega, fun hk => absurd hk h5, fun _ => by simpa using h⟩, Ev.congr e2 (Ev.step (f := fun _ => some _) (fun k => ?_) (Ev.now _))⟩
  simp only [leatlaw11_fit.j0]
  rw [if_neg (by simp), if_neg h5]
def fl (t n : Int) : Int := t - t % n
theorem tdiv_mul (t n : Int) : Int.tdiv t n * n = t - Int.tmod t n := by
 have h := Int.tmod_add_tdiv_mul t n
 omega
theorem tmod_cases (t n : Int) (hn : 1 ≤ n) : Int.tmod t n = t % n ∨ (Int.tmod t n = t % n - n ∧ t % n ≠ 0 ∧ t < 0) := by
 have h1 := Int.emod_nonneg t (show n ≠ 0 by omega)
 rcases Int.le_total 0 t with h | h
 ·left; exact Int.tmod_eq_emod_of_nonneg h
 ·rw [Int.tmod_eq_emod]
  by_cases hd : n ∣ t
  ·left; rw [if_pos (.inr hd)]; omega
  ·by_cases h0 : 0 ≤ t
   ·left; rw [if_pos (.inl h0)]; omega
   ·right
    rw [if_neg (by rintro (h | h) <;> contradiction)]
    refine ⟨by omega, fun he => hd (Int.dvd_of_emod_eq_zero he), by omega⟩
theorem fl_bounds (t n : Int) (hn : 1 ≤ n) : fl t n ≤ t ∧ t - n < fl t n := by
 have h1 := Int.emod_nonneg t (show n ≠ 0 by omega)
 have h2 := Int.emod_lt_of_pos t (show 0 < n by omega)
 unfold fl; omega
theorem below_eq {t n : Int} (ht : TimeOk t) (hn : 1 ≤ n ∧ n ≤ 68719476736) : window_below.f t n = some (fl t n) := by
 unfold TimeOk at ht
 have hb := fl_bounds t n hn.1
 have h1 := Int.emod_nonneg t (show n ≠ 0 by omega)
 have h2 := Int.emod_lt_of_pos t (show 0 < n by omega)
 have hq : -1125899906842624 ≤ Int.tdiv t n ∧ Int.tdiv t n ≤ 1125899906842624 := by
  rcases Int.le_total 0 t with h | h
  ·rw [Int.tdiv_eq_ediv_of_nonneg h]
   exact ⟨by have := Int.ediv_nonneg h (show 0 ≤ n by omega); omega, by have := Int.ediv_le_self n h; omega⟩
  ·have e : Int.tdiv t n = - Int.tdiv (-t) n := by rw [Int.neg_tdiv]; omega
   rw [e, Int.tdiv_eq_ediv_of_nonneg (show 0 ≤ -t by omega)]
   have a1 := Int.ediv_nonneg (show 0 ≤ -t by omega) (show 0 ≤ n by omega)
   have a2 := Int.ediv_le_self n (show 0 ≤ -t by omega)
   omega
 have hw : wrap64 (Int.tdiv t n) = Int.tdiv t n := w_in (by omega)
 unfold window_below.f
 rw [if_neg (by omega), hw, tdiv_mul]
 rcases tmod_cases t n hn.1 with h | ⟨h, h3, h4⟩
 ·rw [h, w_in (show _ by omega), if_neg (by omega)]; rfl
 ·rw [h, w_in (show _ by omega), if_pos (by omega), w_in (show _ by omega)]
  unfold fl; congr 1; omega
theorem floor_eq {t n : Int} (ht : TimeOk t) (hn : 1 ≤ n ∧ n ≤ 68719476736) : leatref11_floor.f t n = some (fl t n) := by
 unfold TimeOk at ht
 have h1 := Int.emod_nonneg t (show n ≠ 0 by omega)
 have h2 := Int.emod_lt_of_pos t (show 0 < n by omega)
 unfold leatref11_floor.f
 rw [if_neg (by omega)]
 rcases tmod_cases t n hn.1 with h | ⟨h, h3, h4⟩
 ·rw [h, if_neg (by omega), w_in (show _ by omega)]; rfl
 ·rw [h, if_pos (by omega), w_in (show -9223372036854775808 ≤ t % n - n + n ∧ _ by omega), w_in (show _ by omega)]
  unfold fl; congr 1; omega
def backL (size slide t : Int) : Nat → Int → List S31
 | 0, _ => []
 | n + 1, s => if s + size > t then ⟨s, s + size⟩ :: backL size slide t n (s - slide) else []
theorem back_len (size slide t : Int) : ∀ (n : Nat) (s : Int), (backL size slide t n s).length ≤ n
 | 0, _ => Nat.le_refl _
 | n + 1, s => by
  rw [backL]
  split
  ·have := back_len size slide t n (s - slide); simp only [List.length_cons]; omega
  ·simp
def spansP (kind size slide t : Int) : List S31 :=
 if kind = 1 then [⟨fl t size, fl t size + size⟩] else if kind = 3 then [⟨t, t + size⟩] else (backL size slide t 64 (fl t slide)).reverse
theorem spansP_len (kind size slide t : Int) : (spansP kind size slide t).length ≤ 64 := by
 unfold spansP
 split
 ·simp
 ·split
  ·simp
  ·rw [List.length_reverse]; exact back_len _ _ _ _ _
theorem eta31 (x : S31) : (⟨x.f0, x.f1⟩ : S31) = x := rfl
theorem rev_l0 : ∀ (d : Nat) (x : List S31) (i j : Nat), x.length < 4611686018427387904 → i + j + 1 = x.length → j ≤ i + d →
  Sp (fun r => r.length = x.length ∧ ∀ p, p < x.length → r.getD p z31 = if i ≤ p ∧ p ≤ j then x.getD (x.length - 1 - p) z31 else x.getD p z31) (fun k => api_Span.l0 k x (i : Int) (j : Int))
 | 0, x, i, j, hn, hs, hd => by
  refine ⟨x, ⟨rfl, fun p hp => ?_⟩, Ev.step (f := fun _ => some x) (fun k => by simp only [api_Span.l0]; rw [if_neg (by omega)]) (Ev.now _)⟩
  split
  ·congr 1; omega
  ·rfl
 | d + 1, x, i, j, hn, hs, hd => by
  by_cases hij : i < j
  ·have hj1 : wrap64 ((j : Int) - 1) = ((j - 1 : Nat) : Int) := by rw [w_in (by omega)]; omega
   have hi1 : wrap64 ((i : Int) + 1) = ((i + 1 : Nat) : Int) := by rw [w_in (by omega)]; omega
   have hxl : ((x.set i (rd_T31 x (j : Int))).set j (rd_T31 x (i : Int))).length = x.length := by simp
   obtain ⟨r, ⟨hr1, hr2⟩, hev⟩ := rev_l0 d ((x.set i (rd_T31 x (j : Int))).set j (rd_T31 x (i : Int))) (i + 1) (j - 1) (by rw [hxl]; exact hn) (by rw [hxl]; omega) (by omega)
   rw [hxl] at hr1 hr2
   refine ⟨r, ⟨hr1, fun p hp => ?_⟩, Ev.step (fun k => ?_) hev⟩
   ·rw [hr2 p hp]
    have g : ∀ q, q < x.length → ((x.set i (rd_T31 x (j : Int))).set j (rd_T31 x (i : Int))).getD q z31 = if q = j then x.getD i z31 else if q = i then x.getD j z31 else x.getD q z31 := by
     intro q hq
     simp only [List.getD_eq_getElem?_getD, List.getElem?_set, List.length_set, rd_T31, Int.toNat_natCast]
     by_cases h1 : j = q
     ·subst h1; simp [hq]
     ·by_cases h2 : i = q
      ·subst h2; simp [h1, hq, (show ¬ i = j by omega)]
      ·simp [h1, h2, (show ¬ q = j by omega), (show ¬ q = i by omega)]
    by_cases h1 : i + 1 ≤ p ∧ p ≤ j - 1
    ·rw [if_pos h1, if_pos (by omega), g _ (by omega), if_neg (by omega), if_neg (by omega)]
    ·rw [if_neg h1, g p hp]
     by_cases h2 : p = j
     ·subst h2; rw [if_pos rfl, if_pos (by omega)]; congr 1; omega
     ·rw [if_neg h2]
      by_cases h3 : p = i
      ·subst h3; rw [if_pos rfl, if_pos (by omega)]; congr 1; omega
      ·rw [if_neg h3, if_neg (by omega)]
   ·simp only [api_Span.l0]
    rw [if_pos (by omega), if_pos (by omega), if_pos (by omega), if_pos (by omega), if_pos (by omega), hj1, hi1]
    rfl
  ·refine ⟨x, ⟨rfl, fun p hp => ?_⟩, Ev.step (f := fun _ => some x) (fun k => by simp only [api_Span.l0]; rw [if_neg (by omega)]) (Ev.now _)⟩
   split
   ·congr 1; omega
   ·rfl
theorem rev_ev (l : List S31) (hn : l.length < 4611686018427387904) : Ev (fun k => api_Span.f k l) l.reverse := by
 cases l with
 | nil => exact Ev.step (f := fun _ => some []) (fun k => by rw [api_Span.f]; simp only [api_Span.l0]; rw [if_neg (by rw [w_in (by simp)]; simp)]) (Ev.now _)
 | cons a l =>
  obtain ⟨r, ⟨h1, h2⟩, h3⟩ := rev_l0 l.length (a :: l) 0 l.length hn (by simp) (by omega)
  have e : r = (a :: l).reverse := by
   apply List.ext_getElem (by simpa using h1)
   intro p hp1 hp2
   have hp : p < (a :: l).length := by rw [← h1]; exact hp1
   have := h2 p hp
   rw [if_pos ⟨by omega, by simp at hp; omega⟩] at this
   simp only [List.getD_eq_getElem?_getD] at this
   rw [List.getElem?_eq_getElem hp1, List.getElem?_eq_getElem (by simp at hp ⊢; omega)] at this
   rw [List.getElem_reverse]
   simpa using this
  rw [← e]
  refine Ev.congr (fun k => ?_) h3
  rw [api_Span.f, w_in (by simp only [List.length_cons] at *; omega)]
  congr 1
  simp
theorem spans_l (kind size slide t : Int) (hs : 1 ≤ size ∧ size ≤ 68719476736) (hsl : 1 ≤ slide ∧ slide ≤ 68719476736) (ht : TimeOk t) (n : Nat) : ∀ (x : List S31) (s : Int), x.length + n = 64 → -1125899906842624 - 68719476736 * 65 + 68719476736 * (n : Int) ≤ s → s ≤ t →
  Ev (fun k => window_Spans.l0 k t x s kind size slide) (x ++ backL size slide t n s).reverse := by
 unfold TimeOk at ht
 induction n with
 | zero =>
  intro x s hx h1 h2
  have hw : wrap64 (s + size) = s + size := w_in (by omega)
  have hrev := rev_ev x (by omega)
  rw [show backL size slide t 0 s = [] from rfl, List.append_nil]
  by_cases hc : s + size > t
  ·refine Ev.step (fun k => ?_) (Ev.bind hrev (Ev.now _))
   simp only [window_Spans.l0]
   rw [hw, if_pos hc, if_neg (by omega)]
  ·refine Ev.step (fun k => ?_) (Ev.bind hrev (Ev.now _))
   simp only [window_Spans.l0]
   rw [hw, if_neg hc]
 | succ n ih =>
  intro x s hx h1 h2
  have hw : wrap64 (s + size) = s + size := w_in (by omega)
  by_cases hc : s + size > t
  ·rw [backL, if_pos hc]
   have ih := ih (x ++ [⟨s, s + size⟩]) (s - slide) (by simp; omega) (by omega) (by omega)
   rw [List.append_assoc, List.singleton_append] at ih
   refine Ev.step (fun k => ?_) ih
   simp only [window_Spans.l0]
   rw [hw, if_pos hc, if_pos (by omega), if_pos (by omega), w_in (show -9223372036854775808 ≤ s - slide ∧ s - slide ≤ 9223372036854775807 by omega)]
  ·have hrev := rev_ev x (by omega)
   rw [backL, if_neg hc, List.append_nil]
   refine Ev.step (fun k => ?_) (Ev.bind hrev (Ev.now _))
   simp only [window_Spans.l0]
   rw [hw, if_neg hc]
theorem spans_ev {kind size slide t : Int} (hf : Fit kind size slide) (ht : TimeOk t) : Ev (fun k => window_Spans.f k kind size slide t) (spansP kind size slide t) := by
 have hs1 := hf.s1
 have hs2 := hf.s2
 have ht' := ht
 unfold TimeOk at ht'
 have e : ∀ k, window_Spans.f k kind size slide t = window_Spans.j0 k t false kind size slide := fun k => by
  rw [window_Spans.f, if_neg (by omega)]
  by_cases h2 : kind = 2
  ·have := hf.sl h2
   rw [if_pos h2, decide_eq_false (by omega)]
  ·rw [if_neg h2]
 refine Ev.congr e ?_
 by_cases h1 : kind = 1
 ·have hb := below_eq ht (n := size) ⟨hs1, hs2⟩
  have hbo := fl_bounds t size hs1
  refine Ev.step (f := fun _ => some (spansP kind size slide t)) (fun k => ?_) (Ev.now _)
  simp only [window_Spans.j0]
  rw [if_neg (by simp), if_pos h1, hb, Option.bind_some, w_in (show _ by omega), spansP, if_pos h1]
 ·by_cases h3 : kind = 3
  ·refine Ev.step (f := fun _ => some (spansP kind size slide t)) (fun k => ?_) (Ev.now _)
   simp only [window_Spans.j0]
   rw [if_neg (by simp), if_neg h1, if_pos h3, w_in (show _ by omega), spansP, if_neg h1, if_pos h3]
  ·have h2 : kind = 2 := by have := hf.k1; have := hf.k3; omega
   have hsl := hf.sl h2
   have hb := below_eq ht (n := slide) ⟨hsl.1, hsl.2.1⟩
   have hbo := fl_bounds t slide hsl.1
   have hl := spans_l kind size slide t ⟨hs1, hs2⟩ ⟨hsl.1, hsl.2.1⟩ ht 64 [] (fl t slide) rfl (by omega) (by omega)
   rw [List.nil_append] at hl
   rw [spansP, if_neg h1, if_neg h3]
   refine Ev.step (fun k => ?_) hl
   simp only [window_Spans.j0]
   rw [if_neg (by simp), if_neg h1, if_neg h3, if_pos h2, hb, Option.bind_some]
theorem put_ev {kind size slide t a : Int} (hf : Fit kind size slide) (ht : TimeOk t) (key val : Int) (l : List S46) (hl : l.length < 4398046511000) :
  Ev (fun k => window_Put.f k kind size slide a l key t val) (putL kind a key val (spansP kind size slide t) l) := by
 refine Ev.congr (fun k => by rw [window_Put.f]) (Ev.bind (f := fun k ss => if l.length + ss.length < 4398046511104 then some (sortP (ss.foldl (stepP kind a key val) l)) else none) (spans_ev hf ht) ?_)
 have := spansP_len kind size slide t
 refine Ev.congr (fun k => by rw [if_pos (by omega)]; rfl) (Ev.now _)
end Go.Proofs.Ytdinbnbogdadgaa.Th
namespace Go.Proofs.Ytdinbnbogdadgaa.Th
open Go.RowKit Go.Sort Go.Proofs.YtdinbnbogdadgaaW.PrintWords Go.Proofs.YtdinbnbogdadgaaW.PrintMore Go.Proofs.Ytdinbnbogdadgaa Go.Proofs.Ytdinbnbogdadgaa.So Go.Proofs.Ytdinbnbogdadgaa.X Go.Proofs.Ytdinbnbogdadgaa.Nf
set_option linter.unusedVariables false
set_option linter.unusedSimpArgs false
def due (m : Int) (p : S46) : Bool := decide (wrap64 (p.f1.f1 - 1) ≤ m)
def outR (m : Int) (l : List S46) : List S37 := (l.filter (due m)).map (fun p => ⟨p.f0, wrap64 (p.f1.f1 - 1), p.f2⟩)
def leftR (m : Int) (l : List S46) : List S46 := l.filter (fun p => !due m p)
theorem outR_pos {m : Int} {p : S46} (h : due m p = true) (l : List S46) : outR m (p :: l) = ⟨p.f0, wrap64 (p.f1.f1 - 1), p.f2⟩ :: outR m l := by simp [outR, h]
theorem outR_neg {m : Int} {p : S46} (h : due m p = false) (l : List S46) : outR m (p :: l) = outR m l := by simp [outR, h]
theorem leftR_pos {m : Int} {p : S46} (h : due m p = true) (l : List S46) : leftR m (p :: l) = leftR m l := by simp [leftR, h]
theorem leftR_neg {m : Int} {p : S46} (h : due m p = false) (l : List S46) : leftR m (p :: l) = p :: leftR m l := by simp [leftR, h]
theorem fire_l0 (m : Int) (l : List S46) (hn : l.length < 4398046511000) : ∀ (d i : Nat) (x : List S37) (y : List S46), l.length = i + d → x.length ≤ i → y.length ≤ i →
  Ev (fun k => window_Fire.l0 k m x y l (l.length : Int) (i : Int)) (x ++ outR m (l.drop i), y ++ leftR m (l.drop i))
 | 0, i, x, y, h, h1, h2 => by
  rw [List.drop_eq_nil_of_le (by omega)]
  simp only [outR, leftR, List.filter_nil, List.map_nil, List.append_nil]
  refine Ev.step (f := fun _ => some _) (fun k => ?_) (Ev.now _)
  simp only [window_Fire.l0]; rw [if_neg (by omega)]
 | d + 1, i, x, y, h, h1, h2 => by
  have hlt : i < l.length := by omega
  rw [List.drop_eq_getElem_cons hlt]
  by_cases hc : wrap64 (l[i].f1.f1 - 1) ≤ m
  ·have e : due m l[i] = true := decide_eq_true hc
   have ih := fire_l0 m l hn d (i + 1) (x ++ [⟨l[i].f0, wrap64 (l[i].f1.f1 - 1), l[i].f2⟩]) y (by omega) (by simp; omega) (by omega)
   rw [outR_pos e, leftR_pos e]
   rw [List.append_assoc, List.singleton_append] at ih
   refine Ev.step (fun k => ?_) ih
   simp only [window_Fire.l0]
   rw [if_pos (by omega), if_pos (by omega), if_pos (by omega), rd46_at hlt, if_pos hc, if_pos (by omega), step_i hlt (by omega)]
  ·have e : due m l[i] = false := decide_eq_false hc
   have ih := fire_l0 m l hn d (i + 1) x (y ++ [l[i]]) (by omega) (by omega) (by simp; omega)
   rw [outR_neg e, leftR_neg e]
   rw [List.append_assoc, List.singleton_append] at ih
   refine Ev.step (fun k => ?_) ih
   simp only [window_Fire.l0]
   rw [if_pos (by omega), if_pos (by omega), if_pos (by omega), rd46_at hlt, if_neg hc, if_pos (by omega), step_i hlt (by omega)]
theorem fire_ev (m : Int) (l : List S46) (hn : l.length < 4398046511000) : Ev (fun k => window_Fire.f k l m) (outR m (sortP l), leftR m (sortP l)) := by
 have h := fire_l0 m (sortP l) (by rw [sortP_len]; exact hn) (sortP l).length 0 [] [] (by omega) (by simp) (by simp)
 refine Ev.congr (fun k => ?_) h
 rw [window_Fire.f, window_Sort.f, if_pos (by omega)]
 rfl
theorem put_seen {l fld r : List S46} {t : Int} (e : (spansP 3 5 0 t).foldl (stepP 3 2 1 0) l = fld) (hs : Sorted fld) : putL 3 2 1 0 (spansP 3 5 0 t) l = fld := by
 rw [putL, e, sortP_same hs]
theorem known_ev : Ev (fun k => leatlaw11_known.f k) true := by
 have f2 : Fit 2 10 4 := ⟨by omega, by omega, by omega, by omega, fun _ => by omega, fun h => absurd rfl h⟩
 have f3 : Fit 3 5 0 := ⟨by omega, by omega, by omega, by omega, fun h => absurd h (by omega), fun _ => rfl⟩
 have f1 : Fit 1 10 0 := ⟨by omega, by omega, by omega, by omega, fun h => absurd h (by omega), fun _ => rfl⟩
 have s2 := spans_ev f2 (t := 9) (by decide)
 have e2 : spansP 2 10 4 9 = [⟨0, 10⟩, ⟨4, 14⟩, ⟨8, 18⟩] := rfl
 rw [e2] at s2
 have s1 := spans_ev f1 (t := -1) (by decide)
 have e1 : spansP 1 10 0 (-1) = [⟨-10, 0⟩] := rfl
 rw [e1] at s1
 have p0 := put_ev (a := 2) f3 (t := 0) (by decide) 1 0 [] (by simp)
 have q0 : putL 3 2 1 0 (spansP 3 5 0 0) [] = [⟨1, ⟨0, 5⟩, 1⟩] := put_seen (r := []) (by kernel_rfl) (by unfold Sorted; decide +kernel)
 rw [q0] at p0
 have p1 := put_ev (a := 2) f3 (t := 4) (by decide) 1 0 [⟨1, ⟨0, 5⟩, 1⟩] (by simp)
 have q1 : putL 3 2 1 0 (spansP 3 5 0 4) [⟨1, ⟨0, 5⟩, 1⟩] = [⟨1, ⟨0, 9⟩, 2⟩] := put_seen (r := []) (by kernel_rfl) (by unfold Sorted; decide +kernel)
 rw [q1] at p1
 have p2 := put_ev (a := 2) f3 (t := 9) (by decide) 1 0 [⟨1, ⟨0, 9⟩, 2⟩] (by simp)
 have q2 : putL 3 2 1 0 (spansP 3 5 0 9) [⟨1, ⟨0, 9⟩, 2⟩] = [⟨1, ⟨0, 9⟩, 2⟩, ⟨1, ⟨9, 14⟩, 1⟩] := put_seen (r := []) (by kernel_rfl) (by unfold Sorted; decide +kernel)
 rw [q2] at p2
 have p3 := put_ev (a := 2) f3 (t := 20) (by decide) 1 0 [⟨1, ⟨0, 9⟩, 2⟩, ⟨1, ⟨9, 14⟩, 1⟩] (by simp)
 have q3 : putL 3 2 1 0 (spansP 3 5 0 20) [⟨1, ⟨0, 9⟩, 2⟩, ⟨1, ⟨9, 14⟩, 1⟩] = [⟨1, ⟨0, 9⟩, 2⟩, ⟨1, ⟨9, 14⟩, 1⟩, ⟨1, ⟨20, 25⟩, 1⟩] := put_seen (r := []) (by kernel_rfl) (by unfold Sorted; decide +kernel)
 rw [q3] at p3
 have fr := fire_ev 14 [⟨1, ⟨0, 9⟩, 2⟩, ⟨1, ⟨9, 14⟩, 1⟩, ⟨1, ⟨20, 25⟩, 1⟩] (by simp)
 have hs : Sorted [⟨1, ⟨0, 9⟩, 2⟩, ⟨1, ⟨9, 14⟩, 1⟩, ⟨1, ⟨20, 25⟩, 1⟩] := by unfold Sorted; decide +kernel
 rw [sortP_same hs] at fr
 have c1 := spansEq_ev [⟨0, 10⟩, ⟨4, 14⟩, ⟨8, 18⟩] (by simp)
 have c2 := panes_ev [⟨1, ⟨0, 9⟩, 2⟩, ⟨1, ⟨9, 14⟩, 1⟩, ⟨1, ⟨20, 25⟩, 1⟩] (by simp)
 have c3 := records_ev [⟨1, 8, 2⟩, ⟨1, 13, 1⟩] (by simp)
 have l4 : Ev (fun k => leatlaw11_known.l0 k [⟨0, 10⟩, ⟨4, 14⟩, ⟨8, 18⟩] [⟨1, ⟨0, 9⟩, 2⟩, ⟨1, ⟨9, 14⟩, 1⟩, ⟨1, ⟨20, 25⟩, 1⟩] [0, 4, 9, 20] 4 4 3 5 0) true := by
  refine Ev.step (fun k => by simp only [leatlaw11_known.l0]; rw [if_neg (by decide)]) ?_
  refine Ev.bind fr ?_
  refine Ev.bind s1 ?_
  refine Ev.bind c1 ?_
  refine Ev.congr (fun k => if_pos rfl) ?_
  refine Ev.bind c2 ?_
  refine Ev.congr (fun k => if_pos rfl) ?_
  have e3 : outR 14 [⟨1, ⟨0, 9⟩, 2⟩, ⟨1, ⟨9, 14⟩, 1⟩, ⟨1, ⟨20, 25⟩, 1⟩] = [⟨1, 8, 2⟩, ⟨1, 13, 1⟩] := by kernel_rfl
  have e4 : leftR 14 [⟨1, ⟨0, 9⟩, 2⟩, ⟨1, ⟨9, 14⟩, 1⟩, ⟨1, ⟨20, 25⟩, 1⟩] = [⟨1, ⟨20, 25⟩, 1⟩] := by kernel_rfl
  dsimp only
  rw [e3, e4]
  refine Ev.bind c3 ?_
  exact Ev.congr (fun k => by rfl) (Ev.now true)
 have st : ∀ (L L' : List S46) (i t : Int) (hi : i < 4) (h0 : 0 ≤ i) (hr : rd [0, 4, 9, 20] i = t), Ev (fun k => window_Put.f k 3 5 0 2 L 1 t 0) L' → Ev (fun k => leatlaw11_known.l0 k [⟨0, 10⟩, ⟨4, 14⟩, ⟨8, 18⟩] L' [0, 4, 9, 20] 4 (i + 1) 3 5 0) true →
   Ev (fun k => leatlaw11_known.l0 k [⟨0, 10⟩, ⟨4, 14⟩, ⟨8, 18⟩] L [0, 4, 9, 20] 4 i 3 5 0) true := by
  intro L L' i t hi h0 hr h1 h2
  refine Ev.step (fun k => by simp only [leatlaw11_known.l0]; rw [if_pos hi, if_pos h0, if_pos (by simpa using hi), hr, w_in (by omega)]) ?_
  exact Ev.bind h1 h2
 refine Ev.congr (fun k => by rw [leatlaw11_known.f]) (Ev.bind s2 (Ev.congr (fun k => Option.bind_some _ _) ?_))
 exact st _ _ 0 0 (by decide) (by decide) rfl p0 (st _ _ 1 4 (by decide) (by decide) rfl p1 (st _ _ 2 9 (by decide) (by decide) rfl p2 (st _ _ 3 20 (by decide) (by decide) rfl p3 l4)))
end Go.Proofs.Ytdinbnbogdadgaa.Th
namespace Go.Proofs.Ytdinbnbogdadgaa.Th
open Go.RowKit Go.Sort Go.Proofs.YtdinbnbogdadgaaW.PrintWords Go.Proofs.YtdinbnbogdadgaaW.PrintMore Go.Proofs.Ytdinbnbogdadgaa Go.Proofs.Ytdinbnbogdadgaa.So Go.Proofs.Ytdinbnbogdadgaa.X Go.Proofs.Ytdinbnbogdadgaa.Nf
set_option linter.unusedVariables false
set_option linter.unusedSimpArgs false
theorem no_hit_join {a : Int} {o p x : S46} (h1 : ¬ hitK 3 o p) (h2 : ¬ hitK 3 o x) (h : hitK 3 p x) : ¬ hitK 3 o (joinP a p x) := by
 unfold hitK at *
 rw [if_pos rfl, hitP_iff] at *
 show ¬ (p.f0 = o.f0 ∧ mn p.f1.f0 x.f1.f0 < o.f1.f1 ∧ o.f1.f0 < mx p.f1.f1 x.f1.f1 ∧ mn p.f1.f0 x.f1.f0 < mx p.f1.f1 x.f1.f1 ∧ o.f1.f0 < o.f1.f1)
 unfold mn mx
 (repeat' split) <;> omega
theorem absorbF_no (a : Int) (o : S46) : ∀ (k : Nat) (p : S46) (l : List S46), ¬ hitK 3 o p → (∀ x ∈ l, ¬ hitK 3 o x) → ¬ hitK 3 o (absorbF a k p l).1
 | 0, p, l, h1, h2 => h1
 | k + 1, p, l, h1, h2 => by
  rw [absorbF]
  cases hf : l.findIdx? (hitP p) with
  | none => exact h1
  | some i =>
   obtain ⟨hi, hh, _⟩ := List.findIdx?_eq_some_iff_getElem.1 hf
   refine absorbF_no a o k (joinP a p (l.getD i z46)) (l.eraseIdx i) ?_ (fun x hx => h2 x ((List.eraseIdx_sublist l i).subset hx))
   rw [getD_at hi]
   exact no_hit_join h1 (h2 _ (List.getElem_mem hi)) (by unfold hitK; rw [if_pos rfl]; exact hh)
theorem joinF_rs {a : Int} (ha : aggOk a = true) : ∀ (k : Nat) (rest out : List S46), rest.length ≤ k → NK 3 out → (∀ o ∈ out, ∀ x ∈ rest, ¬ hitK 3 o x) →
  RSk 3 a (out ++ rest) (joinF a k rest out) ∧ NK 3 (joinF a k rest out)
 | 0, rest, out, hk, hN, hX => by
  have : rest = [] := List.eq_nil_of_length_eq_zero (by omega)
  subst this
  rw [List.append_nil]
  exact ⟨.done (.refl _), hN⟩
 | k + 1, [], out, hk, hN, hX => by rw [List.append_nil]; exact ⟨.done (.refl _), hN⟩
 | k + 1, p :: rest, out, hk, hN, hX => by
  obtain ⟨h1, h2, h3, h4⟩ := absorb_rs a p rest
  have hlen := h3.length_le
  have hnew : ∀ o ∈ out, ¬ hitK 3 o (absorbP a p rest).1 := fun o ho => absorbF_no a o _ p rest (hX o ho p (by simp)) (fun x hx => hX o ho x (by simp [hx]))
  have hN2 : NK 3 (out ++ [(absorbP a p rest).1]) := by
   unfold NK Normal
   rw [List.pairwise_append]
   exact ⟨hN, List.pairwise_singleton _ _, fun o ho x hx => by rw [List.mem_singleton.1 hx]; exact hnew o ho⟩
  obtain ⟨h5, h6⟩ := joinF_rs ha k (absorbP a p rest).2 (out ++ [(absorbP a p rest).1]) (by simp at hk; omega) hN2 (fun o ho x hx => by
   rcases List.mem_append.1 ho with ho | ho
   ·exact hX o ho x (by simp [h3.subset hx])
   ·rw [List.mem_singleton.1 ho]; exact h2 x hx)
  rw [List.append_assoc, List.singleton_append] at h5
  exact ⟨RS.trans (RS.app2 h1 out) h5, h6⟩
theorem join_is {a : Int} (ha : aggOk a = true) (l : List S46) : Is 3 a l (sortP (joinF a l.length l [])) := by
 obtain ⟨h1, h2⟩ := joinF_rs ha l.length l [] (Nat.le_refl _) List.Pairwise.nil (fun o ho => absurd ho (by simp))
 exact Is.sort ha h1 h2
theorem join_ev (a : Int) (l : List S46) (h : l.length < 4398046511104) : window_Join.f a l = some (sortP (joinF a l.length l [])) := by rw [window_Join.f, if_pos h]
theorem sort_ev (l : List S46) (h : l.length < 4398046511104) : window_Sort.f l = some (sortP l) := by rw [window_Sort.f, if_pos h]
theorem rs_keys {kind a : Int} {x p : List S46} (h : RSk kind a x p) : ∀ q ∈ p, ∃ y ∈ x, y.f0 = q.f0 := by
 induction h with
 | done h => exact fun q hq => ⟨q, h.symm.subset hq, rfl⟩
 | step h1 h2 ih =>
  intro q hq
  obtain ⟨y, hy, e⟩ := ih q hq
  obtain ⟨u, v, r, e1, e2, e3⟩ := h1.out
  have hm := e3.subset hy
  rcases List.mem_cons.1 hm with rfl | hm
  ·exact ⟨u, e1.symm.subset (by simp), e⟩
  ·exact ⟨y, e1.symm.subset (by simp [hm]), e⟩
theorem agg_ok {a : Int} (h : ¬ a < 1) (h2 : ¬ a > 5) : aggOk a = true := by unfold aggOk; exact decide_eq_true (by omega)
theorem put_is {kind size slide a : Int} (ha : aggOk a = true) (hf : Fit kind size slide) {rs : List S37} {r : S37} {p : List S46} (h : Is kind a (ones a (spansP kind size slide) rs) p) (hr : I64 r.f2) :
  Is kind a (ones a (spansP kind size slide) (rs ++ [r])) (putL kind a r.f0 r.f2 (spansP kind size slide r.f1) p) := by
 rw [ones_snoc]; exact Is.put ha h r.f0 hr _
theorem is_len {kind size slide a : Int} {rs : List S37} {p : List S46} (h : Is kind a (ones a (spansP kind size slide) rs) p) : p.length ≤ rs.length * 64 :=
 Nat.le_trans (rs_len h.rs) (ones_len a _ 64 (spansP_len kind size slide) rs)
theorem take_snoc {l : List S37} {i : Nat} (h : i < l.length) : l.take (i + 1) = l.take i ++ [l[i]] := (List.take_append_getElem h).symm
theorem perm_r {A B l : List S37} {r : S37} (h : (A ++ B).Perm l) : (A ++ (B ++ [r])).Perm (l ++ [r]) := by
 rw [← List.append_assoc]; exact h.append_right _
theorem perm_l {A B l : List S37} {r : S37} (h : (A ++ B).Perm l) : ((A ++ [r]) ++ B).Perm (l ++ [r]) := by
 refine List.Perm.trans ?_ (h.append_right [r])
 rw [List.append_assoc, List.append_assoc]
 exact List.Perm.append_left A List.perm_append_comm
theorem len_of {A B : List S37} {l : List S37} {i : Nat} (h : (A ++ B).Perm (l.take i)) (hl : l.length ≤ 60) : A.length ≤ 60 ∧ B.length ≤ 60 := by
 have h1 := h.length_eq
 rw [List.length_append, List.length_take] at h1
 omega
theorem ones_app (a : Int) (sp : Int → List S31) (x y : List S37) : ones a sp (x ++ y) = ones a sp x ++ ones a sp y := by unfold ones; rw [List.flatMap_append]
theorem ones_key (a : Int) (sp : Int → List S31) {l : List S37} {q : S46} (h : q ∈ ones a sp l) : ∃ r ∈ l, r.f0 = q.f0 := by
 unfold ones at h
 obtain ⟨r, hr, h2⟩ := List.mem_flatMap.1 h
 obtain ⟨s, _, rfl⟩ := List.mem_map.1 h2
 exact ⟨r, hr, rfl⟩
end Go.Proofs.Ytdinbnbogdadgaa.Th
