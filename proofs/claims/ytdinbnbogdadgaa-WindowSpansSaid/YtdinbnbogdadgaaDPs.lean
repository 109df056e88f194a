/- The document's spans, in plain Lean. No conditions but those typed. -/
import Derived.Test.YtdinbnbogdadgaaDPy
import Derived.Test.YtdinbnbogdadgaaDXf17
namespace Go.Proofs.Ytdinbnbogdadgaa.Th
open Go.RowKit Go.Sort Go.Proofs.YtdinbnbogdadgaaW.PrintWords Go.Proofs.YtdinbnbogdadgaaW.PrintMore Go.Proofs.Ytdinbnbogdadgaa Go.Proofs.Ytdinbnbogdadgaa.So Go.Proofs.Ytdinbnbogdadgaa.X Go.Proofs.Ytdinbnbogdadgaa.Nf
set_option linter.unusedVariables false
set_option linter.unusedSimpArgs false
theorem back_stop (size slide t : Int) (m : Nat) : ∀ (n : Nat) (s : Int), s + size - (n : Int) * slide ≤ t → backL size slide t (n + m) s = backL size slide t n s
 | 0, s, h => by
  have h' : ¬ s + size > t := by simp at h; omega
  rw [Nat.zero_add]
  cases m with
  | zero => rfl
  | succ m =>
   show (if s + size > t then _ else _) = _
   rw [if_neg h']; rfl
 | n + 1, s, h => by
  rw [show n + 1 + m = (n + m) + 1 by omega, backL, backL]
  by_cases hc : s + size > t
  ·rw [if_pos hc, if_pos hc, back_stop size slide t m n (s - slide) (by rw [Int.natCast_succ, Int.add_mul, Int.one_mul] at h; omega)]
  ·rw [if_neg hc, if_neg hc]
theorem rspans_l1 (x : List S31) (hx : x.length ≤ 200) : ∀ (n : Nat) (y : List S31), n ≤ x.length → y.length + n ≤ 400 → Ev (fun k => leatref11_Spans.l1 k x y ((n : Int) - 1)) (y ++ (x.take n).reverse)
 | 0, y, hn, hy => by
  rw [List.take_zero, List.reverse_nil, List.append_nil]
  refine Ev.step (f := fun _ => some y) (fun k => ?_) (Ev.now _)
  simp only [leatref11_Spans.l1]
  rw [if_neg (by omega)]
 | n + 1, y, hn, hy => by
  have hlt : n < x.length := by omega
  have ih := rspans_l1 x hx n (y ++ [x[n]]) (by omega) (by simp; omega)
  rw [← List.take_append_getElem hlt, List.reverse_append]
  rw [List.append_assoc] at ih
  refine Ev.step (fun k => ?_) ih
  simp only [leatref11_Spans.l1]
  rw [if_pos (by omega), if_pos (by omega), if_pos (by omega), if_pos (by omega), show ((n + 1 : Nat) : Int) - 1 = (n : Int) by omega, rd31_at hlt, w_in (by omega)]
theorem rspans_j1 (x : List S31) (hx : x.length ≤ 200) : Ev (fun k => leatref11_Spans.j1 k x) x.reverse := by
 have h := rspans_l1 x hx x.length [] (Nat.le_refl _) (by simp; omega)
 rw [List.take_length, List.nil_append] at h
 refine Ev.step (fun k => ?_) h
 simp only [leatref11_Spans.j1]
 rw [w_in (by omega)]
theorem rspans_l (kind size slide t : Int) (hs : 1 ≤ size ∧ size ≤ 68719476736) (hsl : 1 ≤ slide ∧ slide ≤ 68719476736) (ht : TimeOk t) (n : Nat) : ∀ (x : List S31) (s : Int), x.length + n = 200 → -1125899906842624 - 68719476736 * 201 + 68719476736 * (n : Int) ≤ s → s ≤ t →
  Ev (fun k => leatref11_Spans.l0 k t x s kind size slide) (x ++ backL size slide t n s).reverse := by
 unfold TimeOk at ht
 induction n with
 | zero =>
  intro x s hx h1 h2
  have hw : wrap64 (s + size) = s + size := w_in (by omega)
  have hrev := rspans_j1 x (by omega)
  rw [show backL size slide t 0 s = [] from rfl, List.append_nil]
  by_cases hc : s + size > t
  ·refine Ev.step (fun k => ?_) hrev
   simp only [leatref11_Spans.l0]
   rw [hw, if_pos hc, if_neg (by omega)]
  ·refine Ev.step (fun k => ?_) hrev
   simp only [leatref11_Spans.l0]
   rw [hw, if_neg hc]
 | succ n ih =>
  intro x s hx h1 h2
  have hw : wrap64 (s + size) = s + size := w_in (by omega)
  by_cases hc : s + size > t
  ·rw [backL, if_pos hc]
   have ih := ih (x ++ [⟨s, s + size⟩]) (s - slide) (by simp; omega) (by omega) (by omega)
   rw [List.append_assoc, List.singleton_append] at ih
   refine Ev.step (fun k => ?_) ih
   simp only [leatref11_Spans.l0]
   rw [hw, if_pos hc, if_pos (by omega), if_pos (by omega), w_in (show -9223372036854775808 ≤ s - slide ∧ s - slide ≤ 9223372036854775807 by omega)]
  ·have hrev := rspans_j1 x (by omega)
   rw [backL, if_neg hc, List.append_nil]
   refine Ev.step (fun k => ?_) hrev
   simp only [leatref11_Spans.l0]
   rw [hw, if_neg hc]
theorem rspans_ev {kind size slide t : Int} (hf : Fit kind size slide) (ht : TimeOk t) : Ev (fun k => leatref11_Spans.f k kind size slide t) (spansP kind size slide t) := by
 have hs1 := hf.s1
 have hs2 := hf.s2
 have ht' := ht
 unfold TimeOk at ht'
 by_cases h1 : kind = 1
 ·have hb := floor_eq ht (n := size) ⟨hs1, hs2⟩
  have hbo := fl_bounds t size hs1
  refine Ev.congr (g := fun k => leatref11_Spans.f k kind size slide t) (f := fun _ => some (spansP kind size slide t)) (fun k => ?_) (Ev.now _)
  rw [leatref11_Spans.f, if_pos h1, hb, Option.bind_some, w_in (show _ by omega), spansP, if_pos h1]
 ·by_cases h3 : kind = 3
  ·refine Ev.congr (g := fun k => leatref11_Spans.f k kind size slide t) (f := fun _ => some (spansP kind size slide t)) (fun k => ?_) (Ev.now _)
   rw [leatref11_Spans.f, if_neg h1, if_pos h3, w_in (show _ by omega), spansP, if_neg h1, if_pos h3]
  ·have h2 : kind = 2 := by have := hf.k1; have := hf.k3; omega
   have hsl := hf.sl h2
   have hb := floor_eq ht (n := slide) ⟨hsl.1, hsl.2.1⟩
   have hbo := fl_bounds t slide hsl.1
   have hl := rspans_l kind size slide t ⟨hs1, hs2⟩ ⟨hsl.1, hsl.2.1⟩ ht 200 [] (fl t slide) rfl (by omega) (by omega)
   rw [List.nil_append, show (200 : Nat) = 64 + 136 from rfl, back_stop size slide t 136 64 _ (by omega)] at hl
   rw [spansP, if_neg h1, if_neg h3]
   refine Ev.congr (fun k => ?_) hl
   rw [leatref11_Spans.f, if_neg h1, if_neg h3, hb, Option.bind_some]
end Go.Proofs.Ytdinbnbogdadgaa.Th
