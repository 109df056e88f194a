/- WindowSpans in plain Lean: a time falls into just the document's spans, each of which has it. No conditions but those typed. -/
import Derived.Test.YtdinbnbogdadgaaDSayWindowSpans
import Derived.Test.YtdinbnbogdadgaaDPs
namespace Go.Proofs.Ytdinbnbogdadgaa.Pure
open Go.RowKit Go.Sort Go.Proofs.YtdinbnbogdadgaaW.PrintWords Go.Proofs.YtdinbnbogdadgaaW.PrintMore Go.Proofs.Ytdinbnbogdadgaa Go.Proofs.Ytdinbnbogdadgaa.So Go.Proofs.Ytdinbnbogdadgaa.X Go.Proofs.Ytdinbnbogdadgaa.Nf Go.Proofs.Ytdinbnbogdadgaa.Th Go.Proofs.Ytdinbnbogdadgaa.Op
set_option linter.unusedVariables false
set_option linter.unusedSimpArgs false
theorem back_get (size slide t : Int) : ∀ (n : Nat) (s : Int) (i : Nat) (h : i < (backL size slide t n s).length), ((backL size slide t n s)[i]).f0 = s - (i : Int) * slide
 | 0, s, i, h => by simp [backL] at h
 | n + 1, s, i, h => by
  by_cases hc : s + size > t
  ·have e : backL size slide t (n + 1) s = ⟨s, s + size⟩ :: backL size slide t n (s - slide) := by rw [backL, if_pos hc]
   simp only [e] at h ⊢
   cases i with
   | zero => simp
   | succ i =>
    rw [List.getElem_cons_succ, back_get size slide t n (s - slide) i (by simpa using h)]
    rw [Int.natCast_succ, Int.add_mul, Int.one_mul]; omega
  ·have e : backL size slide t (n + 1) s = [] := by rw [backL, if_neg hc]
   simp only [e] at h
   simp at h
theorem back_near (size slide t : Int) (hsl : 1 ≤ slide) : ∀ (n : Nat) (u : Int), u ≤ t → ∀ s ∈ backL size slide t n u, s.f0 ≤ t ∧ t < s.f1 ∧ s.f1 = s.f0 + size
 | 0, u, hu, s, hs => by simp [backL] at hs
 | n + 1, u, hu, s, hs => by
  rw [backL] at hs
  by_cases hc : u + size > t
  ·rw [if_pos hc] at hs
   rcases List.mem_cons.1 hs with rfl | hs
   ·show u ≤ t ∧ t < u + size ∧ u + size = u + size; omega
   ·exact back_near size slide t hsl n _ (by omega) s hs
  ·rw [if_neg hc] at hs; simp at hs
structure Good (size slide t : Int) (l : List S31) : Prop where
 a : ∀ s ∈ l, s.f0 ≤ t ∧ t < s.f1 ∧ s.f1 = s.f0 + size
 b : ∀ i (h : i < l.length) (h0 : 0 < i), l[i].f0 - (l[i - 1]'(by omega)).f0 = slide
theorem good_ev (kind size slide t : Int) (hsz : 1 ≤ size ∧ size ≤ 68719476736) (ht : TimeOk t) (l : List S31) (hl : l.length ≤ 64) (hk : kind = 2 ∨ l.length = 1) (hg : Good size slide t l) (hsl : slide ≤ 68719476736) : ∀ (d i : Nat), l.length = i + d →
  Ev (fun k => leatlaw11_WindowSpans.l0 k t l (i : Int) kind size slide) true
 | 0, i, h => by
  refine Ev.step (f := fun _ => some true) (fun k => ?_) (Ev.now _)
  simp only [leatlaw11_WindowSpans.l0]
  rw [if_neg (by omega)]
  by_cases k2 : kind = 2
  ·rw [if_pos k2]
  ·rw [if_neg k2]
   rcases hk with hk | hk
   ·exact absurd hk k2
   ·rw [hk]; rfl
 | d + 1, i, h => by
  have hlt : i < l.length := by omega
  have hw := step_i hlt (by omega)
  have ha := hg.a _ (List.getElem_mem hlt)
  unfold TimeOk at ht
  have ih := good_ev kind size slide t hsz ht l hl hk hg hsl d (i + 1) (by omega)
  have hsize : wrap64 (l[i].f1 - l[i].f0) = size := by rw [w_in (by omega)]; omega
  refine Ev.step (fun k => ?_) ih
  simp only [leatlaw11_WindowSpans.l0]
  rw [if_pos (by omega), if_pos (by omega), rd31_at hlt, if_neg (by omega), if_neg (by omega), hsize, if_pos rfl]
  by_cases h0 : 0 < i
  ·have hl1 : i - 1 < l.length := by omega
   have hb := hg.b i hlt h0
   have ha1 := hg.a _ (List.getElem_mem hl1)
   have hw1 : wrap64 ((i : Int) - 1) = ((i - 1 : Nat) : Int) := by rw [w_in (by omega)]; omega
   rw [if_pos (by omega), hw1, if_pos (by omega), if_pos (by omega), rd31_at hl1, w_in (show _ by omega), if_pos hb, hw]
  ·rw [if_neg (by omega), hw]
theorem WindowSpans : Go.Proofs.Ytdinbnbogdadgaa.Op.WindowSpansPure := by
 intro kind size slide t w1 w2 w3 w4
 refine Ev.rounds (g := fun k => leatlaw11_WindowSpans.f k kind size slide t) ?_
 have jt : Ev (fun k => leatlaw11_WindowSpans.j0 k t true kind size slide) true := Ev.step (f := fun _ => some true) (fun k => by simp only [leatlaw11_WindowSpans.j0]; exact if_pos trivial) (Ev.now _)
 refine Ev.congr (fun k => by rw [leatlaw11_WindowSpans.f]) (Ev.bind known_ev (Ev.congr (fun k => if_pos rfl) ?_))
 obtain ⟨b, hb, hfit⟩ := fit_sp kind size slide
 refine Ev.bind hfit ?_
 cases b with
 | false => exact Ev.congr (fun k => if_neg (by simp)) jt
 | true =>
  have hf := hb rfl
  refine Ev.congr (fun k => if_pos rfl) (Ev.congr (fun k => by rw [time_eq, Option.bind_some]) ?_)
  by_cases ht : TimeOk t
  ·rw [decide_eq_true ht]
   have hs1 := hf.s1
   have hs2 := hf.s2
   have hsp := spans_ev hf ht
   have hrs := rspans_ev hf ht
   have hlen := spansP_len kind size slide t
   have hc := spansEq_ev (spansP kind size slide t) (by omega)
   have main : Ev (fun k => leatlaw11_WindowSpans.l0 k t (spansP kind size slide t) 0 kind size slide) true := by
    by_cases k1 : kind = 1
    ·have e : spansP kind size slide t = [⟨fl t size, fl t size + size⟩] := by rw [spansP, if_pos k1]
     have hbo := fl_bounds t size hs1
     rw [e]
     refine good_ev kind size slide t ⟨hs1, hs2⟩ ht _ (by simp) (.inr rfl) ⟨fun s hs => ?_, fun i h h0 => by simp at h; omega⟩ (by have := hf.no (by omega); omega) 1 0 rfl
     rw [List.mem_singleton.1 hs]
     show fl t size ≤ t ∧ t < fl t size + size ∧ _
     exact ⟨by omega, by omega, rfl⟩
    ·by_cases k3 : kind = 3
     ·have e : spansP kind size slide t = [⟨t, t + size⟩] := by rw [spansP, if_neg k1, if_pos k3]
      rw [e]
      refine good_ev kind size slide t ⟨hs1, hs2⟩ ht _ (by simp) (.inr rfl) ⟨fun s hs => ?_, fun i h h0 => by simp at h; omega⟩ (by have := hf.no (by omega); omega) 1 0 rfl
      rw [List.mem_singleton.1 hs]
      show t ≤ t ∧ t < t + size ∧ _
      exact ⟨by omega, by omega, rfl⟩
     ·have k2 : kind = 2 := by have := hf.k1; have := hf.k3; omega
      have hsl := hf.sl k2
      have hbo := fl_bounds t slide hsl.1
      have e : spansP kind size slide t = (backL size slide t 64 (fl t slide)).reverse := by rw [spansP, if_neg k1, if_neg k3]
      rw [e] at hlen ⊢
      refine good_ev kind size slide t ⟨hs1, hs2⟩ ht _ hlen (.inl k2) ⟨fun s hs => back_near size slide t hsl.1 64 _ (by omega) s (List.mem_reverse.1 hs), fun i h h0 => ?_⟩ hsl.2.1 _ 0 (Nat.zero_add _).symm
      rw [List.length_reverse] at h
      rw [List.getElem_reverse, List.getElem_reverse, back_get, back_get]
      have e1 : (((backL size slide t 64 (fl t slide)).length - 1 - (i - 1) : Nat) : Int) = (((backL size slide t 64 (fl t slide)).length - 1 - i : Nat) : Int) + 1 := by omega
      rw [e1, Int.add_mul, Int.one_mul]; omega
   refine Ev.step (f := fun k => (window_Spans.f k kind size slide t).bind fun t207 => (leatref11_Spans.f k kind size slide t).bind fun t210 => (leathelp_Spans.f k t207 t210).bind fun t213 => if t213 = true then leatlaw11_WindowSpans.l0 k t t207 0 kind size slide else none) (fun k => by simp only [leatlaw11_WindowSpans.j0]; exact if_neg (by simp)) ?_
   refine Ev.bind hsp ?_
   refine Ev.bind hrs ?_
   refine Ev.bind hc ?_
   exact Ev.congr (fun k => if_pos rfl) main
  ·rw [decide_eq_false ht]; exact jt
end Go.Proofs.Ytdinbnbogdadgaa.Pure
