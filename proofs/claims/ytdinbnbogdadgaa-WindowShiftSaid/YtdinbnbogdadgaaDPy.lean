/- The plain theory of panes: what joining keeps; records at any time at all. No conditions but those typed. -/
import Derived.Test.YtdinbnbogdadgaaB18
namespace Go.Proofs.Ytdinbnbogdadgaa.Th
open Go.RowKit Go.Sort Go.Proofs.YtdinbnbogdadgaaW.PrintWords Go.Proofs.YtdinbnbogdadgaaW.PrintMore Go.Proofs.Ytdinbnbogdadgaa Go.Proofs.Ytdinbnbogdadgaa.So Go.Proofs.Ytdinbnbogdadgaa.X Go.Proofs.Ytdinbnbogdadgaa.Nf
set_option linter.unusedVariables false
set_option linter.unusedSimpArgs false
theorem rs_all {kind a : Int} {P : S46 → Prop} (hj : ∀ x y, P x → P y → P (joinP a x y)) {x p : List S46} (h : RSk kind a x p) : (∀ y ∈ x, P y) → ∀ q ∈ p, P q := by
 induction h with
 | done h => exact fun hx q hq => hx q (h.symm.subset hq)
 | step h1 h2 ih =>
  intro hx
  refine ih (fun y hy => ?_)
  obtain ⟨u, v, r, e1, e2, e3⟩ := h1.out
  have hm := e3.subset hy
  rcases List.mem_cons.1 hm with rfl | hm
  ·exact hj u v (hx u (e1.symm.subset (by simp))) (hx v (e1.symm.subset (by simp)))
  ·exact hx y (e1.symm.subset (by simp [hm]))
theorem ev_unique {α : Type} {g : Nat → Option α} {a b : α} (h1 : Ev g a) (h2 : Ev g b) : a = b := by
 obtain ⟨K1, h1⟩ := h1
 obtain ⟨K2, h2⟩ := h2
 have e1 := h1 (max K1 K2) (Nat.le_max_left _ _)
 have e2 := h2 (max K1 K2) (Nat.le_max_right _ _)
 rw [e1] at e2
 exact Option.some.inj e2
theorem below_sp (t n : Int) (hn : 1 ≤ n) : ∃ v, window_below.f t n = some v := by
 unfold window_below.f
 rw [if_neg (by omega)]
 split <;> exact ⟨_, rfl⟩
theorem spans_any_l (kind size slide t : Int) (n : Nat) : ∀ (x : List S31) (s : Int), x.length + n = 64 → Sp (fun r => r.length ≤ 64) (fun k => window_Spans.l0 k t x s kind size slide) := by
 induction n with
 | zero =>
  intro x s hx
  have hrev := rev_ev x (by omega)
  refine ⟨x.reverse, by simp; omega, ?_⟩
  by_cases hc : wrap64 (s + size) > t
  ·refine Ev.step (fun k => ?_) (Ev.bind hrev (Ev.now _))
   simp only [window_Spans.l0]
   rw [if_pos hc, if_neg (by omega)]
  ·refine Ev.step (fun k => ?_) (Ev.bind hrev (Ev.now _))
   simp only [window_Spans.l0]
   rw [if_neg hc]
 | succ n ih =>
  intro x s hx
  by_cases hc : wrap64 (s + size) > t
  ·obtain ⟨r, hr, hev⟩ := ih (x ++ [⟨s, wrap64 (s + size)⟩]) (wrap64 (s - slide)) (by simp; omega)
   refine ⟨r, hr, Ev.step (fun k => ?_) hev⟩
   simp only [window_Spans.l0]
   rw [if_pos hc, if_pos (by omega), if_pos (by omega)]
  ·have hrev := rev_ev x (by omega)
   refine ⟨x.reverse, by simp; omega, Ev.step (fun k => ?_) (Ev.bind hrev (Ev.now _))⟩
   simp only [window_Spans.l0]
   rw [if_neg hc]
theorem spans_any {kind size slide : Int} (hf : Fit kind size slide) (t : Int) : Sp (fun r => r.length ≤ 64) (fun k => window_Spans.f k kind size slide t) := by
 have hs1 := hf.s1
 have e : ∀ k, window_Spans.f k kind size slide t = window_Spans.j0 k t false kind size slide := fun k => by
  rw [window_Spans.f, if_neg (by omega)]
  by_cases h2 : kind = 2
  ·have := hf.sl h2
   rw [if_pos h2, decide_eq_false (by omega)]
  ·rw [if_neg h2]
 by_cases h1 : kind = 1
 ·obtain ⟨v, hv⟩ := below_sp t size hs1
  refine ⟨[⟨v, wrap64 (v + size)⟩], by simp, Ev.congr e (Ev.step (f := fun _ => some _) (fun k => ?_) (Ev.now _))⟩
  simp only [window_Spans.j0]
  rw [if_neg (by simp), if_pos h1, hv, Option.bind_some]
 ·by_cases h3 : kind = 3
  ·refine ⟨[⟨t, wrap64 (t + size)⟩], by simp, Ev.congr e (Ev.step (f := fun _ => some _) (fun k => ?_) (Ev.now _))⟩
   simp only [window_Spans.j0]
   rw [if_neg (by simp), if_neg h1, if_pos h3]
  ·have h2 : kind = 2 := by have := hf.k1; have := hf.k3; omega
   obtain ⟨v, hv⟩ := below_sp t slide (hf.sl h2).1
   obtain ⟨r, hr, hev⟩ := spans_any_l kind size slide t 64 [] v rfl
   refine ⟨r, hr, Ev.congr e (Ev.step (fun k => ?_) hev)⟩
   simp only [window_Spans.j0]
   rw [if_neg (by simp), if_neg h1, if_neg h3, if_pos h2, hv, Option.bind_some]
noncomputable def spX {kind size slide : Int} (hf : Fit kind size slide) (t : Int) : List S31 := Classical.choose (spans_any hf t)
theorem spX_len {kind size slide : Int} (hf : Fit kind size slide) (t : Int) : (spX hf t).length ≤ 64 := (Classical.choose_spec (spans_any hf t)).1
theorem spX_ev {kind size slide : Int} (hf : Fit kind size slide) (t : Int) : Ev (fun k => window_Spans.f k kind size slide t) (spX hf t) := (Classical.choose_spec (spans_any hf t)).2
theorem spX_ok {kind size slide : Int} (hf : Fit kind size slide) {t : Int} (ht : TimeOk t) : spX hf t = spansP kind size slide t := ev_unique (spX_ev hf t) (spans_ev hf ht)
theorem putX_ev {kind size slide : Int} (hf : Fit kind size slide) (t a key val : Int) (l : List S46) (hl : l.length < 4398046511000) :
  Ev (fun k => window_Put.f k kind size slide a l key t val) (putL kind a key val (spX hf t) l) := by
 refine Ev.congr (fun k => by rw [window_Put.f]) (Ev.bind (f := fun k ss => if l.length + ss.length < 4398046511104 then some (sortP (ss.foldl (stepP kind a key val) l)) else none) (spX_ev hf t) ?_)
 have := spX_len hf t
 refine Ev.congr (fun k => by rw [if_pos (by omega)]; rfl) (Ev.now _)
theorem isX_len {kind size slide a : Int} (hf : Fit kind size slide) {rs : List S37} {p : List S46} (h : Is kind a (ones a (spX hf) rs) p) : p.length ≤ rs.length * 64 :=
 Nat.le_trans (rs_len h.rs) (ones_len a _ 64 (spX_len hf) rs)
theorem putX_is {kind size slide a : Int} (ha : aggOk a = true) (hf : Fit kind size slide) {rs : List S37} {r : S37} {p : List S46} (h : Is kind a (ones a (spX hf) rs) p) (hr : I64 r.f2) :
  Is kind a (ones a (spX hf) (rs ++ [r])) (putL kind a r.f0 r.f2 (spX hf r.f1) p) := by
 rw [ones_snoc]; exact Is.put ha h r.f0 hr _
theorem ones_all {a : Int} {sp : Int → List S31} {rs : List S37} {P : S46 → Prop} (h : ∀ r ∈ rs, ∀ s ∈ sp r.f1, P (one a r.f0 r.f2 s)) : ∀ x ∈ ones a sp rs, P x := by
 intro x hx
 unfold ones at hx
 obtain ⟨r, hr, h2⟩ := List.mem_flatMap.1 hx
 obtain ⟨s, hs, rfl⟩ := List.mem_map.1 h2
 exact h r hr s hs
theorem back_all {size slide t : Int} {P : S31 → Prop} (hP : ∀ s, P ⟨s, s + size⟩) : ∀ (n : Nat) (s : Int), ∀ x ∈ backL size slide t n s, P x
 | 0, s, x, hx => by simp [backL] at hx
 | n + 1, s, x, hx => by
  rw [backL] at hx
  split at hx
  ·rcases List.mem_cons.1 hx with rfl | hx
   ·exact hP s
   ·exact back_all hP n _ x hx
  ·simp at hx
theorem spansP_size (kind size slide t : Int) : ∀ s ∈ spansP kind size slide t, s.f1 = s.f0 + size := by
 unfold spansP
 split
 ·simp
 ·split
  ·simp
  ·intro s hs
   rw [List.mem_reverse] at hs
   exact back_all (P := fun s => s.f1 = s.f0 + size) (fun s => rfl) _ _ s hs
end Go.Proofs.Ytdinbnbogdadgaa.Th
