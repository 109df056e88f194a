/- What is asked of the law JobHeavy, in plain Lean. No conditions. -/
import Derived.Test.YtpbmfdbfimcpjaaMJobHeavy14
import Derived.Test.YtpbmfdbfimcpjaaMJobHeavy13
import Derived.Test.YtpbmfdbfimcpjaaMJobHeavy11
import Derived.Test.YtpbmfdbfimcpjaaMJobHeavy12
namespace Go.Proofs.Ytpbmfdbfimcpjaa.Op
open Go.RowKit Go.Proofs.YtpbmfdbfimcpjaaW.PrintWords Go.Proofs.Ytpbmfdbfimcpjaa.X
def JobHeavyPure : Prop := ∀ (l0 : List Int), (l0.length * 1 ≤ 140737488351232 ∧ l0.length ≤ 9223372036854775807 ∧ ∀ x ∈ l0, (Lit.int .u8 x).wf = true) → ∃ k, leatlaw8_JobHeavy.f k l0 = some true
end Go.Proofs.Ytpbmfdbfimcpjaa.Op
namespace Go.Proofs.Ytpbmfdbfimcpjaa.Pure
open Go.RowKit Go.Proofs.YtpbmfdbfimcpjaaW.PrintWords Go.Proofs.Ytpbmfdbfimcpjaa.X Go.Proofs.Ytpbmfdbfimcpjaa.Op
set_option linter.unusedVariables false
set_option linter.unusedSimpArgs false
structure PCh (N : Nat) (b : List S38) (w : List Int) : Prop where
  len : b.length = w.length
  one : 1 ≤ b.length
  nd : ∀ i (h : i < b.length), Nd N i (w.getD (i - 1) 0) b[i] (w.getD i 0)
  wb : ∀ x ∈ w, 1 ≤ x ∧ x ≤ 65
theorem PCh.wp {N : Nat} {b : List S38} {w : List Int} (c : PCh N b w) {i : Nat} (h : i < b.length) : 1 ≤ w.getD i 0 ∧ w.getD i 0 ≤ 65 := by
  have hw := c.len
  rw [wrd (by omega)]; exact c.wb _ (List.getElem_mem _)
theorem getD_left {w : List Int} {x : Int} {i : Nat} (h : i < w.length) : (w ++ [x]).getD i 0 = w.getD i 0 := by
  rw [List.getD_eq_getElem?_getD, List.getElem?_append_left h, ← List.getD_eq_getElem?_getD]
theorem getD_last {w : List Int} {x : Int} {i : Nat} (h : i = w.length) : (w ++ [x]).getD i 0 = x := by
  subst h; simp
theorem PCh.more {N : Nat} {b : List S38} {w : List Int} (c : PCh N b w) {i : Nat} (hi : b.length = i + 1) {x : S38} {wc : Int} (h : Nd N (i + 1) (w.getD i 0) x wc) : PCh N (b ++ [x]) (w ++ [wc]) := by
  have hl := c.len
  have hp := c.wp (show i < b.length by omega)
  refine ⟨by simp [hl], by simp, fun j hj => ?_, fun y hy => ?_⟩
  · rw [List.length_append, List.length_singleton] at hj
    rcases Nat.lt_or_ge j b.length with h1 | h1
    · rw [getD_left (show j - 1 < w.length by omega), getD_left (show j < w.length by omega), List.getElem_append_left h1]
      exact c.nd j h1
    · obtain rfl : j = i + 1 := by omega
      rw [getD_left (show i + 1 - 1 < w.length by omega), getD_last (by omega)]
      have e : (b ++ [x])[i + 1] = x := by
        rw [List.getElem_append_right (by omega)]; simp [hi]
      rw [e]; exact h
  · rcases List.mem_append.1 hy with hy | hy
    · exact c.wb y hy
    · obtain rfl : y = wc := by simpa using hy
      exact nd_le h hp.1 hp.2
theorem mn_gt (a : Int) : (decide (mn a 65 > 64)) = decide (a > 64) := by
  unfold mn; split <;> simp <;> omega
theorem u8_in {x : Int} (h : (Lit.int .u8 x).wf = true) : 0 ≤ x ∧ x ≤ 255 := by
  simp only [Lit.wf, IntKind.min, IntKind.max, IntKind.signed, IntKind.bits, Bool.and_eq_true, decide_eq_true_eq] at h
  simpa using h
theorem tdm {v : Int} (h : 0 ≤ v) (h' : v ≤ 255) (a b : Int) (ha : 1 ≤ a) (hb : 1 ≤ b) (hb' : b ≤ 100) : 0 ≤ Int.tmod (wrap64 (Int.tdiv v a)) b ∧ Int.tmod (wrap64 (Int.tdiv v a)) b < b := by
  have h1 : 0 ≤ Int.tdiv v a := Int.tdiv_nonneg h (by omega)
  have h2 : Int.tdiv v a ≤ v := by
    rw [Int.tdiv_eq_ediv_of_nonneg h]; exact Int.ediv_le_self a h
  rw [X.wrap_small (by omega) (by omega)]
  exact ⟨Int.tmod_nonneg b h1, Int.tmod_lt_of_pos _ (by omega)⟩
section
variable (x0 : List Int) (hx : x0.length ≤ 9) (h8 : ∀ x ∈ x0, 0 ≤ x ∧ x ≤ 255)
include hx h8
theorem heavy_loop : ∀ (m i : Nat) (b : List S38) (w : List Int), x0.length = i + m → PCh (x0.length + 2) b w → b.length = i + 1 →
    Ev (fun k => leatlaw8_JobHeavy.l0 k x0 (w.getD i 0) (w.any fun x => decide (x > 64)) (i : Int) b) true
  | 0, i, b, w, hi, c, hb => by
    have hwl := c.len
    have hp := c.wp (show i < b.length by omega)
    refine Ev.step (f := ?f1) (fun k => ?h1) ?r1
    case h1 => conv => lhs; rw [leatlaw8_JobHeavy.l0, if_neg (by omega), if_pos (by omega)]
    have hs : Nd (x0.length + 2) (i + 1) (w.getD i 0) ⟨8, [(i : Int)], 1, e0, 0, q0⟩ (w.getD i 0) := Nd.snk i _ (by omega)
    have c2 := c.more hb hs
    have e : x0.length = i := by omega
    rw [e]
    have ch : Ch (b ++ [⟨8, [(i : Int)], 1, e0, 0, q0⟩]) (w ++ [w.getD i 0]) := ⟨by simp; omega, by simp; omega, by simp; omega, fun j hj => by
      have hN : (b ++ [(⟨8, [(i : Int)], 1, e0, 0, q0⟩ : S38)]).length = x0.length + 2 := by simp; omega
      rw [hN]; exact c2.nd j hj, c2.wb⟩
    have hany : ((w ++ [w.getD i 0]).any fun x => decide (x > 64)) = (w.any fun x => decide (x > 64)) := by
      rw [List.any_append]
      by_cases hh : w.getD i 0 > 64
      · have : (w.any fun x => decide (x > 64)) = true := List.any_eq_true.2 ⟨w.getD i 0, by rw [wrd (by omega)]; exact List.getElem_mem _, by simpa using hh⟩
        rw [this]; rfl
      · have e1 : ([w.getD i 0].any fun x => decide (x > 64)) = false := by simp only [List.any_cons, List.any_nil, Bool.or_false]; exact decide_eq_false hh
        rw [e1, Bool.or_false]
    have hck := chain_Check ch ⟨_, List.mem_append_right _ (List.mem_singleton.2 rfl), rfl⟩
    rw [hany] at hck
    have hle : (w ++ [w.getD i 0]).length = (b ++ [(⟨8, [(i : Int)], 1, e0, 0, q0⟩ : S38)]).length := by simp [hwl]
    refine Ev.bind (a := b ++ [⟨8, [(i : Int)], 1, e0, 0, q0⟩]) (Ev.now _) ?_
    refine Ev.bind (chain_Weights ch) ?_
    refine Ev.bind hck ?_
    have hints := ints_same (w ++ [w.getD i 0]) (by simp; omega)
    cases hv : (w.any fun x => decide (x > 64)) with
    | true =>
      refine ev_pos (by simp) (ev_pos (by rw [hle]) (ev_pos rfl ?_))
      exact Ev.bind (chain_Weights8 ch) (Ev.bind hints (Ev.now _))
    | false =>
      refine ev_pos (by simp) (ev_pos (by rw [hle]) (ev_neg (by decide) ?_))
      have hw1 : wrap64 (((w ++ [w.getD i 0]).length : Int) - 1) = (w.length : Int) := by rw [List.length_append, List.length_singleton]; unfold wrap64; omega
      refine ev_pos (by rw [hw1]; omega) (ev_pos (by rw [hw1, List.length_append, List.length_singleton]; omega) (ev_pos ?_ ?_))
      · rw [hw1]; show (w ++ [w.getD i 0]).getD _ 0 = _; exact getD_last (by simp)
      · exact Ev.bind (chain_Weights8 ch) (Ev.bind hints (Ev.now _))
  | m + 1, i, b, w, hi, c, hb => by
    have hwl := c.len
    have hlt : i < x0.length := by omega
    have hp := c.wp (show i < b.length by omega)
    have hst : wrap64 ((i : Int) + 1) = ((i + 1 : Nat) : Int) := step_i hlt (by omega)
    have hv := h8 _ (List.getElem_mem hlt)
    -- what every branch ends in
    have fin : ∀ (a : Int) (x : S38), Nd (x0.length + 2) (i + 1) (w.getD i 0) x (mn a 65) → Ev (fun k => if (w.any fun x => decide (x > 64)) = true then (if b.length < 1256584717458 then (leatlaw8_JobHeavy.l0 k x0 (mn a 65) true (wrap64 ((i : Int) + 1)) (b ++ [x])) else none) else (if b.length < 1256584717458 then (leatlaw8_JobHeavy.l0 k x0 (mn a 65) (decide (a > 64)) (wrap64 ((i : Int) + 1)) (b ++ [x])) else none)) true := by
      intro a x hn
      have ih := heavy_loop m (i + 1) (b ++ [x]) (w ++ [mn a 65]) (by omega) (c.more hb hn) (by simp [hb])
      rw [getD_last (by omega), List.any_append] at ih
      rw [hst]
      cases hva : (w.any fun x => decide (x > 64)) with
      | true => rw [hva] at ih; exact ev_pos rfl (ev_pos (by omega) ih)
      | false =>
        rw [hva] at ih
        have e : ([mn a 65].any fun x => decide (x > 64)) = decide (a > 64) := by simp only [List.any_cons, List.any_nil, Bool.or_false]; exact mn_gt a
        rw [e, Bool.false_or] at ih
        exact ev_neg (by decide) (ev_pos (by omega) ih)
    refine Ev.step (f := ?f2) (fun k => ?h2) ?r2
    case h2 => conv => lhs; rw [leatlaw8_JobHeavy.l0, if_pos (by omega), rd_at hlt, X.wrap_small (x := x0[i]) (by omega) (by omega)]
    generalize x0[i] = v at hv
    refine Ev.bind (a := [(i : Int)]) (Ev.now _) (ev_pos (by omega) ?_)
    by_cases h0 : Int.tmod v 3 = 0
    · refine ev_pos h0 ?_
      have hq := tdm hv.1 hv.2 3 4 (by omega) (by omega) (by omega)
      generalize hqq : Int.tmod (wrap64 (Int.tdiv v 3)) 4 = q at hq
      have inner : ∀ (n j : Nat), q + 1 = ((j + n : Nat) : Int) → Ev (fun k => leatlaw8_JobHeavy.l1 k x0 (w.getD i 0) (w.any fun x => decide (x > 64)) (i : Int) v (j : Int) b 5 (List.replicate j (i : Int)) 1 0 0 0 0 0 0) true := by
        intro n
        induction n with
        | zero =>
          intro j hj
          refine Ev.step (f := ?f3) (fun k => ?h3) ?r3
          case h3 => conv => lhs; rw [leatlaw8_JobHeavy.l1, hqq, if_neg (by omega), List.length_replicate]
          exact fin _ _ (Nd.uni i j _ (by omega) (by omega) (by omega))
        | succ n ih =>
          intro j hj
          refine Ev.step (f := ?f4) (fun k => ?h4) ?r4
          case h4 => conv => lhs; rw [leatlaw8_JobHeavy.l1, hqq, if_pos (by omega), if_pos (by rw [List.length_replicate]; omega), ← List.replicate_succ', show wrap64 ((j : Int) + 1) = ((j + 1 : Nat) : Int) by unfold wrap64; omega]
          exact ih (j + 1) (by omega)
      exact inner (q + 1).toNat 0 (by omega)
    · refine ev_neg h0 ?_
      by_cases h1 : Int.tmod v 3 = 1
      · refine ev_pos h1 ?_
        have hs := tdm hv.1 hv.2 3 7 (by omega) (by omega) (by omega)
        have hd := tdm hv.1 hv.2 21 4 (by omega) (by omega) (by omega)
        have ws : wrap64 (1 + Int.tmod (wrap64 (Int.tdiv v 3)) 7) = 1 + Int.tmod (wrap64 (Int.tdiv v 3)) 7 := X.wrap_small (by omega) (by omega)
        have wd : wrap64 (1 + Int.tmod (wrap64 (Int.tdiv v 21)) 4) = 1 + Int.tmod (wrap64 (Int.tdiv v 21)) 4 := X.wrap_small (by omega) (by omega)
        rw [ws, wd]
        refine ev_neg (by omega) ?_
        exact fin _ _ (Nd.win i _ _ _ (by omega) (by omega) (by omega) (by omega) (by omega))
      · refine ev_neg h1 ?_
        exact fin _ _ (Nd.mid i _ (by omega))
end
theorem heavy_at (k : Nat) (l : List Int) (hk : leatlaw8_known.f k = some true) (h : l.length ≤ 9 → leatlaw8_JobHeavy.l0 k l 1 false 0 [⟨1, [], 1, e0, 0, q0⟩] = some true) : leatlaw8_JobHeavy.f k l = some true := by
  have e : leatlaw8_JobHeavy.f k l = (leatlaw8_known.f k).bind fun t344 => (if t344 = true then (if (l.length : Int) > 9 then (some true) else (leatlaw8_JobHeavy.l0 k l 1 false 0 [⟨1, [], 1, e0, 0, q0⟩])) else none) := rfl
  rw [e, hk, Option.bind_some, if_pos rfl]
  by_cases h9 : (l.length : Int) > 9
  · rw [if_pos h9]
  · rw [if_neg h9]; exact h (by omega)
theorem JobHeavy : JobHeavyPure := by
  intro l ⟨_, _, hx⟩
  have hk : Ev (fun k => leatlaw8_known.f k) true := Ev.of (fun k => leatlaw8_known.mono k) known_at
  by_cases h9 : l.length ≤ 9
  · have c : PCh (l.length + 2) [⟨1, [], 1, e0, 0, q0⟩] [1] := ⟨rfl, by simp, fun i h => by
      obtain rfl : i = 0 := by simpa using h
      exact Nd.src _ (by omega), fun x hx => by
      obtain rfl : x = 1 := by simpa using hx
      omega⟩
    obtain ⟨a, ha⟩ := heavy_loop l h9 (fun x h => u8_in (hx x h)) l.length 0 _ _ (by omega) c rfl
    obtain ⟨b, hb⟩ := hk
    exact ⟨max a b, heavy_at _ l (hb _ (by omega)) (fun _ => ha _ (by omega))⟩
  · obtain ⟨b, hb⟩ := hk
    exact ⟨b, heavy_at _ l (hb _ (by omega)) (fun h => absurd h h9)⟩
end Go.Proofs.Ytpbmfdbfimcpjaa.Pure
