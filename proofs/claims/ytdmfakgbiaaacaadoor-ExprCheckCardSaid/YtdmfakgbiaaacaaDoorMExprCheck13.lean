/- What is asked of the law ExprCheck, in plain Lean. No conditions. -/
import Derived.Test.YtdmfakgbiaaacaaDoorMExprCheck12
import Derived.Test.YtdmfakgbiaaacaaDoorMExprCheck11
namespace Go.Proofs.YtdmfakgbiaaacaaDoor.Op
open Go.RowKit Go.Proofs.YtdmfakgbiaaacaaDoorW.PrintWords Go.Proofs.YtdmfakgbiaaacaaDoor.X
def ExprCheckPure : Prop := ∀ (a0_0 : Int) (a0_1 : Int) (l0_2 : List (S24)) (a1_0 : Int) (a1_1 : Int) (a1_2 : Int), ((Lit.int .i64 a0_0).wf = true) → ((Lit.int .i64 a0_1).wf = true) → (l0_2.length * 40 ≤ 140737488351232 ∧ l0_2.length ≤ 9223372036854775807 ∧ ∀ x ∈ l0_2, Good24 x) → ((Lit.int .i64 a1_0).wf = true) → ((Lit.int .i64 a1_1).wf = true) → ((Lit.int .i64 a1_2).wf = true) → ∃ k, leatlaw7_ExprCheck.f k a0_0 a0_1 l0_2 a1_0 a1_1 a1_2 = some true
end Go.Proofs.YtdmfakgbiaaacaaDoor.Op
namespace Go.Proofs.YtdmfakgbiaaacaaDoor.X
open Go.RowKit Go.Proofs.YtdmfakgbiaaacaaDoorW.PrintWords Go.Proofs.YtdmfakgbiaaacaaDoor.Op
set_option linter.unusedVariables false
set_option linter.unusedSimpArgs false
section
variable {α β : Type}
theorem ev_pos {c : Prop} [Decidable c] {f g : Nat → Option α} {r : α} (h : c) (k : Ev f r) : Ev (fun n => if c then f n else g n) r := Ev.congr (fun _ => if_pos h) k
theorem ev_neg {c : Prop} [Decidable c] {f g : Nat → Option α} {r : α} (h : ¬ c) (k : Ev g r) : Ev (fun n => if c then f n else g n) r := Ev.congr (fun _ => if_neg h) k
theorem ev_now {r r' : α} (h : r' = r) : Ev (fun _ => some r') r := h ▸ Ev.now _
theorem ev_ite {c : Prop} [Decidable c] {f g : Nat → Option α} {r : α} (h : c → Ev f r) (k : ¬ c → Ev g r) : Ev (fun n => if c then f n else g n) r := by
  by_cases hc : c
  · exact ev_pos hc (h hc)
  · exact ev_neg hc (k hc)
def Sp (P : α → Prop) (f : Nat → Option α) : Prop := ∃ r, P r ∧ Ev f r
theorem sp_now {P : α → Prop} {r : α} (h : P r) : Sp P (fun _ => some r) := ⟨r, h, Ev.now r⟩
theorem sp_ite {P : α → Prop} {c : Prop} [Decidable c] {f g : Nat → Option α} (h : c → Sp P f) (k : ¬ c → Sp P g) : Sp P (fun n => if c then f n else g n) := by
  by_cases hc : c
  · obtain ⟨r, hp, hr⟩ := h hc; exact ⟨r, hp, ev_pos hc hr⟩
  · obtain ⟨r, hp, hr⟩ := k hc; exact ⟨r, hp, ev_neg hc hr⟩
theorem sp_bind {P : α → Prop} {Q : β → Prop} {g : Nat → Option α} {f : Nat → α → Option β} (h : Sp P g) (k : ∀ a, P a → Sp Q (fun n => f n a)) : Sp Q (fun n => (g n).bind (f n)) := by
  obtain ⟨a, hp, ha⟩ := h
  obtain ⟨r, hq, hr⟩ := k a hp
  exact ⟨r, hq, Ev.bind ha hr⟩
theorem sp_step {P : α → Prop} {g f : Nat → Option α} (h : ∀ k, g (k + 1) = f k) (k : Sp P f) : Sp P g := by
  obtain ⟨r, hp, hr⟩ := k; exact ⟨r, hp, Ev.step h hr⟩
theorem sp_mono {P Q : α → Prop} {f : Nat → Option α} (h : Sp P f) (k : ∀ r, P r → Q r) : Sp Q f := by
  obtain ⟨r, hp, hr⟩ := h; exact ⟨r, k r hp, hr⟩
theorem sp_some {P : α → Prop} {f : Nat → Option α} {r : α} (h : Ev f r) (hp : P r) : Sp P f := ⟨r, hp, h⟩
theorem sp_eq {r : α} {f : Nat → Option α} (h : Sp (· = r) f) : Ev f r := by obtain ⟨_, rfl, h⟩ := h; exact h
end
theorem step_i {i n : Nat} (h : i < n) (hn : n ≤ 9223372036854775807) : wrap64 ((i : Int) + 1) = ((i + 1 : Nat) : Int) := by unfold wrap64; omega
theorem rd24_at {l : List S24} {i : Nat} (h : i < l.length) : rd_T24 l (i : Int) = l[i] := by simp [rd_T24, h]
def ar (op : Int) : Int := if 1 ≤ op ∧ op ≤ 4 then 0 else if op = 14 then 3 else if 5 ≤ op ∧ op ≤ 13 then 2 else -1
mutual
def cnt : S24 → Nat
  | ⟨_, _, l⟩ => cntL l + 1
def cntL : List S24 → Nat
  | [] => 0
  | x :: l => cnt x + cntL l
end
mutual
def dep : S24 → Nat
  | ⟨_, _, l⟩ => depL l + 1
def depL : List S24 → Nat
  | [] => 0
  | x :: l => max (dep x) (depL l)
end
mutual
def okx : S24 → Bool
  | ⟨op, n, l⟩ => (ar op == (l.length : Int)) && ((n == 0 || op == 1) && okL l)
def okL : List S24 → Bool
  | [] => true
  | x :: l => okx x && okL l
end
theorem cnt_eq (x : S24) : cnt x = cntL x.f2 + 1 := by cases x; rw [cnt]
theorem dep_eq (x : S24) : dep x = depL x.f2 + 1 := by cases x; rw [dep]
theorem okx_eq (x : S24) : okx x = ((ar x.f0 == (x.f2.length : Int)) && ((x.f1 == 0 || x.f0 == 1) && okL x.f2)) := by cases x; rw [okx]
mutual
theorem dep_cnt : ∀ x : S24, dep x ≤ cnt x
  | ⟨_, _, l⟩ => by rw [dep, cnt]; have := depL_cnt l; omega
theorem depL_cnt : ∀ l : List S24, depL l ≤ cntL l
  | [] => by rw [depL, cntL]; omega
  | x :: l => by rw [depL, cntL]; have := dep_cnt x; have := depL_cnt l; omega
end
theorem cntL_mem {x : S24} : ∀ {l : List S24}, x ∈ l → cnt x ≤ cntL l
  | y :: l, h => by
    rw [cntL]
    rcases List.mem_cons.1 h with rfl | h
    · omega
    · have := cntL_mem h; omega
def Fit : Nat → S24 → Prop
  | 0, _ => False
  | n + 1, x => x.f2.length ≤ 9223372036854775807 ∧ ∀ y ∈ x.f2, Fit n y
theorem fit24 : ∀ (n : Nat) (x : S24), G24 n x → Fit n x
  | 0, _, h => h.elim
  | n + 1, x, ⟨_, _, _, h2, h3⟩ => ⟨h2, fun y hy => fit24 n y (h3 y hy)⟩
theorem ev_arity (a : Int) : Ev (fun k => expr_arity.f k a) (ar a) := by
  refine ⟨1, fun k hk => ?_⟩
  obtain ⟨k, rfl⟩ : ∃ m, k = m + 1 := ⟨k - 1, by omega⟩
  unfold expr_arity.f
  simp only [expr_arity.j0]
  unfold ar
  by_cases h1 : a = 1
  · subst h1; rfl
  by_cases h2 : a = 2
  · subst h2; rfl
  by_cases h3 : a = 3
  · subst h3; rfl
  by_cases h4 : a = 4
  · subst h4; rfl
  rw [if_neg h1, if_neg h2, if_neg h3, if_neg (by simpa using h4), if_neg (show ¬ (1 ≤ a ∧ a ≤ 4) by omega)]
  by_cases h5 : a = 14
  · rw [if_pos h5, if_pos h5]
  rw [if_neg h5, if_neg h5]
  by_cases h6 : a > 4
  · rw [if_pos h6]
    by_cases h7 : a < 14
    · rw [if_pos h7, if_pos (by omega)]
    · rw [if_neg h7, if_neg (by omega)]
  · rw [if_neg h6, if_neg (by omega)]
theorem ev_arity7 (a : Int) : Ev (fun k => leatref7_arity.f k a) (ar a) := by
  refine ⟨1, fun k hk => ?_⟩
  obtain ⟨k, rfl⟩ : ∃ m, k = m + 1 := ⟨k - 1, by omega⟩
  unfold leatref7_arity.f
  simp only [leatref7_arity.j0]
  unfold ar
  by_cases h1 : 1 ≤ a ∧ a ≤ 4
  · rw [if_pos h1, if_pos h1.1, if_pos (by simpa using h1.2)]
  rw [if_neg h1]
  have e : (if a ≥ 1 then (if decide (a ≤ 4) = true then some (0 : Int) else if a = 14 then some 3 else if a ≥ 5 then if a ≤ 13 then some 2 else some (-1) else some (-1)) else
    (if false = true then some (0 : Int) else if a = 14 then some 3 else if a ≥ 5 then if a ≤ 13 then some 2 else some (-1) else some (-1))) = (if a = 14 then some 3 else if a ≥ 5 then if a ≤ 13 then some 2 else some (-1) else some (-1)) := by
    by_cases h2 : a ≥ 1
    · rw [if_pos h2, if_neg (by simp; omega)]
    · rw [if_neg h2, if_neg (by simp)]
  rw [e]
  by_cases h5 : a = 14
  · rw [if_pos h5, if_pos h5]
  rw [if_neg h5, if_neg h5]
  by_cases h6 : a ≥ 5
  · rw [if_pos h6]
    by_cases h7 : a ≤ 13
    · rw [if_pos h7, if_pos (by omega)]
    · rw [if_neg h7, if_neg (by omega)]
  · rw [if_neg h6, if_neg (by omega)]
theorem okL_drop {l : List S24} {i : Nat} (h : i < l.length) : okL (l.drop i) = (okx l[i] && okL (l.drop (i + 1))) := by rw [List.drop_eq_getElem_cons h, okL]
theorem ev_right : ∀ (d : Nat) (x : S24), Fit d x → Ev (fun k => expr_right.f k x.f0 x.f1 x.f2) (okx x)
  | 0, _, h => h.elim
  | d + 1, x, ⟨hl, hx⟩ => by
    have loop : ∀ (m i : Nat), x.f2.length = i + m → Ev (fun k => expr_right.l0 k x.f2 (x.f2.length : Int) (i : Int)) (okL (x.f2.drop i)) := by
      intro m
      induction m with
      | zero =>
        intro i hi
        refine Ev.step (f := ?f1) (fun k => ?h1) ?r1
        case h1 => conv => lhs; rw [expr_right.l0, if_neg (by omega)]
        exact ev_now (by rw [List.drop_of_length_le (by omega), okL])
      | succ m ih =>
        intro i hi
        have hlt : i < x.f2.length := by omega
        refine Ev.step (f := ?f2) (fun k => ?h2) ?r2
        case h2 => conv => lhs; rw [expr_right.l0, if_pos (by omega), if_pos (by omega), if_pos (by omega), rd24_at hlt, step_i hlt hl]
        refine Ev.bind (ev_right d _ (hx _ (List.getElem_mem hlt))) ?_
        rw [okL_drop hlt]
        exact ev_ite (fun h => by rw [h, Bool.true_and]; exact ih (i + 1) (by omega)) (fun h => ev_now (by rw [Bool.eq_false_iff.2 h, Bool.false_and]))
    have j0 : ∀ b : Bool, Ev (fun k => expr_right.j0 k b x.f0 x.f1 x.f2) (!b && okL x.f2) := by
      intro b
      refine Ev.step (f := ?f3) (fun k => ?h3) ?r3
      case h3 => conv => lhs; rw [expr_right.j0]
      exact ev_ite (fun h => ev_now (by rw [h]; rfl)) (fun h => by
        rw [Bool.eq_false_iff.2 h]; exact loop x.f2.length 0 (by omega))
    refine Ev.step (f := ?f4) (fun k => ?h4) ?r4
    case h4 => conv => lhs; rw [expr_right.f]
    refine Ev.bind (ev_arity x.f0) ?_
    rw [okx_eq]
    refine ev_ite (fun h1 => ?_) (fun h1 => ?_)
    · rw [show (ar x.f0 == (x.f2.length : Int)) = true from by simpa using h1, Bool.true_and]
      refine ev_ite (fun h2 => ?_) (fun h2 => ?_)
      · rw [show (x.f1 == 0) = true from by simpa using h2, Bool.true_or, Bool.true_and]; simpa using j0 false
      · rw [show (x.f1 == 0) = false from by simpa using h2, Bool.false_or]
        have := j0 (x.f0 != 1)
        simpa [bne] using this
    · rw [show (ar x.f0 == (x.f2.length : Int)) = false from by simpa using h1, Bool.false_and]
      exact j0 true
theorem ev_formed : ∀ (d : Nat) (x : S24), Fit d x → Ev (fun k => leatref7_formed.f k x.f0 x.f1 x.f2) (okx x)
  | 0, _, h => h.elim
  | d + 1, x, ⟨hl, hx⟩ => by
    have loop : ∀ (m i : Nat), x.f2.length = i + m → Ev (fun k => leatref7_formed.l0 k (i : Int) x.f0 x.f1 x.f2) (okL (x.f2.drop i)) := by
      intro m
      induction m with
      | zero =>
        intro i hi
        refine Ev.step (f := ?f1) (fun k => ?h1) ?r1
        case h1 => conv => lhs; rw [leatref7_formed.l0, if_neg (by omega)]
        exact ev_now (by rw [List.drop_of_length_le (by omega), okL])
      | succ m ih =>
        intro i hi
        have hlt : i < x.f2.length := by omega
        refine Ev.step (f := ?f2) (fun k => ?h2) ?r2
        case h2 => conv => lhs; rw [leatref7_formed.l0, if_pos (by omega), if_pos (by omega), rd24_at hlt, step_i hlt hl]
        refine Ev.bind (ev_formed d _ (hx _ (List.getElem_mem hlt))) ?_
        rw [okL_drop hlt]
        exact ev_ite (fun h => by rw [h, Bool.true_and]; exact ih (i + 1) (by omega)) (fun h => ev_now (by rw [Bool.eq_false_iff.2 h, Bool.false_and]))
    have j0 : ∀ b : Bool, Ev (fun k => leatref7_formed.j0 k b x.f0 x.f1 x.f2) (!b && okL x.f2) := by
      intro b
      refine Ev.step (f := ?f3) (fun k => ?h3) ?r3
      case h3 => conv => lhs; rw [leatref7_formed.j0]
      exact ev_ite (fun h => ev_now (by rw [h]; rfl)) (fun h => by
        rw [Bool.eq_false_iff.2 h]; exact loop x.f2.length 0 (by omega))
    refine Ev.step (f := ?f4) (fun k => ?h4) ?r4
    case h4 => conv => lhs; rw [leatref7_formed.f]
    refine Ev.bind (ev_arity7 x.f0) ?_
    rw [okx_eq]
    refine ev_ite (fun h0 => ?_) (fun h0 => ?_)
    · rw [show (ar x.f0 == (x.f2.length : Int)) = false from by simp; omega, Bool.false_and]
      exact j0 true
    refine Ev.bind (ev_arity7 x.f0) ?_
    refine ev_ite (fun h1 => ?_) (fun h1 => ?_)
    · rw [show (ar x.f0 == (x.f2.length : Int)) = true from by simpa using h1.symm, Bool.true_and]
      refine ev_ite (fun h2 => ?_) (fun h2 => ?_)
      · rw [show (x.f1 == 0) = true from by simpa using h2, Bool.true_or, Bool.true_and]; simpa using j0 false
      · rw [show (x.f1 == 0) = false from by simpa using h2, Bool.false_or]
        have := j0 (x.f0 != 1)
        simpa [bne] using this
    · rw [show (ar x.f0 == (x.f2.length : Int)) = false from by simpa using fun h => h1 h.symm, Bool.false_and]
      exact j0 true
theorem mx_nat (a b : Nat) : mx (a : Int) (b : Int) = ((max a b : Nat) : Int) := by unfold mx; split <;> omega
theorem wr_add (a b : Nat) (h : a + b ≤ 4611686018427387904) : wrap64 ((a : Int) + (b : Int)) = ((a + b : Nat) : Int) := by unfold wrap64; omega
theorem wr_one (a : Nat) (h : a ≤ 4611686018427387904) : wrap64 ((a : Int) + 1) = ((a + 1 : Nat) : Int) := by unfold wrap64; omega
theorem cntL_drop {l : List S24} {i : Nat} (h : i < l.length) : cntL (l.drop i) = cnt l[i] + cntL (l.drop (i + 1)) := by rw [List.drop_eq_getElem_cons h, cntL]
theorem depL_drop {l : List S24} {i : Nat} (h : i < l.length) : depL (l.drop i) = max (dep l[i]) (depL (l.drop (i + 1))) := by rw [List.drop_eq_getElem_cons h, depL]
theorem ev_size : ∀ (d : Nat) (x : S24), Fit d x → cnt x ≤ 1000000 → Ev (fun k => expr_size.f k x.f0 x.f1 x.f2) ((cnt x : Int), (dep x : Int))
  | 0, _, h, _ => h.elim
  | d + 1, x, ⟨hl, hx⟩, hc => by
    rw [cnt_eq] at hc
    have loop : ∀ (m i a b : Nat), x.f2.length = i + m → a + cntL (x.f2.drop i) ≤ 1000000 → b ≤ 1000000 → Ev (fun k => expr_size.l0 k (a : Int) (b : Int) x.f2 (x.f2.length : Int) (i : Int)) (((a + cntL (x.f2.drop i) + 1 : Nat) : Int), ((max b (depL (x.f2.drop i)) + 1 : Nat) : Int)) := by
      intro m
      induction m with
      | zero =>
        intro i a b hi ha hb
        refine Ev.step (f := ?f1) (fun k => ?h1) ?r1
        case h1 => conv => lhs; rw [expr_size.l0, if_neg (by omega), wr_one a (by omega), wr_one b (by omega)]
        refine ev_now ?_
        rw [List.drop_of_length_le (by omega), cntL, depL]; simp
      | succ m ih =>
        intro i a b hi ha hb
        have hlt : i < x.f2.length := by omega
        rw [cntL_drop hlt] at ha
        have hdc := dep_cnt x.f2[i]
        refine Ev.step (f := ?f2) (fun k => ?h2) ?r2
        case h2 => conv => lhs; rw [expr_size.l0, if_pos (by omega), if_pos (by omega), if_pos (by omega), rd24_at hlt, step_i hlt hl]
        refine Ev.bind (ev_size d _ (hx _ (List.getElem_mem hlt)) (by omega)) ?_
        simp only
        rw [wr_add a _ (by omega), mx_nat]
        have := ih (i + 1) (a + cnt x.f2[i]) (max b (dep x.f2[i])) (by omega) (by omega) (by omega)
        rw [cntL_drop hlt, depL_drop hlt, ← Nat.add_assoc, ← Nat.max_assoc]
        exact this
    refine Ev.step (f := ?f4) (fun k => ?h4) ?r4
    case h4 => conv => lhs; rw [expr_size.f]
    have := loop x.f2.length 0 0 0 (by omega) (by simp; omega) (by omega)
    rw [cnt_eq, dep_eq]
    simpa using this
theorem ev_size7 : ∀ (d : Nat) (x : S24), Fit d x → cnt x ≤ 1000000 → Ev (fun k => leatref7_size.f k x.f0 x.f1 x.f2) ((cnt x : Int), (dep x : Int))
  | 0, _, h, _ => h.elim
  | d + 1, x, ⟨hl, hx⟩, hc => by
    rw [cnt_eq] at hc
    have loop : ∀ (m i a b : Nat), x.f2.length = i + m → a + cntL (x.f2.drop i) ≤ 2000000 → b ≤ 1000000 → Ev (fun k => leatref7_size.l0 k (a : Int) (b : Int) (i : Int) x.f0 x.f1 x.f2) (((a + cntL (x.f2.drop i) : Nat) : Int), ((max b (depL (x.f2.drop i)) + 1 : Nat) : Int)) := by
      intro m
      induction m with
      | zero =>
        intro i a b hi ha hb
        refine Ev.step (f := ?f1) (fun k => ?h1) ?r1
        case h1 => conv => lhs; rw [leatref7_size.l0, if_neg (by omega), wr_one b (by omega)]
        refine ev_now ?_
        rw [List.drop_of_length_le (by omega), cntL, depL]; simp
      | succ m ih =>
        intro i a b hi ha hb
        have hlt : i < x.f2.length := by omega
        have hm := cntL_mem (List.getElem_mem hlt)
        rw [cntL_drop hlt] at ha
        have hdc := dep_cnt x.f2[i]
        refine Ev.step (f := ?f2) (fun k => ?h2) ?r2
        case h2 => conv => lhs; rw [leatref7_size.l0, if_pos (by omega), if_pos (by omega), rd24_at hlt, step_i hlt hl]
        refine Ev.bind (ev_size7 d _ (hx _ (List.getElem_mem hlt)) (by omega)) ?_
        simp only
        rw [wr_add a _ (by omega), mx_nat]
        have := ih (i + 1) (a + cnt x.f2[i]) (max b (dep x.f2[i])) (by omega) (by omega) (by omega)
        rw [cntL_drop hlt, depL_drop hlt, ← Nat.add_assoc, ← Nat.max_assoc]
        exact this
    refine Ev.step (f := ?f4) (fun k => ?h4) ?r4
    case h4 => conv => lhs; rw [leatref7_size.f]
    have := loop x.f2.length 0 1 0 (by omega) (by simp; omega) (by omega)
    rw [cnt_eq, dep_eq]
    simpa [Nat.add_comm] using this
def chk (x : S24) : Int := if okx x then (if cnt x > 32 then 71 else if dep x > 8 then 71 else 0) else 70
theorem chk_ok {x : S24} (h : chk x = 0) : okx x = true ∧ cnt x ≤ 32 ∧ dep x ≤ 8 := by
  unfold chk at h
  split at h
  · rename_i ho
    split at h
    · cases h
    · split at h
      · cases h
      · exact ⟨ho, by omega, by omega⟩
  · cases h
theorem ev_check {d : Nat} {x : S24} (h : Fit d x) (hc : cnt x ≤ 1000000) : Ev (fun k => expr_Check.f k x.f0 x.f1 x.f2) (chk x) := by
  unfold expr_Check.f chk
  refine Ev.bind (ev_right d x h) ?_
  refine ev_ite (fun h1 => ?_) (fun h1 => ?_)
  · rw [if_pos h1]
    refine Ev.bind (ev_size d x h hc) ?_
    simp only
    exact ev_ite (fun h2 => ev_now (by rw [if_pos (by omega)])) (fun h2 => ev_ite (fun h3 => ev_now (by rw [if_neg (by omega), if_pos (by omega)])) (fun h3 => ev_now (by rw [if_neg (by omega), if_neg (by omega)])))
  · rw [if_neg h1]; exact ev_now rfl
theorem ev_check7 {d : Nat} {x : S24} (h : Fit d x) (hc : cnt x ≤ 1000000) : Ev (fun k => leatref7_Check.f k x.f0 x.f1 x.f2) (chk x) := by
  unfold leatref7_Check.f chk
  refine Ev.bind (ev_formed d x h) ?_
  refine ev_ite (fun h1 => ?_) (fun h1 => ?_)
  · rw [if_pos h1]
    refine Ev.bind (ev_size7 d x h hc) ?_
    simp only
    exact ev_ite (fun h2 => ev_now (by rw [if_pos (by omega)])) (fun h2 => ev_ite (fun h3 => ev_now (by rw [if_neg (by omega), if_pos (by omega)])) (fun h3 => ev_now (by rw [if_neg (by omega), if_neg (by omega)])))
  · rw [if_neg h1]; exact ev_now rfl
theorem sp_light : ∀ (d : Nat) (x : S24), Fit d x → ∀ (most deep : Int), 0 ≤ most → most ≤ 1000 → deep ≤ 1000 → 0 ≤ deep →
    Sp (fun r => 1 ≤ r ∧ r ≤ most + 1 ∧ (r ≤ most → r = (cnt x : Int))) (fun k => leatref7_Light.f k x.f0 x.f1 x.f2 most deep)
  | 0, _, h, _, _, _, _, _, _ => h.elim
  | d + 1, x, ⟨hl, hx⟩, most, deep, hm0, hm1, hd1, hd0 => by
    have loop : 1 ≤ deep → ∀ (m i : Nat) (n : Int), x.f2.length = i + m → 1 ≤ n → n ≤ most + 1 → Sp (fun r => n ≤ r ∧ r ≤ most + 1 ∧ (r ≤ most → r = n + (cntL (x.f2.drop i) : Int))) (fun k => leatref7_Light.l0 k most deep n (i : Int) x.f0 x.f1 x.f2) := by
      intro hd m
      induction m with
      | zero =>
        intro i n hi hn hn1
        refine sp_step (f := ?f1) (fun k => ?h1) ?r1
        case h1 => conv => lhs; rw [leatref7_Light.l0, if_neg (by omega)]
        exact sp_now ⟨Int.le_refl _, hn1, fun _ => by rw [List.drop_of_length_le (by omega), cntL]; simp⟩
      | succ m ih =>
        intro i n hi hn hn1
        have hlt : i < x.f2.length := by omega
        refine sp_step (f := ?f2) (fun k => ?h2) ?r2
        case h2 => conv => lhs; rw [leatref7_Light.l0, if_pos (by omega), rd24_at hlt, step_i hlt hl, if_pos (show (0 : Int) ≤ (i : Int) by omega)]
        refine sp_ite (fun hnm => ?_) (fun hnm => sp_now ⟨Int.le_refl _, hn1, fun h => absurd h (by omega)⟩)
        rw [show wrap64 (most - n) = most - n by unfold wrap64; omega, show wrap64 (deep - 1) = deep - 1 by unfold wrap64; omega]
        refine sp_bind (sp_light d _ (hx _ (List.getElem_mem hlt)) (most - n) (deep - 1) (by omega) (by omega) (by omega) (by omega)) (fun t ht => ?_)
        obtain ⟨ht1, ht2, ht3⟩ := ht
        rw [show wrap64 (n + t) = n + t by unfold wrap64; omega]
        refine sp_mono (ih (i + 1) (n + t) (by omega) (by omega) (by omega)) (fun r hr => ?_)
        refine ⟨by omega, hr.2.1, fun h => ?_⟩
        rw [hr.2.2 h, cntL_drop hlt, ht3 (by omega)]
        push_cast; omega
    have j0 : ∀ b : Bool, (b = false → 1 ≤ deep) → Sp (fun r => 1 ≤ r ∧ r ≤ most + 1 ∧ (r ≤ most → r = (cnt x : Int))) (fun k => leatref7_Light.j0 k most deep b x.f0 x.f1 x.f2) := by
      intro b hb
      refine sp_step (f := ?f3) (fun k => ?h3) ?r3
      case h3 => conv => lhs; rw [leatref7_Light.j0]
      refine sp_ite (fun h => ?_) (fun h => ?_)
      · rw [show wrap64 (most + 1) = most + 1 by unfold wrap64; omega]
        exact sp_now ⟨by omega, by omega, fun h => absurd h (by omega)⟩
      · refine sp_mono (loop (hb (Bool.eq_false_iff.2 h)) x.f2.length 0 1 (by omega) (by omega) (by omega)) (fun r hr => ⟨hr.1, hr.2.1, fun h => ?_⟩)
        rw [hr.2.2 h, cnt_eq]
        simp; omega
    refine sp_step (f := ?f4) (fun k => ?h4) ?r4
    case h4 => conv => lhs; rw [leatref7_Light.f]
    exact sp_ite (fun _ => j0 true (by intro h; cases h)) (fun _ => j0 _ (by intro h; simp at h; omega))
theorem sp_lightness {d : Nat} {x : S24} (h : Fit d x) : Sp (fun b => b = true → cnt x ≤ 300) (fun k => leatlaw7_light.f k x.f0 x.f1 x.f2) := by
  unfold leatlaw7_light.f
  refine sp_bind (sp_light d x h 300 40 (by omega) (by omega) (by omega) (by omega)) (fun t ht => sp_now (fun hb => ?_))
  have := ht.2.2 (by simpa using hb)
  have h2 : t ≤ 300 := by simpa using hb
  omega
end Go.Proofs.YtdmfakgbiaaacaaDoor.X
namespace Go.Proofs.YtdmfakgbiaaacaaDoor.X
open Go.RowKit Go.Proofs.YtdmfakgbiaaacaaDoorW.PrintWords Go.Proofs.YtdmfakgbiaaacaaDoor.Op
set_option linter.unusedVariables false
set_option linter.unusedSimpArgs false
section
variable (r0 r1 r2 : Int)
mutual
def val : S24 → Int
  | ⟨op, n, l⟩ => refOp op n r0 r1 r2 ((valL l).getD 0 0) ((valL l).getD 1 0) ((valL l).getD 2 0)
def valL : List S24 → List Int
  | [] => []
  | x :: l => val x :: valL l
end
theorem val_eq (x : S24) : val r0 r1 r2 x = refOp x.f0 x.f1 r0 r1 r2 ((valL r0 r1 r2 x.f2).getD 0 0) ((valL r0 r1 r2 x.f2).getD 1 0) ((valL r0 r1 r2 x.f2).getD 2 0) := by cases x; rw [val]
theorem valL_at : ∀ (l : List S24) (i : Nat), (valL r0 r1 r2 l).getD i 0 = if h : i < l.length then val r0 r1 r2 l[i] else 0
  | [], i => by simp [valL]
  | x :: l, 0 => by simp [valL]
  | x :: l, i + 1 => by
    have := valL_at l i
    simp only [valL, List.getD_cons_succ, this, List.length_cons, Nat.add_lt_add_iff_right, List.getElem_cons_succ]
theorem okL_at {l : List S24} (h : okL l = true) : ∀ (i : Nat) (hi : i < l.length), okx l[i] = true := by
  induction l with
  | nil => intro i hi; simp at hi
  | cons x l ih =>
    rw [okL, Bool.and_eq_true] at h
    intro i hi
    cases i with
    | zero => exact h.1
    | succ i => exact ih h.2 i (by simpa using hi)
theorem ok_parts {x : S24} (h : okx x = true) : ar x.f0 = (x.f2.length : Int) ∧ (x.f1 = 0 ∨ x.f0 = 1) ∧ okL x.f2 = true := by
  rw [okx_eq] at h
  simpa using h
theorem ev_val7 : ∀ (d : Nat) (x : S24), Fit d x → Ev (fun k => leatref7_Eval.f k x.f0 x.f1 x.f2 r0 r1 r2) (val r0 r1 r2 x)
  | 0, _, h => h.elim
  | d + 1, x, ⟨hl, hx⟩ => by
    have one : ∀ i : Nat, Ev (fun k => if i < x.f2.length then leatref7_Eval.f k (rd_T24 x.f2 (i : Int)).f0 (rd_T24 x.f2 (i : Int)).f1 (rd_T24 x.f2 (i : Int)).f2 r0 r1 r2 else some 0) ((valL r0 r1 r2 x.f2).getD i 0) := by
      intro i
      rw [valL_at]
      refine ev_ite (fun h => ?_) (fun h => ev_now (by rw [dif_neg h]))
      rw [dif_pos h, rd24_at h]
      exact ev_val7 d _ (hx _ (List.getElem_mem h))
    rw [val_eq]
    refine Ev.step (f := ?f4) (fun k => ?h4) ?r4
    case h4 => conv => lhs; rw [leatref7_Eval.f]
    exact Ev.bind (one 0) (Ev.bind (one 1) (Ev.bind (one 2) (Ev.now _)))
theorem ar_cases {a : Int} {n : Nat} (h : ar a = (n : Int)) : (1 ≤ a ∧ a ≤ 4 ∧ n = 0) ∨ (a = 14 ∧ n = 3) ∨ (5 ≤ a ∧ a ≤ 13 ∧ n = 2) := by
  unfold ar at h
  split at h
  · omega
  split at h
  · omega
  split at h
  · omega
  · omega
theorem ev_val : ∀ (d : Nat) (x : S24), Fit d x → okx x = true → Ev (fun k => expr_eval.f k x.f0 x.f1 x.f2 r0 r1 r2) (val r0 r1 r2 x)
  | 0, _, h, _ => h.elim
  | d + 1, x, ⟨hl, hx⟩, ho => by
    obtain ⟨h1, h2, h3⟩ := ok_parts ho
    have one : ∀ (i : Nat) (h : i < x.f2.length), Ev (fun k => expr_eval.f k (rd_T24 x.f2 (i : Int)).f0 (rd_T24 x.f2 (i : Int)).f1 (rd_T24 x.f2 (i : Int)).f2 r0 r1 r2) ((valL r0 r1 r2 x.f2).getD i 0) := by
      intro i h
      rw [valL_at, dif_pos h, rd24_at h]
      exact ev_val d _ (hx _ (List.getElem_mem h)) (okL_at h3 i h)
    rw [val_eq]
    refine Ev.step (f := ?f4) (fun k => ?h4) ?r4
    case h4 => conv => lhs; rw [expr_eval.f]
    unfold refOp
    refine ev_ite (fun h => ev_now (by rw [if_pos h])) (fun e1 => ?_)
    rw [if_neg e1]
    refine ev_ite (fun h => ev_now (by rw [if_pos h])) (fun e2 => ?_)
    rw [if_neg e2]
    refine ev_ite (fun h => ev_now (by rw [if_pos h])) (fun e3 => ?_)
    rw [if_neg e3]
    refine ev_ite (fun h => ev_now (by rw [if_pos h])) (fun e4 => ?_)
    rw [if_neg e4]
    rcases ar_cases h1 with hh | ⟨e14, hn⟩ | ⟨e5, e13, hn⟩
    · omega
    · refine ev_pos e14 (ev_pos (by omega) ?_)
      rw [if_neg (show ¬ x.f0 = 5 by omega), if_neg (show ¬ x.f0 = 6 by omega), if_neg (show ¬ x.f0 = 7 by omega), if_neg (show ¬ x.f0 = 8 by omega), if_neg (show ¬ x.f0 = 9 by omega), if_neg (show ¬ x.f0 = 10 by omega), if_neg (show ¬ x.f0 = 11 by omega), if_neg (show ¬ x.f0 = 12 by omega), if_neg (show ¬ x.f0 = 13 by omega), if_pos e14]
      refine Ev.bind (one 0 (by omega)) ?_
      exact ev_ite (fun h => by rw [if_pos h]; exact one 2 (by omega)) (fun h => by rw [if_neg h]; exact one 1 (by omega))
    · refine ev_neg (by omega) (ev_pos (by omega) ?_)
      refine Ev.bind (one 0 (by omega)) (Ev.bind (one 1 (by omega)) (ev_now ?_))
      unfold opP
      rw [if_neg (show ¬ x.f0 = 14 by omega)]
      by_cases h13 : x.f0 = 13
      · rw [h13]; rfl
      · rw [if_neg h13]
        have h12 : x.f0 = 5 ∨ x.f0 = 6 ∨ x.f0 = 7 ∨ x.f0 = 8 ∨ x.f0 = 9 ∨ x.f0 = 10 ∨ x.f0 = 11 ∨ x.f0 = 12 := by omega
        rcases h12 with h | h | h | h | h | h | h | h <;> rw [h] <;> rfl
theorem ev_Eval {d : Nat} {x : S24} (h : Fit d x) (hc : cnt x ≤ 1000000) : Ev (fun k => expr_Eval.f k x.f0 x.f1 x.f2 r0 r1 r2) (if chk x = 0 then val r0 r1 r2 x else 0) := by
  unfold expr_Eval.f
  refine Ev.bind (ev_check h hc) ?_
  refine ev_ite (fun h1 => ?_) (fun h1 => by rw [if_neg h1]; exact Ev.now _)
  rw [if_pos h1]
  exact Ev.bind (ev_val r0 r1 r2 d x h (chk_ok h1).1) (Ev.now _)
end
end Go.Proofs.YtdmfakgbiaaacaaDoor.X
namespace Go.Proofs.YtdmfakgbiaaacaaDoor.X
open Go.RowKit Go.Proofs.YtdmfakgbiaaacaaDoorW.PrintWords Go.Proofs.YtdmfakgbiaaacaaDoor.Op
set_option linter.unusedVariables false
set_option linter.unusedSimpArgs false
def B (l : List UInt8) : ByteArray := ⟨l.toArray⟩
theorem B_append (a b : List UInt8) : B a ++ B b = B (a ++ b) := ByteArray.ext (by rw [ByteArray.data_append]; simp [B])
theorem B_size (a : List UInt8) : (B a).size = a.length := by simp [B, ByteArray.size]
theorem B_list (a : List UInt8) : (B a).data.toList = a := by simp [B]
theorem B_of (x : ByteArray) : B x.data.toList = x := ByteArray.ext (by simp [B])
theorem wrap64u (n : Int) : IntKind.u64.wrap n = n % 18446744073709551616 := by
  unfold IntKind.wrap
  simp [IntKind.signed, IntKind.bits]
theorem dig_one (m : Nat) (h : m < 10) : (⟨#[48, 49, 50, 51, 52, 53, 54, 55, 56, 57]⟩ : ByteArray).extract m (m + 1) = B [UInt8.ofNat (48 + m)] := by
  have : m = 0 ∨ m = 1 ∨ m = 2 ∨ m = 3 ∨ m = 4 ∨ m = 5 ∨ m = 6 ∨ m = 7 ∨ m = 8 ∨ m = 9 := by omega
  rcases this with rfl | rfl | rfl | rfl | rfl | rfl | rfl | rfl | rfl | rfl <;> (refine ByteArray.ext ?_; rw [ByteArray.data_extract]; rfl)
theorem ev_dec (sg : List UInt8) (hs : sg.length ≤ 100) (u : Nat) : u < 18446744073709551616 → ∀ (out : List UInt8), out.length + Lib.nDigits u ≤ 100 → Ev (fun k => leatref7_Dec.l0 k (u : Int) (B sg) (B out)) (B (sg ++ (Lib.decDigits u ++ out))) := by
  induction u using Nat.strongRecOn with
  | _ u ih =>
    intro hu out ho
    have hm : Int.tmod (u : Int) 10 = ((u % 10 : Nat) : Int) := by rw [Int.tmod_eq_emod_of_nonneg (by omega)]; omega
    have hd : Int.tdiv (u : Int) 10 = ((u / 10 : Nat) : Int) := by rw [Int.tdiv_eq_ediv_of_nonneg (by omega)]; omega
    have hm1 : IntKind.u64.wrap (((u % 10 : Nat) : Int) + 1) = ((u % 10 + 1 : Nat) : Int) := by rw [wrap64u]; omega
    have hd1 : IntKind.u64.wrap ((u / 10 : Nat) : Int) = ((u / 10 : Nat) : Int) := by rw [wrap64u]; omega
    refine Ev.step (f := ?f1) (fun k => ?h1) ?r1
    case h1 =>
      conv =>
        lhs
        rw [leatref7_Dec.l0, hm, hd, hm1, hd1, if_pos (by omega), if_pos (by omega), if_pos (by omega), Int.toNat_natCast, Int.toNat_natCast, dig_one _ (by omega)]
        simp only [B_size, B_append]
    have hnd := Lib.nDigits_pos u
    refine ev_pos (by simp; omega) ?_
    refine ev_ite (fun h0 => ?_) (fun h0 => ?_)
    · have hlt : u < 10 := by omega
      refine ev_pos (by simp; omega) (ev_now ?_)
      rw [Lib.decDigits, dif_pos hlt, Nat.mod_eq_of_lt hlt]
    · have hge : ¬ u < 10 := by omega
      have e := ih (u / 10) (by omega) (by omega) ([UInt8.ofNat (48 + u % 10)] ++ out) (by rw [Lib.nDigits_big hge] at ho; simp; omega)
      rw [Lib.decDigits, dif_neg hge, List.append_assoc]
      exact e
theorem ev_Dec (n : Int) (h0 : -9223372036854775808 ≤ n) (h1 : n ≤ 9223372036854775807) : Ev (fun k => leatref7_Dec.f k n) (B (Lib.itoa n)) := by
  unfold leatref7_Dec.f
  refine ev_ite (fun h => ?_) (fun h => ?_)
  · obtain ⟨u, rfl⟩ : ∃ u : Nat, n = -(u : Int) := ⟨n.natAbs, by omega⟩
    rw [Lib.itoa_neg u (by omega)]
    rw [show IntKind.u64.wrap (-(IntKind.u64.wrap (-(u : Int)))) = (u : Int) by rw [wrap64u, wrap64u]; omega]
    refine Ev.step (f := ?f1) (fun k => ?h1) ?r1
    case h1 => conv => lhs; rw [leatref7_Dec.j0]
    have := ev_dec [45] (by simp) u (by omega) [] (by have := Lib.nDigits_le20 u (by omega); simp; omega)
    simpa [B] using this
  · obtain ⟨u, rfl⟩ : ∃ u : Nat, n = u := ⟨n.toNat, by omega⟩
    rw [Lib.itoa_nonneg]
    rw [show IntKind.u64.wrap (u : Int) = (u : Int) by rw [wrap64u]; omega]
    refine Ev.step (f := ?f9) (fun k => ?h9) ?r9
    case h9 => conv => lhs; rw [leatref7_Dec.j0]
    have := ev_dec [] (by simp) u (by omega) [] (by have := Lib.nDigits_le20 u (by omega); simp; omega)
    simpa [B] using this
def wd (op : Int) : List UInt8 := (wordL.getD op.toNat ⟨#[]⟩).data.toList
mutual
def txt : S24 → List UInt8
  | ⟨op, n, l⟩ => if op = 1 then 99 :: Lib.itoa n else if l.length = 0 then wd op else wd op ++ (40 :: (txtL l ++ [41]))
def txtL : List S24 → List UInt8
  | [] => []
  | x :: l => txt x ++ txtT l
def txtT : List S24 → List UInt8
  | [] => []
  | x :: l => 44 :: 32 :: (txt x ++ txtT l)
end
theorem txt_eq (x : S24) : txt x = if x.f0 = 1 then 99 :: Lib.itoa x.f1 else if x.f2.length = 0 then wd x.f0 else wd x.f0 ++ (40 :: (txtL x.f2 ++ [41])) := by cases x; rw [txt]
def Num : Nat → S24 → Prop
  | 0, _ => False
  | n + 1, x => (-9223372036854775808 ≤ x.f1 ∧ x.f1 ≤ 9223372036854775807) ∧ ∀ y ∈ x.f2, Num n y
theorem wf_range {z : Int} (h : (Lit.int .i64 z).wf = true) : -9223372036854775808 ≤ z ∧ z ≤ 9223372036854775807 := by
  simpa [Lit.wf, IntKind.min, IntKind.max, IntKind.signed, IntKind.bits] using h
theorem num24 : ∀ (n : Nat) (x : S24), G24 n x → Num n x
  | 0, _, h => h.elim
  | n + 1, x, ⟨_, h1, _, h2, h3⟩ => ⟨wf_range h1, fun y hy => num24 n y (h3 y hy)⟩
theorem wd_len (op : Int) : (wd op).length ≤ 4 := by
  unfold wd
  by_cases h : op.toNat < 15
  · generalize op.toNat = m at h
    have : m = 0 ∨ m = 1 ∨ m = 2 ∨ m = 3 ∨ m = 4 ∨ m = 5 ∨ m = 6 ∨ m = 7 ∨ m = 8 ∨ m = 9 ∨ m = 10 ∨ m = 11 ∨ m = 12 ∨ m = 13 ∨ m = 14 := by omega
    rcases this with rfl | rfl | rfl | rfl | rfl | rfl | rfl | rfl | rfl | rfl | rfl | rfl | rfl | rfl | rfl <;> decide
  · rw [List.getD_eq_getElem?_getD, List.getElem?_eq_none (by simp [wordL]; omega)]
    decide
theorem txt_len : ∀ (d : Nat) (x : S24), Num d x → (txt x).length + 2 ≤ 40 * cnt x
  | 0, _, h => h.elim
  | d + 1, x, ⟨hn, hx⟩ => by
    have hT : ∀ l : List S24, (∀ y ∈ l, Num d y) → (txtT l).length ≤ 40 * cntL l := by
      intro l
      induction l with
      | nil => intro _; simp [txtT]
      | cons y l ih =>
        intro h
        have h1 := txt_len d y (h y (by simp))
        have h2 := ih (fun z hz => h z (by simp [hz]))
        rw [txtT, cntL]; simp; omega
    have hL : ∀ l : List S24, (∀ y ∈ l, Num d y) → (txtL l).length ≤ 40 * cntL l := by
      intro l h
      cases l with
      | nil => simp [txtL]
      | cons y l =>
        have h1 := txt_len d y (h y (by simp))
        have h2 := hT l (fun z hz => h z (by simp [hz]))
        rw [txtL, cntL]; simp; omega
    rw [txt_eq, cnt_eq]
    have hw := wd_len x.f0
    split
    · have := Lib.itoa_length_le x.f1 hn.1 hn.2
      simp; omega
    · split
      · omega
      · have := hL x.f2 hx
        simp; omega
theorem join_txt : ∀ l : List S24, Lib.join (l.map txt) [44, 32] = txtL l
  | [] => by rw [txtL]; rfl
  | [x] => by rw [txtL, txtT]; simp [Lib.join, List.intercalate]
  | x :: y :: l => by
    have := join_txt (y :: l)
    rw [txtL, txtT]
    rw [txtL] at this
    simp only [Lib.join, List.intercalate, List.map_cons, List.intersperse_cons_cons, List.flatten_cons] at this ⊢
    rw [this]
    simp
theorem ev_word (op : Int) (h0 : 0 ≤ op) (h1 : op < 15) : Ev (fun _ => expr_word.f op) (B (wd op)) := by
  unfold expr_word.f
  exact ev_pos ⟨h0, h1⟩ (ev_now (by unfold wd; rw [B_of]))
theorem txtT_drop {l : List S24} {i : Nat} (h : i < l.length) : txtT (l.drop i) = 44 :: 32 :: (txt l[i] ++ txtT (l.drop (i + 1))) := by rw [List.drop_eq_getElem_cons h, txtT]
theorem txtT_mem_len {d : Nat} {l : List S24} (h : ∀ y ∈ l, Num d y) : (txtT l).length ≤ 40 * cntL l := by
  induction l with
  | nil => simp [txtT]
  | cons y l ih =>
    have h1 := txt_len d y (h y (by simp))
    have h2 := ih (fun z hz => h z (by simp [hz]))
    rw [txtT, cntL]; simp; omega
theorem txtL_mem_len {d : Nat} {l : List S24} (h : ∀ y ∈ l, Num d y) : (txtL l).length ≤ 40 * cntL l := by
  cases l with
  | nil => simp [txtL]
  | cons y l =>
    have h1 := txt_len d y (h y (by simp))
    have h2 := txtT_mem_len (l := l) (fun z hz => h z (by simp [hz]))
    rw [txtL, cntL]; simp; omega
theorem map_B (l : List S24) : List.map (fun x => x.data.toList) (List.map (fun x => B (txt x)) l) = l.map txt := by
  rw [List.map_map]; exact List.map_congr_left (fun x _ => B_list _)
theorem ev_txt : ∀ (d : Nat) (x : S24), Fit d x → Num d x → okx x = true → cnt x ≤ 1000000 → Ev (fun k => expr_text.f k x.f0 x.f1 x.f2) (B (txt x))
  | 0, _, h, _, _, _ => h.elim
  | d + 1, x, ⟨hl, hx⟩, ⟨hn, hnx⟩, ho, hc => by
    obtain ⟨h1, h2, h3⟩ := ok_parts ho
    rw [cnt_eq] at hc
    have hop : 0 ≤ x.f0 ∧ x.f0 < 15 := by rcases ar_cases h1 with h | h | h <;> omega
    have hlen : x.f2.length ≤ 3 := by rcases ar_cases h1 with h | h | h <;> omega
    have loop : ¬ x.f0 = 1 → 0 < x.f2.length → ∀ (m i : Nat), x.f2.length = i + m → Ev (fun k => expr_text.l0 k ((x.f2.take i).map fun y => B (txt y)) x.f2 (x.f2.length : Int) (i : Int) x.f0 x.f1 x.f2) (B (txt x)) := by
      intro hne hpos m
      induction m with
      | zero =>
        intro i hi
        have hti : x.f2.take i = x.f2 := List.take_of_length_le (by omega)
        refine Ev.step (f := ?f1) (fun k => ?h1) ?r1
        case h1 => conv => lhs; rw [expr_text.l0, if_neg (by omega), hti]
        have hw := wd_len x.f0
        have hL := txtL_mem_len hnx
        refine Ev.bind (ev_word x.f0 hop.1 hop.2) (ev_pos (by rw [B_size]; omega) ?_)
        have hj : Ev (fun _ => strings_Join.f (x.f2.map fun y => B (txt y)) ⟨#[44, 32]⟩) (B (txtL x.f2)) := by
          unfold strings_Join.f
          rw [map_B]
          have e : (⟨#[44, 32]⟩ : ByteArray).data.toList = [44, 32] := rfl
          rw [e, join_txt]
          exact ev_pos (by simp; omega) (ev_pos (by omega) (Ev.now _))
        refine Ev.bind hj ?_
        have e40 : (⟨#[40]⟩ : ByteArray) = B [40] := rfl
        have e41 : (⟨#[41]⟩ : ByteArray) = B [41] := rfl
        rw [e40, e41, B_append, B_append, B_append, B_size, B_size, B_size]
        refine ev_pos (by simp; omega) (ev_pos (by simp; omega) (ev_now ?_))
        rw [txt_eq, if_neg hne, if_neg (by omega)]
        simp
      | succ m ih =>
        intro i hi
        have hlt : i < x.f2.length := by omega
        have hm := cntL_mem (List.getElem_mem hlt)
        refine Ev.step (f := ?f2) (fun k => ?h2) ?r2
        case h2 => conv => lhs; rw [expr_text.l0, if_pos (by omega), if_pos (by omega), if_pos (by omega), rd24_at hlt, step_i hlt hl]
        refine Ev.bind (ev_txt d _ (hx _ (List.getElem_mem hlt)) (hnx _ (List.getElem_mem hlt)) (okL_at h3 i hlt) (by omega)) (ev_pos (by simp; omega) ?_)
        have := ih (i + 1) (by omega)
        rw [List.take_add_one, List.getElem?_eq_getElem hlt] at this
        simp only [Option.toList_some, List.map_append, List.map_cons, List.map_nil] at this
        exact this
    refine Ev.step (f := ?f4) (fun k => ?h4) ?r4
    case h4 => conv => lhs; rw [expr_text.f]
    have e0 : x.f0 = 1 → Ev (fun _ => strconv_FormatInt_32.f x.f1 10) (B (Lib.itoa x.f1)) := fun _ => by
      unfold strconv_FormatInt_32.f
      exact ev_pos rfl (ev_pos hn.1 (ev_pos hn.2 (Ev.now _)))
    refine ev_ite (fun h => ?_) (fun h => ?_)
    · refine Ev.bind (e0 h) ?_
      have := Lib.itoa_length_le x.f1 hn.1 hn.2
      refine ev_pos (by rw [B_size]; omega) (ev_now ?_)
      rw [txt_eq, if_pos h, show (⟨#[99]⟩ : ByteArray) = B [99] from rfl, B_append]
      rfl
    · refine ev_ite (fun h0 => ?_) (fun h0 => ?_)
      · refine Ev.bind (ev_word x.f0 hop.1 hop.2) (ev_now ?_)
        rw [txt_eq, if_neg h, if_pos (by omega)]
      · exact loop h (by omega) x.f2.length 0 (by omega)
theorem ev_txt7 : ∀ (d : Nat) (x : S24), Fit d x → Num d x → okx x = true → cnt x ≤ 1000000 → Ev (fun k => leatref7_Text.f k x.f0 x.f1 x.f2) (B (txt x))
  | 0, _, h, _, _, _ => h.elim
  | d + 1, x, ⟨hl, hx⟩, ⟨hn, hnx⟩, ho, hc => by
    obtain ⟨h1, h2, h3⟩ := ok_parts ho
    rw [cnt_eq] at hc
    have e2c : (⟨#[44, 32]⟩ : ByteArray) = B [44, 32] := rfl
    have e40 : (⟨#[40]⟩ : ByteArray) = B [40] := rfl
    have e41 : (⟨#[41]⟩ : ByteArray) = B [41] := rfl
    have loopT : ∀ (m i : Nat) (s : List UInt8), x.f2.length = i + m → 1 ≤ i → s.length + 40 * cntL (x.f2.drop i) ≤ 100000000 → Ev (fun k => leatref7_Text.l0 k (B s) (i : Int) x.f0 x.f1 x.f2) (B (s ++ (txtT (x.f2.drop i) ++ [41]))) := by
      intro m
      induction m with
      | zero =>
        intro i s hi hi1 hs
        refine Ev.step (f := ?f1) (fun k => ?h1) ?r1
        case h1 => conv => lhs; rw [leatref7_Text.l0, if_neg (by omega), e41, B_append, B_size]
        refine ev_pos (by omega) (ev_now ?_)
        rw [List.drop_of_length_le (by omega), txtT]; rfl
      | succ m ih =>
        intro i s hi hi1 hs
        have hlt : i < x.f2.length := by omega
        have hm := cntL_mem (List.getElem_mem hlt)
        have hln := txt_len d _ (hnx _ (List.getElem_mem hlt))
        rw [cntL_drop hlt] at hs
        refine Ev.step (f := ?f2) (fun k => ?h2) ?r2
        case h2 => conv => lhs; rw [leatref7_Text.l0, if_pos (show (i : Int) < (x.f2.length : Int) by omega), if_pos (show (i : Int) > 0 by omega), e2c, B_append, B_size, B_size, rd24_at hlt, step_i hlt hl, if_pos (show s.length + 2 ≤ 9223372036854775807 by omega), if_pos (show (0 : Int) ≤ (i : Int) by omega)]
        refine Ev.bind (ev_txt7 d _ (hx _ (List.getElem_mem hlt)) (hnx _ (List.getElem_mem hlt)) (okL_at h3 i hlt) (by omega)) ?_
        rw [B_append, B_size]
        refine ev_pos (by simp; omega) ?_
        have := ih (i + 1) (s ++ [44, 32] ++ txt x.f2[i]) (by omega) (by omega) (by simp; omega)
        rw [txtT_drop hlt]
        simpa using this
    have loop : ∀ (s : List UInt8), 0 < x.f2.length → s.length ≤ 100 → Ev (fun k => leatref7_Text.l0 k (B s) 0 x.f0 x.f1 x.f2) (B (s ++ (txtL x.f2 ++ [41]))) := by
      intro s hlt hs
      have hm := cntL_mem (List.getElem_mem hlt)
      have hln := txt_len d _ (hnx _ (List.getElem_mem hlt))
      have hcd := cntL_drop hlt
      rw [List.drop_zero] at hcd
      have h00 : rd_T24 x.f2 0 = x.f2[0] := rd24_at hlt
      refine Ev.step (f := ?f3) (fun k => ?h3) ?r3
      case h3 => conv => lhs; rw [leatref7_Text.l0, if_pos (show (0 : Int) < (x.f2.length : Int) by omega), if_neg (show ¬ (0 : Int) > 0 by omega), h00, show wrap64 (0 + 1) = ((1 : Nat) : Int) from by unfold wrap64; omega, if_pos (show (0 : Int) ≤ 0 by omega)]
      refine Ev.bind (ev_txt7 d _ (hx _ (List.getElem_mem hlt)) (hnx _ (List.getElem_mem hlt)) (okL_at h3 0 hlt) (by omega)) ?_
      rw [B_append, B_size, B_size]
      refine ev_pos (by omega) ?_
      have := loopT (x.f2.length - 1) 1 (s ++ txt x.f2[0]) (by omega) (by omega) (by simp at hcd ⊢; omega)
      have e : txtL x.f2 = txt x.f2[0] ++ txtT (x.f2.drop 1) := by
        have := List.drop_eq_getElem_cons hlt
        rw [List.drop_zero] at this
        conv => lhs; rw [this]
        rw [txtL]
      rw [e]
      simpa using this
    refine Ev.step (f := ?f4) (fun k => ?h4) ?r4
    case h4 => conv => lhs; rw [leatref7_Text.f]
    refine ev_ite (fun h => ?_) (fun e1 => ?_)
    · refine Ev.bind (ev_Dec x.f1 hn.1 hn.2) ?_
      have := Lib.itoa_length_le x.f1 hn.1 hn.2
      refine ev_pos (by rw [B_size]; omega) (ev_now ?_)
      rw [txt_eq, if_pos h, show (⟨#[99]⟩ : ByteArray) = B [99] from rfl, B_append]
      rfl
    have leaf : x.f0 = 2 ∨ x.f0 = 3 ∨ x.f0 = 4 → B (txt x) = B (wd x.f0) := fun hh => by
      rw [txt_eq, if_neg e1, if_pos (by rcases ar_cases h1 with h | h | h <;> omega)]
    refine ev_ite (fun h => ev_now (by rw [leaf (.inl h), h]; rfl)) (fun e2 => ?_)
    refine ev_ite (fun h => ev_now (by rw [leaf (.inr (.inl h)), h]; rfl)) (fun e3 => ?_)
    refine ev_ite (fun h => ev_now (by rw [leaf (.inr (.inr h)), h]; rfl)) (fun e4 => ?_)
    have hop : 5 ≤ x.f0 ∧ x.f0 ≤ 14 ∧ 0 < x.f2.length := by rcases ar_cases h1 with h | h | h <;> omega
    simp only [Option.bind_some]
    have hw5 : wrap64 (x.f0 - 5) = x.f0 - 5 := by unfold wrap64; omega
    have hw : rdOf ByteArray.empty [(⟨#[97, 100, 100]⟩ : ByteArray), ⟨#[115, 117, 98]⟩, ⟨#[109, 117, 108]⟩, ⟨#[109, 105, 110]⟩, ⟨#[109, 97, 120]⟩, ⟨#[120, 111, 114]⟩, ⟨#[97, 110, 100]⟩, ⟨#[108, 116]⟩, ⟨#[101, 113]⟩, ⟨#[105, 102]⟩] (wrap64 (x.f0 - 5)) = B (wd x.f0) := by
      have : x.f0 = 5 ∨ x.f0 = 6 ∨ x.f0 = 7 ∨ x.f0 = 8 ∨ x.f0 = 9 ∨ x.f0 = 10 ∨ x.f0 = 11 ∨ x.f0 = 12 ∨ x.f0 = 13 ∨ x.f0 = 14 := by omega
      rw [hw5]
      rcases this with h | h | h | h | h | h | h | h | h | h <;> rw [h] <;> rfl
    have hwl := wd_len x.f0
    refine ev_pos (by omega) (ev_pos (by simp; omega) ?_)
    rw [hw, e40, B_append, B_size]
    refine ev_pos (by omega) ?_
    have := loop (wd x.f0 ++ [40]) hop.2.2 (by simp; omega)
    rw [txt_eq, if_neg e1, if_neg (by omega)]
    simpa using this
theorem ev_Text {d : Nat} {x : S24} (h : Fit d x) (hn : Num d x) (hc : cnt x ≤ 1000000) : Ev (fun k => expr_Text.f k x.f0 x.f1 x.f2) (if chk x = 0 then B (txt x) else B []) := by
  unfold expr_Text.f
  refine Ev.bind (ev_check h hc) ?_
  refine ev_ite (fun h1 => ?_) (fun h1 => by rw [if_neg h1]; exact Ev.now _)
  rw [if_pos h1]
  exact Ev.bind (ev_txt d x h hn (chk_ok h1).1 hc) (Ev.now _)
end Go.Proofs.YtdmfakgbiaaacaaDoor.X
namespace Go.Proofs.YtdmfakgbiaaacaaDoor.X
open Go.RowKit Go.Proofs.YtdmfakgbiaaacaaDoorW.PrintWords Go.Proofs.YtdmfakgbiaaacaaDoor.Op
set_option linter.unusedVariables false
set_option linter.unusedSimpArgs false
theorem bytes_loop (b : ByteArray) : ∀ (m i : Nat) (r : List UInt8), b.size - i = m → ByteArray.toList.loop b i r = r.reverse ++ b.data.toList.drop i := by
  intro m
  induction m with
  | zero =>
    intro i r h
    rw [ByteArray.toList.loop, if_neg (by omega), List.drop_of_length_le (by simp; have : b.data.size = b.size := rfl; omega), List.append_nil]
  | succ m ih =>
    intro i r h
    have hlt : i < b.data.toList.length := by simp; have : b.data.size = b.size := rfl; omega
    have hlt2 : i < b.size := by omega
    rw [ByteArray.toList.loop, if_pos hlt2, ih (i + 1) _ (by omega), List.drop_eq_getElem_cons hlt]
    simp [ByteArray.get!, getElem!_pos, hlt2, show i < b.data.size from hlt2]
theorem bytes_list (b : ByteArray) : b.toList = b.data.toList := by
  unfold ByteArray.toList
  rw [bytes_loop b _ 0 [] rfl]
  simp
theorem g24_up : ∀ (n : Nat) (x : S24), G24 n x → G24 (n + 1) x
  | 0, _, h => h.elim
  | n + 1, x, ⟨h0, h1, h2, h3, h4⟩ => ⟨h0, h1, h2, h3, fun y hy => g24_up n y (h4 y hy)⟩
theorem g24_le {n m : Nat} (h : n ≤ m) {x : S24} (hx : G24 n x) : G24 m x := by
  obtain ⟨k, rfl⟩ := Nat.exists_eq_add_of_le h
  clear h
  induction k with
  | zero => exact hx
  | succ k ih => exact g24_up _ _ ih
theorem good_of {op n : Int} {l : List S24} (h0 : (Lit.int .i64 op).wf = true) (h1 : (Lit.int .i64 n).wf = true) (hl : l.length * 40 ≤ 140737488351232 ∧ l.length ≤ 9223372036854775807 ∧ ∀ x ∈ l, Good24 x) : ∃ d, G24 d ⟨op, n, l⟩ := by
  obtain ⟨h2, h3, h4⟩ := hl
  have : ∃ d, ∀ x ∈ l, G24 d x := by
    clear h2 h3
    induction l with
    | nil => exact ⟨0, fun x hx => absurd hx (by simp)⟩
    | cons y l ih =>
      obtain ⟨a, ha⟩ := ih (fun x hx => h4 x (by simp [hx]))
      obtain ⟨b, hb⟩ := h4 y (by simp)
      refine ⟨a + b, fun x hx => ?_⟩
      rcases List.mem_cons.1 hx with rfl | hx
      · exact g24_le (by omega) hb
      · exact g24_le (by omega) (ha x hx)
  obtain ⟨d, hd⟩ := this
  exact ⟨d + 1, h0, h1, h2, h3, hd⟩
end Go.Proofs.YtdmfakgbiaaacaaDoor.X
namespace Go.Proofs.YtdmfakgbiaaacaaDoor.Pure
open Go.RowKit Go.Proofs.YtdmfakgbiaaacaaDoorW.PrintWords Go.Proofs.YtdmfakgbiaaacaaDoor.X Go.Proofs.YtdmfakgbiaaacaaDoor.Op
set_option linter.unusedVariables false
theorem ExprCheck : Op.ExprCheckPure := by
  intro op n l r0 r1 r2 hop hn hl h0 h1 h2
  obtain ⟨d, hd⟩ := good_of hop hn hl
  have hF := fit24 d _ hd
  have hN := num24 d _ hd
  apply Ev.rounds
  apply sp_eq
  unfold leatlaw7_ExprCheck.f
  refine sp_bind (P := (· = true)) (sp_now (by rfl)) (fun t ht => ?_)
  subst ht
  refine sp_ite (fun _ => ?_) (fun h => absurd rfl h)
  refine sp_bind (sp_lightness hF) (fun t ht => ?_)
  refine sp_ite (fun hb => ?_) (fun _ => sp_now rfl)
  have hc := ht hb
  refine sp_bind (sp_some (ev_check7 hF (by omega)) rfl) (fun f hf => ?_)
  subst hf
  refine sp_bind (sp_some (ev_check hF (by omega)) rfl) (fun f hf => ?_)
  subst hf
  refine sp_ite (fun _ => ?_) (fun h => absurd rfl h)
  refine sp_ite (fun hz => ?_) (fun hz => ?_)
  · refine sp_bind (sp_some (ev_Eval r0 r1 r2 hF (by omega)) rfl) (fun v hv => ?_)
    subst hv
    refine sp_bind (sp_some (ev_val7 r0 r1 r2 d _ hF) rfl) (fun v hv => ?_)
    subst hv
    refine sp_ite (fun _ => ?_) (fun h => absurd (by rw [if_pos hz]) h)
    refine sp_bind (sp_some (ev_Text hF hN (by omega)) rfl) (fun v hv => ?_)
    subst hv
    refine sp_bind (sp_some (ev_txt7 d _ hF hN (chk_ok hz).1 (by omega)) rfl) (fun v hv => ?_)
    subst hv
    rw [if_pos hz]
    exact sp_now (by simp)
  · refine sp_bind (sp_some (ev_Eval r0 r1 r2 hF (by omega)) rfl) (fun v hv => ?_)
    subst hv
    refine sp_ite (fun _ => ?_) (fun h => absurd (by rw [if_neg hz]) h)
    refine sp_bind (sp_some (ev_Text hF hN (by omega)) rfl) (fun v hv => ?_)
    subst hv
    rw [if_neg hz]
    exact sp_now (by rw [bytes_list, B_list]; rfl)
end Go.Proofs.YtdmfakgbiaaacaaDoor.Pure
