/- What is asked of the law ExprTexts, in plain Lean. No conditions. -/
import Derived.Test.YtdmfakgbiaaacaaDoorMExprTexts12
import Derived.Test.YtdmfakgbiaaacaaDoorMExprTexts11
namespace Go.Proofs.YtdmfakgbiaaacaaDoor.Op
open Go.RowKit Go.Proofs.YtdmfakgbiaaacaaDoorW.PrintWords Go.Proofs.YtdmfakgbiaaacaaDoor.X
def ExprTextsPure : Prop := ∀ (a0_0 : Int) (a0_1 : Int) (l0_2 : List (S24)) (a1_0 : Int) (a1_1 : Int) (l1_2 : List (S24)), ((Lit.int .i64 a0_0).wf = true) → ((Lit.int .i64 a0_1).wf = true) → (l0_2.length * 40 ≤ 140737488351232 ∧ l0_2.length ≤ 9223372036854775807 ∧ ∀ x ∈ l0_2, Good24 x) → ((Lit.int .i64 a1_0).wf = true) → ((Lit.int .i64 a1_1).wf = true) → (l1_2.length * 40 ≤ 140737488351232 ∧ l1_2.length ≤ 9223372036854775807 ∧ ∀ x ∈ l1_2, Good24 x) → ∃ k, leatlaw7_ExprTexts.f k a0_0 a0_1 l0_2 a1_0 a1_1 l1_2 = some true
end Go.Proofs.YtdmfakgbiaaacaaDoor.Op
namespace Go.Proofs.YtdmfakgbiaaacaaDoor.X
open Go.RowKit Go.Proofs.YtdmfakgbiaaacaaDoorW.PrintWords Go.Proofs.YtdmfakgbiaaacaaDoor.Op
set_option linter.unusedVariables false
set_option linter.unusedSimpArgs false
section
variable {α β : Type}
theorem ev_pos {c : Prop} [Decidable c] {f g : Nat → Option α} {r : α} (h : c) (k : Ev f r) : Ev (fun n => if c then f n else g n) r := Ev.congr (fun _ => if_pos h) k
theorem ev_neg {c : Prop} [Decidable c] {f g : Nat → Option α} {r : α} (h : ¬ c) (k : Ev g r) : Ev (fun n => if c then f n else g n) r := Ev.congr (fun _ => if_neg h) k
theorem ev_now {r r' : α} (h : r' = r) : Ev (fun _ => some r') r := h ▸ Ev.now _
theorem ev_ite {c : Prop} [Decidable c] {f g : Nat → Option α} {r : α} (h : c → Ev f r) (k : ¬ c → Ev g r) : Ev (fun n => if c then f n else g n) r := by
  by_cases hc : c
  · exact ev_pos hc (h hc)
  · exact ev_neg hc (k hc)
def Sp (P : α → Prop) (f : Nat → Option α) : Prop := ∃ r, P r ∧ Ev f r
theorem sp_now {P : α → Prop} {r : α} (h : P r) : Sp P (fun _ => some r) := ⟨r, h, Ev.now r⟩
theorem sp_ite {P : α → Prop} {c : Prop} [Decidable c] {f g : Nat → Option α} (h : c → Sp P f) (k : ¬ c → Sp P g) : Sp P (fun n => if c then f n else g n) := by
  by_cases hc : c
  · obtain ⟨r, hp, hr⟩ := h hc; exact ⟨r, hp, ev_pos hc hr⟩
  · obtain ⟨r, hp, hr⟩ := k hc; exact ⟨r, hp, ev_neg hc hr⟩
theorem sp_bind {P : α → Prop} {Q : β → Prop} {g : Nat → Option α} {f : Nat → α → Option β} (h : Sp P g) (k : ∀ a, P a → Sp Q (fun n => f n a)) : Sp Q (fun n => (g n).bind (f n)) := by
  obtain ⟨a, hp, ha⟩ := h
  obtain ⟨r, hq, hr⟩ := k a hp
  exact ⟨r, hq, Ev.bind ha hr⟩
theorem sp_step {P : α → Prop} {g f : Nat → Option α} (h : ∀ k, g (k + 1) = f k) (k : Sp P f) : Sp P g := by
  obtain ⟨r, hp, hr⟩ := k; exact ⟨r, hp, Ev.step h hr⟩
theorem sp_mono {P Q : α → Prop} {f : Nat → Option α} (h : Sp P f) (k : ∀ r, P r → Q r) : Sp Q f := by
  obtain ⟨r, hp, hr⟩ := h; exact ⟨r, k r hp, hr⟩
theorem sp_some {P : α → Prop} {f : Nat → Option α} {r : α} (h : Ev f r) (hp : P r) : Sp P f := ⟨r, hp, h⟩
theorem sp_eq {r : α} {f : Nat → Option α} (h : Sp (· = r) f) : Ev f r := by obtain ⟨_, rfl, h⟩ := h; exact h
end
theorem step_i {i n : Nat} (h : i < n) (hn : n ≤ 9223372036854775807) : wrap64 ((i : Int) + 1) = ((i + 1 : Nat) : Int) := by unfold wrap64; omega
theorem rd24_at {l : List S24} {i : Nat} (h : i < l.length) : rd_T24 l (i : Int) = l[i] := by simp [rd_T24, h]
def ar (op : Int) : Int := if 1 ≤ op ∧ op ≤ 4 then 0 else if op = 14 then 3 else if 5 ≤ op ∧ op ≤ 13 then 2 else -1
mutual
def cnt : S24 → Nat
  | ⟨_, _, l⟩ => cntL l + 1
def cntL : List S24 → Nat
  | [] => 0
  | x :: l => cnt x + cntL l
end
mutual
def dep : S24 → Nat
  | ⟨_, _, l⟩ => depL l + 1
def depL : List S24 → Nat
  | [] => 0
  | x :: l => max (dep x) (depL l)
end
mutual
def okx : S24 → Bool
  | ⟨op, n, l⟩ => (ar op == (l.length : Int)) && ((n == 0 || op == 1) && okL l)
def okL : List S24 → Bool
  | [] => true
  | x :: l => okx x && okL l
end
theorem cnt_eq (x : S24) : cnt x = cntL x.f2 + 1 := by cases x; rw [cnt]
theorem dep_eq (x : S24) : dep x = depL x.f2 + 1 := by cases x; rw [dep]
theorem okx_eq (x : S24) : okx x = ((ar x.f0 == (x.f2.length : Int)) && ((x.f1 == 0 || x.f0 == 1) && okL x.f2)) := by cases x; rw [okx]
mutual
theorem dep_cnt : ∀ x : S24, dep x ≤ cnt x
  | ⟨_, _, l⟩ => by rw [dep, cnt]; have := depL_cnt l; omega
theorem depL_cnt : ∀ l : List S24, depL l ≤ cntL l
  | [] => by rw [depL, cntL]; omega
  | x :: l => by rw [depL, cntL]; have := dep_cnt x; have := depL_cnt l; omega
end
theorem cntL_mem {x : S24} : ∀ {l : List S24}, x ∈ l → cnt x ≤ cntL l
  | y :: l, h => by
    rw [cntL]
    rcases List.mem_cons.1 h with rfl | h
    · omega
    · have := cntL_mem h; omega
def Fit : Nat → S24 → Prop
  | 0, _ => False
  | n + 1, x => x.f2.length ≤ 9223372036854775807 ∧ ∀ y ∈ x.f2, Fit n y
theorem fit24 : ∀ (n : Nat) (x : S24), G24 n x → Fit n x
  | 0, _, h => h.elim
  | n + 1, x, ⟨_, _, _, h2, h3⟩ => ⟨h2, fun y hy => fit24 n y (h3 y hy)⟩
theorem ev_arity (a : Int) : Ev (fun k => expr_arity.f k a) (ar a) := by
  refine ⟨1, fun k hk => ?_⟩
  obtain ⟨k, rfl⟩ : ∃ m, k = m + 1 := ⟨k - 1, by omega⟩
  unfold expr_arity.f
  simp only [expr_arity.j0]
  unfold ar
  by_cases h1 : a = 1
  · subst h1; rfl
  by_cases h2 : a = 2
  · subst h2; rfl
  by_cases h3 : a = 3
  · subst h3; rfl
  by_cases h4 : a = 4
  · subst h4; rfl
  rw [if_neg h1, if_neg h2, if_neg h3, if_neg (by simpa using h4), if_neg (show ¬ (1 ≤ a ∧ a ≤ 4) by omega)]
  by_cases h5 : a = 14
  · rw [if_pos h5, if_pos h5]
  rw [if_neg h5, if_neg h5]
  by_cases h6 : a > 4
  · rw [if_pos h6]
    by_cases h7 : a < 14
    · rw [if_pos h7, if_pos (by omega)]
    · rw [if_neg h7, if_neg (by omega)]
  · rw [if_neg h6, if_neg (by omega)]
theorem ev_arity7 (a : Int) : Ev (fun k => leatref7_arity.f k a) (ar a) := by
  refine ⟨1, fun k hk => ?_⟩
  obtain ⟨k, rfl⟩ : ∃ m, k = m + 1 := ⟨k - 1, by omega⟩
  unfold leatref7_arity.f
  simp only [leatref7_arity.j0]
  unfold ar
  by_cases h1 : 1 ≤ a ∧ a ≤ 4
  · rw [if_pos h1, if_pos h1.1, if_pos (by simpa using h1.2)]
  rw [if_neg h1]
  have e : (if a ≥ 1 then (if decide (a ≤ 4) = true then some (0 : Int) else if a = 14 then some 3 else if a ≥ 5 then if a ≤ 13 then some 2 else some (-1) else some (-1)) else
    (if false = true then some (0 : Int) else if a = 14 then some 3 else if a ≥ 5 then if a ≤ 13 then some 2 else some (-1) else some (-1))) = (if a = 14 then some 3 else if a ≥ 5 then if a ≤ 13 then some 2 else some (-1) else some (-1)) := by
    by_cases h2 : a ≥ 1
    · rw [if_pos h2, if_neg (by simp; omega)]
    · rw [if_neg h2, if_neg (by simp)]
  rw [e]
  by_cases h5 : a = 14
  · rw [if_pos h5, if_pos h5]
  rw [if_neg h5, if_neg h5]
  by_cases h6 : a ≥ 5
  · rw [if_pos h6]
    by_cases h7 : a ≤ 13
    · rw [if_pos h7, if_pos (by omega)]
    · rw [if_neg h7, if_neg (by omega)]
  · rw [if_neg h6, if_neg (by omega)]
theorem okL_drop {l : List S24} {i : Nat} (h : i < l.length) : okL (l.drop i) = (okx l[i] && okL (l.drop (i + 1))) := by rw [List.drop_eq_getElem_cons h, okL]
theorem ev_right : ∀ (d : Nat) (x : S24), Fit d x → Ev (fun k => expr_right.f k x.f0 x.f1 x.f2) (okx x)
  | 0, _, h => h.elim
  | d + 1, x, ⟨hl, hx⟩ => by
    have loop : ∀ (m i : Nat), x.f2.length = i + m → Ev (fun k => expr_right.l0 k x.f2 (x.f2.length : Int) (i : Int)) (okL (x.f2.drop i)) := by
      intro m
      induction m with
      | zero =>
        intro i hi
        refine Ev.step (f := ?f1) (fun k => ?h1) ?r1
        case h1 => conv => lhs; rw [expr_right.l0, if_neg (by omega)]
        exact ev_now (by rw [List.drop_of_length_le (by omega), okL])
      | succ m ih =>
        intro i hi
        have hlt : i < x.f2.length := by omega
        refine Ev.step (f := ?f2) (fun k => ?h2) ?r2
        case h2 => conv => lhs; rw [expr_right.l0, if_pos (by omega), if_pos (by omega), if_pos (by omega), rd24_at hlt, step_i hlt hl]
        refine Ev.bind (ev_right d _ (hx _ (List.getElem_mem hlt))) ?_
        rw [okL_drop hlt]
        exact ev_ite (fun h => by rw [h, Bool.true_and]; exact ih (i + 1) (by omega)) (fun h => ev_now (by rw [Bool.eq_false_iff.2 h, Bool.false_and]))
    have j0 : ∀ b : Bool, Ev (fun k => expr_right.j0 k b x.f0 x.f1 x.f2) (!b && okL x.f2) := by
      intro b
      refine Ev.step (f := ?f3) (fun k => ?h3) ?r3
      case h3 => conv => lhs; rw [expr_right.j0]
      exact ev_ite (fun h => ev_now (by rw [h]; rfl)) (fun h => by
        rw [Bool.eq_false_iff.2 h]; exact loop x.f2.length 0 (by omega))
    refine Ev.step (f := ?f4) (fun k => ?h4) ?r4
    case h4 => conv => lhs; rw [expr_right.f]
    refine Ev.bind (ev_arity x.f0) ?_
    rw [okx_eq]
    refine ev_ite (fun h1 => ?_) (fun h1 => ?_)
    · rw [show (ar x.f0 == (x.f2.length : Int)) = true from by simpa using h1, Bool.true_and]
      refine ev_ite (fun h2 => ?_) (fun h2 => ?_)
      · rw [show (x.f1 == 0) = true from by simpa using h2, Bool.true_or, Bool.true_and]; simpa using j0 false
      · rw [show (x.f1 == 0) = false from by simpa using h2, Bool.false_or]
        have := j0 (x.f0 != 1)
        simpa [bne] using this
    · rw [show (ar x.f0 == (x.f2.length : Int)) = false from by simpa using h1, Bool.false_and]
      exact j0 true
theorem ev_formed : ∀ (d : Nat) (x : S24), Fit d x → Ev (fun k => leatref7_formed.f k x.f0 x.f1 x.f2) (okx x)
  | 0, _, h => h.elim
  | d + 1, x, ⟨hl, hx⟩ => by
    have loop : ∀ (m i : Nat), x.f2.length = i + m → Ev (fun k => leatref7_formed.l0 k (i : Int) x.f0 x.f1 x.f2) (okL (x.f2.drop i)) := by
      intro m
      induction m with
      | zero =>
        intro i hi
        refine Ev.step (f := ?f1) (fun k => ?h1) ?r1
        case h1 => conv => lhs; rw [leatref7_formed.l0, if_neg (by omega)]
        exact ev_now (by rw [List.drop_of_length_le (by omega), okL])
      | succ m ih =>
        intro i hi
        have hlt : i < x.f2.length := by omega
        refine Ev.step (f := ?f2) (fun k => ?h2) ?r2
        case h2 => conv => lhs; rw [leatref7_formed.l0, if_pos (by omega), if_pos (by omega), rd24_at hlt, step_i hlt hl]
        refine Ev.bind (ev_formed d _ (hx _ (List.getElem_mem hlt))) ?_
        rw [okL_drop hlt]
        exact ev_ite (fun h => by rw [h, Bool.true_and]; exact ih (i + 1) (by omega)) (fun h => ev_now (by rw [Bool.eq_false_iff.2 h, Bool.false_and]))
    have j0 : ∀ b : Bool, Ev (fun k => leatref7_formed.j0 k b x.f0 x.f1 x.f2) (!b && okL x.f2) := by
      intro b
      refine Ev.step (f := ?f3) (fun k => ?h3) ?r3
      case h3 => conv => lhs; rw [leatref7_formed.j0]
      exact ev_ite (fun h => ev_now (by rw [h]; rfl)) (fun h => by
        rw [Bool.eq_false_iff.2 h]; exact loop x.f2.length 0 (by omega))
    refine Ev.step (f := ?f4) (fun k => ?h4) ?r4
    case h4 => conv => lhs; rw [leatref7_formed.f]
    refine Ev.bind (ev_arity7 x.f0) ?_
    rw [okx_eq]
    refine ev_ite (fun h0 => ?_) (fun h0 => ?_)
    · rw [show (ar x.f0 == (x.f2.length : Int)) = false from by simp; omega, Bool.false_and]
      exact j0 true
    refine Ev.bind (ev_arity7 x.f0) ?_
    refine ev_ite (fun h1 => ?_) (fun h1 => ?_)
    · rw [show (ar x.f0 == (x.f2.length : Int)) = true from by simpa using h1.symm, Bool.true_and]
      refine ev_ite (fun h2 => ?_) (fun h2 => ?_)
      · rw [show (x.f1 == 0) = true from by simpa using h2, Bool.true_or, Bool.true_and]; simpa using j0 false
      · rw [show (x.f1 == 0) = false from by simpa using h2, Bool.false_or]
        have := j0 (x.f0 != 1)
        simpa [bne] using this
    · rw [show (ar x.f0 == (x.f2.length : Int)) = false from by simpa using fun h => h1 h.symm, Bool.false_and]
      exact j0 true
theorem mx_nat (a b : Nat) : mx (a : Int) (b : Int) = ((max a b : Nat) : Int) := by unfold mx; split <;> omega
theorem wr_add (a b : Nat) (h : a + b ≤ 4611686018427387904) : wrap64 ((a : Int) + (b : Int)) = ((a + b : Nat) : Int) := by unfold wrap64; omega
theorem wr_one (a : Nat) (h : a ≤ 4611686018427387904) : wrap64 ((a : Int) + 1) = ((a + 1 : Nat) : Int) := by unfold wrap64; omega
theorem cntL_drop {l : List S24} {i : Nat} (h : i < l.length) : cntL (l.drop i) = cnt l[i] + cntL (l.drop (i + 1)) := by rw [List.drop_eq_getElem_cons h, cntL]
theorem depL_drop {l : List S24} {i : Nat} (h : i < l.length) : depL (l.drop i) = max (dep l[i]) (depL (l.drop (i + 1))) := by rw [List.drop_eq_getElem_cons h, depL]
theorem ev_size : ∀ (d : Nat) (x : S24), Fit d x → cnt x ≤ 1000000 → Ev (fun k => expr_size.f k x.f0 x.f1 x.f2) ((cnt x : Int), (dep x : Int))
  | 0, _, h, _ => h.elim
  | d + 1, x, ⟨hl, hx⟩, hc => by
    rw [cnt_eq] at hc
    have loop : ∀ (m i a b : Nat), x.f2.length = i + m → a + cntL (x.f2.drop i) ≤ 1000000 → b ≤ 1000000 → Ev (fun k => expr_size.l0 k (a : Int) (b : Int) x.f2 (x.f2.length : Int) (i : Int)) (((a + cntL (x.f2.drop i) + 1 : Nat) : Int), ((max b (depL (x.f2.drop i)) + 1 : Nat) : Int)) := by
      intro m
      induction m with
      | zero =>
        intro i a b hi ha hb
        refine Ev.step (f := ?f1) (fun k => ?h1) ?r1
        case h1 => conv => lhs; rw [expr_size.l0, if_neg (by omega), wr_one a (by omega), wr_one b (by omega)]
        refine ev_now ?_
        rw [List.drop_of_length_le (by omega), cntL, depL]; simp
      | succ m ih =>
        intro i a b hi ha hb
        have hlt : i < x.f2.length := by omega
        rw [cntL_drop hlt] at ha
        have hdc := dep_cnt x.f2[i]
        refine Ev.step (f := ?f2) (fun k => ?h2) ?r2
        case h2 => conv => lhs; rw [expr_size.l0, if_pos (by omega), if_pos (by omega), if_pos (by omega), rd24_at hlt, step_i hlt hl]
        refine Ev.bind (ev_size d _ (hx _ (List.getElem_mem hlt)) (by omega)) ?_
        simp only
        rw [wr_add a _ (by omega), mx_nat]
        have := ih (i + 1) (a + cnt x.f2[i]) (max b (dep x.f2[i])) (by omega) (by omega) (by omega)
        rw [cntL_drop hlt, depL_drop hlt, ← Nat.add_assoc, ← Nat.max_assoc]
        exact this
    refine Ev.step (f := ?f4) (fun k => ?h4) ?r4
    case h4 => conv => lhs; rw [expr_size.f]
    have := loop x.f2.length 0 0 0 (by omega) (by simp; omega) (by omega)
    rw [cnt_eq, dep_eq]
    simpa using this
theorem ev_size7 : ∀ (d : Nat) (x : S24), Fit d x → cnt x ≤ 1000000 → Ev (fun k => leatref7_size.f k x.f0 x.f1 x.f2) ((cnt x : Int), (dep x : Int))
  | 0, _, h, _ => h.elim
  | d + 1, x, ⟨hl, hx⟩, hc => by
    rw [cnt_eq] at hc
    have loop : ∀ (m i a b : Nat), x.f2.length = i + m → a + cntL (x.f2.drop i) ≤ 2000000 → b ≤ 1000000 → Ev (fun k => leatref7_size.l0 k (a : Int) (b : Int) (i : Int) x.f0 x.f1 x.f2) (((a + cntL (x.f2.drop i) : Nat) : Int), ((max b (depL (x.f2.drop i)) + 1 : Nat) : Int)) := by
      intro m
      induction m with
      | zero =>
        intro i a b hi ha hb
        refine Ev.step (f := ?f1) (fun k => ?h1) ?r1
        case h1 => conv => lhs; rw [leatref7_size.l0, if_neg (by omega), wr_one b (by omega)]
        refine ev_now ?_
        rw [List.drop_of_length_le (by omega), cntL, depL]; simp
      | succ m ih =>
        intro i a b hi ha hb
        have hlt : i < x.f2.length := by omega
        have hm := cntL_mem (List.getElem_mem hlt)
        rw [cntL_drop hlt] at ha
        have hdc := dep_cnt x.f2[i]
        refine Ev.step (f := ?f2) (fun k => ?h2) ?r2
        case h2 => conv => lhs; rw [leatref7_size.l0, if_pos (by omega), if_pos (by omega), rd24_at hlt, step_i hlt hl]
        refine Ev.bind (ev_size7 d _ (hx _ (List.getElem_mem hlt)) (by omega)) ?_
        simp only
        rw [wr_add a _ (by omega), mx_nat]
        have := ih (i + 1) (a + cnt x.f2[i]) (max b (dep x.f2[i])) (by omega) (by omega) (by omega)
        rw [cntL_drop hlt, depL_drop hlt, ← Nat.add_assoc, ← Nat.max_assoc]
        exact this
    refine Ev.step (f := ?f4) (fun k => ?h4) ?r4
    case h4 => conv => lhs; rw [leatref7_size.f]
    have := loop x.f2.length 0 1 0 (by omega) (by simp; omega) (by omega)
    rw [cnt_eq, dep_eq]
    simpa [Nat.add_comm] using this
def chk (x : S24) : Int := if okx x then (if cnt x > 32 then 71 else if dep x > 8 then 71 else 0) else 70
theorem chk_ok {x : S24} (h : chk x = 0) : okx x = true ∧ cnt x ≤ 32 ∧ dep x ≤ 8 := by
  unfold chk at h
  split at h
  · rename_i ho
    split at h
    · cases h
    · split at h
      · cases h
      · exact ⟨ho, by omega, by omega⟩
  · cases h
theorem ev_check {d : Nat} {x : S24} (h : Fit d x) (hc : cnt x ≤ 1000000) : Ev (fun k => expr_Check.f k x.f0 x.f1 x.f2) (chk x) := by
  unfold expr_Check.f chk
  refine Ev.bind (ev_right d x h) ?_
  refine ev_ite (fun h1 => ?_) (fun h1 => ?_)
  · rw [if_pos h1]
    refine Ev.bind (ev_size d x h hc) ?_
    simp only
    exact ev_ite (fun h2 => ev_now (by rw [if_pos (by omega)])) (fun h2 => ev_ite (fun h3 => ev_now (by rw [if_neg (by omega), if_pos (by omega)])) (fun h3 => ev_now (by rw [if_neg (by omega), if_neg (by omega)])))
  · rw [if_neg h1]; exact ev_now rfl
theorem ev_check7 {d : Nat} {x : S24} (h : Fit d x) (hc : cnt x ≤ 1000000) : Ev (fun k => leatref7_Check.f k x.f0 x.f1 x.f2) (chk x) := by
  unfold leatref7_Check.f chk
  refine Ev.bind (ev_formed d x h) ?_
  refine ev_ite (fun h1 => ?_) (fun h1 => ?_)
  · rw [if_pos h1]
    refine Ev.bind (ev_size7 d x h hc) ?_
    simp only
    exact ev_ite (fun h2 => ev_now (by rw [if_pos (by omega)])) (fun h2 => ev_ite (fun h3 => ev_now (by rw [if_neg (by omega), if_pos (by omega)])) (fun h3 => ev_now (by rw [if_neg (by omega), if_neg (by omega)])))
  · rw [if_neg h1]; exact ev_now rfl
theorem sp_light : ∀ (d : Nat) (x : S24), Fit d x → ∀ (most deep : Int), 0 ≤ most → most ≤ 1000 → deep ≤ 1000 → 0 ≤ deep →
    Sp (fun r => 1 ≤ r ∧ r ≤ most + 1 ∧ (r ≤ most → r = (cnt x : Int))) (fun k => leatref7_Light.f k x.f0 x.f1 x.f2 most deep)
  | 0, _, h, _, _, _, _, _, _ => h.elim
  | d + 1, x, ⟨hl, hx⟩, most, deep, hm0, hm1, hd1, hd0 => by
    have loop : 1 ≤ deep → ∀ (m i : Nat) (n : Int), x.f2.length = i + m → 1 ≤ n → n ≤ most + 1 → Sp (fun r => n ≤ r ∧ r ≤ most + 1 ∧ (r ≤ most → r = n + (cntL (x.f2.drop i) : Int))) (fun k => leatref7_Light.l0 k most deep n (i : Int) x.f0 x.f1 x.f2) := by
      intro hd m
      induction m with
      | zero =>
        intro i n hi hn hn1
        refine sp_step (f := ?f1) (fun k => ?h1) ?r1
        case h1 => conv => lhs; rw [leatref7_Light.l0, if_neg (by omega)]
        exact sp_now ⟨Int.le_refl _, hn1, fun _ => by rw [List.drop_of_length_le (by omega), cntL]; simp⟩
      | succ m ih =>
        intro i n hi hn hn1
        have hlt : i < x.f2.length := by omega
        refine sp_step (f := ?f2) (fun k => ?h2) ?r2
        case h2 => conv => lhs; rw [leatref7_Light.l0, if_pos (by omega), rd24_at hlt, step_i hlt hl, if_pos (show (0 : Int) ≤ (i : Int) by omega)]
        refine sp_ite (fun hnm => ?_) (fun hnm => sp_now ⟨Int.le_refl _, hn1, fun h => absurd h (by omega)⟩)
        rw [show wrap64 (most - n) = most - n by unfold wrap64; omega, show wrap64 (deep - 1) = deep - 1 by unfold wrap64; omega]
        refine sp_bind (sp_light d _ (hx _ (List.getElem_mem hlt)) (most - n) (deep - 1) (by omega) (by omega) (by omega) (by omega)) (fun t ht => ?_)
        obtain ⟨ht1, ht2, ht3⟩ := ht
        rw [show wrap64 (n + t) = n + t by unfold wrap64; omega]
        refine sp_mono (ih (i + 1) (n + t) (by omega) (by omega) (by omega)) (fun r hr => ?_)
        refine ⟨by omega, hr.2.1, fun h => ?_⟩
        rw [hr.2.2 h, cntL_drop hlt, ht3 (by omega)]
        push_cast; omega
    have j0 : ∀ b : Bool, (b = false → 1 ≤ deep) → Sp (fun r => 1 ≤ r ∧ r ≤ most + 1 ∧ (r ≤ most → r = (cnt x : Int))) (fun k => leatref7_Light.j0 k most deep b x.f0 x.f1 x.f2) := by
      intro b hb
      refine sp_step (f := ?f3) (fun k => ?h3) ?r3
      case h3 => conv => lhs; rw [leatref7_Light.j0]
      refine sp_ite (fun h => ?_) (fun h => ?_)
      · rw [show wrap64 (most + 1) = most + 1 by unfold wrap64; omega]
        exact sp_now ⟨by omega, by omega, fun h => absurd h (by omega)⟩
      · refine sp_mono (loop (hb (Bool.eq_false_iff.2 h)) x.f2.length 0 1 (by omega) (by omega) (by omega)) (fun r hr => ⟨hr.1, hr.2.1, fun h => ?_⟩)
        rw [hr.2.2 h, cnt_eq]
        simp; omega
    refine sp_step (f := ?f4) (fun k => ?h4) ?r4
    case h4 => conv => lhs; rw [leatref7_Light.f]
    exact sp_ite (fun _ => j0 true (by intro h; cases h)) (fun _ => j0 _ (by intro h; simp at h; omega))
theorem sp_lightness {d : Nat} {x : S24} (h : Fit d x) : Sp (fun b => b = true → cnt x ≤ 300) (fun k => leatlaw7_light.f k x.f0 x.f1 x.f2) := by
  unfold leatlaw7_light.f
  refine sp_bind (sp_light d x h 300 40 (by omega) (by omega) (by omega) (by omega)) (fun t ht => sp_now (fun hb => ?_))
  have := ht.2.2 (by simpa using hb)
  have h2 : t ≤ 300 := by simpa using hb
  omega
end Go.Proofs.YtdmfakgbiaaacaaDoor.X
namespace Go.Proofs.YtdmfakgbiaaacaaDoor.X
open Go.RowKit Go.Proofs.YtdmfakgbiaaacaaDoorW.PrintWords Go.Proofs.YtdmfakgbiaaacaaDoor.Op
set_option linter.unusedVariables false
set_option linter.unusedSimpArgs false
section
variable (r0 r1 r2 : Int)
mutual
def val : S24 → Int
  | ⟨op, n, l⟩ => refOp op n r0 r1 r2 ((valL l).getD 0 0) ((valL l).getD 1 0) ((valL l).getD 2 0)
def valL : List S24 → List Int
  | [] => []
  | x :: l => val x :: valL l
end
theorem okL_at {l : List S24} (h : okL l = true) : ∀ (i : Nat) (hi : i < l.length), okx l[i] = true := by
  induction l with
  | nil => intro i hi; simp at hi
  | cons x l ih =>
    rw [okL, Bool.and_eq_true] at h
    intro i hi
    cases i with
    | zero => exact h.1
    | succ i => exact ih h.2 i (by simpa using hi)
theorem ok_parts {x : S24} (h : okx x = true) : ar x.f0 = (x.f2.length : Int) ∧ (x.f1 = 0 ∨ x.f0 = 1) ∧ okL x.f2 = true := by
  rw [okx_eq] at h
  simpa using h
theorem ar_cases {a : Int} {n : Nat} (h : ar a = (n : Int)) : (1 ≤ a ∧ a ≤ 4 ∧ n = 0) ∨ (a = 14 ∧ n = 3) ∨ (5 ≤ a ∧ a ≤ 13 ∧ n = 2) := by
  unfold ar at h
  split at h
  · omega
  split at h
  · omega
  split at h
  · omega
  · omega
end
end Go.Proofs.YtdmfakgbiaaacaaDoor.X
namespace Go.Proofs.YtdmfakgbiaaacaaDoor.X
open Go.RowKit Go.Proofs.YtdmfakgbiaaacaaDoorW.PrintWords Go.Proofs.YtdmfakgbiaaacaaDoor.Op
set_option linter.unusedVariables false
set_option linter.unusedSimpArgs false
def B (l : List UInt8) : ByteArray := ⟨l.toArray⟩
theorem B_append (a b : List UInt8) : B a ++ B b = B (a ++ b) := ByteArray.ext (by rw [ByteArray.data_append]; simp [B])
theorem B_size (a : List UInt8) : (B a).size = a.length := by simp [B, ByteArray.size]
theorem B_list (a : List UInt8) : (B a).data.toList = a := by simp [B]
theorem B_of (x : ByteArray) : B x.data.toList = x := ByteArray.ext (by simp [B])
def wd (op : Int) : List UInt8 := (wordL.getD op.toNat ⟨#[]⟩).data.toList
mutual
def txt : S24 → List UInt8
  | ⟨op, n, l⟩ => if op = 1 then 99 :: Lib.itoa n else if l.length = 0 then wd op else wd op ++ (40 :: (txtL l ++ [41]))
def txtL : List S24 → List UInt8
  | [] => []
  | x :: l => txt x ++ txtT l
def txtT : List S24 → List UInt8
  | [] => []
  | x :: l => 44 :: 32 :: (txt x ++ txtT l)
end
theorem txt_eq (x : S24) : txt x = if x.f0 = 1 then 99 :: Lib.itoa x.f1 else if x.f2.length = 0 then wd x.f0 else wd x.f0 ++ (40 :: (txtL x.f2 ++ [41])) := by cases x; rw [txt]
def Num : Nat → S24 → Prop
  | 0, _ => False
  | n + 1, x => (-9223372036854775808 ≤ x.f1 ∧ x.f1 ≤ 9223372036854775807) ∧ ∀ y ∈ x.f2, Num n y
theorem wf_range {z : Int} (h : (Lit.int .i64 z).wf = true) : -9223372036854775808 ≤ z ∧ z ≤ 9223372036854775807 := by
  simpa [Lit.wf, IntKind.min, IntKind.max, IntKind.signed, IntKind.bits] using h
theorem num24 : ∀ (n : Nat) (x : S24), G24 n x → Num n x
  | 0, _, h => h.elim
  | n + 1, x, ⟨_, h1, _, h2, h3⟩ => ⟨wf_range h1, fun y hy => num24 n y (h3 y hy)⟩
theorem wd_len (op : Int) : (wd op).length ≤ 4 := by
  unfold wd
  by_cases h : op.toNat < 15
  · generalize op.toNat = m at h
    have : m = 0 ∨ m = 1 ∨ m = 2 ∨ m = 3 ∨ m = 4 ∨ m = 5 ∨ m = 6 ∨ m = 7 ∨ m = 8 ∨ m = 9 ∨ m = 10 ∨ m = 11 ∨ m = 12 ∨ m = 13 ∨ m = 14 := by omega
    rcases this with rfl | rfl | rfl | rfl | rfl | rfl | rfl | rfl | rfl | rfl | rfl | rfl | rfl | rfl | rfl <;> decide
  · rw [List.getD_eq_getElem?_getD, List.getElem?_eq_none (by simp [wordL]; omega)]
    decide
theorem txt_len : ∀ (d : Nat) (x : S24), Num d x → (txt x).length + 2 ≤ 40 * cnt x
  | 0, _, h => h.elim
  | d + 1, x, ⟨hn, hx⟩ => by
    have hT : ∀ l : List S24, (∀ y ∈ l, Num d y) → (txtT l).length ≤ 40 * cntL l := by
      intro l
      induction l with
      | nil => intro _; simp [txtT]
      | cons y l ih =>
        intro h
        have h1 := txt_len d y (h y (by simp))
        have h2 := ih (fun z hz => h z (by simp [hz]))
        rw [txtT, cntL]; simp; omega
    have hL : ∀ l : List S24, (∀ y ∈ l, Num d y) → (txtL l).length ≤ 40 * cntL l := by
      intro l h
      cases l with
      | nil => simp [txtL]
      | cons y l =>
        have h1 := txt_len d y (h y (by simp))
        have h2 := hT l (fun z hz => h z (by simp [hz]))
        rw [txtL, cntL]; simp; omega
    rw [txt_eq, cnt_eq]
    have hw := wd_len x.f0
    split
    · have := Lib.itoa_length_le x.f1 hn.1 hn.2
      simp; omega
    · split
      · omega
      · have := hL x.f2 hx
        simp; omega
theorem join_txt : ∀ l : List S24, Lib.join (l.map txt) [44, 32] = txtL l
  | [] => by rw [txtL]; rfl
  | [x] => by rw [txtL, txtT]; simp [Lib.join, List.intercalate]
  | x :: y :: l => by
    have := join_txt (y :: l)
    rw [txtL, txtT]
    rw [txtL] at this
    simp only [Lib.join, List.intercalate, List.map_cons, List.intersperse_cons_cons, List.flatten_cons] at this ⊢
    rw [this]
    simp
theorem ev_word (op : Int) (h0 : 0 ≤ op) (h1 : op < 15) : Ev (fun _ => expr_word.f op) (B (wd op)) := by
  unfold expr_word.f
  exact ev_pos ⟨h0, h1⟩ (ev_now (by unfold wd; rw [B_of]))
theorem txtT_mem_len {d : Nat} {l : List S24} (h : ∀ y ∈ l, Num d y) : (txtT l).length ≤ 40 * cntL l := by
  induction l with
  | nil => simp [txtT]
  | cons y l ih =>
    have h1 := txt_len d y (h y (by simp))
    have h2 := ih (fun z hz => h z (by simp [hz]))
    rw [txtT, cntL]; simp; omega
theorem txtL_mem_len {d : Nat} {l : List S24} (h : ∀ y ∈ l, Num d y) : (txtL l).length ≤ 40 * cntL l := by
  cases l with
  | nil => simp [txtL]
  | cons y l =>
    have h1 := txt_len d y (h y (by simp))
    have h2 := txtT_mem_len (l := l) (fun z hz => h z (by simp [hz]))
    rw [txtL, cntL]; simp; omega
theorem map_B (l : List S24) : List.map (fun x => x.data.toList) (List.map (fun x => B (txt x)) l) = l.map txt := by
  rw [List.map_map]; exact List.map_congr_left (fun x _ => B_list _)
theorem ev_txt : ∀ (d : Nat) (x : S24), Fit d x → Num d x → okx x = true → cnt x ≤ 1000000 → Ev (fun k => expr_text.f k x.f0 x.f1 x.f2) (B (txt x))
  | 0, _, h, _, _, _ => h.elim
  | d + 1, x, ⟨hl, hx⟩, ⟨hn, hnx⟩, ho, hc => by
    obtain ⟨h1, h2, h3⟩ := ok_parts ho
    rw [cnt_eq] at hc
    have hop : 0 ≤ x.f0 ∧ x.f0 < 15 := by rcases ar_cases h1 with h | h | h <;> omega
    have hlen : x.f2.length ≤ 3 := by rcases ar_cases h1 with h | h | h <;> omega
    have loop : ¬ x.f0 = 1 → 0 < x.f2.length → ∀ (m i : Nat), x.f2.length = i + m → Ev (fun k => expr_text.l0 k ((x.f2.take i).map fun y => B (txt y)) x.f2 (x.f2.length : Int) (i : Int) x.f0 x.f1 x.f2) (B (txt x)) := by
      intro hne hpos m
      induction m with
      | zero =>
        intro i hi
        have hti : x.f2.take i = x.f2 := List.take_of_length_le (by omega)
        refine Ev.step (f := ?f1) (fun k => ?h1) ?r1
        case h1 => conv => lhs; rw [expr_text.l0, if_neg (by omega), hti]
        have hw := wd_len x.f0
        have hL := txtL_mem_len hnx
        refine Ev.bind (ev_word x.f0 hop.1 hop.2) (ev_pos (by rw [B_size]; omega) ?_)
        have hj : Ev (fun _ => strings_Join.f (x.f2.map fun y => B (txt y)) ⟨#[44, 32]⟩) (B (txtL x.f2)) := by
          unfold strings_Join.f
          rw [map_B]
          have e : (⟨#[44, 32]⟩ : ByteArray).data.toList = [44, 32] := rfl
          rw [e, join_txt]
          exact ev_pos (by simp; omega) (ev_pos (by omega) (Ev.now _))
        refine Ev.bind hj ?_
        have e40 : (⟨#[40]⟩ : ByteArray) = B [40] := rfl
        have e41 : (⟨#[41]⟩ : ByteArray) = B [41] := rfl
        rw [e40, e41, B_append, B_append, B_append, B_size, B_size, B_size]
        refine ev_pos (by simp; omega) (ev_pos (by simp; omega) (ev_now ?_))
        rw [txt_eq, if_neg hne, if_neg (by omega)]
        simp
      | succ m ih =>
        intro i hi
        have hlt : i < x.f2.length := by omega
        have hm := cntL_mem (List.getElem_mem hlt)
        refine Ev.step (f := ?f2) (fun k => ?h2) ?r2
        case h2 => conv => lhs; rw [expr_text.l0, if_pos (by omega), if_pos (by omega), if_pos (by omega), rd24_at hlt, step_i hlt hl]
        refine Ev.bind (ev_txt d _ (hx _ (List.getElem_mem hlt)) (hnx _ (List.getElem_mem hlt)) (okL_at h3 i hlt) (by omega)) (ev_pos (by simp; omega) ?_)
        have := ih (i + 1) (by omega)
        rw [List.take_add_one, List.getElem?_eq_getElem hlt] at this
        simp only [Option.toList_some, List.map_append, List.map_cons, List.map_nil] at this
        exact this
    refine Ev.step (f := ?f4) (fun k => ?h4) ?r4
    case h4 => conv => lhs; rw [expr_text.f]
    have e0 : x.f0 = 1 → Ev (fun _ => strconv_FormatInt_32.f x.f1 10) (B (Lib.itoa x.f1)) := fun _ => by
      unfold strconv_FormatInt_32.f
      exact ev_pos rfl (ev_pos hn.1 (ev_pos hn.2 (Ev.now _)))
    refine ev_ite (fun h => ?_) (fun h => ?_)
    · refine Ev.bind (e0 h) ?_
      have := Lib.itoa_length_le x.f1 hn.1 hn.2
      refine ev_pos (by rw [B_size]; omega) (ev_now ?_)
      rw [txt_eq, if_pos h, show (⟨#[99]⟩ : ByteArray) = B [99] from rfl, B_append]
      rfl
    · refine ev_ite (fun h0 => ?_) (fun h0 => ?_)
      · refine Ev.bind (ev_word x.f0 hop.1 hop.2) (ev_now ?_)
        rw [txt_eq, if_neg h, if_pos (by omega)]
      · exact loop h (by omega) x.f2.length 0 (by omega)
theorem ev_Text {d : Nat} {x : S24} (h : Fit d x) (hn : Num d x) (hc : cnt x ≤ 1000000) : Ev (fun k => expr_Text.f k x.f0 x.f1 x.f2) (if chk x = 0 then B (txt x) else B []) := by
  unfold expr_Text.f
  refine Ev.bind (ev_check h hc) ?_
  refine ev_ite (fun h1 => ?_) (fun h1 => by rw [if_neg h1]; exact Ev.now _)
  rw [if_pos h1]
  exact Ev.bind (ev_txt d x h hn (chk_ok h1).1 hc) (Ev.now _)
end Go.Proofs.YtdmfakgbiaaacaaDoor.X
namespace Go.Proofs.YtdmfakgbiaaacaaDoor.X
open Go.RowKit Go.Proofs.YtdmfakgbiaaacaaDoorW.PrintWords Go.Proofs.YtdmfakgbiaaacaaDoor.Op
set_option linter.unusedVariables false
set_option linter.unusedSimpArgs false
theorem bytes_loop (b : ByteArray) : ∀ (m i : Nat) (r : List UInt8), b.size - i = m → ByteArray.toList.loop b i r = r.reverse ++ b.data.toList.drop i := by
  intro m
  induction m with
  | zero =>
    intro i r h
    rw [ByteArray.toList.loop, if_neg (by omega), List.drop_of_length_le (by simp; have : b.data.size = b.size := rfl; omega), List.append_nil]
  | succ m ih =>
    intro i r h
    have hlt : i < b.data.toList.length := by simp; have : b.data.size = b.size := rfl; omega
    have hlt2 : i < b.size := by omega
    rw [ByteArray.toList.loop, if_pos hlt2, ih (i + 1) _ (by omega), List.drop_eq_getElem_cons hlt]
    simp [ByteArray.get!, getElem!_pos, hlt2, show i < b.data.size from hlt2]
theorem bytes_list (b : ByteArray) : b.toList = b.data.toList := by
  unfold ByteArray.toList
  rw [bytes_loop b _ 0 [] rfl]
  simp
theorem g24_up : ∀ (n : Nat) (x : S24), G24 n x → G24 (n + 1) x
  | 0, _, h => h.elim
  | n + 1, x, ⟨h0, h1, h2, h3, h4⟩ => ⟨h0, h1, h2, h3, fun y hy => g24_up n y (h4 y hy)⟩
theorem g24_le {n m : Nat} (h : n ≤ m) {x : S24} (hx : G24 n x) : G24 m x := by
  obtain ⟨k, rfl⟩ := Nat.exists_eq_add_of_le h
  clear h
  induction k with
  | zero => exact hx
  | succ k ih => exact g24_up _ _ ih
theorem good_of {op n : Int} {l : List S24} (h0 : (Lit.int .i64 op).wf = true) (h1 : (Lit.int .i64 n).wf = true) (hl : l.length * 40 ≤ 140737488351232 ∧ l.length ≤ 9223372036854775807 ∧ ∀ x ∈ l, Good24 x) : ∃ d, G24 d ⟨op, n, l⟩ := by
  obtain ⟨h2, h3, h4⟩ := hl
  have : ∃ d, ∀ x ∈ l, G24 d x := by
    clear h2 h3
    induction l with
    | nil => exact ⟨0, fun x hx => absurd hx (by simp)⟩
    | cons y l ih =>
      obtain ⟨a, ha⟩ := ih (fun x hx => h4 x (by simp [hx]))
      obtain ⟨b, hb⟩ := h4 y (by simp)
      refine ⟨a + b, fun x hx => ?_⟩
      rcases List.mem_cons.1 hx with rfl | hx
      · exact g24_le (by omega) hb
      · exact g24_le (by omega) (ha x hx)
  obtain ⟨d, hd⟩ := this
  exact ⟨d + 1, h0, h1, h2, h3, hd⟩
theorem dig_inj {a b : Nat} (ha : a < 10) (hb : b < 10) (h : UInt8.ofNat (48 + a) = UInt8.ofNat (48 + b)) : a = b := by
  have := congrArg UInt8.toNat h
  simp only [UInt8.toNat_ofNat'] at this
  omega
theorem dec_ne (u : Nat) : Lib.decDigits u ≠ [] := by
  rw [Lib.decDigits]; split <;> simp
theorem dec_inj (u : Nat) : ∀ v, Lib.decDigits u = Lib.decDigits v → u = v := by
  induction u using Nat.strongRecOn with
  | _ u ih =>
    intro v h
    by_cases hu : u < 10
    · by_cases hv : v < 10
      · rw [Lib.decDigits, Lib.decDigits.eq_def v, dif_pos hu, dif_pos hv] at h
        exact dig_inj hu hv (by simpa using h)
      · rw [Lib.decDigits, Lib.decDigits.eq_def v, dif_pos hu, dif_neg hv] at h
        have := congrArg List.length h
        have h2 := dec_ne (v / 10)
        rw [← List.length_pos_iff] at h2
        simp only [List.length_append, List.length_cons, List.length_nil] at this; omega
    · by_cases hv : v < 10
      · rw [Lib.decDigits, Lib.decDigits.eq_def v, dif_neg hu, dif_pos hv] at h
        have := congrArg List.length h
        have h2 := dec_ne (u / 10)
        rw [← List.length_pos_iff] at h2
        simp only [List.length_append, List.length_cons, List.length_nil] at this; omega
      · rw [Lib.decDigits, Lib.decDigits.eq_def v, dif_neg hu, dif_neg hv] at h
        obtain ⟨h1, h2⟩ := List.append_inj' h rfl
        have h3 := ih (u / 10) (by omega) _ h1
        have h4 := dig_inj (a := u % 10) (b := v % 10) (by omega) (by omega) (by simpa using h2)
        omega
def stopc (c : UInt8) : Bool := c == 40 || c == 41 || c == 44
theorem dec_chars (u : Nat) : ∀ c ∈ Lib.decDigits u, 48 ≤ c.toNat ∧ c.toNat ≤ 57 := by
  induction u using Nat.strongRecOn with
  | _ u ih =>
    intro c hc
    have one : ∀ m, m < 10 → 48 ≤ (UInt8.ofNat (48 + m)).toNat ∧ (UInt8.ofNat (48 + m)).toNat ≤ 57 := fun m hm => by simp only [UInt8.toNat_ofNat']; omega
    rw [Lib.decDigits] at hc
    split at hc
    · rename_i hu; obtain rfl := List.mem_singleton.1 hc; exact one u hu
    · rcases List.mem_append.1 hc with hc | hc
      · exact ih (u / 10) (by omega) c hc
      · obtain rfl := List.mem_singleton.1 hc; exact one _ (by omega)
theorem itoa_inj {a b : Int} (h : Lib.itoa a = Lib.itoa b) : a = b := by
  have key : ∀ u v : Nat, 45 :: Lib.decDigits u ≠ Lib.decDigits v := fun u v e => by
    have := dec_chars v 45 (by rw [← e]; simp)
    simp at this
  unfold Lib.itoa at h
  by_cases ha : a < 0
  · by_cases hb : b < 0
    · rw [if_pos ha, if_pos hb] at h
      have := dec_inj _ _ (List.cons.inj h).2
      omega
    · rw [if_pos ha, if_neg hb] at h; exact absurd h (key _ _)
  · by_cases hb : b < 0
    · rw [if_neg ha, if_pos hb] at h; exact absurd h.symm (key _ _)
    · rw [if_neg ha, if_neg hb] at h
      have := dec_inj _ _ h
      omega
theorem itoa_chars (n : Int) : ∀ c ∈ Lib.itoa n, stopc c = false := by
  have one : ∀ u, ∀ c ∈ Lib.decDigits u, stopc c = false := fun u c hc => by
    have := dec_chars u c hc
    unfold stopc
    have e : ∀ k : UInt8, c = k → c.toNat = k.toNat := fun k h => by rw [h]
    have h1 : ¬ c = 40 := fun h => by have := e _ h; simp at this; omega
    have h2 : ¬ c = 41 := fun h => by have := e _ h; simp at this; omega
    have h3 : ¬ c = 44 := fun h => by have := e _ h; simp at this; omega
    simp [h1, h2, h3]
  intro c hc
  unfold Lib.itoa at hc
  split at hc
  · rcases List.mem_cons.1 hc with rfl | hc
    · decide
    · exact one _ c hc
  · exact one _ c hc
def Stop (s : List UInt8) : Prop := ∀ c r, s = c :: r → stopc c = true
theorem tok_split : ∀ (a b s t : List UInt8), (∀ c ∈ a, stopc c = false) → (∀ c ∈ b, stopc c = false) → Stop s → Stop t → a ++ s = b ++ t → a = b ∧ s = t
  | [], [], s, t, _, _, _, _, h => ⟨rfl, by simpa using h⟩
  | [], y :: b, s, t, _, hb, hs, _, h => by
    have := hs y _ (by simpa using h)
    rw [hb y (by simp)] at this; cases this
  | x :: a, [], s, t, ha, _, _, ht, h => by
    have := ht x _ (by simpa using h.symm)
    rw [ha x (by simp)] at this; cases this
  | x :: a, y :: b, s, t, ha, hb, hs, ht, h => by
    simp only [List.cons_append, List.cons.injEq] at h
    obtain ⟨h1, h2⟩ := tok_split a b s t (fun c hc => ha c (by simp [hc])) (fun c hc => hb c (by simp [hc])) hs ht h.2
    exact ⟨by rw [h.1, h1], h2⟩
theorem wd_all : ∀ op : Fin 15, ((wd op.val).all fun c => !stopc c) = true ∧ (2 ≤ op.val → (wd op.val).head? ≠ some 99) := by decide
theorem wd_inj15 : ∀ a b : Fin 15, 2 ≤ a.val → 2 ≤ b.val → wd a.val = wd b.val → a = b := by decide
theorem wd_nat (op : Int) (h0 : 0 ≤ op) (h1 : op < 15) : ∃ f : Fin 15, op = (f.val : Int) := ⟨⟨op.toNat, by omega⟩, by simp; omega⟩
def tok (x : S24) : List UInt8 := if x.f0 = 1 then 99 :: Lib.itoa x.f1 else wd x.f0
theorem tok_chars {x : S24} (h0 : 0 ≤ x.f0) (h1 : x.f0 < 15) : ∀ c ∈ tok x, stopc c = false := by
  intro c hc
  unfold tok at hc
  split at hc
  · rcases List.mem_cons.1 hc with rfl | hc
    · decide
    · exact itoa_chars _ c hc
  · obtain ⟨f, hf⟩ := wd_nat x.f0 h0 h1
    rw [hf] at hc
    have := List.all_eq_true.1 (wd_all f).1 c hc
    simpa using this
theorem tok_inj {x y : S24} (hx : 1 ≤ x.f0 ∧ x.f0 < 15) (hy : 1 ≤ y.f0 ∧ y.f0 < 15) (h : tok x = tok y) (hnx : x.f1 = 0 ∨ x.f0 = 1) (hny : y.f1 = 0 ∨ y.f0 = 1) : x.f0 = y.f0 ∧ x.f1 = y.f1 := by
  obtain ⟨f, hf⟩ := wd_nat x.f0 (by omega) hx.2
  obtain ⟨g, hg⟩ := wd_nat y.f0 (by omega) hy.2
  unfold tok at h
  by_cases h1 : x.f0 = 1
  · by_cases h2 : y.f0 = 1
    · rw [if_pos h1, if_pos h2] at h
      exact ⟨by omega, itoa_inj (List.cons.inj h).2⟩
    · rw [if_pos h1, if_neg h2, hg] at h
      exact absurd (by rw [← h]; rfl) ((wd_all g).2 (by omega))
  · by_cases h2 : y.f0 = 1
    · rw [if_neg h1, if_pos h2, hf] at h
      exact absurd (by rw [h]; rfl) ((wd_all f).2 (by omega))
    · rw [if_neg h1, if_neg h2, hf, hg] at h
      have := wd_inj15 f g (by omega) (by omega) h
      subst this
      refine ⟨by omega, ?_⟩
      rcases hnx with h | h
      · rcases hny with h' | h'
        · rw [h, h']
        · exact absurd h' h2
      · exact absurd h h1
theorem txt_tok (x : S24) (h : okx x = true) : txt x = tok x ++ (if x.f2.length = 0 then [] else 40 :: (txtL x.f2 ++ [41])) := by
  obtain ⟨h1, _, _⟩ := ok_parts h
  rw [txt_eq]
  unfold tok
  by_cases e : x.f0 = 1
  · rw [if_pos e, if_pos e, if_pos (by rcases ar_cases h1 with h | h | h <;> omega), List.append_nil]
  · rw [if_neg e, if_neg e]
    split <;> simp
theorem s24_ext {x y : S24} (h0 : x.f0 = y.f0) (h1 : x.f1 = y.f1) (h2 : x.f2 = y.f2) : x = y := by
  cases x; cases y
  simp only at h0 h1 h2
  subst h0 h1 h2
  rfl
theorem txt_inj : ∀ (d : Nat) (x y : S24), Fit d x → okx x = true → okx y = true → ∀ s t, Stop s → Stop t → txt x ++ s = txt y ++ t → x = y ∧ s = t
  | 0, _, _, h, _, _, _, _, _, _, _ => h.elim
  | d + 1, x, y, ⟨hl, hx⟩, ox, oy, s, t, hs, ht, h => by
    obtain ⟨ax, nx, kx⟩ := ok_parts ox
    obtain ⟨ay, ny, ky⟩ := ok_parts oy
    have rx : 1 ≤ x.f0 ∧ x.f0 < 15 := by rcases ar_cases ax with h | h | h <;> omega
    have ry : 1 ≤ y.f0 ∧ y.f0 < 15 := by rcases ar_cases ay with h | h | h <;> omega
    have hT : ∀ (l m : List S24) (s t : List UInt8), (∀ z ∈ l, Fit d z) → okL l = true → okL m = true → l.length = m.length → txtT l ++ 41 :: s = txtT m ++ 41 :: t → l = m ∧ s = t := by
      intro l
      induction l with
      | nil =>
        intro m s t _ _ _ hlen h
        cases m with
        | nil => exact ⟨rfl, by simpa [txtT] using h⟩
        | cons _ _ => simp at hlen
      | cons a l ih =>
        intro m s t hf ol om hlen h
        cases m with
        | nil => simp at hlen
        | cons b m =>
          rw [okL, Bool.and_eq_true] at ol om
          simp only [txtT, List.cons_append, List.cons.injEq, true_and, List.append_assoc] at h
          have st : ∀ (l : List S24) (s : List UInt8), Stop (txtT l ++ 41 :: s) := fun l s c r e => by
            cases l with
            | nil => simp only [txtT, List.nil_append, List.cons.injEq] at e; rw [← e.1]; rfl
            | cons z l => simp only [txtT, List.cons_append, List.cons.injEq] at e; rw [← e.1]; rfl
          obtain ⟨e1, e2⟩ := txt_inj d a b (hf a (by simp)) ol.1 om.1 _ _ (st l s) (st m t) h
          obtain ⟨e3, e4⟩ := ih m s t (fun z hz => hf z (by simp [hz])) ol.2 om.2 (by simpa using hlen) e2
          exact ⟨by rw [e1, e3], e4⟩
    have hL : ∀ (l m : List S24) (s t : List UInt8), (∀ z ∈ l, Fit d z) → okL l = true → okL m = true → l.length = m.length → txtL l ++ 41 :: s = txtL m ++ 41 :: t → l = m ∧ s = t := by
      intro l m s t hf ol om hlen h
      refine hT l m s t hf ol om hlen ?_
      cases l with
      | nil => cases m with
        | nil => simpa [txtL, txtT] using h
        | cons _ _ => simp at hlen
      | cons a l => cases m with
        | nil => simp at hlen
        | cons b m => rw [txtL, txtL] at h; rw [txtT, txtT]; simpa using h
    rw [txt_tok x ox, txt_tok y oy, List.append_assoc, List.append_assoc] at h
    have st : ∀ (x : S24) (s : List UInt8), Stop s → Stop ((if x.f2.length = 0 then [] else 40 :: (txtL x.f2 ++ [41])) ++ s) := fun x s hs c r e => by
      by_cases h0 : x.f2.length = 0
      · rw [if_pos h0, List.nil_append] at e; exact hs c r e
      · rw [if_neg h0, List.cons_append, List.cons.injEq] at e; rw [← e.1]; rfl
    obtain ⟨e1, e2⟩ := tok_split _ _ _ _ (tok_chars (by omega) rx.2) (tok_chars (by omega) ry.2) (st x s hs) (st y t ht) h
    obtain ⟨e3, e4⟩ := tok_inj rx ry e1 nx ny
    have hlen : x.f2.length = y.f2.length := by rw [e3] at ax; omega
    by_cases h0 : x.f2.length = 0
    · rw [if_pos h0, if_pos (by omega)] at e2
      refine ⟨?_, by simpa using e2⟩
      have hx0 : x.f2 = [] := List.length_eq_zero_iff.1 h0
      have hy0 : y.f2 = [] := List.length_eq_zero_iff.1 (by omega)
      exact s24_ext e3 e4 (by rw [hx0, hy0])
    · rw [if_neg h0, if_neg (by omega)] at e2
      simp only [List.cons_append, List.append_assoc, List.nil_append, List.cons.injEq, true_and] at e2
      obtain ⟨e5, e6⟩ := hL x.f2 y.f2 s t hx kx ky hlen e2
      exact ⟨s24_ext e3 e4 e5, e6⟩
open Classical in
noncomputable def sm (a b : S24) : Bool := decide (a = b)
theorem sm_self (a : S24) : sm a a = true := by simp [sm]
theorem sm_no {a b : S24} (h : a ≠ b) : sm a b = false := by simp [sm, h]
theorem ev_same : ∀ (d : Nat) (x y : S24), Fit d x → Ev (fun k => leatlaw7_same.f k x.f0 x.f1 x.f2 y.f0 y.f1 y.f2) (sm x y)
  | 0, _, _, h => h.elim
  | d + 1, x, y, ⟨hl, hx⟩ => by
    have no : ¬ (x.f0 = y.f0 ∧ x.f1 = y.f1 ∧ x.f2 = y.f2) → sm x y = false := fun h => sm_no (fun e => h (by rw [e]; exact ⟨rfl, rfl, rfl⟩))
    have yes : x.f0 = y.f0 → x.f1 = y.f1 → x.f2 = y.f2 → sm x y = true := fun h1 h2 h3 => by
      have : x = y := s24_ext h1 h2 h3
      rw [this]; exact sm_self y
    have loop : x.f0 = y.f0 → x.f1 = y.f1 → x.f2.length = y.f2.length → ∀ (m i : Nat), x.f2.length = i + m → x.f2.take i = y.f2.take i → Ev (fun k => leatlaw7_same.l0 k (i : Int) x.f0 x.f1 x.f2 y.f0 y.f1 y.f2) (sm x y) := by
      intro e0 e1 el m
      induction m with
      | zero =>
        intro i hi ht
        refine Ev.step (f := ?f1) (fun k => ?h1) ?r1
        case h1 => conv => lhs; rw [leatlaw7_same.l0, if_neg (by omega)]
        refine ev_now ?_
        rw [List.take_of_length_le (by omega), List.take_of_length_le (by omega)] at ht
        rw [yes e0 e1 ht]
      | succ m ih =>
        intro i hi ht
        have hlt : i < x.f2.length := by omega
        have hlt' : i < y.f2.length := by omega
        refine Ev.step (f := ?f2) (fun k => ?h2) ?r2
        case h2 => conv => lhs; rw [leatlaw7_same.l0, if_pos (by omega), if_pos (by omega), if_pos (by omega), rd24_at hlt, rd24_at hlt', step_i hlt hl]
        refine Ev.bind (ev_same d _ _ (hx _ (List.getElem_mem hlt))) ?_
        refine ev_ite (fun h => ?_) (fun h => ?_)
        · refine ih (i + 1) (by omega) ?_
          have e : x.f2[i] = y.f2[i] := by simpa [sm] using h
          rw [List.take_add_one, List.take_add_one, ht, List.getElem?_eq_getElem hlt, List.getElem?_eq_getElem hlt', e]
        · refine ev_now ?_
          rw [no (fun hh => h ?_)]
          have e : x.f2[i] = y.f2[i] := by have := hh.2.2; simp [this]
          rw [e]; exact sm_self _
    have j0 : x.f0 = y.f0 → x.f1 = y.f1 → Ev (fun k => leatlaw7_same.j0 k ((x.f2.length : Int) != (y.f2.length : Int)) x.f0 x.f1 x.f2 y.f0 y.f1 y.f2) (sm x y) := by
      intro e0 e1
      refine Ev.step (f := ?f3) (fun k => ?h3) ?r3
      case h3 => conv => lhs; rw [leatlaw7_same.j0]
      refine ev_ite (fun h => ev_now ?_) (fun h => loop e0 e1 ?_ x.f2.length 0 (by omega) rfl)
      · rw [no (fun hh => by have := hh.2.2; simp [this] at h)]
      · have : (x.f2.length : Int) = y.f2.length := by simpa using h
        omega
    have jt : ¬ (x.f0 = y.f0 ∧ x.f1 = y.f1 ∧ x.f2 = y.f2) → Ev (fun k => leatlaw7_same.j0 k true x.f0 x.f1 x.f2 y.f0 y.f1 y.f2) (sm x y) := by
      intro h
      refine Ev.step (f := ?f5) (fun k => ?h5) ?r5
      case h5 => conv => lhs; rw [leatlaw7_same.j0]
      exact ev_pos rfl (ev_now (by rw [no h]))
    refine Ev.step (f := ?f4) (fun k => ?h4) ?r4
    case h4 => conv => lhs; rw [leatlaw7_same.f]
    exact ev_ite (fun h => ev_ite (fun h' => j0 h h') (fun h' => jt (fun hh => h' hh.2.1))) (fun h => jt (fun hh => h hh.1))
end Go.Proofs.YtdmfakgbiaaacaaDoor.X
namespace Go.Proofs.YtdmfakgbiaaacaaDoor.Pure
open Go.RowKit Go.Proofs.YtdmfakgbiaaacaaDoorW.PrintWords Go.Proofs.YtdmfakgbiaaacaaDoor.X Go.Proofs.YtdmfakgbiaaacaaDoor.Op
set_option linter.unusedVariables false
theorem ExprTexts : Op.ExprTextsPure := by
  intro op n l op' n' l' hop hn hl hop' hn' hl'
  obtain ⟨d, hd⟩ := good_of hop hn hl
  obtain ⟨d', hd'⟩ := good_of hop' hn' hl'
  have hF := fit24 d _ hd
  have hN := num24 d _ hd
  have hF' := fit24 d' _ hd'
  have hN' := num24 d' _ hd'
  apply Ev.rounds
  apply sp_eq
  have jt : Sp (· = true) (fun k => leatlaw7_ExprTexts.j0 k true op n l op' n' l') := by
    refine sp_step (f := ?f5) (fun k => ?h5) ?r5
    case h5 => conv => lhs; rw [leatlaw7_ExprTexts.j0]
    exact sp_ite (fun _ => sp_now rfl) (fun h => absurd rfl h)
  unfold leatlaw7_ExprTexts.f
  refine sp_bind (P := (· = true)) (sp_now (by rfl)) (fun t ht => ?_)
  subst ht
  refine sp_ite (fun _ => ?_) (fun h => absurd rfl h)
  refine sp_bind (sp_lightness hF) (fun t ht => ?_)
  refine sp_ite (fun hb => ?_) (fun _ => jt)
  have hc := ht hb
  refine sp_bind (sp_lightness hF') (fun t' ht' => ?_)
  refine sp_ite (fun hb' => ?_) (fun _ => jt)
  have hc' := ht' hb'
  refine sp_bind (sp_some (ev_check7 hF (by omega)) rfl) (fun f hf => ?_)
  subst hf
  refine sp_ite (fun hz => ?_) (fun _ => jt)
  refine sp_bind (sp_some (ev_check7 hF' (by omega)) rfl) (fun f hf => ?_)
  subst hf
  refine sp_step (f := ?f6) (fun k => ?h6) ?r6
  case h6 => conv => lhs; rw [leatlaw7_ExprTexts.j0]
  refine sp_ite (fun _ => sp_now rfl) (fun h => ?_)
  have hz' : chk ⟨op', n', l'⟩ = 0 := by simpa using h
  refine sp_bind (sp_some (ev_Text hF hN (by omega)) rfl) (fun v hv => ?_)
  subst hv
  refine sp_bind (sp_some (ev_Text hF' hN' (by omega)) rfl) (fun v hv => ?_)
  subst hv
  refine sp_bind (sp_some (ev_same d ⟨op, n, l⟩ ⟨op', n', l'⟩ hF) rfl) (fun v hv => ?_)
  subst hv
  refine sp_now ?_
  rw [if_pos hz, if_pos hz', bytes_list, bytes_list, B_list, B_list]
  by_cases e : (⟨op, n, l⟩ : S24) = ⟨op', n', l'⟩
  · rw [e, sm_self]; simp
  · rw [sm_no e]
    have : txt ⟨op, n, l⟩ ≠ txt ⟨op', n', l'⟩ := fun h => e (txt_inj d _ _ hF (chk_ok hz).1 (chk_ok hz').1 [] [] (fun _ _ h => by cases h) (fun _ _ h => by cases h) (by rw [h])).1
    simpa using this
end Go.Proofs.YtdmfakgbiaaacaaDoor.Pure
