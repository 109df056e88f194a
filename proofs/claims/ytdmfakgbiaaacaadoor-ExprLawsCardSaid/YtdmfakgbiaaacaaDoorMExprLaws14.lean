/- What is asked of the law ExprLaws, in plain Lean. No conditions. -/
import Derived.Test.YtdmfakgbiaaacaaDoorMExprLaws13
import Derived.Test.YtdmfakgbiaaacaaDoorMExprLaws12
import Derived.Test.YtdmfakgbiaaacaaDoorMExprLaws11
namespace Go.Proofs.YtdmfakgbiaaacaaDoor.Op
open Go.RowKit Go.Proofs.YtdmfakgbiaaacaaDoorW.PrintWords Go.Proofs.YtdmfakgbiaaacaaDoor.X
def ExprLawsPure : Prop := ∀ (a0_0 : Int) (a0_1 : Int) (l0_2 : List (S24)) (a1_0 : Int) (a1_1 : Int) (l1_2 : List (S24)) (a2_0 : Int) (a2_1 : Int) (l2_2 : List (S24)) (a3_0 : Int) (a3_1 : Int) (a3_2 : Int), ((Lit.int .i64 a0_0).wf = true) → ((Lit.int .i64 a0_1).wf = true) → (l0_2.length * 40 ≤ 140737488351232 ∧ l0_2.length ≤ 9223372036854775807 ∧ ∀ x ∈ l0_2, Good24 x) → ((Lit.int .i64 a1_0).wf = true) → ((Lit.int .i64 a1_1).wf = true) → (l1_2.length * 40 ≤ 140737488351232 ∧ l1_2.length ≤ 9223372036854775807 ∧ ∀ x ∈ l1_2, Good24 x) → ((Lit.int .i64 a2_0).wf = true) → ((Lit.int .i64 a2_1).wf = true) → (l2_2.length * 40 ≤ 140737488351232 ∧ l2_2.length ≤ 9223372036854775807 ∧ ∀ x ∈ l2_2, Good24 x) → ((Lit.int .i64 a3_0).wf = true) → ((Lit.int .i64 a3_1).wf = true) → ((Lit.int .i64 a3_2).wf = true) → leatlaw7_ExprLaws.f a0_0 a0_1 l0_2 a1_0 a1_1 l1_2 a2_0 a2_1 l2_2 a3_0 a3_1 a3_2 = some true
end Go.Proofs.YtdmfakgbiaaacaaDoor.Op
namespace Go.Proofs.YtdmfakgbiaaacaaDoor.X
open Go.RowKit Go.Proofs.YtdmfakgbiaaacaaDoorW.PrintWords Go.Proofs.YtdmfakgbiaaacaaDoor.Op
set_option linter.unusedVariables false
set_option linter.unusedSimpArgs false
section
variable {α β : Type}
theorem ev_pos {c : Prop} [Decidable c] {f g : Nat → Option α} {r : α} (h : c) (k : Ev f r) : Ev (fun n => if c then f n else g n) r := Ev.congr (fun _ => if_pos h) k
theorem ev_neg {c : Prop} [Decidable c] {f g : Nat → Option α} {r : α} (h : ¬ c) (k : Ev g r) : Ev (fun n => if c then f n else g n) r := Ev.congr (fun _ => if_neg h) k
theorem ev_now {r r' : α} (h : r' = r) : Ev (fun _ => some r') r := h ▸ Ev.now _
theorem ev_ite {c : Prop} [Decidable c] {f g : Nat → Option α} {r : α} (h : c → Ev f r) (k : ¬ c → Ev g r) : Ev (fun n => if c then f n else g n) r := by
  by_cases hc : c
  · exact ev_pos hc (h hc)
  · exact ev_neg hc (k hc)
def Sp (P : α → Prop) (f : Nat → Option α) : Prop := ∃ r, P r ∧ Ev f r
theorem sp_now {P : α → Prop} {r : α} (h : P r) : Sp P (fun _ => some r) := ⟨r, h, Ev.now r⟩
theorem sp_ite {P : α → Prop} {c : Prop} [Decidable c] {f g : Nat → Option α} (h : c → Sp P f) (k : ¬ c → Sp P g) : Sp P (fun n => if c then f n else g n) := by
  by_cases hc : c
  · obtain ⟨r, hp, hr⟩ := h hc; exact ⟨r, hp, ev_pos hc hr⟩
  · obtain ⟨r, hp, hr⟩ := k hc; exact ⟨r, hp, ev_neg hc hr⟩
theorem sp_bind {P : α → Prop} {Q : β → Prop} {g : Nat → Option α} {f : Nat → α → Option β} (h : Sp P g) (k : ∀ a, P a → Sp Q (fun n => f n a)) : Sp Q (fun n => (g n).bind (f n)) := by
  obtain ⟨a, hp, ha⟩ := h
  obtain ⟨r, hq, hr⟩ := k a hp
  exact ⟨r, hq, Ev.bind ha hr⟩
theorem sp_step {P : α → Prop} {g f : Nat → Option α} (h : ∀ k, g (k + 1) = f k) (k : Sp P f) : Sp P g := by
  obtain ⟨r, hp, hr⟩ := k; exact ⟨r, hp, Ev.step h hr⟩
theorem sp_mono {P Q : α → Prop} {f : Nat → Option α} (h : Sp P f) (k : ∀ r, P r → Q r) : Sp Q f := by
  obtain ⟨r, hp, hr⟩ := h; exact ⟨r, k r hp, hr⟩
theorem sp_some {P : α → Prop} {f : Nat → Option α} {r : α} (h : Ev f r) (hp : P r) : Sp P f := ⟨r, hp, h⟩
theorem sp_eq {r : α} {f : Nat → Option α} (h : Sp (· = r) f) : Ev f r := by obtain ⟨_, rfl, h⟩ := h; exact h
end
theorem step_i {i n : Nat} (h : i < n) (hn : n ≤ 9223372036854775807) : wrap64 ((i : Int) + 1) = ((i + 1 : Nat) : Int) := by unfold wrap64; omega
theorem rd24_at {l : List S24} {i : Nat} (h : i < l.length) : rd_T24 l (i : Int) = l[i] := by simp [rd_T24, h]
def ar (op : Int) : Int := if 1 ≤ op ∧ op ≤ 4 then 0 else if op = 14 then 3 else if 5 ≤ op ∧ op ≤ 13 then 2 else -1
mutual
def cnt : S24 → Nat
  | ⟨_, _, l⟩ => cntL l + 1
def cntL : List S24 → Nat
  | [] => 0
  | x :: l => cnt x + cntL l
end
mutual
def dep : S24 → Nat
  | ⟨_, _, l⟩ => depL l + 1
def depL : List S24 → Nat
  | [] => 0
  | x :: l => max (dep x) (depL l)
end
mutual
def okx : S24 → Bool
  | ⟨op, n, l⟩ => (ar op == (l.length : Int)) && ((n == 0 || op == 1) && okL l)
def okL : List S24 → Bool
  | [] => true
  | x :: l => okx x && okL l
end
theorem cnt_eq (x : S24) : cnt x = cntL x.f2 + 1 := by cases x; rw [cnt]
theorem dep_eq (x : S24) : dep x = depL x.f2 + 1 := by cases x; rw [dep]
theorem okx_eq (x : S24) : okx x = ((ar x.f0 == (x.f2.length : Int)) && ((x.f1 == 0 || x.f0 == 1) && okL x.f2)) := by cases x; rw [okx]
mutual
theorem dep_cnt : ∀ x : S24, dep x ≤ cnt x
  | ⟨_, _, l⟩ => by rw [dep, cnt]; have := depL_cnt l; omega
theorem depL_cnt : ∀ l : List S24, depL l ≤ cntL l
  | [] => by rw [depL, cntL]; omega
  | x :: l => by rw [depL, cntL]; have := dep_cnt x; have := depL_cnt l; omega
end
theorem cntL_mem {x : S24} : ∀ {l : List S24}, x ∈ l → cnt x ≤ cntL l
  | y :: l, h => by
    rw [cntL]
    rcases List.mem_cons.1 h with rfl | h
    · omega
    · have := cntL_mem h; omega
def Fit : Nat → S24 → Prop
  | 0, _ => False
  | n + 1, x => x.f2.length ≤ 9223372036854775807 ∧ ∀ y ∈ x.f2, Fit n y
theorem fit24 : ∀ (n : Nat) (x : S24), G24 n x → Fit n x
  | 0, _, h => h.elim
  | n + 1, x, ⟨_, _, _, h2, h3⟩ => ⟨h2, fun y hy => fit24 n y (h3 y hy)⟩
theorem ev_arity (a : Int) : Ev (fun k => expr_arity.f k a) (ar a) := by
  refine ⟨1, fun k hk => ?_⟩
  obtain ⟨k, rfl⟩ : ∃ m, k = m + 1 := ⟨k - 1, by omega⟩
  unfold expr_arity.f
  simp only [expr_arity.j0]
  unfold ar
  by_cases h1 : a = 1
  · subst h1; rfl
  by_cases h2 : a = 2
  · subst h2; rfl
  by_cases h3 : a = 3
  · subst h3; rfl
  by_cases h4 : a = 4
  · subst h4; rfl
  rw [if_neg h1, if_neg h2, if_neg h3, if_neg (by simpa using h4), if_neg (show ¬ (1 ≤ a ∧ a ≤ 4) by omega)]
  by_cases h5 : a = 14
  · rw [if_pos h5, if_pos h5]
  rw [if_neg h5, if_neg h5]
  by_cases h6 : a > 4
  · rw [if_pos h6]
    by_cases h7 : a < 14
    · rw [if_pos h7, if_pos (by omega)]
    · rw [if_neg h7, if_neg (by omega)]
  · rw [if_neg h6, if_neg (by omega)]
theorem ev_arity7 (a : Int) : Ev (fun k => leatref7_arity.f k a) (ar a) := by
  refine ⟨1, fun k hk => ?_⟩
  obtain ⟨k, rfl⟩ : ∃ m, k = m + 1 := ⟨k - 1, by omega⟩
  unfold leatref7_arity.f
  simp only [leatref7_arity.j0]
  unfold ar
  by_cases h1 : 1 ≤ a ∧ a ≤ 4
  · rw [if_pos h1, if_pos h1.1, if_pos (by simpa using h1.2)]
  rw [if_neg h1]
  have e : (if a ≥ 1 then (if decide (a ≤ 4) = true then some (0 : Int) else if a = 14 then some 3 else if a ≥ 5 then if a ≤ 13 then some 2 else some (-1) else some (-1)) else
    (if false = true then some (0 : Int) else if a = 14 then some 3 else if a ≥ 5 then if a ≤ 13 then some 2 else some (-1) else some (-1))) = (if a = 14 then some 3 else if a ≥ 5 then if a ≤ 13 then some 2 else some (-1) else some (-1)) := by
    by_cases h2 : a ≥ 1
    · rw [if_pos h2, if_neg (by simp; omega)]
    · rw [if_neg h2, if_neg (by simp)]
  rw [e]
  by_cases h5 : a = 14
  · rw [if_pos h5, if_pos h5]
  rw [if_neg h5, if_neg h5]
  by_cases h6 : a ≥ 5
  · rw [if_pos h6]
    by_cases h7 : a ≤ 13
    · rw [if_pos h7, if_pos (by omega)]
    · rw [if_neg h7, if_neg (by omega)]
  · rw [if_neg h6, if_neg (by omega)]
theorem okL_drop {l : List S24} {i : Nat} (h : i < l.length) : okL (l.drop i) = (okx l[i] && okL (l.drop (i + 1))) := by rw [List.drop_eq_getElem_cons h, okL]
theorem ev_right : ∀ (d : Nat) (x : S24), Fit d x → Ev (fun k => expr_right.f k x.f0 x.f1 x.f2) (okx x)
  | 0, _, h => h.elim
  | d + 1, x, ⟨hl, hx⟩ => by
    have loop : ∀ (m i : Nat), x.f2.length = i + m → Ev (fun k => expr_right.l0 k x.f2 (x.f2.length : Int) (i : Int)) (okL (x.f2.drop i)) := by
      intro m
      induction m with
      | zero =>
        intro i hi
        refine Ev.step (f := ?f1) (fun k => ?h1) ?r1
        case h1 => conv => lhs; rw [expr_right.l0, if_neg (by omega)]
        exact ev_now (by rw [List.drop_of_length_le (by omega), okL])
      | succ m ih =>
        intro i hi
        have hlt : i < x.f2.length := by omega
        refine Ev.step (f := ?f2) (fun k => ?h2) ?r2
        case h2 => conv => lhs; rw [expr_right.l0, if_pos (by omega), if_pos (by omega), if_pos (by omega), rd24_at hlt, step_i hlt hl]
        refine Ev.bind (ev_right d _ (hx _ (List.getElem_mem hlt))) ?_
        rw [okL_drop hlt]
        exact ev_ite (fun h => by rw [h, Bool.true_and]; exact ih (i + 1) (by omega)) (fun h => ev_now (by rw [Bool.eq_false_iff.2 h, Bool.false_and]))
    have j0 : ∀ b : Bool, Ev (fun k => expr_right.j0 k b x.f0 x.f1 x.f2) (!b && okL x.f2) := by
      intro b
      refine Ev.step (f := ?f3) (fun k => ?h3) ?r3
      case h3 => conv => lhs; rw [expr_right.j0]
      exact ev_ite (fun h => ev_now (by rw [h]; rfl)) (fun h => by
        rw [Bool.eq_false_iff.2 h]; exact loop x.f2.length 0 (by omega))
    refine Ev.step (f := ?f4) (fun k => ?h4) ?r4
    case h4 => conv => lhs; rw [expr_right.f]
    refine Ev.bind (ev_arity x.f0) ?_
    rw [okx_eq]
    refine ev_ite (fun h1 => ?_) (fun h1 => ?_)
    · rw [show (ar x.f0 == (x.f2.length : Int)) = true from by simpa using h1, Bool.true_and]
      refine ev_ite (fun h2 => ?_) (fun h2 => ?_)
      · rw [show (x.f1 == 0) = true from by simpa using h2, Bool.true_or, Bool.true_and]; simpa using j0 false
      · rw [show (x.f1 == 0) = false from by simpa using h2, Bool.false_or]
        have := j0 (x.f0 != 1)
        simpa [bne] using this
    · rw [show (ar x.f0 == (x.f2.length : Int)) = false from by simpa using h1, Bool.false_and]
      exact j0 true
theorem ev_formed : ∀ (d : Nat) (x : S24), Fit d x → Ev (fun k => leatref7_formed.f k x.f0 x.f1 x.f2) (okx x)
  | 0, _, h => h.elim
  | d + 1, x, ⟨hl, hx⟩ => by
    have loop : ∀ (m i : Nat), x.f2.length = i + m → Ev (fun k => leatref7_formed.l0 k (i : Int) x.f0 x.f1 x.f2) (okL (x.f2.drop i)) := by
      intro m
      induction m with
      | zero =>
        intro i hi
        refine Ev.step (f := ?f1) (fun k => ?h1) ?r1
        case h1 => conv => lhs; rw [leatref7_formed.l0, if_neg (by omega)]
        exact ev_now (by rw [List.drop_of_length_le (by omega), okL])
      | succ m ih =>
        intro i hi
        have hlt : i < x.f2.length := by omega
        refine Ev.step (f := ?f2) (fun k => ?h2) ?r2
        case h2 => conv => lhs; rw [leatref7_formed.l0, if_pos (by omega), if_pos (by omega), rd24_at hlt, step_i hlt hl]
        refine Ev.bind (ev_formed d _ (hx _ (List.getElem_mem hlt))) ?_
        rw [okL_drop hlt]
        exact ev_ite (fun h => by rw [h, Bool.true_and]; exact ih (i + 1) (by omega)) (fun h => ev_now (by rw [Bool.eq_false_iff.2 h, Bool.false_and]))
    have j0 : ∀ b : Bool, Ev (fun k => leatref7_formed.j0 k b x.f0 x.f1 x.f2) (!b && okL x.f2) := by
      intro b
      refine Ev.step (f := ?f3) (fun k => ?h3) ?r3
      case h3 => conv => lhs; rw [leatref7_formed.j0]
      exact ev_ite (fun h => ev_now (by rw [h]; rfl)) (fun h => by
        rw [Bool.eq_false_iff.2 h]; exact loop x.f2.length 0 (by omega))
    refine Ev.step (f := ?f4) (fun k => ?h4) ?r4
    case h4 => conv => lhs; rw [leatref7_formed.f]
    refine Ev.bind (ev_arity7 x.f0) ?_
    rw [okx_eq]
    refine ev_ite (fun h0 => ?_) (fun h0 => ?_)
    · rw [show (ar x.f0 == (x.f2.length : Int)) = false from by simp; omega, Bool.false_and]
      exact j0 true
    refine Ev.bind (ev_arity7 x.f0) ?_
    refine ev_ite (fun h1 => ?_) (fun h1 => ?_)
    · rw [show (ar x.f0 == (x.f2.length : Int)) = true from by simpa using h1.symm, Bool.true_and]
      refine ev_ite (fun h2 => ?_) (fun h2 => ?_)
      · rw [show (x.f1 == 0) = true from by simpa using h2, Bool.true_or, Bool.true_and]; simpa using j0 false
      · rw [show (x.f1 == 0) = false from by simpa using h2, Bool.false_or]
        have := j0 (x.f0 != 1)
        simpa [bne] using this
    · rw [show (ar x.f0 == (x.f2.length : Int)) = false from by simpa using fun h => h1 h.symm, Bool.false_and]
      exact j0 true
theorem mx_nat (a b : Nat) : mx (a : Int) (b : Int) = ((max a b : Nat) : Int) := by unfold mx; split <;> omega
theorem wr_add (a b : Nat) (h : a + b ≤ 4611686018427387904) : wrap64 ((a : Int) + (b : Int)) = ((a + b : Nat) : Int) := by unfold wrap64; omega
theorem wr_one (a : Nat) (h : a ≤ 4611686018427387904) : wrap64 ((a : Int) + 1) = ((a + 1 : Nat) : Int) := by unfold wrap64; omega
theorem cntL_drop {l : List S24} {i : Nat} (h : i < l.length) : cntL (l.drop i) = cnt l[i] + cntL (l.drop (i + 1)) := by rw [List.drop_eq_getElem_cons h, cntL]
theorem depL_drop {l : List S24} {i : Nat} (h : i < l.length) : depL (l.drop i) = max (dep l[i]) (depL (l.drop (i + 1))) := by rw [List.drop_eq_getElem_cons h, depL]
theorem ev_size : ∀ (d : Nat) (x : S24), Fit d x → cnt x ≤ 1000000 → Ev (fun k => expr_size.f k x.f0 x.f1 x.f2) ((cnt x : Int), (dep x : Int))
  | 0, _, h, _ => h.elim
  | d + 1, x, ⟨hl, hx⟩, hc => by
    rw [cnt_eq] at hc
    have loop : ∀ (m i a b : Nat), x.f2.length = i + m → a + cntL (x.f2.drop i) ≤ 1000000 → b ≤ 1000000 → Ev (fun k => expr_size.l0 k (a : Int) (b : Int) x.f2 (x.f2.length : Int) (i : Int)) (((a + cntL (x.f2.drop i) + 1 : Nat) : Int), ((max b (depL (x.f2.drop i)) + 1 : Nat) : Int)) := by
      intro m
      induction m with
      | zero =>
        intro i a b hi ha hb
        refine Ev.step (f := ?f1) (fun k => ?h1) ?r1
        case h1 => conv => lhs; rw [expr_size.l0, if_neg (by omega), wr_one a (by omega), wr_one b (by omega)]
        refine ev_now ?_
        rw [List.drop_of_length_le (by omega), cntL, depL]; simp
      | succ m ih =>
        intro i a b hi ha hb
        have hlt : i < x.f2.length := by omega
        rw [cntL_drop hlt] at ha
        have hdc := dep_cnt x.f2[i]
        refine Ev.step (f := ?f2) (fun k => ?h2) ?r2
        case h2 => conv => lhs; rw [expr_size.l0, if_pos (by omega), if_pos (by omega), if_pos (by omega), rd24_at hlt, step_i hlt hl]
        refine Ev.bind (ev_size d _ (hx _ (List.getElem_mem hlt)) (by omega)) ?_
        simp only
        rw [wr_add a _ (by omega), mx_nat]
        have := ih (i + 1) (a + cnt x.f2[i]) (max b (dep x.f2[i])) (by omega) (by omega) (by omega)
        rw [cntL_drop hlt, depL_drop hlt, ← Nat.add_assoc, ← Nat.max_assoc]
        exact this
    refine Ev.step (f := ?f4) (fun k => ?h4) ?r4
    case h4 => conv => lhs; rw [expr_size.f]
    have := loop x.f2.length 0 0 0 (by omega) (by simp; omega) (by omega)
    rw [cnt_eq, dep_eq]
    simpa using this
theorem ev_size7 : ∀ (d : Nat) (x : S24), Fit d x → cnt x ≤ 1000000 → Ev (fun k => leatref7_size.f k x.f0 x.f1 x.f2) ((cnt x : Int), (dep x : Int))
  | 0, _, h, _ => h.elim
  | d + 1, x, ⟨hl, hx⟩, hc => by
    rw [cnt_eq] at hc
    have loop : ∀ (m i a b : Nat), x.f2.length = i + m → a + cntL (x.f2.drop i) ≤ 2000000 → b ≤ 1000000 → Ev (fun k => leatref7_size.l0 k (a : Int) (b : Int) (i : Int) x.f0 x.f1 x.f2) (((a + cntL (x.f2.drop i) : Nat) : Int), ((max b (depL (x.f2.drop i)) + 1 : Nat) : Int)) := by
      intro m
      induction m with
      | zero =>
        intro i a b hi ha hb
        refine Ev.step (f := ?f1) (fun k => ?h1) ?r1
        case h1 => conv => lhs; rw [leatref7_size.l0, if_neg (by omega), wr_one b (by omega)]
        refine ev_now ?_
        rw [List.drop_of_length_le (by omega), cntL, depL]; simp
      | succ m ih =>
        intro i a b hi ha hb
        have hlt : i < x.f2.length := by omega
        have hm := cntL_mem (List.getElem_mem hlt)
        rw [cntL_drop hlt] at ha
        have hdc := dep_cnt x.f2[i]
        refine Ev.step (f := ?f2) (fun k => ?h2) ?r2
        case h2 => conv => lhs; rw [leatref7_size.l0, if_pos (by omega), if_pos (by omega), rd24_at hlt, step_i hlt hl]
        refine Ev.bind (ev_size7 d _ (hx _ (List.getElem_mem hlt)) (by omega)) ?_
        simp only
        rw [wr_add a _ (by omega), mx_nat]
        have := ih (i + 1) (a + cnt x.f2[i]) (max b (dep x.f2[i])) (by omega) (by omega) (by omega)
        rw [cntL_drop hlt, depL_drop hlt, ← Nat.add_assoc, ← Nat.max_assoc]
        exact this
    refine Ev.step (f := ?f4) (fun k => ?h4) ?r4
    case h4 => conv => lhs; rw [leatref7_size.f]
    have := loop x.f2.length 0 1 0 (by omega) (by simp; omega) (by omega)
    rw [cnt_eq, dep_eq]
    simpa [Nat.add_comm] using this
def chk (x : S24) : Int := if okx x then (if cnt x > 32 then 71 else if dep x > 8 then 71 else 0) else 70
theorem chk_ok {x : S24} (h : chk x = 0) : okx x = true ∧ cnt x ≤ 32 ∧ dep x ≤ 8 := by
  unfold chk at h
  split at h
  · rename_i ho
    split at h
    · cases h
    · split at h
      · cases h
      · exact ⟨ho, by omega, by omega⟩
  · cases h
theorem ev_check {d : Nat} {x : S24} (h : Fit d x) (hc : cnt x ≤ 1000000) : Ev (fun k => expr_Check.f k x.f0 x.f1 x.f2) (chk x) := by
  unfold expr_Check.f chk
  refine Ev.bind (ev_right d x h) ?_
  refine ev_ite (fun h1 => ?_) (fun h1 => ?_)
  · rw [if_pos h1]
    refine Ev.bind (ev_size d x h hc) ?_
    simp only
    exact ev_ite (fun h2 => ev_now (by rw [if_pos (by omega)])) (fun h2 => ev_ite (fun h3 => ev_now (by rw [if_neg (by omega), if_pos (by omega)])) (fun h3 => ev_now (by rw [if_neg (by omega), if_neg (by omega)])))
  · rw [if_neg h1]; exact ev_now rfl
theorem ev_check7 {d : Nat} {x : S24} (h : Fit d x) (hc : cnt x ≤ 1000000) : Ev (fun k => leatref7_Check.f k x.f0 x.f1 x.f2) (chk x) := by
  unfold leatref7_Check.f chk
  refine Ev.bind (ev_formed d x h) ?_
  refine ev_ite (fun h1 => ?_) (fun h1 => ?_)
  · rw [if_pos h1]
    refine Ev.bind (ev_size7 d x h hc) ?_
    simp only
    exact ev_ite (fun h2 => ev_now (by rw [if_pos (by omega)])) (fun h2 => ev_ite (fun h3 => ev_now (by rw [if_neg (by omega), if_pos (by omega)])) (fun h3 => ev_now (by rw [if_neg (by omega), if_neg (by omega)])))
  · rw [if_neg h1]; exact ev_now rfl
theorem sp_light : ∀ (d : Nat) (x : S24), Fit d x → ∀ (most deep : Int), 0 ≤ most → most ≤ 1000 → deep ≤ 1000 → 0 ≤ deep →
    Sp (fun r => 1 ≤ r ∧ r ≤ most + 1 ∧ (r ≤ most → r = (cnt x : Int))) (fun k => leatref7_Light.f k x.f0 x.f1 x.f2 most deep)
  | 0, _, h, _, _, _, _, _, _ => h.elim
  | d + 1, x, ⟨hl, hx⟩, most, deep, hm0, hm1, hd1, hd0 => by
    have loop : 1 ≤ deep → ∀ (m i : Nat) (n : Int), x.f2.length = i + m → 1 ≤ n → n ≤ most + 1 → Sp (fun r => n ≤ r ∧ r ≤ most + 1 ∧ (r ≤ most → r = n + (cntL (x.f2.drop i) : Int))) (fun k => leatref7_Light.l0 k most deep n (i : Int) x.f0 x.f1 x.f2) := by
      intro hd m
      induction m with
      | zero =>
        intro i n hi hn hn1
        refine sp_step (f := ?f1) (fun k => ?h1) ?r1
        case h1 => conv => lhs; rw [leatref7_Light.l0, if_neg (by omega)]
        exact sp_now ⟨Int.le_refl _, hn1, fun _ => by rw [List.drop_of_length_le (by omega), cntL]; simp⟩
      | succ m ih =>
        intro i n hi hn hn1
        have hlt : i < x.f2.length := by omega
        refine sp_step (f := ?f2) (fun k => ?h2) ?r2
        case h2 => conv => lhs; rw [leatref7_Light.l0, if_pos (by omega), rd24_at hlt, step_i hlt hl, if_pos (show (0 : Int) ≤ (i : Int) by omega)]
        refine sp_ite (fun hnm => ?_) (fun hnm => sp_now ⟨Int.le_refl _, hn1, fun h => absurd h (by omega)⟩)
        rw [show wrap64 (most - n) = most - n by unfold wrap64; omega, show wrap64 (deep - 1) = deep - 1 by unfold wrap64; omega]
        refine sp_bind (sp_light d _ (hx _ (List.getElem_mem hlt)) (most - n) (deep - 1) (by omega) (by omega) (by omega) (by omega)) (fun t ht => ?_)
        obtain ⟨ht1, ht2, ht3⟩ := ht
        rw [show wrap64 (n + t) = n + t by unfold wrap64; omega]
        refine sp_mono (ih (i + 1) (n + t) (by omega) (by omega) (by omega)) (fun r hr => ?_)
        refine ⟨by omega, hr.2.1, fun h => ?_⟩
        rw [hr.2.2 h, cntL_drop hlt, ht3 (by omega)]
        push_cast; omega
    have j0 : ∀ b : Bool, (b = false → 1 ≤ deep) → Sp (fun r => 1 ≤ r ∧ r ≤ most + 1 ∧ (r ≤ most → r = (cnt x : Int))) (fun k => leatref7_Light.j0 k most deep b x.f0 x.f1 x.f2) := by
      intro b hb
      refine sp_step (f := ?f3) (fun k => ?h3) ?r3
      case h3 => conv => lhs; rw [leatref7_Light.j0]
      refine sp_ite (fun h => ?_) (fun h => ?_)
      · rw [show wrap64 (most + 1) = most + 1 by unfold wrap64; omega]
        exact sp_now ⟨by omega, by omega, fun h => absurd h (by omega)⟩
      · refine sp_mono (loop (hb (Bool.eq_false_iff.2 h)) x.f2.length 0 1 (by omega) (by omega) (by omega)) (fun r hr => ⟨hr.1, hr.2.1, fun h => ?_⟩)
        rw [hr.2.2 h, cnt_eq]
        simp; omega
    refine sp_step (f := ?f4) (fun k => ?h4) ?r4
    case h4 => conv => lhs; rw [leatref7_Light.f]
    exact sp_ite (fun _ => j0 true (by intro h; cases h)) (fun _ => j0 _ (by intro h; simp at h; omega))
end Go.Proofs.YtdmfakgbiaaacaaDoor.X
namespace Go.Proofs.YtdmfakgbiaaacaaDoor.X
open Go.RowKit Go.Proofs.YtdmfakgbiaaacaaDoorW.PrintWords Go.Proofs.YtdmfakgbiaaacaaDoor.Op
set_option linter.unusedVariables false
set_option linter.unusedSimpArgs false
section
variable (r0 r1 r2 : Int)
mutual
def val : S24 → Int
  | ⟨op, n, l⟩ => refOp op n r0 r1 r2 ((valL l).getD 0 0) ((valL l).getD 1 0) ((valL l).getD 2 0)
def valL : List S24 → List Int
  | [] => []
  | x :: l => val x :: valL l
end
theorem val_eq (x : S24) : val r0 r1 r2 x = refOp x.f0 x.f1 r0 r1 r2 ((valL r0 r1 r2 x.f2).getD 0 0) ((valL r0 r1 r2 x.f2).getD 1 0) ((valL r0 r1 r2 x.f2).getD 2 0) := by cases x; rw [val]
theorem valL_at : ∀ (l : List S24) (i : Nat), (valL r0 r1 r2 l).getD i 0 = if h : i < l.length then val r0 r1 r2 l[i] else 0
  | [], i => by simp [valL]
  | x :: l, 0 => by simp [valL]
  | x :: l, i + 1 => by
    have := valL_at l i
    simp only [valL, List.getD_cons_succ, this, List.length_cons, Nat.add_lt_add_iff_right, List.getElem_cons_succ]
theorem okL_at {l : List S24} (h : okL l = true) : ∀ (i : Nat) (hi : i < l.length), okx l[i] = true := by
  induction l with
  | nil => intro i hi; simp at hi
  | cons x l ih =>
    rw [okL, Bool.and_eq_true] at h
    intro i hi
    cases i with
    | zero => exact h.1
    | succ i => exact ih h.2 i (by simpa using hi)
theorem ok_parts {x : S24} (h : okx x = true) : ar x.f0 = (x.f2.length : Int) ∧ (x.f1 = 0 ∨ x.f0 = 1) ∧ okL x.f2 = true := by
  rw [okx_eq] at h
  simpa using h
theorem ar_cases {a : Int} {n : Nat} (h : ar a = (n : Int)) : (1 ≤ a ∧ a ≤ 4 ∧ n = 0) ∨ (a = 14 ∧ n = 3) ∨ (5 ≤ a ∧ a ≤ 13 ∧ n = 2) := by
  unfold ar at h
  split at h
  · omega
  split at h
  · omega
  split at h
  · omega
  · omega
theorem ev_val : ∀ (d : Nat) (x : S24), Fit d x → okx x = true → Ev (fun k => expr_eval.f k x.f0 x.f1 x.f2 r0 r1 r2) (val r0 r1 r2 x)
  | 0, _, h, _ => h.elim
  | d + 1, x, ⟨hl, hx⟩, ho => by
    obtain ⟨h1, h2, h3⟩ := ok_parts ho
    have one : ∀ (i : Nat) (h : i < x.f2.length), Ev (fun k => expr_eval.f k (rd_T24 x.f2 (i : Int)).f0 (rd_T24 x.f2 (i : Int)).f1 (rd_T24 x.f2 (i : Int)).f2 r0 r1 r2) ((valL r0 r1 r2 x.f2).getD i 0) := by
      intro i h
      rw [valL_at, dif_pos h, rd24_at h]
      exact ev_val d _ (hx _ (List.getElem_mem h)) (okL_at h3 i h)
    rw [val_eq]
    refine Ev.step (f := ?f4) (fun k => ?h4) ?r4
    case h4 => conv => lhs; rw [expr_eval.f]
    unfold refOp
    refine ev_ite (fun h => ev_now (by rw [if_pos h])) (fun e1 => ?_)
    rw [if_neg e1]
    refine ev_ite (fun h => ev_now (by rw [if_pos h])) (fun e2 => ?_)
    rw [if_neg e2]
    refine ev_ite (fun h => ev_now (by rw [if_pos h])) (fun e3 => ?_)
    rw [if_neg e3]
    refine ev_ite (fun h => ev_now (by rw [if_pos h])) (fun e4 => ?_)
    rw [if_neg e4]
    rcases ar_cases h1 with hh | ⟨e14, hn⟩ | ⟨e5, e13, hn⟩
    · omega
    · refine ev_pos e14 (ev_pos (by omega) ?_)
      rw [if_neg (show ¬ x.f0 = 5 by omega), if_neg (show ¬ x.f0 = 6 by omega), if_neg (show ¬ x.f0 = 7 by omega), if_neg (show ¬ x.f0 = 8 by omega), if_neg (show ¬ x.f0 = 9 by omega), if_neg (show ¬ x.f0 = 10 by omega), if_neg (show ¬ x.f0 = 11 by omega), if_neg (show ¬ x.f0 = 12 by omega), if_neg (show ¬ x.f0 = 13 by omega), if_pos e14]
      refine Ev.bind (one 0 (by omega)) ?_
      exact ev_ite (fun h => by rw [if_pos h]; exact one 2 (by omega)) (fun h => by rw [if_neg h]; exact one 1 (by omega))
    · refine ev_neg (by omega) (ev_pos (by omega) ?_)
      refine Ev.bind (one 0 (by omega)) (Ev.bind (one 1 (by omega)) (ev_now ?_))
      unfold opP
      rw [if_neg (show ¬ x.f0 = 14 by omega)]
      by_cases h13 : x.f0 = 13
      · rw [h13]; rfl
      · rw [if_neg h13]
        have h12 : x.f0 = 5 ∨ x.f0 = 6 ∨ x.f0 = 7 ∨ x.f0 = 8 ∨ x.f0 = 9 ∨ x.f0 = 10 ∨ x.f0 = 11 ∨ x.f0 = 12 := by omega
        rcases h12 with h | h | h | h | h | h | h | h <;> rw [h] <;> rfl
theorem ev_Eval {d : Nat} {x : S24} (h : Fit d x) (hc : cnt x ≤ 1000000) : Ev (fun k => expr_Eval.f k x.f0 x.f1 x.f2 r0 r1 r2) (if chk x = 0 then val r0 r1 r2 x else 0) := by
  unfold expr_Eval.f
  refine Ev.bind (ev_check h hc) ?_
  refine ev_ite (fun h1 => ?_) (fun h1 => by rw [if_neg h1]; exact Ev.now _)
  rw [if_pos h1]
  exact Ev.bind (ev_val r0 r1 r2 d x h (chk_ok h1).1) (Ev.now _)
end
end Go.Proofs.YtdmfakgbiaaacaaDoor.X
namespace Go.Proofs.YtdmfakgbiaaacaaDoor.X
open Go.RowKit Go.Proofs.YtdmfakgbiaaacaaDoorW.PrintWords Go.Proofs.YtdmfakgbiaaacaaDoor.Op
set_option linter.unusedVariables false
set_option linter.unusedSimpArgs false
def B (l : List UInt8) : ByteArray := ⟨l.toArray⟩
def wd (op : Int) : List UInt8 := (wordL.getD op.toNat ⟨#[]⟩).data.toList
end Go.Proofs.YtdmfakgbiaaacaaDoor.X
namespace Go.Proofs.YtdmfakgbiaaacaaDoor.X
open Go.RowKit Go.Proofs.YtdmfakgbiaaacaaDoorW.PrintWords Go.Proofs.YtdmfakgbiaaacaaDoor.Op
set_option linter.unusedVariables false
set_option linter.unusedSimpArgs false
theorem g24_up : ∀ (n : Nat) (x : S24), G24 n x → G24 (n + 1) x
  | 0, _, h => h.elim
  | n + 1, x, ⟨h0, h1, h2, h3, h4⟩ => ⟨h0, h1, h2, h3, fun y hy => g24_up n y (h4 y hy)⟩
theorem g24_le {n m : Nat} (h : n ≤ m) {x : S24} (hx : G24 n x) : G24 m x := by
  obtain ⟨k, rfl⟩ := Nat.exists_eq_add_of_le h
  clear h
  induction k with
  | zero => exact hx
  | succ k ih => exact g24_up _ _ ih
theorem good_of {op n : Int} {l : List S24} (h0 : (Lit.int .i64 op).wf = true) (h1 : (Lit.int .i64 n).wf = true) (hl : l.length * 40 ≤ 140737488351232 ∧ l.length ≤ 9223372036854775807 ∧ ∀ x ∈ l, Good24 x) : ∃ d, G24 d ⟨op, n, l⟩ := by
  obtain ⟨h2, h3, h4⟩ := hl
  have : ∃ d, ∀ x ∈ l, G24 d x := by
    clear h2 h3
    induction l with
    | nil => exact ⟨0, fun x hx => absurd hx (by simp)⟩
    | cons y l ih =>
      obtain ⟨a, ha⟩ := ih (fun x hx => h4 x (by simp [hx]))
      obtain ⟨b, hb⟩ := h4 y (by simp)
      refine ⟨a + b, fun x hx => ?_⟩
      rcases List.mem_cons.1 hx with rfl | hx
      · exact g24_le (by omega) hb
      · exact g24_le (by omega) (ha x hx)
  obtain ⟨d, hd⟩ := this
  exact ⟨d + 1, h0, h1, h2, h3, hd⟩
open Classical in
noncomputable def sm (a b : S24) : Bool := decide (a = b)
end Go.Proofs.YtdmfakgbiaaacaaDoor.X
namespace Go.Proofs.YtdmfakgbiaaacaaDoor.X
open Go.RowKit Go.Proofs.YtdmfakgbiaaacaaDoorW.PrintWords Go.Proofs.YtdmfakgbiaaacaaDoor.Op
set_option linter.unusedVariables false
set_option linter.unusedSimpArgs false
theorem fit_le {n m : Nat} (h : n ≤ m) : ∀ {x : S24}, Fit n x → Fit m x := by
  induction n generalizing m with
  | zero => intro x h; exact h.elim
  | succ n ih =>
    intro x hx
    obtain ⟨k, rfl⟩ : ∃ k, m = k + 1 := ⟨m - 1, by omega⟩
    exact ⟨hx.1, fun y hy => ih (by omega) (hx.2 y hy)⟩
def Kn (m : Nat) (x : S24) : Prop := (∃ d, Fit d x) ∧ cnt x ≤ m
theorem kn_two {m n : Nat} {x y : S24} (op : Int) (hx : Kn m x) (hy : Kn n y) : Kn (m + n + 1) ⟨op, 0, [x, y]⟩ := by
  obtain ⟨⟨d, hd⟩, hm⟩ := hx
  obtain ⟨⟨e, he⟩, hn⟩ := hy
  refine ⟨⟨d + e + 1, by simp, fun z hz => ?_⟩, ?_⟩
  · simp only [List.mem_cons, List.not_mem_nil, or_false] at hz
    rcases hz with rfl | rfl
    · exact fit_le (by omega) hd
    · exact fit_le (by omega) he
  · rw [cnt_eq]; simp only [cntL]; omega
theorem kn_three {m n p : Nat} {x y z : S24} (op : Int) (hx : Kn m x) (hy : Kn n y) (hz : Kn p z) : Kn (m + n + p + 1) ⟨op, 0, [x, y, z]⟩ := by
  obtain ⟨⟨d, hd⟩, hm⟩ := hx
  obtain ⟨⟨e, he⟩, hn⟩ := hy
  obtain ⟨⟨f, hf⟩, hp⟩ := hz
  refine ⟨⟨d + e + f + 1, by simp, fun z hz => ?_⟩, ?_⟩
  · simp only [List.mem_cons, List.not_mem_nil, or_false] at hz
    rcases hz with rfl | rfl | rfl
    · exact fit_le (by omega) hd
    · exact fit_le (by omega) he
    · exact fit_le (by omega) hf
  · rw [cnt_eq]; simp only [cntL]; omega
theorem kn_const (k : Int) : Kn 1 ⟨1, k, []⟩ := ⟨⟨1, by simp, by simp⟩, by rw [cnt_eq]; simp [cntL]⟩
theorem sm_of {m n : Nat} {x y : S24} (r0 r1 r2 : Int) (hx : Kn m x) (hy : Kn n y) (hm : m ≤ 1000) (hn : n ≤ 1000) (h : val r0 r1 r2 x = val r0 r1 r2 y) : ∃ k, sameL.f k x y r0 r1 r2 = some true := by
  obtain ⟨⟨d, hd⟩, hcx⟩ := hx
  obtain ⟨⟨e, he⟩, hcy⟩ := hy
  apply Ev.rounds
  apply sp_eq
  unfold sameL.f
  refine sp_bind (sp_some (ev_check7 hd (by omega)) rfl) (fun t ht => ?_)
  subst ht
  refine sp_ite (fun h1 => ?_) (fun _ => sp_now rfl)
  refine sp_bind (sp_some (ev_check7 he (by omega)) rfl) (fun t ht => ?_)
  subst ht
  refine sp_ite (fun h2 => ?_) (fun _ => sp_now rfl)
  refine sp_bind (sp_some (ev_Eval r0 r1 r2 hd (by omega)) rfl) (fun t ht => ?_)
  subst ht
  refine sp_bind (sp_some (ev_Eval r0 r1 r2 he (by omega)) rfl) (fun t ht => ?_)
  subst ht
  rw [if_pos h1, if_pos h2, h]
  exact sp_now (by simp)
section
variable (r0 r1 r2 : Int)
theorem val_two (op : Int) (x y : S24) : val r0 r1 r2 ⟨op, 0, [x, y]⟩ = refOp op 0 r0 r1 r2 (val r0 r1 r2 x) (val r0 r1 r2 y) 0 := by rw [val_eq]; simp [valL]
theorem val_three (op : Int) (x y z : S24) : val r0 r1 r2 ⟨op, 0, [x, y, z]⟩ = refOp op 0 r0 r1 r2 (val r0 r1 r2 x) (val r0 r1 r2 y) (val r0 r1 r2 z) := by rw [val_eq]; simp [valL]
theorem val_const (k : Int) : val r0 r1 r2 ⟨1, k, []⟩ = k := by rw [val_eq]; simp [valL, refOp]
theorem v_add (x y : S24) : val r0 r1 r2 ⟨5, 0, [x, y]⟩ = wrap64 (val r0 r1 r2 x + val r0 r1 r2 y) := by rw [val_two]; simp [refOp]
theorem v_sub (x y : S24) : val r0 r1 r2 ⟨6, 0, [x, y]⟩ = wrap64 (val r0 r1 r2 x - val r0 r1 r2 y) := by rw [val_two]; simp [refOp]
theorem v_mul (x y : S24) : val r0 r1 r2 ⟨7, 0, [x, y]⟩ = wrap64 (val r0 r1 r2 x * val r0 r1 r2 y) := by rw [val_two]; simp [refOp]
theorem v_min (x y : S24) : val r0 r1 r2 ⟨8, 0, [x, y]⟩ = mn (val r0 r1 r2 x) (val r0 r1 r2 y) := by rw [val_two]; simp [refOp]
theorem v_max (x y : S24) : val r0 r1 r2 ⟨9, 0, [x, y]⟩ = mx (val r0 r1 r2 x) (val r0 r1 r2 y) := by rw [val_two]; simp [refOp]
theorem v_xor (x y : S24) : val r0 r1 r2 ⟨10, 0, [x, y]⟩ = bits .xor .i64 (val r0 r1 r2 x) (val r0 r1 r2 y) := by rw [val_two]; simp [refOp]
theorem v_lt (x y : S24) : val r0 r1 r2 ⟨12, 0, [x, y]⟩ = if val r0 r1 r2 x < val r0 r1 r2 y then 1 else 0 := by rw [val_two]; simp [refOp]
theorem v_eq (x y : S24) : val r0 r1 r2 ⟨13, 0, [x, y]⟩ = if val r0 r1 r2 x = val r0 r1 r2 y then 1 else 0 := by rw [val_two]; simp [refOp]
theorem v_if (x y z : S24) : val r0 r1 r2 ⟨14, 0, [x, y, z]⟩ = if val r0 r1 r2 x = 0 then val r0 r1 r2 z else val r0 r1 r2 y := by rw [val_three]; simp [refOp]
end
theorem wrap_eq {a b : Int} (h : ∃ k : Int, a = b + k * 18446744073709551616) : wrap64 a = wrap64 b := by
  obtain ⟨k, rfl⟩ := h
  unfold wrap64
  omega
theorem wrap_form (a : Int) : ∃ k : Int, wrap64 a = a + k * 18446744073709551616 := ⟨-((a + 9223372036854775808) / 18446744073709551616), by unfold wrap64; omega⟩
theorem wrap_add_l (a b : Int) : wrap64 (wrap64 a + b) = wrap64 (a + b) := by
  obtain ⟨k, hk⟩ := wrap_form a
  exact wrap_eq ⟨k, by rw [hk]; omega⟩
theorem wrap_add_r (a b : Int) : wrap64 (a + wrap64 b) = wrap64 (a + b) := by rw [Int.add_comm, wrap_add_l, Int.add_comm]
theorem wrap_mul_r (a b : Int) : wrap64 (a * wrap64 b) = wrap64 (a * b) := by
  obtain ⟨k, hk⟩ := wrap_form b
  exact wrap_eq ⟨a * k, by rw [hk, Int.mul_add, Int.mul_assoc]⟩
theorem mn_mx (a b : Int) : mn a b + mx a b = a + b := by unfold mn mx; split <;> split <;> omega
theorem xor_self (a : Int) : bits .xor .i64 a a = 0 := by
  have h : bits .xor .i64 a a = IntKind.i64.wrap (((BitVec.ofInt 64 a ^^^ BitVec.ofInt 64 a : BitVec 64).toNat : Nat) : Int) := rfl
  rw [h, BitVec.xor_self]
  decide
theorem ev_unique {α : Type} {g : Nat → Option α} {a b : α} (ha : Ev g a) (hb : Ev g b) : a = b := by
  obtain ⟨k, hk⟩ := ha
  obtain ⟨m, hm⟩ := hb
  have h1 := hk (k + m) (by omega)
  have h2 := hm (k + m) (by omega)
  rw [h1] at h2
  exact Option.some.inj h2
theorem pass_kn {d : Nat} {x : S24} (hd : Fit d x) (h : ∃ k r, leatref7_Light.f k x.f0 x.f1 x.f2 7 5 = some r ∧ r ≤ 7 ∧ leatref7_Check.f k x.f0 x.f1 x.f2 = some 0) : Kn 7 x := by
  obtain ⟨k, r, hl, hr, _⟩ := h
  obtain ⟨t, ht, he⟩ := sp_light d x hd 7 5 (by omega) (by omega) (by omega) (by omega)
  have := ev_unique he (Ev.of (fun k => leatref7_Light.mono _ _ _ _ _ k) hl)
  subst this
  have := ht.2.2 hr
  exact ⟨⟨d, hd⟩, by omega⟩
end Go.Proofs.YtdmfakgbiaaacaaDoor.X
namespace Go.Proofs.YtdmfakgbiaaacaaDoor.X
open Go.RowKit Go.Proofs.YtdmfakgbiaaacaaDoorW.PrintWords Go.Proofs.YtdmfakgbiaaacaaDoor.Op
set_option linter.unusedVariables false
set_option linter.unusedSimpArgs false
theorem asked_of {d : Nat} {x : S24} (hd : Fit d x) : Asked x := by
  obtain ⟨r, hr, hl⟩ := sp_light d x hd 7 5 (by omega) (by omega) (by omega) (by omega)
  by_cases h7 : r ≤ 7
  · have hc := ev_check7 hd (show cnt x ≤ 1000000 by have := hr.2.2 h7; omega)
    obtain ⟨k1, h1⟩ := hl
    obtain ⟨k2, h2⟩ := hc
    refine ⟨k1 + k2, r, h1 _ (by omega), Or.inr ⟨h7, chk x, h2 _ (by omega), ?_⟩⟩
    by_cases h : chk x = 0
    · exact Or.inl h
    · exact Or.inr h
  · obtain ⟨k, hk⟩ := hl.rounds
    exact ⟨k, r, hk, Or.inl (by omega)⟩
theorem ten (r0 r1 r2 : Int) {a b c : S24} (ha : Kn 7 a) (hb : Kn 7 b) (hc : Kn 7 c) :
    SM r0 r1 r2 (⟨5, 0, [a, b]⟩ : S24) (⟨5, 0, [b, a]⟩ : S24) ∧ SM r0 r1 r2 (⟨7, 0, [a, b]⟩ : S24) (⟨7, 0, [b, a]⟩ : S24) ∧ SM r0 r1 r2 (⟨5, 0, [a, (⟨5, 0, [b, c]⟩ : S24)]⟩ : S24) (⟨5, 0, [(⟨5, 0, [a, b]⟩ : S24), c]⟩ : S24) ∧ SM r0 r1 r2 (⟨7, 0, [a, (⟨5, 0, [b, c]⟩ : S24)]⟩ : S24) (⟨5, 0, [(⟨7, 0, [a, b]⟩ : S24), (⟨7, 0, [a, c]⟩ : S24)]⟩ : S24) ∧ SM r0 r1 r2 (⟨6, 0, [a, b]⟩ : S24) (⟨5, 0, [a, (⟨7, 0, [b, (⟨1, -1, []⟩ : S24)]⟩ : S24)]⟩ : S24) ∧ SM r0 r1 r2 (⟨14, 0, [c, a, a]⟩ : S24) a ∧ SM r0 r1 r2 (⟨10, 0, [a, a]⟩ : S24) (⟨1, 0, []⟩ : S24) ∧ SM r0 r1 r2 (⟨13, 0, [a, a]⟩ : S24) (⟨1, 1, []⟩ : S24) ∧ SM r0 r1 r2 (⟨5, 0, [(⟨8, 0, [a, b]⟩ : S24), (⟨9, 0, [a, b]⟩ : S24)]⟩ : S24) (⟨5, 0, [a, b]⟩ : S24) ∧ SM r0 r1 r2 (⟨5, 0, [(⟨12, 0, [a, b]⟩ : S24), (⟨5, 0, [(⟨12, 0, [b, a]⟩ : S24), (⟨13, 0, [a, b]⟩ : S24)]⟩ : S24)]⟩ : S24) (⟨1, 1, []⟩ : S24) := by
  have ab : ∀ op, Kn 15 ⟨op, 0, [a, b]⟩ := fun op => kn_two op ha hb
  have ba : ∀ op, Kn 15 ⟨op, 0, [b, a]⟩ := fun op => kn_two op hb ha
  have bc : ∀ op, Kn 15 ⟨op, 0, [b, c]⟩ := fun op => kn_two op hb hc
  have ac : ∀ op, Kn 15 ⟨op, 0, [a, c]⟩ := fun op => kn_two op ha hc
  have aa : ∀ op, Kn 15 ⟨op, 0, [a, a]⟩ := fun op => kn_two op ha ha
  refine ⟨?_, ?_, ?_, ?_, ?_, ?_, ?_, ?_, ?_, ?_⟩
  · exact sm_of r0 r1 r2 (ab 5) (ba 5) (by omega) (by omega) (by rw [v_add, v_add, Int.add_comm])
  · exact sm_of r0 r1 r2 (ab 7) (ba 7) (by omega) (by omega) (by rw [v_mul, v_mul, Int.mul_comm])
  · exact sm_of r0 r1 r2 (kn_two 5 ha (bc 5)) (kn_two 5 (ab 5) hc) (by omega) (by omega) (by rw [v_add, v_add, v_add, v_add, wrap_add_r, wrap_add_l, Int.add_assoc])
  · exact sm_of r0 r1 r2 (kn_two 7 ha (bc 5)) (kn_two 5 (ab 7) (ac 7)) (by omega) (by omega) (by rw [v_mul, v_add, v_add, v_mul, v_mul, wrap_mul_r, wrap_add_l, wrap_add_r, Int.mul_add])
  · exact sm_of r0 r1 r2 (ab 6) (kn_two 5 ha (kn_two 7 hb (kn_const (-1)))) (by omega) (by omega) (by rw [v_sub, v_add, v_mul, val_const, wrap_add_r, Int.mul_neg, Int.mul_one, Int.sub_eq_add_neg])
  · exact sm_of r0 r1 r2 (kn_three 14 hc ha ha) ha (by omega) (by omega) (by rw [v_if]; split <;> rfl)
  · exact sm_of r0 r1 r2 (aa 10) (kn_const 0) (by omega) (by omega) (by rw [v_xor, val_const, xor_self])
  · exact sm_of r0 r1 r2 (aa 13) (kn_const 1) (by omega) (by omega) (by rw [v_eq, val_const, if_pos rfl])
  · exact sm_of r0 r1 r2 (kn_two 5 (ab 8) (ab 9)) (ab 5) (by omega) (by omega) (by rw [v_add, v_add, v_min, v_max, mn_mx])
  · refine sm_of r0 r1 r2 (kn_two 5 (ab 12) (kn_two 5 (ba 12) (ab 13))) (kn_const 1) (by omega) (by omega) ?_
    rw [v_add, v_add, v_lt, v_lt, v_eq, val_const]
    rcases (show val r0 r1 r2 a < val r0 r1 r2 b ∨ val r0 r1 r2 b < val r0 r1 r2 a ∨ val r0 r1 r2 a = val r0 r1 r2 b by omega) with h | h | h
    · rw [if_pos h, if_neg (show ¬ val r0 r1 r2 b < val r0 r1 r2 a by omega), if_neg (show ¬ val r0 r1 r2 a = val r0 r1 r2 b by omega)]; unfold wrap64; omega
    · rw [if_neg (show ¬ val r0 r1 r2 a < val r0 r1 r2 b by omega), if_pos h, if_neg (show ¬ val r0 r1 r2 a = val r0 r1 r2 b by omega)]; unfold wrap64; omega
    · rw [h, if_neg (show ¬ val r0 r1 r2 b < val r0 r1 r2 b by omega), if_pos rfl]; unfold wrap64; omega
end Go.Proofs.YtdmfakgbiaaacaaDoor.X
namespace Go.Proofs.YtdmfakgbiaaacaaDoor.Pure
open Go.RowKit Go.Proofs.YtdmfakgbiaaacaaDoorW.PrintWords Go.Proofs.YtdmfakgbiaaacaaDoor.X Go.Proofs.YtdmfakgbiaaacaaDoor.Op
set_option linter.unusedVariables false
theorem ExprLaws : Op.ExprLawsPure := by
  intro op0 n0 l0 op1 n1 l1 op2 n2 l2 r0 r1 r2 h00 h01 h02 h10 h11 h12 h20 h21 h22 _ _ _
  obtain ⟨d0, hd0⟩ := good_of h00 h01 h02
  obtain ⟨d1, hd1⟩ := good_of h10 h11 h12
  obtain ⟨d2, hd2⟩ := good_of h20 h21 h22
  unfold leatlaw7_ExprLaws.f
  refine if_pos ⟨asked_of (fit24 d0 _ hd0), asked_of (fit24 d1 _ hd1), asked_of (fit24 d2 _ hd2), ?_⟩
  rintro a b c rfl rfl rfl pa pb pc
  exact ten r0 r1 r2 (pass_kn (fit24 d0 _ hd0) pa) (pass_kn (fit24 d1 _ hd1) pb) (pass_kn (fit24 d2 _ hd2) pc)
end Go.Proofs.YtdmfakgbiaaacaaDoor.Pure
