/- The document's windows (the reference), in plain Lean: its sorting, its merging, its joining. No conditions but those typed. -/
import Derived.Test.YtdinbnbogdadgaaB18
import Derived.Test.YtdinbnbogdadgaaDXf29
import Derived.Test.YtdinbnbogdadgaaDXf45
import Derived.Test.YtdinbnbogdadgaaDXf30
namespace Go.Proofs.Ytdinbnbogdadgaa.Th
open Go.RowKit Go.Sort Go.Proofs.YtdinbnbogdadgaaW.PrintWords Go.Proofs.YtdinbnbogdadgaaW.PrintMore Go.Proofs.Ytdinbnbogdadgaa Go.Proofs.Ytdinbnbogdadgaa.So Go.Proofs.Ytdinbnbogdadgaa.X Go.Proofs.Ytdinbnbogdadgaa.Nf
set_option linter.unusedVariables false
set_option linter.unusedSimpArgs false
theorem less_eq (x y : S46) : leatref11_less.f x.f0 x.f1.f0 x.f1.f1 x.f2 y.f0 y.f1.f0 y.f1.f1 y.f2 = some (ltOf cmpO x y) := by
 have h := ltO_iff x y
 have key : ∀ (c : Prop) [Decidable c], (ltOf cmpO x y = true ↔ c) → decide c = ltOf cmpO x y := by
  intro c _ hc
  by_cases h1 : c
  ·rw [decide_eq_true h1, hc.2 h1]
  ·rw [decide_eq_false h1]
   cases h2 : ltOf cmpO x y with
   | false => rfl
   | true => exact absurd (hc.1 h2) h1
 unfold leatref11_less.f
 by_cases h0 : x.f0 = y.f0
 ·rw [if_pos h0]
  by_cases h1 : x.f1.f0 = y.f1.f0
  ·rw [if_pos h1]
   by_cases h2 : x.f1.f1 = y.f1.f1
   ·rw [if_pos h2, key _ (h.trans (by omega))]
   ·rw [if_neg h2, key _ (h.trans (by omega))]
  ·rw [if_neg h1, key _ (h.trans (by omega))]
 ·rw [if_neg h0, key _ (h.trans (by omega))]
def ins (out : List S46) (p : Nat) (e : S46) : List S46 := out.take p ++ e :: out.drop p
theorem ins_perm (out : List S46) (p : Nat) (e : S46) : (ins out p e).Perm (e :: out) := by
 unfold ins
 have := List.perm_middle (l₁ := out.take p) (l₂ := out.drop p) (a := e)
 rw [List.take_append_drop] at this
 exact this
theorem sorted_le {l : List S46} (h : Sorted l) {i j : Nat} (hi : i < l.length) (hj : j < l.length) (hij : i ≤ j) : leO l[i] l[j] = true := by
 rcases Nat.lt_or_ge i j with h1 | h1
 ·exact List.pairwise_iff_getElem.1 h i j hi hj h1
 ·obtain rfl : i = j := by omega
  have := leO_total l[i] l[i]
  simpa using this
theorem ins_sorted {out : List S46} (hs : Sorted out) {p : Nat} (hp : p ≤ out.length) {e : S46} (h1 : ∀ j (h : j < out.length), j < p → leO out[j] e = true) (h2 : ∀ j (h : j < out.length), p ≤ j → leO e out[j] = true) : Sorted (ins out p e) := by
 unfold ins Sorted
 rw [List.pairwise_append]
 refine ⟨hs.sublist (List.take_sublist _ _), List.pairwise_cons.2 ⟨fun y hy => ?_, hs.sublist (List.drop_sublist _ _)⟩, fun x hx y hy => ?_⟩
 ·obtain ⟨j, hj, rfl⟩ := List.getElem_of_mem hy
  rw [List.getElem_drop]; exact h2 _ _ (by omega)
 ·obtain ⟨i, hi, rfl⟩ := List.getElem_of_mem hx
  rw [List.getElem_take]
  rw [List.length_take] at hi
  rcases List.mem_cons.1 hy with rfl | hy
  ·exact h1 _ _ (by omega)
  ·obtain ⟨j, hj, rfl⟩ := List.getElem_of_mem hy
   rw [List.getElem_drop]
   exact sorted_le hs _ _ (by omega)
theorem l2_ev (l out : List S46) (i : Nat) (hi : i < l.length) (hl : l.length < 4398046511000) (ho : out.length ≤ i) (p : Nat) (hp : p ≤ out.length) {r : List S46}
  (hr : Ev (fun k => leatref11_Sort.l0 k l (ins out p l[i]) ((i + 1 : Nat) : Int)) r) : ∀ (d q : Nat) (y : List S46), q = p + d → q ≤ out.length → y.length = out.length + 1 →
  (∀ t (h : t < y.length) (h2 : t < out.length), t < q → y[t] = out[t]) → (∀ t (h : t < y.length) (h2 : t - 1 < out.length), q < t → y[t] = out[t - 1]) →
  Ev (fun k => leatref11_Sort.l2 k l y (i : Int) (p : Int) (q : Int)) r
 | 0, q, y, hq, hqo, hy, h1, h2 => by
  have e : y.set p l[i] = ins out p l[i] := by
   show y.set p l[i] = out.take p ++ l[i] :: out.drop p
   apply List.ext_getElem
   ·simp; omega
   ·intro t ht1 ht2
    rw [List.length_set] at ht1
    rw [List.getElem_set]
    by_cases h3 : p = t
    ·subst h3
     rw [if_pos rfl, List.getElem_append_right (by simp; omega)]
     simp [Nat.min_eq_left hp]
    ·rw [if_neg h3]
     by_cases h4 : t < p
     ·rw [List.getElem_append_left (by simp; omega), List.getElem_take]
      exact h1 t ht1 (by omega) (by omega)
     ·rw [List.getElem_append_right (by simp; omega)]
      have h5 : t - (out.take p).length = (t - p - 1) + 1 := by rw [List.length_take]; omega
      simp only [h5, List.getElem_cons_succ, List.getElem_drop]
      rw [h2 t ht1 (by omega) (by omega)]
      congr 1; omega
  refine Ev.step (fun k => ?_) hr
  simp only [leatref11_Sort.l2]
  rw [if_neg (by omega), if_pos (by omega), if_pos (by omega), if_pos (by omega), if_pos (by omega), rd46_at hi, step_i hi (by omega), Int.toNat_natCast]
  show leatref11_Sort.l0 k l (y.set p l[i]) _ = _
  rw [e]
 | d + 1, q, y, hq, hqo, hy, h1, h2 => by
  have hw : wrap64 ((q : Int) - 1) = ((q - 1 : Nat) : Int) := by rw [w_in (by omega)]; omega
  have hq1 : q - 1 < y.length := by omega
  refine Ev.step (fun k => ?_) (l2_ev l out i hi hl ho p hp hr d (q - 1) (y.set q y[q - 1]) (by omega) (by omega) (by simpa using hy) (fun t h h3 h4 => ?_) (fun t h h3 h4 => ?_))
  ·simp only [leatref11_Sort.l2]
   rw [if_pos (by omega), hw, if_pos (by omega), if_pos (by omega), if_pos (by omega), if_pos (by omega), rd46_at hq1, Int.toNat_natCast]
  ·rw [List.length_set] at h
   rw [List.getElem_set, if_neg (by omega)]
   exact h1 t h h3 (by omega)
  ·rw [List.length_set] at h
   rw [List.getElem_set]
   by_cases h5 : q = t
   ·subst h5
    rw [if_pos rfl]
    exact h1 (q - 1) hq1 h3 (by omega)
   ·rw [if_neg h5]
    exact h2 t h h3 (by omega)
theorem l1_ev (l out : List S46) (hs : Sorted out) (i : Nat) (hi : i < l.length) (hl : l.length < 4398046511000) (ho : out.length ≤ i) {r : List S46}
  (hr : ∀ p, p ≤ out.length → Sorted (ins out p l[i]) → Ev (fun k => leatref11_Sort.l0 k l (ins out p l[i]) ((i + 1 : Nat) : Int)) r) : ∀ (d lo hh : Nat), hh - lo ≤ d → lo ≤ hh → hh ≤ out.length →
  (∀ j (h : j < out.length), j < lo → leO out[j] l[i] = true) → (∀ j (h : j < out.length), hh ≤ j → leO l[i] out[j] = true) →
  Ev (fun k => leatref11_Sort.l1 k l out (i : Int) (lo : Int) (hh : Int)) r
 | d, lo, hh, hd, hlh, hho, h1, h2 => by
  by_cases hc : lo < hh
  ·match d, hd with
   | 0, hd => omega
   | d + 1, hd =>
    have hm : wrap64 (Int.tdiv (wrap64 ((lo : Int) + (hh : Int))) 2) = (((lo + hh) / 2 : Nat) : Int) := by
     rw [w_in (show -9223372036854775808 ≤ (lo : Int) + hh ∧ (lo : Int) + hh ≤ 9223372036854775807 by omega), Int.tdiv_eq_ediv_of_nonneg (by omega), w_in (by omega)]
     omega
    have hml : (lo + hh) / 2 < out.length := by omega
    have hcode : ∀ (g : Nat → Option (List S46)), (∀ k, g k = if ltOf cmpO l[i] out[(lo + hh) / 2] = true then leatref11_Sort.l1 k l out (i : Int) (lo : Int) (((lo + hh) / 2 : Nat) : Int) else leatref11_Sort.l1 k l out (i : Int) (((lo + hh) / 2 + 1 : Nat) : Int) (hh : Int)) → Ev g r → Ev (fun k => leatref11_Sort.l1 k l out (i : Int) (lo : Int) (hh : Int)) r := by
     intro g hg hev
     refine Ev.step (f := g) (fun k => ?_) hev
     simp only [leatref11_Sort.l1]
     rw [if_pos (by omega), if_pos (by omega), if_pos (by omega), hm, if_pos (by omega), if_pos (by omega), rd46_at hi, rd46_at hml, less_eq, Option.bind_some, hg, w_in (show _ by omega)]
     rfl
    cases hlt : ltOf cmpO l[i] out[(lo + hh) / 2] with
    | true =>
     refine hcode _ (fun k => by rw [if_pos hlt]) (l1_ev l out hs i hi hl ho hr d lo ((lo + hh) / 2) (by omega) (by omega) (by omega) h1 (fun j hj h3 => ?_))
     refine leO_trans _ _ _ ?_ (sorted_le hs hml hj h3)
     rw [leO_iff]
     cases h4 : ltOf cmpO out[(lo + hh) / 2] l[i] with
     | false => rfl
     | true => have := swoO.trans _ _ _ hlt h4; rw [swoO.irrefl] at this; cases this
    | false =>
     refine hcode _ (fun k => by rw [if_neg (by rw [hlt]; simp)]) (l1_ev l out hs i hi hl ho hr d ((lo + hh) / 2 + 1) hh (by omega) (by omega) hho (fun j hj h3 => ?_) h2)
     exact leO_trans _ _ _ (sorted_le hs hj hml (by omega)) ((leO_iff _ _).2 hlt)
  ·have he : lo = hh := by omega
   subst he
   have hsrt := ins_sorted hs hho h1 h2
   have hz : (out ++ [(⟨0, (⟨0, 0⟩ : S31), 0⟩ : S46)]).length = out.length + 1 := by simp
   have h := l2_ev l out i hi hl ho lo hho (hr lo hho hsrt) (out.length - lo) out.length (out ++ [⟨0, ⟨0, 0⟩, 0⟩]) (by omega) (Nat.le_refl _) hz (fun t ht h3 h4 => by rw [List.getElem_append_left h3]) (fun t ht h3 h4 => by rw [hz] at ht; omega)
   refine Ev.step (fun k => ?_) h
   simp only [leatref11_Sort.l1]
   rw [if_neg (by omega), if_pos (by omega), Option.bind_some, hz, w_in (by omega)]
   congr 1
   omega
theorem rsort_l0 (l : List S46) (hl : l.length < 4398046511000) : ∀ (d i : Nat), l.length = i + d → Ev (fun k => leatref11_Sort.l0 k l (sortP (l.take i)) (i : Int)) (sortP l)
 | 0, i, h => by
  rw [List.take_of_length_le (by omega)]
  refine Ev.step (f := fun _ => some (sortP l)) (fun k => ?_) (Ev.now _)
  simp only [leatref11_Sort.l0]; rw [if_neg (by omega)]
 | d + 1, i, h => by
  have hi : i < l.length := by omega
  have hlen : (sortP (l.take i)).length = i := by rw [sortP_len, List.length_take]; omega
  have h1 := l1_ev l (sortP (l.take i)) (sortP_sorted _) i hi hl (by omega) (r := sortP l) (fun p hp hsrt => by
   have e : ins (sortP (l.take i)) p l[i] = sortP (l.take (i + 1)) := by
    refine sorted_unique ?_ hsrt (sortP_sorted _)
    refine (ins_perm _ _ _).trans (((sortP_perm _).cons _).trans (List.Perm.trans ?_ (sortP_perm _).symm))
    rw [← List.take_append_getElem hi]
    exact (List.perm_append_singleton _ _).symm
   rw [e]
   exact rsort_l0 l hl d (i + 1) (by omega)) (sortP (l.take i)).length 0 (sortP (l.take i)).length (by omega) (by omega) (Nat.le_refl _) (fun j hj h => absurd h (by omega)) (fun j hj h => by omega)
  refine Ev.step (fun k => ?_) h1
  simp only [leatref11_Sort.l0]
  rw [if_pos (by omega)]
  rfl
theorem rsort_ev (l : List S46) (hl : l.length < 4398046511000) : Ev (fun k => leatref11_Sort.f k l) (sortP l) := by
 have h := rsort_l0 l hl l.length 0 (by omega)
 have e : sortP (l.take 0) = [] := by rw [List.take_zero]; exact sortP_same List.Pairwise.nil
 rw [e] at h
 exact Ev.congr (fun k => by rw [leatref11_Sort.f]; rfl) h
theorem rmerge_ev {a : Int} (ha : aggOk a = true) (x y : Int) : Ev (fun k => leatref10_Merge.f k a x y) (aggMerge a x y) := by
 have ha' : 1 ≤ a ∧ a ≤ 5 := by simpa [aggOk] using ha
 have hm : aggMerge a x y = aggBoth a x y := by unfold aggMerge; rw [if_pos ha]
 have key : ∀ b : Bool, b = (a == 1 || a == 2) → Ev (fun k => leatref10_Merge.j0 k x y a b) (aggMerge a x y) := by
  intro b hb
  refine Ev.step (f := fun _ => some (aggBoth a x y)) (fun k => ?_) (ev_now hm.symm)
  simp only [leatref10_Merge.j0]
  unfold aggBoth
  by_cases h1 : a = 1 ∨ a = 2
  ·have : b = true := by rw [hb]; simpa using h1
   rw [if_pos this, if_pos h1]
  ·have : ¬ b = true := by rw [hb]; simpa using h1
   rw [if_neg this, if_neg h1]
   by_cases h3 : a = 3
   ·rw [if_pos h3, if_pos h3]; unfold mn; congr 1; omega
   ·rw [if_neg h3, if_neg h3]
    by_cases h4 : a = 4
    ·rw [if_pos h4, if_pos h4]; unfold mx; congr 1; omega
    ·rw [if_neg h4, if_neg h4, if_pos (by omega), if_pos (by omega)]
 by_cases h1 : a = 1
 ·exact Ev.congr (fun k => by rw [leatref10_Merge.f, if_pos h1]) (key (a == 1) (by simp [h1]))
 ·exact Ev.congr (fun k => by rw [leatref10_Merge.f, if_neg h1]) (key (a == 2) (by simp [h1]))
def Proper (p : S46) : Prop := p.f1.f0 < p.f1.f1
theorem proper_join {a : Int} {p x : S46} (h1 : Proper p) (h2 : Proper x) : Proper (joinP a p x) := by
 unfold Proper at *
 show mn _ _ < mx _ _
 unfold mn mx
 (repeat' split) <;> omega
theorem overlap_eq {p x : S46} (h1 : Proper p) (h2 : Proper x) (hk : x.f0 = p.f0) : ∃ b, leatref11_overlap.f x.f1.f0 x.f1.f1 p.f1.f0 p.f1.f1 = some b ∧ (b = true ↔ hitK 3 p x) := by
 unfold Proper at *
 unfold leatref11_overlap.f hitK
 rw [if_pos rfl, hitP_iff]
 by_cases h : x.f1.f0 < p.f1.f1
 ·rw [if_pos h]; exact ⟨_, rfl, by rw [decide_eq_true_iff]; omega⟩
 ·rw [if_neg h]; exact ⟨_, rfl, by simp; omega⟩
structure Mr (a : Int) (p : S46) (l r : List S46) : Prop where
 rs : RSk 3 a (p :: l) r
 nk : NK 3 l → NK 3 r
 st : Sorted r
 pr : ∀ x ∈ r, Proper x
theorem merge_pass {a : Int} (ha : aggOk a = true) (p0 : S46) (l0 : List S46) : ∀ (n : Nat) (l : List S46) (p : S46), l.length ≤ n → l.length < 4398046510000 → Proper p → (∀ x ∈ l, Proper x) → RSk 3 a (p0 :: l0) (p :: l) → l.Sublist l0 →
  Sp (Mr a p0 l0) (fun k => leatref11_merge.l0 k a l p.f0 p.f1.f0 p.f1.f1 p.f2)
 | n, l, p, hn, hl, hp, hpl, hrs, hsub => by
  have loop : ∀ (d i : Nat) (x7 : List S46) (b : Bool) (q : S46), l.length = i + d → x7.length ≤ i → x7.Sublist (l.take i) → Proper q → q.f0 = p.f0 → RSk 3 a (p0 :: l0) (q :: x7 ++ l.drop i) →
    (b = false → q = p ∧ x7 = l.take i ∧ ∀ x ∈ x7, ¬ hitK 3 p x) → (b = true → x7.length < i) →
    Sp (Mr a p0 l0) (fun k => leatref11_merge.l1 k a l x7 b (i : Int) q.f0 q.f1.f0 q.f1.f1 q.f2) := by
   intro d
   induction d with
   | zero =>
    intro i x7 b q h h1 h2 h3 h4 h5 h6 h7
    rw [List.drop_eq_nil_of_le (by omega), List.append_nil] at h5
    rw [List.take_of_length_le (by omega)] at h2
    cases b with
    | true =>
     have hlt := h7 rfl
     match n, hn with
     | 0, hn => omega
     | n + 1, hn =>
      obtain ⟨r, hr, hev⟩ := merge_pass ha p0 l0 n x7 q (by omega) (by omega) h3 (fun x hx => hpl x (h2.subset hx)) h5 (h2.trans hsub)
      refine ⟨r, hr, Ev.step (fun k => ?_) hev⟩
      simp only [leatref11_merge.l1]
      rw [if_neg (by omega)]
      exact if_pos trivial
    | false =>
     obtain ⟨rfl, h8, h9⟩ := h6 rfl
     have hs := rsort_ev (x7 ++ [q]) (by simp; omega)
     have hperm : (q :: x7).Perm (x7 ++ [q]) := (List.perm_append_singleton _ _).symm
     refine ⟨sortP (x7 ++ [q]), ⟨h5.perm (.refl _) (hperm.trans (sortP_perm _).symm), fun hN => ?_, sortP_sorted _, fun x hx => ?_⟩, Ev.step (fun k => ?_) (Ev.bind hs (Ev.now _))⟩
     ·have : NK 3 (q :: x7) := List.pairwise_cons.2 ⟨h9, hN.sublist (h2.trans hsub)⟩
      exact Normal.perm (mgK 3 ha) this (hperm.trans (sortP_perm _).symm)
     ·have hm := (sortP_perm _).subset hx
      rcases List.mem_append.1 hm with hm | hm
      ·exact hpl x (h2.subset hm)
      ·rw [List.mem_singleton.1 hm]; exact h3
     ·simp only [leatref11_merge.l1]
      rw [if_neg (by omega), if_neg (by simp), if_pos (by omega)]
   | succ d ih =>
    intro i x7 b q h h1 h2 h3 h4 h5 h6 h7
    have hlt : i < l.length := by omega
    have hpx := hpl _ (List.getElem_mem hlt)
    have hw := step_i hlt (by omega)
    rw [List.drop_eq_getElem_cons hlt] at h5
    have htk : l.take (i + 1) = l.take i ++ [l[i]] := (List.take_append_getElem hlt).symm
    -- not taken
    have skip : ¬ hitK 3 q l[i] → Sp (Mr a p0 l0) (fun k => leatref11_merge.l1 k a l (x7 ++ [l[i]]) b ((i + 1 : Nat) : Int) q.f0 q.f1.f0 q.f1.f1 q.f2) := by
     intro hno
     refine ih (i + 1) (x7 ++ [l[i]]) b q (by omega) (by simp; omega) (by rw [htk]; exact h2.append_right _) h3 h4 (by simpa using h5) (fun hb => ?_) (fun hb => by have := h7 hb; simp; omega)
     obtain ⟨rfl, e2, e3⟩ := h6 hb
     refine ⟨rfl, by rw [htk, e2], fun x hx => ?_⟩
     rcases List.mem_append.1 hx with hx | hx
     ·exact e3 x hx
     ·rw [List.mem_singleton.1 hx]; exact hno
    by_cases hk : l[i].f0 = q.f0
    ·obtain ⟨v, hov, hiff⟩ := overlap_eq h3 hpx hk
     by_cases hh : hitK 3 q l[i]
     ·obtain ⟨r, hr, hev⟩ := ih (i + 1) x7 true (joinP a q l[i]) (by omega) (by omega) (by rw [htk]; exact h2.trans (List.sublist_append_left _ _)) (proper_join h3 hpx) h4 (by
       refine RS.trans h5 (.step (.mk (x := q) (y := l[i]) (r := x7 ++ l.drop (i + 1)) ?_ hh (.refl _)) (.done (.refl _)))
       show (q :: (x7 ++ l[i] :: l.drop (i + 1))).Perm _
       exact List.perm_middle.cons q) (fun hb => by cases hb) (fun _ => by omega)
      refine ⟨r, hr, Ev.step (f := fun k => (leatref10_Merge.f k a q.f2 l[i].f2).bind fun t => leatref11_merge.l1 k a l x7 true ((i + 1 : Nat) : Int) q.f0 (mn q.f1.f0 l[i].f1.f0) (mx q.f1.f1 l[i].f1.f1) t) (fun k => ?_) (Ev.bind (rmerge_ev ha q.f2 l[i].f2) hev)⟩
      simp only [leatref11_merge.l1]
      rw [if_pos (by omega), if_pos (by omega), rd46_at hlt, if_pos hk, hov, Option.bind_some, if_pos (hiff.2 hh), hw]
     ·obtain ⟨r, hr, hev⟩ := skip hh
      refine ⟨r, hr, Ev.step (fun k => ?_) hev⟩
      simp only [leatref11_merge.l1]
      rw [if_pos (by omega), if_pos (by omega), rd46_at hlt, if_pos hk, hov, Option.bind_some, if_neg (fun hv => hh (hiff.1 hv)), if_pos (by omega), hw]
    ·obtain ⟨r, hr, hev⟩ := skip (fun hh => hk (hitK_key hh))
     refine ⟨r, hr, Ev.step (fun k => ?_) hev⟩
     simp only [leatref11_merge.l1]
     rw [if_pos (by omega), if_pos (by omega), rd46_at hlt, if_neg hk, if_pos (by omega), hw]
  obtain ⟨r, hr, hev⟩ := loop l.length 0 [] false p (by omega) (by simp) (by simp) hp rfl (by simpa using hrs) (fun _ => ⟨rfl, by simp, by simp⟩) (fun hb => by cases hb)
  exact ⟨r, hr, Ev.step (fun k => by simp only [leatref11_merge.l0]; rfl) hev⟩
theorem merge_sp {a : Int} (ha : aggOk a = true) (p : S46) (l : List S46) (hl : l.length < 4398046510000) (hp : Proper p) (hpl : ∀ x ∈ l, Proper x) :
  Sp (Mr a p l) (fun k => leatref11_merge.f k a l p.f0 p.f1.f0 p.f1.f1 p.f2) := by
 obtain ⟨r, hr, hev⟩ := merge_pass ha p l l.length l p (Nat.le_refl _) hl hp hpl (.done (.refl _)) (.refl _)
 exact ⟨r, hr, Ev.congr (fun k => by rw [leatref11_merge.f]) hev⟩
theorem rjoin_l0 {a : Int} (ha : aggOk a = true) (l : List S46) (hl : l.length < 4398046510000) (hpl : ∀ x ∈ l, Proper x) : ∀ (d i : Nat) (out : List S46), l.length = i + d → Is 3 a (l.take i) out → (∀ x ∈ out, Proper x) →
  Sp (Is 3 a l) (fun k => leatref11_Join.l0 k a l out (i : Int))
 | 0, i, out, h, hI, hp => by
  rw [List.take_of_length_le (by omega)] at hI
  refine ⟨out, hI, Ev.step (f := fun _ => some out) (fun k => ?_) (Ev.now _)⟩
  simp only [leatref11_Join.l0]; rw [if_neg (by omega)]
 | d + 1, i, out, h, hI, hp => by
  have hlt : i < l.length := by omega
  have hlen := rs_len hI.rs
  rw [List.length_take] at hlen
  obtain ⟨r, hr, hev⟩ := merge_sp ha l[i] out (by omega) (hpl _ (List.getElem_mem hlt)) hp
  have hJ : Is 3 a (l.take (i + 1)) r := by
   refine ⟨?_, hr.nk hI.nk, hr.st⟩
   rw [← List.take_append_getElem hlt]
   refine RS.trans (RS.perm (RS.app2 hI.rs [l[i]]) (List.perm_append_comm) (.refl _)) hr.rs
  obtain ⟨r2, h2, hev2⟩ := rjoin_l0 ha l hl hpl d (i + 1) r (by omega) hJ hr.pr
  refine ⟨r2, h2, Ev.step (fun k => ?_) (Ev.bind (f := fun k r => leatref11_Join.l0 k a l r ((i + 1 : Nat) : Int)) hev hev2)⟩
  simp only [leatref11_Join.l0]
  rw [if_pos (by omega), if_pos (by omega), rd46_at hlt, step_i hlt (by omega)]
theorem rjoin_sp {a : Int} (ha : aggOk a = true) (l : List S46) (hl : l.length < 4398046510000) (hpl : ∀ x ∈ l, Proper x) : Sp (Is 3 a l) (fun k => leatref11_Join.f k a l) := by
 obtain ⟨r, hr, hev⟩ := rjoin_l0 ha l hl hpl l.length 0 [] (by omega) (by rw [List.take_zero]; exact Is.nil _ _) (by simp)
 exact ⟨r, hr, Ev.congr (fun k => by rw [leatref11_Join.f]; rfl) hev⟩
end Go.Proofs.Ytdinbnbogdadgaa.Th
