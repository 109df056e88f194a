/- Proofs towards the laws of this seat, joined. No conditions beyond those typed. -/
import Derived.Test.YtihbgdobicokpaaDPr
namespace Go.Proofs.Ytihbgdobicokpaa.D
open Go.RowKit
set_option linter.unusedVariables false
set_option linter.unusedSimpArgs false
theorem mem_ins {f g : Fl} : ∀ {l : List Fl}, g ∈ ins Fl.n f l ↔ g = f ∨ g ∈ l
 | [] => by simp [ins]
 | y :: r => by
  unfold ins
  split
  ·simp
  ·rw [List.mem_cons, mem_ins (l := r), List.mem_cons]
   constructor
   ·rintro (h | h | h) <;> simp [h]
   ·rintro (h | h | h) <;> simp [h]
theorem mem_out {n : Nm} {g : Fl} {l : List Fl} : g ∈ out Fl.n n l ↔ g ∈ l ∧ g.n ≠ n := by
 unfold out
 rw [List.mem_filter]
 simp
theorem mem_put {f g : Fl} {l : List Fl} : g ∈ put Fl.n f l ↔ g = f ∨ (g ∈ l ∧ g.n ≠ f.n) := by
 unfold put
 rw [mem_ins, mem_out]
theorem look_mem {n : Nm} {fs : List Fl} {g : Fl} (h : look n fs = some g) : g ∈ fs ∧ g.n = n := by
 unfold look at h
 exact ⟨List.mem_of_find?_eq_some h, by simpa using List.find?_some (p := fun f : Fl => f.n == n) h⟩
theorem got_mem {n : Nm} {fs : List Fl} (h : n ∈ names fs) : ∃ g ∈ fs, g.n = n ∧ got n fs = (g.b, g.s) ∧ look n fs = some g := by
 have h1 := look_names h
 obtain ⟨g, hg⟩ := Option.isSome_iff_exists.1 h1
 obtain ⟨h2, h3⟩ := look_mem hg
 exact ⟨g, h2, h3, by simp [got, hg], hg⟩
theorem got_only {f : Fl} {fs : List Fl} (h : f ∈ fs) (hu : ∀ g ∈ fs, g.n = f.n → g = f) : got f.n fs = (f.b, f.s) ∧ (look f.n fs).isSome = true := by
 obtain ⟨g, h1, h2, h3, h4⟩ := got_mem (n := f.n) (fs := fs) (List.mem_map_of_mem h)
 rw [hu g h1 h2] at h3
 exact ⟨h3, by rw [h4]; rfl⟩
theorem put_only {f : Fl} {fs : List Fl} : ∀ g ∈ put Fl.n f fs, g.n = f.n → g = f := fun g hg hn => by
 rcases mem_put.1 hg with h | ⟨_, h⟩
 ·exact h
 ·exact absurd hn h
theorem mem_self_put (f : Fl) (fs : List Fl) : f ∈ put Fl.n f fs := mem_put.2 (Or.inl rfl)
theorem mem_crL {keep : List Int} {g : Fl} : ∀ {k : Nat} {l : List Fl}, g ∈ crL keep k l → ∃ j f, f ∈ l ∧ g = crF keep j f
 | _, [], h => by simp [crL] at h
 | k, f :: r, h => by
  unfold crL at h
  rcases List.mem_cons.1 h with h | h
  ·exact ⟨k, f, by simp, h⟩
  ·obtain ⟨j, f', h1, h2⟩ := mem_crL h
   exact ⟨j, f', by simp [h1], h2⟩
theorem crF_safe (keep : List Int) (j : Nat) (n : Nm) (b : List Int) : crF keep j ⟨n, b, b.length⟩ = ⟨n, b, b.length⟩ := by
 have e : endOf keep j ⟨n, b, b.length⟩ = b.length := by
  unfold endOf
  simp only
  split <;> omega
 unfold crF
 rw [e]
 simp
def wrS (d : Dk) (x : X.S30) : Dk := if x.f0 < 3 then (wrD d x.f2.data.toList x.f4).2 else d
def wrL (l : List X.S30) (d : Dk) : Dk := l.foldl wrS d
theorem wrL_snoc (l : List X.S30) (d : Dk) {i : Nat} (hi : i < l.length) : wrL (l.take (i + 1)) d = wrS (wrL (l.take i) d) l[i] := by
 unfold wrL
 rw [List.take_succ_eq_append_getElem hi, List.foldl_append]
 rfl
def Fro (l : List X.S30) (fs : List Fl) : Prop := ∀ f ∈ fs, ∃ x ∈ l, x.f0 < 3 ∧ x.f2.data.toList = f.n ∧ x.f4 = f.b
structure Kp (l : List X.S30) (d : Dk) : Prop where
 dead : d.dead = false
 cut : d.cut = -1
 room_ : d.room = 1048576
 in_ : total d.fs ≤ (l.map wt).sum
 fro : Fro l d.fs
theorem wrS_kp {l l' : List X.S30} {d : Dk} {x : X.S30} (hnd : (d.fs.map Fl.n).Nodup) (h : Kp l d) (hl : l' = l ++ [x]) : Kp l' (wrS d x) := by
 subst hl
 have hw : ((l ++ [x]).map wt).sum = (l.map wt).sum + wt x := by simp
 have hx : wt x = x.f4.length + x.f2.size + x.f3.size + x.f5.length := rfl
 have hin := h.in_
 have same : Kp (l ++ [x]) d := ⟨h.dead, h.cut, h.room_, by omega, fun f hf => by obtain ⟨y, h1, h2⟩ := h.fro f hf; exact ⟨y, by simp [h1], h2⟩⟩
 unfold wrS
 by_cases c : x.f0 < 3
 ·rw [if_pos c]
  unfold wrD
  rw [if_neg (by rw [h.dead]; decide)]
  by_cases c1 : nmOk x.f2.data.toList = true
  ·rw [if_pos c1]
   split
   ·exact same
   ·rw [doneD_ok (by exact h.cut)]
    refine ⟨h.dead, h.cut, h.room_, ?_, fun f hf => ?_⟩
    ·have := total_put (f := ⟨x.f2.data.toList, x.f4, 0⟩) hnd
     simp only at this ⊢
     omega
    ·rcases mem_put.1 hf with rfl | ⟨h1, h2⟩
     ·exact ⟨x, by simp, c, rfl, rfl⟩
     ·exact same.fro f h1
  ·rw [if_neg c1]; exact same
 ·rw [if_neg c]; exact same
theorem new_kp : Kp [] (newD 1048576) := ⟨rfl, rfl, rfl, by simp [newD, total], fun f hf => by simp [newD] at hf⟩
theorem crash_keeps {l : List X.S30} {fs : List Fl} {at_ : Nm} {b : List Int} (d : Dk) (hd : d.fs = put Fl.n ⟨at_, b, b.length⟩ fs) (hf : ∀ g ∈ fs, g.n = at_ ∨ ∃ x ∈ l, x.f0 < 3 ∧ x.f2.data.toList = g.n ∧ x.f4 = g.b) (keep : List Int) :
  rdD (crD d keep) at_ = (b, 0) ∧ ∀ n ∈ names (crD d keep).fs, n = at_ ∨ ∃ x ∈ l, x.f0 < 3 ∧ x.f2.data.toList = n ∧ (got n (crD d keep).fs).1.length ≤ x.f4.length ∧ (got n (crD d keep).fs).1 = x.f4.take (got n (crD d keep).fs).1.length := by
 have hin : ∀ g ∈ (crD d keep).fs, ∃ j f, (f = ⟨at_, b, b.length⟩ ∨ (f ∈ fs ∧ f.n ≠ at_)) ∧ g = crF keep j f := fun g hg => by
  obtain ⟨j, f, h1, h2⟩ := mem_crL (show g ∈ crL keep 0 d.fs from hg)
  rw [hd] at h1
  exact ⟨j, f, mem_put.1 h1, h2⟩
 have hnames : names (crD d keep).fs = names d.fs := names_crL keep 0 d.fs
 have hat : at_ ∈ names (crD d keep).fs := by
  rw [hnames, hd]
  exact List.mem_map.2 ⟨_, mem_self_put _ _, rfl⟩
 constructor
 ·rw [rd_names rfl hat]
  obtain ⟨g, h1, h2, h3, h4⟩ := got_mem hat
  obtain ⟨j, f, h5, rfl⟩ := hin g h1
  rcases h5 with rfl | ⟨_, h6⟩
  ·rw [h3, crF_safe]
  ·exact absurd h2 h6
 ·intro n hn
  by_cases c : n = at_
  ·exact Or.inl c
  ·right
   obtain ⟨g, h1, h2, h3, h4⟩ := got_mem hn
   obtain ⟨j, f, h5, rfl⟩ := hin g h1
   have hfn : f.n = n := h2
   rcases h5 with rfl | ⟨h6, h7⟩
   ·exact absurd hfn.symm c
   ·rcases hf f h6 with h8 | ⟨x, hx, h9, h10, h11⟩
    ·exact absurd h8 h7
    ·refine ⟨x, hx, h9, h10.trans hfn, ?_, ?_⟩
     ·rw [h3, h11]
      show (f.b.take _).length ≤ _
      rw [List.length_take]; omega
     ·rw [h3, h11]
      show f.b.take _ = f.b.take (f.b.take _).length
      rw [List.length_take, List.take_eq_take_iff]
      omega
theorem keeps_law {l : List X.S30} {d : Dk} (h : Kp l d) (hnd : (d.fs.map Fl.n).Nodup) (hl : (l.map wt).sum ≤ 50000) {n : Nm} (hn1 : 1 ≤ n.length) (hn2 : n.length ≤ 30) {b : List Int} (hb : b.length ≤ 2000) (keep : List Int) :
  ∃ d1 d2 d3, wrD d n b = (0, d1) ∧ syD d1 n = (0, d2) ∧ rnD d2 n (n ++ [46]) = (0, d3) ∧
   (rdD (crD d2 keep) n = (b, 0) ∧ ∀ m ∈ names (crD d2 keep).fs, m = n ∨ ∃ x ∈ l, x.f0 < 3 ∧ x.f2.data.toList = m ∧ (got m (crD d2 keep).fs).1.length ≤ x.f4.length ∧ (got m (crD d2 keep).fs).1 = x.f4.take (got m (crD d2 keep).fs).1.length) ∧
   (rdD (crD d3 keep) (n ++ [46]) = (b, 0) ∧ ∀ m ∈ names (crD d3 keep).fs, m = n ++ [46] ∨ ∃ x ∈ l, x.f0 < 3 ∧ x.f2.data.toList = m ∧ (got m (crD d3 keep).fs).1.length ≤ x.f4.length ∧ (got m (crD d3 keep).fs).1 = x.f4.take (got m (crD d3 keep).fs).1.length) := by
 have hok : nmOk n = true := by simp [nmOk]; omega
 have hok2 : nmOk (n ++ [46]) = true := by simp [nmOk]; omega
 have hin := h.in_
 have e1 : wrD d n b = (0, { d with fs := put Fl.n ⟨n, b, 0⟩ d.fs }) := by
  unfold wrD
  rw [if_neg (by rw [h.dead]; decide), if_pos hok, if_neg (by rw [h.room_]; omega), doneD_ok (by exact h.cut)]
 obtain ⟨g1, g2⟩ := got_only (mem_self_put ⟨n, b, 0⟩ d.fs) put_only
 simp only at g1 g2
 have e2 : syD { d with fs := put Fl.n ⟨n, b, 0⟩ d.fs } n = (0, { d with fs := put Fl.n ⟨n, b, b.length⟩ (put Fl.n ⟨n, b, 0⟩ d.fs) }) := by
  unfold syD isE
  simp only [g1, g2, h.dead]
  rw [doneD_ok (by exact h.cut)]
  rfl
 obtain ⟨g3, g4⟩ := got_only (mem_self_put ⟨n, b, (b.length : Int)⟩ (put Fl.n ⟨n, b, 0⟩ d.fs)) put_only
 simp only at g3 g4
 have e3 : rnD { d with fs := put Fl.n ⟨n, b, b.length⟩ (put Fl.n ⟨n, b, 0⟩ d.fs) } n (n ++ [46]) = (0, { d with fs := put Fl.n ⟨n ++ [46], b, b.length⟩ (out Fl.n n (put Fl.n ⟨n, b, b.length⟩ (put Fl.n ⟨n, b, 0⟩ d.fs))) }) := by
  unfold rnD isE
  simp only [g3, g4, h.dead, hok2]
  rw [doneD_ok (by exact h.cut)]
  rfl
 refine ⟨_, _, _, e1, e2, e3, ?_, ?_⟩
 ·refine crash_keeps _ rfl (fun g hg => ?_) keep
  rcases mem_put.1 hg with rfl | ⟨h1, h2⟩
  ·exact Or.inl rfl
  ·exact Or.inr (h.fro g h1)
 ·refine crash_keeps _ rfl (fun g hg => ?_) keep
  obtain ⟨h1, h2⟩ := mem_out.1 hg
  rcases mem_put.1 h1 with rfl | ⟨h3, h4⟩
  ·exact absurd rfl h2
  ·rcases mem_put.1 h3 with rfl | ⟨h5, h6⟩
   ·exact absurd rfl h2
   ·exact Or.inr (h.fro g h5)
end Go.Proofs.Ytihbgdobicokpaa.D
