/- Proofs towards the laws of this seat, joined. No conditions beyond those typed. -/
import Derived.Test.YtihbgdobicokpaaB8
namespace Go.Proofs.Ytihbgdobicokpaa.D
open Go.RowKit
set_option linter.unusedVariables false
set_option linter.unusedSimpArgs false
theorem total_cons (f : Fl) (l : List Fl) : total (f :: l) = f.b.length + total l := by simp [total]
theorem total_ins (f : Fl) : ∀ l : List Fl, total (ins Fl.n f l) = f.b.length + total l
 | [] => by simp [ins, total]
 | y :: r => by
  unfold ins
  split
  ·rw [total_cons]
  ·rw [total_cons, total_ins f r, total_cons]; omega
theorem out_none {n : Nm} : ∀ {l : List Fl}, (∀ f ∈ l, f.n ≠ n) → out Fl.n n l = l := by
 intro l h
 unfold out
 rw [List.filter_eq_self]
 intro f hf
 simpa using h f hf
theorem total_out {n : Nm} : ∀ {l : List Fl}, (l.map Fl.n).Nodup → total (out Fl.n n l) + (got n l).1.length = total l
 | [], _ => by simp [out, got, look, total]
 | f :: r, h => by
  rw [List.map_cons, List.nodup_cons] at h
  by_cases c : f.n = n
  ·subst c
   have e1 : out Fl.n f.n (f :: r) = r := by
    have := out_none (n := f.n) (l := r) (fun g hg e => h.1 (by rw [← e]; exact List.mem_map_of_mem hg))
    unfold out at this ⊢
    simpa using this
   rw [e1, total_cons]
   simp [got, look]
   omega
  ·have e1 : out Fl.n n (f :: r) = f :: out Fl.n n r := by unfold out; simp [c]
   have e2 : got n (f :: r) = got n r := by simp [got, look, c]
   have := total_out (n := n) h.2
   rw [e1, e2, total_cons, total_cons]
   omega
theorem total_put {f : Fl} {l : List Fl} (h : (l.map Fl.n).Nodup) : total (put Fl.n f l) + (got f.n l).1.length = total l + f.b.length := by
 unfold put
 rw [total_ins]
 have := total_out (n := f.n) h
 omega
structure Ok (room : Int) (d : Dk) : Prop where
 dead : d.dead = false
 cut : d.cut = -1
 room_ : d.room = room
 in_ : (total d.fs : Int) ≤ room
theorem doneD_ok {d : Dk} (h : d.cut = -1) : doneD d = d := by unfold doneD; rw [if_neg (by omega)]
theorem rd_fst {d : Dk} (hd : d.dead = false) (n : Nm) : (rdD d n).1 = (got n d.fs).1 := by
 cases h : look n d.fs with
 | none => simp [rdD, isE, got, hd, h]
 | some f => simp [rdD, isE, got, hd, h]
theorem wr_name {room : Int} {d : Dk} (h : Ok room d) {n : Nm} (hn : nmOk n = false) (bs : List Int) : wrD d n bs = (21, d) := by
 unfold wrD
 rw [if_neg (by rw [h.dead]; decide), if_neg (by rw [hn]; decide)]
theorem wr_full {room : Int} {d : Dk} (h : Ok room d) {n : Nm} (hn : nmOk n = true) {bs : List Int} (hb : room < (total d.fs : Int) - (got n d.fs).1.length + bs.length) : wrD d n bs = (22, d) := by
 unfold wrD
 rw [if_neg (by rw [h.dead]; decide), if_pos hn, if_pos (Or.inr (by rw [h.room_]; exact hb))]
theorem wr_done {room : Int} {d : Dk} (h : Ok room d) (hd : (d.fs.map Fl.n).Nodup) {n : Nm} (hn : nmOk n = true) {bs : List Int} (hl : bs.length ≤ 1048576) (hb : ¬ room < (total d.fs : Int) - (got n d.fs).1.length + bs.length) : ∃ d', wrD d n bs = (0, d') ∧ Ok room d' := by
 refine ⟨{ d with fs := put Fl.n ⟨n, bs, 0⟩ d.fs }, ?_, ⟨h.dead, h.cut, h.room_, ?_⟩⟩
 ·unfold wrD
  rw [if_neg (by rw [h.dead]; decide), if_pos hn, if_neg (by rw [h.room_]; rintro (h1 | h1); omega; exact hb h1), doneD_ok (by exact h.cut)]
 ·have := total_put (f := ⟨n, bs, 0⟩) hd
  simp only at this ⊢
  omega
theorem del_ok {room : Int} {d : Dk} (h : Ok room d) (hd : (d.fs.map Fl.n).Nodup) (n : Nm) : Ok room (delD d n).2 := by
 unfold delD
 split
 ·rw [doneD_ok (by exact h.cut)]
  refine ⟨h.dead, h.cut, h.room_, ?_⟩
  have := total_out (n := n) hd
  have := h.in_
  simp only
  omega
 ·exact h
theorem new_ok {n : Int} (h : 0 ≤ n) : Ok n (newD n) := by
 refine ⟨rfl, rfl, ?_, ?_⟩
 ·show (if n < 0 then 0 else n) = n; split <;> omega
 ·show (total [] : Int) ≤ n; simpa [total] using h
theorem wt_le {l : List X.S30} (h : (l.map wt).sum ≤ 50000) {x : X.S30} (hx : x ∈ l) : x.f4.length ≤ 50000 := by
 have h1 : wt x ≤ (l.map wt).sum := by
  obtain ⟨a, b, rfl⟩ := List.append_of_mem hx
  simp
  omega
 have h2 : wt x = x.f4.length + x.f2.size + x.f3.size + x.f5.length := rfl
 omega
end Go.Proofs.Ytihbgdobicokpaa.D
