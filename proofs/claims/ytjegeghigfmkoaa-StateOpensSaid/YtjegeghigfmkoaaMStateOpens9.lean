/- Plain lists: joining what meets, in any order, ends in one and the same list (up to its order). Conditions: those of the structure Mg. -/
import Derived.Test.YtjegeghigfmkoaaProg
namespace Go.Proofs.Ytjegeghigfmkoaa.Nf
set_option linter.unusedVariables false
structure Mg {α : Type} (hit : α → α → Prop) (jn : α → α → α) : Prop where
  sym : ∀ {x y}, hit x y → hit y x
  comm : ∀ {x y}, hit x y → jn x y = jn y x
  turn : ∀ {x y z}, hit x y → hit x z → jn (jn x y) z = jn (jn x z) y
  mono : ∀ {x y z}, hit x y → hit x z → hit (jn x y) z
variable {α : Type} {hit : α → α → Prop} {jn : α → α → α}
inductive Red (hit : α → α → Prop) (jn : α → α → α) : List α → List α → Prop
  | mk {l m r : List α} {x y : α} : l.Perm (x :: y :: r) → hit x y → m.Perm (jn x y :: r) → Red hit jn l m
theorem Red.perm {l l' m m' : List α} (h : Red hit jn l m) (hl : l.Perm l') (hm : m.Perm m') : Red hit jn l' m' := by
  obtain ⟨h1, h2, h3⟩ := h
  exact ⟨hl.symm.trans h1, h2, hm.symm.trans h3⟩
theorem Red.out {l m : List α} (h : Red hit jn l m) : ∃ (x y : α) (r : List α), l.Perm (x :: y :: r) ∧ hit x y ∧ m.Perm (jn x y :: r) := by
  obtain ⟨h1, h2, h3⟩ := h
  exact ⟨_, _, _, h1, h2, h3⟩
theorem Red.len {l m : List α} (h : Red hit jn l m) : l.length = m.length + 1 := by
  obtain ⟨h1, h2, h3⟩ := h
  rw [h1.length_eq, h3.length_eq]; simp
theorem Red.app {l m : List α} (h : Red hit jn l m) (c : List α) : Red hit jn (l ++ c) (m ++ c) := by
  obtain ⟨h1, h2, h3⟩ := h
  exact ⟨(h1.append_right c), h2, (h3.append_right c)⟩
def Normal (hit : α → α → Prop) (l : List α) : Prop := l.Pairwise (fun x y => ¬ hit x y)
theorem Normal.perm (M : Mg hit jn) {l m : List α} (h : Normal hit l) (hp : l.Perm m) : Normal hit m :=
  hp.pairwise h (fun {x y} h1 h2 => h1 (M.sym h2))
theorem Normal.no (M : Mg hit jn) {l m : List α} (h : Normal hit l) : ¬ Red hit jn l m := by
  rintro ⟨h1, h2, h3⟩
  have := h.perm M h1
  exact (List.pairwise_cons.1 this).1 _ (by simp) h2
inductive RS (hit : α → α → Prop) (jn : α → α → α) : List α → List α → Prop
  | done {l m : List α} : l.Perm m → RS hit jn l m
  | step {l l' m : List α} : Red hit jn l l' → RS hit jn l' m → RS hit jn l m
theorem RS.perm {l m l' m' : List α} (h : RS hit jn l m) (hl : l.Perm l') (hm : m.Perm m') : RS hit jn l' m' := by
  induction h generalizing l' with
  | done h => exact .done (hl.symm.trans (h.trans hm))
  | step h1 h2 ih => exact .step (h1.perm hl (.refl _)) (ih (.refl _) hm)
theorem RS.trans {l m n : List α} (h : RS hit jn l m) (h2 : RS hit jn m n) : RS hit jn l n := by
  induction h with
  | done h => exact h2.perm h.symm (.refl _)
  | step h1 h3 ih => exact .step h1 (ih h2)
theorem RS.app {l m : List α} (h : RS hit jn l m) (c : List α) : RS hit jn (l ++ c) (m ++ c) := by
  induction h with
  | done h => exact .done (h.append_right c)
  | step h1 h2 ih => exact .step (h1.app c) ih
theorem RS.app2 {l m : List α} (h : RS hit jn l m) (c : List α) : RS hit jn (c ++ l) (c ++ m) :=
  (h.app c).perm List.perm_append_comm List.perm_append_comm
end Go.Proofs.Ytjegeghigfmkoaa.Nf
