/- Plain lemmas towards the laws of jobs. No conditions beyond those typed. -/
import Derived.Test.YtpbmfdbfimcpjaaWMore
import Derived.Test.YtpbmfdbfimcpjaaO
import Derived.Test.YtpbmfdbfimcpjaaC
import Derived.Test.YtpbmfdbfimcpjaaXf7
import Derived.Test.YtpbmfdbfimcpjaaXf18
namespace Go.Proofs.Ytpbmfdbfimcpjaa.X
open Go.RowKit Go.Proofs.YtpbmfdbfimcpjaaW.PrintWords
set_option linter.unusedVariables false
set_option linter.unusedSimpArgs false

section
variable {α β : Type}
theorem ev_pos {c : Prop} [Decidable c] {f g : Nat → Option α} {r : α} (h : c) (k : Ev f r) : Ev (fun n => if c then f n else g n) r := Ev.congr (fun _ => if_pos h) k
theorem ev_neg {c : Prop} [Decidable c] {f g : Nat → Option α} {r : α} (h : ¬ c) (k : Ev g r) : Ev (fun n => if c then f n else g n) r := Ev.congr (fun _ => if_neg h) k
theorem ev_now {r r' : α} (h : r' = r) : Ev (fun _ => some r') r := h ▸ Ev.now _
/-- It comes to something of which P holds. -/
def Sp (P : α → Prop) (f : Nat → Option α) : Prop := ∃ r, P r ∧ Ev f r
theorem sp_now {P : α → Prop} {r : α} (h : P r) : Sp P (fun _ => some r) := ⟨r, h, Ev.now r⟩
theorem sp_ite {P : α → Prop} {c : Prop} [Decidable c] {f g : Nat → Option α} (h : c → Sp P f) (k : ¬ c → Sp P g) : Sp P (fun n => if c then f n else g n) := by
  by_cases hc : c
  · obtain ⟨r, hp, hr⟩ := h hc; exact ⟨r, hp, ev_pos hc hr⟩
  · obtain ⟨r, hp, hr⟩ := k hc; exact ⟨r, hp, ev_neg hc hr⟩
theorem sp_bind {P : α → Prop} {Q : β → Prop} {g : Nat → Option α} {f : Nat → α → Option β} (h : Sp P g) (k : ∀ a, P a → Sp Q (fun n => f n a)) : Sp Q (fun n => (g n).bind (f n)) := by
  obtain ⟨a, hp, ha⟩ := h
  obtain ⟨r, hq, hr⟩ := k a hp
  exact ⟨r, hq, Ev.bind ha hr⟩
theorem sp_step {P : α → Prop} {g f : Nat → Option α} (h : ∀ k, g (k + 1) = f k) (k : Sp P f) : Sp P g := by
  obtain ⟨r, hp, hr⟩ := k; exact ⟨r, hp, Ev.step h hr⟩
theorem sp_congr {P : α → Prop} {g f : Nat → Option α} (h : ∀ k, g k = f k) (k : Sp P f) : Sp P g := by
  obtain ⟨r, hp, hr⟩ := k; exact ⟨r, hp, Ev.congr h hr⟩
theorem sp_mono {P Q : α → Prop} {f : Nat → Option α} (h : Sp P f) (k : ∀ r, P r → Q r) : Sp Q f := by
  obtain ⟨r, hp, hr⟩ := h; exact ⟨r, k r hp, hr⟩
theorem sp_some {P : α → Prop} {f : Nat → Option α} {r : α} (h : Ev f r) (hp : P r) : Sp P f := ⟨r, hp, h⟩
abbrev Any {α : Type} (_ : α) : Prop := True
end
theorem step_i {i n : Nat} (h : i < n) (hn : n ≤ 9223372036854775807) : wrap64 ((i : Int) + 1) = ((i + 1 : Nat) : Int) := by unfold wrap64; omega
theorem rd_at {l : List Int} {i : Nat} (h : i < l.length) : rd l (i : Int) = l[i] := by simp [rd, h]
theorem rd34_at {l : List S34} {i : Nat} (h : i < l.length) : rd_T34 l (i : Int) = l[i] := by simp [rd_T34, h]
theorem rd38_at {l : List S38} {i : Nat} (h : i < l.length) : rd_T38 l (i : Int) = l[i] := by simp [rd_T38, h]

/-! ### expressions: whatever they are, their check comes to something -/
def SmallD : Nat → S34 → Prop
  | 0, _ => False
  | d + 1, e => e.f2.length ≤ 9223372036854775807 ∧ ∀ x ∈ e.f2, SmallD d x

theorem arity_some (op : Int) : Sp Any (fun k => expr_arity.f k op) := by
  have j : ∀ x b, Sp Any (fun k => expr_arity.j0 k op x b) := fun x b => by
    refine sp_step (f := fun _ => _) (fun k => by rw [expr_arity.j0]) ?_
    exact sp_ite (fun _ => sp_now trivial) (fun _ => sp_ite (fun _ => sp_now trivial) (fun _ => sp_ite (fun _ => sp_ite (fun _ => sp_now trivial) (fun _ => sp_now trivial)) (fun _ => sp_now trivial)))
  unfold expr_arity.f
  exact sp_ite (fun _ => sp_now trivial) (fun _ => sp_ite (fun _ => j _ _) (fun _ => sp_ite (fun _ => j _ _) (fun _ => j _ _)))

theorem right_some : ∀ (d : Nat) (e : S34), SmallD d e → Sp Any (fun k => expr_right.f k e.f0 e.f1 e.f2)
  | 0, _, h => h.elim
  | d + 1, e, ⟨hl, hx⟩ => by
    have loop : ∀ (m i : Nat), e.f2.length = i + m → Sp Any (fun k => expr_right.l0 k e.f2 (e.f2.length : Int) (i : Int)) := by
      intro m
      induction m with
      | zero =>
        intro i hi
        refine sp_step (f := fun _ => some true) (fun k => ?_) (sp_now trivial)
        rw [expr_right.l0, if_neg (by omega)]
      | succ m ih =>
        intro i hi
        have hlt : i < e.f2.length := by omega
        refine sp_step (f := ?f1) (fun k => ?h1) ?r1
        case h1 => conv => lhs; rw [expr_right.l0, if_pos (by omega), if_pos (by omega), if_pos (by omega), rd34_at hlt, step_i hlt hl]
        exact sp_bind (right_some d _ (hx _ (List.getElem_mem hlt))) (fun t _ => sp_ite (fun _ => ih (i + 1) (by omega)) (fun _ => sp_now trivial))
    have j : ∀ b, Sp Any (fun k => expr_right.j0 k b e.f0 e.f1 e.f2) := by
      intro b
      refine sp_step (f := ?f2) (fun k => ?h2) ?r2
      case h2 => conv => lhs; rw [expr_right.j0]
      exact sp_ite (fun _ => sp_now trivial) (fun _ => loop e.f2.length 0 (by omega))
    refine sp_step (f := ?f3) (fun k => ?h3) ?r3
    case h3 => conv => lhs; rw [expr_right.f]
    exact sp_bind (arity_some _) (fun t _ => sp_ite (fun _ => sp_ite (fun _ => j _) (fun _ => j _)) (fun _ => j _))
theorem size_some : ∀ (d : Nat) (e : S34), SmallD d e → Sp Any (fun k => expr_size.f k e.f0 e.f1 e.f2)
  | 0, _, h => h.elim
  | d + 1, e, ⟨hl, hx⟩ => by
    have loop : ∀ (m i : Nat) (a b : Int), e.f2.length = i + m → Sp Any (fun k => expr_size.l0 k a b e.f2 (e.f2.length : Int) (i : Int)) := by
      intro m
      induction m with
      | zero =>
        intro i a b hi
        refine sp_step (f := ?f1) (fun k => ?h1) ?r1
        case h1 => conv => lhs; rw [expr_size.l0, if_neg (by omega)]
        exact sp_now trivial
      | succ m ih =>
        intro i a b hi
        have hlt : i < e.f2.length := by omega
        refine sp_step (f := ?f5) (fun k => ?h5) ?r5
        case h5 => conv => lhs; rw [expr_size.l0, if_pos (by omega), if_pos (by omega), if_pos (by omega), rd34_at hlt, step_i hlt hl]
        exact sp_bind (size_some d _ (hx _ (List.getElem_mem hlt))) (fun t _ => ih (i + 1) _ _ (by omega))
    refine sp_step (f := ?f3) (fun k => ?h3) ?r3
    case h3 => conv => lhs; rw [expr_size.f]
    exact loop e.f2.length 0 _ _ (by omega)
theorem check_some (d : Nat) (e : S34) (h : SmallD d e) : Sp Any (fun k => expr_Check.f k e.f0 e.f1 e.f2) := by
  unfold expr_Check.f
  exact sp_bind (right_some d e h) (fun t _ => sp_ite (fun _ => sp_bind (size_some d e h) (fun t _ => sp_ite (fun _ => sp_now trivial) (fun _ => sp_ite (fun _ => sp_now trivial) (fun _ => sp_now trivial)))) (fun _ => sp_now trivial))

/-! ### the nodes -/
theorem win_some (a b c : Int) : Sp (fun t => t = true → a = 2 → 1 ≤ c) (fun k => job_win.f k a b c) := by
  have sp : ∀ x, Sp (fun t => t = true → 1 ≤ x) (fun _ => job_span.f x) := fun x => by
    unfold job_span.f
    exact sp_ite (fun h => sp_now (fun _ => h)) (fun h => sp_now (by simp))
  have j : ∀ v, (v = true → a ≠ 2) → Sp (fun t => t = true → a = 2 → 1 ≤ c) (fun k => job_win.j0 k a v a b c) := fun v hv => by
    refine sp_step (f := ?f2) (fun k => ?h2) ?r2
    case h2 => conv => lhs; rw [job_win.j0]
    refine sp_ite (fun h => sp_bind (sp b) (fun t _ => sp_ite (fun _ => sp_now (fun _ ha => absurd ha (hv h))) (fun _ => sp_now (by simp)))) (fun _ => sp_ite (fun _ => sp_bind (sp b) (fun t _ => sp_ite (fun _ => sp_bind (sp c) (fun t ht => sp_now (fun h _ => ht h))) (fun _ => sp_now (by simp)))) (fun _ => sp_now (by simp)))
  unfold job_win.f
  exact sp_ite (fun h => j _ (by intro _; omega)) (fun _ => j _ (by intro h; have : a = 3 := (by simpa using h); omega))

def SlideOk (x : S38) : Prop := x.f0 = 7 → x.f5.f0 = 2 → 1 ≤ x.f5.f2
theorem node_some (l : List S38) (x : S38) (d : Nat) (hd : SmallD d x.f3) :
    Sp (fun c => c = 0 → SlideOk x) (fun k => job_node.f k l x.f0 x.f1 x.f2 x.f3.f0 x.f3.f1 x.f3.f2 x.f4 x.f5.f0 x.f5.f1 x.f5.f2) := by
  have n0 : ∀ c : Int, c ≠ 0 → (c = 0 → SlideOk x) := fun c h h' => absurd h' h
  have j5 : ∀ b, Sp (fun c => c = 0 → SlideOk x) (fun k => job_node.j5 k b x.f0 x.f1 x.f2 x.f3.f0 x.f3.f1 x.f3.f2 x.f4 x.f5.f0 x.f5.f1 x.f5.f2) := fun b => by
    refine sp_step (f := ?f1) (fun k => ?h1) ?r1
    case h1 => conv => lhs; rw [job_node.j5]
    exact sp_ite (fun _ => sp_now (n0 _ (by decide))) (fun _ => sp_ite (fun _ => sp_bind (win_some _ _ _) (fun t ht => sp_ite (fun h => sp_now (fun _ _ h2 => ht h h2)) (fun _ => sp_now (n0 _ (by decide))))) (fun h7 => sp_ite (fun _ => sp_now (n0 _ (by decide))) (fun _ => sp_now (fun _ h => absurd h h7))))
  have j4 : ∀ a b, Sp (fun c => c = 0 → SlideOk x) (fun k => job_node.j4 k a b x.f0 x.f1 x.f2 x.f3.f0 x.f3.f1 x.f3.f2 x.f4 x.f5.f0 x.f5.f1 x.f5.f2) := fun a b => by
    refine sp_step (f := ?f2) (fun k => ?h2) ?r2
    case h2 => conv => lhs; rw [job_node.j4]
    exact sp_ite (fun _ => sp_now (n0 _ (by decide))) (fun _ => sp_ite (fun _ => sp_ite (fun _ => j5 _) (fun _ => sp_ite (fun _ => j5 _) (fun _ => j5 _))) (fun _ => j5 _))
  have j3 : ∀ a b c, Sp (fun c => c = 0 → SlideOk x) (fun k => job_node.j3 k a b c x.f0 x.f1 x.f2 x.f3.f0 x.f3.f1 x.f3.f2 x.f4 x.f5.f0 x.f5.f1 x.f5.f2) := fun a b c => by
    refine sp_step (f := ?f3) (fun k => ?h3) ?r3
    case h3 => conv => lhs; rw [job_node.j3]
    refine sp_ite (fun _ => sp_now (n0 _ (by decide))) (fun _ => sp_ite (fun _ => sp_bind (check_some d x.f3 hd) (fun t _ => sp_ite (fun _ => j4 _ _) (fun _ => j4 _ _))) (fun _ => sp_bind (P := Any) ?_ (fun t _ => j4 _ _)))
    unfold job_zero.f
    exact sp_ite (fun _ => sp_ite (fun _ => sp_now trivial) (fun _ => sp_now trivial)) (fun _ => sp_now trivial)
  have j2 : ∀ a b c, Sp (fun c => c = 0 → SlideOk x) (fun k => job_node.j2 k a b c l x.f0 x.f1 x.f2 x.f3.f0 x.f3.f1 x.f3.f2 x.f4 x.f5.f0 x.f5.f1 x.f5.f2) := fun a b c => by
    refine sp_step (f := ?f4) (fun k => ?h4) ?r4
    case h4 => conv => lhs; rw [job_node.j2]
    exact sp_ite (fun _ => sp_now (n0 _ (by decide))) (fun _ => sp_bind (P := Any) (sp_now trivial) (fun t _ => sp_ite (fun _ => sp_ite (fun _ => j3 _ _ _) (fun _ => j3 _ _ _)) (fun _ => sp_now (n0 _ (by decide)))))
  have j1 : ∀ a b, Sp (fun c => c = 0 → SlideOk x) (fun k => job_node.j1 k a b l x.f0 x.f1 x.f2 x.f3.f0 x.f3.f1 x.f3.f2 x.f4 x.f5.f0 x.f5.f1 x.f5.f2) := fun a b => by
    refine sp_step (f := ?f5) (fun k => ?h5) ?r5
    case h5 => conv => lhs; rw [job_node.j1]
    exact sp_ite (fun _ => j2 _ _ _) (fun _ => j2 _ _ _)
  have j0 : ∀ a, Sp (fun c => c = 0 → SlideOk x) (fun k => job_node.j0 k a l x.f0 x.f1 x.f2 x.f3.f0 x.f3.f1 x.f3.f2 x.f4 x.f5.f0 x.f5.f1 x.f5.f2) := fun a => by
    refine sp_step (f := ?f6) (fun k => ?h6) ?r6
    case h6 => conv => lhs; rw [job_node.j0]
    exact sp_ite (fun _ => j1 _ _) (fun _ => j1 _ _)
  unfold job_node.f
  exact sp_ite (fun _ => j0 _) (fun _ => sp_ite (fun _ => j0 _) (fun _ => j0 _))
def SmallN (x : S38) : Prop := x.f1.length ≤ 9223372036854775807 ∧ ∃ d, SmallD d x.f3

theorem shape_some (l : List S38) (hl : l.length < 17592186044416) (hs : ∀ x ∈ l, SmallN x) :
    Sp (fun c => c = 0 → (∀ x ∈ l, SlideOk x) ∧ l.length ≤ (jobOrder l).length ∧ l.length ≤ 12) (fun k => job_shape.f k l) := by
  have loop : ∀ (m i : Nat), l.length = i + m → (∀ j (hj : j < l.length), j < i → SlideOk l[j]) → l.length ≤ 12 →
      Sp (fun c => c = 0 → (∀ x ∈ l, SlideOk x) ∧ l.length ≤ (jobOrder l).length ∧ l.length ≤ 12) (fun k => job_shape.l0 k l (l.length : Int) (i : Int) l) := by
    intro m
    induction m with
    | zero =>
      intro i hi hj h12
      refine sp_step (f := ?f1) (fun k => ?h1) ?r1
      case h1 => conv => lhs; rw [job_shape.l0, if_neg (by omega)]
      refine sp_bind (P := fun o => o = jobOrder l) (sp_now (r := jobOrder l) rfl |> sp_congr (fun k => by rw [job_Order.f, if_pos hl])) (fun o ho => ?_)
      subst ho
      refine sp_ite (fun _ => sp_now (by intro h; cases h)) (fun h => sp_now (fun _ => ⟨fun x hx => ?_, by omega, h12⟩))
      obtain ⟨j, hj', rfl⟩ := List.getElem_of_mem hx
      exact hj j hj' (by omega)
    | succ m ih =>
      intro i hi hj h12
      have hlt : i < l.length := by omega
      refine sp_step (f := ?f2) (fun k => ?h2) ?r2
      case h2 => conv => lhs; rw [job_shape.l0, if_pos (by omega), if_pos (by omega), if_pos (by omega), rd38_at hlt, step_i hlt (by omega)]
      obtain ⟨_, d, hd⟩ := hs _ (List.getElem_mem hlt)
      refine sp_bind (node_some l _ d hd) (fun t ht => sp_ite (fun h => ih (i + 1) (by omega) (fun j hj' hji => ?_) h12) (fun h => sp_now (fun h' => absurd h' h)))
      rcases Nat.lt_or_ge j i with h1 | h1
      · exact hj j hj' h1
      · obtain rfl : j = i := by omega
        exact ht h
  have j0 : ∀ b, (b = false → l.length ≤ 12) → Sp (fun c => c = 0 → (∀ x ∈ l, SlideOk x) ∧ l.length ≤ (jobOrder l).length ∧ l.length ≤ 12) (fun k => job_shape.j0 k b l) := by
    intro b hb
    refine sp_step (f := ?f3) (fun k => ?h3) ?r3
    case h3 => conv => lhs; rw [job_shape.j0]
    exact sp_ite (fun _ => sp_now (by intro h; cases h)) (fun h => loop l.length 0 (by omega) (fun _ _ h => absurd h (by omega)) (hb (by simpa using h)))
  unfold job_shape.f
  exact sp_ite (fun _ => j0 _ (by simp)) (fun _ => j0 _ (fun h => by have := of_decide_eq_false h; omega))
end Go.Proofs.Ytpbmfdbfimcpjaa.X
