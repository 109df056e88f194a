/- Proofs towards the law DiskPlays, joined into one text. No conditions beyond those typed. -/
import Derived.Test.YtihbgdobicokpaaMDiskPlays6
import Derived.Test.YtihbgdobicokpaaMDiskPlays4
import Derived.Maps.RangeWalk
import Derived.Maps.OwnOps
namespace Go.Proofs.Ytihbgdobicokpaa.D
open Go.RowKit Go.Maps Go.Proofs.YtihbgdobicokpaaW.PrintWords Go.Proofs.YtihbgdobicokpaaW.PrintLast Go.Proofs.YtihbgdobicokpaaW.PrintMore
set_option linter.unusedVariables false
set_option linter.unusedSimpArgs false
variable {X : Nat → Prop}
abbrev Nm := List UInt8
structure Fl where
  n : Nm
  b : List Int
  s : Int
structure Dk where
  fs : List Fl
  room : Int
  cut : Int
  dead : Bool
def ins {α : Type} (k : α → Nm) (x : α) : List α → List α
  | [] => [x]
  | y :: r => if bytesBefore (k x) (k y) then x :: y :: r else y :: ins k x r
def out {α : Type} (k : α → Nm) (n : Nm) (l : List α) : List α := l.filter fun y => !(k y == n)
def put {α : Type} (k : α → Nm) (x : α) (l : List α) : List α := ins k x (out k (k x) l)
def look (n : Nm) (fs : List Fl) : Option Fl := fs.find? fun f => f.n == n
def total (fs : List Fl) : Nat := (fs.map fun f => f.b.length).sum
def RF : Value → Option (DataW Value × List MemPlace)
  | .agg ⟨[.slice A n c, .int .i64 s]⟩ => some (.held (.agg #[.slice A n c, .int .i64 s]), [])
  | _ => none
theorem RF_inv {v : Value} {z : DataW Value × List MemPlace} (h : RF v = some z) : (∃ A n c s, v = .agg #[.slice A n c, .int .i64 s]) ∧ z = (.held v, []) := by
  unfold RF at h
  split at h
  · cases h; exact ⟨⟨_, _, _, _, rfl⟩, rfl⟩
  · cases h
def ent (e : Nm × Value) : Lit × DataW Value := (.string e.1, .held e.2)
def DM (es : List (Nm × Value)) : DataW Value := .map (es.map ent)
theorem keyed9 : Keyed Try.prog 9 := string_keyed Try.underlying9
theorem insert_ent (x : Nm × Value) : ∀ es : List (Nm × Value), DataW.insert (ent x) (es.map ent) = (ins Prod.fst x es).map ent
  | [] => rfl
  | y :: r => by
    show (if (ent x).1.before (ent y).1 then _ else _) = _
    have e : (ent x).1.before (ent y).1 = bytesBefore x.1 y.1 := rfl
    rw [e]
    unfold ins
    by_cases h : bytesBefore x.1 y.1 = true
    · rw [if_pos h, if_pos h]; rfl
    · rw [if_neg h, if_neg h, insert_ent x r]; rfl
theorem filter_ent (n : Nm) (es : List (Nm × Value)) : (es.map ent).filter (fun p => !p.1.sameKey (.string n)) = (out Prod.fst n es).map ent := by
  unfold out
  rw [List.filter_map]
  rfl
theorem DM_put (n : Nm) (v : Value) (es : List (Nm × Value)) : (DM es).put (.string n) (.held v) = DM (put Prod.fst (n, v) es) := by
  show DataW.map (DataW.insert (Lit.string n, DataW.held v) ((es.map ent).filter fun p => !p.1.sameKey (.string n))) = _
  rw [filter_ent]
  exact congrArg DataW.map (insert_ent (n, v) _)
theorem DM_del (n : Nm) (es : List (Nm × Value)) : (DM es).del (.string n) = DM (out Prod.fst n es) := by
  show DataW.map ((es.map ent).filter fun p => !p.1.sameKey (.string n)) = _
  rw [filter_ent]
  rfl
theorem DM_size (es : List (Nm × Value)) : Maps.size (DM es) = es.length := by simp [DM, Maps.size]
def lookE (n : Nm) (es : List (Nm × Value)) : Option (Nm × Value) := es.find? fun e => e.1 == n
def elemOf (n : Nm) (es : List (Nm × Value)) (z : Value) : Value := match lookE n es with | some e => e.2 | none => z
theorem DM_at (n : Nm) (es : List (Nm × Value)) (z : Value) : (DM es).atKey (.string n) (.held z) = .held (elemOf n es z) := by
  have e : ((fun p : Lit × DataW Value => p.1.sameKey (.string n)) ∘ ent) = fun e => e.1 == n := rfl
  unfold DM DataW.atKey elemOf lookE
  simp only [List.find?_map, e]
  cases es.find? (fun e => e.1 == n) <;> rfl
theorem DM_has (n : Nm) (es : List (Nm × Value)) : Maps.has (DM es) (.string n) = (lookE n es).isSome := by
  show (es.map ent).any (fun p => p.1.sameKey (.string n)) = _
  unfold lookE
  have e : ((fun p : Lit × DataW Value => p.1.sameKey (.string n)) ∘ ent) = fun e => e.1 == n := rfl
  rw [List.any_map, e]
  cases h : es.find? (fun e => e.1 == n) with
  | none => simpa using h
  | some x => 
    rw [Option.isSome_some, List.any_eq_true]
    exact ⟨x, List.mem_of_find?_eq_some h, List.find?_some (p := fun e : Nm × Value => e.1 == n) h⟩
theorem DM_keys (es : List (Nm × Value)) : strKeys (DM es) = es.map Prod.fst := by
  show (es.map ent).map (fun p => strOf p.1) = _
  rw [List.map_map]
  rfl
def IsB (w : World) (v : Value) (bs : List Int) : Prop :=
  (v = .slice none 0 0 ∧ bs = []) ∨ ∃ g cap cur, v = .slice (some ⟨g, 0, none⟩) bs.length cap ∧ bs.length ≤ cap ∧ bs.length ≤ 140737488355328 ∧ w.heap[g]? = some (.cells cur 5 (0, 0)) ∧ cur.toList.take bs.length = bs.map (Value.int .u8)
structure Fr (M : Nat → Prop) (w w' : World) : Prop where
  os : w'.os = w.os
  tape : w'.tape = w.tape
  output : w'.output = w.output
  size : w.heap.size ≤ w'.heap.size
  block : ∀ k, k < w.heap.size → ¬ M k → w'.heap[k]? = w.heap[k]?
theorem Fr.refl (M : Nat → Prop) (w : World) : Fr M w w := ⟨rfl, rfl, rfl, Nat.le_refl _, fun _ _ _ => rfl⟩
theorem Fr.trans {M : Nat → Prop} {a b c : World} (h : Fr M a b) (k : Fr M b c) : Fr M a c :=
  ⟨k.os.trans h.os, k.tape.trans h.tape, k.output.trans h.output, Nat.le_trans h.size k.size, fun i hi hM => (k.block i (Nat.lt_of_lt_of_le hi h.size) hM).trans (h.block i hi hM)⟩
theorem Fr.mono {M M' : Nat → Prop} {a b : World} (h : Fr M a b) (hM : ∀ k, k < a.heap.size → M k → M' k) : Fr M' a b :=
  ⟨h.os, h.tape, h.output, h.size, fun i hi hn => h.block i hi (fun hk => hn (hM i hi hk))⟩
theorem Fr.below {M : Nat → Prop} {a b c : World} (h : Fr M a b) (k : Below b.heap.size b c) : Fr M a c :=
  h.trans ⟨k.os, k.tape, k.output, k.size, fun i hi _ => k.block i hi⟩
theorem Fr.of_below {M : Nat → Prop} {b c : World} (k : Below b.heap.size b c) : Fr M b c := (Fr.refl M b).below k
theorem Fr.toBelow {M : Nat → Prop} {B : Nat} {a b : World} (h : Fr M a b) (hB : B ≤ a.heap.size) (hM : ∀ k, k < a.heap.size → M k → B ≤ k) : Below B a b :=
  ⟨h.os, h.tape, h.output, h.size, fun k hk => h.block k (by omega) (fun hm => by have := hM k (by omega) hm; omega)⟩
theorem Fr.setCell {M : Nat → Prop} {a b : World} (h : Fr M a b) {p : Addr} (hp : M p.block) (u : Value) : Fr M a (b.setCell p u) :=
  h.trans ⟨rfl, rfl, rfl, by simp [World.setCell], fun k _ hn => Below.heap_setCell _ _ _ _ (fun e => hn (e ▸ hp))⟩
theorem Fr.alloc {M : Nat → Prop} {a b : World} (h : Fr M a b) (o : Obj) : Fr M a (b.alloc o) := h.below ((Below.refl _ _).alloc (Nat.le_refl _) o)
theorem Fr.drew {M : Nat → Prop} {a b : World} (h : Fr M a b) : Fr M a b.drew := ⟨h.os, h.tape, h.output, h.size, h.block⟩
theorem Fr.drewN {M : Nat → Prop} {a b : World} (h : Fr M a b) (n : Nat) : Fr M a (b.drewN n) := ⟨h.os, h.tape, h.output, h.size, h.block⟩
theorem Fr.grown {M : Nat → Prop} {a b c : World} {row : Option Nat} (h : Fr M a b) (k : b.grownBy c row) (hr : ∀ j, row = some j → M j ∨ b.heap.size ≤ j) : Fr M a c :=
  h.trans ⟨k.os, k.tape, k.output, k.size, fun i hi hn => k.block i hi (fun e => by rcases hr i e.symm with h1 | h1; exact hn h1; omega)⟩
theorem lt_of_block {w : World} {k : Nat} {o : Obj} (h : w.heap[k]? = some o) : k < w.heap.size := (Array.getElem?_eq_some_iff.1 h).1
def NB (w : World) (k : Nat) : Prop := ∀ cur, w.heap[k]? ≠ some (.cells cur 5 (0, 0))
theorem IsB.fr {M : Nat → Prop} {w w' : World} {v : Value} {bs : List Int} (h : IsB w v bs) (hf : Fr M w w') (hM : ∀ k, k < w.heap.size → M k → NB w k) : IsB w' v bs := by
  rcases h with h | ⟨g, cap, cur, h1, h2, h3, h4, h5⟩
  · exact Or.inl h
  · exact Or.inr ⟨g, cap, cur, h1, h2, h3, (hf.block g (lt_of_block h4) (fun hm => hM g (lt_of_block h4) hm cur h4)).trans h4, h5⟩
theorem IsB.slice {w : World} {v : Value} {bs : List Int} (h : IsB w v bs) : ∃ A c, v = .slice A bs.length c ∧ bs.length ≤ c := by
  rcases h with ⟨rfl, rfl⟩ | ⟨g, cap, cur, rfl, h2, _⟩
  · exact ⟨none, 0, rfl, Nat.le_refl _⟩
  · exact ⟨_, cap, rfl, h2⟩
theorem IsB.len {w : World} {v : Value} {bs : List Int} (h : IsB w v bs) : bs.length ≤ 140737488355328 := by
  rcases h with ⟨rfl, rfl⟩ | ⟨g, cap, cur, rfl, _, h, _⟩
  · simp
  · exact h
theorem IsB.cell {w : World} {g o cap : Nat} {n : Nat} {bs : List Int} (h : IsB w (.slice (some ⟨g, o, none⟩) n cap) bs) (i : Nat) (hi : i < bs.length) : w.cell? (Addr.add ⟨g, o, none⟩ i) = some (.int .u8 (bs.getD i 0)) := by
  rcases h with ⟨h, _⟩ | ⟨g', cap', cur, h1, h2, h3, h4, h5⟩
  · cases h
  · cases h1
    have e : cur.toList[i]? = some (.int .u8 (bs.getD i 0)) := by
      have := congrArg (fun l => l[i]?) h5
      simp only [List.getElem?_take, if_pos hi, List.getElem?_map, List.getElem?_eq_getElem hi] at this
      rw [this]
      simp [List.getD, List.getElem?_eq_getElem hi]
    have hb : (Addr.add ⟨g, 0, none⟩ i).block = g := by unfold Addr.add; split <;> rfl
    have hs : (Addr.add ⟨g, 0, none⟩ i).spot = none := by unfold Addr.add; split <;> rfl
    have ho : (Addr.add ⟨g, 0, none⟩ i).off = i := by unfold Addr.add; split <;> simp_all
    simp only [World.cell?, hb, h4, hs, ho]
    simpa using e
theorem IsB.of_own {w : World} {B n : Nat} {v : Value} {xs : List Int} (h : w.ownsRow B 5 1 v n (xs.map (Value.int .u8))) (hx : xs.length = n) (hn : n ≤ 140737488355328) : IsB w v xs := by
  obtain ⟨h1, ⟨rfl, h3⟩ | ⟨g, cap, cur, rfl, h3, h4, h5, h6, h7, h8⟩⟩ := h
  · exact Or.inl ⟨rfl, List.eq_nil_of_length_eq_zero (by omega)⟩
  · subst hx
    rw [Nat.mul_one] at h8
    exact Or.inr ⟨g, cap, cur, rfl, h5, hn, h4, h8⟩
theorem IsB.reads {w : World} {v : Value} {bs : List Int} (h : IsB w v bs) : ∃ A c, v = .slice A bs.length c ∧ bs.length ≤ c ∧ Kd.C (Kd.int .u8) w A bs.length bs := by
  obtain ⟨A, c, rfl, hc⟩ := h.slice
  refine ⟨A, c, rfl, hc, rfl, Nat.le_trans h.len (by decide), fun hn => ?_⟩
  have h0 := h
  rcases h with ⟨h1, rfl⟩ | ⟨g, cap, cur, h1, _⟩
  · simp at hn
  · cases h1
    refine ⟨_, rfl, fun j x hj => ⟨[.int .u8 x], rfl, rfl, fun i u hu => ?_⟩⟩
    have hjl : j < bs.length := (List.getElem?_eq_some_iff.1 hj).1
    cases i with
    | succ i => simp at hu
    | zero =>
      simp at hu
      subst hu
      have := h0.cell j hjl
      simp only [Kd.int, Kd.scalar, Nat.mul_one, Nat.add_zero]
      rw [this, List.getD, hj]
      rfl
def Av (X : Nat → Prop) (v : Value) : Prop := ∀ a n c, v = .slice (some a) n c → ¬ X a.block
theorem Av.none {v : Value} : Av (fun _ => False) v := fun _ _ _ _ h => h
def IsFX (X : Nat → Prop) (w : World) (v : Value) (f : Fl) : Prop := ∃ sl, v = .agg #[sl, .int .i64 f.s] ∧ IsB w sl f.b ∧ Av X sl ∧ 0 ≤ f.s ∧ f.s ≤ f.b.length ∧ f.b.length ≤ 1048576
def HasEX (X : Nat → Prop) (w : World) (e : Nm × Value) (f : Fl) : Prop := e.1 = f.n ∧ IsFX X w e.2 f
inductive HasFX (X : Nat → Prop) (w : World) : List (Nm × Value) → List Fl → Prop
  | nil : HasFX X w [] []
  | cons {a : Nm × Value} {b : Fl} {es : List (Nm × Value)} {fs : List Fl} (h : HasEX X w a b) (r : HasFX X w es fs) : HasFX X w (a :: es) (b :: fs)
theorem IsFX.fr {M : Nat → Prop} {w w' : World} {v : Value} {f : Fl} (h : IsFX X w v f) (hf : Fr M w w') (hM : ∀ k, k < w.heap.size → M k → NB w k) : IsFX X w' v f := by
  obtain ⟨sl, h1, h2, h3⟩ := h
  exact ⟨sl, h1, h2.fr hf hM, h3⟩
theorem HasFX.fr {M : Nat → Prop} {w w' : World} {es : List (Nm × Value)} {fs : List Fl} (h : HasFX X w es fs) (hf : Fr M w w') (hM : ∀ k, k < w.heap.size → M k → NB w k) : HasFX X w' es fs := by
  induction h with
  | nil => exact .nil
  | cons h _ ih => exact .cons ⟨h.1, h.2.fr hf hM⟩ ih
theorem HasFX.ins {w : World} {e : Nm × Value} {f : Fl} (he : HasEX X w e f) : ∀ {es : List (Nm × Value)} {fs : List Fl}, HasFX X w es fs → HasFX X w (ins Prod.fst e es) (ins Fl.n f fs)
  | _, _, .nil => .cons he .nil
  | _, _, .cons (a := a) (b := b) h r => by
    unfold D.ins
    rw [he.1, h.1]
    by_cases c : bytesBefore f.n b.n = true
    · rw [if_pos c, if_pos c]; exact .cons he (.cons h r)
    · rw [if_neg c, if_neg c]; exact .cons h (HasFX.ins he r)
theorem HasFX.out {w : World} (n : Nm) : ∀ {es : List (Nm × Value)} {fs : List Fl}, HasFX X w es fs → HasFX X w (out Prod.fst n es) (out Fl.n n fs)
  | _, _, .nil => .nil
  | _, _, .cons (a := a) (b := b) h r => by
    have ih := HasFX.out n r
    unfold D.out at ih ⊢
    by_cases c : b.n = n
    · have c1 : a.1 = n := h.1.trans c
      simpa [c, c1] using ih
    · have c1 : ¬ a.1 = n := fun e => c (h.1.symm.trans e)
      simp only [List.filter_cons, c, c1, beq_iff_eq, Bool.not_eq_true', beq_eq_false_iff_ne, ne_eq, not_false_eq_true, if_true]
      exact .cons h ih
theorem HasFX.put {w : World} {e : Nm × Value} {f : Fl} (he : HasEX X w e f) {es : List (Nm × Value)} {fs : List Fl} (h : HasFX X w es fs) : HasFX X w (put Prod.fst e es) (put Fl.n f fs) := by
  unfold D.put
  rw [he.1]
  exact HasFX.ins he (HasFX.out f.n h)
theorem HasFX.look {w : World} (n : Nm) : ∀ {es : List (Nm × Value)} {fs : List Fl}, HasFX X w es fs → (lookE n es = none ∧ look n fs = none) ∨ ∃ e f, lookE n es = some e ∧ look n fs = some f ∧ HasEX X w e f
  | _, _, .nil => .inl ⟨rfl, rfl⟩
  | _, _, .cons (a := a) (b := b) h r => by
    have ih := HasFX.look n r
    unfold lookE D.look at ih ⊢
    by_cases c : b.n = n
    · have c1 : a.1 = n := h.1.trans c
      exact .inr ⟨a, b, by simp [c1], by simp [c], h⟩
    · have c1 : ¬ a.1 = n := fun e => c (h.1.symm.trans e)
      simpa [c, c1] using ih
theorem HasFX.names {w : World} : ∀ {es : List (Nm × Value)} {fs : List Fl}, HasFX X w es fs → es.map Prod.fst = fs.map Fl.n
  | _, _, .nil => rfl
  | _, _, .cons h r => by simp [h.1, HasFX.names r]
structure IsDX (X : Nat → Prop) (N : Nat) (w : World) (p b : Nat) (d : Dk) : Prop where
  at_ : w.heap[p]? = some (.cells #[.map (some b), .int .i64 d.room, .int .i64 d.cut, .bool d.dead] 64 (0, 0))
  fs : ∃ es, w.ownsMap Try.prog 9 RF b N (DM es) ∧ HasFX X w es d.fs
  small : N ≤ 1000000
  room0 : 0 ≤ d.room
  room1 : d.room ≤ 9223372036854775807
  cut0 : -1 ≤ d.cut
  cut1 : d.cut ≤ 9223372036854775807
def Two (p b : Nat) (k : Nat) : Prop := k = p ∨ k = b
theorem IsDX.lt {N : Nat} {w : World} {p b : Nat} {d : Dk} (h : IsDX X N w p b d) : p < w.heap.size := lt_of_block h.at_
theorem IsDX.ltb {N : Nat} {w : World} {p b : Nat} {d : Dk} (h : IsDX X N w p b d) : b < w.heap.size := by obtain ⟨es, h1, _⟩ := h.fs; exact h1.lt
theorem IsDX.ne {N : Nat} {w : World} {p b : Nat} {d : Dk} (h : IsDX X N w p b d) : p ≠ b := by
  obtain ⟨es, ⟨e1, c1, h1, _⟩, _⟩ := h.fs
  intro e
  rw [← e, h.at_] at h1
  cases h1
theorem IsDX.two {N : Nat} {w : World} {p b : Nat} {d : Dk} (h : IsDX X N w p b d) : ∀ k, k < w.heap.size → Two p b k → NB w k := by
  rintro k _ (rfl | rfl) cur hk
  · rw [h.at_] at hk; cases hk
  · obtain ⟨es, ⟨e1, c1, h1, _⟩, _⟩ := h.fs
    rw [h1] at hk; cases hk
theorem IsDX.mono {N N' : Nat} {w : World} {p b : Nat} {d : Dk} (h : IsDX X N w p b d) (hn : N ≤ N') (hs : N' ≤ 1000000) : IsDX X N' w p b d := by
  obtain ⟨es, h1, h2⟩ := h.fs
  exact ⟨h.at_, ⟨es, h1.mono hn, h2⟩, hs, h.room0, h.room1, h.cut0, h.cut1⟩
theorem IsDX.fr {M : Nat → Prop} {N : Nat} {w w' : World} {p b : Nat} {d : Dk} (h : IsDX X N w p b d) (hf : Fr M w w') (hM : ∀ k, k < w.heap.size → M k → NB w k) (hp : ¬ M p) (hb : ¬ M b) : IsDX X N w' p b d := by
  obtain ⟨es, h1, h2⟩ := h.fs
  have hlt := h1.lt
  obtain ⟨e1, c1, h3, h4⟩ := h1
  exact ⟨(hf.block p h.lt hp).trans h.at_, ⟨es, ⟨e1, c1, (hf.block b hlt hb).trans h3, h4⟩, h2.fr hf hM⟩, h.small, h.room0, h.room1, h.cut0, h.cut1⟩
theorem IsDX.below {N : Nat} {w w' : World} {p b : Nat} {d : Dk} (h : IsDX X N w p b d) (hf : Below w.heap.size w w') : IsDX X N w' p b d :=
  h.fr (M := fun _ => False) (Fr.of_below hf) (fun _ _ h => h.elim) id id
theorem IsDX.drawn {N : Nat} {w w' : World} {p b : Nat} {d : Dk} (h : IsDX X N w p b d) (hf : Drawn0 w w') : IsDX X N w' p b d := by
  obtain ⟨m, rfl⟩ := hf
  exact h.below (pw_below_drewN (Below.refl _ _) m)
theorem Av.of_own {w : World} {B n : Nat} {v : Value} {xs : List Value} (h : w.ownsRow B 5 1 v n xs) (hX : ∀ k, X k → k < B) : Av X v := by
  intro a m c e hx
  obtain ⟨_, ⟨h2, _⟩ | ⟨g, cap, cur, h2, h3, _⟩⟩ := h
  · rw [e] at h2; cases h2
  · rw [e] at h2; cases h2
    exact absurd (hX _ hx) (Nat.not_lt.2 h3)
theorem IsFX.avoid {Y : Nat → Prop} {w : World} {v : Value} {f : Fl} (h : IsFX X w v f) (hY : ∀ k, k < w.heap.size → Y k → X k) : IsFX Y w v f := by
  obtain ⟨sl, h1, h2, h3, h4⟩ := h
  refine ⟨sl, h1, h2, fun a n c e hx => ?_, h4⟩
  rcases h2 with ⟨h2, _⟩ | ⟨g, cap, cur, h5, _, _, h6, _⟩
  · rw [e] at h2; cases h2
  · have e2 := e
    rw [h5] at e2
    cases e2
    exact h3 _ _ _ e (hY g (lt_of_block h6) hx)
theorem HasFX.avoid {Y : Nat → Prop} {w : World} {es : List (Nm × Value)} {fs : List Fl} (h : HasFX X w es fs) (hY : ∀ k, k < w.heap.size → Y k → X k) : HasFX Y w es fs := by
  induction h with
  | nil => exact .nil
  | cons h _ ih => exact .cons ⟨h.1, h.2.avoid hY⟩ ih
theorem IsDX.avoid {Y : Nat → Prop} {N : Nat} {w : World} {p b : Nat} {d : Dk} (h : IsDX X N w p b d) (hY : ∀ k, k < w.heap.size → Y k → X k) : IsDX Y N w p b d := by
  obtain ⟨es, h1, h2⟩ := h.fs
  exact ⟨h.at_, ⟨es, h1, h2.avoid hY⟩, h.small, h.room0, h.room1, h.cut0, h.cut1⟩
theorem IsB.fr' {M : Nat → Prop} {w w' : World} {v : Value} {bs : List Int} (h : IsB w v bs) (hf : Fr M w w') (hM : Av M v) : IsB w' v bs := by
  rcases h with h | ⟨g, cap, cur, h1, h2, h3, h4, h5⟩
  · exact Or.inl h
  · exact Or.inr ⟨g, cap, cur, h1, h2, h3, (hf.block g (lt_of_block h4) (hM _ _ _ h1)).trans h4, h5⟩
theorem IsFX.spoil {X M : Nat → Prop} {w w' : World} {v : Value} {f : Fl} (h : IsFX X w v f) (hf : Fr M w w') (hM : ∀ k, M k → X k) : IsFX X w' v f := by
  obtain ⟨sl, h1, h2, h3, h4⟩ := h
  exact ⟨sl, h1, h2.fr' hf (fun a n c e hm => h3 a n c e (hM _ hm)), h3, h4⟩
theorem HasFX.spoil {X M : Nat → Prop} {w w' : World} {es : List (Nm × Value)} {fs : List Fl} (h : HasFX X w es fs) (hf : Fr M w w') (hM : ∀ k, M k → X k) : HasFX X w' es fs := by
  induction h with
  | nil => exact .nil
  | cons h _ ih => exact .cons ⟨h.1, h.2.spoil hf hM⟩ ih
theorem IsDX.spoil {X M : Nat → Prop} {N : Nat} {w w' : World} {p b : Nat} {d : Dk} (h : IsDX X N w p b d) (hf : Fr M w w') (hM : ∀ k, M k → X k) (hp : ¬ M p) (hb : ¬ M b) : IsDX X N w' p b d := by
  obtain ⟨es, h1, h2⟩ := h.fs
  have hlt := h1.lt
  obtain ⟨e1, c1, h3, h4⟩ := h1
  exact ⟨(hf.block p h.lt hp).trans h.at_, ⟨es, ⟨e1, c1, (hf.block b hlt hb).trans h3, h4⟩, h2.spoil hf hM⟩, h.small, h.room0, h.room1, h.cut0, h.cut1⟩
abbrev IsF (w : World) (v : Value) (f : Fl) : Prop := IsFX (fun _ => False) w v f
abbrev IsD (N : Nat) (w : World) (p b : Nat) (d : Dk) : Prop := IsDX (fun _ => False) N w p b d
end Go.Proofs.Ytihbgdobicokpaa.D
namespace Go.Proofs.Ytihbgdobicokpaa.D
open Go.RowKit Go.Maps Go.Proofs.Ytihbgdobicokpaa.X Go.Proofs.YtihbgdobicokpaaW.PrintWords Go.Proofs.YtihbgdobicokpaaW.PrintLast Go.Proofs.YtihbgdobicokpaaW.PrintMore
attribute [local go_sem] max2_int min2_int max_two min_two max_three min_three max_four min_four   -- for this text's walks alone
set_option linter.unusedVariables false
set_option linter.unusedSimpArgs false
variable {X : Nat → Prop}
theorem IsDX.cells {N : Nat} {w : World} {p b : Nat} {d : Dk} (h : IsDX X N w p b d) : w.cell? ⟨p, 0, none⟩ = some (.map (some b)) ∧ w.cell? ⟨p, 1, none⟩ = some (.int .i64 d.room) ∧ w.cell? ⟨p, 2, none⟩ = some (.int .i64 d.cut) ∧ w.cell? ⟨p, 3, none⟩ = some (.bool d.dead) :=
  ⟨(blk_cell h.at_ 0).trans rfl, (blk_cell h.at_ 1).trans rfl, (blk_cell h.at_ 2).trans rfl, (blk_cell h.at_ 3).trans rfl⟩
theorem IsDX.frozen {N : Nat} {w : World} {p b : Nat} {d : Dk} (h : IsDX X N w p b d) (i : Nat) : w.frozen? ⟨p, i, none⟩ = false := blk_frozen h.at_ i
theorem IsDX.set {N : Nat} {w : World} {p b : Nat} {d : Dk} (h : IsDX X N w p b d) (i : Nat) (v : Value) (d' : Dk) (hfs : d'.fs = d.fs)
    (hc : (#[Value.map (some b), .int .i64 d.room, .int .i64 d.cut, .bool d.dead] : Array Value).setIfInBounds i v = #[.map (some b), .int .i64 d'.room, .int .i64 d'.cut, .bool d'.dead])
    (h1 : 0 ≤ d'.room) (h2 : d'.room ≤ 9223372036854775807) (h3 : -1 ≤ d'.cut) (h4 : d'.cut ≤ 9223372036854775807) : IsDX X N (w.setCell ⟨p, i, none⟩ v) p b d' ∧ Fr (Two p b) w (w.setCell ⟨p, i, none⟩ v) := by
  have hf : Fr (fun k => k = p) w (w.setCell ⟨p, i, none⟩ v) := Fr.setCell (M := fun k => k = p) (Fr.refl _ w) (p := ⟨p, i, none⟩) rfl v
  obtain ⟨es, g1, g2⟩ := h.fs
  refine ⟨⟨?_, ⟨es, g1.setCell (a := ⟨p, i, none⟩) (fun e => h.ne e.symm) v, ?_⟩, h.small, h1, h2, h3, h4⟩, hf.mono (fun k _ hk => Or.inl hk)⟩
  · rw [← hc]; exact blk_set h.at_ i v
  · rw [hfs]; exact g2.fr hf (fun k hk e => h.two k hk (Or.inl e))
def doneD (d : Dk) : Dk := if 0 < d.cut then { d with cut := d.cut - 1, dead := decide (d.cut - 1 = 0) } else d
set_option maxHeartbeats 1000000 in
set_option maxRecDepth 100000 in
theorem done_calls {N : Nat} {w : World} {p b : Nat} {d : Dk} (h : IsDX X N w p b d) : Calls Try.prog 42 #[.pointer (some ⟨p, 0, none⟩)] w fun e w' => e = .returned (.int .i64 0) ∧ IsDX X N w' p b (doneD d) ∧ Fr (Two p b) w w' := by
  obtain ⟨hc0, hc1, hc2, hc3⟩ := h.cells
  have hf2 := h.frozen 2
  have hf3 := h.frozen 3
  have hw : 0 < d.cut → wrap64 (d.cut - 1) = d.cut - 1 := fun hc => by have := h.cut1; unfold wrap64; omega
  have H := Aside0.mk h
  clear h
  by_cases c : 0 < d.cut
  · have c1 : decide (0 < d.cut) = true := decide_eq_true c
    have hw := hw c
    go_enter Try.func42, Try.ntmps42
    go_wp2
    go_ret
    have h := H.out
    have s1 := h.set 2 (.int .i64 (d.cut - 1)) { d with cut := d.cut - 1 } rfl rfl h.room0 h.room1 (by show -1 ≤ d.cut - 1; omega) (by show d.cut - 1 ≤ _; have := h.cut1; omega)
    have s2 := s1.1.set 3 (.bool (decide (d.cut - 1 = 0))) (doneD d) (by simp [doneD, c]) (by simp [doneD, c]) (by simp only [doneD, c, if_true]; exact h.room0) (by simp only [doneD, c, if_true]; exact h.room1) (by simp only [doneD, c, if_true]; omega) (by simp only [doneD, c, if_true]; have := h.cut1; omega)
    exact ⟨rfl, s2.1, s1.2.trans s2.2⟩
  · have c1 : decide (0 < d.cut) = false := decide_eq_false c
    go_enter Try.func42, Try.ntmps42
    go_wp2
    go_ret
    refine ⟨rfl, ?_, Fr.refl _ _⟩
    rw [doneD, if_neg (by omega)]
    exact H.out
def got (n : Nm) (fs : List Fl) : List Int × Int := match look n fs with | some f => (f.b, f.s) | none => ([], 0)
theorem IsDX.key {nm : ByteArray} (hn : nm.size ≤ maxLen) : keyOf Try.prog 9 (.string nm) = some (.string nm.data.toList) := WideMaps.keyOf_string_mk Try.underlying9 hn
theorem got_of {w : World} {es : List (Nm × Value)} {fs : List Fl} (n : Nm) (h : HasFX X w es fs) : ∃ sl, elemOf n es (Value.agg #[.slice none 0 0, .int .i64 0]) = .agg #[sl, .int .i64 (got n fs).2] ∧ IsB w sl (got n fs).1 ∧ (lookE n es).isSome = (look n fs).isSome ∧ 0 ≤ (got n fs).2 ∧ (got n fs).2 ≤ (got n fs).1.length ∧ (got n fs).1.length ≤ 1048576 := by
  rcases h.look n with ⟨h1, h2⟩ | ⟨e, f, h1, h2, _, sl, h3, h4, h5⟩
  · exact ⟨.slice none 0 0, by simp only [elemOf, h1, got, h2], Or.inl ⟨rfl, by simp [got, h2]⟩, by rw [h1, h2]; rfl, by simp [got, h2], by simp [got, h2], by simp [got, h2]⟩
  · exact ⟨sl, by simp only [elemOf, h1, got, h2, h3], by simpa [got, h2] using h4, by rw [h1, h2]; rfl, by simpa [got, h2] using h5.2⟩
theorem IsDX.lk_ok {N : Nat} {w : World} {p b : Nat} {d : Dk} (h : IsDX X N w p b d) {nm : ByteArray} (hn : nm.size ≤ maxLen) :
    ∃ sl, (Instr.lookup 62 (.map (some b)) (.string nm) true).run Try.prog w = .ok (.tuple #[.agg #[sl, .int .i64 (got nm.data.toList d.fs).2], .bool (look nm.data.toList d.fs).isSome]) w ∧ IsB w sl (got nm.data.toList d.fs).1 := by
  obtain ⟨es, h1, h2⟩ := h.fs
  obtain ⟨v, ps, hrun, hv⟩ := h1.look_ok keyed9 Try.underlying62 (Try.zeroValue67 w) (zd := .held (.agg #[.slice none 0 0, .int .i64 0])) (zp := []) rfl (IsDX.key hn)
  obtain ⟨sl, g1, g2, g3, _⟩ := got_of nm.data.toList h2
  rw [DM_at, g1] at hv
  obtain ⟨_, hv⟩ := RF_inv hv
  cases hv
  rw [DM_has, g3] at hrun
  exact ⟨sl, hrun, g2⟩
theorem IsDX.lk {N : Nat} {w : World} {p b : Nat} {d : Dk} (h : IsDX X N w p b d) {nm : ByteArray} (hn : nm.size ≤ maxLen) :
    ∃ sl, (Instr.lookup 62 (.map (some b)) (.string nm) false).run Try.prog w = .ok (.agg #[sl, .int .i64 (got nm.data.toList d.fs).2]) w ∧ IsB w sl (got nm.data.toList d.fs).1 ∧ 0 ≤ (got nm.data.toList d.fs).2 ∧ (got nm.data.toList d.fs).2 ≤ (got nm.data.toList d.fs).1.length ∧ (got nm.data.toList d.fs).1.length ≤ 1048576 := by
  obtain ⟨es, h1, h2⟩ := h.fs
  obtain ⟨v, ps, hrun, hv⟩ := h1.lookup keyed9 Try.underlying62 (Try.zeroValue67 w) (zd := .held (.agg #[.slice none 0 0, .int .i64 0])) (zp := []) rfl (IsDX.key hn)
  obtain ⟨sl, g1, g2, g3, g4⟩ := got_of nm.data.toList h2
  rw [DM_at, g1] at hv
  obtain ⟨_, hv⟩ := RF_inv hv
  cases hv
  exact ⟨sl, hrun, g2, g4⟩
def isE (d : Dk) (n : Nm) : Int := if d.dead = true then 23 else if (look n d.fs).isSome = true then 0 else 20
set_option maxHeartbeats 1000000 in
set_option maxRecDepth 100000 in
theorem is_calls {N : Nat} {w : World} {p b : Nat} {d : Dk} (h : IsDX X N w p b d) {nm : ByteArray} (hn : nm.size ≤ maxLen) : Calls Try.prog 43 #[.pointer (some ⟨p, 0, none⟩), .string nm] w fun e w' => e = .returned (.int .i64 (isE d nm.data.toList)) ∧ Below w.heap.size w w' := by
  obtain ⟨hc0, hc1, hc2, hc3⟩ := h.cells
  obtain ⟨sl, hrun, hb⟩ := h.lk_ok hn
  unfold isE
  cases c : d.dead with
  | true =>
    rw [c] at hc3
    clear hrun hb h
    go_enter Try.func43, Try.ntmps43
    go_wp2
    go_ret
    exact ⟨rfl, Below.refl _ _⟩
  | false =>
    rw [c] at hc3
    obtain ⟨A, cp, rfl, _⟩ := hb.slice
    clear h hb
    generalize got nm.data.toList d.fs = gg at hrun
    obtain ⟨g1, g2⟩ := gg
    generalize g1.length = gl at hrun
    cases c2 : (look nm.data.toList d.fs).isSome with
    | true =>
      rw [c2] at hrun
      go_enter Try.func43, Try.ntmps43
      go_wp2
      go_ret
      exact ⟨rfl, ((Below.refl _ w).alloc (Nat.le_refl _) _)⟩
    | false =>
      rw [c2] at hrun
      go_enter Try.func43, Try.ntmps43
      go_wp2
      go_ret
      exact ⟨rfl, ((Below.refl _ w).alloc (Nat.le_refl _) _)⟩
set_option maxHeartbeats 1000000 in
set_option maxRecDepth 100000 in
theorem Dead_calls {N : Nat} {w : World} {p b : Nat} {d : Dk} (h : IsDX X N w p b d) : Calls Try.prog 23 #[.pointer (some ⟨p, 0, none⟩)] w fun e w' => e = .returned (.bool d.dead) ∧ w' = w := by
  obtain ⟨hc0, hc1, hc2, hc3⟩ := h.cells
  clear h
  go_enter Try.func23, Try.ntmps23
  go_wp2
  go_ret
  exact ⟨rfl, rfl⟩
def roomD (d : Dk) (n : Int) : Dk := { d with room := mx n 0 }
set_option maxHeartbeats 1000000 in
set_option maxRecDepth 100000 in
theorem Room_calls {N : Nat} {w : World} {p b : Nat} {d : Dk} (h : IsDX X N w p b d) (n : Int) (hn : n ≤ 9223372036854775807) : Calls Try.prog 34 #[.pointer (some ⟨p, 0, none⟩), .int .i64 n] w fun e w' => e = .returned (.tuple #[]) ∧ IsDX X N w' p b (roomD d n) ∧ Fr (Two p b) w w' := by
  obtain ⟨hc0, hc1, hc2, hc3⟩ := h.cells
  have hf1 := h.frozen 1
  obtain ⟨m, hm⟩ : ∃ m, mx n 0 = m := ⟨_, rfl⟩
  have hm_ : (if n < 0 then 0 else n) = m := hm
  have h0 : 0 ≤ m := by rw [← hm]; unfold mx; split <;> omega
  have h1 : m ≤ 9223372036854775807 := by rw [← hm]; unfold mx; split <;> omega
  have HM := Aside0.mk hm
  have H := Aside0.mk h
  have H0 := Aside0.mk h0
  have H1 := Aside0.mk h1
  clear h hm h0 h1 hn
  go_enter Try.func34, Try.ntmps34
  go_wp2
  first | go_end0 | ((try simp only [Exit.inBlock, Exit.then]); refine bodyPost_ret (results_none rfl _ _ _) rfl ?_)
  have h := H.out
  have s1 := h.set 1 (.int .i64 m) (roomD d n) rfl (by simp [roomD, HM.out]) (by simpa [roomD, HM.out] using H0.out) (by simpa [roomD, HM.out] using H1.out) h.cut0 h.cut1
  exact ⟨rfl, s1.1, s1.2⟩
def cutD (d : Dk) (n : Int) : Dk := { d with cut := mx n (-1), dead := d.dead || decide (n = 0) }
set_option maxHeartbeats 1000000 in
set_option maxRecDepth 100000 in
theorem Cut_calls {N : Nat} {w : World} {p b : Nat} {d : Dk} (h : IsDX X N w p b d) (n : Int) (hn : n ≤ 9223372036854775807) : Calls Try.prog 22 #[.pointer (some ⟨p, 0, none⟩), .int .i64 n] w fun e w' => e = .returned (.tuple #[]) ∧ IsDX X N w' p b (cutD d n) ∧ Fr (Two p b) w w' := by
  obtain ⟨hc0, hc1, hc2, hc3⟩ := h.cells
  have hf2 := h.frozen 2
  have hf3 := h.frozen 3
  have h1 : -1 ≤ mx n (-1) := by unfold mx; split <;> omega
  have h2 : mx n (-1) ≤ 9223372036854775807 := by unfold mx; split <;> omega
  have H := Aside0.mk h
  have H1 := Aside0.mk h1
  have H2 := Aside0.mk h2
  clear h h1 h2 hn
  by_cases c : n = 0
  · subst c
    go_enter Try.func22, Try.ntmps22
    go_wp2
    first | go_end0 | ((try simp only [Exit.inBlock, Exit.then]); refine bodyPost_ret (results_none rfl _ _ _) rfl ?_)
    have h := H.out
    have s1 := h.set 2 (.int .i64 (mx 0 (-1))) { d with cut := mx 0 (-1) } rfl rfl h.room0 h.room1 H1.out H2.out
    have s2 := s1.1.set 3 (.bool true) (cutD d 0) rfl (by simp [cutD]) h.room0 h.room1 H1.out H2.out
    exact ⟨rfl, s2.1, s1.2.trans s2.2⟩
  · have c1 : (n == 0) = false := by simpa using c
    obtain ⟨m, hm⟩ : ∃ m, mx n (-1) = m := ⟨_, rfl⟩
    have hm_ : (if n < (-1) then (-1) else n) = m := hm
    have HM := Aside0.mk hm
    clear hm
    go_enter Try.func22, Try.ntmps22
    go_wp2
    first | go_end0 | ((try simp only [Exit.inBlock, Exit.then]); refine bodyPost_ret (results_none rfl _ _ _) rfl ?_)
    have h := H.out
    have s1 := h.set 2 (.int .i64 m) (cutD d n) rfl (by simp [cutD, c, HM.out]) h.room0 h.room1 H1.out H2.out
    exact ⟨rfl, s1.1, s1.2⟩
def newD (n : Int) : Dk := ⟨[], mx n 0, -1, false⟩
set_option maxHeartbeats 1000000 in
set_option maxRecDepth 100000 in
theorem New_callsX (w : World) (n : Int) (hn : n ≤ 9223372036854775807) : Calls Try.prog 10 #[.int .i64 n] w fun e w' => ∃ p b, e = .returned (.pointer (some ⟨p, 0, none⟩)) ∧ IsDX X 0 w' p b (newD n) ∧ Below w.heap.size w w' ∧ w.heap.size ≤ p ∧ w.heap.size ≤ b := by
  have hu64 := Try.underlying64
  have hmm := @run_makeMap Try.prog
  obtain ⟨m, hm⟩ : ∃ m, mx n 0 = m := ⟨_, rfl⟩
  have hm_ : (if n < 0 then 0 else n) = m := hm
  have h0 : 0 ≤ m := by rw [← hm]; unfold mx; split <;> omega
  have h1 : m ≤ 9223372036854775807 := by rw [← hm]; unfold mx; split <;> omega
  have HM := Aside0.mk hm
  have H0 := Aside0.mk h0
  have H1 := Aside0.mk h1
  clear hm h0 h1 hn
  go_enter Try.func10, Try.ntmps10
  go_wp2
  go_ret
  have hB : Below w.heap.size w (w.alloc (.map #[] 0)) := (Below.refl _ w).alloc (Nat.le_refl _) _
  refine ⟨w.heap.size + 1, w.heap.size, rfl, ⟨?_, ⟨[], ?_, .nil⟩, by decide, ?_, ?_, by show (-1 : Int) ≤ -1; omega, by show (-1 : Int) ≤ _; omega⟩, hB.alloc hB.size _, by omega, Nat.le_refl _⟩
  · have e : newD n = ⟨[], m, -1, false⟩ := by unfold newD; rw [HM.out]
    rw [e]
    simpa using heap_alloc_new (w.alloc (.map #[] 0)) (.cells #[.map (some w.heap.size), .int .i64 m, .int .i64 (-1), .bool false] 64 (0, 0))
  · exact (World.ownsMap_made w Try.prog 9 RF).alloc _
  · show 0 ≤ mx n 0; rw [HM.out]; exact H0.out
  · show mx n 0 ≤ _; rw [HM.out]; exact H1.out
theorem New_calls (w : World) (n : Int) (hn : n ≤ 9223372036854775807) : Calls Try.prog 10 #[.int .i64 n] w fun e w' => ∃ p b, e = .returned (.pointer (some ⟨p, 0, none⟩)) ∧ IsD 0 w' p b (newD n) ∧ Below w.heap.size w w' ∧ w.heap.size ≤ p ∧ w.heap.size ≤ b := New_callsX w n hn
end Go.Proofs.Ytihbgdobicokpaa.D
namespace Go.Proofs.Ytihbgdobicokpaa.D
open Go.RowKit Go.Maps Go.Proofs.Ytihbgdobicokpaa.X Go.Proofs.YtihbgdobicokpaaW.PrintWords Go.Proofs.YtihbgdobicokpaaW.PrintLast Go.Proofs.YtihbgdobicokpaaW.PrintMore
set_option linter.unusedVariables false
set_option linter.unusedSimpArgs false
variable {X : Nat → Prop}
def done (left : Lit → Bool) (fs : List Fl) : Nat := (fs.map fun f => if left (.string f.n) = true then 0 else f.b.length).sum
theorem done_end {left : Lit → Bool} (h : ∀ k, left k = false) (fs : List Fl) : done left fs = total fs := by simp [done, total, h]
theorem done_cons (left : Lit → Bool) (f : Fl) (r : List Fl) : done left (f :: r) = (if left (.string f.n) = true then 0 else f.b.length) + done left r := by simp [done]
theorem done_none (left : Lit → Bool) (x : Nm) : ∀ fs : List Fl, (∀ f ∈ fs, f.n ≠ x) → done (fun z => left z && !z.sameKey (.string x)) fs = done left fs
  | [], _ => rfl
  | f :: r, h => by
    have ih := done_none left x r (fun g hg => h g (List.mem_cons_of_mem _ hg))
    have h1 : f.n ≠ x := h f (List.mem_cons_self ..)
    have e : (Lit.string f.n).sameKey (.string x) = false := by simpa [Lit.sameKey] using h1
    rw [done_cons, done_cons, ih, e]
    simp
theorem done_step (left : Lit → Bool) {x : Nm} (hx : left (.string x) = true) : ∀ {fs : List Fl} {f : Fl}, (fs.map Fl.n).Nodup → look x fs = some f → done (fun z => left z && !z.sameKey (.string x)) fs = done left fs + f.b.length
  | [], _, _, h => by simp [look] at h
  | g :: r, f, hn, h => by
    rw [List.map_cons, List.nodup_cons] at hn
    unfold look at h
    rw [List.find?_cons] at h
    rw [done_cons, done_cons]
    by_cases c : g.n = x
    · have c1 : (g.n == x) = true := by simpa using c
      rw [c1] at h
      cases h
      rw [done_none left x r (fun f hf e => hn.1 (by rw [c, ← e]; exact List.mem_map_of_mem hf))]
      have e : (Lit.string g.n).sameKey (.string x) = true := by simp [Lit.sameKey, c]
      rw [e, c, hx]
      simp
      omega
    · have c1 : (g.n == x) = false := by simpa using c
      rw [c1] at h
      rw [done_step left hx hn.2 h]
      have e : (Lit.string g.n).sameKey (.string x) = false := by simpa [Lit.sameKey] using c
      rw [e]
      simp
      omega
theorem done_start {fs : List Fl} {es : List (Nm × Value)} (h : es.map Prod.fst = fs.map Fl.n) : done (Maps.has (DM es)) fs = 0 := by
  have e : ∀ f ∈ fs, Maps.has (DM es) (.string f.n) = true := fun f hf => by
    have : f.n ∈ es.map Prod.fst := by rw [h]; exact List.mem_map_of_mem hf
    obtain ⟨x, hx, hxe⟩ := List.mem_map.1 this
    exact List.any_eq_true.2 ⟨ent x, List.mem_map_of_mem hx, by simp [ent, Lit.sameKey, hxe]⟩
  unfold done
  have : (fs.map fun f => if Maps.has (DM es) (.string f.n) = true then 0 else f.b.length) = fs.map fun _ => 0 := List.map_congr_left fun f hf => by rw [if_pos (e f hf)]
  rw [this]
  clear this e h
  induction fs with
  | nil => rfl
  | cons f r ih => simpa using ih
theorem IsDX.nodup {N : Nat} {w : World} {p b : Nat} {d : Dk} (h : IsDX X N w p b d) : (d.fs.map Fl.n).Nodup := by
  obtain ⟨es, h1, h2⟩ := h.fs
  obtain ⟨l, e, hp⟩ := h1.tidy keyed9
  cases e
  rw [← h2.names]
  rw [List.pairwise_map] at hp
  rw [List.Nodup, List.pairwise_map]
  exact hp.imp fun {a c} h1 e => h1 (by show Lit.string a.1 = Lit.string c.1; rw [e])
theorem total_le {N : Nat} {w : World} {p b : Nat} {d : Dk} (h : IsDX X N w p b d) : total d.fs ≤ 1048576000000 := by
  obtain ⟨es, h1, h2⟩ := h.fs
  have hl : d.fs.length ≤ N := by
    have := h1.size_le
    rw [DM_size] at this
    have e := congrArg List.length h2.names
    simp at e
    omega
  have hb : ∀ f ∈ d.fs, f.b.length ≤ 1048576 := by
    clear hl h1 h
    generalize d.fs = fs at h2
    induction h2 with
    | nil => simp
    | cons hh _ ih =>
      intro f hf
      rcases List.mem_cons.1 hf with rfl | hf
      · obtain ⟨_, sl, _, _, _, _, _, h⟩ := hh; exact h
      · exact ih f hf
  have hs : ∀ l : List Fl, (∀ f ∈ l, f.b.length ≤ 1048576) → total l ≤ l.length * 1048576 := by
    intro l
    induction l with
    | nil => simp [total]
    | cons f r ih =>
      intro hl
      have := ih (fun g hg => hl g (List.mem_cons_of_mem _ hg))
      have h1 := hl f (List.mem_cons_self ..)
      unfold total at this ⊢
      simp only [List.map_cons, List.sum_cons, List.length_cons]
      omega
  have := hs d.fs hb
  have := h.small
  have : d.fs.length * 1048576 ≤ 1000000 * 1048576 := Nat.mul_le_mul_right _ (by omega)
  omega
theorem done_le (left : Lit → Bool) : ∀ fs : List Fl, done left fs ≤ total fs
  | [] => Nat.le_refl _
  | f :: r => by
    have := done_le left r
    unfold done total at this ⊢
    simp only [List.map_cons, List.sum_cons]
    split <;> omega
set_option maxRecDepth 100000 in
set_option maxHeartbeats 1000000 in
theorem Used_calls {N : Nat} {w : World} {p b : Nat} {d : Dk} (h : IsDX X N w p b d) : Calls Try.prog 19 #[.pointer (some ⟨p, 0, none⟩)] w fun e w' => e = .returned (.int .i64 (total d.fs)) ∧ Below w.heap.size w w' := by
  obtain ⟨hc0, hc1, hc2, hc3⟩ := h.cells
  have hnd := h.nodup
  have htl := total_le h
  obtain ⟨es, hown, hfs⟩ := h.fs
  have HND := Aside0.mk hnd
  have HTL := Aside0.mk htl
  have HFS := Aside0.mk hfs
  clear hnd htl hfs h
  go_enter Try.func19, Try.ntmps19
  go_wp2_with (first
    | (at_range; refine wpList_range_own _ rfl _ 62 rfl 9 67 keyed9 Try.underlying62 _ b N _ rfl hown ?_; intro w0 hrg0 hg0 hs0)
    | go_in)
  go_frame
  go_loopw [3] (fun v wr => ∃ (left : Lit → Bool) (cnt : Nat), v = .int .i64 (done left d.fs) ∧ wr.ranges Try.prog 9 RF b w.heap.size N (DM es) left cnt ∧ Hid (w.grownBy wr none))
    (fun _ wr => wr.rangeLeft b w.heap.size)
  case atStart => exact ⟨_, _, by rw [done_start HFS.out.names]; rfl, hrg0, hg0⟩
  case round =>
    obtain ⟨left, cnt, rfl, hrg, hgw⟩ := hrel
    go_wp2_with (first
      | (at_next; refine wpList_next_ranges _ rfl _ rfl 9 keyed9 RF encStr (fun q : Option Addr × Nat × Nat × Int => Value.agg #[.slice q.1 q.2.1 q.2.2.1, .int .i64 q.2.2.2]) (fun key kl h => by obtain ⟨x, hx, _⟩ := Maps.keyOf_str Try.underlying9 h; exact ⟨x, hx⟩) (fun v y h => by obtain ⟨⟨A, n, c, s, hv⟩, _⟩ := RF_inv h; exact ⟨(A, n, c, s), hv⟩) b w.heap.size N _ _ _ rfl hrg ?_ ?_)
      | go_in)
    · intro _ hl0
      rw [done_end hl0]
      go_wp2
      go_ret
      exact ⟨rfl, ⟨hgw.out.os, hgw.out.tape, hgw.out.output, hgw.out.size, fun k hk => hgw.out.block k hk (by simp)⟩⟩
    · intro x A n c s kl y1 y2 w1 cnt1 hkey hlx hv hat hrg1 hlt hg1 hs1 hen
      obtain ⟨x', ex, rfl, _⟩ := Maps.keyOf_str Try.underlying9 hkey
      obtain rfl := encStr_inj ex
      have hgw1 := hgw.out.andThen hg1 (fun j hj => by cases hj; exact Or.inl (Nat.le_refl _))
      have hnew : (done left d.fs : Int) + n = (done (fun z => left z && !z.sameKey (.string x)) d.fs : Int) ∧ wrap64 ((done left d.fs : Int) + n) = (done left d.fs : Int) + n := by
        obtain ⟨_, hy⟩ := RF_inv hv
        cases hy
        have h0 := hat (.held (.agg #[.slice none 0 0, .int .i64 0]))
        have h1 := hat (.held (.agg #[.slice none 0 0, .int .i64 1]))
        rw [DM_at] at h0 h1
        rcases HFS.out.look x with ⟨g1, g2⟩ | ⟨e, f, g1, g2, g3, sl, g4, g5, _⟩
        · simp only [elemOf, g1, DataW.held.injEq] at h0 h1
          rw [← h0] at h1
          simp at h1
        · simp only [elemOf, g1, DataW.held.injEq] at h0
          rw [g4] at h0
          simp at h0
          obtain ⟨rfl, rfl⟩ := h0
          have hn : n = f.b.length := by rcases g5 with ⟨g6, g7⟩ | ⟨_, _, _, g6, _⟩; · cases g6; rw [g7]; rfl
                                         · cases g6; rfl
          have hst := done_step left hlx HND.out g2
          have hle := done_le (fun z => left z && !z.sameKey (.string x)) d.fs
          have htl := HTL.out
          subst hn
          refine ⟨by rw [hst]; simp, ?_⟩
          unfold wrap64
          omega
      obtain ⟨hnew1, hnew2⟩ := hnew
      have HN1 := Aside0.mk hnew1
      have HG1 := Aside0.mk hgw1
      clear hnew1 hgw1 hgw hkey hv hat hg1 hs1 ex
      go_wp2
      go_roundw
      case rel => exact ⟨_, _, by rw [hnew2, HN1.out], hrg1.alloc _, HG1.out.andThen (World.grownBy_alloc w1 _ none) (fun j hj => by cases hj)⟩
      case measure => rw [(hrg1.alloc _).left_eq, hrg.left_eq]; exact hlt
end Go.Proofs.Ytihbgdobicokpaa.D
namespace Go.Proofs.Ytihbgdobicokpaa.D
open Go.RowKit Go.Maps Go.Proofs.Ytihbgdobicokpaa.X Go.Proofs.YtihbgdobicokpaaW.PrintWords Go.Proofs.YtihbgdobicokpaaW.PrintLast Go.Proofs.YtihbgdobicokpaaW.PrintMore
set_option linter.unusedVariables false
set_option linter.unusedSimpArgs false
variable {X : Nat → Prop}
theorem RF_mk (A : Option Addr) (n c : Nat) (s : Int) : RF (.agg #[.slice A n c, .int .i64 s]) = some (.held (.agg #[.slice A n c, .int .i64 s]), []) := rfl
theorem Fr.of_turned {w w' : World} {b p : Nat} (h : w.mapTurned w' b) : Fr (fun k => k = b) w w' := by
  have g := h.grown
  exact ⟨g.os, g.tape, g.output, g.size, fun k hk hn => g.block k hk (fun e => hn (by cases e; rfl))⟩
theorem Fr.two {w w' : World} {b p : Nat} (h : Fr (fun k => k = b) w w') : Fr (Two p b) w w' := h.mono (fun k _ e => Or.inr e)
theorem IsDX.turn {N N' : Nat} {w w' : World} {p b : Nat} {d : Dk} (h : IsDX X N w p b d) (hf : Fr (fun k => k = b) w w') (fs : List Fl) (es : List (Nm × Value)) (ho : w'.ownsMap Try.prog 9 RF b N' (DM es)) (hN : N' ≤ 1000000) (hfs : HasFX X w es fs) : IsDX X N' w' p b { d with fs := fs } :=
  ⟨(hf.block p h.lt h.ne).trans h.at_, ⟨es, ho, hfs.fr hf (fun k hk e => h.two k hk (Or.inr e))⟩, hN, h.room0, h.room1, h.cut0, h.cut1⟩
theorem IsDX.del_ {N : Nat} {w : World} {p b : Nat} {d : Dk} (h : IsDX X N w p b d) {nm : ByteArray} (hn : nm.size ≤ maxLen) (ty : TypeId) :
    ∃ w', (Builtin.delete_ #[62, 9] ty #[.map (some b), .string nm]).run Try.prog w = .ok (.tuple #[]) w' ∧ IsDX X N w' p b { d with fs := out Fl.n nm.data.toList d.fs } ∧ Fr (Two p b) w w' := by
  obtain ⟨es, h1, h2⟩ := h.fs
  obtain ⟨w', hrun, ho, ht⟩ := h1.drop keyed9 Try.underlying62 (IsDX.key hn) ty
  have hf := Fr.of_turned (p := p) ht
  rw [DM_del] at ho
  exact ⟨w', hrun, h.turn hf _ _ ho h.small (HasFX.out _ h2), hf.two⟩
theorem IsDX.put_ {N : Nat} {w : World} {p b : Nat} {d : Dk} (h : IsDX X N w p b d) {nm : ByteArray} (hn : nm.size ≤ maxLen) (hN : N < 1000000) {A : Option Addr} {n c : Nat} {s : Int} {f : Fl} (hf : IsFX X w (.agg #[.slice A n c, .int .i64 s]) f) (hnm : f.n = nm.data.toList) :
    ∃ w', (Instr.mapUpdate 62 (.map (some b)) (.string nm) (.agg #[.slice A n c, .int .i64 s])).run Try.prog w = .ok () w' ∧ IsDX X (N + 1) w' p b { d with fs := put Fl.n f d.fs } ∧ Fr (Two p b) w w' := by
  obtain ⟨es, h1, h2⟩ := h.fs
  obtain ⟨w', hrun, ho, ht⟩ := h1.store keyed9 Try.underlying62 (by unfold maxLen; have := h.small; omega) (IsDX.key hn) (RF_mk A n c s)
  have hfr := Fr.of_turned (p := p) ht
  rw [DM_put] at ho
  exact ⟨w', hrun, h.turn hfr _ _ ho hN (HasFX.put (e := (nm.data.toList, _)) ⟨hnm.symm, hf⟩ h2), hfr.two⟩
theorem IsB.below {w w' : World} {v : Value} {bs : List Int} (h : IsB w v bs) (hb : Below w.heap.size w w') : IsB w' v bs := h.fr (M := fun _ => False) (Fr.of_below hb) (fun _ _ h => h.elim)
def delD (d : Dk) (n : Nm) : Int × Dk := if isE d n = 0 then (0, doneD { d with fs := out Fl.n n d.fs }) else (isE d n, d)
set_option maxHeartbeats 1000000 in
set_option maxRecDepth 100000 in
theorem Delete_calls {N : Nat} {w : World} {p b : Nat} {d : Dk} (h : IsDX X N w p b d) {nm : ByteArray} (hn : nm.size ≤ maxLen) : Calls Try.prog 20 #[.pointer (some ⟨p, 0, none⟩), .string nm] w fun e w' => e = .returned (.int .i64 (delD d nm.data.toList).1) ∧ IsDX X N w' p b (delD d nm.data.toList).2 ∧ Fr (Two p b) w w' := by
  have K1 := is_calls h hn
  unfold delD
  by_cases c : isE d nm.data.toList = 0
  · rw [if_pos c]
    rw [c] at K1
    have H := Aside0.mk h
    clear h
    go_enter Try.func20, Try.ntmps20
    go_wp2_with (first
      | (go_at_call 43; refine K1.mono ?_; rintro e w1 ⟨rfl, hb1⟩; have hd1 := H.out.below hb1; obtain ⟨hc0, _⟩ := hd1.cells; obtain ⟨w2, hrun, hd2, hf2⟩ := hd1.del_ hn 0; have HD2 := Aside0.mk hd2; have HF2 := Aside0.mk hf2; have HB1 := Aside0.mk hb1; clear hd1 hd2 hf2 hb1)
      | (go_at_call 42; refine (done_calls HD2.out).mono ?_; rintro e w3 ⟨rfl, hd3, hf3⟩))
    go_ret
    exact ⟨rfl, hd3, (Fr.of_below HB1.out).trans (HF2.out.trans hf3)⟩
  · rw [if_neg c]
    generalize isE d nm.data.toList = E at *
    have c1 : (E == 0) = false := by simpa using c
    have c2 : (E != 0) = true := by simpa using c
    have H := Aside0.mk h
    clear h
    go_enter Try.func20, Try.ntmps20
    go_wp2_with (go_at_call 43; refine K1.mono ?_; rintro e w1 ⟨rfl, hb1⟩)
    go_ret
    exact ⟨rfl, H.out.below hb1, Fr.of_below hb1⟩
theorem Clone_calls {w : World} {A : Option Addr} {c : Nat} {bs : List Int} (hC : Kd.C (Kd.int .u8) w A bs.length bs) (hbig : bs.length ≤ 140737488355328) :
    Calls Try.prog 41 #[.slice A bs.length c] w fun e w' => ∃ v', e = .returned v' ∧ w'.ownsRow w.heap.size 5 1 v' bs.length (bs.map (Value.int .u8)) ∧ Below w.heap.size w w' := by
  cases A with
  | none =>
    have h0 : bs = [] := by
      cases bs with
      | nil => rfl
      | cons x r => obtain ⟨ad, e, _⟩ := hC.2.2 (by simp); cases e
    subst h0
    refine (Try.bytes_Clone_nil 0 c w).mono ?_
    rintro e w' ⟨rfl, rfl⟩
    exact ⟨_, rfl, own_nil _ _ _ _, Below.refl _ _⟩
  | some a =>
    refine (Try.bytes_Clone_at a bs.length c bs w rfl hbig ?_).mono ?_
    · intro i hi
      obtain ⟨ad, e, hc⟩ := hC.2.2 (by omega)
      cases e
      obtain ⟨cs, h1, h2, h3⟩ := hc i bs[i] (List.getElem?_eq_getElem hi)
      have h2 : cs = [.int .u8 bs[i]] := h2
      subst h2
      have := h3 0 _ rfl
      simp only [Kd.int, Kd.scalar, Nat.mul_one, Nat.add_zero] at this
      rw [this]
      simp [List.getD, List.getElem?_eq_getElem hi]
    · rintro e w' ⟨v', rfl, h1, _, h2⟩
      exact ⟨v', rfl, h1, h2⟩
theorem fld67 (A : Option Addr) (n c : Nat) (s : Int) (w : World) : (Instr.field 67 (.agg #[.slice A n c, .int .i64 s]) 0).run Try.prog w = .ok (.slice A n c) w := by
  simp [Instr.field, run_underlying Try.underlying67, Result.andThen, Try.isAgg23, part, asAgg, go_sem]
def rdD (d : Dk) (n : Nm) : List Int × Int := if isE d n = 0 then ((got n d.fs).1, 0) else ([], isE d n)
set_option maxHeartbeats 1000000 in
set_option maxRecDepth 100000 in
theorem Read_calls {N : Nat} {w : World} {p b : Nat} {d : Dk} (h : IsDX X N w p b d) {nm : ByteArray} (hn : nm.size ≤ maxLen) : Calls Try.prog 15 #[.pointer (some ⟨p, 0, none⟩), .string nm] w fun e w' => ∃ v, e = .returned (.tuple #[v, .int .i64 (rdD d nm.data.toList).2]) ∧ w'.ownsRow w.heap.size 5 1 v (rdD d nm.data.toList).1.length ((rdD d nm.data.toList).1.map (Value.int .u8)) ∧ Below w.heap.size w w' := by
  have K1 := is_calls h hn
  have hfld := fld67
  unfold rdD
  by_cases c : isE d nm.data.toList = 0
  · rw [if_pos c]
    rw [c] at K1
    have H := Aside0.mk h
    clear h
    go_enter Try.func15, Try.ntmps15
    go_wp2_with (first
      | (go_at_call 43; refine K1.mono ?_; rintro e w1 ⟨rfl, hb1⟩; have hd1 := H.out.below hb1; obtain ⟨hc0, _⟩ := hd1.cells; obtain ⟨sl, hrun, hsl, _⟩ := hd1.lk hn; obtain ⟨A, cp, rfl, hcp, hC⟩ := hsl.reads; have HC := Aside0.mk hC; have HL := Aside0.mk hsl.len; have HB1 := Aside0.mk hb1; clear hd1 hsl hb1 hC)
      | (go_at_call 41; refine (Clone_calls HC.out HL.out).mono ?_; rintro e w2 ⟨v', rfl, ho2, hb2⟩))
    go_ret2
    exact ⟨v', rfl, own_weaken ho2 HB1.out.size, HB1.out.trans (hb2.mono HB1.out.size)⟩
  · rw [if_neg c]
    generalize isE d nm.data.toList = E at *
    have c1 : (E == 0) = false := by simpa using c
    have c2 : (E != 0) = true := by simpa using c
    go_enter Try.func15, Try.ntmps15
    go_wp2_with (go_at_call 43; refine K1.mono ?_; rintro e w1 ⟨rfl, hb1⟩)
    go_ret2
    exact ⟨_, rfl, own_nil _ _ _ _, hb1⟩
def names (fs : List Fl) : List Nm := fs.map Fl.n
def lsD (d : Dk) : List Nm := if d.dead = true then [] else names d.fs
theorem bytes_lt {a b : List UInt8} (h : bytesBefore a b = true) : a < b := by
  induction a generalizing b with
  | nil => cases b with
    | nil => simp [bytesBefore] at h
    | cons y s => exact List.nil_lt_cons ..
  | cons x r ih => cases b with
    | nil => simp [bytesBefore] at h
    | cons y s =>
      simp only [bytesBefore, Bool.or_eq_true, Bool.and_eq_true, decide_eq_true_eq, beq_iff_eq] at h
      rcases h with h | ⟨rfl, h⟩
      · exact List.Lex.rel h
      · exact List.Lex.cons (ih h)
theorem IsDX.sorted {N : Nat} {w : World} {p b : Nat} {d : Dk} (h : IsDX X N w p b d) : (names d.fs).Pairwise (fun a c => bytesBefore a c = true) := by
  obtain ⟨es, ⟨mes, clock, _, F, _, e⟩, h2⟩ := h.fs
  have hs := sorted_sorted keyed9.one _ (Maps.fit_keys F) (Maps.fit_apart keyed9 F)
  rw [← DataW.map.inj e] at hs
  unfold names
  rw [← h2.names, List.pairwise_map]
  exact (List.pairwise_map.1 hs)
theorem sort_names {l ss : List Nm} (h : l.Pairwise (fun a c => bytesBefore a c = true)) (hp : ss.Perm l) : (ss.mergeSort fun x y => decide (x ≤ y)) = l := by
  have e := mergeSort_of_perm hp
  unfold leB at e
  rw [e]
  exact List.mergeSort_of_pairwise (h.imp fun hh => by simpa using List.le_of_lt (bytes_lt hh))
theorem names_len {N : Nat} {w : World} {p b : Nat} {d : Dk} (h : IsDX X N w p b d) : d.fs.length ≤ N := by
  obtain ⟨es, h1, h2⟩ := h.fs
  have := h1.size_le
  rw [DM_size] at this
  have e := congrArg List.length h2.names
  simp at e
  omega
open Go.Proofs in
set_option maxHeartbeats 1000000 in
set_option maxRecDepth 100000 in
theorem List_calls {N : Nat} {w : World} {p b : Nat} {d : Dk} (h : IsDX X N w p b d) : Calls Try.prog 17 #[.pointer (some ⟨p, 0, none⟩)] w fun e w' => ∃ v, e = .returned v ∧ w'.ownsRow w.heap.size 9 1 v (lsD d).length ((lsD d).map encStr) ∧ Below w.heap.size w w' := by
  obtain ⟨hc0, hc1, hc2, hc3⟩ := h.cells
  have hs := h.sorted
  have hnl := names_len h
  have hsm := h.small
  obtain ⟨es, hown, hfs⟩ := h.fs
  have hnm := hfs.names
  have hle : es.length ≤ N := by have := congrArg List.length hnm; simp at this; omega
  have hmax : Maps.size (DM es) ≤ maxLen := by rw [DM_size]; unfold maxLen; omega
  have hbytes : Maps.size (DM es) * 16 ≤ 140737488355328 := by rw [DM_size]; omega
  have HS := Aside0.mk hs
  have HNM := Aside0.mk hnm
  unfold lsD
  cases c : d.dead with
  | true =>
    rw [c] at hc3
    clear hown hfs h hs hnm hle hnl hsm hmax hbytes
    go_enter Try.func17, Try.ntmps17
    go_wp2
    go_ret
    exact ⟨_, rfl, own_nil _ _ _ _, Below.refl _ _⟩
  | false =>
    rw [c] at hc3
    clear hfs h hs hnm hle hnl hsm
    refine (callsIn_wide (n := 6)).1 ?_
    have hfK : Fence.wide.fn 45 := trivial
    have hfS : Fence.wide.fn 44 := trivial
    refine callsIn_of_wp Try.func17 rfl trivial ?_ rfl
    simp only [Try.ntmps17, List.size_toArray, List.length_cons, List.length_nil, Nat.reduceAdd, Nat.reduceSub, Array.replicate_succ, Array.replicate_zero, List.push_toArray, List.append_toArray, List.nil_append, List.cons_append]
    gi_wp2_with (first
      | (gi_at_call 45; refine (Try.maps_Keys_45 _ _).mono ?_; rintro e w' ⟨rfl, rfl⟩)
      | (gi_at_call 44; refine (Try.slices_Sorted_keys_44_45 b N (DM es) RF w hown hmax hbytes).mono ?_; rintro e w' ⟨v, ss, rfl, hS, hrow, hnil, hb⟩))
    go_ret
    rw [DM_keys, HNM.out] at hS
    rw [sort_names HS.out hS] at hrow
    have e : ss.length = (names d.fs).length := hS.length_eq
    refine ⟨v, rfl, ?_, ((Below.refl _ w).alloc (Nat.le_refl _) _).trans (hb.mono (by simp))⟩
    rw [← e]
    exact own_weaken hrow (by simp)
set_option maxHeartbeats 1000000 in
set_option maxRecDepth 100000 in
theorem Copy_calls {N : Nat} {w : World} {p b : Nat} {d : Dk} (h : IsDX X N w p b d) : Calls Try.prog 24 #[.pointer (some ⟨p, 0, none⟩)] w fun e w' => ∃ p' b', e = .returned (.pointer (some ⟨p', 0, none⟩)) ∧ IsDX X N w' p' b' d ∧ Below w.heap.size w w' ∧ w.heap.size ≤ p' ∧ w.heap.size ≤ b' := by
  obtain ⟨hc0, hc1, hc2, hc3⟩ := h.cells
  have hu64 := Try.underlying64
  obtain ⟨es, hown, hfs⟩ := h.fs
  have H := Aside0.mk h
  have HO := Aside0.mk hown
  have HFS := Aside0.mk hfs
  clear h hown hfs
  have hca : ∀ o, (w.alloc o).cell? ⟨p, 0, none⟩ = some (.map (some b)) := fun o => Lib.cell?_alloc_some _ hc0
  go_enter Try.func24, Try.ntmps24
  go_wp2_with (go_at_call 46; refine (Try.maps_Clone_46 9 RF b N (DM es) _ (HO.out.alloc _)).mono ?_; rintro e w1 ⟨rfl, ho1, _, hb1⟩; have hblk := (hb1.block w.heap.size (by simp)).trans (heap_alloc_new w _); have hcw := (blk_cell hblk 0).trans rfl; have hfw := blk_frozen hblk 0)
  go_ret
  have h := H.out
  have hB1 : Below w.heap.size w (w.alloc (.cells #[.map (some b), .int .i64 d.room, .int .i64 d.cut, .bool d.dead] 64 (0, 0))) := (Below.refl _ w).alloc (Nat.le_refl _) _
  have hB2 : Below w.heap.size w w1 := hB1.trans (hb1.mono hB1.size)
  have hB3 := hB2.setCell (p := ⟨w.heap.size, 0, none⟩) (Nat.le_refl _) (.map (some (w.heap.size + 1)))
  have hsz : (w.alloc (.cells #[.map (some b), .int .i64 d.room, .int .i64 d.cut, .bool d.dead] 64 (0, 0))).heap.size = w.heap.size + 1 := by simp
  rw [hsz] at ho1
  refine ⟨w.heap.size, w.heap.size + 1, rfl, ⟨?_, ⟨es, ho1.setCell (a := ⟨w.heap.size, 0, none⟩) (by show w.heap.size + 1 ≠ w.heap.size; omega) _, ?_⟩, h.small, h.room0, h.room1, h.cut0, h.cut1⟩, hB3, Nat.le_refl _, by omega⟩
  · exact blk_set hblk 0 _
  · exact HFS.out.fr (M := fun _ => False) (Fr.of_below hB3) (fun _ _ h => h.elim)
theorem IsB.agg {w : World} {v : Value} {bs : List Int} (h : IsB w v bs) : ∃ A c, v = .slice A bs.length c := by obtain ⟨A, c, h, _⟩ := h.slice; exact ⟨A, c, h⟩
end Go.Proofs.Ytihbgdobicokpaa.D
namespace Go.Proofs.Ytihbgdobicokpaa.D
open Go.RowKit Go.Maps Go.Proofs.Ytihbgdobicokpaa.X Go.Proofs.YtihbgdobicokpaaW.PrintWords Go.Proofs.YtihbgdobicokpaaW.PrintLast Go.Proofs.YtihbgdobicokpaaW.PrintMore
attribute [local go_sem] max2_int min2_int max_two min_two max_three min_three max_four min_four   -- for this text's walks alone
set_option linter.unusedVariables false
set_option linter.unusedSimpArgs false
def Dsync.T5 : Bool × List (List Nat × List Nat) := (true, [([], []), ([0], [0]), ([1], [1]), ([2], [2]), ([], []), ([], []), ([5], [5]), ([], []), ([7], [7]), ([8], [8]), ([6, 9], [6, 9]), ([3, 4, 10, 0, 1, 2, 3, 4, 5, 6, 7, 8, 9, 10], [3, 4, 10])])
def Dsync.B5 : List Nat := [0, 1, 3, 7, 0, 0, 32, 0, 128, 384, 992, 2047]
theorem Dsync.tab5 : rtab .any (opsOf Try.f12 5) = Dsync.T5 := by kernel_rfl
theorem Dsync.bits5 : waitsOk Dsync.T5.2 Dsync.B5 = true := by kernel_rfl
theorem below_drawn {w w0 w1 : World} (h : Below w.heap.size w w0) (k : Drawn0 w0 w1) : Below w.heap.size w w1 := by
  obtain ⟨m, rfl⟩ := k
  exact pw_below_drewN h m
def syD (d : Dk) (n : Nm) : Int × Dk := if isE d n = 0 then (0, doneD { d with fs := put Fl.n ⟨n, (got n d.fs).1, (got n d.fs).1.length⟩ d.fs }) else (isE d n, d)
set_option maxHeartbeats 1000000 in
set_option maxRecDepth 100000 in
theorem Sync_calls {N : Nat} {w : World} {p b : Nat} {d : Dk} (h : IsD N w p b d) (hN : N < 1000000) {nm : ByteArray} (hn : nm.size ≤ maxLen) : Calls Try.prog 12 #[.pointer (some ⟨p, 0, none⟩), .string nm] w fun e w' => e = .returned (.int .i64 (syD d nm.data.toList).1) ∧ IsD (N + 1) w' p b (syD d nm.data.toList).2 ∧ Fr (Two p b) w w' := by
  have K1 := is_calls h hn
  unfold syD
  obtain ⟨bs, s, hgot⟩ : ∃ bs s, got nm.data.toList d.fs = (bs, s) := ⟨_, _, rfl⟩
  by_cases c : isE d nm.data.toList = 0
  · rw [if_pos c]
    rw [c] at K1
    rw [hgot]
    have hu67 := Try.underlying67
    have H := Aside0.mk h
    clear h
    go_enter Try.func12, Try.ntmps12
    go_wp2_with (first
      | (go_at_call 43; refine K1.mono ?_; rintro e w1 ⟨rfl, hb1⟩; have hd1 := H.out.below hb1; obtain ⟨hc0, _⟩ := hd1.cells; obtain ⟨sl, hrun, hsl, _, _, hmx⟩ := hd1.lk hn; rw [hgot] at hrun hsl hmx; obtain ⟨A, cp, rfl⟩ := hsl.agg; have HSL := Aside0.mk hsl; have HMX := Aside0.mk hmx; have HB1 := Aside0.mk hb1; have HD1 := Aside0.mk hd1; clear hd1 hsl hb1 hmx)
      | fail)
    refine start_ (n := 12) (S := fun w' => w'.cell? ⟨p, 0, none⟩ = some (.map (some b)) ∧ w'.cell? ⟨w1.heap.size, 0, none⟩ = some (.slice A bs.length cp)) (ds := [11]) #[false, false, false, false, false, false, false, false, false, false, false, false] (by kernel_rfl) rfl rfl ⟨Lib.cell?_alloc_some _ HD1.out.cells.1, (blk_cell (heap_alloc_new w1 _) 0).trans rfl⟩ (fun hHeld => ?_); refine with_tabW Dsync.tab5 Dsync.bits5 (fun HT_ HW_ => ?_)
    have HDd := Aside0.mk (HD1.out.below ((Below.refl w1.heap.size w1).alloc (Nat.le_refl _) (.cells #[.slice A bs.length cp, .int .i64 s] 67)).drew)
    have HSd := Aside0.mk (HSL.out.below ((Below.refl w1.heap.size w1).alloc (Nat.le_refl _) (.cells #[.slice A bs.length cp, .int .i64 s] 67)).drew)
    have HBd := Aside0.mk ((HB1.out.alloc HB1.out.size (.cells #[.slice A bs.length cp, .int .i64 s] 67)).drew)
    clear HD1 HSL HB1 hc0 hrun
    generalize World.drew _ = w3 at HDd HSd HBd hHeld ⊢
    refine pure_ (i := 0) (N := some 19) (v := ?_) (a' := ?_) #[true, false, false, false, false, false, false, false, false, false, false, false] rfl rfl (any_of HT_.out (by kernel_rfl)) (fun _ _ _ h => h) (Or.inl ⟨by rfl, ?_⟩) ?_ ?_
    rotate_left
    · intro w'
      go_simp
      with_reducible rfl
    rotate_left
    · simp only [Act.put, List.setIfInBounds_toArray, List.set_cons_zero, List.set_cons_succ, i64_w, i32_w]
      rfl
    refine pure_ (i := 1) (N := some 20) (v := ?_) (a' := ?_) #[true, true, false, false, false, false, false, false, false, false, false, false] rfl rfl (any_of HT_.out (by kernel_rfl)) (fun _ _ _ h => h) (Or.inl ⟨by rfl, ?_⟩) ?_ ?_
    rotate_left
    · intro w'
      go_simp
      with_reducible rfl
    rotate_left
    · simp only [Act.put, List.setIfInBounds_toArray, List.set_cons_zero, List.set_cons_succ, i64_w, i32_w]
      rfl
    refine pure_ (i := 2) (N := some 21) (v := ?_) (a' := ?_) #[true, true, true, false, false, false, false, false, false, false, false, false] rfl rfl (any_of HT_.out (by kernel_rfl)) (fun _ _ _ h => h) (Or.inl ⟨by rfl, ?_⟩) ?_ ?_
    rotate_left
    · intro w'
      go_simp
      with_reducible rfl
    rotate_left
    · simp only [Act.put, List.setIfInBounds_toArray, List.set_cons_zero, List.set_cons_succ, i64_w, i32_w]
      rfl
    refine take_ (i := 3) (N := some 22) (v := ?_) (a' := ?_) #[true, true, true, true, false, false, false, false, false, false, false, false] rfl rfl (take_ofW HT_.out HW_.out (by kernel_rfl)) (fun _ _ _ h => h) (Or.inl ⟨by rfl, ?_⟩) hHeld ?_ ?_
    rotate_left
    · rintro w' ⟨s0, s1⟩
      go_simp
      with_reducible rfl
    rotate_left
    · simp only [Act.put, List.setIfInBounds_toArray, List.set_cons_zero, List.set_cons_succ, i64_w, i32_w]
      rfl
    refine pure_ (i := 4) (N := some 23) (v := ?_) (a' := ?_) #[true, true, true, true, true, false, false, false, false, false, false, false] rfl rfl (any_of HT_.out (by kernel_rfl)) (fun _ _ _ h => h) (Or.inl ⟨by rfl, ?_⟩) ?_ ?_
    rotate_left
    · intro w'
      go_simp
      with_reducible rfl
    rotate_left
    · simp only [Act.put, List.setIfInBounds_toArray, List.set_cons_zero, List.set_cons_succ, i64_w, i32_w]
      rfl
    refine pure_ (i := 5) (N := some 24) (v := ?_) (a' := ?_) #[true, true, true, true, true, true, false, false, false, false, false, false] rfl rfl (any_of HT_.out (by kernel_rfl)) (fun _ _ _ h => h) (Or.inl ⟨by rfl, ?_⟩) ?_ ?_
    rotate_left
    · intro w'
      go_simp
      with_reducible rfl
    rotate_left
    · simp only [Act.put, List.setIfInBounds_toArray, List.set_cons_zero, List.set_cons_succ, i64_w, i32_w]
      rfl
    refine take_ (i := 6) (N := some 25) (v := ?_) (a' := ?_) #[true, true, true, true, true, true, true, false, false, false, false, false] rfl rfl (take_ofW HT_.out HW_.out (by kernel_rfl)) (fun _ _ _ h => h) (Or.inl ⟨by rfl, ?_⟩) hHeld ?_ ?_
    rotate_left
    · rintro w' ⟨s0, s1⟩
      go_simp
      with_reducible rfl
    rotate_left
    · simp only [Act.put, List.setIfInBounds_toArray, List.set_cons_zero, List.set_cons_succ, i64_w, i32_w]
      rfl
    refine pure_ (i := 7) (N := some 26) (v := ?_) (a' := ?_) #[true, true, true, true, true, true, true, true, false, false, false, false] rfl rfl (any_of HT_.out (by kernel_rfl)) (fun _ _ _ h => h) (Or.inl ⟨by rfl, ?_⟩) ?_ ?_
    rotate_left
    · intro w'
      go_simp
      with_reducible rfl
    rotate_left
    · simp only [Act.put, List.setIfInBounds_toArray, List.set_cons_zero, List.set_cons_succ, i64_w, i32_w]
      rfl
    refine take_ (i := 8) (N := some 27) (v := ?_) (a' := ?_) #[true, true, true, true, true, true, true, true, true, false, false, false] rfl rfl (take_ofW HT_.out HW_.out (by kernel_rfl)) (fun _ _ _ h => h) (Or.inl ⟨by rfl, ?_⟩) hHeld ?_ ?_
    rotate_left
    · rintro w' ⟨s0, s1⟩
      go_simp
      with_reducible rfl
    rotate_left
    · simp only [Act.put, List.setIfInBounds_toArray, List.set_cons_zero, List.set_cons_succ, i64_w, i32_w]
      rfl
    refine pure_ (i := 9) (N := some 28) (v := ?_) (a' := ?_) #[true, true, true, true, true, true, true, true, true, true, false, false] rfl rfl (any_of HT_.out (by kernel_rfl)) (fun _ _ _ h => h) (Or.inl ⟨by rfl, ?_⟩) ?_ ?_
    rotate_left
    · intro w'
      go_simp
      with_reducible rfl
    rotate_left
    · simp only [Act.put, List.setIfInBounds_toArray, List.set_cons_zero, List.set_cons_succ, i64_w, i32_w]
      rfl
    refine pure_ (i := 10) (N := some 29) (v := ?_) (a' := ?_) #[true, true, true, true, true, true, true, true, true, true, true, false] rfl rfl (any_of HT_.out (by kernel_rfl)) (fun _ _ _ h => h) (Or.inl ⟨by rfl, ?_⟩) ?_ ?_
    rotate_left
    · intro w'
      go_simp
      with_reducible rfl
    rotate_left
    · simp only [Act.put, List.setIfInBounds_toArray, List.set_cons_zero, List.set_cons_succ, i64_w, i32_w]
      rfl
    obtain ⟨w4, hrun4, hd4, hf4⟩ := HDd.out.put_ hn hN (f := ⟨nm.data.toList, bs, bs.length⟩) ⟨_, rfl, HSd.out, Av.none, Int.natCast_nonneg _, Int.le_refl _, HMX.out⟩ rfl
    refine last_ (i := 11) (N := none) #[true, true, true, true, true, true, true, true, true, true, true, true] rfl rfl (one_of HT_.out (by kernel_rfl)) (by decide) (fun K hK => ?_)
    refine skip_ (w1 := w4) (by rfl) rfl ?_ ?_
    · go_simp
      first | done | simp [hrun4, Result.andThen]
    refine hK.out _ _ ?_
    clear hK K
    have HD2 := Aside0.mk hd4
    have HF2 := Aside0.mk ((Fr.of_below HBd.out).trans hf4)
    clear hd4 hf4 hrun4 HDd HSd HBd
    refine done_ (done_of HT_.out (by kernel_rfl)) ?_
    go_wp2_with (go_at_call 42; refine (done_calls HD2.out).mono ?_; rintro e w5 ⟨rfl, hd5, hf5⟩)
    go_ret
    exact ⟨rfl, hd5, HF2.out.trans hf5⟩
  · rw [if_neg c]
    generalize isE d nm.data.toList = E at *
    have c1 : (E == 0) = false := by simpa using c
    have c2 : (E != 0) = true := by simpa using c
    have H := Aside0.mk h
    clear h
    go_enter Try.func12, Try.ntmps12
    go_wp2_with (go_at_call 43; refine K1.mono ?_; rintro e w1 ⟨rfl, hb1⟩)
    go_ret
    exact ⟨rfl, (H.out.below hb1).mono (by omega) (by omega), Fr.of_below hb1⟩
def nmOk (n : Nm) : Bool := decide (1 ≤ n.length) && decide (n.length ≤ 32)
theorem name_f {nm : ByteArray} (hn : nm.size ≤ maxLen) : disk_name.f nm = some (nmOk nm.data.toList) := by
  unfold disk_name.f nmOk
  rw [ByteArray.toList_eq]
  have e : nm.size = nm.data.toList.length := by rw [Array.length_toList]; rfl
  rw [e]
  cases nm.data.toList with
  | nil => rfl
  | cons x r =>
    rw [if_neg (by simp)]
    have h1 : (1 ≤ (x :: r).length) := by simp
    rw [decide_eq_true h1, Bool.true_and]
    congr 1
    rw [decide_eq_decide]
    omega
def Drename.T8 : Bool × List (List Nat × List Nat) := (true, [([], []), ([0], [0]), ([1], [1]), ([2], [2]), ([], []), ([], []), ([3, 4, 5, 0, 1, 2, 3, 4, 5], [3, 4, 5])])
def Drename.B8 : List Nat := [0, 1, 3, 7, 0, 0, 63]
theorem Drename.tab8 : rtab .any (opsOf Try.f13 8) = Drename.T8 := by kernel_rfl
theorem Drename.bits8 : waitsOk Drename.T8.2 Drename.B8 = true := by kernel_rfl
def rnD (d : Dk) (a b : Nm) : Int × Dk :=
  if isE d a = 0 then (if nmOk b = true then (0, doneD { d with fs := put Fl.n ⟨b, (got a d.fs).1, (got a d.fs).2⟩ (out Fl.n a d.fs) }) else (21, d)) else (isE d a, d)
set_option maxHeartbeats 1000000 in
set_option maxRecDepth 100000 in
theorem Rename_calls {N : Nat} {w : World} {p b : Nat} {d : Dk} (h : IsD N w p b d) (hN : N < 1000000) {nm tm : ByteArray} (hn : nm.size ≤ maxLen) (ht : tm.size ≤ maxLen) : Calls Try.prog 13 #[.pointer (some ⟨p, 0, none⟩), .string nm, .string tm] w fun e w' => e = .returned (.int .i64 (rnD d nm.data.toList tm.data.toList).1) ∧ IsD (N + 1) w' p b (rnD d nm.data.toList tm.data.toList).2 ∧ Fr (Two p b) w w' := by
  have K1 := is_calls h hn
  have K2 := fun W => disk_name.calls tm _ W (name_f ht)
  unfold rnD
  obtain ⟨bs, s, hgot⟩ : ∃ bs s, got nm.data.toList d.fs = (bs, s) := ⟨_, _, rfl⟩
  by_cases c : isE d nm.data.toList = 0
  · rw [if_pos c]
    rw [c] at K1
    rw [hgot]
    have H := Aside0.mk h
    clear h
    cases c2 : nmOk tm.data.toList with
    | true =>
      rw [c2] at K2
      go_enter Try.func13, Try.ntmps13
      go_wp2_with (first
        | (go_at_call 43; refine K1.mono ?_; rintro e w0 ⟨rfl, hb0⟩)
        | (go_at_call 40; refine (K2 w0).mono ?_; rintro e w1 ⟨rfl, hb1⟩; have hb2 := Aside0.mk (below_drawn hb0 hb1); have hd1 := H.out.below hb2.out; obtain ⟨hc0, _⟩ := hd1.cells; obtain ⟨sl, hrun, hsl, hs0, hs1, hmx⟩ := hd1.lk hn; rw [hgot] at hrun hsl hs0 hs1 hmx; obtain ⟨A, cp, rfl⟩ := hsl.agg; have HSL := Aside0.mk hsl; have HMX := Aside0.mk (show 0 ≤ s ∧ s ≤ bs.length ∧ bs.length ≤ 1048576 from ⟨hs0, hs1, hmx⟩); have hba := (Below.refl w1.heap.size w1).alloc (Nat.le_refl _) (.cells #[.slice A bs.length cp, .int .i64 s] 67); have hda := hd1.below hba; obtain ⟨hca, _⟩ := hda.cells; obtain ⟨w2, hdel, hd2, hf2⟩ := hda.del_ hn 0; have HFA := Aside0.mk (show Fr (Two p b) w w2 from ((Fr.of_below hb2.out).below hba).trans hf2); have HBK := Aside0.mk (show w2.heap[w1.heap.size]? = some (.cells #[.slice A bs.length cp, .int .i64 s] 67 (0, 0)) from (hf2.block _ (by simp) (by rintro (e | e); exact absurd hd1.lt (by omega); exact absurd hd1.ltb (by omega))).trans (heap_alloc_new w1 _)); have HS2 := Aside0.mk ((hsl.below hba).fr hf2 hda.two); have HD2 := Aside0.mk hd2; clear hd1 hsl hs0 hs1 hmx hba hda hd2 hf2 hb1 hb0)
        | fail)
      refine start_ (n := 7) (S := fun w' => w'.cell? ⟨p, 0, none⟩ = some (.map (some b)) ∧ w'.cell? ⟨w1.heap.size, 0, none⟩ = some (.slice A bs.length cp) ∧ w'.cell? ⟨w1.heap.size, 1, none⟩ = some (.int .i64 s)) (ds := [6]) #[false, false, false, false, false, false, false] (by kernel_rfl) rfl rfl ⟨HD2.out.cells.1, (blk_cell HBK.out 0).trans rfl, (blk_cell HBK.out 1).trans rfl⟩ (fun hHeld => ?_); refine with_tabW Drename.tab8 Drename.bits8 (fun HT_ HW_ => ?_)
      have HDd := Aside0.mk (HD2.out.below ((Below.refl w2.heap.size w2).drew))
      have HSd := Aside0.mk (HS2.out.below ((Below.refl w2.heap.size w2).drew))
      have HFd := Aside0.mk (HFA.out.drew)
      clear HD2 HS2 HFA hc0 hca hrun hdel HBK
      generalize World.drew _ = w3 at HDd HSd HFd hHeld ⊢
      refine pure_ (i := 0) (N := some 29) (v := ?_) (a' := ?_) #[true, false, false, false, false, false, false] rfl rfl (any_of HT_.out (by kernel_rfl)) (fun _ _ _ h => h) (Or.inl ⟨by rfl, ?_⟩) ?_ ?_
      rotate_left
      · intro w'
        go_simp
        with_reducible rfl
      rotate_left
      · simp only [Act.put, List.setIfInBounds_toArray, List.set_cons_zero, List.set_cons_succ, i64_w, i32_w]
        rfl
      refine pure_ (i := 1) (N := some 30) (v := ?_) (a' := ?_) #[true, true, false, false, false, false, false] rfl rfl (any_of HT_.out (by kernel_rfl)) (fun _ _ _ h => h) (Or.inl ⟨by rfl, ?_⟩) ?_ ?_
      rotate_left
      · intro w'
        go_simp
        with_reducible rfl
      rotate_left
      · simp only [Act.put, List.setIfInBounds_toArray, List.set_cons_zero, List.set_cons_succ, i64_w, i32_w]
        rfl
      refine pure_ (i := 2) (N := some 31) (v := ?_) (a' := ?_) #[true, true, true, false, false, false, false] rfl rfl (any_of HT_.out (by kernel_rfl)) (fun _ _ _ h => h) (Or.inl ⟨by rfl, ?_⟩) ?_ ?_
      rotate_left
      · intro w'
        go_simp
        with_reducible rfl
      rotate_left
      · simp only [Act.put, List.setIfInBounds_toArray, List.set_cons_zero, List.set_cons_succ, i64_w, i32_w]
        rfl
      refine take_ (i := 3) (N := some 32) (v := ?_) (a' := ?_) #[true, true, true, true, false, false, false] rfl rfl (take_ofW HT_.out HW_.out (by kernel_rfl)) (fun _ _ _ h => h) (Or.inl ⟨by rfl, ?_⟩) hHeld ?_ ?_
      rotate_left
      · rintro w' ⟨s0, s1, s2⟩
        go_simp
        with_reducible rfl
      rotate_left
      · simp only [Act.put, List.setIfInBounds_toArray, List.set_cons_zero, List.set_cons_succ, i64_w, i32_w]
        rfl
      refine pure_ (i := 4) (N := some 33) (v := ?_) (a' := ?_) #[true, true, true, true, true, false, false] rfl rfl (any_of HT_.out (by kernel_rfl)) (fun _ _ _ h => h) (Or.inl ⟨by rfl, ?_⟩) ?_ ?_
      rotate_left
      · intro w'
        go_simp
        with_reducible rfl
      rotate_left
      · simp only [Act.put, List.setIfInBounds_toArray, List.set_cons_zero, List.set_cons_succ, i64_w, i32_w]
        rfl
      refine take_ (i := 5) (N := some 34) (v := ?_) (a' := ?_) #[true, true, true, true, true, true, false] rfl rfl (take_ofW HT_.out HW_.out (by kernel_rfl)) (fun _ _ _ h => h) (Or.inl ⟨by rfl, ?_⟩) hHeld ?_ ?_
      rotate_left
      · rintro w' ⟨s0, s1, s2⟩
        go_simp
        with_reducible rfl
      rotate_left
      · simp only [Act.put, List.setIfInBounds_toArray, List.set_cons_zero, List.set_cons_succ, i64_w, i32_w]
        rfl
      obtain ⟨w4, hrun4, hd4, hf4⟩ := HDd.out.put_ ht hN (f := ⟨tm.data.toList, bs, s⟩) ⟨_, rfl, HSd.out, Av.none, HMX.out.1, HMX.out.2.1, HMX.out.2.2⟩ rfl
      refine last_ (i := 6) (N := none) #[true, true, true, true, true, true, true] rfl rfl (one_of HT_.out (by kernel_rfl)) (by decide) (fun K hK => ?_)
      refine skip_ (w1 := w4) (by rfl) rfl ?_ ?_
      · go_simp
        first | done | simp [hrun4, Result.andThen]
      refine hK.out _ _ ?_
      clear hK K
      have HD4 := Aside0.mk hd4
      have HF4 := Aside0.mk (HFd.out.trans hf4)
      clear hd4 hf4 hrun4 HDd HSd HFd
      refine done_ (done_of HT_.out (by kernel_rfl)) ?_
      go_wp2_with (go_at_call 42; refine (done_calls HD4.out).mono ?_; rintro e w5 ⟨rfl, hd5, hf5⟩)
      go_ret
      exact ⟨rfl, hd5, HF4.out.trans hf5⟩
    | false =>
      rw [c2] at K2
      go_enter Try.func13, Try.ntmps13
      go_wp2_with (first
        | (go_at_call 43; refine K1.mono ?_; rintro e w0 ⟨rfl, hb0⟩)
        | (go_at_call 40; refine (K2 w0).mono ?_; rintro e w1 ⟨rfl, hb1⟩))
      go_ret
      have hb2 := below_drawn hb0 hb1
      exact ⟨rfl, (H.out.below hb2).mono (by omega) (by omega), Fr.of_below hb2⟩
  · rw [if_neg c]
    generalize isE d nm.data.toList = E at *
    have c1 : (E == 0) = false := by simpa using c
    have c2 : (E != 0) = true := by simpa using c
    have H := Aside0.mk h
    clear h
    go_enter Try.func13, Try.ntmps13
    go_wp2_with (go_at_call 43; refine K1.mono ?_; rintro e w1 ⟨rfl, hb1⟩)
    go_ret
    exact ⟨rfl, (H.out.below hb1).mono (by omega) (by omega), Fr.of_below hb1⟩
end Go.Proofs.Ytihbgdobicokpaa.D
namespace Go.Proofs.Ytihbgdobicokpaa.D
open Go.RowKit Go.Maps Go.Proofs.Ytihbgdobicokpaa.X Go.Proofs.YtihbgdobicokpaaW.PrintWords Go.Proofs.YtihbgdobicokpaaW.PrintLast Go.Proofs.YtihbgdobicokpaaW.PrintMore
attribute [local go_sem] max2_int min2_int max_two min_two max_three min_three max_four min_four   -- for this text's walks alone
set_option linter.unusedVariables false
set_option linter.unusedSimpArgs false
variable {X : Nat → Prop}
theorem IsDX.lk_all {N : Nat} {w : World} {p b : Nat} {d : Dk} (h : IsDX X N w p b d) {nm : ByteArray} (hn : nm.size ≤ maxLen) :
    ∃ A c, (∀ w', Below w.heap.size w w' → w'.cell? ⟨p, 0, none⟩ = some (.map (some b)) ∧ w'.cell? ⟨p, 1, none⟩ = some (.int .i64 d.room) ∧ (Instr.lookup 62 (.map (some b)) (.string nm) false).run Try.prog w' = .ok (.agg #[.slice A (got nm.data.toList d.fs).1.length c, .int .i64 (got nm.data.toList d.fs).2]) w') ∧ IsB w (.slice A (got nm.data.toList d.fs).1.length c) (got nm.data.toList d.fs).1 := by
  obtain ⟨es, h1, h2⟩ := h.fs
  obtain ⟨sl, g1, g2, g3, _⟩ := got_of nm.data.toList h2
  obtain ⟨A, c, rfl⟩ := g2.agg
  refine ⟨A, c, fun w' hb => ⟨(h.below hb).cells.1, (h.below hb).cells.2.1, ?_⟩, g2⟩
  have hlt := h1.lt
  have h1' : w'.ownsMap Try.prog 9 RF b N (DM es) := by
    obtain ⟨e1, c1, h3, h4⟩ := h1
    exact ⟨e1, c1, (hb.block b hlt).trans h3, h4⟩
  obtain ⟨v, ps, hrun, hv⟩ := h1'.lookup keyed9 Try.underlying62 (Try.zeroValue67 w') (zd := .held (.agg #[.slice none 0 0, .int .i64 0])) (zp := []) rfl (IsDX.key hn)
  rw [DM_at, g1] at hv
  obtain ⟨_, hv⟩ := RF_inv hv
  cases hv
  exact hrun
def Dwrite.T5 : Bool × List (List Nat × List Nat) := (true, [([], []), ([0], [0]), ([1], [1]), ([2], [2]), ([3], [3]), ([4, 3, 3], [3, 4]), ([3], [3]), ([6, 3], [3, 6]), ([7, 3], [3, 7]), ([8, 3], [3, 8]), ([3], [3]), ([9, 10, 3], [3, 9, 10]), ([11, 3], [3, 11]), ([12, 3], [3, 12]), ([5, 13, 3], [3, 5, 13]), ([3], [3]), ([15, 3], [3, 15]), ([14, 16, 3], [3, 14, 16]), ([3], [3]), ([18, 3], [3, 18]), ([19, 3], [3, 19]), ([20, 3], [3, 20]), ([17, 21, 3], [3, 17, 21]), ([3, 22], [3, 22]), ([23, 5], [23])])
def Dwrite.B5 : List Nat := [0, 1, 3, 7, 15, 31, 15, 79, 207, 463, 15, 1999, 4047, 8143, 16383, 15, 32783, 131071, 15, 262159, 786447, 1835023, 4194303, 8388607, 16777215]
theorem Dwrite.tab5 : rtab .any (opsOf Try.f11 5) = Dwrite.T5 := by kernel_rfl
theorem Dwrite.bits5 : waitsOk Dwrite.T5.2 Dwrite.B5 = true := by kernel_rfl
def Dwrite.T7 : Bool × List (List Nat × List Nat) := (true, [([], []), ([0], [0]), ([1], [1]), ([2], [2]), ([], []), ([], []), ([5], [5]), ([6], [6]), ([3, 4, 7, 6, 0, 1, 2, 3, 4, 5, 6, 7], [3, 4, 7])])
def Dwrite.B7 : List Nat := [0, 1, 3, 7, 0, 0, 32, 96, 255]
theorem Dwrite.tab7 : rtab .any (opsOf Try.f11 7) = Dwrite.T7 := by kernel_rfl
theorem Dwrite.bits7 : waitsOk Dwrite.T7.2 Dwrite.B7 = true := by kernel_rfl
def wrD (d : Dk) (n : Nm) (bs : List Int) : Int × Dk :=
  if d.dead = true then (23, d) else if nmOk n = true then (if 1048576 < bs.length ∨ d.room < (total d.fs : Int) - (got n d.fs).1.length + bs.length then (22, d) else (0, doneD { d with fs := put Fl.n ⟨n, bs, 0⟩ d.fs })) else (21, d)
set_option maxHeartbeats 2000000 in
set_option maxRecDepth 100000 in
theorem Write_callsX {N : Nat} {w : World} {p b : Nat} {d : Dk} (h : IsDX X N w p b d) (hX : ∀ k, X k → k < w.heap.size) (hN : N < 1000000) {nm : ByteArray} (hn : nm.size ≤ maxLen) {A : Option Addr} {cp : Nat} {bs : List Int} (hC : Kd.C (Kd.int .u8) w A bs.length bs) :
    Calls Try.prog 11 #[.pointer (some ⟨p, 0, none⟩), .string nm, .slice A bs.length cp] w fun e w' => e = .returned (.int .i64 (wrD d nm.data.toList bs).1) ∧ IsDX X (N + 1) w' p b (wrD d nm.data.toList bs).2 ∧ Fr (Two p b) w w' := by
  have HX := Aside0.mk hX
  clear hX
  have K2 := fun W => disk_name.calls nm _ W (name_f hn)
  have hfld := fld67
  obtain ⟨hc0, hc1, hc2, hc3⟩ := h.cells
  have HC := Aside0.mk hC
  have H := Aside0.mk h
  unfold wrD
  cases c : d.dead with
  | true =>
    rw [c] at hc3
    clear h hC
    go_enter Try.func11, Try.ntmps11
    go_wp2
    go_ret
    exact ⟨rfl, H.out.mono (by omega) (by omega), Fr.refl _ _⟩
  | false =>
    rw [c] at hc3
    cases c2 : nmOk nm.data.toList with
    | false =>
      rw [c2] at K2
      clear h hC
      go_enter Try.func11, Try.ntmps11
      go_wp2_with (go_at_call 40; refine (K2 _).mono ?_; rintro e w1 ⟨rfl, hb1⟩)
      go_ret
      have hb2 := below_drawn (Below.refl _ _) hb1
      exact ⟨rfl, (H.out.below hb2).mono (by omega) (by omega), Fr.of_below hb2⟩
    | true =>
      rw [c2] at K2
      have hsm := total_le h
      have hgl : (got nm.data.toList d.fs).1.length ≤ 1048576 := (h.lk hn).choose_spec.2.2.2.2
      have hr0 := h.room0
      have hr1 := h.room1
      clear h hC
      obtain ⟨tot, HTOT⟩ : ∃ t : Int, Aside0 ((total d.fs : Int) = t) := ⟨_, ⟨rfl⟩⟩
      obtain ⟨room, hroom⟩ : ∃ r, d.room = r := ⟨_, rfl⟩
      rw [hroom] at hc1 hr0 hr1
      obtain ⟨m, hm⟩ : ∃ m, (got nm.data.toList d.fs).1.length = m := ⟨_, rfl⟩
      obtain ⟨s, hs⟩ : ∃ s, (got nm.data.toList d.fs).2 = s := ⟨_, rfl⟩
      rw [hm, hroom, HTOT.out]
      rw [hm] at hgl
      have ht0 : 0 ≤ tot ∧ tot ≤ 1048576000000 := by rw [← HTOT.out]; omega
      have HM := Aside0.mk hm
      have HS := Aside0.mk hs
      have HR := Aside0.mk hroom
      by_cases big : 1048576 < bs.length
      · have hbig : decide (1048576 < (bs.length : Int)) = true := decide_eq_true (by omega)
        rw [if_neg (by decide), if_pos rfl, if_pos (Or.inl big)]
        clear ht0 hgl hr0 hr1 hm hs hroom
        go_enter Try.func11, Try.ntmps11
        go_wp2_with (first | (go_at_call 40; refine (K2 _).mono ?_; rintro e w1 ⟨rfl, hb1⟩; have HB1 := Aside0.mk (below_drawn (Below.refl w.heap.size w) hb1); have HD1 := Aside0.mk (H.out.below HB1.out); obtain ⟨A0, c0, hlk, hgb⟩ := HD1.out.lk_all hn; rw [HM.out, HR.out, HS.out] at hlk; have HLK := Aside0.mk hlk; clear hlk hgb hb1) | fail)
        refine start_ (n := 25) (S := fun w' => w'.cell? ⟨p, 0, none⟩ = some (.map (some b)) ∧ w'.cell? ⟨p, 1, none⟩ = some (.int .i64 room) ∧ (Instr.lookup 62 (.map (some b)) (.string nm) false).run Try.prog w' = .ok (.agg #[.slice A0 m c0, .int .i64 s]) w') (ds := []) #[false, false, false, false, false, false, false, false, false, false, false, false, false, false, false, false, false, false, false, false, false, false, false, false, false] (by kernel_rfl) rfl rfl (HLK.out w1.drew ((Below.refl w1.heap.size w1).drew)) (fun hHeld => ?_); refine with_tabW Dwrite.tab5 Dwrite.bits5 (fun HT_ HW_ => ?_)
        have HDd := Aside0.mk (HD1.out.below ((Below.refl w1.heap.size w1).drew))
        have HBd := Aside0.mk (HB1.out.drew)
        have HLd := Aside0.mk ((Below.refl w1.heap.size w1).drew)
        clear HD1 HB1
        generalize World.drew _ = w3 at HDd HBd HLd hHeld ⊢
        refine pure_ (i := 0) (N := some 17) (v := ?_) (a' := ?_) #[true, false, false, false, false, false, false, false, false, false, false, false, false, false, false, false, false, false, false, false, false, false, false, false, false] rfl rfl (any_of HT_.out (by kernel_rfl)) (fun _ _ _ h => h) (Or.inl ⟨by rfl, ?_⟩) ?_ ?_
        rotate_left
        · intro w'
          go_simp
          with_reducible rfl
        rotate_left
        · simp only [Act.put, List.setIfInBounds_toArray, List.set_cons_zero, List.set_cons_succ, i64_w, i32_w]
          rfl
        refine pure_ (i := 1) (N := some 18) (v := ?_) (a' := ?_) #[true, true, false, false, false, false, false, false, false, false, false, false, false, false, false, false, false, false, false, false, false, false, false, false, false] rfl rfl (any_of HT_.out (by kernel_rfl)) (fun _ _ _ h => h) (Or.inl ⟨by rfl, ?_⟩) ?_ ?_
        rotate_left
        · intro w'
          go_simp
          with_reducible rfl
        rotate_left
        · simp only [Act.put, List.setIfInBounds_toArray, List.set_cons_zero, List.set_cons_succ, i64_w, i32_w]
          rfl
        refine pure_ (i := 2) (N := some 19) (v := ?_) (a' := ?_) #[true, true, true, false, false, false, false, false, false, false, false, false, false, false, false, false, false, false, false, false, false, false, false, false, false] rfl rfl (any_of HT_.out (by kernel_rfl)) (fun _ _ _ h => h) (Or.inl ⟨by rfl, ?_⟩) ?_ ?_
        rotate_left
        · intro w'
          go_simp
          with_reducible rfl
        rotate_left
        · simp only [Act.put, List.setIfInBounds_toArray, List.set_cons_zero, List.set_cons_succ, i64_w, i32_w]
          rfl
        refine pure_ (i := 3) (N := some 20) (v := ?_) (a' := ?_) #[true, true, true, true, false, false, false, false, false, false, false, false, false, false, false, false, false, false, false, false, false, false, false, false, false] rfl rfl (any_of HT_.out (by kernel_rfl)) (fun _ _ _ h => h) (Or.inl ⟨by rfl, ?_⟩) ?_ ?_
        rotate_left
        · intro w'
          go_simp
          with_reducible rfl
        rotate_left
        · simp only [Act.put, List.setIfInBounds_toArray, List.set_cons_zero, List.set_cons_succ, i64_w, i32_w]
          rfl
        refine take_ (i := 4) (N := some 21) (v := undef) (a' := ?_) #[true, true, true, true, true, false, false, false, false, false, false, false, false, false, false, false, false, false, false, false, false, false, false, false, false] rfl rfl (take_ofW HT_.out HW_.out (by kernel_rfl)) (fun _ _ _ h => h) (Or.inr ⟨by rfl, rfl⟩) hHeld ?_ ?_
        rotate_left
        · simp only [Act.put, List.setIfInBounds_toArray, List.set_cons_zero, List.set_cons_succ, i64_w, i32_w]
          rfl
        refine take_ (i := 6) (N := some 23) (v := undef) (a' := ?_) #[true, true, true, true, true, false, true, false, false, false, false, false, false, false, false, false, false, false, false, false, false, false, false, false, false] rfl rfl (take_ofW HT_.out HW_.out (by kernel_rfl)) (fun _ _ _ h => h) (Or.inr ⟨by rfl, rfl⟩) hHeld ?_ ?_
        rotate_left
        · simp only [Act.put, List.setIfInBounds_toArray, List.set_cons_zero, List.set_cons_succ, i64_w, i32_w]
          rfl
        refine take_ (i := 7) (N := some 24) (v := undef) (a' := ?_) #[true, true, true, true, true, false, true, true, false, false, false, false, false, false, false, false, false, false, false, false, false, false, false, false, false] rfl rfl (take_ofW HT_.out HW_.out (by kernel_rfl)) (fun _ _ _ h => h) (Or.inr ⟨by rfl, rfl⟩) hHeld ?_ ?_
        rotate_left
        · simp only [Act.put, List.setIfInBounds_toArray, List.set_cons_zero, List.set_cons_succ, i64_w, i32_w]
          rfl
        refine take_ (i := 8) (N := some 25) (v := undef) (a' := ?_) #[true, true, true, true, true, false, true, true, true, false, false, false, false, false, false, false, false, false, false, false, false, false, false, false, false] rfl rfl (take_ofW HT_.out HW_.out (by kernel_rfl)) (fun _ _ _ h => h) (Or.inr ⟨by rfl, rfl⟩) hHeld ?_ ?_
        rotate_left
        · simp only [Act.put, List.setIfInBounds_toArray, List.set_cons_zero, List.set_cons_succ, i64_w, i32_w]
          rfl
        refine take_ (i := 9) (N := some 26) (v := undef) (a' := ?_) #[true, true, true, true, true, false, true, true, true, true, false, false, false, false, false, false, false, false, false, false, false, false, false, false, false] rfl rfl (take_ofW HT_.out HW_.out (by kernel_rfl)) (fun _ _ _ h => h) (Or.inr ⟨by rfl, rfl⟩) hHeld ?_ ?_
        rotate_left
        · simp only [Act.put, List.setIfInBounds_toArray, List.set_cons_zero, List.set_cons_succ, i64_w, i32_w]
          rfl
        refine take_ (i := 10) (N := some 27) (v := undef) (a' := ?_) #[true, true, true, true, true, false, true, true, true, true, true, false, false, false, false, false, false, false, false, false, false, false, false, false, false] rfl rfl (take_ofW HT_.out HW_.out (by kernel_rfl)) (fun _ _ _ h => h) (Or.inr ⟨by rfl, rfl⟩) hHeld ?_ ?_
        rotate_left
        · simp only [Act.put, List.setIfInBounds_toArray, List.set_cons_zero, List.set_cons_succ, i64_w, i32_w]
          rfl
        refine take_ (i := 11) (N := some 28) (v := undef) (a' := ?_) #[true, true, true, true, true, false, true, true, true, true, true, true, false, false, false, false, false, false, false, false, false, false, false, false, false] rfl rfl (take_ofW HT_.out HW_.out (by kernel_rfl)) (fun _ _ _ h => h) (Or.inr ⟨by rfl, rfl⟩) hHeld ?_ ?_
        rotate_left
        · simp only [Act.put, List.setIfInBounds_toArray, List.set_cons_zero, List.set_cons_succ, i64_w, i32_w]
          rfl
        refine take_ (i := 12) (N := some 29) (v := undef) (a' := ?_) #[true, true, true, true, true, false, true, true, true, true, true, true, true, false, false, false, false, false, false, false, false, false, false, false, false] rfl rfl (take_ofW HT_.out HW_.out (by kernel_rfl)) (fun _ _ _ h => h) (Or.inr ⟨by rfl, rfl⟩) hHeld ?_ ?_
        rotate_left
        · simp only [Act.put, List.setIfInBounds_toArray, List.set_cons_zero, List.set_cons_succ, i64_w, i32_w]
          rfl
        refine take_ (i := 13) (N := some 30) (v := undef) (a' := ?_) #[true, true, true, true, true, false, true, true, true, true, true, true, true, true, false, false, false, false, false, false, false, false, false, false, false] rfl rfl (take_ofW HT_.out HW_.out (by kernel_rfl)) (fun _ _ _ h => h) (Or.inr ⟨by rfl, rfl⟩) hHeld ?_ ?_
        rotate_left
        · simp only [Act.put, List.setIfInBounds_toArray, List.set_cons_zero, List.set_cons_succ, i64_w, i32_w]
          rfl
        refine take_ (i := 15) (N := some 32) (v := undef) (a' := ?_) #[true, true, true, true, true, false, true, true, true, true, true, true, true, true, false, true, false, false, false, false, false, false, false, false, false] rfl rfl (take_ofW HT_.out HW_.out (by kernel_rfl)) (fun _ _ _ h => h) (Or.inr ⟨by rfl, rfl⟩) hHeld ?_ ?_
        rotate_left
        · simp only [Act.put, List.setIfInBounds_toArray, List.set_cons_zero, List.set_cons_succ, i64_w, i32_w]
          rfl
        refine take_ (i := 16) (N := some 33) (v := undef) (a' := ?_) #[true, true, true, true, true, false, true, true, true, true, true, true, true, true, false, true, true, false, false, false, false, false, false, false, false] rfl rfl (take_ofW HT_.out HW_.out (by kernel_rfl)) (fun _ _ _ h => h) (Or.inr ⟨by rfl, rfl⟩) hHeld ?_ ?_
        rotate_left
        · simp only [Act.put, List.setIfInBounds_toArray, List.set_cons_zero, List.set_cons_succ, i64_w, i32_w]
          rfl
        refine take_ (i := 18) (N := some 35) (v := undef) (a' := ?_) #[true, true, true, true, true, false, true, true, true, true, true, true, true, true, false, true, true, false, true, false, false, false, false, false, false] rfl rfl (take_ofW HT_.out HW_.out (by kernel_rfl)) (fun _ _ _ h => h) (Or.inr ⟨by rfl, rfl⟩) hHeld ?_ ?_
        rotate_left
        · simp only [Act.put, List.setIfInBounds_toArray, List.set_cons_zero, List.set_cons_succ, i64_w, i32_w]
          rfl
        refine take_ (i := 19) (N := some 36) (v := undef) (a' := ?_) #[true, true, true, true, true, false, true, true, true, true, true, true, true, true, false, true, true, false, true, true, false, false, false, false, false] rfl rfl (take_ofW HT_.out HW_.out (by kernel_rfl)) (fun _ _ _ h => h) (Or.inr ⟨by rfl, rfl⟩) hHeld ?_ ?_
        rotate_left
        · simp only [Act.put, List.setIfInBounds_toArray, List.set_cons_zero, List.set_cons_succ, i64_w, i32_w]
          rfl
        refine take_ (i := 20) (N := some 37) (v := undef) (a' := ?_) #[true, true, true, true, true, false, true, true, true, true, true, true, true, true, false, true, true, false, true, true, true, false, false, false, false] rfl rfl (take_ofW HT_.out HW_.out (by kernel_rfl)) (fun _ _ _ h => h) (Or.inr ⟨by rfl, rfl⟩) hHeld ?_ ?_
        rotate_left
        · simp only [Act.put, List.setIfInBounds_toArray, List.set_cons_zero, List.set_cons_succ, i64_w, i32_w]
          rfl
        refine take_ (i := 21) (N := some 38) (v := undef) (a' := ?_) #[true, true, true, true, true, false, true, true, true, true, true, true, true, true, false, true, true, false, true, true, true, true, false, false, false] rfl rfl (take_ofW HT_.out HW_.out (by kernel_rfl)) (fun _ _ _ h => h) (Or.inr ⟨by rfl, rfl⟩) hHeld ?_ ?_
        rotate_left
        · simp only [Act.put, List.setIfInBounds_toArray, List.set_cons_zero, List.set_cons_succ, i64_w, i32_w]
          rfl
        refine one_ (i := 5) (N := some 22) #[true, true, true, true, true, true, true, true, true, true, true, true, true, true, false, true, true, false, true, true, true, true, false, false, false] rfl rfl (one_of HT_.out (by kernel_rfl)) (by decide) (fun K hK => ?_)
        refine off_ (by rfl) ?_
        refine hK.out _ _ hHeld (fun hHeld => ?_)
        clear hK K
        refine norm_ (a' := ?_) ?_ ?_
        rotate_left
        · show Act.put _ (some 22) _ = _
          simp only [Act.put, List.setIfInBounds_toArray, List.set_cons_zero, List.set_cons_succ, i64_w, i32_w]
          rfl
        refine take_ (i := 14) (N := some 31) (v := undef) (a' := ?_) #[true, true, true, true, true, true, true, true, true, true, true, true, true, true, true, true, true, false, true, true, true, true, false, false, false] rfl rfl (take_ofW HT_.out HW_.out (by kernel_rfl)) (fun _ _ _ h => h) (Or.inr ⟨by rfl, rfl⟩) hHeld ?_ ?_
        rotate_left
        · simp only [Act.put, List.setIfInBounds_toArray, List.set_cons_zero, List.set_cons_succ, i64_w, i32_w]
          rfl
        refine take_ (i := 17) (N := some 34) (v := undef) (a' := ?_) #[true, true, true, true, true, true, true, true, true, true, true, true, true, true, true, true, true, true, true, true, true, true, false, false, false] rfl rfl (take_ofW HT_.out HW_.out (by kernel_rfl)) (fun _ _ _ h => h) (Or.inr ⟨by rfl, rfl⟩) hHeld ?_ ?_
        rotate_left
        · simp only [Act.put, List.setIfInBounds_toArray, List.set_cons_zero, List.set_cons_succ, i64_w, i32_w]
          rfl
        refine take_ (i := 22) (N := some 39) (v := undef) (a' := ?_) #[true, true, true, true, true, true, true, true, true, true, true, true, true, true, true, true, true, true, true, true, true, true, true, false, false] rfl rfl (take_ofW HT_.out HW_.out (by kernel_rfl)) (fun _ _ _ h => h) (Or.inr ⟨by rfl, rfl⟩) hHeld ?_ ?_
        rotate_left
        · simp only [Act.put, List.setIfInBounds_toArray, List.set_cons_zero, List.set_cons_succ, i64_w, i32_w]
          rfl
        refine pure_ (i := 23) (N := some 40) (v := ?_) (a' := ?_) #[true, true, true, true, true, true, true, true, true, true, true, true, true, true, true, true, true, true, true, true, true, true, true, true, false] rfl rfl (any_of HT_.out (by kernel_rfl)) (fun _ _ _ h => h) (Or.inl ⟨by rfl, ?_⟩) ?_ ?_
        rotate_left
        · intro w'
          go_simp
          with_reducible rfl
        rotate_left
        · simp only [Act.put, List.setIfInBounds_toArray, List.set_cons_zero, List.set_cons_succ, i64_w, i32_w]
          rfl
        refine pure_ (i := 24) (N := some 16) (v := ?_) (a' := ?_) #[true, true, true, true, true, true, true, true, true, true, true, true, true, true, true, true, true, true, true, true, true, true, true, true, true] rfl rfl (any_of HT_.out (by kernel_rfl)) (fun _ _ _ h => h) (Or.inl ⟨by rfl, ?_⟩) ?_ ?_
        rotate_left
        · intro w'
          go_simp
          with_reducible rfl
        rotate_left
        · simp only [Act.put, List.setIfInBounds_toArray, List.set_cons_zero, List.set_cons_succ, i64_w, i32_w]
          rfl
        refine done_ (done_of HT_.out (by kernel_rfl)) ?_
        go_wp2
        go_ret
        exact ⟨rfl, HDd.out.mono (by omega) (by omega), Fr.of_below HBd.out⟩
      · have hbig : decide (1048576 < (bs.length : Int)) = false := decide_eq_false (by omega)
        have hw1 : wrap64 (tot - (m : Int)) = tot - m := by unfold wrap64; omega
        have hw2 : wrap64 (tot - (m : Int) + (bs.length : Int)) = tot - m + bs.length := by unfold wrap64; omega
        have HMX := Aside0.mk (show bs.length ≤ 1048576 by omega)
        have HL := Aside0.mk (show bs.length ≤ 140737488355328 by omega)
        obtain ⟨q, hq⟩ : ∃ q, decide (room < tot - (m : Int) + (bs.length : Int)) = q := ⟨_, rfl⟩
        have hcond : (1048576 < bs.length ∨ room < tot - (m : Int) + (bs.length : Int)) ↔ q = true := ⟨fun h => by rcases h with h | h; exact absurd h big; rw [← hq]; exact decide_eq_true h, fun h => Or.inr (of_decide_eq_true (hq.trans h))⟩
        rw [if_neg (by decide), if_pos rfl]
        simp only [hcond]
        clear hcond
        clear ht0 hgl hr0 hr1 hm hs hroom
        go_enter Try.func11, Try.ntmps11
        go_wp2_with (first | (go_at_call 40; refine (K2 _).mono ?_; rintro e w1 ⟨rfl, hb1⟩; have HB1 := Aside0.mk (below_drawn (Below.refl w.heap.size w) hb1); have HD1 := Aside0.mk (H.out.below HB1.out); obtain ⟨A0, c0, hlk, hgb⟩ := HD1.out.lk_all hn; rw [HM.out, HR.out, HS.out] at hlk; have HLK := Aside0.mk hlk; clear hlk hgb hb1) | fail)
        refine start_ (n := 25) (S := fun w' => w'.cell? ⟨p, 0, none⟩ = some (.map (some b)) ∧ w'.cell? ⟨p, 1, none⟩ = some (.int .i64 room) ∧ (Instr.lookup 62 (.map (some b)) (.string nm) false).run Try.prog w' = .ok (.agg #[.slice A0 m c0, .int .i64 s]) w') (ds := []) #[false, false, false, false, false, false, false, false, false, false, false, false, false, false, false, false, false, false, false, false, false, false, false, false, false] (by kernel_rfl) rfl rfl (HLK.out w1.drew ((Below.refl w1.heap.size w1).drew)) (fun hHeld => ?_); refine with_tabW Dwrite.tab5 Dwrite.bits5 (fun HT_ HW_ => ?_)
        have HDd := Aside0.mk (HD1.out.below ((Below.refl w1.heap.size w1).drew))
        have HBd := Aside0.mk (HB1.out.drew)
        have HLd := Aside0.mk ((Below.refl w1.heap.size w1).drew)
        clear HD1 HB1
        generalize World.drew _ = w3 at HDd HBd HLd hHeld ⊢
        refine pure_ (i := 0) (N := some 17) (v := ?_) (a' := ?_) #[true, false, false, false, false, false, false, false, false, false, false, false, false, false, false, false, false, false, false, false, false, false, false, false, false] rfl rfl (any_of HT_.out (by kernel_rfl)) (fun _ _ _ h => h) (Or.inl ⟨by rfl, ?_⟩) ?_ ?_
        rotate_left
        · intro w'
          go_simp
          with_reducible rfl
        rotate_left
        · simp only [Act.put, List.setIfInBounds_toArray, List.set_cons_zero, List.set_cons_succ, i64_w, i32_w]
          rfl
        refine pure_ (i := 1) (N := some 18) (v := ?_) (a' := ?_) #[true, true, false, false, false, false, false, false, false, false, false, false, false, false, false, false, false, false, false, false, false, false, false, false, false] rfl rfl (any_of HT_.out (by kernel_rfl)) (fun _ _ _ h => h) (Or.inl ⟨by rfl, ?_⟩) ?_ ?_
        rotate_left
        · intro w'
          go_simp
          with_reducible rfl
        rotate_left
        · simp only [Act.put, List.setIfInBounds_toArray, List.set_cons_zero, List.set_cons_succ, i64_w, i32_w]
          rfl
        refine pure_ (i := 2) (N := some 19) (v := ?_) (a' := ?_) #[true, true, true, false, false, false, false, false, false, false, false, false, false, false, false, false, false, false, false, false, false, false, false, false, false] rfl rfl (any_of HT_.out (by kernel_rfl)) (fun _ _ _ h => h) (Or.inl ⟨by rfl, ?_⟩) ?_ ?_
        rotate_left
        · intro w'
          go_simp
          with_reducible rfl
        rotate_left
        · simp only [Act.put, List.setIfInBounds_toArray, List.set_cons_zero, List.set_cons_succ, i64_w, i32_w]
          rfl
        refine pure_ (i := 3) (N := some 20) (v := ?_) (a' := ?_) #[true, true, true, true, false, false, false, false, false, false, false, false, false, false, false, false, false, false, false, false, false, false, false, false, false] rfl rfl (any_of HT_.out (by kernel_rfl)) (fun _ _ _ h => h) (Or.inl ⟨by rfl, ?_⟩) ?_ ?_
        rotate_left
        · intro w'
          go_simp
          with_reducible rfl
        rotate_left
        · simp only [Act.put, List.setIfInBounds_toArray, List.set_cons_zero, List.set_cons_succ, i64_w, i32_w]
          rfl
        refine pure_ (i := 4) (N := some 21) (v := ?_) (a' := ?_) #[true, true, true, true, true, false, false, false, false, false, false, false, false, false, false, false, false, false, false, false, false, false, false, false, false] rfl rfl (any_of HT_.out (by kernel_rfl)) (fun _ _ _ h => h) (Or.inl ⟨by rfl, ?_⟩) ?_ ?_
        rotate_left
        · intro w'
          go_simp
          with_reducible rfl
        rotate_left
        · simp only [Act.put, List.setIfInBounds_toArray, List.set_cons_zero, List.set_cons_succ, i64_w, i32_w]
          rfl
        refine pure_ (i := 6) (N := some 23) (v := ?_) (a' := ?_) #[true, true, true, true, true, false, true, false, false, false, false, false, false, false, false, false, false, false, false, false, false, false, false, false, false] rfl rfl (any_of HT_.out (by kernel_rfl)) (fun _ _ _ h => h) (Or.inl ⟨by rfl, ?_⟩) ?_ ?_
        rotate_left
        · intro w'
          go_simp
          with_reducible rfl
        rotate_left
        · simp only [Act.put, List.setIfInBounds_toArray, List.set_cons_zero, List.set_cons_succ, i64_w, i32_w]
          rfl
        refine pure_ (i := 7) (N := some 24) (v := ?_) (a' := ?_) #[true, true, true, true, true, false, true, true, false, false, false, false, false, false, false, false, false, false, false, false, false, false, false, false, false] rfl rfl (any_of HT_.out (by kernel_rfl)) (fun _ _ _ h => h) (Or.inl ⟨by rfl, ?_⟩) ?_ ?_
        rotate_left
        · intro w'
          go_simp
          with_reducible rfl
        rotate_left
        · simp only [Act.put, List.setIfInBounds_toArray, List.set_cons_zero, List.set_cons_succ, i64_w, i32_w]
          rfl
        refine pure_ (i := 8) (N := some 25) (v := ?_) (a' := ?_) #[true, true, true, true, true, false, true, true, true, false, false, false, false, false, false, false, false, false, false, false, false, false, false, false, false] rfl rfl (any_of HT_.out (by kernel_rfl)) (fun _ _ _ h => h) (Or.inl ⟨by rfl, ?_⟩) ?_ ?_
        rotate_left
        · intro w'
          go_simp
          with_reducible rfl
        rotate_left
        · simp only [Act.put, List.setIfInBounds_toArray, List.set_cons_zero, List.set_cons_succ, i64_w, i32_w]
          rfl
        refine take_ (i := 9) (N := some 26) (v := ?_) (a' := ?_) #[true, true, true, true, true, false, true, true, true, true, false, false, false, false, false, false, false, false, false, false, false, false, false, false, false] rfl rfl (take_ofW HT_.out HW_.out (by kernel_rfl)) (fun _ _ _ h => h) (Or.inl ⟨by rfl, ?_⟩) hHeld ?_ ?_
        rotate_left
        · rintro w' ⟨s0, s1, s2⟩
          go_simp
          with_reducible rfl
        rotate_left
        · simp only [Act.put, List.setIfInBounds_toArray, List.set_cons_zero, List.set_cons_succ, i64_w, i32_w]
          rfl
        refine pure_ (i := 10) (N := some 27) (v := ?_) (a' := ?_) #[true, true, true, true, true, false, true, true, true, true, true, false, false, false, false, false, false, false, false, false, false, false, false, false, false] rfl rfl (any_of HT_.out (by kernel_rfl)) (fun _ _ _ h => h) (Or.inl ⟨by rfl, ?_⟩) ?_ ?_
        rotate_left
        · intro w'
          go_simp
          with_reducible rfl
        rotate_left
        · simp only [Act.put, List.setIfInBounds_toArray, List.set_cons_zero, List.set_cons_succ, i64_w, i32_w]
          rfl
        refine take_ (i := 11) (N := some 28) (v := ?_) (a' := ?_) #[true, true, true, true, true, false, true, true, true, true, true, true, false, false, false, false, false, false, false, false, false, false, false, false, false] rfl rfl (take_ofW HT_.out HW_.out (by kernel_rfl)) (fun _ _ _ h => h) (Or.inl ⟨by rfl, ?_⟩) hHeld ?_ ?_
        rotate_left
        · rintro w' ⟨s0, s1, s2⟩
          go_simp
          with_reducible rfl
        rotate_left
        · simp only [Act.put, List.setIfInBounds_toArray, List.set_cons_zero, List.set_cons_succ, i64_w, i32_w]
          rfl
        refine pure_ (i := 12) (N := some 29) (v := ?_) (a' := ?_) #[true, true, true, true, true, false, true, true, true, true, true, true, true, false, false, false, false, false, false, false, false, false, false, false, false] rfl rfl (any_of HT_.out (by kernel_rfl)) (fun _ _ _ h => h) (Or.inl ⟨by rfl, ?_⟩) ?_ ?_
        rotate_left
        · intro w'
          go_simp
          with_reducible rfl
        rotate_left
        · simp only [Act.put, List.setIfInBounds_toArray, List.set_cons_zero, List.set_cons_succ, i64_w, i32_w]
          rfl
        refine pure_ (i := 13) (N := some 30) (v := ?_) (a' := ?_) #[true, true, true, true, true, false, true, true, true, true, true, true, true, true, false, false, false, false, false, false, false, false, false, false, false] rfl rfl (any_of HT_.out (by kernel_rfl)) (fun _ _ _ h => h) (Or.inl ⟨by rfl, ?_⟩) ?_ ?_
        rotate_left
        · intro w'
          go_simp
          with_reducible rfl
        rotate_left
        · simp only [Act.put, List.setIfInBounds_toArray, List.set_cons_zero, List.set_cons_succ, i64_w, i32_w]
          rfl
        refine pure_ (i := 15) (N := some 32) (v := ?_) (a' := ?_) #[true, true, true, true, true, false, true, true, true, true, true, true, true, true, false, true, false, false, false, false, false, false, false, false, false] rfl rfl (any_of HT_.out (by kernel_rfl)) (fun _ _ _ h => h) (Or.inl ⟨by rfl, ?_⟩) ?_ ?_
        rotate_left
        · intro w'
          go_simp
          with_reducible rfl
        rotate_left
        · simp only [Act.put, List.setIfInBounds_toArray, List.set_cons_zero, List.set_cons_succ, i64_w, i32_w]
          rfl
        refine pure_ (i := 16) (N := some 33) (v := ?_) (a' := ?_) #[true, true, true, true, true, false, true, true, true, true, true, true, true, true, false, true, true, false, false, false, false, false, false, false, false] rfl rfl (any_of HT_.out (by kernel_rfl)) (fun _ _ _ h => h) (Or.inl ⟨by rfl, ?_⟩) ?_ ?_
        rotate_left
        · intro w'
          go_simp
          with_reducible rfl
        rotate_left
        · simp only [Act.put, List.setIfInBounds_toArray, List.set_cons_zero, List.set_cons_succ, i64_w, i32_w]
          rfl
        refine pure_ (i := 18) (N := some 35) (v := ?_) (a' := ?_) #[true, true, true, true, true, false, true, true, true, true, true, true, true, true, false, true, true, false, true, false, false, false, false, false, false] rfl rfl (any_of HT_.out (by kernel_rfl)) (fun _ _ _ h => h) (Or.inl ⟨by rfl, ?_⟩) ?_ ?_
        rotate_left
        · intro w'
          go_simp
          with_reducible rfl
        rotate_left
        · simp only [Act.put, List.setIfInBounds_toArray, List.set_cons_zero, List.set_cons_succ, i64_w, i32_w]
          rfl
        refine pure_ (i := 19) (N := some 36) (v := ?_) (a' := ?_) #[true, true, true, true, true, false, true, true, true, true, true, true, true, true, false, true, true, false, true, true, false, false, false, false, false] rfl rfl (any_of HT_.out (by kernel_rfl)) (fun _ _ _ h => h) (Or.inl ⟨by rfl, ?_⟩) ?_ ?_
        rotate_left
        · intro w'
          go_simp
          with_reducible rfl
        rotate_left
        · simp only [Act.put, List.setIfInBounds_toArray, List.set_cons_zero, List.set_cons_succ, i64_w, i32_w]
          rfl
        refine pure_ (i := 20) (N := some 37) (v := ?_) (a' := ?_) #[true, true, true, true, true, false, true, true, true, true, true, true, true, true, false, true, true, false, true, true, true, false, false, false, false] rfl rfl (any_of HT_.out (by kernel_rfl)) (fun _ _ _ h => h) (Or.inl ⟨by rfl, ?_⟩) ?_ ?_
        rotate_left
        · intro w'
          go_simp
          with_reducible rfl
        rotate_left
        · simp only [Act.put, List.setIfInBounds_toArray, List.set_cons_zero, List.set_cons_succ, i64_w, i32_w]
          rfl
        refine take_ (i := 21) (N := some 38) (v := ?_) (a' := ?_) #[true, true, true, true, true, false, true, true, true, true, true, true, true, true, false, true, true, false, true, true, true, true, false, false, false] rfl rfl (take_ofW HT_.out HW_.out (by kernel_rfl)) (fun _ _ _ h => h) (Or.inl ⟨by rfl, ?_⟩) hHeld ?_ ?_
        rotate_left
        · rintro w' ⟨s0, s1, s2⟩
          go_simp
          with_reducible rfl
        rotate_left
        · simp only [Act.put, List.setIfInBounds_toArray, List.set_cons_zero, List.set_cons_succ, i64_w, i32_w]
          rfl
        refine one_ (i := 5) (N := some 22) #[true, true, true, true, true, true, true, true, true, true, true, true, true, true, false, true, true, false, true, true, true, true, false, false, false] rfl rfl (one_of HT_.out (by kernel_rfl)) (by decide) (fun K hK => ?_)
        refine goes_ Try.func19 (by kernel_rfl) rfl #[.pointer (some ⟨p, 0, none⟩)] (by rfl) rfl rfl (by (try simp only [List.map_toArray, List.map_cons, List.map_nil]); first | done | rfl) ?_
        refine (Used_calls HDd.out).mono ?_
        rintro e w4 ⟨rfl, hb4⟩
        refine ⟨_, rfl, ?_⟩
        have HDf := Aside0.mk (HDd.out.below hb4)
        have HBf := Aside0.mk (HBd.out.trans (hb4.mono HBd.out.size))
        have HLf := Aside0.mk (HLd.out.trans (hb4.mono HLd.out.size))
        clear hb4 HDd HBd HLd
        rw [HTOT.out]
        refine hK.out _ _ (HLK.out w4 HLf.out) (fun hHeld => ?_)
        clear hK K
        refine norm_ (a' := ?_) ?_ ?_
        rotate_left
        · show Act.put _ (some 22) _ = _
          simp only [Act.put, List.setIfInBounds_toArray, List.set_cons_zero, List.set_cons_succ, i64_w, i32_w]
          rfl
        refine pure_ (i := 14) (N := some 31) (v := ?_) (a' := ?_) #[true, true, true, true, true, true, true, true, true, true, true, true, true, true, true, true, true, false, true, true, true, true, false, false, false] rfl rfl (any_of HT_.out (by kernel_rfl)) (fun _ _ _ h => h) (Or.inl ⟨by rfl, ?_⟩) ?_ ?_
        rotate_left
        · intro w'
          go_simp
          with_reducible rfl
        rotate_left
        · simp only [Act.put, List.setIfInBounds_toArray, List.set_cons_zero, List.set_cons_succ, i64_w, i32_w]
          rfl
        refine pure_ (i := 17) (N := some 34) (v := ?_) (a' := ?_) #[true, true, true, true, true, true, true, true, true, true, true, true, true, true, true, true, true, true, true, true, true, true, false, false, false] rfl rfl (any_of HT_.out (by kernel_rfl)) (fun _ _ _ h => h) (Or.inl ⟨by rfl, ?_⟩) ?_ ?_
        rotate_left
        · intro w'
          go_simp
          with_reducible rfl
        rotate_left
        · simp only [Act.put, List.setIfInBounds_toArray, List.set_cons_zero, List.set_cons_succ, i64_w, i32_w]
          rfl
        refine pure_ (i := 22) (N := some 39) (v := ?_) (a' := ?_) #[true, true, true, true, true, true, true, true, true, true, true, true, true, true, true, true, true, true, true, true, true, true, true, false, false] rfl rfl (any_of HT_.out (by kernel_rfl)) (fun _ _ _ h => h) (Or.inl ⟨by rfl, ?_⟩) ?_ ?_
        rotate_left
        · intro w'
          go_simp
          with_reducible rfl
        rotate_left
        · simp only [Act.put, List.setIfInBounds_toArray, List.set_cons_zero, List.set_cons_succ, i64_w, i32_w]
          rfl
        refine pure_ (i := 23) (N := some 40) (v := ?_) (a' := ?_) #[true, true, true, true, true, true, true, true, true, true, true, true, true, true, true, true, true, true, true, true, true, true, true, true, false] rfl rfl (any_of HT_.out (by kernel_rfl)) (fun _ _ _ h => h) (Or.inl ⟨by rfl, ?_⟩) ?_ ?_
        rotate_left
        · intro w'
          go_simp
          with_reducible rfl
        rotate_left
        · simp only [Act.put, List.setIfInBounds_toArray, List.set_cons_zero, List.set_cons_succ, i64_w, i32_w]
          rfl
        refine pure_ (i := 24) (N := some 16) (v := ?_) (a' := ?_) #[true, true, true, true, true, true, true, true, true, true, true, true, true, true, true, true, true, true, true, true, true, true, true, true, true] rfl rfl (any_of HT_.out (by kernel_rfl)) (fun _ _ _ h => h) (Or.inl ⟨by rfl, ?_⟩) ?_ ?_
        rotate_left
        · intro w'
          go_simp
          with_reducible rfl
        rotate_left
        · simp only [Act.put, List.setIfInBounds_toArray, List.set_cons_zero, List.set_cons_succ, i64_w, i32_w]
          rfl
        refine done_ (done_of HT_.out (by kernel_rfl)) ?_
        cases q with
        | true =>
          go_wp2
          go_ret
          exact ⟨rfl, HDf.out.mono (by omega) (by omega), Fr.of_below HBf.out⟩
        | false =>
          go_wp2_with fail
          refine start_ (n := 9) (S := fun w' => w'.cell? ⟨p, 0, none⟩ = some (.map (some b))) (ds := [8]) #[false, false, false, false, false, false, false, false, false] (by kernel_rfl) rfl rfl HDf.out.cells.1 (fun hHeld => ?_); refine with_tabW Dwrite.tab7 Dwrite.bits7 (fun HT_ HW_ => ?_)
          have HDg := Aside0.mk (HDf.out.below ((Below.refl w4.heap.size w4).drew))
          have HBg := Aside0.mk (HBf.out.drew)
          clear HDf HBf HLf
          generalize World.drew _ = w5 at HDg HBg hHeld ⊢
          refine pure_ (i := 0) (N := some 41) (v := ?_) (a' := ?_) #[true, false, false, false, false, false, false, false, false] rfl rfl (any_of HT_.out (by kernel_rfl)) (fun _ _ _ h => h) (Or.inl ⟨by rfl, ?_⟩) ?_ ?_
          rotate_left
          · intro w'
            go_simp
            with_reducible rfl
          rotate_left
          · simp only [Act.put, List.setIfInBounds_toArray, List.set_cons_zero, List.set_cons_succ, i64_w, i32_w]
            rfl
          refine pure_ (i := 1) (N := some 42) (v := ?_) (a' := ?_) #[true, true, false, false, false, false, false, false, false] rfl rfl (any_of HT_.out (by kernel_rfl)) (fun _ _ _ h => h) (Or.inl ⟨by rfl, ?_⟩) ?_ ?_
          rotate_left
          · intro w'
            go_simp
            with_reducible rfl
          rotate_left
          · simp only [Act.put, List.setIfInBounds_toArray, List.set_cons_zero, List.set_cons_succ, i64_w, i32_w]
            rfl
          refine pure_ (i := 2) (N := some 43) (v := ?_) (a' := ?_) #[true, true, true, false, false, false, false, false, false] rfl rfl (any_of HT_.out (by kernel_rfl)) (fun _ _ _ h => h) (Or.inl ⟨by rfl, ?_⟩) ?_ ?_
          rotate_left
          · intro w'
            go_simp
            with_reducible rfl
          rotate_left
          · simp only [Act.put, List.setIfInBounds_toArray, List.set_cons_zero, List.set_cons_succ, i64_w, i32_w]
            rfl
          refine take_ (i := 3) (N := some 44) (v := ?_) (a' := ?_) #[true, true, true, true, false, false, false, false, false] rfl rfl (take_ofW HT_.out HW_.out (by kernel_rfl)) (fun _ _ _ h => h) (Or.inl ⟨by rfl, ?_⟩) hHeld ?_ ?_
          rotate_left
          · rintro w' s0
            go_simp
            with_reducible rfl
          rotate_left
          · simp only [Act.put, List.setIfInBounds_toArray, List.set_cons_zero, List.set_cons_succ, i64_w, i32_w]
            rfl
          refine pure_ (i := 4) (N := some 45) (v := ?_) (a' := ?_) #[true, true, true, true, true, false, false, false, false] rfl rfl (any_of HT_.out (by kernel_rfl)) (fun _ _ _ h => h) (Or.inl ⟨by rfl, ?_⟩) ?_ ?_
          rotate_left
          · intro w'
            go_simp
            with_reducible rfl
          rotate_left
          · simp only [Act.put, List.setIfInBounds_toArray, List.set_cons_zero, List.set_cons_succ, i64_w, i32_w]
            rfl
          refine pure_ (i := 5) (N := some 46) (v := ?_) (a' := ?_) #[true, true, true, true, true, true, false, false, false] rfl rfl (any_of HT_.out (by kernel_rfl)) (fun _ _ _ h => h) (Or.inl ⟨by rfl, ?_⟩) ?_ ?_
          rotate_left
          · intro w'
            go_simp
            with_reducible rfl
          rotate_left
          · simp only [Act.put, List.setIfInBounds_toArray, List.set_cons_zero, List.set_cons_succ, i64_w, i32_w]
            rfl
          refine one_ (i := 6) (N := some 47) #[true, true, true, true, true, true, true, false, false] rfl rfl (one_of HT_.out (by kernel_rfl)) (by decide) (fun K hK => ?_)
          refine goes_ Try.func41 (by kernel_rfl) rfl #[.slice A bs.length cp] (by rfl) rfl rfl (by (try simp only [List.map_toArray, List.map_cons, List.map_nil]); first | done | rfl) ?_
          refine (Clone_calls (Kd.C_below HC.out HBg.out) HL.out).mono ?_
          rintro e w6 ⟨v6, rfl, ho6, hb6⟩
          refine ⟨_, rfl, ?_⟩
          have hB6 := IsB.of_own ho6 rfl HL.out
          obtain ⟨A6, c6, rfl⟩ := hB6.agg
          have HB6 := Aside0.mk hB6
          have HAV := Aside0.mk (Av.of_own ho6 (fun k hk => Nat.lt_of_lt_of_le (HX.out k hk) HBg.out.size))
          have HDh := Aside0.mk (HDg.out.below hb6)
          have HBh := Aside0.mk (HBg.out.trans (hb6.mono HBg.out.size))
          clear hb6 ho6 hB6 HDg HBg
          refine hK.out _ _ HDh.out.cells.1 (fun hHeld => ?_)
          clear hK K
          refine norm_ (a' := ?_) ?_ ?_
          rotate_left
          · show Act.put _ (some 47) _ = _
            simp only [Act.put, List.setIfInBounds_toArray, List.set_cons_zero, List.set_cons_succ, i64_w, i32_w]
            rfl
          refine pure_ (i := 7) (N := some 48) (v := ?_) (a' := ?_) #[true, true, true, true, true, true, true, true, false] rfl rfl (any_of HT_.out (by kernel_rfl)) (fun _ _ _ h => h) (Or.inl ⟨by rfl, ?_⟩) ?_ ?_
          rotate_left
          · intro w'
            go_simp
            with_reducible rfl
          rotate_left
          · simp only [Act.put, List.setIfInBounds_toArray, List.set_cons_zero, List.set_cons_succ, i64_w, i32_w]
            rfl
          obtain ⟨w7, hrun7, hd7, hf7⟩ := HDh.out.put_ hn hN (f := ⟨nm.data.toList, bs, 0⟩) ⟨_, rfl, HB6.out, HAV.out, Int.le_refl _, Int.natCast_nonneg _, HMX.out⟩ rfl
          refine last_ (i := 8) (N := none) #[true, true, true, true, true, true, true, true, true] rfl rfl (one_of HT_.out (by kernel_rfl)) (by decide) (fun K hK => ?_)
          refine skip_ (w1 := w7) (by rfl) rfl ?_ ?_
          · go_simp
            first | done | simp [hrun7, Result.andThen]
          refine hK.out _ _ ?_
          clear hK K
          have HD7 := Aside0.mk hd7
          have HF7 := Aside0.mk ((Fr.of_below HBh.out).trans hf7)
          clear hd7 hf7 hrun7 HDh HBh HB6
          refine done_ (done_of HT_.out (by kernel_rfl)) ?_
          go_wp2_with (go_at_call 42; refine (done_calls HD7.out).mono ?_; rintro e w8 ⟨rfl, hd8, hf8⟩)
          go_ret
          rw [HR.out, c] at hd8
          exact ⟨rfl, hd8, HF7.out.trans hf8⟩
theorem Write_calls {N : Nat} {w : World} {p b : Nat} {d : Dk} (h : IsD N w p b d) (hN : N < 1000000) {nm : ByteArray} (hn : nm.size ≤ maxLen) {A : Option Addr} {cp : Nat} {bs : List Int} (hC : Kd.C (Kd.int .u8) w A bs.length bs) :
    Calls Try.prog 11 #[.pointer (some ⟨p, 0, none⟩), .string nm, .slice A bs.length cp] w fun e w' => e = .returned (.int .i64 (wrD d nm.data.toList bs).1) ∧ IsD (N + 1) w' p b (wrD d nm.data.toList bs).2 ∧ Fr (Two p b) w w' :=
  Write_callsX h (fun _ h => h.elim) hN hn hC
end Go.Proofs.Ytihbgdobicokpaa.D
namespace Go.Proofs.Ytihbgdobicokpaa.D
open Go.RowKit Go.Maps Go.Proofs.Ytihbgdobicokpaa.X Go.Proofs.YtihbgdobicokpaaW.PrintWords Go.Proofs.YtihbgdobicokpaaW.PrintLast Go.Proofs.YtihbgdobicokpaaW.PrintMore
attribute [local go_sem] max2_int min2_int max_two min_two max_three min_three max_four min_four   -- for this text's walks alone
set_option linter.unusedVariables false
set_option linter.unusedSimpArgs false
theorem Keys_calls (b : Nat) (W : World) : Calls Try.prog 45 #[.map (some b)] W fun e w' => e = .returned (.func (.func 56) #[] #[.pointer (some ⟨W.heap.size, 0, none⟩)]) ∧ w' = W.alloc (.cells #[.map (some b)] 62) :=
  callsIn_wide.1 (Go.Proofs.Try.maps_Keys_45 (some b) W)
theorem Sorted_calls {N : Nat} {w : World} {p b : Nat} {d : Dk} (h : IsD N w p b d) :
    Calls Try.prog 44 #[.func (.func 56) #[] #[.pointer (some ⟨w.heap.size, 0, none⟩)]] (w.alloc (.cells #[.map (some b)] 62)) fun e w' => ∃ A c, e = .returned (.slice A (names d.fs).length c) ∧ (names d.fs).length ≤ 1000000 ∧ w'.ownsRow w.heap.size 9 1 (.slice A (names d.fs).length c) (names d.fs).length ((names d.fs).map Go.Proofs.encStr) ∧ Below w.heap.size w w' := by
  have hs := h.sorted
  have hnl := names_len h
  have hsm := h.small
  obtain ⟨es, hown, hfs⟩ := h.fs
  have hnm := hfs.names
  have hle : es.length ≤ N := by have := congrArg List.length hnm; simp at this; omega
  have hmax : Maps.size (DM es) ≤ maxLen := by rw [DM_size]; unfold maxLen; omega
  have hbytes : Maps.size (DM es) * 16 ≤ 140737488355328 := by rw [DM_size]; omega
  refine (callsIn_wide.1 (Go.Proofs.Try.slices_Sorted_keys_44_45 b N (DM es) RF w hown hmax hbytes)).mono ?_
  rintro e w' ⟨v, ss, rfl, hS, hrow, hnil, hb⟩
  rw [DM_keys, hnm] at hS
  rw [sort_names hs hS] at hrow
  have e : ss.length = (names d.fs).length := hS.length_eq
  rw [e] at hrow
  obtain ⟨A, c, rfl⟩ := own_slice hrow
  exact ⟨A, c, rfl, by unfold names; rw [List.length_map]; omega, own_weaken hrow (by simp), ((Below.refl _ w).alloc (Nat.le_refl _) _).trans (hb.mono (by simp))⟩
theorem row_cells {w : World} {base n c : Nat} {A : Option Addr} {xs : List Value} (h : w.ownsRow base 9 1 (.slice A n c) n xs) (i : Nat) {v : Value} (hi : xs[i]? = some v) : ∃ ad, A = some ad ∧ w.cell? (ad.add i) = some v := by
  obtain ⟨h1, ⟨h2, h3⟩ | ⟨g, cap, cur, h2, h3, h4, h5, h6, h7, h8⟩⟩ := h
  · rw [h3] at h1
    have : xs = [] := List.eq_nil_of_length_eq_zero (by omega)
    rw [this] at hi
    simp at hi
  · cases h2
    refine ⟨_, rfl, ?_⟩
    have hil : i < n := by have := (List.getElem?_eq_some_iff.1 hi).1; omega
    rw [← h8, Nat.mul_one, List.getElem?_take, if_pos hil] at hi
    have hb : (Addr.add ⟨g, 0, none⟩ i).block = g := by unfold Addr.add; split <;> rfl
    have hs : (Addr.add ⟨g, 0, none⟩ i).spot = none := by unfold Addr.add; split <;> rfl
    have ho : (Addr.add ⟨g, 0, none⟩ i).off = i := by unfold Addr.add; split <;> simp_all
    simp only [World.cell?, hb, h4, hs, ho]
    simpa using hi
theorem row_fr {w w' : World} {base n c e : Nat} {A : Option Addr} {xs : List Value} {M : Nat → Prop} (h : w.ownsRow base e 1 (.slice A n c) n xs) (hf : Fr M w w') (hM : ∀ k, M k → k < base) : w'.ownsRow base e 1 (.slice A n c) n xs := by
  obtain ⟨h1, h2 | ⟨g, cap, cur, h2, h3, h4, h5⟩⟩ := h
  · exact ⟨h1, Or.inl h2⟩
  · exact ⟨h1, Or.inr ⟨g, cap, cur, h2, h3, (hf.block g (lt_of_block h4) (fun hm => by have := hM g hm; omega)).trans h4, h5⟩⟩
def endOf (keep : List Int) (i : Nat) (f : Fl) : Nat := f.s.toNat + (if i < keep.length then (min (max (keep.getD i 0) 0) (f.b.length - f.s)).toNat else 0)
def crF (keep : List Int) (i : Nat) (f : Fl) : Fl := ⟨f.n, f.b.take (endOf keep i f), endOf keep i f⟩
def crL (keep : List Int) : Nat → List Fl → List Fl
  | _, [] => []
  | i, f :: r => crF keep i f :: crL keep (i + 1) r
def crD (d : Dk) (keep : List Int) : Dk := { d with fs := crL keep 0 d.fs, cut := -1, dead := false }
theorem crL_append (keep : List Int) : ∀ (a : List Fl) (k : Nat) (c : List Fl), crL keep k (a ++ c) = crL keep k a ++ crL keep (k + a.length) c
  | [], k, c => by simp [crL]
  | f :: r, k, c => by
    simp only [List.cons_append, crL, List.length_cons]
    rw [crL_append keep r (k + 1) c, show k + 1 + r.length = k + (r.length + 1) by omega]
theorem names_crL (keep : List Int) : ∀ (k : Nat) (l : List Fl), names (crL keep k l) = names l
  | _, [] => rfl
  | k, f :: r => by
    have := names_crL keep (k + 1) r
    unfold names at this ⊢
    simp [crL, crF, this]
theorem before_ne {a c : Nm} (h : bytesBefore a c = true) : a ≠ c := fun e => by rw [e, WideAt.bytes_irrefl] at h; cases h
theorem look_mid {pre post : List Fl} {f : Fl} (hs : (names (pre ++ f :: post)).Pairwise (fun a c => bytesBefore a c = true)) : look f.n (pre ++ f :: post) = some f := by
  unfold look
  rw [List.find?_append]
  have h1 : pre.find? (fun g => g.n == f.n) = none := by
    rw [List.find?_eq_none]
    intro g hg
    unfold names at hs
    rw [List.map_append, List.pairwise_append] at hs
    have := hs.2.2 g.n (List.mem_map_of_mem hg) f.n (by simp)
    simpa using before_ne this
  rw [h1]
  simp
theorem put_mid {pre post : List Fl} {f f' : Fl} (hn : f'.n = f.n) (hs : (names (pre ++ f :: post)).Pairwise (fun a c => bytesBefore a c = true)) : put Fl.n f' (pre ++ f :: post) = pre ++ f' :: post := by
  unfold names at hs
  rw [List.map_append, List.pairwise_append, List.map_cons, List.pairwise_cons] at hs
  obtain ⟨h1, ⟨h2, h3⟩, h4⟩ := hs
  unfold put out
  rw [hn, List.filter_append, List.filter_cons]
  have e1 : pre.filter (fun y => !(y.n == f.n)) = pre := List.filter_eq_self.2 fun g hg => by
    have := before_ne (h4 g.n (List.mem_map_of_mem hg) f.n (by simp))
    simpa using this
  have e2 : post.filter (fun y => !(y.n == f.n)) = post := List.filter_eq_self.2 fun g hg => by
    have := before_ne (h2 g.n (List.mem_map_of_mem hg))
    simpa using fun e => this e.symm
  rw [e1, e2]
  simp only [beq_self_eq_true, Bool.not_true, Bool.false_eq_true, if_false]
  clear e1 e2 h1
  induction pre with
  | nil =>
    cases post with
    | nil => rfl
    | cons g r =>
      show ins Fl.n f' (g :: r) = _
      unfold ins
      rw [hn, if_pos (h2 g.n (by simp))]
      rfl
  | cons g r ih =>
    show ins Fl.n f' (g :: (r ++ post)) = _
    unfold ins
    have hgf := h4 g.n (by simp) f.n (by simp)
    rw [hn, if_neg (fun e => by have := WideShapes.bytes_trans _ _ _ hgf e; rw [WideAt.bytes_irrefl] at this; cases this)]
    rw [ih (fun a ha c hc => h4 a (by simp at ha ⊢; exact Or.inr ha) c hc)]
    rfl
theorem IsDX.tight {X : Nat → Prop} {N N' : Nat} {w : World} {p b : Nat} {d : Dk} (h : IsDX X N w p b d) (hl : d.fs.length ≤ N') (hN : N' ≤ 1000000) : IsDX X N' w p b d := by
  obtain ⟨es, ⟨e1, c1, h1, h2, h3, h4⟩, hf⟩ := h.fs
  refine ⟨h.at_, ⟨es, ⟨e1, c1, h1, h2, ?_, h4⟩, hf⟩, hN, h.room0, h.room1, h.cut0, h.cut1⟩
  have e := congrArg List.length hf.names
  have e2 : es.length = e1.size := by
    have := congrArg Maps.size h4
    rw [DM_size] at this
    rw [this]
    simp [Maps.size, length_sorted]
  simp only [List.length_map] at e
  omega
theorem slice23 (A : Option Addr) (n c e : Nat) (he : e ≤ c) (w : World) : (Instr.slice 23 (.slice A n c) none (some (.int .i64 (e : Int))) (some (.int .i64 (e : Int)))).run Try.prog w = .ok (.slice A e e) w := by
  have h1 : (Instr.sliceBounds true n c none (some (.int .i64 (e : Int))) (some (.int .i64 (e : Int)))).run Try.prog w = .ok (0, e, e) w := by
    unfold Instr.sliceBounds
    simp [run_sliceBound, he, Result.andThen]
  unfold Instr.slice
  simp [run_underlying Try.underlying23, h1, Result.andThen, Try.sizeOf5]
  intro _
  cases A <;> simp [Addr.add]
def Dcrash.T6 : Bool × List (List Nat × List Nat) := (true, [([], []), ([], []), ([0, 1], [0, 1]), ([2], [2]), ([3], [3]), ([], []), ([5], [5]), ([6], [6]), ([], []), ([8], [8]), ([7, 9], [7, 9]), ([4, 10], [4, 10]), ([11, 0, 1, 2, 3, 4, 5, 6, 7, 8, 9, 10, 11], [11])])
def Dcrash.B6 : List Nat := [0, 0, 3, 7, 15, 0, 32, 96, 0, 256, 992, 2047, 4095]
theorem Dcrash.tab6 : rtab .any (opsOf Try.f14 6) = Dcrash.T6 := by kernel_rfl
theorem Dcrash.bits6 : waitsOk Dcrash.T6.2 Dcrash.B6 = true := by kernel_rfl
def Dcrash.T8 : Bool × List (List Nat × List Nat) := (true, [([], []), ([0], [0]), ([1], [1]), ([2], [2]), ([], []), ([], []), ([5], [5]), ([], []), ([], []), ([6, 7, 8], [6, 7, 8]), ([], []), ([9, 10], [9, 10]), ([3, 4, 11, 0, 1, 2, 3, 4, 5, 6, 7, 8, 9, 10, 11], [3, 4, 11])])
def Dcrash.B8 : List Nat := [0, 1, 3, 7, 0, 0, 32, 0, 0, 480, 0, 2016, 4095]
theorem Dcrash.tab8 : rtab .any (opsOf Try.f14 8) = Dcrash.T8 := by kernel_rfl
theorem Dcrash.bits8 : waitsOk Dcrash.T8.2 Dcrash.B8 = true := by kernel_rfl
def fsI (keep : List Int) (fs : List Fl) (i : Nat) : List Fl := crL keep 0 (fs.take i) ++ fs.drop i
theorem fsI_zero (keep : List Int) (fs : List Fl) : fsI keep fs 0 = fs := by simp [fsI, crL]
theorem fsI_end (keep : List Int) (fs : List Fl) : fsI keep fs fs.length = crL keep 0 fs := by simp [fsI]
theorem fsI_at (keep : List Int) {fs : List Fl} {i : Nat} {f : Fl} (hf : fs[i]? = some f) : fsI keep fs i = crL keep 0 (fs.take i) ++ f :: fs.drop (i + 1) ∧ fsI keep fs (i + 1) = crL keep 0 (fs.take i) ++ crF keep i f :: fs.drop (i + 1) := by
  obtain ⟨hi, rfl⟩ := List.getElem?_eq_some_iff.1 hf
  refine ⟨by unfold fsI; rw [List.drop_eq_getElem_cons hi], ?_⟩
  unfold fsI
  rw [List.take_succ_eq_append_getElem hi, crL_append, List.append_assoc]
  have : (fs.take i).length = i := by simp; omega
  rw [Nat.zero_add, this]
  rfl
theorem fsI_names (keep : List Int) (fs : List Fl) (i : Nat) : names (fsI keep fs i) = names fs := by
  have h := names_crL keep 0 (fs.take i)
  unfold names at h ⊢
  unfold fsI
  rw [List.map_append, h, ← List.map_append, List.take_append_drop]
theorem fsI_len (keep : List Int) (fs : List Fl) (i : Nat) : (fsI keep fs i).length = fs.length := by
  have h := congrArg List.length (fsI_names keep fs i)
  simpa [names] using h
theorem IsDX.nmle {X : Nat → Prop} {N : Nat} {w : World} {p b : Nat} {d : Dk} (h : IsDX X N w p b d) : ∀ x ∈ names d.fs, x.length ≤ maxLen := by
  obtain ⟨es, hown, hfs⟩ := h.fs
  have := strKeys_le hown Try.underlying9
  rw [DM_keys, hfs.names] at this
  exact this
theorem round_ {N : Nat} {w : World} {p b : Nat} {d : Dk} {keep : List Int} {i : Nat} (h : IsD N w p b { d with fs := fsI keep d.fs i }) (hi : i < d.fs.length) :
    ∃ f, d.fs[i]? = some f ∧ (names d.fs)[i]? = some f.n ∧ f.n.length ≤ maxLen ∧ got f.n (fsI keep d.fs i) = (f.b, f.s) ∧ put Fl.n (crF keep i f) (fsI keep d.fs i) = fsI keep d.fs (i + 1) := by
  have hf : d.fs[i]? = some d.fs[i] := List.getElem?_eq_getElem hi
  obtain ⟨h1, h2⟩ := fsI_at keep hf
  have hs := h.sorted
  have hn : (names d.fs)[i]? = some (d.fs[i]).n := by unfold names; rw [List.getElem?_map, hf]; rfl
  refine ⟨d.fs[i], hf, hn, ?_, ?_, ?_⟩
  · have := h.nmle (d.fs[i]).n (by show _ ∈ names (fsI keep d.fs i); rw [fsI_names]; exact List.mem_of_getElem? hn)
    exact this
  · have hs : (names (fsI keep d.fs i)).Pairwise (fun a c => bytesBefore a c = true) := hs
    unfold got
    rw [h1] at hs ⊢
    rw [look_mid hs]
  · have hs : (names (fsI keep d.fs i)).Pairwise (fun a c => bytesBefore a c = true) := hs
    rw [h2]
    rw [h1] at hs ⊢
    exact put_mid rfl hs
theorem IsB.cut {W : World} {A : Option Addr} {c e : Nat} {bs : List Int} (h : IsB W (.slice A bs.length c) bs) (he : e ≤ bs.length) : IsB W (.slice A e e) (bs.take e) := by
  have hl : (bs.take e).length = e := by rw [List.length_take]; omega
  rcases h with ⟨h1, rfl⟩ | ⟨g, cap, cur, h1, h2, h3, h4, h5⟩
  · cases h1
    have : e = 0 := by simpa using he
    subst this
    exact Or.inl ⟨rfl, rfl⟩
  · cases h1
    refine Or.inr ⟨g, e, cur, by rw [hl], by rw [hl]; exact Nat.le_refl _, by rw [hl]; omega, h4, ?_⟩
    rw [hl, List.map_take, ← h5, List.take_take, Nat.min_eq_left he]
set_option maxHeartbeats 4000000 in
set_option maxRecDepth 100000 in
theorem Crash_calls {N : Nat} {w : World} {p b : Nat} {d : Dk} (h : IsD N w p b d) (hN : N < 1000000) {A : Option Addr} {cp : Nat} {keep : List Int} (hK : ∀ w', Fr (Two p b) w w' → Kd.C (Kd.int .i64) w' A keep.length keep) :
    Calls Try.prog 14 #[.pointer (some ⟨p, 0, none⟩), .slice A keep.length cp] w fun e w' => e = .returned (.tuple #[]) ∧ IsD N w' p b (crD d keep) ∧ Fr (Two p b) w w' := by
  obtain ⟨hc0, _⟩ := h.cells
  have hlen : (names d.fs).length = d.fs.length := by simp [names]
  have hnl := names_len h
  have HK := Aside0.mk hK
  have H := Aside0.mk h
  have HNL := Aside0.mk hnl
  clear h hK hnl
  go_enter Try.func14, Try.ntmps14
  go_wp2_with (first
    | (go_at_call 45; refine (Keys_calls b _).mono ?_; rintro e w' ⟨rfl, rfl⟩)
    | (go_at_call 44; refine (Sorted_calls H.out).mono ?_; rintro e w1 ⟨Ar, cr, rfl, hnm, hrow, hb1⟩; have HROW := Aside0.mk hrow; have HB1 := Aside0.mk hb1; have HD1 := Aside0.mk (H.out.below hb1); have HNM := Aside0.mk hnm; clear hrow hb1 hnm)
    | fail)
  go_loopg [16] ((names d.fs).length) (fun kx s16 wr => ∃ i : Nat, s16 = .int .i64 (i : Int) ∧ i ≤ d.fs.length ∧ d.fs.length - i ≤ kx ∧ Aside0 (IsD N wr p b { d with fs := fsI keep d.fs i }) ∧ Aside0 (Fr (Two p b) w1 wr))
  case atStart => exact ⟨0, rfl, Nat.zero_le _, by omega, ⟨by rw [fsI_zero]; exact HD1.out⟩, ⟨Fr.refl _ _⟩⟩
  case round =>
    obtain ⟨i, rfl, hi, hk, HD, HF⟩ := hrel
    by_cases hgo : i < d.fs.length
    · have hlz : (i : Int) < ((names d.fs).length : Int) := by omega
      have hnm6 := HNM.out
      have hwi : wrap64 ((i : Int) + 1) = ((i + 1 : Nat) : Int) := by unfold wrap64; omega
      obtain ⟨⟨fn, bs, s⟩, hf, hfn, hnb, hgot, hput⟩ := round_ HD.out hgo
      obtain ⟨ad, e1, hcell⟩ := row_cells (row_fr HROW.out HF.out (fun k hk => by rcases hk with rfl | rfl; exact H.out.lt; exact H.out.ltb)) i (v := .string ⟨fn.toArray⟩) (by rw [List.getElem?_map, hfn]; rfl)
      cases e1
      have hc0 := HD.out.cells.1
      have HNB : Aside0 ((⟨fn.toArray⟩ : ByteArray).size ≤ maxLen) := ⟨hnb⟩
      obtain ⟨sl, hrun, hsl, hs0, hs1, hmx⟩ := HD.out.lk (nm := ⟨fn.toArray⟩) HNB.out
      have hgot' : got (⟨fn.toArray⟩ : ByteArray).data.toList ({ d with fs := fsI keep d.fs i } : Dk).fs = (bs, s) := hgot
      rw [hgot'] at hrun hsl hs0 hs1 hmx
      simp only at hrun hsl hs0 hs1 hmx
      obtain ⟨A0, c0, rfl, hc0b⟩ := hsl.slice
      obtain ⟨mo, hmo⟩ : ∃ m : Nat, (if i < keep.length then (min (max (keep.getD i 0) 0) (bs.length - s)).toNat else 0) = m := ⟨_, rfl⟩
      have hmo1 : (mo : Int) ≤ bs.length - s := by rw [← hmo]; split <;> omega
      obtain ⟨en, hen⟩ : ∃ e, endOf keep i ⟨fn, bs, s⟩ = e := ⟨_, rfl⟩
      have hen1 : s.toNat + mo = en := by rw [← hen, ← hmo]; rfl
      have hw : wrap64 (s + (mo : Int)) = (en : Int) := by unfold wrap64; omega
      have hsl23 := slice23 A0 bs.length c0 en (by omega)
      have HISF : Aside0 (∀ W, IsB W (.slice A0 bs.length c0) bs → IsF W (.agg #[.slice A0 en en, .int .i64 (en : Int)]) (crF keep i ⟨fn, bs, s⟩)) := ⟨fun W hW => by
        have e2 : (bs.take en).length = en := by rw [List.length_take]; omega
        refine ⟨.slice A0 en en, ?_, ?_, Av.none, ?_, ?_, ?_⟩
        · unfold crF; rw [hen]
        · unfold crF; rw [hen]; exact hW.cut (by omega)
        · unfold crF; rw [hen]; exact Int.natCast_nonneg _
        · unfold crF; rw [hen]; simp only; rw [e2]; exact Int.le_refl _
        · unfold crF; rw [hen]; simp only; rw [e2]; omega⟩
      have hba := (Below.refl wr.heap.size wr).alloc (Nat.le_refl _) (.cells #[.slice A0 bs.length c0, .int .i64 s] 67)
      have HDa := Aside0.mk (HD.out.below hba)
      have HSa := Aside0.mk (hsl.below hba)
      have HFa := Aside0.mk (HF.out.below hba)
      have HBK := Aside0.mk (heap_alloc_new wr (.cells #[.slice A0 bs.length c0, .int .i64 s] 67))
      have HPUT := Aside0.mk hput
      by_cases hkl : i < keep.length
      · have hklz : (i : Int) < (keep.length : Int) := by omega
        obtain ⟨kv, hkv⟩ : ∃ x, keep.getD i 0 = x := ⟨_, rfl⟩
        obtain ⟨m1, hm1⟩ : ∃ m, (if kv < 0 then 0 else kv) = m := ⟨_, rfl⟩
        obtain ⟨lim, hlim⟩ : ∃ l, wrap64 ((bs.length : Int) - s) = l := ⟨_, rfl⟩
        have hlim1 : lim = bs.length - s := by clear hmo hm1 hw hen hen1 hmo1; rw [← hlim]; unfold wrap64; omega
        have hmn : (if lim < m1 then lim else m1) = (mo : Int) := by
          rw [← hmo, if_pos hkl, hkv, hlim1, ← hm1]
          clear hm1 hw hen hen1 hmo1 hmo hlim hlim1 hrun hwi
          (repeat' split) <;> omega
        have hKC := HK.out _ ((Fr.of_below HB1.out).trans HFa.out)
        obtain ⟨ad2, e2, hkc0⟩ := hKC.2.2 (by omega)
        obtain ⟨cs, h1, h2, h3⟩ := hkc0 i (keep[i]'hkl) (List.getElem?_eq_getElem hkl)
        have h2 : cs = [.int .i64 (keep[i]'hkl)] := h2
        subst h2
        have hkc : (wr.alloc (.cells #[.slice A0 bs.length c0, .int .i64 s] 67)).cell? (Addr.add ad2 i) = some (.int .i64 kv) := by
          have := h3 0 _ rfl
          simp only [Kd.int, Kd.scalar, Nat.mul_one, Nat.add_zero] at this
          rw [this, ← hkv]
          simp [List.getD, List.getElem?_eq_getElem hkl]
        cases e2
        have hka : True := trivial
        clear hKC hkc0 h1 h3 hsl hs0 hs1 hmx hba hmo hmo1 hen hen1 hkv hlim1 hgot hgot' hput hf hfn hnb HD HF
        go_wp2_with fail
        generalize wr.alloc (.cells #[.slice A0 bs.length c0, .int .i64 s] 67) = wa at HDa HSa HFa HBK hkc ⊢
        refine start_ (n := 13) (S := fun w' => w'.cell? (Addr.add ad2 i) = some (.int .i64 kv) ∧ w'.cell? ⟨wr.heap.size, 0, none⟩ = some (.slice A0 bs.length c0) ∧ w'.cell? ⟨wr.heap.size, 1, none⟩ = some (.int .i64 s)) (ds := []) #[false, false, false, false, false, false, false, false, false, false, false, false, false] (by kernel_rfl) rfl rfl ⟨hkc, (blk_cell HBK.out 0).trans rfl, (blk_cell HBK.out 1).trans rfl⟩ (fun hHeld => ?_); refine with_tabW Dcrash.tab6 Dcrash.bits6 (fun HT_ HW_ => ?_)
        have HDd := Aside0.mk (HDa.out.below ((Below.refl wa.heap.size wa).drew))
        have HSd := Aside0.mk (HSa.out.below ((Below.refl wa.heap.size wa).drew))
        have HFd := Aside0.mk (HFa.out.drew)
        have HBKd := Aside0.mk (blk_drew HBK.out)
        clear HDa HSa HFa HBK hkc hka
        generalize World.drew _ = wx at HDd HSd HFd HBKd hHeld ⊢
        refine pure_ (i := 0) (N := some 31) (v := ?_) (a' := ?_) #[true, false, false, false, false, false, false, false, false, false, false, false, false] rfl rfl (any_of HT_.out (by kernel_rfl)) (fun _ _ _ h => h) (Or.inl ⟨by rfl, ?_⟩) ?_ ?_
        rotate_left
        · intro w'
          go_simp
          with_reducible rfl
        rotate_left
        · simp only [Act.put, List.setIfInBounds_toArray, List.set_cons_zero, List.set_cons_succ, i64_w, i32_w]
          rfl
        refine pure_ (i := 1) (N := some 32) (v := ?_) (a' := ?_) #[true, true, false, false, false, false, false, false, false, false, false, false, false] rfl rfl (any_of HT_.out (by kernel_rfl)) (fun _ _ _ h => h) (Or.inl ⟨by rfl, ?_⟩) ?_ ?_
        rotate_left
        · intro w'
          go_simp
          with_reducible rfl
        rotate_left
        · simp only [Act.put, List.setIfInBounds_toArray, List.set_cons_zero, List.set_cons_succ, i64_w, i32_w]
          rfl
        refine pure_ (i := 2) (N := some 33) (v := ?_) (a' := ?_) #[true, true, true, false, false, false, false, false, false, false, false, false, false] rfl rfl (any_of HT_.out (by kernel_rfl)) (fun _ _ _ h => h) (Or.inl ⟨by rfl, ?_⟩) ?_ ?_
        rotate_left
        · intro w'
          go_simp
          with_reducible rfl
        rotate_left
        · simp only [Act.put, List.setIfInBounds_toArray, List.set_cons_zero, List.set_cons_succ, i64_w, i32_w]
          rfl
        refine take_ (i := 3) (N := some 34) (v := ?_) (a' := ?_) #[true, true, true, true, false, false, false, false, false, false, false, false, false] rfl rfl (take_ofW HT_.out HW_.out (by kernel_rfl)) (fun _ _ _ h => h) (Or.inl ⟨by rfl, ?_⟩) hHeld ?_ ?_
        rotate_left
        · rintro w' ⟨s0, s1, s2⟩
          go_simp
          with_reducible rfl
        rotate_left
        · simp only [Act.put, List.setIfInBounds_toArray, List.set_cons_zero, List.set_cons_succ, i64_w, i32_w]
          rfl
        refine pure_ (i := 4) (N := some 35) (v := ?_) (a' := ?_) #[true, true, true, true, true, false, false, false, false, false, false, false, false] rfl rfl (any_of HT_.out (by kernel_rfl)) (fun _ _ _ h => h) (Or.inl ⟨by rfl, ?_⟩) ?_ ?_
        rotate_left
        · intro w'
          go_simp
          with_reducible rfl
        rotate_left
        · simp only [Act.put, List.setIfInBounds_toArray, List.set_cons_zero, List.set_cons_succ, i64_w, i32_w]
          rfl
        refine pure_ (i := 5) (N := some 36) (v := ?_) (a' := ?_) #[true, true, true, true, true, true, false, false, false, false, false, false, false] rfl rfl (any_of HT_.out (by kernel_rfl)) (fun _ _ _ h => h) (Or.inl ⟨by rfl, ?_⟩) ?_ ?_
        rotate_left
        · intro w'
          go_simp
          with_reducible rfl
        rotate_left
        · simp only [Act.put, List.setIfInBounds_toArray, List.set_cons_zero, List.set_cons_succ, i64_w, i32_w]
          rfl
        refine take_ (i := 6) (N := some 37) (v := ?_) (a' := ?_) #[true, true, true, true, true, true, true, false, false, false, false, false, false] rfl rfl (take_ofW HT_.out HW_.out (by kernel_rfl)) (fun _ _ _ h => h) (Or.inl ⟨by rfl, ?_⟩) hHeld ?_ ?_
        rotate_left
        · rintro w' ⟨s0, s1, s2⟩
          go_simp
          with_reducible rfl
        rotate_left
        · simp only [Act.put, List.setIfInBounds_toArray, List.set_cons_zero, List.set_cons_succ, i64_w, i32_w]
          rfl
        refine pure_ (i := 7) (N := some 38) (v := ?_) (a' := ?_) #[true, true, true, true, true, true, true, true, false, false, false, false, false] rfl rfl (any_of HT_.out (by kernel_rfl)) (fun _ _ _ h => h) (Or.inl ⟨by rfl, ?_⟩) ?_ ?_
        rotate_left
        · intro w'
          go_simp
          with_reducible rfl
        rotate_left
        · simp only [Act.put, List.setIfInBounds_toArray, List.set_cons_zero, List.set_cons_succ, i64_w, i32_w]
          rfl
        refine pure_ (i := 8) (N := some 39) (v := ?_) (a' := ?_) #[true, true, true, true, true, true, true, true, true, false, false, false, false] rfl rfl (any_of HT_.out (by kernel_rfl)) (fun _ _ _ h => h) (Or.inl ⟨by rfl, ?_⟩) ?_ ?_
        rotate_left
        · intro w'
          go_simp
          with_reducible rfl
        rotate_left
        · simp only [Act.put, List.setIfInBounds_toArray, List.set_cons_zero, List.set_cons_succ, i64_w, i32_w]
          rfl
        refine take_ (i := 9) (N := some 40) (v := ?_) (a' := ?_) #[true, true, true, true, true, true, true, true, true, true, false, false, false] rfl rfl (take_ofW HT_.out HW_.out (by kernel_rfl)) (fun _ _ _ h => h) (Or.inl ⟨by rfl, ?_⟩) hHeld ?_ ?_
        rotate_left
        · rintro w' ⟨s0, s1, s2⟩
          go_simp
          with_reducible rfl
        rotate_left
        · simp only [Act.put, List.setIfInBounds_toArray, List.set_cons_zero, List.set_cons_succ, i64_w, i32_w]
          rfl
        refine pure_ (i := 10) (N := some 41) (v := ?_) (a' := ?_) #[true, true, true, true, true, true, true, true, true, true, true, false, false] rfl rfl (any_of HT_.out (by kernel_rfl)) (fun _ _ _ h => h) (Or.inl ⟨by rfl, ?_⟩) ?_ ?_
        rotate_left
        · intro w'
          go_simp
          with_reducible rfl
        rotate_left
        · simp only [Act.put, List.setIfInBounds_toArray, List.set_cons_zero, List.set_cons_succ, i64_w, i32_w]
          rfl
        refine pure_ (i := 11) (N := some 42) (v := ?_) (a' := ?_) #[true, true, true, true, true, true, true, true, true, true, true, true, false] rfl rfl (any_of HT_.out (by kernel_rfl)) (fun _ _ _ h => h) (Or.inl ⟨by rfl, ?_⟩) ?_ ?_
        rotate_left
        · intro w'
          go_simp
          with_reducible rfl
        rotate_left
        · simp only [Act.put, List.setIfInBounds_toArray, List.set_cons_zero, List.set_cons_succ, i64_w, i32_w]
          rfl
        refine pure_ (i := 12) (N := some 7) (v := ?_) (a' := ?_) #[true, true, true, true, true, true, true, true, true, true, true, true, true] rfl rfl (any_of HT_.out (by kernel_rfl)) (fun _ _ _ h => h) (Or.inl ⟨by rfl, ?_⟩) ?_ ?_
        rotate_left
        · intro w'
          go_simp
          with_reducible rfl
        rotate_left
        · simp only [Act.put, List.setIfInBounds_toArray, List.set_cons_zero, List.set_cons_succ, i64_w, i32_w]
          rfl
        refine done_ (done_of HT_.out (by kernel_rfl)) ?_
        clear hHeld
        have hx0 := (blk_cell HBKd.out 0).trans rfl
        have hx1 := (blk_cell HBKd.out 1).trans rfl
        go_wp2_with fail
        refine start_ (n := 13) (S := fun w' => w'.cell? ⟨p, 0, none⟩ = some (.map (some b)) ∧ w'.cell? ⟨wr.heap.size, 0, none⟩ = some (.slice A0 bs.length c0)) (ds := [12]) #[false, false, false, false, false, false, false, false, false, false, false, false, false] (by kernel_rfl) rfl rfl ⟨HDd.out.cells.1, (blk_cell HBKd.out 0).trans rfl⟩ (fun hHeld => ?_); refine with_tabW Dcrash.tab8 Dcrash.bits8 (fun HT_ HW_ => ?_)
        have HDe := Aside0.mk (HDd.out.below ((Below.refl wx.heap.size wx).drew))
        have HSe := Aside0.mk (HSd.out.below ((Below.refl wx.heap.size wx).drew))
        have HFe := Aside0.mk (HFd.out.drew)
        clear HDd HSd HFd HBKd hx0 hx1
        generalize World.drew _ = wy at HDe HSe HFe hHeld ⊢
        refine pure_ (i := 0) (N := some 47) (v := ?_) (a' := ?_) #[true, false, false, false, false, false, false, false, false, false, false, false, false] rfl rfl (any_of HT_.out (by kernel_rfl)) (fun _ _ _ h => h) (Or.inl ⟨by rfl, ?_⟩) ?_ ?_
        rotate_left
        · intro w'
          go_simp
          with_reducible rfl
        rotate_left
        · simp only [Act.put, List.setIfInBounds_toArray, List.set_cons_zero, List.set_cons_succ, i64_w, i32_w]
          rfl
        refine pure_ (i := 1) (N := some 48) (v := ?_) (a' := ?_) #[true, true, false, false, false, false, false, false, false, false, false, false, false] rfl rfl (any_of HT_.out (by kernel_rfl)) (fun _ _ _ h => h) (Or.inl ⟨by rfl, ?_⟩) ?_ ?_
        rotate_left
        · intro w'
          go_simp
          with_reducible rfl
        rotate_left
        · simp only [Act.put, List.setIfInBounds_toArray, List.set_cons_zero, List.set_cons_succ, i64_w, i32_w]
          rfl
        refine pure_ (i := 2) (N := some 49) (v := ?_) (a' := ?_) #[true, true, true, false, false, false, false, false, false, false, false, false, false] rfl rfl (any_of HT_.out (by kernel_rfl)) (fun _ _ _ h => h) (Or.inl ⟨by rfl, ?_⟩) ?_ ?_
        rotate_left
        · intro w'
          go_simp
          with_reducible rfl
        rotate_left
        · simp only [Act.put, List.setIfInBounds_toArray, List.set_cons_zero, List.set_cons_succ, i64_w, i32_w]
          rfl
        refine take_ (i := 3) (N := some 50) (v := ?_) (a' := ?_) #[true, true, true, true, false, false, false, false, false, false, false, false, false] rfl rfl (take_ofW HT_.out HW_.out (by kernel_rfl)) (fun _ _ _ h => h) (Or.inl ⟨by rfl, ?_⟩) hHeld ?_ ?_
        rotate_left
        · rintro w' ⟨s0, s1⟩
          go_simp
          with_reducible rfl
        rotate_left
        · simp only [Act.put, List.setIfInBounds_toArray, List.set_cons_zero, List.set_cons_succ, i64_w, i32_w]
          rfl
        refine pure_ (i := 4) (N := some 51) (v := ?_) (a' := ?_) #[true, true, true, true, true, false, false, false, false, false, false, false, false] rfl rfl (any_of HT_.out (by kernel_rfl)) (fun _ _ _ h => h) (Or.inl ⟨by rfl, ?_⟩) ?_ ?_
        rotate_left
        · intro w'
          go_simp
          with_reducible rfl
        rotate_left
        · simp only [Act.put, List.setIfInBounds_toArray, List.set_cons_zero, List.set_cons_succ, i64_w, i32_w]
          rfl
        refine pure_ (i := 5) (N := some 52) (v := ?_) (a' := ?_) #[true, true, true, true, true, true, false, false, false, false, false, false, false] rfl rfl (any_of HT_.out (by kernel_rfl)) (fun _ _ _ h => h) (Or.inl ⟨by rfl, ?_⟩) ?_ ?_
        rotate_left
        · intro w'
          go_simp
          with_reducible rfl
        rotate_left
        · simp only [Act.put, List.setIfInBounds_toArray, List.set_cons_zero, List.set_cons_succ, i64_w, i32_w]
          rfl
        refine take_ (i := 6) (N := some 53) (v := ?_) (a' := ?_) #[true, true, true, true, true, true, true, false, false, false, false, false, false] rfl rfl (take_ofW HT_.out HW_.out (by kernel_rfl)) (fun _ _ _ h => h) (Or.inl ⟨by rfl, ?_⟩) hHeld ?_ ?_
        rotate_left
        · rintro w' ⟨s0, s1⟩
          go_simp
          with_reducible rfl
        rotate_left
        · simp only [Act.put, List.setIfInBounds_toArray, List.set_cons_zero, List.set_cons_succ, i64_w, i32_w]
          rfl
        refine pure_ (i := 7) (N := some 54) (v := ?_) (a' := ?_) #[true, true, true, true, true, true, true, true, false, false, false, false, false] rfl rfl (any_of HT_.out (by kernel_rfl)) (fun _ _ _ h => h) (Or.inl ⟨by rfl, ?_⟩) ?_ ?_
        rotate_left
        · intro w'
          go_simp
          with_reducible rfl
        rotate_left
        · simp only [Act.put, List.setIfInBounds_toArray, List.set_cons_zero, List.set_cons_succ, i64_w, i32_w]
          rfl
        refine pure_ (i := 8) (N := some 55) (v := ?_) (a' := ?_) #[true, true, true, true, true, true, true, true, true, false, false, false, false] rfl rfl (any_of HT_.out (by kernel_rfl)) (fun _ _ _ h => h) (Or.inl ⟨by rfl, ?_⟩) ?_ ?_
        rotate_left
        · intro w'
          go_simp
          with_reducible rfl
        rotate_left
        · simp only [Act.put, List.setIfInBounds_toArray, List.set_cons_zero, List.set_cons_succ, i64_w, i32_w]
          rfl
        refine pure_ (i := 9) (N := some 56) (v := ?_) (a' := ?_) #[true, true, true, true, true, true, true, true, true, true, false, false, false] rfl rfl (any_of HT_.out (by kernel_rfl)) (fun _ _ _ h => h) (Or.inl ⟨by rfl, ?_⟩) ?_ ?_
        rotate_left
        · intro w'
          go_simp
          with_reducible rfl
        rotate_left
        · simp only [Act.put, List.setIfInBounds_toArray, List.set_cons_zero, List.set_cons_succ, i64_w, i32_w]
          rfl
        refine pure_ (i := 10) (N := some 57) (v := ?_) (a' := ?_) #[true, true, true, true, true, true, true, true, true, true, true, false, false] rfl rfl (any_of HT_.out (by kernel_rfl)) (fun _ _ _ h => h) (Or.inl ⟨by rfl, ?_⟩) ?_ ?_
        rotate_left
        · intro w'
          go_simp
          with_reducible rfl
        rotate_left
        · simp only [Act.put, List.setIfInBounds_toArray, List.set_cons_zero, List.set_cons_succ, i64_w, i32_w]
          rfl
        refine pure_ (i := 11) (N := some 58) (v := ?_) (a' := ?_) #[true, true, true, true, true, true, true, true, true, true, true, true, false] rfl rfl (any_of HT_.out (by kernel_rfl)) (fun _ _ _ h => h) (Or.inl ⟨by rfl, ?_⟩) ?_ ?_
        rotate_left
        · intro w'
          go_simp
          with_reducible rfl
        rotate_left
        · simp only [Act.put, List.setIfInBounds_toArray, List.set_cons_zero, List.set_cons_succ, i64_w, i32_w]
          rfl
        obtain ⟨w4, hrun4, hd4, hf4⟩ := HDe.out.put_ (nm := ⟨fn.toArray⟩) HNB.out hN (f := crF keep i ⟨fn, bs, s⟩) (HISF.out wy HSe.out) (by simp [crF])
        refine last_ (i := 12) (N := none) #[true, true, true, true, true, true, true, true, true, true, true, true, true] rfl rfl (one_of HT_.out (by kernel_rfl)) (by decide) (fun K hK => ?_)
        refine skip_ (w1 := w4) (by rfl) rfl ?_ ?_
        · go_simp
          first | done | simp [hrun4, Result.andThen]
        refine hK.out _ _ ?_
        clear hK K
        have HD4 := Aside0.mk hd4
        have HF4 := Aside0.mk (HFe.out.trans hf4)
        clear hd4 hf4 hrun4 HDe HSe HFe
        refine done_ (done_of HT_.out (by kernel_rfl)) ?_
        go_wp2_with fail
        go_roundg (d.fs.length - (i + 1))
        case measure => omega
        case rel => exact ⟨i + 1, by first | rfl | (rw [hwi]; rfl), by omega, Nat.le_refl _, ⟨by have h := HD4.out; rw [HPUT.out] at h; exact h.tight (by show (fsI keep d.fs (i + 1)).length ≤ N; rw [fsI_len]; exact HNL.out) (by omega)⟩, HF4⟩
      · have hklz : ¬ (i : Int) < (keep.length : Int) := by omega
        have hm0 : mo = 0 := by rw [← hmo, if_neg hkl]
        have hw0 : wrap64 s = (en : Int) := by rw [← hw, hm0]; simp
        have hx1 : (wr.alloc (.cells #[.slice A0 bs.length c0, .int .i64 s] 67)).cell? ⟨wr.heap.size, 1, none⟩ = some (.int .i64 s) := (blk_cell HBK.out 1).trans rfl
        have hx0 : True := trivial
        clear hsl hs0 hs1 hmx hba hmo hmo1 hen hen1 hgot hgot' hput hf hfn hnb HD HF hw hm0
        go_wp2_with fail
        have HDd := Aside0.mk HDa.out
        have HSd := Aside0.mk HSa.out
        have HFd := Aside0.mk HFa.out
        have HBKd := Aside0.mk HBK.out
        clear HDa HSa HFa HBK
        generalize wr.alloc (.cells #[.slice A0 bs.length c0, .int .i64 s] 67) = wx at HDd HSd HFd HBKd hx1 ⊢
        refine start_ (n := 13) (S := fun w' => w'.cell? ⟨p, 0, none⟩ = some (.map (some b)) ∧ w'.cell? ⟨wr.heap.size, 0, none⟩ = some (.slice A0 bs.length c0)) (ds := [12]) #[false, false, false, false, false, false, false, false, false, false, false, false, false] (by kernel_rfl) rfl rfl ⟨HDd.out.cells.1, (blk_cell HBKd.out 0).trans rfl⟩ (fun hHeld => ?_); refine with_tabW Dcrash.tab8 Dcrash.bits8 (fun HT_ HW_ => ?_)
        have HDe := Aside0.mk (HDd.out.below ((Below.refl wx.heap.size wx).drew))
        have HSe := Aside0.mk (HSd.out.below ((Below.refl wx.heap.size wx).drew))
        have HFe := Aside0.mk (HFd.out.drew)
        clear HDd HSd HFd HBKd hx0 hx1
        generalize World.drew _ = wy at HDe HSe HFe hHeld ⊢
        refine pure_ (i := 0) (N := some 47) (v := ?_) (a' := ?_) #[true, false, false, false, false, false, false, false, false, false, false, false, false] rfl rfl (any_of HT_.out (by kernel_rfl)) (fun _ _ _ h => h) (Or.inl ⟨by rfl, ?_⟩) ?_ ?_
        rotate_left
        · intro w'
          go_simp
          with_reducible rfl
        rotate_left
        · simp only [Act.put, List.setIfInBounds_toArray, List.set_cons_zero, List.set_cons_succ, i64_w, i32_w]
          rfl
        refine pure_ (i := 1) (N := some 48) (v := ?_) (a' := ?_) #[true, true, false, false, false, false, false, false, false, false, false, false, false] rfl rfl (any_of HT_.out (by kernel_rfl)) (fun _ _ _ h => h) (Or.inl ⟨by rfl, ?_⟩) ?_ ?_
        rotate_left
        · intro w'
          go_simp
          with_reducible rfl
        rotate_left
        · simp only [Act.put, List.setIfInBounds_toArray, List.set_cons_zero, List.set_cons_succ, i64_w, i32_w]
          rfl
        refine pure_ (i := 2) (N := some 49) (v := ?_) (a' := ?_) #[true, true, true, false, false, false, false, false, false, false, false, false, false] rfl rfl (any_of HT_.out (by kernel_rfl)) (fun _ _ _ h => h) (Or.inl ⟨by rfl, ?_⟩) ?_ ?_
        rotate_left
        · intro w'
          go_simp
          with_reducible rfl
        rotate_left
        · simp only [Act.put, List.setIfInBounds_toArray, List.set_cons_zero, List.set_cons_succ, i64_w, i32_w]
          rfl
        refine take_ (i := 3) (N := some 50) (v := ?_) (a' := ?_) #[true, true, true, true, false, false, false, false, false, false, false, false, false] rfl rfl (take_ofW HT_.out HW_.out (by kernel_rfl)) (fun _ _ _ h => h) (Or.inl ⟨by rfl, ?_⟩) hHeld ?_ ?_
        rotate_left
        · rintro w' ⟨s0, s1⟩
          go_simp
          with_reducible rfl
        rotate_left
        · simp only [Act.put, List.setIfInBounds_toArray, List.set_cons_zero, List.set_cons_succ, i64_w, i32_w]
          rfl
        refine pure_ (i := 4) (N := some 51) (v := ?_) (a' := ?_) #[true, true, true, true, true, false, false, false, false, false, false, false, false] rfl rfl (any_of HT_.out (by kernel_rfl)) (fun _ _ _ h => h) (Or.inl ⟨by rfl, ?_⟩) ?_ ?_
        rotate_left
        · intro w'
          go_simp
          with_reducible rfl
        rotate_left
        · simp only [Act.put, List.setIfInBounds_toArray, List.set_cons_zero, List.set_cons_succ, i64_w, i32_w]
          rfl
        refine pure_ (i := 5) (N := some 52) (v := ?_) (a' := ?_) #[true, true, true, true, true, true, false, false, false, false, false, false, false] rfl rfl (any_of HT_.out (by kernel_rfl)) (fun _ _ _ h => h) (Or.inl ⟨by rfl, ?_⟩) ?_ ?_
        rotate_left
        · intro w'
          go_simp
          with_reducible rfl
        rotate_left
        · simp only [Act.put, List.setIfInBounds_toArray, List.set_cons_zero, List.set_cons_succ, i64_w, i32_w]
          rfl
        refine take_ (i := 6) (N := some 53) (v := ?_) (a' := ?_) #[true, true, true, true, true, true, true, false, false, false, false, false, false] rfl rfl (take_ofW HT_.out HW_.out (by kernel_rfl)) (fun _ _ _ h => h) (Or.inl ⟨by rfl, ?_⟩) hHeld ?_ ?_
        rotate_left
        · rintro w' ⟨s0, s1⟩
          go_simp
          with_reducible rfl
        rotate_left
        · simp only [Act.put, List.setIfInBounds_toArray, List.set_cons_zero, List.set_cons_succ, i64_w, i32_w]
          rfl
        refine pure_ (i := 7) (N := some 54) (v := ?_) (a' := ?_) #[true, true, true, true, true, true, true, true, false, false, false, false, false] rfl rfl (any_of HT_.out (by kernel_rfl)) (fun _ _ _ h => h) (Or.inl ⟨by rfl, ?_⟩) ?_ ?_
        rotate_left
        · intro w'
          go_simp
          with_reducible rfl
        rotate_left
        · simp only [Act.put, List.setIfInBounds_toArray, List.set_cons_zero, List.set_cons_succ, i64_w, i32_w]
          rfl
        refine pure_ (i := 8) (N := some 55) (v := ?_) (a' := ?_) #[true, true, true, true, true, true, true, true, true, false, false, false, false] rfl rfl (any_of HT_.out (by kernel_rfl)) (fun _ _ _ h => h) (Or.inl ⟨by rfl, ?_⟩) ?_ ?_
        rotate_left
        · intro w'
          go_simp
          with_reducible rfl
        rotate_left
        · simp only [Act.put, List.setIfInBounds_toArray, List.set_cons_zero, List.set_cons_succ, i64_w, i32_w]
          rfl
        refine pure_ (i := 9) (N := some 56) (v := ?_) (a' := ?_) #[true, true, true, true, true, true, true, true, true, true, false, false, false] rfl rfl (any_of HT_.out (by kernel_rfl)) (fun _ _ _ h => h) (Or.inl ⟨by rfl, ?_⟩) ?_ ?_
        rotate_left
        · intro w'
          go_simp
          with_reducible rfl
        rotate_left
        · simp only [Act.put, List.setIfInBounds_toArray, List.set_cons_zero, List.set_cons_succ, i64_w, i32_w]
          rfl
        refine pure_ (i := 10) (N := some 57) (v := ?_) (a' := ?_) #[true, true, true, true, true, true, true, true, true, true, true, false, false] rfl rfl (any_of HT_.out (by kernel_rfl)) (fun _ _ _ h => h) (Or.inl ⟨by rfl, ?_⟩) ?_ ?_
        rotate_left
        · intro w'
          go_simp
          with_reducible rfl
        rotate_left
        · simp only [Act.put, List.setIfInBounds_toArray, List.set_cons_zero, List.set_cons_succ, i64_w, i32_w]
          rfl
        refine pure_ (i := 11) (N := some 58) (v := ?_) (a' := ?_) #[true, true, true, true, true, true, true, true, true, true, true, true, false] rfl rfl (any_of HT_.out (by kernel_rfl)) (fun _ _ _ h => h) (Or.inl ⟨by rfl, ?_⟩) ?_ ?_
        rotate_left
        · intro w'
          go_simp
          with_reducible rfl
        rotate_left
        · simp only [Act.put, List.setIfInBounds_toArray, List.set_cons_zero, List.set_cons_succ, i64_w, i32_w]
          rfl
        obtain ⟨w4, hrun4, hd4, hf4⟩ := HDe.out.put_ (nm := ⟨fn.toArray⟩) HNB.out hN (f := crF keep i ⟨fn, bs, s⟩) (HISF.out wy HSe.out) (by simp [crF])
        refine last_ (i := 12) (N := none) #[true, true, true, true, true, true, true, true, true, true, true, true, true] rfl rfl (one_of HT_.out (by kernel_rfl)) (by decide) (fun K hK => ?_)
        refine skip_ (w1 := w4) (by rfl) rfl ?_ ?_
        · go_simp
          first | done | simp [hrun4, Result.andThen]
        refine hK.out _ _ ?_
        clear hK K
        have HD4 := Aside0.mk hd4
        have HF4 := Aside0.mk (HFe.out.trans hf4)
        clear hd4 hf4 hrun4 HDe HSe HFe
        refine done_ (done_of HT_.out (by kernel_rfl)) ?_
        go_wp2_with fail
        go_roundg (d.fs.length - (i + 1))
        case measure => omega
        case rel => exact ⟨i + 1, by first | rfl | (rw [hwi]; rfl), by omega, Nat.le_refl _, ⟨by have h := HD4.out; rw [HPUT.out] at h; exact h.tight (by show (fsI keep d.fs (i + 1)).length ≤ N; rw [fsI_len]; exact HNL.out) (by omega)⟩, HF4⟩
    · have hlz : ¬ (i : Int) < ((names d.fs).length : Int) := by omega
      have hie : i = d.fs.length := by omega
      obtain ⟨hc0, hc1, hc2, hc3⟩ := HD.out.cells
      have hf2 := HD.out.frozen 2
      have hf3 := HD.out.frozen 3
      have HIE := Aside0.mk hie
      clear hie
      go_wp2
      first | go_end0 | ((try simp only [Exit.inBlock, Exit.then]); refine bodyPost_ret (results_none rfl _ _ _) rfl ?_)
      have h := HD.out
      rw [HIE.out, fsI_end] at h
      have s1 := h.set 3 (.bool false) { d with fs := crL keep 0 d.fs, dead := false } rfl rfl h.room0 h.room1 h.cut0 h.cut1
      have s2 := s1.1.set 2 (.int .i64 (-1)) (crD d keep) rfl rfl h.room0 h.room1 (by show (-1 : Int) ≤ -1; omega) (by show (-1 : Int) ≤ _; omega)
      exact ⟨rfl, s2.1, ((Fr.of_below HB1.out).trans HF.out).trans (s1.2.trans s2.2)⟩
end Go.Proofs.Ytihbgdobicokpaa.D
namespace Go.Proofs.Ytihbgdobicokpaa.D
open Go.RowKit Go.Maps Go.Proofs.Ytihbgdobicokpaa.X Go.Proofs.YtihbgdobicokpaaW.PrintWords Go.Proofs.YtihbgdobicokpaaW.PrintLast Go.Proofs.YtihbgdobicokpaaW.PrintMore
attribute [local go_sem] max2_int min2_int max_two min_two max_three min_three max_four min_four   -- for this text's walks alone
set_option linter.unusedVariables false
set_option linter.unusedSimpArgs false
def GoodL (l : List S30) : Prop := ∀ x ∈ l, x.f2.size ≤ maxLen ∧ x.f3.size ≤ maxLen
theorem step_cells {w0 : World} {A : Option Addr} {l : List S30} (hC : Kd.C k30 w0 A l.length l) {i : Nat} (hi : i < l.length) : ∃ ad A4 c4 A5 c5, A = some ad ∧ Kd.C (Kd.int .u8) w0 A4 l[i].f4.length l[i].f4 ∧ Kd.C (Kd.int .i64) w0 A5 l[i].f5.length l[i].f5 ∧ ∀ w', Below w0.heap.size w0 w' → w'.cell? (ad.add (i * 6)) = some (.int .i64 l[i].f0) ∧ w'.cell? ⟨(ad.add (i * 6)).block, (ad.add (i * 6)).off + 1, none⟩ = some (.int .i64 l[i].f1) ∧ w'.cell? ⟨(ad.add (i * 6)).block, (ad.add (i * 6)).off + 2, none⟩ = some (.string l[i].f2) ∧ w'.cell? ⟨(ad.add (i * 6)).block, (ad.add (i * 6)).off + 3, none⟩ = some (.string l[i].f3) ∧ w'.cell? ⟨(ad.add (i * 6)).block, (ad.add (i * 6)).off + 4, none⟩ = some (.slice A4 l[i].f4.length c4) ∧ w'.cell? ⟨(ad.add (i * 6)).block, (ad.add (i * 6)).off + 5, none⟩ = some (.slice A5 l[i].f5.length c5) := by
  obtain ⟨ad, A4, c4, A5, c5, e, g0, g1, g2, g3, g4, g5, _, k4, _, k5⟩ := at_T30 hC (i : Int) (by omega) (by omega)
  have hx : rd_T30 l (i : Int) = l[i] := by simp [rd_T30, List.getD, List.getElem?_eq_getElem hi]
  rw [hx] at g0 g1 g2 g3 g4 g5 k4 k5
  simp only [Int.toNat_natCast] at g0 g1 g2 g3 g4 g5
  exact ⟨ad, A4, c4, A5, c5, e, k4, k5, fun w' hb => ⟨(hb.cell (World.block_lt_of_cell? w0 _ g0)).trans g0, (hb.cell (World.block_lt_of_cell? w0 _ g1)).trans g1, (hb.cell (World.block_lt_of_cell? w0 _ g2)).trans g2, (hb.cell (World.block_lt_of_cell? w0 _ g3)).trans g3, (hb.cell (World.block_lt_of_cell? w0 _ g4)).trans g4, (hb.cell (World.block_lt_of_cell? w0 _ g5)).trans g5⟩⟩
theorem Fr.base {w0 w w' : World} {p b : Nat} (h : Below w0.heap.size w0 w) (hp : w0.heap.size ≤ p) (hb : w0.heap.size ≤ b) (hf : Fr (Two p b) w w') : Below w0.heap.size w0 w' :=
  h.trans (hf.toBelow h.size (fun k _ hk => by rcases hk with rfl | rfl; exact hp; exact hb))
end Go.Proofs.Ytihbgdobicokpaa.D
namespace Go.Proofs.Ytihbgdobicokpaa.D
set_option linter.unusedVariables false
set_option linter.unusedSimpArgs false
end Go.Proofs.Ytihbgdobicokpaa.D
namespace Go.Proofs.Ytihbgdobicokpaa.D
open Go.RowKit Go.Proofs.Ytihbgdobicokpaa.X
set_option linter.unusedVariables false
set_option linter.unusedSimpArgs false
def wt (x : S30) : Nat := x.f4.length + x.f2.size + x.f3.size + x.f5.length
def Small (l : List S30) : Prop := ∀ x ∈ l, x.f4.length ≤ 140737488351232 ∧ x.f2.size ≤ 140737488351232 ∧ x.f3.size ≤ 140737488351232 ∧ x.f5.length ≤ 140737488351232
theorem w64 (a b : Nat) (h : a + b ≤ 4000000000000000000) : wrap64 ((a : Int) + (b : Int)) = ((a + b : Nat) : Int) := by unfold wrap64; omega
theorem light_loop {l : List S30} (hl : l.length ≤ 140737488351232) (hs : Small l) : ∀ (m i : Nat), l.length - i = m → i ≤ l.length → ∀ n : Nat, n ≤ ((l.take i).map wt).sum → ((n ≤ 50000 → n = ((l.take i).map wt).sum) ∧ n ≤ 600000000000000) →
    ∃ r, leatlaw2_light.l0 (m + 1) l (n : Int) (i : Int) = some r ∧ (r = true → l.length ≤ 300 ∧ (l.map wt).sum ≤ 50000)
  | 0, i, hm, hi, n, hn, hk => by
    have e : i = l.length := by omega
    unfold leatlaw2_light.l0
    rw [if_neg (by omega)]
    by_cases c : (l.length : Int) ≤ 300
    · rw [if_pos c]
      refine ⟨_, rfl, fun h => ⟨by omega, ?_⟩⟩
      have h1 : (n : Int) ≤ 50000 := of_decide_eq_true h
      have := hk.1 (by omega)
      rw [e, List.take_length] at this
      omega
    · rw [if_neg c]; exact ⟨_, rfl, fun h => by cases h⟩
  | m + 1, i, hm, hi, n, hn, hk => by
    have hil : i < l.length := by omega
    unfold leatlaw2_light.l0
    rw [if_pos (by omega)]
    by_cases c : (n : Int) ≤ 50000
    · rw [if_pos c, if_pos (by omega)]
      have hx : rd_T30 l (i : Int) = l[i] := by simp [rd_T30, List.getD, List.getElem?_eq_getElem hil]
      rw [hx]
      obtain ⟨b1, b2, b3, b4⟩ := hs l[i] (List.getElem_mem hil)
      have hn1 := hk.1 (by omega)
      have w1 : wrap64 ((n : Int) + (l[i].f4.length : Int)) = ((n + l[i].f4.length : Nat) : Int) := w64 _ _ (by clear hn hk hn1 hm; omega)
      have w2 : wrap64 (((n + l[i].f4.length : Nat) : Int) + (l[i].f2.size : Int)) = ((n + l[i].f4.length + l[i].f2.size : Nat) : Int) := w64 _ _ (by clear hn hk hn1 hm; omega)
      have w3 : wrap64 (((n + l[i].f4.length + l[i].f2.size : Nat) : Int) + (l[i].f3.size : Int)) = ((n + l[i].f4.length + l[i].f2.size + l[i].f3.size : Nat) : Int) := w64 _ _ (by clear hn hk hn1 hm; omega)
      have w4 : wrap64 (((n + l[i].f4.length + l[i].f2.size + l[i].f3.size : Nat) : Int) + (l[i].f5.length : Int)) = ((n + l[i].f4.length + l[i].f2.size + l[i].f3.size + l[i].f5.length : Nat) : Int) := w64 _ _ (by clear hn hk hn1 hm; omega)
      have w5 : wrap64 ((i : Int) + 1) = ((i + 1 : Nat) : Int) := w64 i 1 (by clear hn hk hn1 hm; omega)
      rw [w1, w2, w3, w4, w5]
      have hsum : ((l.take (i + 1)).map wt).sum = ((l.take i).map wt).sum + wt l[i] := by rw [List.take_succ_eq_append_getElem hil, List.map_append, List.sum_append]; rfl
      have hw : wt l[i] = l[i].f4.length + l[i].f2.size + l[i].f3.size + l[i].f5.length := rfl
      have hnew : n + l[i].f4.length + l[i].f2.size + l[i].f3.size + l[i].f5.length = ((l.take (i + 1)).map wt).sum := by rw [hsum, hw, ← hn1]; clear w1 w2 w3 w4 w5 hsum hw hn hk hn1; omega
      have hbig : n + l[i].f4.length + l[i].f2.size + l[i].f3.size + l[i].f5.length ≤ 600000000000000 := by clear w1 w2 w3 w4 w5 hsum hw hn hk hn1 hnew; omega
      clear w1 w2 w3 w4 w5 hsum hw hn hk hn1
      exact light_loop hl hs m (i + 1) (by clear hnew hbig b1 b2 b3 b4; omega) hil _ (Nat.le_of_eq hnew) ⟨fun _ => hnew, hbig⟩
    · rw [if_neg c]
      by_cases c2 : (l.length : Int) ≤ 300
      · rw [if_pos c2]
        exact ⟨_, rfl, fun h => absurd (of_decide_eq_true h) c⟩
      · rw [if_neg c2]; exact ⟨_, rfl, fun h => by cases h⟩
theorem light_f {l : List S30} (hl : l.length ≤ 140737488351232) (hs : Small l) : ∃ k r, leatlaw2_light.f k l = some r ∧ (r = true → l.length ≤ 300 ∧ (l.map wt).sum ≤ 50000) := by
  obtain ⟨r, h1, h2⟩ := light_loop hl hs l.length 0 (by omega) (by omega) 0 (by simp) ⟨fun _ => by simp, by omega⟩
  exact ⟨l.length + 1, r, h1, h2⟩
end Go.Proofs.Ytihbgdobicokpaa.D
namespace Go.Proofs.Ytihbgdobicokpaa.D
set_option linter.unusedVariables false
end Go.Proofs.Ytihbgdobicokpaa.D
