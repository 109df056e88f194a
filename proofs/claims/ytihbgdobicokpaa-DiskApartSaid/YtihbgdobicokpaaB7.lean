/- Proofs towards the laws of this seat, joined. No conditions beyond those typed. -/
import Derived.Test.YtihbgdobicokpaaB6
import Derived.Test.YtihbgdobicokpaaB5
namespace Go.Proofs.Ytihbgdobicokpaa.D
open Go.RowKit Go.Maps Go.Proofs.Ytihbgdobicokpaa.X Go.Proofs.YtihbgdobicokpaaW.PrintWords Go.Proofs.YtihbgdobicokpaaW.PrintLast Go.Proofs.YtihbgdobicokpaaW.PrintMore
attribute [local go_sem] max2_int min2_int max_two min_two max_three min_three max_four min_four   -- for this text's walks alone
set_option linter.unusedVariables false
set_option linter.unusedSimpArgs false
theorem Keys_calls (b : Nat) (W : World) : Calls Try.prog 45 #[.map (some b)] W fun e w' => e = .returned (.func (.func 56) #[] #[.pointer (some ⟨W.heap.size, 0, none⟩)]) ∧ w' = W.alloc (.cells #[.map (some b)] 62) :=
 callsIn_wide.1 (Go.Proofs.Try.maps_Keys_45 (some b) W)
theorem Sorted_calls {N : Nat} {w : World} {p b : Nat} {d : Dk} (h : IsD N w p b d) :
  Calls Try.prog 44 #[.func (.func 56) #[] #[.pointer (some ⟨w.heap.size, 0, none⟩)]] (w.alloc (.cells #[.map (some b)] 62)) fun e w' => ∃ A c, e = .returned (.slice A (names d.fs).length c) ∧ (names d.fs).length ≤ 1000000 ∧ w'.ownsRow w.heap.size 9 1 (.slice A (names d.fs).length c) (names d.fs).length ((names d.fs).map Go.Proofs.encStr) ∧ Below w.heap.size w w' := by
 have hs := h.sorted
 have hnl := names_len h
 have hsm := h.small
 obtain ⟨es, hown, hfs⟩ := h.fs
 have hnm := hfs.names
 have hle : es.length ≤ N := by have := congrArg List.length hnm; simp at this; omega
 have hmax : Maps.size (DM es) ≤ maxLen := by rw [DM_size]; unfold maxLen; omega
 have hbytes : Maps.size (DM es) * 16 ≤ 140737488355328 := by rw [DM_size]; omega
 refine (callsIn_wide.1 (Go.Proofs.Try.slices_Sorted_keys_44_45 b N (DM es) RF w hown hmax hbytes)).mono ?_
 rintro e w' ⟨v, ss, rfl, hS, hrow, hnil, hb⟩
 rw [DM_keys, hnm] at hS
 rw [sort_names hs hS] at hrow
 have e : ss.length = (names d.fs).length := hS.length_eq
 rw [e] at hrow
 obtain ⟨A, c, rfl⟩ := own_slice hrow
 exact ⟨A, c, rfl, by unfold names; rw [List.length_map]; omega, own_weaken hrow (by simp), ((Below.refl _ w).alloc (Nat.le_refl _) _).trans (hb.mono (by simp))⟩
theorem row_cells {w : World} {base n c : Nat} {A : Option Addr} {xs : List Value} (h : w.ownsRow base 9 1 (.slice A n c) n xs) (i : Nat) {v : Value} (hi : xs[i]? = some v) : ∃ ad, A = some ad ∧ w.cell? (ad.add i) = some v := by
 obtain ⟨h1, ⟨h2, h3⟩ | ⟨g, cap, cur, h2, h3, h4, h5, h6, h7, h8⟩⟩ := h
 ·rw [h3] at h1
  have : xs = [] := List.eq_nil_of_length_eq_zero (by omega)
  rw [this] at hi
  simp at hi
 ·cases h2
  refine ⟨_, rfl, ?_⟩
  have hil : i < n := by have := (List.getElem?_eq_some_iff.1 hi).1; omega
  rw [← h8, Nat.mul_one, List.getElem?_take, if_pos hil] at hi
  have hb : (Addr.add ⟨g, 0, none⟩ i).block = g := by unfold Addr.add; split <;> rfl
  have hs : (Addr.add ⟨g, 0, none⟩ i).spot = none := by unfold Addr.add; split <;> rfl
  have ho : (Addr.add ⟨g, 0, none⟩ i).off = i := by unfold Addr.add; split <;> simp_all
  simp only [World.cell?, hb, h4, hs, ho]
  simpa using hi
theorem row_fr {w w' : World} {base n c e : Nat} {A : Option Addr} {xs : List Value} {M : Nat → Prop} (h : w.ownsRow base e 1 (.slice A n c) n xs) (hf : Fr M w w') (hM : ∀ k, M k → k < base) : w'.ownsRow base e 1 (.slice A n c) n xs := by
 obtain ⟨h1, h2 | ⟨g, cap, cur, h2, h3, h4, h5⟩⟩ := h
 ·exact ⟨h1, Or.inl h2⟩
 ·exact ⟨h1, Or.inr ⟨g, cap, cur, h2, h3, (hf.block g (lt_of_block h4) (fun hm => by have := hM g hm; omega)).trans h4, h5⟩⟩
def endOf (keep : List Int) (i : Nat) (f : Fl) : Nat := f.s.toNat + (if i < keep.length then (min (max (keep.getD i 0) 0) (f.b.length - f.s)).toNat else 0)
def crF (keep : List Int) (i : Nat) (f : Fl) : Fl := ⟨f.n, f.b.take (endOf keep i f), endOf keep i f⟩
def crL (keep : List Int) : Nat → List Fl → List Fl
 | _, [] => []
 | i, f :: r => crF keep i f :: crL keep (i + 1) r
def crD (d : Dk) (keep : List Int) : Dk := { d with fs := crL keep 0 d.fs, cut := -1, dead := false }
theorem crL_append (keep : List Int) : ∀ (a : List Fl) (k : Nat) (c : List Fl), crL keep k (a ++ c) = crL keep k a ++ crL keep (k + a.length) c
 | [], k, c => by simp [crL]
 | f :: r, k, c => by
  simp only [List.cons_append, crL, List.length_cons]
  rw [crL_append keep r (k + 1) c, show k + 1 + r.length = k + (r.length + 1) by omega]
theorem names_crL (keep : List Int) : ∀ (k : Nat) (l : List Fl), names (crL keep k l) = names l
 | _, [] => rfl
 | k, f :: r => by
  have := names_crL keep (k + 1) r
  unfold names at this ⊢
  simp [crL, crF, this]
theorem before_ne {a c : Nm} (h : bytesBefore a c = true) : a ≠ c := fun e => by rw [e, WideAt.bytes_irrefl] at h; cases h
theorem look_mid {pre post : List Fl} {f : Fl} (hs : (names (pre ++ f :: post)).Pairwise (fun a c => bytesBefore a c = true)) : look f.n (pre ++ f :: post) = some f := by
 unfold look
 rw [List.find?_append]
 have h1 : pre.find? (fun g => g.n == f.n) = none := by
  rw [List.find?_eq_none]
  intro g hg
  unfold names at hs
  rw [List.map_append, List.pairwise_append] at hs
  have := hs.2.2 g.n (List.mem_map_of_mem hg) f.n (by simp)
  simpa using before_ne this
 rw [h1]
 simp
theorem put_mid {pre post : List Fl} {f f' : Fl} (hn : f'.n = f.n) (hs : (names (pre ++ f :: post)).Pairwise (fun a c => bytesBefore a c = true)) : put Fl.n f' (pre ++ f :: post) = pre ++ f' :: post := by
 unfold names at hs
 rw [List.map_append, List.pairwise_append, List.map_cons, List.pairwise_cons] at hs
 obtain ⟨h1, ⟨h2, h3⟩, h4⟩ := hs
 unfold put out
 rw [hn, List.filter_append, List.filter_cons]
 have e1 : pre.filter (fun y => !(y.n == f.n)) = pre := List.filter_eq_self.2 fun g hg => by
  have := before_ne (h4 g.n (List.mem_map_of_mem hg) f.n (by simp))
  simpa using this
 have e2 : post.filter (fun y => !(y.n == f.n)) = post := List.filter_eq_self.2 fun g hg => by
  have := before_ne (h2 g.n (List.mem_map_of_mem hg))
  simpa using fun e => this e.symm
 rw [e1, e2]
 simp only [beq_self_eq_true, Bool.not_true, Bool.false_eq_true, if_false]
 clear e1 e2 h1
 induction pre with
 | nil =>
  cases post with
  | nil => rfl
  | cons g r =>
   show ins Fl.n f' (g :: r) = _
   unfold ins
   rw [hn, if_pos (h2 g.n (by simp))]
   rfl
 | cons g r ih =>
  show ins Fl.n f' (g :: (r ++ post)) = _
  unfold ins
  have hgf := h4 g.n (by simp) f.n (by simp)
  rw [hn, if_neg (fun e => by have := WideShapes.bytes_trans _ _ _ hgf e; rw [WideAt.bytes_irrefl] at this; cases this)]
  rw [ih (fun a ha c hc => h4 a (by simp at ha ⊢; exact Or.inr ha) c hc)]
  rfl
theorem IsD.tight {N N' : Nat} {w : World} {p b : Nat} {d : Dk} (h : IsD N w p b d) (hl : d.fs.length ≤ N') (hN : N' ≤ 1000000) : IsD N' w p b d := by
 obtain ⟨es, ⟨e1, c1, h1, h2, h3, h4⟩, hf⟩ := h.fs
 refine ⟨h.at_, ⟨es, ⟨e1, c1, h1, h2, ?_, h4⟩, hf⟩, hN, h.room0, h.room1, h.cut0, h.cut1⟩
 have e := congrArg List.length hf.names
 have e2 : es.length = e1.size := by
  have := congrArg Maps.size h4
  rw [DM_size] at this
  rw [this]
  simp [Maps.size, length_sorted]
 simp only [List.length_map] at e
 omega
theorem slice23 (A : Option Addr) (n c e : Nat) (he : e ≤ c) (w : World) : (Instr.slice 23 (.slice A n c) none (some (.int .i64 (e : Int))) (some (.int .i64 (e : Int)))).run Try.prog w = .ok (.slice A e e) w := by
 have h1 : (Instr.sliceBounds true n c none (some (.int .i64 (e : Int))) (some (.int .i64 (e : Int)))).run Try.prog w = .ok (0, e, e) w := by
  unfold Instr.sliceBounds
  simp [run_sliceBound, he, Result.andThen]
 unfold Instr.slice
 simp [run_underlying Try.underlying23, h1, Result.andThen, Try.sizeOf5]
 intro _
 cases A <;> simp [Addr.add]
def Dcrash.T6 : Bool × List (List Nat × List Nat) := (true, [([], []), ([], []), ([0, 1], [0, 1]), ([2], [2]), ([3], [3]), ([], []), ([5], [5]), ([6], [6]), ([], []), ([8], [8]), ([7, 9], [7, 9]), ([4, 10], [4, 10]), ([11, 0, 1, 2, 3, 4, 5, 6, 7, 8, 9, 10, 11], [11])])
def Dcrash.B6 : List Nat := [0, 0, 3, 7, 15, 0, 32, 96, 0, 256, 992, 2047, 4095]
theorem Dcrash.tab6 : rtab .any (opsOf Try.f14 6) = Dcrash.T6 := by kernel_rfl
theorem Dcrash.bits6 : waitsOk Dcrash.T6.2 Dcrash.B6 = true := by kernel_rfl
def Dcrash.T8 : Bool × List (List Nat × List Nat) := (true, [([], []), ([0], [0]), ([1], [1]), ([2], [2]), ([], []), ([], []), ([5], [5]), ([], []), ([], []), ([6, 7, 8], [6, 7, 8]), ([], []), ([9, 10], [9, 10]), ([3, 4, 11, 0, 1, 2, 3, 4, 5, 6, 7, 8, 9, 10, 11], [3, 4, 11])])
def Dcrash.B8 : List Nat := [0, 1, 3, 7, 0, 0, 32, 0, 0, 480, 0, 2016, 4095]
theorem Dcrash.tab8 : rtab .any (opsOf Try.f14 8) = Dcrash.T8 := by kernel_rfl
theorem Dcrash.bits8 : waitsOk Dcrash.T8.2 Dcrash.B8 = true := by kernel_rfl
def fsI (keep : List Int) (fs : List Fl) (i : Nat) : List Fl := crL keep 0 (fs.take i) ++ fs.drop i
theorem fsI_zero (keep : List Int) (fs : List Fl) : fsI keep fs 0 = fs := by simp [fsI, crL]
theorem fsI_end (keep : List Int) (fs : List Fl) : fsI keep fs fs.length = crL keep 0 fs := by simp [fsI]
theorem fsI_at (keep : List Int) {fs : List Fl} {i : Nat} {f : Fl} (hf : fs[i]? = some f) : fsI keep fs i = crL keep 0 (fs.take i) ++ f :: fs.drop (i + 1) ∧ fsI keep fs (i + 1) = crL keep 0 (fs.take i) ++ crF keep i f :: fs.drop (i + 1) := by
 obtain ⟨hi, rfl⟩ := List.getElem?_eq_some_iff.1 hf
 refine ⟨by unfold fsI; rw [List.drop_eq_getElem_cons hi], ?_⟩
 unfold fsI
 rw [List.take_succ_eq_append_getElem hi, crL_append, List.append_assoc]
 have : (fs.take i).length = i := by simp; omega
 rw [Nat.zero_add, this]
 rfl
theorem fsI_names (keep : List Int) (fs : List Fl) (i : Nat) : names (fsI keep fs i) = names fs := by
 have h := names_crL keep 0 (fs.take i)
 unfold names at h ⊢
 unfold fsI
 rw [List.map_append, h, ← List.map_append, List.take_append_drop]
theorem fsI_len (keep : List Int) (fs : List Fl) (i : Nat) : (fsI keep fs i).length = fs.length := by
 have h := congrArg List.length (fsI_names keep fs i)
 simpa [names] using h
theorem IsD.nmle {N : Nat} {w : World} {p b : Nat} {d : Dk} (h : IsD N w p b d) : ∀ x ∈ names d.fs, x.length ≤ maxLen := by
 obtain ⟨es, hown, hfs⟩ := h.fs
 have := strKeys_le hown Try.underlying9
 rw [DM_keys, hfs.names] at this
 exact this
theorem round_ {N : Nat} {w : World} {p b : Nat} {d : Dk} {keep : List Int} {i : Nat} (h : IsD N w p b { d with fs := fsI keep d.fs i }) (hi : i < d.fs.length) :
  ∃ f, d.fs[i]? = some f ∧ (names d.fs)[i]? = some f.n ∧ f.n.length ≤ maxLen ∧ got f.n (fsI keep d.fs i) = (f.b, f.s) ∧ put Fl.n (crF keep i f) (fsI keep d.fs i) = fsI keep d.fs (i + 1) := by
 have hf : d.fs[i]? = some d.fs[i] := List.getElem?_eq_getElem hi
 obtain ⟨h1, h2⟩ := fsI_at keep hf
 have hs := h.sorted
 have hn : (names d.fs)[i]? = some (d.fs[i]).n := by unfold names; rw [List.getElem?_map, hf]; rfl
 refine ⟨d.fs[i], hf, hn, ?_, ?_, ?_⟩
 ·have := h.nmle (d.fs[i]).n (by show _ ∈ names (fsI keep d.fs i); rw [fsI_names]; exact List.mem_of_getElem? hn)
  exact this
 ·have hs : (names (fsI keep d.fs i)).Pairwise (fun a c => bytesBefore a c = true) := hs
  unfold got
  rw [h1] at hs ⊢
  rw [look_mid hs]
 ·have hs : (names (fsI keep d.fs i)).Pairwise (fun a c => bytesBefore a c = true) := hs
  rw [h2]
  rw [h1] at hs ⊢
  exact put_mid rfl hs
theorem IsB.cut {W : World} {A : Option Addr} {c e : Nat} {bs : List Int} (h : IsB W (.slice A bs.length c) bs) (he : e ≤ bs.length) : IsB W (.slice A e e) (bs.take e) := by
 have hl : (bs.take e).length = e := by rw [List.length_take]; omega
 rcases h with ⟨h1, rfl⟩ | ⟨g, cap, cur, h1, h2, h3, h4, h5⟩
 ·cases h1
  have : e = 0 := by simpa using he
  subst this
  exact Or.inl ⟨rfl, rfl⟩
 ·cases h1
  refine Or.inr ⟨g, e, cur, by rw [hl], by rw [hl]; exact Nat.le_refl _, by rw [hl]; omega, h4, ?_⟩
  rw [hl, List.map_take, ← h5, List.take_take, Nat.min_eq_left he]
set_option maxHeartbeats 4000000 in
set_option maxRecDepth 100000 in
theorem Crash_calls {N : Nat} {w : World} {p b : Nat} {d : Dk} (h : IsD N w p b d) (hN : N < 1000000) {A : Option Addr} {cp : Nat} {keep : List Int} (hK : ∀ w', Fr (Two p b) w w' → Kd.C (Kd.int .i64) w' A keep.length keep) :
  Calls Try.prog 14 #[.pointer (some ⟨p, 0, none⟩), .slice A keep.length cp] w fun e w' => e = .returned (.tuple #[]) ∧ IsD N w' p b (crD d keep) ∧ Fr (Two p b) w w' := by
 obtain ⟨hc0, _⟩ := h.cells
 have hlen : (names d.fs).length = d.fs.length := by simp [names]
 have hnl := names_len h
 have HK := Aside0.mk hK
 have H := Aside0.mk h
 have HNL := Aside0.mk hnl
 clear h hK hnl
 go_enter Try.func14, Try.ntmps14
 go_wp2_with (first
  | (go_at_call 45; refine (Keys_calls b _).mono ?_; rintro e w' ⟨rfl, rfl⟩)
  | (go_at_call 44; refine (Sorted_calls H.out).mono ?_; rintro e w1 ⟨Ar, cr, rfl, hnm, hrow, hb1⟩; have HROW := Aside0.mk hrow; have HB1 := Aside0.mk hb1; have HD1 := Aside0.mk (H.out.below hb1); have HNM := Aside0.mk hnm; clear hrow hb1 hnm)
  | fail)
 go_loopg [16] ((names d.fs).length) (fun kx s16 wr => ∃ i : Nat, s16 = .int .i64 (i : Int) ∧ i ≤ d.fs.length ∧ d.fs.length - i ≤ kx ∧ Aside0 (IsD N wr p b { d with fs := fsI keep d.fs i }) ∧ Aside0 (Fr (Two p b) w1 wr))
 case atStart => exact ⟨0, rfl, Nat.zero_le _, by omega, ⟨by rw [fsI_zero]; exact HD1.out⟩, ⟨Fr.refl _ _⟩⟩
 case round =>
  obtain ⟨i, rfl, hi, hk, HD, HF⟩ := hrel
  by_cases hgo : i < d.fs.length
  ·have hlz : (i : Int) < ((names d.fs).length : Int) := by omega
   have hnm6 := HNM.out
   have hwi : wrap64 ((i : Int) + 1) = ((i + 1 : Nat) : Int) := by unfold wrap64; omega
   obtain ⟨⟨fn, bs, s⟩, hf, hfn, hnb, hgot, hput⟩ := round_ HD.out hgo
   obtain ⟨ad, e1, hcell⟩ := row_cells (row_fr HROW.out HF.out (fun k hk => by rcases hk with rfl | rfl; exact H.out.lt; exact H.out.ltb)) i (v := .string ⟨fn.toArray⟩) (by rw [List.getElem?_map, hfn]; rfl)
   cases e1
   have hc0 := HD.out.cells.1
   have HNB : Aside0 ((⟨fn.toArray⟩ : ByteArray).size ≤ maxLen) := ⟨hnb⟩
   obtain ⟨sl, hrun, hsl, hs0, hs1, hmx⟩ := HD.out.lk (nm := ⟨fn.toArray⟩) HNB.out
   have hgot' : got (⟨fn.toArray⟩ : ByteArray).data.toList ({ d with fs := fsI keep d.fs i } : Dk).fs = (bs, s) := hgot
   rw [hgot'] at hrun hsl hs0 hs1 hmx
   simp only at hrun hsl hs0 hs1 hmx
   obtain ⟨A0, c0, rfl, hc0b⟩ := hsl.slice
   obtain ⟨mo, hmo⟩ : ∃ m : Nat, (if i < keep.length then (min (max (keep.getD i 0) 0) (bs.length - s)).toNat else 0) = m := ⟨_, rfl⟩
   have hmo1 : (mo : Int) ≤ bs.length - s := by rw [← hmo]; split <;> omega
   obtain ⟨en, hen⟩ : ∃ e, endOf keep i ⟨fn, bs, s⟩ = e := ⟨_, rfl⟩
   have hen1 : s.toNat + mo = en := by rw [← hen, ← hmo]; rfl
   have hw : wrap64 (s + (mo : Int)) = (en : Int) := by unfold wrap64; omega
   have hsl23 := slice23 A0 bs.length c0 en (by omega)
   have HISF : Aside0 (∀ W, IsB W (.slice A0 bs.length c0) bs → IsF W (.agg #[.slice A0 en en, .int .i64 (en : Int)]) (crF keep i ⟨fn, bs, s⟩)) := ⟨fun W hW => by
    have e2 : (bs.take en).length = en := by rw [List.length_take]; omega
    refine ⟨.slice A0 en en, ?_, ?_, ?_, ?_, ?_⟩
    ·unfold crF; rw [hen]
    ·unfold crF; rw [hen]; exact hW.cut (by omega)
    ·unfold crF; rw [hen]; exact Int.natCast_nonneg _
    ·unfold crF; rw [hen]; simp only; rw [e2]; exact Int.le_refl _
    ·unfold crF; rw [hen]; simp only; rw [e2]; omega⟩
   have hba := (Below.refl wr.heap.size wr).alloc (Nat.le_refl _) (.cells #[.slice A0 bs.length c0, .int .i64 s] 67)
   have HDa := Aside0.mk (HD.out.below hba)
   have HSa := Aside0.mk (hsl.below hba)
   have HFa := Aside0.mk (HF.out.below hba)
   have HBK := Aside0.mk (heap_alloc_new wr (.cells #[.slice A0 bs.length c0, .int .i64 s] 67))
   have HPUT := Aside0.mk hput
   by_cases hkl : i < keep.length
   ·have hklz : (i : Int) < (keep.length : Int) := by omega
    obtain ⟨kv, hkv⟩ : ∃ x, keep.getD i 0 = x := ⟨_, rfl⟩
    obtain ⟨m1, hm1⟩ : ∃ m, (if kv < 0 then 0 else kv) = m := ⟨_, rfl⟩
    obtain ⟨lim, hlim⟩ : ∃ l, wrap64 ((bs.length : Int) - s) = l := ⟨_, rfl⟩
    have hlim1 : lim = bs.length - s := by clear hmo hm1 hw hen hen1 hmo1; rw [← hlim]; unfold wrap64; omega
    have hmn : (if lim < m1 then lim else m1) = (mo : Int) := by
     rw [← hmo, if_pos hkl, hkv, hlim1, ← hm1]
     clear hm1 hw hen hen1 hmo1 hmo hlim hlim1 hrun hwi
     (repeat' split) <;> omega
    have hKC := HK.out _ ((Fr.of_below HB1.out).trans HFa.out)
    obtain ⟨ad2, e2, hkc0⟩ := hKC.2.2 (by omega)
    obtain ⟨cs, h1, h2, h3⟩ := hkc0 i (keep[i]'hkl) (List.getElem?_eq_getElem hkl)
    have h2 : cs = [.int .i64 (keep[i]'hkl)] := h2
    subst h2
    have hkc : (wr.alloc (.cells #[.slice A0 bs.length c0, .int .i64 s] 67)).cell? (Addr.add ad2 i) = some (.int .i64 kv) := by
     have := h3 0 _ rfl
     simp only [Kd.int, Kd.scalar, Nat.mul_one, Nat.add_zero] at this
     rw [this, ← hkv]
     simp [List.getD, List.getElem?_eq_getElem hkl]
    cases e2
    have hka : True := trivial
    clear hKC hkc0 h1 h3 hsl hs0 hs1 hmx hba hmo hmo1 hen hen1 hkv hlim1 hgot hgot' hput hf hfn hnb HD HF
    go_wp2_with fail
    generalize wr.alloc (.cells #[.slice A0 bs.length c0, .int .i64 s] 67) = wa at HDa HSa HFa HBK hkc ⊢
    refine start_ (n := 13) (S := fun w' => w'.cell? (Addr.add ad2 i) = some (.int .i64 kv) ∧ w'.cell? ⟨wr.heap.size, 0, none⟩ = some (.slice A0 bs.length c0) ∧ w'.cell? ⟨wr.heap.size, 1, none⟩ = some (.int .i64 s)) (ds := []) #[false, false, false, false, false, false, false, false, false, false, false, false, false] (by kernel_rfl) rfl rfl ⟨hkc, (blk_cell HBK.out 0).trans rfl, (blk_cell HBK.out 1).trans rfl⟩ (fun hHeld => ?_); refine with_tabW Dcrash.tab6 Dcrash.bits6 (fun HT_ HW_ => ?_)
    have HDd := Aside0.mk (HDa.out.below ((Below.refl wa.heap.size wa).drew))
    have HSd := Aside0.mk (HSa.out.below ((Below.refl wa.heap.size wa).drew))
    have HFd := Aside0.mk (HFa.out.drew)
    have HBKd := Aside0.mk (blk_drew HBK.out)
    clear HDa HSa HFa HBK hkc hka
    generalize World.drew _ = wx at HDd HSd HFd HBKd hHeld ⊢
    refine pure_ (i := 0) (N := some 31) (v := ?_) (a' := ?_) #[true, false, false, false, false, false, false, false, false, false, false, false, false] rfl rfl (any_of HT_.out (by kernel_rfl)) (fun _ _ _ h => h) (Or.inl ⟨by rfl, ?_⟩) ?_ ?_
    rotate_left
    ·intro w'
     go_simp
     with_reducible rfl
    rotate_left
    ·simp only [Act.put, List.setIfInBounds_toArray, List.set_cons_zero, List.set_cons_succ, i64_w, i32_w]
     rfl
    refine pure_ (i := 1) (N := some 32) (v := ?_) (a' := ?_) #[true, true, false, false, false, false, false, false, false, false, false, false, false] rfl rfl (any_of HT_.out (by kernel_rfl)) (fun _ _ _ h => h) (Or.inl ⟨by rfl, ?_⟩) ?_ ?_
    rotate_left
    ·intro w'
     go_simp
     with_reducible rfl
    rotate_left
    ·simp only [Act.put, List.setIfInBounds_toArray, List.set_cons_zero, List.set_cons_succ, i64_w, i32_w]
     rfl
    refine pure_ (i := 2) (N := some 33) (v := ?_) (a' := ?_) #[true, true, true, false, false, false, false, false, false, false, false, false, false] rfl rfl (any_of HT_.out (by kernel_rfl)) (fun _ _ _ h => h) (Or.inl ⟨by rfl, ?_⟩) ?_ ?_
    rotate_left
    ·intro w'
     go_simp
     with_reducible rfl
    rotate_left
    ·simp only [Act.put, List.setIfInBounds_toArray, List.set_cons_zero, List.set_cons_succ, i64_w, i32_w]
     rfl
    refine take_ (i := 3) (N := some 34) (v := ?_) (a' := ?_) #[true, true, true, true, false, false, false, false, false, false, false, false, false] rfl rfl (take_ofW HT_.out HW_.out (by kernel_rfl)) (fun _ _ _ h => h) (Or.inl ⟨by rfl, ?_⟩) hHeld ?_ ?_
    rotate_left
    ·rintro w' ⟨s0, s1, s2⟩
     go_simp
     with_reducible rfl
    rotate_left
    ·simp only [Act.put, List.setIfInBounds_toArray, List.set_cons_zero, List.set_cons_succ, i64_w, i32_w]
     rfl
    refine pure_ (i := 4) (N := some 35) (v := ?_) (a' := ?_) #[true, true, true, true, true, false, false, false, false, false, false, false, false] rfl rfl (any_of HT_.out (by kernel_rfl)) (fun _ _ _ h => h) (Or.inl ⟨by rfl, ?_⟩) ?_ ?_
    rotate_left
    ·intro w'
     go_simp
     with_reducible rfl
    rotate_left
    ·simp only [Act.put, List.setIfInBounds_toArray, List.set_cons_zero, List.set_cons_succ, i64_w, i32_w]
     rfl
    refine pure_ (i := 5) (N := some 36) (v := ?_) (a' := ?_) #[true, true, true, true, true, true, false, false, false, false, false, false, false] rfl rfl (any_of HT_.out (by kernel_rfl)) (fun _ _ _ h => h) (Or.inl ⟨by rfl, ?_⟩) ?_ ?_
    rotate_left
    ·intro w'
     go_simp
     with_reducible rfl
    rotate_left
    ·simp only [Act.put, List.setIfInBounds_toArray, List.set_cons_zero, List.set_cons_succ, i64_w, i32_w]
     rfl
    refine take_ (i := 6) (N := some 37) (v := ?_) (a' := ?_) #[true, true, true, true, true, true, true, false, false, false, false, false, false] rfl rfl (take_ofW HT_.out HW_.out (by kernel_rfl)) (fun _ _ _ h => h) (Or.inl ⟨by rfl, ?_⟩) hHeld ?_ ?_
    rotate_left
    ·rintro w' ⟨s0, s1, s2⟩
     go_simp
     with_reducible rfl
    rotate_left
    ·simp only [Act.put, List.setIfInBounds_toArray, List.set_cons_zero, List.set_cons_succ, i64_w, i32_w]
     rfl
    refine pure_ (i := 7) (N := some 38) (v := ?_) (a' := ?_) #[true, true, true, true, true, true, true, true, false, false, false, false, false] rfl rfl (any_of HT_.out (by kernel_rfl)) (fun _ _ _ h => h) (Or.inl ⟨by rfl, ?_⟩) ?_ ?_
    rotate_left
    ·intro w'
     go_simp
     with_reducible rfl
    rotate_left
    ·simp only [Act.put, List.setIfInBounds_toArray, List.set_cons_zero, List.set_cons_succ, i64_w, i32_w]
     rfl
    refine pure_ (i := 8) (N := some 39) (v := ?_) (a' := ?_) #[true, true, true, true, true, true, true, true, true, false, false, false, false] rfl rfl (any_of HT_.out (by kernel_rfl)) (fun _ _ _ h => h) (Or.inl ⟨by rfl, ?_⟩) ?_ ?_
    rotate_left
    ·intro w'
     go_simp
     with_reducible rfl
    rotate_left
    ·simp only [Act.put, List.setIfInBounds_toArray, List.set_cons_zero, List.set_cons_succ, i64_w, i32_w]
     rfl
    refine take_ (i := 9) (N := some 40) (v := ?_) (a' := ?_) #[true, true, true, true, true, true, true, true, true, true, false, false, false] rfl rfl (take_ofW HT_.out HW_.out (by kernel_rfl)) (fun _ _ _ h => h) (Or.inl ⟨by rfl, ?_⟩) hHeld ?_ ?_
    rotate_left
    ·rintro w' ⟨s0, s1, s2⟩
     go_simp
     with_reducible rfl
    rotate_left
    ·simp only [Act.put, List.setIfInBounds_toArray, List.set_cons_zero, List.set_cons_succ, i64_w, i32_w]
     rfl
    refine pure_ (i := 10) (N := some 41) (v := ?_) (a' := ?_) #[true, true, true, true, true, true, true, true, true, true, true, false, false] rfl rfl (any_of HT_.out (by kernel_rfl)) (fun _ _ _ h => h) (Or.inl ⟨by rfl, ?_⟩) ?_ ?_
    rotate_left
    ·intro w'
     go_simp
     with_reducible rfl
    rotate_left
    ·simp only [Act.put, List.setIfInBounds_toArray, List.set_cons_zero, List.set_cons_succ, i64_w, i32_w]
     rfl
    refine pure_ (i := 11) (N := some 42) (v := ?_) (a' := ?_) #[true, true, true, true, true, true, true, true, true, true, true, true, false] rfl rfl (any_of HT_.out (by kernel_rfl)) (fun _ _ _ h => h) (Or.inl ⟨by rfl, ?_⟩) ?_ ?_
    rotate_left
    ·intro w'
     go_simp
     with_reducible rfl
    rotate_left
    ·simp only [Act.put, List.setIfInBounds_toArray, List.set_cons_zero, List.set_cons_succ, i64_w, i32_w]
     rfl
    refine pure_ (i := 12) (N := some 7) (v := ?_) (a' := ?_) #[true, true, true, true, true, true, true, true, true, true, true, true, true] rfl rfl (any_of HT_.out (by kernel_rfl)) (fun _ _ _ h => h) (Or.inl ⟨by rfl, ?_⟩) ?_ ?_
    rotate_left
    ·intro w'
     go_simp
     with_reducible rfl
    rotate_left
    ·simp only [Act.put, List.setIfInBounds_toArray, List.set_cons_zero, List.set_cons_succ, i64_w, i32_w]
     rfl
    refine done_ (done_of HT_.out (by kernel_rfl)) ?_
    clear hHeld
    have hx0 := (blk_cell HBKd.out 0).trans rfl
    have hx1 := (blk_cell HBKd.out 1).trans rfl
    go_wp2_with fail
    refine start_ (n := 13) (S := fun w' => w'.cell? ⟨p, 0, none⟩ = some (.map (some b)) ∧ w'.cell? ⟨wr.heap.size, 0, none⟩ = some (.slice A0 bs.length c0)) (ds := [12]) #[false, false, false, false, false, false, false, false, false, false, false, false, false] (by kernel_rfl) rfl rfl ⟨HDd.out.cells.1, (blk_cell HBKd.out 0).trans rfl⟩ (fun hHeld => ?_); refine with_tabW Dcrash.tab8 Dcrash.bits8 (fun HT_ HW_ => ?_)
    have HDe := Aside0.mk (HDd.out.below ((Below.refl wx.heap.size wx).drew))
    have HSe := Aside0.mk (HSd.out.below ((Below.refl wx.heap.size wx).drew))
    have HFe := Aside0.mk (HFd.out.drew)
    clear HDd HSd HFd HBKd hx0 hx1
    generalize World.drew _ = wy at HDe HSe HFe hHeld ⊢
    refine pure_ (i := 0) (N := some 47) (v := ?_) (a' := ?_) #[true, false, false, false, false, false, false, false, false, false, false, false, false] rfl rfl (any_of HT_.out (by kernel_rfl)) (fun _ _ _ h => h) (Or.inl ⟨by rfl, ?_⟩) ?_ ?_
    rotate_left
    ·intro w'
     go_simp
     with_reducible rfl
    rotate_left
    ·simp only [Act.put, List.setIfInBounds_toArray, List.set_cons_zero, List.set_cons_succ, i64_w, i32_w]
     rfl
    refine pure_ (i := 1) (N := some 48) (v := ?_) (a' := ?_) #[true, true, false, false, false, false, false, false, false, false, false, false, false] rfl rfl (any_of HT_.out (by kernel_rfl)) (fun _ _ _ h => h) (Or.inl ⟨by rfl, ?_⟩) ?_ ?_
    rotate_left
    ·intro w'
     go_simp
     with_reducible rfl
    rotate_left
    ·simp only [Act.put, List.setIfInBounds_toArray, List.set_cons_zero, List.set_cons_succ, i64_w, i32_w]
     rfl
    refine pure_ (i := 2) (N := some 49) (v := ?_) (a' := ?_) #[true, true, true, false, false, false, false, false, false, false, false, false, false] rfl rfl (any_of HT_.out (by kernel_rfl)) (fun _ _ _ h => h) (Or.inl ⟨by rfl, ?_⟩) ?_ ?_
    rotate_left
    ·intro w'
     go_simp
     with_reducible rfl
    rotate_left
    ·simp only [Act.put, List.setIfInBounds_toArray, List.set_cons_zero, List.set_cons_succ, i64_w, i32_w]
     rfl
    refine take_ (i := 3) (N := some 50) (v := ?_) (a' := ?_) #[true, true, true, true, false, false, false, false, false, false, false, false, false] rfl rfl (take_ofW HT_.out HW_.out (by kernel_rfl)) (fun _ _ _ h => h) (Or.inl ⟨by rfl, ?_⟩) hHeld ?_ ?_
    rotate_left
    ·rintro w' ⟨s0, s1⟩
     go_simp
     with_reducible rfl
    rotate_left
    ·simp only [Act.put, List.setIfInBounds_toArray, List.set_cons_zero, List.set_cons_succ, i64_w, i32_w]
     rfl
    refine pure_ (i := 4) (N := some 51) (v := ?_) (a' := ?_) #[true, true, true, true, true, false, false, false, false, false, false, false, false] rfl rfl (any_of HT_.out (by kernel_rfl)) (fun _ _ _ h => h) (Or.inl ⟨by rfl, ?_⟩) ?_ ?_
    rotate_left
    ·intro w'
     go_simp
     with_reducible rfl
    rotate_left
    ·simp only [Act.put, List.setIfInBounds_toArray, List.set_cons_zero, List.set_cons_succ, i64_w, i32_w]
     rfl
    refine pure_ (i := 5) (N := some 52) (v := ?_) (a' := ?_) #[true, true, true, true, true, true, false, false, false, false, false, false, false] rfl rfl (any_of HT_.out (by kernel_rfl)) (fun _ _ _ h => h) (Or.inl ⟨by rfl, ?_⟩) ?_ ?_
    rotate_left
    ·intro w'
     go_simp
     with_reducible rfl
    rotate_left
    ·simp only [Act.put, List.setIfInBounds_toArray, List.set_cons_zero, List.set_cons_succ, i64_w, i32_w]
     rfl
    refine take_ (i := 6) (N := some 53) (v := ?_) (a' := ?_) #[true, true, true, true, true, true, true, false, false, false, false, false, false] rfl rfl (take_ofW HT_.out HW_.out (by kernel_rfl)) (fun _ _ _ h => h) (Or.inl ⟨by rfl, ?_⟩) hHeld ?_ ?_
    rotate_left
    ·rintro w' ⟨s0, s1⟩
     go_simp
     with_reducible rfl
    rotate_left
    ·simp only [Act.put, List.setIfInBounds_toArray, List.set_cons_zero, List.set_cons_succ, i64_w, i32_w]
     rfl
    refine pure_ (i := 7) (N := some 54) (v := ?_) (a' := ?_) #[true, true, true, true, true, true, true, true, false, false, false, false, false] rfl rfl (any_of HT_.out (by kernel_rfl)) (fun _ _ _ h => h) (Or.inl ⟨by rfl, ?_⟩) ?_ ?_
    rotate_left
    ·intro w'
     go_simp
     with_reducible rfl
    rotate_left
    ·simp only [Act.put, List.setIfInBounds_toArray, List.set_cons_zero, List.set_cons_succ, i64_w, i32_w]
     rfl
    refine pure_ (i := 8) (N := some 55) (v := ?_) (a' := ?_) #[true, true, true, true, true, true, true, true, true, false, false, false, false] rfl rfl (any_of HT_.out (by kernel_rfl)) (fun _ _ _ h => h) (Or.inl ⟨by rfl, ?_⟩) ?_ ?_
    rotate_left
    ·intro w'
     go_simp
     with_reducible rfl
    rotate_left
    ·simp only [Act.put, List.setIfInBounds_toArray, List.set_cons_zero, List.set_cons_succ, i64_w, i32_w]
     rfl
    refine pure_ (i := 9) (N := some 56) (v := ?_) (a' := ?_) #[true, true, true, true, true, true, true, true, true, true, false, false, false] rfl rfl (any_of HT_.out (by kernel_rfl)) (fun _ _ _ h => h) (Or.inl ⟨by rfl, ?_⟩) ?_ ?_
    rotate_left
    ·intro w'
     go_simp
     with_reducible rfl
    rotate_left
    ·simp only [Act.put, List.setIfInBounds_toArray, List.set_cons_zero, List.set_cons_succ, i64_w, i32_w]
     rfl
    refine pure_ (i := 10) (N := some 57) (v := ?_) (a' := ?_) #[true, true, true, true, true, true, true, true, true, true, true, false, false] rfl rfl (any_of HT_.out (by kernel_rfl)) (fun _ _ _ h => h) (Or.inl ⟨by rfl, ?_⟩) ?_ ?_
    rotate_left
    ·intro w'
     go_simp
     with_reducible rfl
    rotate_left
    ·simp only [Act.put, List.setIfInBounds_toArray, List.set_cons_zero, List.set_cons_succ, i64_w, i32_w]
     rfl
    refine pure_ (i := 11) (N := some 58) (v := ?_) (a' := ?_) #[true, true, true, true, true, true, true, true, true, true, true, true, false] rfl rfl (any_of HT_.out (by kernel_rfl)) (fun _ _ _ h => h) (Or.inl ⟨by rfl, ?_⟩) ?_ ?_
    rotate_left
    ·intro w'
     go_simp
     with_reducible rfl
    rotate_left
    ·simp only [Act.put, List.setIfInBounds_toArray, List.set_cons_zero, List.set_cons_succ, i64_w, i32_w]
     rfl
    obtain ⟨w4, hrun4, hd4, hf4⟩ := HDe.out.put_ (nm := ⟨fn.toArray⟩) HNB.out hN (f := crF keep i ⟨fn, bs, s⟩) (HISF.out wy HSe.out) (by simp [crF])
    refine last_ (i := 12) (N := none) #[true, true, true, true, true, true, true, true, true, true, true, true, true] rfl rfl (one_of HT_.out (by kernel_rfl)) (by decide) (fun K hK => ?_)
    refine skip_ (w1 := w4) (by rfl) rfl ?_ ?_
    ·go_simp
     first | done | simp [hrun4, Result.andThen]
    refine hK.out _ _ ?_
    clear hK K
    have HD4 := Aside0.mk hd4
    have HF4 := Aside0.mk (HFe.out.trans hf4)
    clear hd4 hf4 hrun4 HDe HSe HFe
    refine done_ (done_of HT_.out (by kernel_rfl)) ?_
    go_wp2_with fail
    go_roundg (d.fs.length - (i + 1))
    case measure => omega
    case rel => exact ⟨i + 1, by first | rfl | (rw [hwi]; rfl), by omega, Nat.le_refl _, ⟨by have h := HD4.out; rw [HPUT.out] at h; exact h.tight (by show (fsI keep d.fs (i + 1)).length ≤ N; rw [fsI_len]; exact HNL.out) (by omega)⟩, HF4⟩
   ·have hklz : ¬ (i : Int) < (keep.length : Int) := by omega
    have hm0 : mo = 0 := by rw [← hmo, if_neg hkl]
    have hw0 : wrap64 s = (en : Int) := by rw [← hw, hm0]; simp
    have hx1 : (wr.alloc (.cells #[.slice A0 bs.length c0, .int .i64 s] 67)).cell? ⟨wr.heap.size, 1, none⟩ = some (.int .i64 s) := (blk_cell HBK.out 1).trans rfl
    have hx0 : True := trivial
    clear hsl hs0 hs1 hmx hba hmo hmo1 hen hen1 hgot hgot' hput hf hfn hnb HD HF hw hm0
    go_wp2_with fail
    have HDd := Aside0.mk HDa.out
    have HSd := Aside0.mk HSa.out
    have HFd := Aside0.mk HFa.out
    have HBKd := Aside0.mk HBK.out
    clear HDa HSa HFa HBK
    generalize wr.alloc (.cells #[.slice A0 bs.length c0, .int .i64 s] 67) = wx at HDd HSd HFd HBKd hx1 ⊢
    refine start_ (n := 13) (S := fun w' => w'.cell? ⟨p, 0, none⟩ = some (.map (some b)) ∧ w'.cell? ⟨wr.heap.size, 0, none⟩ = some (.slice A0 bs.length c0)) (ds := [12]) #[false, false, false, false, false, false, false, false, false, false, false, false, false] (by kernel_rfl) rfl rfl ⟨HDd.out.cells.1, (blk_cell HBKd.out 0).trans rfl⟩ (fun hHeld => ?_); refine with_tabW Dcrash.tab8 Dcrash.bits8 (fun HT_ HW_ => ?_)
    have HDe := Aside0.mk (HDd.out.below ((Below.refl wx.heap.size wx).drew))
    have HSe := Aside0.mk (HSd.out.below ((Below.refl wx.heap.size wx).drew))
    have HFe := Aside0.mk (HFd.out.drew)
    clear HDd HSd HFd HBKd hx0 hx1
    generalize World.drew _ = wy at HDe HSe HFe hHeld ⊢
    refine pure_ (i := 0) (N := some 47) (v := ?_) (a' := ?_) #[true, false, false, false, false, false, false, false, false, false, false, false, false] rfl rfl (any_of HT_.out (by kernel_rfl)) (fun _ _ _ h => h) (Or.inl ⟨by rfl, ?_⟩) ?_ ?_
    rotate_left
    ·intro w'
     go_simp
     with_reducible rfl
    rotate_left
    ·simp only [Act.put, List.setIfInBounds_toArray, List.set_cons_zero, List.set_cons_succ, i64_w, i32_w]
     rfl
    refine pure_ (i := 1) (N := some 48) (v := ?_) (a' := ?_) #[true, true, false, false, false, false, false, false, false, false, false, false, false] rfl rfl (any_of HT_.out (by kernel_rfl)) (fun _ _ _ h => h) (Or.inl ⟨by rfl, ?_⟩) ?_ ?_
    rotate_left
    ·intro w'
     go_simp
     with_reducible rfl
    rotate_left
    ·simp only [Act.put, List.setIfInBounds_toArray, List.set_cons_zero, List.set_cons_succ, i64_w, i32_w]
     rfl
    refine pure_ (i := 2) (N := some 49) (v := ?_) (a' := ?_) #[true, true, true, false, false, false, false, false, false, false, false, false, false] rfl rfl (any_of HT_.out (by kernel_rfl)) (fun _ _ _ h => h) (Or.inl ⟨by rfl, ?_⟩) ?_ ?_
    rotate_left
    ·intro w'
     go_simp
     with_reducible rfl
    rotate_left
    ·simp only [Act.put, List.setIfInBounds_toArray, List.set_cons_zero, List.set_cons_succ, i64_w, i32_w]
     rfl
    refine take_ (i := 3) (N := some 50) (v := ?_) (a' := ?_) #[true, true, true, true, false, false, false, false, false, false, false, false, false] rfl rfl (take_ofW HT_.out HW_.out (by kernel_rfl)) (fun _ _ _ h => h) (Or.inl ⟨by rfl, ?_⟩) hHeld ?_ ?_
    rotate_left
    ·rintro w' ⟨s0, s1⟩
     go_simp
     with_reducible rfl
    rotate_left
    ·simp only [Act.put, List.setIfInBounds_toArray, List.set_cons_zero, List.set_cons_succ, i64_w, i32_w]
     rfl
    refine pure_ (i := 4) (N := some 51) (v := ?_) (a' := ?_) #[true, true, true, true, true, false, false, false, false, false, false, false, false] rfl rfl (any_of HT_.out (by kernel_rfl)) (fun _ _ _ h => h) (Or.inl ⟨by rfl, ?_⟩) ?_ ?_
    rotate_left
    ·intro w'
     go_simp
     with_reducible rfl
    rotate_left
    ·simp only [Act.put, List.setIfInBounds_toArray, List.set_cons_zero, List.set_cons_succ, i64_w, i32_w]
     rfl
    refine pure_ (i := 5) (N := some 52) (v := ?_) (a' := ?_) #[true, true, true, true, true, true, false, false, false, false, false, false, false] rfl rfl (any_of HT_.out (by kernel_rfl)) (fun _ _ _ h => h) (Or.inl ⟨by rfl, ?_⟩) ?_ ?_
    rotate_left
    ·intro w'
     go_simp
     with_reducible rfl
    rotate_left
    ·simp only [Act.put, List.setIfInBounds_toArray, List.set_cons_zero, List.set_cons_succ, i64_w, i32_w]
     rfl
    refine take_ (i := 6) (N := some 53) (v := ?_) (a' := ?_) #[true, true, true, true, true, true, true, false, false, false, false, false, false] rfl rfl (take_ofW HT_.out HW_.out (by kernel_rfl)) (fun _ _ _ h => h) (Or.inl ⟨by rfl, ?_⟩) hHeld ?_ ?_
    rotate_left
    ·rintro w' ⟨s0, s1⟩
     go_simp
     with_reducible rfl
    rotate_left
    ·simp only [Act.put, List.setIfInBounds_toArray, List.set_cons_zero, List.set_cons_succ, i64_w, i32_w]
     rfl
    refine pure_ (i := 7) (N := some 54) (v := ?_) (a' := ?_) #[true, true, true, true, true, true, true, true, false, false, false, false, false] rfl rfl (any_of HT_.out (by kernel_rfl)) (fun _ _ _ h => h) (Or.inl ⟨by rfl, ?_⟩) ?_ ?_
    rotate_left
    ·intro w'
     go_simp
     with_reducible rfl
    rotate_left
    ·simp only [Act.put, List.setIfInBounds_toArray, List.set_cons_zero, List.set_cons_succ, i64_w, i32_w]
     rfl
    refine pure_ (i := 8) (N := some 55) (v := ?_) (a' := ?_) #[true, true, true, true, true, true, true, true, true, false, false, false, false] rfl rfl (any_of HT_.out (by kernel_rfl)) (fun _ _ _ h => h) (Or.inl ⟨by rfl, ?_⟩) ?_ ?_
    rotate_left
    ·intro w'
     go_simp
     with_reducible rfl
    rotate_left
    ·simp only [Act.put, List.setIfInBounds_toArray, List.set_cons_zero, List.set_cons_succ, i64_w, i32_w]
     rfl
    refine pure_ (i := 9) (N := some 56) (v := ?_) (a' := ?_) #[true, true, true, true, true, true, true, true, true, true, false, false, false] rfl rfl (any_of HT_.out (by kernel_rfl)) (fun _ _ _ h => h) (Or.inl ⟨by rfl, ?_⟩) ?_ ?_
    rotate_left
    ·intro w'
     go_simp
     with_reducible rfl
    rotate_left
    ·simp only [Act.put, List.setIfInBounds_toArray, List.set_cons_zero, List.set_cons_succ, i64_w, i32_w]
     rfl
    refine pure_ (i := 10) (N := some 57) (v := ?_) (a' := ?_) #[true, true, true, true, true, true, true, true, true, true, true, false, false] rfl rfl (any_of HT_.out (by kernel_rfl)) (fun _ _ _ h => h) (Or.inl ⟨by rfl, ?_⟩) ?_ ?_
    rotate_left
    ·intro w'
     go_simp
     with_reducible rfl
    rotate_left
    ·simp only [Act.put, List.setIfInBounds_toArray, List.set_cons_zero, List.set_cons_succ, i64_w, i32_w]
     rfl
    refine pure_ (i := 11) (N := some 58) (v := ?_) (a' := ?_) #[true, true, true, true, true, true, true, true, true, true, true, true, false] rfl rfl (any_of HT_.out (by kernel_rfl)) (fun _ _ _ h => h) (Or.inl ⟨by rfl, ?_⟩) ?_ ?_
    rotate_left
    ·intro w'
     go_simp
     with_reducible rfl
    rotate_left
    ·simp only [Act.put, List.setIfInBounds_toArray, List.set_cons_zero, List.set_cons_succ, i64_w, i32_w]
     rfl
    obtain ⟨w4, hrun4, hd4, hf4⟩ := HDe.out.put_ (nm := ⟨fn.toArray⟩) HNB.out hN (f := crF keep i ⟨fn, bs, s⟩) (HISF.out wy HSe.out) (by simp [crF])
    refine last_ (i := 12) (N := none) #[true, true, true, true, true, true, true, true, true, true, true, true, true] rfl rfl (one_of HT_.out (by kernel_rfl)) (by decide) (fun K hK => ?_)
    refine skip_ (w1 := w4) (by rfl) rfl ?_ ?_
    ·go_simp
     first | done | simp [hrun4, Result.andThen]
    refine hK.out _ _ ?_
    clear hK K
    have HD4 := Aside0.mk hd4
    have HF4 := Aside0.mk (HFe.out.trans hf4)
    clear hd4 hf4 hrun4 HDe HSe HFe
    refine done_ (done_of HT_.out (by kernel_rfl)) ?_
    go_wp2_with fail
    go_roundg (d.fs.length - (i + 1))
    case measure => omega
    case rel => exact ⟨i + 1, by first | rfl | (rw [hwi]; rfl), by omega, Nat.le_refl _, ⟨by have h := HD4.out; rw [HPUT.out] at h; exact h.tight (by show (fsI keep d.fs (i + 1)).length ≤ N; rw [fsI_len]; exact HNL.out) (by omega)⟩, HF4⟩
  ·have hlz : ¬ (i : Int) < ((names d.fs).length : Int) := by omega
   have hie : i = d.fs.length := by omega
   obtain ⟨hc0, hc1, hc2, hc3⟩ := HD.out.cells
   have hf2 := HD.out.frozen 2
   have hf3 := HD.out.frozen 3
   have HIE := Aside0.mk hie
   clear hie
   go_wp2
   first | go_end0 | ((try simp only [Exit.inBlock, Exit.then]); refine bodyPost_ret (results_none rfl _ _ _) rfl ?_)
   have h := HD.out
   rw [HIE.out, fsI_end] at h
   have s1 := h.set 3 (.bool false) { d with fs := crL keep 0 d.fs, dead := false } rfl rfl h.room0 h.room1 h.cut0 h.cut1
   have s2 := s1.1.set 2 (.int .i64 (-1)) (crD d keep) rfl rfl h.room0 h.room1 (by show (-1 : Int) ≤ -1; omega) (by show (-1 : Int) ≤ _; omega)
   exact ⟨rfl, s2.1, ((Fr.of_below HB1.out).trans HF.out).trans (s1.2.trans s2.2)⟩
end Go.Proofs.Ytihbgdobicokpaa.D
namespace Go.Proofs.Ytihbgdobicokpaa.D
open Go.RowKit Go.Maps Go.Proofs.Ytihbgdobicokpaa.X Go.Proofs.YtihbgdobicokpaaW.PrintWords Go.Proofs.YtihbgdobicokpaaW.PrintLast Go.Proofs.YtihbgdobicokpaaW.PrintMore
attribute [local go_sem] max2_int min2_int max_two min_two max_three min_three max_four min_four   -- for this text's walks alone
set_option linter.unusedVariables false
set_option linter.unusedSimpArgs false
def Dplay.T10 : Bool × List (List Nat × List Nat) := (true, [([], []), ([], []), ([], []), ([1, 2], [1, 2]), ([3], [3]), ([4], [4]), ([], []), ([], []), ([6, 7], [6, 7]), ([8], [8]), ([9], [9]), ([0, 5, 10], [0, 5, 10]), ([11, 11, 0, 1, 2, 3, 4, 5, 6, 7, 8, 9, 10, 11], [11])])
def Dplay.B10 : List Nat := [0, 0, 0, 6, 14, 30, 0, 0, 192, 448, 960, 2047, 4095]
theorem Dplay.tab10 : rtab .any (opsOf Try.f21 10) = Dplay.T10 := by kernel_rfl
theorem Dplay.bits10 : waitsOk Dplay.T10.2 Dplay.B10 = true := by kernel_rfl
def Dplay.T14 : Bool × List (List Nat × List Nat) := (true, [([], []), ([], []), ([], []), ([1, 2], [1, 2]), ([3], [3]), ([4], [4]), ([], []), ([], []), ([6, 7], [6, 7]), ([8], [8]), ([9], [9]), ([0, 5, 10], [0, 5, 10]), ([11, 11, 0, 1, 2, 3, 4, 5, 6, 7, 8, 9, 10, 11], [11])])
def Dplay.B14 : List Nat := [0, 0, 0, 6, 14, 30, 0, 0, 192, 448, 960, 2047, 4095]
theorem Dplay.tab14 : rtab .any (opsOf Try.f21 14) = Dplay.T14 := by kernel_rfl
theorem Dplay.bits14 : waitsOk Dplay.T14.2 Dplay.B14 = true := by kernel_rfl
def stepE (d : Dk) (x : S30) : Int × Dk :=
 if x.f0 = 0 ∨ x.f0 = 1 ∨ x.f0 = 2 then wrD d x.f2.data.toList x.f4 else if x.f0 = 3 then syD d x.f2.data.toList else if x.f0 = 4 then rnD d x.f2.data.toList x.f3.data.toList else if x.f0 = 5 then delD d x.f2.data.toList else (1, d)
def playS (s : Dk × Int) (x : S30) : Dk × Int := ((stepE s.1 x).2, if (stepE s.1 x).1 = 0 then s.2 + 1 else s.2)
def playF (l : List S30) (d : Dk) : Dk × Int := l.foldl playS (d, 0)
theorem playF_snoc (l : List S30) (d : Dk) {i : Nat} (hi : i < l.length) : playF (l.take (i + 1)) d = playS (playF (l.take i) d) l[i] := by
 unfold playF
 rw [List.take_succ_eq_append_getElem hi, List.foldl_append]
 rfl
def GoodL (l : List S30) : Prop := ∀ x ∈ l, x.f2.size ≤ maxLen ∧ x.f3.size ≤ maxLen
theorem step_cells {w0 : World} {A : Option Addr} {l : List S30} (hC : Kd.C k30 w0 A l.length l) {i : Nat} (hi : i < l.length) : ∃ ad A4 c4 A5 c5, A = some ad ∧ Kd.C (Kd.int .u8) w0 A4 l[i].f4.length l[i].f4 ∧ Kd.C (Kd.int .i64) w0 A5 l[i].f5.length l[i].f5 ∧ ∀ w', Below w0.heap.size w0 w' → w'.cell? (ad.add (i * 6)) = some (.int .i64 l[i].f0) ∧ w'.cell? ⟨(ad.add (i * 6)).block, (ad.add (i * 6)).off + 1, none⟩ = some (.int .i64 l[i].f1) ∧ w'.cell? ⟨(ad.add (i * 6)).block, (ad.add (i * 6)).off + 2, none⟩ = some (.string l[i].f2) ∧ w'.cell? ⟨(ad.add (i * 6)).block, (ad.add (i * 6)).off + 3, none⟩ = some (.string l[i].f3) ∧ w'.cell? ⟨(ad.add (i * 6)).block, (ad.add (i * 6)).off + 4, none⟩ = some (.slice A4 l[i].f4.length c4) ∧ w'.cell? ⟨(ad.add (i * 6)).block, (ad.add (i * 6)).off + 5, none⟩ = some (.slice A5 l[i].f5.length c5) := by
 obtain ⟨ad, A4, c4, A5, c5, e, g0, g1, g2, g3, g4, g5, _, k4, _, k5⟩ := at_T30 hC (i : Int) (by omega) (by omega)
 have hx : rd_T30 l (i : Int) = l[i] := by simp [rd_T30, List.getD, List.getElem?_eq_getElem hi]
 rw [hx] at g0 g1 g2 g3 g4 g5 k4 k5
 simp only [Int.toNat_natCast] at g0 g1 g2 g3 g4 g5
 exact ⟨ad, A4, c4, A5, c5, e, k4, k5, fun w' hb => ⟨(hb.cell (World.block_lt_of_cell? w0 _ g0)).trans g0, (hb.cell (World.block_lt_of_cell? w0 _ g1)).trans g1, (hb.cell (World.block_lt_of_cell? w0 _ g2)).trans g2, (hb.cell (World.block_lt_of_cell? w0 _ g3)).trans g3, (hb.cell (World.block_lt_of_cell? w0 _ g4)).trans g4, (hb.cell (World.block_lt_of_cell? w0 _ g5)).trans g5⟩⟩
theorem Fr.base {w0 w w' : World} {p b : Nat} (h : Below w0.heap.size w0 w) (hp : w0.heap.size ≤ p) (hb : w0.heap.size ≤ b) (hf : Fr (Two p b) w w') : Below w0.heap.size w0 w' :=
 h.trans (hf.toBelow h.size (fun k _ hk => by rcases hk with rfl | rfl; exact hp; exact hb))
set_option maxHeartbeats 8000000 in
set_option maxRecDepth 100000 in
theorem play_calls {N : Nat} {w0 w : World} {p b : Nat} {d : Dk} (h : IsD N w p b d) (hB : Below w0.heap.size w0 w) (hp : w0.heap.size ≤ p) (hb : w0.heap.size ≤ b) {A : Option Addr} {cl : Nat} {l : List S30} (hN : N + l.length ≤ 1000000) (hC : Kd.C k30 w0 A l.length l) (hg : GoodL l) :
  Calls Try.prog 21 #[.pointer (some ⟨p, 0, none⟩), .slice A l.length cl] w fun e w' => e = .returned (.int .i64 (playF l d).2) ∧ IsD (N + l.length) w' p b (playF l d).1 ∧ Fr (Two p b) w w' := by
 have H := Aside0.mk h
 have HB := Aside0.mk hB
 have HP := Aside0.mk hp
 have HBB := Aside0.mk hb
 have HC := Aside0.mk hC
 have HG := Aside0.mk hg
 have HN := Aside0.mk hN
 clear h hB hp hb hC hg hN
 go_enter Try.func21, Try.ntmps21
 go_wp2_with fail
 go_loopg [5, 6] (l.length) (fun kx s5 s6 wr => ∃ (i : Nat) (ni : Int) (di : Dk), s6 = .int .i64 (i : Int) ∧ s5 = .int .i64 ni ∧ i ≤ l.length ∧ l.length - i ≤ kx ∧ Aside0 (0 ≤ ni ∧ ni ≤ i ∧ playF (l.take i) d = (di, ni)) ∧ Aside0 (IsD (N + i) wr p b di) ∧ Aside0 (Fr (Two p b) w wr))
 case atStart => exact ⟨0, 0, d, rfl, rfl, Nat.zero_le _, by omega, ⟨Int.le_refl _, Int.le_refl _, rfl⟩, ⟨H.out⟩, ⟨Fr.refl _ _⟩⟩
 case round =>
  obtain ⟨i, ni, di, rfl, rfl, hi, hk, HI, HD, HF⟩ := hrel
  by_cases hgo : i < l.length
  ·have hlz : (i : Int) < (l.length : Int) := by omega
   have hNi : N + i < 1000000 := by have := HN.out; omega
   have hl64 : l.length ≤ 1000000 := by have := HN.out; omega
   have hwi : wrap64 ((i : Int) + 1) = ((i + 1 : Nat) : Int) := by unfold wrap64; omega
   have hwn : wrap64 (ni + 1) = ni + 1 := by have := HI.out; unfold wrap64; omega
   obtain ⟨ad, A4, c4, A5, c5, e1, k4, _, hcells⟩ := step_cells HC.out hgo
   cases e1
   have hgx := HG.out l[i] (List.getElem_mem hgo)
   have HST := Aside0.mk (playF_snoc l d hgo)
   rw [HI.out.2.2] at HST
   generalize hx : l[i] = x at hcells k4 hgx HST
   clear hx
   obtain ⟨x0, x1, nm, tm, bs, ks⟩ := x
   simp only at hcells k4 hgx
   have HCE := Aside0.mk hcells
   have HBr := Aside0.mk (Fr.base HB.out HP.out HBB.out HF.out)
   obtain ⟨g0, g1, g2, g3, g4, g5⟩ := hcells wr HBr.out
   obtain ⟨hnm, htm⟩ := hgx
   have HNM := Aside0.mk hnm
   have HTM := Aside0.mk htm
   have HC4 := Aside0.mk (Kd.C_below k4 HBr.out)
   have HNI := Aside0.mk hNi
   clear hcells k4 hnm htm hNi hl64
   by_cases c0 : x0 = 0
   ·subst c0
    obtain ⟨e, d', HE⟩ : ∃ e d', Aside0 (wrD di nm.data.toList bs = (e, d')) := ⟨_, _, ⟨rfl⟩⟩
    go_wp2_with fail
    refine start_ (n := 13) (S := fun w' => w'.cell? ⟨(ad.add (i * 6)).block, (ad.add (i * 6)).off + 2, none⟩ = some (.string nm) ∧ w'.cell? ⟨(ad.add (i * 6)).block, (ad.add (i * 6)).off + 4, none⟩ = some (.slice A4 bs.length c4)) (ds := []) #[false, false, false, false, false, false, false, false, false, false, false, false, false] (by kernel_rfl) rfl rfl ⟨(HCE.out wr HBr.out).2.2.1, (HCE.out wr HBr.out).2.2.2.2.1⟩ (fun hHeld => ?_); refine with_tabW Dplay.tab10 Dplay.bits10 (fun HT_ HW_ => ?_)
    have HDd := Aside0.mk (HD.out.below ((Below.refl wr.heap.size wr).drew))
    have HCd := Aside0.mk (Kd.C_below HC4.out ((Below.refl wr.heap.size wr).drew))
    have HFd := Aside0.mk (HF.out.drew)
    clear HD HC4 HF HBr g0 g1 g2 g3 g4 g5
    generalize World.drew _ = w3 at HDd HCd HFd hHeld ⊢
    refine pure_ (i := 0) (N := some 23) (v := ?_) (a' := ?_) #[true, false, false, false, false, false, false, false, false, false, false, false, false] rfl rfl (any_of HT_.out (by kernel_rfl)) (fun _ _ _ h => h) (Or.inl ⟨by rfl, ?_⟩) ?_ ?_
    rotate_left
    ·intro w'
     go_simp
     with_reducible rfl
    rotate_left
    ·simp only [Act.put, List.setIfInBounds_toArray, List.set_cons_zero, List.set_cons_succ, i64_w, i32_w]
     rfl
    refine pure_ (i := 1) (N := some 24) (v := ?_) (a' := ?_) #[true, true, false, false, false, false, false, false, false, false, false, false, false] rfl rfl (any_of HT_.out (by kernel_rfl)) (fun _ _ _ h => h) (Or.inl ⟨by rfl, ?_⟩) ?_ ?_
    rotate_left
    ·intro w'
     go_simp
     with_reducible rfl
    rotate_left
    ·simp only [Act.put, List.setIfInBounds_toArray, List.set_cons_zero, List.set_cons_succ, i64_w, i32_w]
     rfl
    refine pure_ (i := 2) (N := some 25) (v := ?_) (a' := ?_) #[true, true, true, false, false, false, false, false, false, false, false, false, false] rfl rfl (any_of HT_.out (by kernel_rfl)) (fun _ _ _ h => h) (Or.inl ⟨by rfl, ?_⟩) ?_ ?_
    rotate_left
    ·intro w'
     go_simp
     with_reducible rfl
    rotate_left
    ·simp only [Act.put, List.setIfInBounds_toArray, List.set_cons_zero, List.set_cons_succ, i64_w, i32_w]
     rfl
    refine pure_ (i := 3) (N := some 26) (v := ?_) (a' := ?_) #[true, true, true, true, false, false, false, false, false, false, false, false, false] rfl rfl (any_of HT_.out (by kernel_rfl)) (fun _ _ _ h => h) (Or.inl ⟨by rfl, ?_⟩) ?_ ?_
    rotate_left
    ·intro w'
     go_simp
     with_reducible rfl
    rotate_left
    ·simp only [Act.put, List.setIfInBounds_toArray, List.set_cons_zero, List.set_cons_succ, i64_w, i32_w]
     rfl
    refine pure_ (i := 4) (N := some 27) (v := ?_) (a' := ?_) #[true, true, true, true, true, false, false, false, false, false, false, false, false] rfl rfl (any_of HT_.out (by kernel_rfl)) (fun _ _ _ h => h) (Or.inl ⟨by rfl, ?_⟩) ?_ ?_
    rotate_left
    ·intro w'
     go_simp
     with_reducible rfl
    rotate_left
    ·simp only [Act.put, List.setIfInBounds_toArray, List.set_cons_zero, List.set_cons_succ, i64_w, i32_w]
     rfl
    refine take_ (i := 5) (N := some 28) (v := ?_) (a' := ?_) #[true, true, true, true, true, true, false, false, false, false, false, false, false] rfl rfl (take_ofW HT_.out HW_.out (by kernel_rfl)) (fun _ _ _ h => h) (Or.inl ⟨by rfl, ?_⟩) hHeld ?_ ?_
    rotate_left
    ·rintro w' ⟨s0, s1⟩
     go_simp
     with_reducible rfl
    rotate_left
    ·simp only [Act.put, List.setIfInBounds_toArray, List.set_cons_zero, List.set_cons_succ, i64_w, i32_w]
     rfl
    refine pure_ (i := 6) (N := some 29) (v := ?_) (a' := ?_) #[true, true, true, true, true, true, true, false, false, false, false, false, false] rfl rfl (any_of HT_.out (by kernel_rfl)) (fun _ _ _ h => h) (Or.inl ⟨by rfl, ?_⟩) ?_ ?_
    rotate_left
    ·intro w'
     go_simp
     with_reducible rfl
    rotate_left
    ·simp only [Act.put, List.setIfInBounds_toArray, List.set_cons_zero, List.set_cons_succ, i64_w, i32_w]
     rfl
    refine pure_ (i := 7) (N := some 30) (v := ?_) (a' := ?_) #[true, true, true, true, true, true, true, true, false, false, false, false, false] rfl rfl (any_of HT_.out (by kernel_rfl)) (fun _ _ _ h => h) (Or.inl ⟨by rfl, ?_⟩) ?_ ?_
    rotate_left
    ·intro w'
     go_simp
     with_reducible rfl
    rotate_left
    ·simp only [Act.put, List.setIfInBounds_toArray, List.set_cons_zero, List.set_cons_succ, i64_w, i32_w]
     rfl
    refine pure_ (i := 8) (N := some 31) (v := ?_) (a' := ?_) #[true, true, true, true, true, true, true, true, true, false, false, false, false] rfl rfl (any_of HT_.out (by kernel_rfl)) (fun _ _ _ h => h) (Or.inl ⟨by rfl, ?_⟩) ?_ ?_
    rotate_left
    ·intro w'
     go_simp
     with_reducible rfl
    rotate_left
    ·simp only [Act.put, List.setIfInBounds_toArray, List.set_cons_zero, List.set_cons_succ, i64_w, i32_w]
     rfl
    refine pure_ (i := 9) (N := some 32) (v := ?_) (a' := ?_) #[true, true, true, true, true, true, true, true, true, true, false, false, false] rfl rfl (any_of HT_.out (by kernel_rfl)) (fun _ _ _ h => h) (Or.inl ⟨by rfl, ?_⟩) ?_ ?_
    rotate_left
    ·intro w'
     go_simp
     with_reducible rfl
    rotate_left
    ·simp only [Act.put, List.setIfInBounds_toArray, List.set_cons_zero, List.set_cons_succ, i64_w, i32_w]
     rfl
    refine take_ (i := 10) (N := some 33) (v := ?_) (a' := ?_) #[true, true, true, true, true, true, true, true, true, true, true, false, false] rfl rfl (take_ofW HT_.out HW_.out (by kernel_rfl)) (fun _ _ _ h => h) (Or.inl ⟨by rfl, ?_⟩) hHeld ?_ ?_
    rotate_left
    ·rintro w' ⟨s0, s1⟩
     go_simp
     with_reducible rfl
    rotate_left
    ·simp only [Act.put, List.setIfInBounds_toArray, List.set_cons_zero, List.set_cons_succ, i64_w, i32_w]
     rfl
    refine one_ (i := 11) (N := some 34) #[true, true, true, true, true, true, true, true, true, true, true, true, false] rfl rfl (one_of HT_.out (by kernel_rfl)) (by decide) (fun K hK => ?_)
    refine goes_ Try.func11 (by kernel_rfl) rfl #[.pointer (some ⟨p, 0, none⟩), .string nm, .slice A4 bs.length c4] (by rfl) rfl rfl (by (try simp only [List.map_toArray, List.map_cons, List.map_nil]); first | done | rfl) ?_
    refine (Write_calls HDd.out HNI.out HNM.out HCd.out).mono ?_
    rintro e w4 ⟨rfl, hd4, hf4⟩
    refine ⟨_, rfl, ?_⟩
    rw [HE.out] at hd4
    rw [HE.out]
    simp only at hd4
    have HD4 := Aside0.mk hd4
    have HF4 := Aside0.mk (HFd.out.trans hf4)
    have HB4 := Aside0.mk (Fr.base HB.out HP.out HBB.out HF4.out)
    clear hd4 hf4 HDd HCd HFd
    refine hK.out _ _ ⟨(HCE.out w4 HB4.out).2.2.1, (HCE.out w4 HB4.out).2.2.2.2.1⟩ (fun hHeld => ?_)
    clear hK K
    refine norm_ (a' := ?_) ?_ ?_
    rotate_left
    ·show Act.put _ (some 34) _ = _
     simp only [Act.put, List.setIfInBounds_toArray, List.set_cons_zero, List.set_cons_succ, i64_w, i32_w]
     rfl
    refine pure_ (i := 12) (N := some 7) (v := ?_) (a' := ?_) #[true, true, true, true, true, true, true, true, true, true, true, true, true] rfl rfl (any_of HT_.out (by kernel_rfl)) (fun _ _ _ h => h) (Or.inl ⟨by rfl, ?_⟩) ?_ ?_
    rotate_left
    ·intro w'
     go_simp
     with_reducible rfl
    rotate_left
    ·simp only [Act.put, List.setIfInBounds_toArray, List.set_cons_zero, List.set_cons_succ, i64_w, i32_w]
     rfl
    refine done_ (done_of HT_.out (by kernel_rfl)) ?_
    by_cases he : e = 0
    ·subst he
     go_wp2_with fail
     go_roundg (l.length - (i + 1))
     case measure => omega
     case rel => exact ⟨i + 1, ni + 1, d', by first | rfl | rw [hwi], by first | rfl | rw [hwn], by omega, Nat.le_refl _, ⟨by have := HI.out; omega, by have := HI.out; omega, by rw [HST.out]; simp [playS, stepE, HE.out]⟩, HD4, HF4⟩
    ·have he1 : (e == 0) = false := by simpa using he
     go_wp2_with fail
     go_roundg (l.length - (i + 1))
     case measure => omega
     case rel => exact ⟨i + 1, ni, d', by first | rfl | rw [hwi], rfl, by omega, Nat.le_refl _, ⟨by have := HI.out; omega, by have := HI.out; omega, by rw [HST.out]; simp [playS, stepE, HE.out, he]⟩, HD4, HF4⟩
   have n0 : (x0 == 0) = false := by simpa using c0
   by_cases c1 : x0 = 1
   ·subst c1
    obtain ⟨e, d', HE⟩ : ∃ e d', Aside0 (wrD di nm.data.toList bs = (e, d')) := ⟨_, _, ⟨rfl⟩⟩
    go_wp2_with fail
    refine start_ (n := 13) (S := fun w' => w'.cell? ⟨(ad.add (i * 6)).block, (ad.add (i * 6)).off + 2, none⟩ = some (.string nm) ∧ w'.cell? ⟨(ad.add (i * 6)).block, (ad.add (i * 6)).off + 4, none⟩ = some (.slice A4 bs.length c4)) (ds := []) #[false, false, false, false, false, false, false, false, false, false, false, false, false] (by kernel_rfl) rfl rfl ⟨(HCE.out wr HBr.out).2.2.1, (HCE.out wr HBr.out).2.2.2.2.1⟩ (fun hHeld => ?_); refine with_tabW Dplay.tab10 Dplay.bits10 (fun HT_ HW_ => ?_)
    have HDd := Aside0.mk (HD.out.below ((Below.refl wr.heap.size wr).drew))
    have HCd := Aside0.mk (Kd.C_below HC4.out ((Below.refl wr.heap.size wr).drew))
    have HFd := Aside0.mk (HF.out.drew)
    clear HD HC4 HF HBr g0 g1 g2 g3 g4 g5
    generalize World.drew _ = w3 at HDd HCd HFd hHeld ⊢
    refine pure_ (i := 0) (N := some 23) (v := ?_) (a' := ?_) #[true, false, false, false, false, false, false, false, false, false, false, false, false] rfl rfl (any_of HT_.out (by kernel_rfl)) (fun _ _ _ h => h) (Or.inl ⟨by rfl, ?_⟩) ?_ ?_
    rotate_left
    ·intro w'
     go_simp
     with_reducible rfl
    rotate_left
    ·simp only [Act.put, List.setIfInBounds_toArray, List.set_cons_zero, List.set_cons_succ, i64_w, i32_w]
     rfl
    refine pure_ (i := 1) (N := some 24) (v := ?_) (a' := ?_) #[true, true, false, false, false, false, false, false, false, false, false, false, false] rfl rfl (any_of HT_.out (by kernel_rfl)) (fun _ _ _ h => h) (Or.inl ⟨by rfl, ?_⟩) ?_ ?_
    rotate_left
    ·intro w'
     go_simp
     with_reducible rfl
    rotate_left
    ·simp only [Act.put, List.setIfInBounds_toArray, List.set_cons_zero, List.set_cons_succ, i64_w, i32_w]
     rfl
    refine pure_ (i := 2) (N := some 25) (v := ?_) (a' := ?_) #[true, true, true, false, false, false, false, false, false, false, false, false, false] rfl rfl (any_of HT_.out (by kernel_rfl)) (fun _ _ _ h => h) (Or.inl ⟨by rfl, ?_⟩) ?_ ?_
    rotate_left
    ·intro w'
     go_simp
     with_reducible rfl
    rotate_left
    ·simp only [Act.put, List.setIfInBounds_toArray, List.set_cons_zero, List.set_cons_succ, i64_w, i32_w]
     rfl
    refine pure_ (i := 3) (N := some 26) (v := ?_) (a' := ?_) #[true, true, true, true, false, false, false, false, false, false, false, false, false] rfl rfl (any_of HT_.out (by kernel_rfl)) (fun _ _ _ h => h) (Or.inl ⟨by rfl, ?_⟩) ?_ ?_
    rotate_left
    ·intro w'
     go_simp
     with_reducible rfl
    rotate_left
    ·simp only [Act.put, List.setIfInBounds_toArray, List.set_cons_zero, List.set_cons_succ, i64_w, i32_w]
     rfl
    refine pure_ (i := 4) (N := some 27) (v := ?_) (a' := ?_) #[true, true, true, true, true, false, false, false, false, false, false, false, false] rfl rfl (any_of HT_.out (by kernel_rfl)) (fun _ _ _ h => h) (Or.inl ⟨by rfl, ?_⟩) ?_ ?_
    rotate_left
    ·intro w'
     go_simp
     with_reducible rfl
    rotate_left
    ·simp only [Act.put, List.setIfInBounds_toArray, List.set_cons_zero, List.set_cons_succ, i64_w, i32_w]
     rfl
    refine take_ (i := 5) (N := some 28) (v := ?_) (a' := ?_) #[true, true, true, true, true, true, false, false, false, false, false, false, false] rfl rfl (take_ofW HT_.out HW_.out (by kernel_rfl)) (fun _ _ _ h => h) (Or.inl ⟨by rfl, ?_⟩) hHeld ?_ ?_
    rotate_left
    ·rintro w' ⟨s0, s1⟩
     go_simp
     with_reducible rfl
    rotate_left
    ·simp only [Act.put, List.setIfInBounds_toArray, List.set_cons_zero, List.set_cons_succ, i64_w, i32_w]
     rfl
    refine pure_ (i := 6) (N := some 29) (v := ?_) (a' := ?_) #[true, true, true, true, true, true, true, false, false, false, false, false, false] rfl rfl (any_of HT_.out (by kernel_rfl)) (fun _ _ _ h => h) (Or.inl ⟨by rfl, ?_⟩) ?_ ?_
    rotate_left
    ·intro w'
     go_simp
     with_reducible rfl
    rotate_left
    ·simp only [Act.put, List.setIfInBounds_toArray, List.set_cons_zero, List.set_cons_succ, i64_w, i32_w]
     rfl
    refine pure_ (i := 7) (N := some 30) (v := ?_) (a' := ?_) #[true, true, true, true, true, true, true, true, false, false, false, false, false] rfl rfl (any_of HT_.out (by kernel_rfl)) (fun _ _ _ h => h) (Or.inl ⟨by rfl, ?_⟩) ?_ ?_
    rotate_left
    ·intro w'
     go_simp
     with_reducible rfl
    rotate_left
    ·simp only [Act.put, List.setIfInBounds_toArray, List.set_cons_zero, List.set_cons_succ, i64_w, i32_w]
     rfl
    refine pure_ (i := 8) (N := some 31) (v := ?_) (a' := ?_) #[true, true, true, true, true, true, true, true, true, false, false, false, false] rfl rfl (any_of HT_.out (by kernel_rfl)) (fun _ _ _ h => h) (Or.inl ⟨by rfl, ?_⟩) ?_ ?_
    rotate_left
    ·intro w'
     go_simp
     with_reducible rfl
    rotate_left
    ·simp only [Act.put, List.setIfInBounds_toArray, List.set_cons_zero, List.set_cons_succ, i64_w, i32_w]
     rfl
    refine pure_ (i := 9) (N := some 32) (v := ?_) (a' := ?_) #[true, true, true, true, true, true, true, true, true, true, false, false, false] rfl rfl (any_of HT_.out (by kernel_rfl)) (fun _ _ _ h => h) (Or.inl ⟨by rfl, ?_⟩) ?_ ?_
    rotate_left
    ·intro w'
     go_simp
     with_reducible rfl
    rotate_left
    ·simp only [Act.put, List.setIfInBounds_toArray, List.set_cons_zero, List.set_cons_succ, i64_w, i32_w]
     rfl
    refine take_ (i := 10) (N := some 33) (v := ?_) (a' := ?_) #[true, true, true, true, true, true, true, true, true, true, true, false, false] rfl rfl (take_ofW HT_.out HW_.out (by kernel_rfl)) (fun _ _ _ h => h) (Or.inl ⟨by rfl, ?_⟩) hHeld ?_ ?_
    rotate_left
    ·rintro w' ⟨s0, s1⟩
     go_simp
     with_reducible rfl
    rotate_left
    ·simp only [Act.put, List.setIfInBounds_toArray, List.set_cons_zero, List.set_cons_succ, i64_w, i32_w]
     rfl
    refine one_ (i := 11) (N := some 34) #[true, true, true, true, true, true, true, true, true, true, true, true, false] rfl rfl (one_of HT_.out (by kernel_rfl)) (by decide) (fun K hK => ?_)
    refine goes_ Try.func11 (by kernel_rfl) rfl #[.pointer (some ⟨p, 0, none⟩), .string nm, .slice A4 bs.length c4] (by rfl) rfl rfl (by (try simp only [List.map_toArray, List.map_cons, List.map_nil]); first | done | rfl) ?_
    refine (Write_calls HDd.out HNI.out HNM.out HCd.out).mono ?_
    rintro e w4 ⟨rfl, hd4, hf4⟩
    refine ⟨_, rfl, ?_⟩
    rw [HE.out] at hd4
    rw [HE.out]
    simp only at hd4
    have HD4 := Aside0.mk hd4
    have HF4 := Aside0.mk (HFd.out.trans hf4)
    have HB4 := Aside0.mk (Fr.base HB.out HP.out HBB.out HF4.out)
    clear hd4 hf4 HDd HCd HFd
    refine hK.out _ _ ⟨(HCE.out w4 HB4.out).2.2.1, (HCE.out w4 HB4.out).2.2.2.2.1⟩ (fun hHeld => ?_)
    clear hK K
    refine norm_ (a' := ?_) ?_ ?_
    rotate_left
    ·show Act.put _ (some 34) _ = _
     simp only [Act.put, List.setIfInBounds_toArray, List.set_cons_zero, List.set_cons_succ, i64_w, i32_w]
     rfl
    refine pure_ (i := 12) (N := some 7) (v := ?_) (a' := ?_) #[true, true, true, true, true, true, true, true, true, true, true, true, true] rfl rfl (any_of HT_.out (by kernel_rfl)) (fun _ _ _ h => h) (Or.inl ⟨by rfl, ?_⟩) ?_ ?_
    rotate_left
    ·intro w'
     go_simp
     with_reducible rfl
    rotate_left
    ·simp only [Act.put, List.setIfInBounds_toArray, List.set_cons_zero, List.set_cons_succ, i64_w, i32_w]
     rfl
    refine done_ (done_of HT_.out (by kernel_rfl)) ?_
    by_cases he : e = 0
    ·subst he
     go_wp2_with fail
     go_roundg (l.length - (i + 1))
     case measure => omega
     case rel => exact ⟨i + 1, ni + 1, d', by first | rfl | rw [hwi], by first | rfl | rw [hwn], by omega, Nat.le_refl _, ⟨by have := HI.out; omega, by have := HI.out; omega, by rw [HST.out]; simp [playS, stepE, HE.out]⟩, HD4, HF4⟩
    ·have he1 : (e == 0) = false := by simpa using he
     go_wp2_with fail
     go_roundg (l.length - (i + 1))
     case measure => omega
     case rel => exact ⟨i + 1, ni, d', by first | rfl | rw [hwi], rfl, by omega, Nat.le_refl _, ⟨by have := HI.out; omega, by have := HI.out; omega, by rw [HST.out]; simp [playS, stepE, HE.out, he]⟩, HD4, HF4⟩
   have n1 : (x0 == 1) = false := by simpa using c1
   by_cases c2 : x0 = 2
   ·subst c2
    obtain ⟨e, d', HE⟩ : ∃ e d', Aside0 (wrD di nm.data.toList bs = (e, d')) := ⟨_, _, ⟨rfl⟩⟩
    go_wp2_with fail
    refine start_ (n := 13) (S := fun w' => w'.cell? ⟨(ad.add (i * 6)).block, (ad.add (i * 6)).off + 2, none⟩ = some (.string nm) ∧ w'.cell? ⟨(ad.add (i * 6)).block, (ad.add (i * 6)).off + 4, none⟩ = some (.slice A4 bs.length c4)) (ds := []) #[false, false, false, false, false, false, false, false, false, false, false, false, false] (by kernel_rfl) rfl rfl ⟨(HCE.out wr HBr.out).2.2.1, (HCE.out wr HBr.out).2.2.2.2.1⟩ (fun hHeld => ?_); refine with_tabW Dplay.tab10 Dplay.bits10 (fun HT_ HW_ => ?_)
    have HDd := Aside0.mk (HD.out.below ((Below.refl wr.heap.size wr).drew))
    have HCd := Aside0.mk (Kd.C_below HC4.out ((Below.refl wr.heap.size wr).drew))
    have HFd := Aside0.mk (HF.out.drew)
    clear HD HC4 HF HBr g0 g1 g2 g3 g4 g5
    generalize World.drew _ = w3 at HDd HCd HFd hHeld ⊢
    refine pure_ (i := 0) (N := some 23) (v := ?_) (a' := ?_) #[true, false, false, false, false, false, false, false, false, false, false, false, false] rfl rfl (any_of HT_.out (by kernel_rfl)) (fun _ _ _ h => h) (Or.inl ⟨by rfl, ?_⟩) ?_ ?_
    rotate_left
    ·intro w'
     go_simp
     with_reducible rfl
    rotate_left
    ·simp only [Act.put, List.setIfInBounds_toArray, List.set_cons_zero, List.set_cons_succ, i64_w, i32_w]
     rfl
    refine pure_ (i := 1) (N := some 24) (v := ?_) (a' := ?_) #[true, true, false, false, false, false, false, false, false, false, false, false, false] rfl rfl (any_of HT_.out (by kernel_rfl)) (fun _ _ _ h => h) (Or.inl ⟨by rfl, ?_⟩) ?_ ?_
    rotate_left
    ·intro w'
     go_simp
     with_reducible rfl
    rotate_left
    ·simp only [Act.put, List.setIfInBounds_toArray, List.set_cons_zero, List.set_cons_succ, i64_w, i32_w]
     rfl
    refine pure_ (i := 2) (N := some 25) (v := ?_) (a' := ?_) #[true, true, true, false, false, false, false, false, false, false, false, false, false] rfl rfl (any_of HT_.out (by kernel_rfl)) (fun _ _ _ h => h) (Or.inl ⟨by rfl, ?_⟩) ?_ ?_
    rotate_left
    ·intro w'
     go_simp
     with_reducible rfl
    rotate_left
    ·simp only [Act.put, List.setIfInBounds_toArray, List.set_cons_zero, List.set_cons_succ, i64_w, i32_w]
     rfl
    refine pure_ (i := 3) (N := some 26) (v := ?_) (a' := ?_) #[true, true, true, true, false, false, false, false, false, false, false, false, false] rfl rfl (any_of HT_.out (by kernel_rfl)) (fun _ _ _ h => h) (Or.inl ⟨by rfl, ?_⟩) ?_ ?_
    rotate_left
    ·intro w'
     go_simp
     with_reducible rfl
    rotate_left
    ·simp only [Act.put, List.setIfInBounds_toArray, List.set_cons_zero, List.set_cons_succ, i64_w, i32_w]
     rfl
    refine pure_ (i := 4) (N := some 27) (v := ?_) (a' := ?_) #[true, true, true, true, true, false, false, false, false, false, false, false, false] rfl rfl (any_of HT_.out (by kernel_rfl)) (fun _ _ _ h => h) (Or.inl ⟨by rfl, ?_⟩) ?_ ?_
    rotate_left
    ·intro w'
     go_simp
     with_reducible rfl
    rotate_left
    ·simp only [Act.put, List.setIfInBounds_toArray, List.set_cons_zero, List.set_cons_succ, i64_w, i32_w]
     rfl
    refine take_ (i := 5) (N := some 28) (v := ?_) (a' := ?_) #[true, true, true, true, true, true, false, false, false, false, false, false, false] rfl rfl (take_ofW HT_.out HW_.out (by kernel_rfl)) (fun _ _ _ h => h) (Or.inl ⟨by rfl, ?_⟩) hHeld ?_ ?_
    rotate_left
    ·rintro w' ⟨s0, s1⟩
     go_simp
     with_reducible rfl
    rotate_left
    ·simp only [Act.put, List.setIfInBounds_toArray, List.set_cons_zero, List.set_cons_succ, i64_w, i32_w]
     rfl
    refine pure_ (i := 6) (N := some 29) (v := ?_) (a' := ?_) #[true, true, true, true, true, true, true, false, false, false, false, false, false] rfl rfl (any_of HT_.out (by kernel_rfl)) (fun _ _ _ h => h) (Or.inl ⟨by rfl, ?_⟩) ?_ ?_
    rotate_left
    ·intro w'
     go_simp
     with_reducible rfl
    rotate_left
    ·simp only [Act.put, List.setIfInBounds_toArray, List.set_cons_zero, List.set_cons_succ, i64_w, i32_w]
     rfl
    refine pure_ (i := 7) (N := some 30) (v := ?_) (a' := ?_) #[true, true, true, true, true, true, true, true, false, false, false, false, false] rfl rfl (any_of HT_.out (by kernel_rfl)) (fun _ _ _ h => h) (Or.inl ⟨by rfl, ?_⟩) ?_ ?_
    rotate_left
    ·intro w'
     go_simp
     with_reducible rfl
    rotate_left
    ·simp only [Act.put, List.setIfInBounds_toArray, List.set_cons_zero, List.set_cons_succ, i64_w, i32_w]
     rfl
    refine pure_ (i := 8) (N := some 31) (v := ?_) (a' := ?_) #[true, true, true, true, true, true, true, true, true, false, false, false, false] rfl rfl (any_of HT_.out (by kernel_rfl)) (fun _ _ _ h => h) (Or.inl ⟨by rfl, ?_⟩) ?_ ?_
    rotate_left
    ·intro w'
     go_simp
     with_reducible rfl
    rotate_left
    ·simp only [Act.put, List.setIfInBounds_toArray, List.set_cons_zero, List.set_cons_succ, i64_w, i32_w]
     rfl
    refine pure_ (i := 9) (N := some 32) (v := ?_) (a' := ?_) #[true, true, true, true, true, true, true, true, true, true, false, false, false] rfl rfl (any_of HT_.out (by kernel_rfl)) (fun _ _ _ h => h) (Or.inl ⟨by rfl, ?_⟩) ?_ ?_
    rotate_left
    ·intro w'
     go_simp
     with_reducible rfl
    rotate_left
    ·simp only [Act.put, List.setIfInBounds_toArray, List.set_cons_zero, List.set_cons_succ, i64_w, i32_w]
     rfl
    refine take_ (i := 10) (N := some 33) (v := ?_) (a' := ?_) #[true, true, true, true, true, true, true, true, true, true, true, false, false] rfl rfl (take_ofW HT_.out HW_.out (by kernel_rfl)) (fun _ _ _ h => h) (Or.inl ⟨by rfl, ?_⟩) hHeld ?_ ?_
    rotate_left
    ·rintro w' ⟨s0, s1⟩
     go_simp
     with_reducible rfl
    rotate_left
    ·simp only [Act.put, List.setIfInBounds_toArray, List.set_cons_zero, List.set_cons_succ, i64_w, i32_w]
     rfl
    refine one_ (i := 11) (N := some 34) #[true, true, true, true, true, true, true, true, true, true, true, true, false] rfl rfl (one_of HT_.out (by kernel_rfl)) (by decide) (fun K hK => ?_)
    refine goes_ Try.func11 (by kernel_rfl) rfl #[.pointer (some ⟨p, 0, none⟩), .string nm, .slice A4 bs.length c4] (by rfl) rfl rfl (by (try simp only [List.map_toArray, List.map_cons, List.map_nil]); first | done | rfl) ?_
    refine (Write_calls HDd.out HNI.out HNM.out HCd.out).mono ?_
    rintro e w4 ⟨rfl, hd4, hf4⟩
    refine ⟨_, rfl, ?_⟩
    rw [HE.out] at hd4
    rw [HE.out]
    simp only at hd4
    have HD4 := Aside0.mk hd4
    have HF4 := Aside0.mk (HFd.out.trans hf4)
    have HB4 := Aside0.mk (Fr.base HB.out HP.out HBB.out HF4.out)
    clear hd4 hf4 HDd HCd HFd
    refine hK.out _ _ ⟨(HCE.out w4 HB4.out).2.2.1, (HCE.out w4 HB4.out).2.2.2.2.1⟩ (fun hHeld => ?_)
    clear hK K
    refine norm_ (a' := ?_) ?_ ?_
    rotate_left
    ·show Act.put _ (some 34) _ = _
     simp only [Act.put, List.setIfInBounds_toArray, List.set_cons_zero, List.set_cons_succ, i64_w, i32_w]
     rfl
    refine pure_ (i := 12) (N := some 7) (v := ?_) (a' := ?_) #[true, true, true, true, true, true, true, true, true, true, true, true, true] rfl rfl (any_of HT_.out (by kernel_rfl)) (fun _ _ _ h => h) (Or.inl ⟨by rfl, ?_⟩) ?_ ?_
    rotate_left
    ·intro w'
     go_simp
     with_reducible rfl
    rotate_left
    ·simp only [Act.put, List.setIfInBounds_toArray, List.set_cons_zero, List.set_cons_succ, i64_w, i32_w]
     rfl
    refine done_ (done_of HT_.out (by kernel_rfl)) ?_
    by_cases he : e = 0
    ·subst he
     go_wp2_with fail
     go_roundg (l.length - (i + 1))
     case measure => omega
     case rel => exact ⟨i + 1, ni + 1, d', by first | rfl | rw [hwi], by first | rfl | rw [hwn], by omega, Nat.le_refl _, ⟨by have := HI.out; omega, by have := HI.out; omega, by rw [HST.out]; simp [playS, stepE, HE.out]⟩, HD4, HF4⟩
    ·have he1 : (e == 0) = false := by simpa using he
     go_wp2_with fail
     go_roundg (l.length - (i + 1))
     case measure => omega
     case rel => exact ⟨i + 1, ni, d', by first | rfl | rw [hwi], rfl, by omega, Nat.le_refl _, ⟨by have := HI.out; omega, by have := HI.out; omega, by rw [HST.out]; simp [playS, stepE, HE.out, he]⟩, HD4, HF4⟩
   have n2 : (x0 == 2) = false := by simpa using c2
   by_cases c3 : x0 = 3
   ·subst c3
    have hm : N + i + 1 ≤ N + (i + 1) := by omega
    obtain ⟨e, d', HE⟩ : ∃ e d', Aside0 (syD di nm.data.toList = (e, d')) := ⟨_, _, ⟨rfl⟩⟩
    by_cases he : e = 0
    ·subst he
     go_wp2_with (go_at_call 12; refine (Sync_calls HD.out HNI.out HNM.out).mono ?_; rintro e_ w4 ⟨rfl, hd4, hf4⟩; rw [HE.out] at hd4; rw [HE.out]; simp only at hd4; have HD4 := Aside0.mk (show IsD (N + (i + 1)) w4 p b d' from hd4.mono (by omega) (by have := HNI.out; omega)); have HF4 := Aside0.mk (HF.out.trans hf4); clear hd4 hf4)
     go_roundg (l.length - (i + 1))
     case measure => omega
     case rel => exact ⟨i + 1, ni + 1, d', by first | rfl | rw [hwi], by first | rfl | rw [hwn], by omega, Nat.le_refl _, ⟨by have := HI.out; omega, by have := HI.out; omega, by rw [HST.out]; simp [playS, stepE, HE.out]⟩, HD4, HF4⟩
    ·have he1 : (e == 0) = false := by simpa using he
     go_wp2_with (go_at_call 12; refine (Sync_calls HD.out HNI.out HNM.out).mono ?_; rintro e_ w4 ⟨rfl, hd4, hf4⟩; rw [HE.out] at hd4; rw [HE.out]; simp only at hd4; have HD4 := Aside0.mk (show IsD (N + (i + 1)) w4 p b d' from hd4.mono (by omega) (by have := HNI.out; omega)); have HF4 := Aside0.mk (HF.out.trans hf4); clear hd4 hf4)
     go_roundg (l.length - (i + 1))
     case measure => omega
     case rel => exact ⟨i + 1, ni, d', by first | rfl | rw [hwi], rfl, by omega, Nat.le_refl _, ⟨by have := HI.out; omega, by have := HI.out; omega, by rw [HST.out]; simp [playS, stepE, HE.out, he]⟩, HD4, HF4⟩
   have n3 : (x0 == 3) = false := by simpa using c3
   by_cases c4_ : x0 = 4
   ·subst c4_
    obtain ⟨e, d', HE⟩ : ∃ e d', Aside0 (rnD di nm.data.toList tm.data.toList = (e, d')) := ⟨_, _, ⟨rfl⟩⟩
    go_wp2_with fail
    refine start_ (n := 13) (S := fun w' => w'.cell? ⟨(ad.add (i * 6)).block, (ad.add (i * 6)).off + 2, none⟩ = some (.string nm) ∧ w'.cell? ⟨(ad.add (i * 6)).block, (ad.add (i * 6)).off + 3, none⟩ = some (.string tm)) (ds := []) #[false, false, false, false, false, false, false, false, false, false, false, false, false] (by kernel_rfl) rfl rfl ⟨(HCE.out wr HBr.out).2.2.1, (HCE.out wr HBr.out).2.2.2.1⟩ (fun hHeld => ?_); refine with_tabW Dplay.tab14 Dplay.bits14 (fun HT_ HW_ => ?_)
    have HDd := Aside0.mk (HD.out.below ((Below.refl wr.heap.size wr).drew))
    have HCd := Aside0.mk (Kd.C_below HC4.out ((Below.refl wr.heap.size wr).drew))
    have HFd := Aside0.mk (HF.out.drew)
    clear HD HC4 HF HBr g0 g1 g2 g3 g4 g5
    generalize World.drew _ = w3 at HDd HCd HFd hHeld ⊢
    refine pure_ (i := 0) (N := some 46) (v := ?_) (a' := ?_) #[true, false, false, false, false, false, false, false, false, false, false, false, false] rfl rfl (any_of HT_.out (by kernel_rfl)) (fun _ _ _ h => h) (Or.inl ⟨by rfl, ?_⟩) ?_ ?_
    rotate_left
    ·intro w'
     go_simp
     with_reducible rfl
    rotate_left
    ·simp only [Act.put, List.setIfInBounds_toArray, List.set_cons_zero, List.set_cons_succ, i64_w, i32_w]
     rfl
    refine pure_ (i := 1) (N := some 47) (v := ?_) (a' := ?_) #[true, true, false, false, false, false, false, false, false, false, false, false, false] rfl rfl (any_of HT_.out (by kernel_rfl)) (fun _ _ _ h => h) (Or.inl ⟨by rfl, ?_⟩) ?_ ?_
    rotate_left
    ·intro w'
     go_simp
     with_reducible rfl
    rotate_left
    ·simp only [Act.put, List.setIfInBounds_toArray, List.set_cons_zero, List.set_cons_succ, i64_w, i32_w]
     rfl
    refine pure_ (i := 2) (N := some 48) (v := ?_) (a' := ?_) #[true, true, true, false, false, false, false, false, false, false, false, false, false] rfl rfl (any_of HT_.out (by kernel_rfl)) (fun _ _ _ h => h) (Or.inl ⟨by rfl, ?_⟩) ?_ ?_
    rotate_left
    ·intro w'
     go_simp
     with_reducible rfl
    rotate_left
    ·simp only [Act.put, List.setIfInBounds_toArray, List.set_cons_zero, List.set_cons_succ, i64_w, i32_w]
     rfl
    refine pure_ (i := 3) (N := some 49) (v := ?_) (a' := ?_) #[true, true, true, true, false, false, false, false, false, false, false, false, false] rfl rfl (any_of HT_.out (by kernel_rfl)) (fun _ _ _ h => h) (Or.inl ⟨by rfl, ?_⟩) ?_ ?_
    rotate_left
    ·intro w'
     go_simp
     with_reducible rfl
    rotate_left
    ·simp only [Act.put, List.setIfInBounds_toArray, List.set_cons_zero, List.set_cons_succ, i64_w, i32_w]
     rfl
    refine pure_ (i := 4) (N := some 50) (v := ?_) (a' := ?_) #[true, true, true, true, true, false, false, false, false, false, false, false, false] rfl rfl (any_of HT_.out (by kernel_rfl)) (fun _ _ _ h => h) (Or.inl ⟨by rfl, ?_⟩) ?_ ?_
    rotate_left
    ·intro w'
     go_simp
     with_reducible rfl
    rotate_left
    ·simp only [Act.put, List.setIfInBounds_toArray, List.set_cons_zero, List.set_cons_succ, i64_w, i32_w]
     rfl
    refine take_ (i := 5) (N := some 51) (v := ?_) (a' := ?_) #[true, true, true, true, true, true, false, false, false, false, false, false, false] rfl rfl (take_ofW HT_.out HW_.out (by kernel_rfl)) (fun _ _ _ h => h) (Or.inl ⟨by rfl, ?_⟩) hHeld ?_ ?_
    rotate_left
    ·rintro w' ⟨s0, s1⟩
     go_simp
     with_reducible rfl
    rotate_left
    ·simp only [Act.put, List.setIfInBounds_toArray, List.set_cons_zero, List.set_cons_succ, i64_w, i32_w]
     rfl
    refine pure_ (i := 6) (N := some 52) (v := ?_) (a' := ?_) #[true, true, true, true, true, true, true, false, false, false, false, false, false] rfl rfl (any_of HT_.out (by kernel_rfl)) (fun _ _ _ h => h) (Or.inl ⟨by rfl, ?_⟩) ?_ ?_
    rotate_left
    ·intro w'
     go_simp
     with_reducible rfl
    rotate_left
    ·simp only [Act.put, List.setIfInBounds_toArray, List.set_cons_zero, List.set_cons_succ, i64_w, i32_w]
     rfl
    refine pure_ (i := 7) (N := some 53) (v := ?_) (a' := ?_) #[true, true, true, true, true, true, true, true, false, false, false, false, false] rfl rfl (any_of HT_.out (by kernel_rfl)) (fun _ _ _ h => h) (Or.inl ⟨by rfl, ?_⟩) ?_ ?_
    rotate_left
    ·intro w'
     go_simp
     with_reducible rfl
    rotate_left
    ·simp only [Act.put, List.setIfInBounds_toArray, List.set_cons_zero, List.set_cons_succ, i64_w, i32_w]
     rfl
    refine pure_ (i := 8) (N := some 54) (v := ?_) (a' := ?_) #[true, true, true, true, true, true, true, true, true, false, false, false, false] rfl rfl (any_of HT_.out (by kernel_rfl)) (fun _ _ _ h => h) (Or.inl ⟨by rfl, ?_⟩) ?_ ?_
    rotate_left
    ·intro w'
     go_simp
     with_reducible rfl
    rotate_left
    ·simp only [Act.put, List.setIfInBounds_toArray, List.set_cons_zero, List.set_cons_succ, i64_w, i32_w]
     rfl
    refine pure_ (i := 9) (N := some 55) (v := ?_) (a' := ?_) #[true, true, true, true, true, true, true, true, true, true, false, false, false] rfl rfl (any_of HT_.out (by kernel_rfl)) (fun _ _ _ h => h) (Or.inl ⟨by rfl, ?_⟩) ?_ ?_
    rotate_left
    ·intro w'
     go_simp
     with_reducible rfl
    rotate_left
    ·simp only [Act.put, List.setIfInBounds_toArray, List.set_cons_zero, List.set_cons_succ, i64_w, i32_w]
     rfl
    refine take_ (i := 10) (N := some 56) (v := ?_) (a' := ?_) #[true, true, true, true, true, true, true, true, true, true, true, false, false] rfl rfl (take_ofW HT_.out HW_.out (by kernel_rfl)) (fun _ _ _ h => h) (Or.inl ⟨by rfl, ?_⟩) hHeld ?_ ?_
    rotate_left
    ·rintro w' ⟨s0, s1⟩
     go_simp
     with_reducible rfl
    rotate_left
    ·simp only [Act.put, List.setIfInBounds_toArray, List.set_cons_zero, List.set_cons_succ, i64_w, i32_w]
     rfl
    refine one_ (i := 11) (N := some 57) #[true, true, true, true, true, true, true, true, true, true, true, true, false] rfl rfl (one_of HT_.out (by kernel_rfl)) (by decide) (fun K hK => ?_)
    refine goes_ Try.func13 (by kernel_rfl) rfl #[.pointer (some ⟨p, 0, none⟩), .string nm, .string tm] (by rfl) rfl rfl (by (try simp only [List.map_toArray, List.map_cons, List.map_nil]); first | done | rfl) ?_
    refine (Rename_calls HDd.out HNI.out HNM.out HTM.out).mono ?_
    rintro e w4 ⟨rfl, hd4, hf4⟩
    refine ⟨_, rfl, ?_⟩
    rw [HE.out] at hd4
    rw [HE.out]
    simp only at hd4
    have HD4 := Aside0.mk hd4
    have HF4 := Aside0.mk (HFd.out.trans hf4)
    have HB4 := Aside0.mk (Fr.base HB.out HP.out HBB.out HF4.out)
    clear hd4 hf4 HDd HCd HFd
    refine hK.out _ _ ⟨(HCE.out w4 HB4.out).2.2.1, (HCE.out w4 HB4.out).2.2.2.1⟩ (fun hHeld => ?_)
    clear hK K
    refine norm_ (a' := ?_) ?_ ?_
    rotate_left
    ·show Act.put _ (some 57) _ = _
     simp only [Act.put, List.setIfInBounds_toArray, List.set_cons_zero, List.set_cons_succ, i64_w, i32_w]
     rfl
    refine pure_ (i := 12) (N := some 7) (v := ?_) (a' := ?_) #[true, true, true, true, true, true, true, true, true, true, true, true, true] rfl rfl (any_of HT_.out (by kernel_rfl)) (fun _ _ _ h => h) (Or.inl ⟨by rfl, ?_⟩) ?_ ?_
    rotate_left
    ·intro w'
     go_simp
     with_reducible rfl
    rotate_left
    ·simp only [Act.put, List.setIfInBounds_toArray, List.set_cons_zero, List.set_cons_succ, i64_w, i32_w]
     rfl
    refine done_ (done_of HT_.out (by kernel_rfl)) ?_
    by_cases he : e = 0
    ·subst he
     go_wp2_with fail
     go_roundg (l.length - (i + 1))
     case measure => omega
     case rel => exact ⟨i + 1, ni + 1, d', by first | rfl | rw [hwi], by first | rfl | rw [hwn], by omega, Nat.le_refl _, ⟨by have := HI.out; omega, by have := HI.out; omega, by rw [HST.out]; simp [playS, stepE, HE.out]⟩, HD4, HF4⟩
    ·have he1 : (e == 0) = false := by simpa using he
     go_wp2_with fail
     go_roundg (l.length - (i + 1))
     case measure => omega
     case rel => exact ⟨i + 1, ni, d', by first | rfl | rw [hwi], rfl, by omega, Nat.le_refl _, ⟨by have := HI.out; omega, by have := HI.out; omega, by rw [HST.out]; simp [playS, stepE, HE.out, he]⟩, HD4, HF4⟩
   have n4 : (x0 == 4) = false := by simpa using c4_
   by_cases c5_ : x0 = 5
   ·subst c5_
    obtain ⟨e, d', HE⟩ : ∃ e d', Aside0 (delD di nm.data.toList = (e, d')) := ⟨_, _, ⟨rfl⟩⟩
    by_cases he : e = 0
    ·subst he
     go_wp2_with (go_at_call 20; refine (Delete_calls HD.out HNM.out).mono ?_; rintro e_ w4 ⟨rfl, hd4, hf4⟩; rw [HE.out] at hd4; rw [HE.out]; simp only at hd4; have HD4 := Aside0.mk (show IsD (N + (i + 1)) w4 p b d' from hd4.mono (by omega) (by have := HNI.out; omega)); have HF4 := Aside0.mk (HF.out.trans hf4); clear hd4 hf4)
     go_roundg (l.length - (i + 1))
     case measure => omega
     case rel => exact ⟨i + 1, ni + 1, d', by first | rfl | rw [hwi], by first | rfl | rw [hwn], by omega, Nat.le_refl _, ⟨by have := HI.out; omega, by have := HI.out; omega, by rw [HST.out]; simp [playS, stepE, HE.out]⟩, HD4, HF4⟩
    ·have he1 : (e == 0) = false := by simpa using he
     go_wp2_with (go_at_call 20; refine (Delete_calls HD.out HNM.out).mono ?_; rintro e_ w4 ⟨rfl, hd4, hf4⟩; rw [HE.out] at hd4; rw [HE.out]; simp only at hd4; have HD4 := Aside0.mk (show IsD (N + (i + 1)) w4 p b d' from hd4.mono (by omega) (by have := HNI.out; omega)); have HF4 := Aside0.mk (HF.out.trans hf4); clear hd4 hf4)
     go_roundg (l.length - (i + 1))
     case measure => omega
     case rel => exact ⟨i + 1, ni, d', by first | rfl | rw [hwi], rfl, by omega, Nat.le_refl _, ⟨by have := HI.out; omega, by have := HI.out; omega, by rw [HST.out]; simp [playS, stepE, HE.out, he]⟩, HD4, HF4⟩
   have n5 : (x0 == 5) = false := by simpa using c5_
   go_wp2_with fail
   go_roundg (l.length - (i + 1))
   case measure => omega
   case rel => exact ⟨i + 1, ni, di, by first | rfl | rw [hwi], rfl, by omega, Nat.le_refl _, ⟨by have := HI.out; omega, by have := HI.out; omega, by rw [HST.out]; simp [playS, stepE, c0, c1, c2, c3, c4_, c5_]⟩, ⟨HD.out.mono (by omega) (by have := HNI.out; omega)⟩, HF⟩
  ·have hlz : ¬ (i : Int) < (l.length : Int) := by omega
   have hie : i = l.length := by omega
   have HIE := Aside0.mk hie
   clear hie
   go_wp2
   go_ret
   have h := HI.out
   rw [HIE.out, List.take_length] at h
   rw [h.2.2]
   exact ⟨rfl, by have := HD.out; rw [HIE.out] at this; exact this, HF.out⟩
end Go.Proofs.Ytihbgdobicokpaa.D
namespace Go.Proofs.Ytihbgdobicokpaa.D
set_option linter.unusedVariables false
set_option linter.unusedSimpArgs false
theorem step_form {d : Dk} (x : X.S30) (hd : d.dead = false) : ∃ (e : Int) (fs' : List Fl), ∀ d2 : Dk, d2.fs = d.fs → d2.room = d.room → d2.dead = false → stepE d2 x = (e, if e = 0 then doneD { d2 with fs := fs' } else d2) := by
 unfold stepE
 by_cases c : x.f0 = 0 ∨ x.f0 = 1 ∨ x.f0 = 2
 ·simp only [if_pos c]
  unfold wrD
  by_cases c1 : nmOk x.f2.data.toList = true
  ·by_cases c2 : 1048576 < x.f4.length ∨ d.room < (total d.fs : Int) - (got x.f2.data.toList d.fs).1.length + x.f4.length
   ·exact ⟨22, [], fun d2 h1 h2 h3 => by rw [h1, h2, h3, if_neg (by decide), if_pos c1, if_pos c2]; rfl⟩
   ·exact ⟨0, put Fl.n ⟨x.f2.data.toList, x.f4, 0⟩ d.fs, fun d2 h1 h2 h3 => by rw [h1, h2, if_neg (by rw [h3]; decide), if_pos c1, if_neg c2]; rfl⟩
  ·exact ⟨21, [], fun d2 h1 h2 h3 => by rw [if_neg (by rw [h3]; decide), if_neg c1]; rfl⟩
 ·simp only [if_neg c]
  have hE : ∀ n (d2 : Dk), d2.fs = d.fs → d2.dead = false → isE d2 n = (if (look n d.fs).isSome = true then 0 else 20) := fun n d2 h1 h3 => by unfold isE; rw [h1, if_neg (by rw [h3]; decide)]
  by_cases c3 : x.f0 = 3
  ·simp only [if_pos c3]
   unfold syD
   by_cases c4 : (look x.f2.data.toList d.fs).isSome = true
   ·exact ⟨0, put Fl.n ⟨x.f2.data.toList, (got x.f2.data.toList d.fs).1, (got x.f2.data.toList d.fs).1.length⟩ d.fs, fun d2 h1 h2 h3 => by rw [hE _ d2 h1 h3, if_pos c4, h1]; rfl⟩
   ·exact ⟨20, [], fun d2 h1 h2 h3 => by rw [hE _ d2 h1 h3, if_neg c4]; rfl⟩
  ·simp only [if_neg c3]
   by_cases c4 : x.f0 = 4
   ·simp only [if_pos c4]
    unfold rnD
    by_cases c5 : (look x.f2.data.toList d.fs).isSome = true
    ·by_cases c6 : nmOk x.f3.data.toList = true
     ·exact ⟨0, put Fl.n ⟨x.f3.data.toList, (got x.f2.data.toList d.fs).1, (got x.f2.data.toList d.fs).2⟩ (out Fl.n x.f2.data.toList d.fs), fun d2 h1 h2 h3 => by rw [hE _ d2 h1 h3, if_pos c5, h1, if_pos rfl, if_pos c6]; rfl⟩
     ·exact ⟨21, [], fun d2 h1 h2 h3 => by rw [hE _ d2 h1 h3, if_pos c5, if_pos rfl, if_neg c6]; rfl⟩
    ·exact ⟨20, [], fun d2 h1 h2 h3 => by rw [hE _ d2 h1 h3, if_neg c5]; rfl⟩
   ·simp only [if_neg c4]
    by_cases c5 : x.f0 = 5
    ·simp only [if_pos c5]
     unfold delD
     by_cases c6 : (look x.f2.data.toList d.fs).isSome = true
     ·exact ⟨0, out Fl.n x.f2.data.toList d.fs, fun d2 h1 h2 h3 => by rw [hE _ d2 h1 h3, if_pos c6, h1]; rfl⟩
     ·exact ⟨20, [], fun d2 h1 h2 h3 => by rw [hE _ d2 h1 h3, if_neg c6]; rfl⟩
    ·simp only [if_neg c5]
     exact ⟨1, [], fun d2 _ _ _ => rfl⟩
theorem step_dead {d : Dk} (x : X.S30) (hd : d.dead = true) : (stepE d x).2 = d ∧ (stepE d x).1 ≠ 0 := by
 have hE : ∀ n, isE d n = 23 := fun n => by unfold isE; rw [if_pos hd]
 unfold stepE wrD syD rnD delD
 simp only [hE, hd]
 (repeat' split) <;> simp_all
theorem fold_dead : ∀ (l : List X.S30) (b : Dk) (n : Int), b.dead = true → l.foldl playS (b, n) = (b, n)
 | [], _, _, _ => rfl
 | x :: r, b, n, h => by
  obtain ⟨h1, h2⟩ := step_dead x h
  rw [List.foldl_cons]
  have e : playS (b, n) x = (b, n) := by unfold playS; simp only; rw [h1, if_neg h2]
  rw [e]
  exact fold_dead r b n h
theorem fold_cuts : ∀ (l : List X.S30) (a b : Dk) (na nb : Int), a.dead = false → a.cut < 0 → b.fs = a.fs → b.room = a.room → b.dead = false → 0 < b.cut →
  ∃ A B : Dk × Int, l.foldl playS (a, na) = A ∧ l.foldl playS (b, nb) = B ∧ na ≤ A.2 ∧ A.1.dead = false ∧ ((A.2 - na < b.cut ∧ B.1.dead = false ∧ B.1.fs = A.1.fs ∧ B.2 - nb = A.2 - na) ∨ (b.cut ≤ A.2 - na ∧ B.1.dead = true ∧ B.2 - nb = b.cut))
 | [], a, b, na, nb, h1, h2, h3, h4, h5, h6 => ⟨_, _, rfl, rfl, Int.le_refl _, h1, Or.inl ⟨by show na - na < b.cut; omega, h5, h3, by show nb - nb = na - na; omega⟩⟩
 | x :: r, a, b, na, nb, h1, h2, h3, h4, h5, h6 => by
  obtain ⟨e, fs', hs⟩ := step_form x h1
  have ha := hs a rfl rfl h1
  have hb := hs b h3 h4 h5
  rw [List.foldl_cons, List.foldl_cons]
  by_cases he : e = 0
  ·subst he
   rw [if_pos rfl] at ha hb
   have pa : playS (a, na) x = ({ a with fs := fs' }, na + 1) := by
    unfold playS; simp only; rw [ha]; simp only [if_pos]; unfold doneD; rw [if_neg (by simp only; omega)]
   have da : doneD { a with fs := fs' } = { a with fs := fs' } := by unfold doneD; rw [if_neg (by simp only; omega)]
   have db : doneD { b with fs := fs' } = { b with fs := fs', cut := b.cut - 1, dead := decide (b.cut - 1 = 0) } := by unfold doneD; rw [if_pos (by simp only; omega)]
   have pb : playS (b, nb) x = ({ b with fs := fs', cut := b.cut - 1, dead := decide (b.cut - 1 = 0) }, nb + 1) := by
    unfold playS; simp only; rw [hb, db]; simp only [if_pos]
   rw [pa, pb]
   by_cases hc : b.cut - 1 = 0
   ·rw [decide_eq_true hc]
    obtain ⟨A, _, hA, _, hle, hd, _⟩ := fold_cuts r { a with fs := fs' } { a with fs := fs', cut := 1 } (na + 1) (na + 1) h1 h2 rfl rfl h1 (by simp only; omega)
    refine ⟨A, _, hA, fold_dead r _ _ rfl, by omega, hd, Or.inr ⟨by omega, rfl, by simp only; omega⟩⟩
   ·rw [decide_eq_false hc]
    obtain ⟨A, B, hA, hB, hle, hd, hcase⟩ := fold_cuts r { a with fs := fs' } { b with fs := fs', cut := b.cut - 1, dead := false } (na + 1) (nb + 1) h1 h2 rfl h4 rfl (by simp only; omega)
    refine ⟨A, B, hA, hB, by omega, hd, ?_⟩
    simp only at hcase
    rcases hcase with ⟨g1, g2, g3, g4⟩ | ⟨g1, g2, g3⟩
    ·exact Or.inl ⟨by omega, g2, g3, by omega⟩
    ·exact Or.inr ⟨by omega, g2, by omega⟩
  ·rw [if_neg he] at ha hb
   have pa : playS (a, na) x = (a, na) := by unfold playS; simp only; rw [ha]; simp only [if_neg he]
   have pb : playS (b, nb) x = (b, nb) := by unfold playS; simp only; rw [hb]; simp only [if_neg he]
   rw [pa, pb]
   exact fold_cuts r a b na nb h1 h2 h3 h4 h5 h6
end Go.Proofs.Ytihbgdobicokpaa.D
namespace Go.Proofs.Ytihbgdobicokpaa.D
open Go.RowKit Go.Proofs.Ytihbgdobicokpaa.X
set_option linter.unusedVariables false
set_option linter.unusedSimpArgs false
def wt (x : S30) : Nat := x.f4.length + x.f2.size + x.f3.size + x.f5.length
def Small (l : List S30) : Prop := ∀ x ∈ l, x.f4.length ≤ 140737488351232 ∧ x.f2.size ≤ 140737488351232 ∧ x.f3.size ≤ 140737488351232 ∧ x.f5.length ≤ 140737488351232
theorem w64 (a b : Nat) (h : a + b ≤ 4000000000000000000) : wrap64 ((a : Int) + (b : Int)) = ((a + b : Nat) : Int) := by unfold wrap64; omega
theorem light_loop {l : List S30} (hl : l.length ≤ 140737488351232) (hs : Small l) : ∀ (m i : Nat), l.length - i = m → i ≤ l.length → ∀ n : Nat, n ≤ ((l.take i).map wt).sum → ((n ≤ 50000 → n = ((l.take i).map wt).sum) ∧ n ≤ 600000000000000) →
  ∃ r, leatlaw2_light.l0 (m + 1) l (n : Int) (i : Int) = some r ∧ (r = true → l.length ≤ 300 ∧ (l.map wt).sum ≤ 50000)
 | 0, i, hm, hi, n, hn, hk => by
  have e : i = l.length := by omega
  unfold leatlaw2_light.l0
  rw [if_neg (by omega)]
  by_cases c : (l.length : Int) ≤ 300
  ·rw [if_pos c]
   refine ⟨_, rfl, fun h => ⟨by omega, ?_⟩⟩
   have h1 : (n : Int) ≤ 50000 := of_decide_eq_true h
   have := hk.1 (by omega)
   rw [e, List.take_length] at this
   omega
  ·rw [if_neg c]; exact ⟨_, rfl, fun h => by cases h⟩
 | m + 1, i, hm, hi, n, hn, hk => by
  have hil : i < l.length := by omega
  unfold leatlaw2_light.l0
  rw [if_pos (by omega)]
  by_cases c : (n : Int) ≤ 50000
  ·rw [if_pos c, if_pos (by omega)]
   have hx : rd_T30 l (i : Int) = l[i] := by simp [rd_T30, List.getD, List.getElem?_eq_getElem hil]
   rw [hx]
   obtain ⟨b1, b2, b3, b4⟩ := hs l[i] (List.getElem_mem hil)
   have hn1 := hk.1 (by omega)
   have w1 : wrap64 ((n : Int) + (l[i].f4.length : Int)) = ((n + l[i].f4.length : Nat) : Int) := w64 _ _ (by clear hn hk hn1 hm; omega)
   have w2 : wrap64 (((n + l[i].f4.length : Nat) : Int) + (l[i].f2.size : Int)) = ((n + l[i].f4.length + l[i].f2.size : Nat) : Int) := w64 _ _ (by clear hn hk hn1 hm; omega)
   have w3 : wrap64 (((n + l[i].f4.length + l[i].f2.size : Nat) : Int) + (l[i].f3.size : Int)) = ((n + l[i].f4.length + l[i].f2.size + l[i].f3.size : Nat) : Int) := w64 _ _ (by clear hn hk hn1 hm; omega)
   have w4 : wrap64 (((n + l[i].f4.length + l[i].f2.size + l[i].f3.size : Nat) : Int) + (l[i].f5.length : Int)) = ((n + l[i].f4.length + l[i].f2.size + l[i].f3.size + l[i].f5.length : Nat) : Int) := w64 _ _ (by clear hn hk hn1 hm; omega)
   have w5 : wrap64 ((i : Int) + 1) = ((i + 1 : Nat) : Int) := w64 i 1 (by clear hn hk hn1 hm; omega)
   rw [w1, w2, w3, w4, w5]
   have hsum : ((l.take (i + 1)).map wt).sum = ((l.take i).map wt).sum + wt l[i] := by rw [List.take_succ_eq_append_getElem hil, List.map_append, List.sum_append]; rfl
   have hw : wt l[i] = l[i].f4.length + l[i].f2.size + l[i].f3.size + l[i].f5.length := rfl
   have hnew : n + l[i].f4.length + l[i].f2.size + l[i].f3.size + l[i].f5.length = ((l.take (i + 1)).map wt).sum := by rw [hsum, hw, ← hn1]; clear w1 w2 w3 w4 w5 hsum hw hn hk hn1; omega
   have hbig : n + l[i].f4.length + l[i].f2.size + l[i].f3.size + l[i].f5.length ≤ 600000000000000 := by clear w1 w2 w3 w4 w5 hsum hw hn hk hn1 hnew; omega
   clear w1 w2 w3 w4 w5 hsum hw hn hk hn1
   exact light_loop hl hs m (i + 1) (by clear hnew hbig b1 b2 b3 b4; omega) hil _ (Nat.le_of_eq hnew) ⟨fun _ => hnew, hbig⟩
  ·rw [if_neg c]
   by_cases c2 : (l.length : Int) ≤ 300
   ·rw [if_pos c2]
    exact ⟨_, rfl, fun h => absurd (of_decide_eq_true h) c⟩
   ·rw [if_neg c2]; exact ⟨_, rfl, fun h => by cases h⟩
theorem light_f {l : List S30} (hl : l.length ≤ 140737488351232) (hs : Small l) : ∃ k r, leatlaw2_light.f k l = some r ∧ (r = true → l.length ≤ 300 ∧ (l.map wt).sum ≤ 50000) := by
 obtain ⟨r, h1, h2⟩ := light_loop hl hs l.length 0 (by omega) (by omega) 0 (by simp) ⟨fun _ => by simp, by omega⟩
 exact ⟨l.length + 1, r, h1, h2⟩
end Go.Proofs.Ytihbgdobicokpaa.D
namespace Go.Proofs.Ytihbgdobicokpaa.D
set_option linter.unusedVariables false
theorem cuts_law (l : List X.S30) (room n : Int) (hn : 0 ≤ n) : ∃ A B : Dk × Int, playF l (newD room) = A ∧ playF l (cutD (newD room) n) = B ∧ 0 ≤ A.2 ∧ A.1.dead = false ∧ B.2 = (if n < A.2 then n else A.2) ∧ B.1.dead = decide (n ≤ A.2) ∧ (B.1.dead = false → B.1.fs = A.1.fs) := by
 unfold playF
 by_cases h0 : n = 0
 ·subst h0
  obtain ⟨A, _, hA, _, hle, hd, _⟩ := fold_cuts l (newD room) { newD room with cut := 1 } 0 0 rfl (by show (-1 : Int) < 0; omega) rfl rfl rfl (by show (0 : Int) < 1; omega)
  refine ⟨A, _, hA, fold_dead l _ 0 rfl, hle, hd, ?_, ?_, fun h => by cases h⟩
  ·show (0 : Int) = _
   split <;> omega
  ·show true = _
   rw [decide_eq_true hle]
 ·obtain ⟨A, B, hA, hB, hle, hd, hc⟩ := fold_cuts l (newD room) (cutD (newD room) n) 0 0 rfl (by show (-1 : Int) < 0; omega) rfl rfl (by simp [cutD, newD, h0]) (by show 0 < (if n < -1 then -1 else n); split <;> omega)
  have hcut : (cutD (newD room) n).cut = n := by show (if n < -1 then -1 else n) = n; split <;> omega
  rw [hcut] at hc
  refine ⟨A, B, hA, hB, hle, hd, ?_, ?_, ?_⟩
  ·rcases hc with ⟨h1, _, _, h4⟩ | ⟨h1, _, h3⟩ <;> split <;> omega
  ·rcases hc with ⟨h1, h2, _, _⟩ | ⟨h1, h2, _⟩
   ·rw [h2, decide_eq_false (by omega)]
   ·rw [h2, decide_eq_true (by omega)]
  ·intro h
   rcases hc with ⟨_, _, h3, _⟩ | ⟨_, h2, _⟩
   ·exact h3
   ·rw [h2] at h; cases h
end Go.Proofs.Ytihbgdobicokpaa.D
