/- Walk of State.Bytes. Conditions: those typed. -/
import Derived.Test.YtjegeghigfmkoaaMStateGroups21
import Derived.Test.YtjegeghigfmkoaaMStateGroups23
import Derived.Test.YtjegeghigfmkoaaMStateGroups11
import Derived.Test.YtjegeghigfmkoaaMStateGroups18
import Derived.Test.YtjegeghigfmkoaaMStateGroups20
import Derived.Test.YtjegeghigfmkoaaMStateGroups19
namespace Go.Proofs.Ytjegeghigfmkoaa.T
open Go.RowKit Go.Maps Go.Sort Go.Proofs Go.Proofs.Ytjegeghigfmkoaa Go.Proofs.Ytjegeghigfmkoaa.X Go.Proofs.YtjegeghigfmkoaaW.PrintWords Go.Proofs.YtjegeghigfmkoaaW.PrintLast Go.Proofs.YtjegeghigfmkoaaW.PrintMore
set_option linter.unusedVariables false
set_option linter.unusedSimpArgs false
set_option maxRecDepth 100000
variable {F : Nat → Prop} {N : Nat} {w w' : World} {q b1 b2 : Nat} {tv : Value} {tm : List Int} {s : St}
theorem num_in {w0 : World} {B : Nat} {v : Value} {b : List Int} {m : Nat} (n : Int) (hm : m ≤ 8) (hb : Below w0.heap.size w0 w) (hw : w0.heap.size ≤ B) (hBw : B ≤ w.heap.size) (hR : Kd.R (Kd.int .u8) 5 w w0.heap.size (fun k => B ≤ k) v b) (hl : b.length ≤ 100000000) :
    Calls Try.prog 50 #[v, .int .u64 n, .int .i64 (m : Int)] w fun e w' => ∃ v', e = .returned v' ∧ Kd.R (Kd.int .u8) 5 w' w0.heap.size (fun k => B ≤ k) v' (b ++ numB n m) ∧ Below w0.heap.size w0 w' ∧ Kept w w' (fun k => B ≤ k) := by
  obtain ⟨k, hk⟩ := number_ev n m b hm (by omega)
  refine (state_number.calls k (fun k => B ≤ k) v b n m _ w0 w hb hR (hk k (Nat.le_refl _))).mono ?_
  rintro e w' ⟨v', rfl, h1, h2, h3⟩
  exact ⟨v', rfl, Kd.R_mono h1 (fun k hk => hk.elim id (fun h => Nat.le_trans hBw h)), h2, h3⟩
def partB (p : S70) : Nat → List Int
  | 0 => []
  | 1 => numB (IntKind.u64.wrap p.f0) 8
  | 2 => numB (IntKind.u64.wrap p.f0) 8 ++ numB (IntKind.u64.wrap p.f1.f0) 8
  | 3 => numB (IntKind.u64.wrap p.f0) 8 ++ numB (IntKind.u64.wrap p.f1.f0) 8 ++ numB (IntKind.u64.wrap p.f1.f1) 8
  | _ => paneB p
theorem idx107 (a b c d : Int) (j : Nat) (hj : j < 4) (w : World) : (Instr.index 107 (.agg #[.int .i64 a, .int .i64 b, .int .i64 c, .int .i64 d]) (.int .i64 (j : Int))).run Try.prog w = .ok (#[Value.int .i64 a, .int .i64 b, .int .i64 c, .int .i64 d][j]) w := by
  rcases j with _ | _ | _ | _ | j
  all_goals first | omega | skip
  all_goals simp [Instr.index, run_underlying Try.underlying107, asIntOf, go_sem]
structure Lb (w w1 : World) (A1 : Option Addr) (ps : List S70) (b : List Int) (wr : World) (v : Value) : Prop where
  row : Kd.R (Kd.int .u8) 5 wr w.heap.size (fun k => w1.heap.size ≤ k) v b
  pan : Kd.F k70 wr (fun k => k < w1.heap.size) A1 ps.length ps
  bl : Below w.heap.size w wr
  sz : w1.heap.size ≤ wr.heap.size
theorem Lb.alloc {w1 wr : World} {A1 : Option Addr} {ps : List S70} {b : List Int} {v : Value} (h : Lb w w1 A1 ps b wr v) (o : Obj) : Lb w w1 A1 ps b (wr.alloc o) v :=
  ⟨Kd.R_below h.row ((Below.refl _ wr).alloc (Nat.le_refl _) o), Kd.F_alloc h.pan o, h.bl.alloc h.bl.size o, by have := h.sz; simp; omega⟩
theorem Lb.num {w1 wr : World} {A1 : Option Addr} {ps : List S70} {b : List Int} {v : Value} (h : Lb w w1 A1 ps b wr v) (hw : w.heap.size ≤ w1.heap.size) (hl : b.length ≤ 100000000) (n : Int) :
    Calls Try.prog 50 #[v, .int .u64 n, .int .i64 8] wr fun e w' => ∃ v', e = .returned v' ∧ Lb w w1 A1 ps (b ++ numB n 8) w' v' := by
  refine (num_in (w0 := w) (B := w1.heap.size) (m := 8) n (by decide) h.bl hw h.sz h.row hl).mono ?_
  rintro e w2 ⟨v2, rfl, hR2, hb2, hk2⟩
  exact ⟨v2, rfl, hR2, Kd.F_kept h.pan hk2 (fun k hk hh => by have hh : w1.heap.size ≤ k := hh; have hk : k < w1.heap.size := hk; omega), hb2, Nat.le_trans h.sz hk2.1⟩
def ps0 (ps : List S70) (i : Nat) : List Int := numB (IntKind.u64.wrap (ps.length : Int)) 4 ++ panesB (ps.take i)
theorem ps0_len (ps : List S70) (i : Nat) (h : ps.length ≤ 1000000) : (ps0 ps i).length ≤ 50000000 := by
  unfold ps0
  rw [List.length_append, numB_len, panesB_len, List.length_take]
  omega
theorem ps0_next {ps : List S70} {i : Nat} (h : i < ps.length) : ps0 ps (i + 1) = ps0 ps i ++ paneB ps[i] := by
  unfold ps0
  rw [← List.take_append_getElem h, List.append_assoc]
  unfold panesB
  rw [List.flatMap_append]
  simp
theorem partB_len (p : S70) (j : Nat) : (partB p j).length ≤ 32 := by
  rcases j with _ | _ | _ | _ | j <;> simp [partB, numB_len, paneB_len]
theorem partB_next1 (b : List Int) (p : S70) : b ++ partB p 0 ++ numB (IntKind.u64.wrap p.f0) 8 = b ++ partB p 1 := by simp [partB]
theorem partB_next2 (b : List Int) (p : S70) : b ++ partB p 1 ++ numB (IntKind.u64.wrap p.f1.f0) 8 = b ++ partB p 2 := by simp [partB]
theorem partB_next3 (b : List Int) (p : S70) : b ++ partB p 2 ++ numB (IntKind.u64.wrap p.f1.f1) 8 = b ++ partB p 3 := by simp [partB]
theorem partB_next4 (b : List Int) (p : S70) : b ++ partB p 3 ++ numB (IntKind.u64.wrap p.f2) 8 = b ++ partB p 4 := by simp [partB, paneB]
set_option maxHeartbeats 4000000 in
theorem Bytes_calls (h : IsS F N w q s) : Calls Try.prog 23 #[.pointer (some ⟨q, 0, none⟩)] w fun e w' => ∃ v, e = .returned v ∧ Kd.R (Kd.int .u8) 5 w' w.heap.size (fun _ => True) v (bytesB (sortP s.ps)) ∧ Below w.heap.size w w' := by
  have HI := Aside0.mk h
  have HL := Aside0.mk (show (sortP s.ps).length ≤ 1000000 by rw [sortP_len]; exact Nat.le_trans h.len h.small)
  clear h
  generalize hps : sortP s.ps = ps at HL ⊢
  have HPS := Aside0.mk hps
  clear hps
  go_enter Try.func23, Try.ntmps23
  go_wp2_with (first
    | (go_at_call 21
       refine (Panes_calls HI.out).mono ?_
       rintro e w1 ⟨v1, rfl, hR1, hb1⟩
       rw [HPS.out] at hR1
       obtain ⟨A1, c1, rfl⟩ := Kd.R_slice hR1
       have HF1 := Aside0.mk (Kd.F_mono (Kd.R_F (Kd.R_bound hR1)) (fun k hk => hk.2.2.1))
       have HB1 := Aside0.mk hb1
       clear hR1 hb1)
    | (go_at_call 50
       refine (num_in (w0 := w) (B := w1.heap.size) (b := []) (m := 4) _ (by decide) HB1.out HB1.out.size (Nat.le_refl _) (Kd.R_nil _ _ _ _ _) (by simp)).mono ?_
       rintro e w2 ⟨v2, rfl, hR2, hb2, hk2⟩
       have HR2 := Aside0.mk hR2
       have HB2 := Aside0.mk hb2
       have SZ := Aside0.mk hk2.1
       have HF2 := Aside0.mk (Kd.F_kept HF1.out hk2 (fun k hk hh => by have hh : w1.heap.size ≤ k := hh; have hk : k < w1.heap.size := hk; omega))
       clear hR2 hb2 hk2))
  have HLB : Aside0 (Lb w w1 A1 ps (ps0 ps 0) w2 v2) := ⟨⟨by simpa [ps0, panesB] using HR2.out, HF2.out, HB2.out, SZ.out⟩⟩
  clear HR2 HF2 HB2 SZ
  go_loopg [4, 17] ps.length (fun kx s4 s17 wr => ∃ (i : Nat), s17 = .int .i64 i ∧ ps.length - i ≤ kx ∧ i ≤ ps.length ∧ Aside0 (Lb w w1 A1 ps (ps0 ps i) wr s4))
  case atStart => exact ⟨0, rfl, by omega, by omega, HLB⟩
  case round =>
    clear HLB
    obtain ⟨i, rfl, hkx, hi, HQ⟩ := hrel
    by_cases hlt : i < ps.length
    · have hlz : ((i : Int) < (ps.length : Int)) := by omega
      have hiz : (0 : Int) ≤ (i : Int) := by omega
      obtain ⟨ad, rfl, x0, x1, x2, x3⟩ := at_T70 (Kd.F_now HQ.out.pan) (i : Int) hiz hlz
      obtain ⟨z, hz⟩ : ∃ z : S70, ps[i] = z := ⟨_, rfl⟩
      have hgd : rd_T70 ps (i : Int) = z := by rw [← hz]; simp [rd_T70, hlt]
      rw [hgd] at x0 x1 x2 x3
      have hin : ((i : Int)).toNat = i := by omega
      rw [hin] at x0 x1 x2 x3
      have HZ : Aside0 (ps0 ps (i + 1) = ps0 ps i ++ partB z 4) := ⟨by rw [ps0_next hlt, hz]; rfl⟩
      have hwi : wrap64 ((i : Int) + 1) = ((i + 1 : Nat) : Int) := by have := HL.out; unfold wrap64; omega
      have HI1 := Aside0.mk (And.intro hkx (And.intro hi hlt))
      clear hkx hi hz hgd hin hlt
      go_wp2_with fail
      have HX0 : Aside0 (Lb w w1 (some ad) ps (ps0 ps i ++ partB z 0) (wr.alloc (.cells #[.int .i64 z.f0, .int .i64 z.f1.f0, .int .i64 z.f1.f1, .int .i64 z.f2] 70)) _) := ⟨by simpa [partB] using HQ.out.alloc (.cells #[.int .i64 z.f0, .int .i64 z.f1.f0, .int .i64 z.f1.f1, .int .i64 z.f2] 70)⟩
      generalize (wr.alloc (.cells #[.int .i64 z.f0, .int .i64 z.f1.f0, .int .i64 z.f1.f1, .int .i64 z.f2] 70)) = w4 at HX0 ⊢
      clear x0 x1 x2 x3 HQ
      go_loopg [4, 32] 4 (fun ky s4 s32 wr => ∃ (j : Nat), ((j = 0 ∧ s32 = .int .i64 0) ∨ (j = 1 ∧ s32 = .int .i64 1) ∨ (j = 2 ∧ s32 = .int .i64 2) ∨ (j = 3 ∧ s32 = .int .i64 3) ∨ (j = 4 ∧ s32 = .int .i64 4)) ∧ 4 - j ≤ ky ∧ Aside0 (Lb w w1 (some ad) ps (ps0 ps i ++ partB z j) wr s4))
      case atStart => exact ⟨0, Or.inl ⟨rfl, rfl⟩, by decide, HX0⟩
      case round =>
        clear HX0
        obtain ⟨j, hj, hky, HX⟩ := hrel
        rcases hj with ⟨rfl, rfl⟩ | ⟨rfl, rfl⟩ | ⟨rfl, rfl⟩ | ⟨rfl, rfl⟩ | ⟨rfl, rfl⟩
        · have ij : ∀ W, (Instr.index 107 (aggP z) (.int .i64 0)).run Try.prog W = .ok (.int .i64 z.f0) W := fun W => idx107 _ _ _ _ 0 (by decide) W
          go_wp2_with (go_at_call 50; refine (HX.out.num HB1.out.size (by have h1 := ps0_len ps i HL.out; have h2 := partB_len z 0; rw [List.length_append]; omega) _).mono ?_; rintro e w5 ⟨v5, rfl, hx⟩; rw [partB_next1] at hx; have HX5 := Aside0.mk hx; clear hx)
          go_roundg (4 - 1)
          case measure => omega
          case rel => exact ⟨1, Or.inr (Or.inl ⟨rfl, rfl⟩), Nat.le_refl _, HX5⟩
        · have ij : ∀ W, (Instr.index 107 (aggP z) (.int .i64 1)).run Try.prog W = .ok (.int .i64 z.f1.f0) W := fun W => idx107 _ _ _ _ 1 (by decide) W
          go_wp2_with (go_at_call 50; refine (HX.out.num HB1.out.size (by have h1 := ps0_len ps i HL.out; have h2 := partB_len z 1; rw [List.length_append]; omega) _).mono ?_; rintro e w5 ⟨v5, rfl, hx⟩; rw [partB_next2] at hx; have HX5 := Aside0.mk hx; clear hx)
          go_roundg (4 - 2)
          case measure => omega
          case rel => exact ⟨2, Or.inr (Or.inr (Or.inl ⟨rfl, rfl⟩)), Nat.le_refl _, HX5⟩
        · have ij : ∀ W, (Instr.index 107 (aggP z) (.int .i64 2)).run Try.prog W = .ok (.int .i64 z.f1.f1) W := fun W => idx107 _ _ _ _ 2 (by decide) W
          go_wp2_with (go_at_call 50; refine (HX.out.num HB1.out.size (by have h1 := ps0_len ps i HL.out; have h2 := partB_len z 2; rw [List.length_append]; omega) _).mono ?_; rintro e w5 ⟨v5, rfl, hx⟩; rw [partB_next3] at hx; have HX5 := Aside0.mk hx; clear hx)
          go_roundg (4 - 3)
          case measure => omega
          case rel => exact ⟨3, Or.inr (Or.inr (Or.inr (Or.inl ⟨rfl, rfl⟩))), Nat.le_refl _, HX5⟩
        · have ij : ∀ W, (Instr.index 107 (aggP z) (.int .i64 3)).run Try.prog W = .ok (.int .i64 z.f2) W := fun W => idx107 _ _ _ _ 3 (by decide) W
          go_wp2_with (go_at_call 50; refine (HX.out.num HB1.out.size (by have h1 := ps0_len ps i HL.out; have h2 := partB_len z 3; rw [List.length_append]; omega) _).mono ?_; rintro e w5 ⟨v5, rfl, hx⟩; rw [partB_next4] at hx; have HX5 := Aside0.mk hx; clear hx)
          go_roundg (4 - 4)
          case measure => omega
          case rel => exact ⟨4, Or.inr (Or.inr (Or.inr (Or.inr (⟨rfl, rfl⟩)))), Nat.le_refl _, HX5⟩
        · go_wp2
          rw [hwi]
          go_roundg (ps.length - (i + 1))
          case measure => have := HI1.out; omega
          case rel => exact ⟨i + 1, rfl, Nat.le_refl _, HI1.out.2.2, ⟨by rw [HZ.out]; exact HX.out⟩⟩
    · have hlz : ¬ ((i : Int) < (ps.length : Int)) := by omega
      have HI1 := Aside0.mk (show i = ps.length from by omega)
      clear hlt hkx hi
      go_wp2
      go_ret
      have hR := HQ.out.row
      rw [HI1.out, ps0, List.take_length] at hR
      exact ⟨_, rfl, Kd.R_mono hR (fun _ _ => trivial), HQ.out.bl⟩
end Go.Proofs.Ytjegeghigfmkoaa.T
namespace Go.Proofs.Ytjegeghigfmkoaa.T
open Go.RowKit Go.Maps Go.Sort Go.Proofs Go.Proofs.Ytjegeghigfmkoaa Go.Proofs.Ytjegeghigfmkoaa.X Go.Proofs.YtjegeghigfmkoaaW.PrintWords Go.Proofs.YtjegeghigfmkoaaW.PrintLast Go.Proofs.YtjegeghigfmkoaaW.PrintMore
set_option linter.unusedVariables false
set_option linter.unusedSimpArgs false
set_option maxRecDepth 100000
variable {F : Nat → Prop} {N : Nat} {w w' : World} {q b1 b2 : Nat} {tv : Value} {tm : List Int} {s : St}
noncomputable def readB (b : List Int) : List S70 := parseN ((b.length - 4) / 32) (b.drop 4)
noncomputable def openL (kind a : Int) (b : List Int) : List S70 := loadL a (loadOf kind a (readB b))
def FormB (b : List Int) : Prop := 4 ≤ b.length ∧ b.length % 32 = 4
def OpenOk (kind a : Int) (b : List Int) : Prop := FormB b ∧ bytesB (sortP (openL kind a b)) = b
theorem mod32 {n : Nat} : Int.tmod (n : Int) 32 = ((n % 32 : Nat) : Int) := by
  rw [Int.tmod_eq_emod_of_nonneg (by omega)]
  rfl
theorem cut_run (A : Option Addr) (n c lo : Nat) (h : lo ≤ n) (hc : n ≤ c) (W : World) : (Instr.slice 58 (.slice A n c) (some (.int .i64 (lo : Int))) none none).run Try.prog W = .ok (.slice (if c = lo then A else A.map (·.add (lo * (Kd.int .u8).sz))) (n - lo) (c - lo)) W := by
  have e : (Kd.int .u8).sz = 1 := rfl
  rw [e, Nat.mul_one]
  by_cases h0 : c = lo
  · subst h0
    simp [Instr.slice, run_underlying Try.underlying58, Instr.sliceBounds, go_sem]
    intro; omega
  · simp [Instr.slice, run_underlying Try.underlying58, Instr.sliceBounds, go_sem]
    intro; omega
theorem mid_run (A : Option Addr) (n c lo hi : Nat) (h : lo ≤ hi) (hh : hi ≤ n) (hc : n ≤ c) (W : World) : (Instr.slice 58 (.slice A n c) (some (.int .i64 (lo : Int))) (some (.int .i64 (hi : Int))) none).run Try.prog W = .ok (.slice (if c = lo then A else A.map (·.add (lo * (Kd.int .u8).sz))) (hi - lo) (c - lo)) W := by
  have e : (Kd.int .u8).sz = 1 := rfl
  rw [e, Nat.mul_one]
  have h3 : hi ≤ c := by omega
  by_cases h0 : c = lo
  · subst h0
    simp [Instr.slice, run_underlying Try.underlying58, Instr.sliceBounds, go_sem, h, h3]
    try (intro; omega)
  · simp [Instr.slice, run_underlying Try.underlying58, Instr.sliceBounds, go_sem, h, h3]
    try (intro; omega)
theorem to_run (A : Option Addr) (n c hi : Nat) (hh : hi ≤ n) (hc : n ≤ c) (W : World) : (Instr.slice 58 (.slice A n c) none (some (.int .i64 (hi : Int))) none).run Try.prog W = .ok (.slice A hi c) W := by
  have h3 : hi ≤ c := by omega
  simp [Instr.slice, run_underlying Try.underlying58, Instr.sliceBounds, go_sem, h3]
def Byt (w : World) (A : Option Addr) (l : List Int) : Prop := ∀ W, Below w.heap.size w W → Kd.C (Kd.int .u8) W A l.length l
theorem Byt.taken {A : Option Addr} {l : List Int} (h : Byt w A l) (c : Nat) (hc : l.length ≤ c) (hl : l.length ≤ 1000) (W : World) (hb : Below w.heap.size w W) : Calls Try.prog 48 #[.slice A l.length c] W fun e w' => e = .returned (.int .i64 (takenP l)) ∧ Drawn0 W w' := by
  obtain ⟨k, hk⟩ := taken_ev l (by omega)
  exact state_taken.calls k A c l _ W (h W hb) hc (hk k (Nat.le_refl _))
structure Cut (w : World) (v : Value) (l : List Int) : Prop where
  p0 : ∃ A c, (∀ W, (Instr.slice 58 v none (some (.int .i64 8)) none).run Try.prog W = .ok (.slice A 8 c) W) ∧ ∀ W, Below w.heap.size w W → Calls Try.prog 48 #[.slice A 8 c] W fun e w' => e = .returned (.int .i64 (takenP (l.take 8))) ∧ Drawn0 W w'
  p1 : ∃ A c, (∀ W, (Instr.slice 58 v (some (.int .i64 8)) (some (.int .i64 16)) none).run Try.prog W = .ok (.slice A 8 c) W) ∧ ∀ W, Below w.heap.size w W → Calls Try.prog 48 #[.slice A 8 c] W fun e w' => e = .returned (.int .i64 (takenP ((l.take 16).drop 8))) ∧ Drawn0 W w'
  p2 : ∃ A c, (∀ W, (Instr.slice 58 v (some (.int .i64 16)) (some (.int .i64 24)) none).run Try.prog W = .ok (.slice A 8 c) W) ∧ ∀ W, Below w.heap.size w W → Calls Try.prog 48 #[.slice A 8 c] W fun e w' => e = .returned (.int .i64 (takenP ((l.take 24).drop 16))) ∧ Drawn0 W w'
  p3 : ∃ A c, (∀ W, (Instr.slice 58 v (some (.int .i64 24)) (some (.int .i64 32)) none).run Try.prog W = .ok (.slice A 8 c) W) ∧ ∀ W, Below w.heap.size w W → Calls Try.prog 48 #[.slice A 8 c] W fun e w' => e = .returned (.int .i64 (takenP ((l.take 32).drop 24))) ∧ Drawn0 W w'
theorem cut_mid {A : Option Addr} {c : Nat} {l : List Int} (h : Byt w A l) (hc : l.length ≤ c) (lo hi : Nat) (h1 : hi = lo + 8) (h2 : hi ≤ l.length) : ∃ A' c', (∀ W, (Instr.slice 58 (.slice A l.length c) (some (.int .i64 (lo : Int))) (some (.int .i64 (hi : Int))) none).run Try.prog W = .ok (.slice A' 8 c') W) ∧ ∀ W, Below w.heap.size w W → Calls Try.prog 48 #[.slice A' 8 c'] W fun e w' => e = .returned (.int .i64 (takenP ((l.take hi).drop lo))) ∧ Drawn0 W w' := by
  have e8 : hi - lo = 8 := by omega
  have hl : ((l.take hi).drop lo).length = 8 := by rw [List.length_drop, List.length_take]; omega
  refine ⟨_, _, fun W => (mid_run A l.length c lo hi (by omega) h2 hc W).trans (by rw [e8]), fun W hb => ?_⟩
  have hB : Byt w (if c = lo then A else A.map (·.add (lo * (Kd.int .u8).sz))) ((l.take hi).drop lo) := fun W hb => Kd.C_mid (h W hb) (by omega) h2 hc
  have := hB.taken (c - lo) (by omega) (by omega) W hb
  rw [hl] at this
  exact this
theorem cut_of {A : Option Addr} {c : Nat} {l : List Int} (h : Byt w A l) (hc : l.length ≤ c) (h32 : 32 ≤ l.length) : Cut w (.slice A l.length c) l := by
  refine ⟨?_, cut_mid h hc 8 16 rfl (by omega), cut_mid h hc 16 24 rfl (by omega), cut_mid h hc 24 32 rfl (by omega)⟩
  refine ⟨A, c, fun W => to_run A l.length c 8 (by omega) hc W, fun W hb => ?_⟩
  have hl : (l.take 8).length = 8 := by rw [List.length_take]; omega
  have hB : Byt w A (l.take 8) := fun W hb => Kd.C_take (h W hb) (by omega)
  have := hB.taken c (by omega) (by omega) W hb
  rw [hl] at this
  exact this
theorem cut_rest {A : Option Addr} {c : Nat} {l : List Int} (h : Byt w A l) (hc : l.length ≤ c) (lo : Nat) (hlo : lo ≤ l.length) : ∃ A' c', (∀ W, (Instr.slice 58 (.slice A l.length c) (some (.int .i64 (lo : Int))) none none).run Try.prog W = .ok (.slice A' (l.drop lo).length c') W) ∧ Byt w A' (l.drop lo) ∧ (l.drop lo).length ≤ c' :=
  ⟨_, c - lo, fun W => (cut_run A l.length c lo hlo hc W).trans (by rw [List.length_drop]), fun W hb => Kd.C_drop (h W hb) hlo hc, by rw [List.length_drop]; omega⟩
theorem parseN_snoc : ∀ (n : Nat) (l : List Int), parseN (n + 1) l = parseN n l ++ [paneOf (l.drop (32 * n))]
  | 0, l => rfl
  | n + 1, l => by
    rw [parseN, parseN_snoc n (l.drop 32), parseN, List.drop_drop]
    rw [show 32 + 32 * n = 32 * (n + 1) from by omega]
    rfl
theorem app70 {w : World} {base : Nat} {v : Value} {ps : List S70} (ho : w.ownsRow base 70 4 v ps.length (flatP ps)) (hb : base ≤ w.heap.size) (p : S70) (B : Nat) (hB : w.heap[B]? = some (.cells #[.int .i64 p.f0, .int .i64 p.f1.f0, .int .i64 p.f1.f1, .int .i64 p.f2] 70 (0, 0))) (hn : ps.length ≤ 2000000) (ty : TypeId) :
    ∃ v' w', (Builtin.append_ #[44, 44] ty #[v, .slice (some ⟨B, 0, none⟩) 1 1]).run Try.prog w = .ok v' w' ∧ w'.ownsRow base 70 4 v' (ps.length + 1) (flatP (ps ++ [p])) ∧ w.grownBy w' v.ownBlock := by
  obtain ⟨i0, hi, hz0, hz1, hz2⟩ := info_parts info70
  have hadd : ∀ j, ((⟨B, 0, none⟩ : Addr).add j) = ⟨B, j, none⟩ := fun j => by unfold Addr.add; split <;> simp_all
  obtain ⟨v', w', g1, g2, g3, _⟩ := run_append_own (P := Try.prog) w base 44 ty 70 i0 _ 4 _ Try.underlying44 hi hz0 hz1 hz2 rfl (by decide) v ps.length (flatP ps) ho ⟨B, 0, none⟩ 1 1 [.int .i64 p.f0, .int .i64 p.f1.f0, .int .i64 p.f1.f1, .int .i64 p.f2] rfl (fun j u hj => by
    rw [hadd]
    exact (blk_cell hB j).trans (by simpa using hj)) (by simp [Value.oneCell']) (by unfold maxLen; omega) (by omega) hb
  exact ⟨v', w', g1, by rw [flatP_snoc]; exact g2, g3⟩
theorem uint8_inj {x y : Int} (hx : 0 ≤ x ∧ x < 256) (hy : 0 ≤ y ∧ y < 256) (h : UInt8.ofNat x.toNat = UInt8.ofNat y.toNat) : x = y := by
  have h := congrArg UInt8.toNat h
  simp at h
  omega
def In8 (l : List Int) : Prop := ∀ x ∈ l, 0 ≤ x ∧ x < 256
theorem strOf_inj : ∀ {l m : List Int}, In8 l → In8 m → (l.map fun n => UInt8.ofNat n.toNat) = (m.map fun n => UInt8.ofNat n.toNat) → l = m
  | [], [], _, _, _ => rfl
  | [], _ :: _, _, _, h => by simp at h
  | _ :: _, [], _, _, h => by simp at h
  | x :: l, y :: m, hl, hm, h => by
    simp only [List.map_cons, List.cons.injEq] at h
    rw [uint8_inj (hl x (List.mem_cons_self ..)) (hm y (List.mem_cons_self ..)) h.1, strOf_inj (fun z hz => hl z (List.mem_cons_of_mem _ hz)) (fun z hz => hm z (List.mem_cons_of_mem _ hz)) h.2]
theorem equal_f {l m : List Int} (hl : In8 l) (hm : In8 m) : bytes_Equal.f l m = some (decide (l = m)) := by
  unfold bytes_Equal.f
  rw [ByteArray.toList_eq, ByteArray.toList_eq, strOfNums_data, strOfNums_data]
  by_cases h : l = m
  · subst h
    simp
  · rw [decide_eq_false h]
    have : ¬ (l.map fun n => UInt8.ofNat n.toNat) = (m.map fun n => UInt8.ofNat n.toNat) := fun h2 => h (strOf_inj hl hm h2)
    simpa using this
theorem numB_8 (n : Int) : ∀ s, In8 (numB n s)
  | 0 => fun x hx => by cases hx
  | s + 1 => fun x hx => by
    rcases List.mem_cons.1 hx with rfl | hx
    · omega
    · exact numB_8 n s x hx
theorem in8_app {l m : List Int} (hl : In8 l) (hm : In8 m) : In8 (l ++ m) := fun x hx => (List.mem_append.1 hx).elim (hl x) (hm x)
theorem bytesB_8 (l : List S70) : In8 (bytesB l) := by
  refine in8_app (numB_8 _ _) (fun x hx => ?_)
  obtain ⟨p, _, hp⟩ := List.mem_flatMap.1 hx
  exact in8_app (numB_8 _ _) (in8_app (numB_8 _ _) (in8_app (numB_8 _ _) (numB_8 _ _))) x hp
theorem dec2 {P : Prop} [Decidable P] : (decide P = true ∧ Aside0 P) ∨ (decide P = false ∧ Aside0 (¬ P)) := by
  by_cases h : P
  · exact Or.inl ⟨decide_eq_true h, ⟨h⟩⟩
  · exact Or.inr ⟨decide_eq_false h, ⟨h⟩⟩
theorem open_below {wr w10 w11 w12 w13 : World} {N' : Nat} (h0 : Below w.heap.size w wr) (h1 : Below wr.heap.size wr w10) (h2 : To (fun k => wr.heap.size ≤ k ∧ k < w10.heap.size) w10 w11 N' q s) (h3 : Below w11.heap.size w11 w12) (h4 : Below w12.heap.size w12 w13) : Below w.heap.size w w13 := by
  have hto : Below wr.heap.size w10 w11 := h2.fr.toBelow (B := wr.heap.size) h1.size (fun k _ hk => hk.1)
  have h5 := (h1.trans hto).trans (h3.mono (Nat.le_trans h1.size h2.fr.size))
  exact (h0.trans (h5.mono h0.size)).trans (h4.mono (Nat.le_trans h0.size h5.size))
theorem open_end {wr w10 w11 w12 w13 : World} {N' : Nat} {kind size slide a : Int} {b : List Int} (h0 : Below w.heap.size w wr) (h1 : Below wr.heap.size wr w10) (h2 : To (fun k => wr.heap.size ≤ k ∧ k < w10.heap.size) w10 w11 N' q ⟨kind, size, slide, a, openL kind a b⟩) (h3 : Below w11.heap.size w11 w12) (h4 : Below w12.heap.size w12 w13) (hok : OpenOk kind a b) (hN : N' ≤ b.length) :
    Below w.heap.size w w13 ∧ ((¬ OpenOk kind a b ∧ Ending.returned (.tuple #[.pointer (some ⟨q, 0, none⟩), .int .i64 0]) = .returned (.tuple #[.pointer none, .int .i64 120])) ∨ (OpenOk kind a b ∧ ∃ q' N', Ending.returned (.tuple #[.pointer (some ⟨q, 0, none⟩), .int .i64 0]) = .returned (.tuple #[.pointer (some ⟨q', 0, none⟩), .int .i64 0]) ∧ N' ≤ b.length ∧ IsS (fun k => w.heap.size ≤ k ∧ k < w13.heap.size) N' w13 q' ⟨kind, size, slide, a, openL kind a b⟩)) := by
  have s0 := h0.size
  have s1 := h1.size
  have s2 := h2.fr.size
  have s3 := h3.size
  have s4 := h4.size
  refine ⟨open_below h0 h1 h2 h3 h4, Or.inr ⟨hok, q, N', rfl, hN, ((h2.is.below h3).below h4).mono (fun k hk => ?_) (fun k hk => hk.2) (Nat.le_refl _) h2.is.small⟩⟩
  rcases hk with hk | hk
  · omega
  · omega
structure Lo (w w1 : World) (l0 : List Int) (Ar : Option Addr) (cr : Nat) (ps : List S70) (i : Nat) (wr : World) (v : Value) : Prop where
  row : wr.ownsRow w1.heap.size 70 4 v ps.length (flatP ps)
  bl : Below w1.heap.size w1 wr
  byt : Byt w Ar (l0.drop (32 * i))
  cap : (l0.drop (32 * i)).length ≤ cr
def Top.T7 : Bool × List (List Nat × List Nat) := (true, [([], []), ([], []), ([1], [1]), ([2], [2]), ([], []), ([4], [4]), ([5, 3], [5]), ([], []), ([7], [7]), ([8, 6], [8]), ([6, 9], [6, 9]), ([], []), ([11], [11]), ([12, 9], [12]), ([3, 10, 13], [3, 10, 13]), ([14], [14]), ([0, 15, 13], [0, 15]), ([16, 16, 0, 1, 2, 3, 4, 5, 6, 7, 8, 9, 10, 11, 12, 13, 14, 15, 16], [0, 16])])
def Top.B7 : List Nat := [0, 0, 2, 6, 0, 16, 62, 0, 128, 510, 1022, 0, 2048, 7166, 16382, 32766, 65535, 131071]
theorem Top.tab7 : rtab .any (opsOf Try.f22 7) = Top.T7 := by kernel_rfl
theorem Top.bits7 : waitsOk Top.T7.2 Top.B7 = true := by kernel_rfl
set_option maxHeartbeats 4000000 in
theorem Open_calls (w : World) (kind size slide a : Int) (A : Option Addr) (c : Nat) (b : List Int) (hC : Kd.C (Kd.int .u8) w A b.length b) (hc : b.length ≤ c) (hl : b.length ≤ 10000000) (h8 : In8 b) :
    Calls Try.prog 22 #[aggW kind size slide, .int .i64 a, .slice A b.length c] w fun e w' => Below w.heap.size w w' ∧ ((¬ OpenOk kind a b ∧ e = .returned (.tuple #[.pointer none, .int .i64 120])) ∨ (OpenOk kind a b ∧ ∃ q N', e = .returned (.tuple #[.pointer (some ⟨q, 0, none⟩), .int .i64 0]) ∧ N' ≤ b.length ∧ IsS (fun k => w.heap.size ≤ k ∧ k < w'.heap.size) N' w' q ⟨kind, size, slide, a, openL kind a b⟩)) := by
  have HC0 := Aside0.mk hC
  have HL := Aside0.mk hl
  have HC := Aside0.mk hc
  have H8 := Aside0.mk h8
  clear hC hl hc h8
  by_cases hf : FormB b
  · obtain ⟨n, hn⟩ : ∃ n, b.length = 4 + 32 * n := ⟨b.length / 32, by unfold FormB at hf; omega⟩
    have hN := Aside0.mk hn
    have hF := Aside0.mk hf
    have g1 : decide ((b.length : Int) < 4) = false := decide_eq_false (by omega)
    have g2 : Int.tmod (b.length : Int) 32 = 4 := by rw [mod32]; omega
    have g3 : ¬ ((b.length : Int) < 4) := by omega
    clear hf hn
    obtain ⟨A9, c9, hcut, hB9, hc9⟩ := cut_rest (w := w) (fun W hb => Kd.C_below HC0.out hb) HC.out 4 (by omega)
    obtain ⟨l0, hl0⟩ : ∃ l, b.drop 4 = l := ⟨_, rfl⟩
    have HL0 := Aside0.mk hl0
    rw [hl0] at hcut hB9 hc9
    have hn0 : l0.length = 32 * n := by rw [← hl0, List.length_drop]; have := hN.out; omega
    rw [hn0] at hcut
    have HN0 := Aside0.mk hn0
    have HB9 := Aside0.mk hB9
    have HC9 := Aside0.mk hc9
    have HNL : Aside0 (n ≤ 1000000) := ⟨by have := HL.out; have := hN.out; omega⟩
    have hcut : ∀ W, (Instr.slice 58 (.slice A b.length c) (some (.int .i64 4)) none none).run Try.prog W = .ok (.slice A9 (32 * n) c9) W := hcut
    clear hl0 hn0 hB9 hc9
    go_enter Try.func22, Try.ntmps22
    go_wp2_with fail
    have HW1 := Aside0.mk (heap_alloc_new w (.cells #[.int .i64 kind, .int .i64 size, .int .i64 slide] 23))
    have HBW := Aside0.mk ((Below.refl w.heap.size w).alloc (Nat.le_refl _) (.cells #[.int .i64 kind, .int .i64 size, .int .i64 slide] 23))
    generalize (w.alloc (.cells #[.int .i64 kind, .int .i64 size, .int .i64 slide] 23)) = w1 at HW1 HBW ⊢
    have HLO : Aside0 (Lo w w1 l0 A9 c9 [] 0 w1 (.slice none 0 0)) := ⟨⟨World.ownsRow_nil _ _ _ _, Below.refl _ _, by simpa using HB9.out, by simpa using HC9.out⟩⟩
    clear HB9 HC9 g1 g2 g3 hcut
    go_loopg [8, 9] n (fun kx s8 s9 wr => ∃ (i : Nat) (Ar : Option Addr) (cr : Nat), s9 = .slice Ar (32 * (n - i)) cr ∧ n - i ≤ kx ∧ i ≤ n ∧ Aside0 (Lo w w1 l0 Ar cr (parseN i l0) i wr s8))
    case atStart => exact ⟨0, A9, c9, rfl, by omega, by omega, HLO⟩
    case round =>
      clear HLO
      obtain ⟨i, Ar, cr, rfl, hkx, hi, HQ⟩ := hrel
      by_cases hlt : i < n
      · have hlz : (((32 * (n - i) : Nat)) : Int) > 0 := by omega
        have hrl : (l0.drop (32 * i)).length = 32 * (n - i) := by rw [List.length_drop, HN0.out]; omega
        have hcut := cut_of HQ.out.byt HQ.out.cap (by rw [hrl]; omega)
        rw [hrl] at hcut
        obtain ⟨B0, d0, r0, K0⟩ := hcut.p0
        obtain ⟨B1, d1, r1, K1⟩ := hcut.p1
        obtain ⟨B2, d2, r2, K2⟩ := hcut.p2
        obtain ⟨B3, d3, r3, K3⟩ := hcut.p3
        obtain ⟨z, hz⟩ : ∃ z, paneOf (l0.drop (32 * i)) = z := ⟨_, rfl⟩
        have hz0 : takenP ((l0.drop (32 * i)).take 8) = z.f0 := by rw [← hz]; rfl
        have hz1 : takenP (((l0.drop (32 * i)).take 16).drop 8) = z.f1.f0 := by rw [← hz]; rfl
        have hz2 : takenP (((l0.drop (32 * i)).take 24).drop 16) = z.f1.f1 := by rw [← hz]; rfl
        have hz3 : takenP (((l0.drop (32 * i)).take 32).drop 24) = z.f2 := by rw [← hz]; rfl
        rw [hz0] at K0
        rw [hz1] at K1
        rw [hz2] at K2
        rw [hz3] at K3
        obtain ⟨A10, c10, hrest, hB10, hc10⟩ := cut_rest HQ.out.byt HQ.out.cap 32 (by rw [hrl]; omega)
        rw [hrl, List.drop_drop, show 32 * i + 32 = 32 * (i + 1) from by omega] at hrest
        rw [List.drop_drop, show 32 * i + 32 = 32 * (i + 1) from by omega] at hB10 hc10
        rw [show (l0.drop (32 * (i + 1))).length = 32 * (n - (i + 1)) from by rw [List.length_drop, HN0.out]; omega] at hrest
        have hrest : ∀ W, (Instr.slice 58 (.slice Ar (32 * (n - i)) cr) (some (.int .i64 32)) none none).run Try.prog W = .ok (.slice A10 (32 * (n - (i + 1))) c10) W := hrest
        have HP : Aside0 (parseN (i + 1) l0 = parseN i l0 ++ [z]) := ⟨by rw [parseN_snoc, hz]⟩
        have HB10 := Aside0.mk hB10
        have HC10 := Aside0.mk hc10
        have K0 := Aside0.mk K0
        have K1 := Aside0.mk K1
        have K2 := Aside0.mk K2
        have K3 := Aside0.mk K3
        have HI1 := Aside0.mk (And.intro hkx (And.intro hi hlt))
        clear hkx hi hlt hz hz0 hz1 hz2 hz3 hrl hcut hB10 hc10
        go_wp2_with fail
        refine start_ (n := 18) (S := fun w' => True) (ds := []) #[false, false, false, false, false, false, false, false, false, false, false, false, false, false, false, false, false, false] (by kernel_rfl) rfl rfl trivial (fun hHeld => ?_); refine with_tabW Top.tab7 Top.bits7 (fun HT_ HW_ => ?_)
        have HBd := Aside0.mk (HQ.out.bl.drew)
        have HOd := Aside0.mk (pw_own_below HQ.out.row (below_drew (Below.refl wr.heap.size wr)))
        generalize World.drew wr = w3 at HBd HOd hHeld ⊢
        refine pure_ (i := 0) (N := some 27) (v := ?_) (a' := ?_) #[true, false, false, false, false, false, false, false, false, false, false, false, false, false, false, false, false, false] rfl rfl (any_of HT_.out (by kernel_rfl)) (fun _ _ _ h => h) (Or.inl ⟨by rfl, ?_⟩) ?_ ?_
        rotate_left
        · intro w'
          go_simp
          with_reducible rfl
        rotate_left
        · simp only [Act.put, List.setIfInBounds_toArray, List.set_cons_zero, List.set_cons_succ, i64_w, i32_w]
          rfl
        refine pure_ (i := 1) (N := some 28) (v := ?_) (a' := ?_) #[true, true, false, false, false, false, false, false, false, false, false, false, false, false, false, false, false, false] rfl rfl (any_of HT_.out (by kernel_rfl)) (fun _ _ _ h => h) (Or.inl ⟨by rfl, ?_⟩) ?_ ?_
        rotate_left
        · intro w'
          go_simp
          with_reducible rfl
        rotate_left
        · simp only [Act.put, List.setIfInBounds_toArray, List.set_cons_zero, List.set_cons_succ, i64_w, i32_w]
          rfl
        refine pure_ (i := 2) (N := some 29) (v := ?_) (a' := ?_) #[true, true, true, false, false, false, false, false, false, false, false, false, false, false, false, false, false, false] rfl rfl (any_of HT_.out (by kernel_rfl)) (fun _ _ _ h => h) (Or.inl ⟨by rfl, ?_⟩) ?_ ?_
        rotate_left
        · intro w'
          go_simp
          with_reducible rfl
        rotate_left
        · simp only [Act.put, List.setIfInBounds_toArray, List.set_cons_zero, List.set_cons_succ, i64_w, i32_w]
          rfl
        refine pure_ (i := 4) (N := some 31) (v := ?_) (a' := ?_) #[true, true, true, false, true, false, false, false, false, false, false, false, false, false, false, false, false, false] rfl rfl (any_of HT_.out (by kernel_rfl)) (fun _ _ _ h => h) (Or.inl ⟨by rfl, ?_⟩) ?_ ?_
        rotate_left
        · intro w'
          go_simp
          with_reducible rfl
        rotate_left
        · simp only [Act.put, List.setIfInBounds_toArray, List.set_cons_zero, List.set_cons_succ, i64_w, i32_w]
          rfl
        refine pure_ (i := 5) (N := some 32) (v := ?_) (a' := ?_) #[true, true, true, false, true, true, false, false, false, false, false, false, false, false, false, false, false, false] rfl rfl (any_of HT_.out (by kernel_rfl)) (fun _ _ _ h => h) (Or.inl ⟨by rfl, ?_⟩) ?_ ?_
        rotate_left
        · intro w'
          go_simp
          with_reducible rfl
        rotate_left
        · simp only [Act.put, List.setIfInBounds_toArray, List.set_cons_zero, List.set_cons_succ, i64_w, i32_w]
          rfl
        refine pure_ (i := 7) (N := some 34) (v := ?_) (a' := ?_) #[true, true, true, false, true, true, false, true, false, false, false, false, false, false, false, false, false, false] rfl rfl (any_of HT_.out (by kernel_rfl)) (fun _ _ _ h => h) (Or.inl ⟨by rfl, ?_⟩) ?_ ?_
        rotate_left
        · intro w'
          go_simp
          with_reducible rfl
        rotate_left
        · simp only [Act.put, List.setIfInBounds_toArray, List.set_cons_zero, List.set_cons_succ, i64_w, i32_w]
          rfl
        refine pure_ (i := 8) (N := some 35) (v := ?_) (a' := ?_) #[true, true, true, false, true, true, false, true, true, false, false, false, false, false, false, false, false, false] rfl rfl (any_of HT_.out (by kernel_rfl)) (fun _ _ _ h => h) (Or.inl ⟨by rfl, ?_⟩) ?_ ?_
        rotate_left
        · intro w'
          go_simp
          with_reducible rfl
        rotate_left
        · simp only [Act.put, List.setIfInBounds_toArray, List.set_cons_zero, List.set_cons_succ, i64_w, i32_w]
          rfl
        refine pure_ (i := 11) (N := some 38) (v := ?_) (a' := ?_) #[true, true, true, false, true, true, false, true, true, false, false, true, false, false, false, false, false, false] rfl rfl (any_of HT_.out (by kernel_rfl)) (fun _ _ _ h => h) (Or.inl ⟨by rfl, ?_⟩) ?_ ?_
        rotate_left
        · intro w'
          go_simp
          with_reducible rfl
        rotate_left
        · simp only [Act.put, List.setIfInBounds_toArray, List.set_cons_zero, List.set_cons_succ, i64_w, i32_w]
          rfl
        refine pure_ (i := 12) (N := some 39) (v := ?_) (a' := ?_) #[true, true, true, false, true, true, false, true, true, false, false, true, true, false, false, false, false, false] rfl rfl (any_of HT_.out (by kernel_rfl)) (fun _ _ _ h => h) (Or.inl ⟨by rfl, ?_⟩) ?_ ?_
        rotate_left
        · intro w'
          go_simp
          with_reducible rfl
        rotate_left
        · simp only [Act.put, List.setIfInBounds_toArray, List.set_cons_zero, List.set_cons_succ, i64_w, i32_w]
          rfl
        clear r0 r1 r2 r3
        refine one_ (i := 3) (N := some 30) #[true, true, true, true, true, true, false, true, true, false, false, true, true, false, false, false, false, false] rfl rfl (one_of HT_.out (by kernel_rfl)) (by decide) (fun K hK => ?_)
        refine goes_ Try.func48 (by kernel_rfl) rfl #[.slice B0 8 d0] (by rfl) rfl rfl (by (try simp only [List.map_toArray, List.map_cons, List.map_nil]); first | done | rfl) ?_
        refine (K0.out _ (HBW.out.trans (HBd.out.mono HBW.out.size))).mono ?_
        rintro e w4 ⟨rfl, hd0⟩
        refine ⟨_, rfl, ?_⟩
        have HBd := Aside0.mk (HBd.out.trans (hd0.below.mono HBd.out.size))
        have HOd := Aside0.mk (pw_own_below HOd.out hd0.below)
        clear hd0 K0
        refine hK.out _ _ trivial (fun hHeld => ?_)
        clear hK K
        refine norm_ (a' := ?_) ?_ ?_
        rotate_left
        · show Act.put _ (some 30) _ = _
          simp only [Act.put, List.setIfInBounds_toArray, List.set_cons_zero, List.set_cons_succ, i64_w, i32_w]
          rfl
        refine one_ (i := 6) (N := some 33) #[true, true, true, true, true, true, true, true, true, false, false, true, true, false, false, false, false, false] rfl rfl (one_of HT_.out (by kernel_rfl)) (by decide) (fun K hK => ?_)
        refine goes_ Try.func48 (by kernel_rfl) rfl #[.slice B1 8 d1] (by rfl) rfl rfl (by (try simp only [List.map_toArray, List.map_cons, List.map_nil]); first | done | rfl) ?_
        refine (K1.out _ (HBW.out.trans (HBd.out.mono HBW.out.size))).mono ?_
        rintro e w5 ⟨rfl, hd1⟩
        refine ⟨_, rfl, ?_⟩
        have HBd := Aside0.mk (HBd.out.trans (hd1.below.mono HBd.out.size))
        have HOd := Aside0.mk (pw_own_below HOd.out hd1.below)
        clear hd1 K1
        refine hK.out _ _ trivial (fun hHeld => ?_)
        clear hK K
        refine norm_ (a' := ?_) ?_ ?_
        rotate_left
        · show Act.put _ (some 33) _ = _
          simp only [Act.put, List.setIfInBounds_toArray, List.set_cons_zero, List.set_cons_succ, i64_w, i32_w]
          rfl
        refine one_ (i := 9) (N := some 36) #[true, true, true, true, true, true, true, true, true, true, false, true, true, false, false, false, false, false] rfl rfl (one_of HT_.out (by kernel_rfl)) (by decide) (fun K hK => ?_)
        refine goes_ Try.func48 (by kernel_rfl) rfl #[.slice B2 8 d2] (by rfl) rfl rfl (by (try simp only [List.map_toArray, List.map_cons, List.map_nil]); first | done | rfl) ?_
        refine (K2.out _ (HBW.out.trans (HBd.out.mono HBW.out.size))).mono ?_
        rintro e w6 ⟨rfl, hd2⟩
        refine ⟨_, rfl, ?_⟩
        have HBd := Aside0.mk (HBd.out.trans (hd2.below.mono HBd.out.size))
        have HOd := Aside0.mk (pw_own_below HOd.out hd2.below)
        clear hd2 K2
        refine hK.out _ _ trivial (fun hHeld => ?_)
        clear hK K
        refine norm_ (a' := ?_) ?_ ?_
        rotate_left
        · show Act.put _ (some 36) _ = _
          simp only [Act.put, List.setIfInBounds_toArray, List.set_cons_zero, List.set_cons_succ, i64_w, i32_w]
          rfl
        refine pure_ (i := 10) (N := some 37) (v := ?_) (a' := ?_) #[true, true, true, true, true, true, true, true, true, true, true, true, true, false, false, false, false, false] rfl rfl (any_of HT_.out (by kernel_rfl)) (fun _ _ _ h => h) (Or.inl ⟨by rfl, ?_⟩) ?_ ?_
        rotate_left
        · intro w'
          go_simp
          with_reducible rfl
        rotate_left
        · simp only [Act.put, List.setIfInBounds_toArray, List.set_cons_zero, List.set_cons_succ, i64_w, i32_w]
          rfl
        refine one_ (i := 13) (N := some 40) #[true, true, true, true, true, true, true, true, true, true, true, true, true, true, false, false, false, false] rfl rfl (one_of HT_.out (by kernel_rfl)) (by decide) (fun K hK => ?_)
        refine goes_ Try.func48 (by kernel_rfl) rfl #[.slice B3 8 d3] (by rfl) rfl rfl (by (try simp only [List.map_toArray, List.map_cons, List.map_nil]); first | done | rfl) ?_
        refine (K3.out _ (HBW.out.trans (HBd.out.mono HBW.out.size))).mono ?_
        rintro e w7 ⟨rfl, hd3⟩
        refine ⟨_, rfl, ?_⟩
        have HBd := Aside0.mk (HBd.out.trans (hd3.below.mono HBd.out.size))
        have HOd := Aside0.mk (pw_own_below HOd.out hd3.below)
        clear hd3 K3
        refine hK.out _ _ trivial (fun hHeld => ?_)
        clear hK K
        refine norm_ (a' := ?_) ?_ ?_
        rotate_left
        · show Act.put _ (some 40) _ = _
          simp only [Act.put, List.setIfInBounds_toArray, List.set_cons_zero, List.set_cons_succ, i64_w, i32_w]
          rfl
        refine pure_ (i := 14) (N := some 41) (v := ?_) (a' := ?_) #[true, true, true, true, true, true, true, true, true, true, true, true, true, true, true, false, false, false] rfl rfl (any_of HT_.out (by kernel_rfl)) (fun _ _ _ h => h) (Or.inl ⟨by rfl, ?_⟩) ?_ ?_
        rotate_left
        · intro w'
          go_simp
          with_reducible rfl
        rotate_left
        · simp only [Act.put, List.setIfInBounds_toArray, List.set_cons_zero, List.set_cons_succ, i64_w, i32_w]
          rfl
        refine one_ (i := 15) (N := some 42) #[true, true, true, true, true, true, true, true, true, true, true, true, true, true, true, true, false, false] rfl rfl (one_of HT_.out (by kernel_rfl)) (by decide) (fun K hK => ?_)
        refine value_ (v := .slice (some ⟨w7.heap.size, 0, none⟩) 1 1) (w1 := w7.alloc (.cells #[.int .i64 z.f0, .int .i64 z.f1.f0, .int .i64 z.f1.f1, .int .i64 z.f2] 70)) (by rfl) rfl ?_ ?_
        · go_simp
          first | done | rfl | simp [Result.andThen]
        have HNB := Aside0.mk (heap_alloc_new w7 (.cells #[.int .i64 z.f0, .int .i64 z.f1.f0, .int .i64 z.f1.f1, .int .i64 z.f2] 70))
        have HBd := Aside0.mk (HBd.out.alloc HBd.out.size (.cells #[.int .i64 z.f0, .int .i64 z.f1.f0, .int .i64 z.f1.f1, .int .i64 z.f2] 70))
        have HOd := Aside0.mk (pw_own_below HOd.out ((Below.refl w7.heap.size w7).alloc (Nat.le_refl _) (.cells #[.int .i64 z.f0, .int .i64 z.f1.f0, .int .i64 z.f1.f1, .int .i64 z.f2] 70)))
        refine hK.out _ _ trivial (fun hHeld => ?_)
        clear hK K
        refine norm_ (a' := ?_) ?_ ?_
        rotate_left
        · show Act.put _ (some 42) _ = _
          simp only [Act.put, List.setIfInBounds_toArray, List.set_cons_zero, List.set_cons_succ, i64_w, i32_w]
          rfl
        refine one_ (i := 16) (N := some 43) #[true, true, true, true, true, true, true, true, true, true, true, true, true, true, true, true, true, false] rfl rfl (one_of HT_.out (by kernel_rfl)) (by decide) (fun K hK => ?_)
        obtain ⟨v8, w8, hrun8, ho8, hg8⟩ := app70 HOd.out HBd.out.size z _ HNB.out (by rw [parseN_len]; have := HNL.out; have := HI1.out; omega) 44
        have HB8 := Aside0.mk (HBd.out.grown hg8 HBd.out.size (fun k e => (HOd.out.lt k e).1))
        have HO8 := Aside0.mk ho8
        refine bapp_ #[u8, .slice (some ⟨w7.heap.size, 0, none⟩) 1 1] (by rfl) (by (try simp only [List.map_toArray, List.map_cons, List.map_nil]); first | done | rfl) (by rfl) rfl hrun8 ?_
        clear hrun8 ho8 hg8
        refine hK.out _ _ trivial (fun hHeld => ?_)
        clear hK K
        refine norm_ (a' := ?_) ?_ ?_
        rotate_left
        · show Act.put _ (some 43) _ = _
          simp only [Act.put, List.setIfInBounds_toArray, List.set_cons_zero, List.set_cons_succ, i64_w, i32_w]
          rfl
        refine pure_ (i := 17) (N := some 8) (v := ?_) (a' := ?_) #[true, true, true, true, true, true, true, true, true, true, true, true, true, true, true, true, true, true] rfl rfl (any_of HT_.out (by kernel_rfl)) (fun _ _ _ h => h) (Or.inl ⟨by rfl, ?_⟩) ?_ ?_
        rotate_left
        · intro w'
          go_simp
          with_reducible rfl
        rotate_left
        · simp only [Act.put, List.setIfInBounds_toArray, List.set_cons_zero, List.set_cons_succ, i64_w, i32_w]
          rfl
        refine done_ (done_of HT_.out (by kernel_rfl)) ?_
        clear hHeld HOd HBd HNB
        go_wp2_with fail
        go_roundg (n - (i + 1))
        case measure => have := HI1.out; omega
        case rel =>
          refine ⟨i + 1, A10, c10, rfl, Nat.le_refl _, HI1.out.2.2, ⟨⟨?_, HB8.out, HB10.out, HC10.out⟩⟩⟩
          rw [HP.out, List.length_append, List.length_singleton]
          exact HO8.out
      · have hlz : ¬ ((((32 * (n - i) : Nat)) : Int) > 0) := by omega
        have hz2 : decide ((0 : Int) < 32 * ((n - i : Nat) : Int)) = false := decide_eq_false (by omega)
        have hni : i = n := by omega
        clear hlt hkx hi
        subst hni
        have hO := HQ.out.row
        have hpl := parseN_len i l0
        obtain ⟨A8, c8, rfl⟩ := own_slice hO
        have hR := R_flat hO
        have HR := Aside0.mk hR
        rw [hpl] at hR
        have HE : Aside0 (openL kind a b = loadL a (loadOf kind a (parseN i l0))) := ⟨by
          have e : (b.length - 4) / 32 = i := by have := hN.out; omega
          rw [openL, readB, e, HL0.out]⟩
        have HBA := Aside0.mk (HBW.out.trans (HQ.out.bl.mono HBW.out.size))
        have hw := blk_below HW1.out HQ.out.bl
        have k0 := (blk_cell hw 0).trans rfl
        have k1 := (blk_cell hw 1).trans rfl
        have k2 := (blk_cell hw 2).trans rfl
        rw [hpl]
        have hpl2 := Aside0.mk hpl
        clear hO hR hw hpl
        go_wp2_with (first
          | (go_at_call 11
             refine (New_calls wr kind size slide a).mono ?_
             rintro e w10 ⟨q, rfl, hI, hb⟩
             have HI := Aside0.mk hI
             have HBN := Aside0.mk hb
             clear hI hb)
          | (go_at_call 20
             have hF := Kd.F_step (Kd.F_mono (Kd.R_F (Kd.R_bound HR.out)) (fun k hk => And.intro hk.2.1 hk.2.2.1)) (fun k hk hlt => HBN.out.block k hlt)
             have KL := Load_calls HI.out A8 c8 (parseN i l0) _ hF (Kd.R_reads' HR.out).2.1 (fun k hk => ⟨fun hf => by have := hk.2; have := hf.1; omega, Nat.lt_of_lt_of_le hk.2 HBN.out.size⟩) (parseN_64 _ _) (by rw [hpl2.out]; exact HNL.out)
             rw [hpl2.out] at KL
             refine KL.mono ?_
             clear KL
             rintro e w11 ⟨rfl, hto⟩
             rw [← HE.out] at hto
             have HTO := Aside0.mk hto
             clear hto hF)
          | (go_at_call 23
             refine (Bytes_calls HTO.out.is).mono ?_
             rintro e w12 ⟨v12, rfl, hR, hb⟩
             obtain ⟨A12, c12, rfl⟩ := Kd.R_slice hR
             have HR12 := Aside0.mk hR
             have HB12 := Aside0.mk hb
             clear hR hb)
          | (go_at_call 49
             refine (bytes_Equal.calls A12 c12 _ A c b _ w12 (Kd.R_reads' HR12.out).2.2 (Kd.R_reads' HR12.out).2.1 (Kd.C_below HC0.out (HBA.out.trans ((HBN.out.trans (((HTO.out.fr.toBelow (B := wr.heap.size) HBN.out.size (fun k _ hk => hk.1)).trans (HB12.out.mono (Nat.le_trans HBN.out.size HTO.out.fr.size))))).mono HBA.out.size))) HC.out (equal_f (bytesB_8 _) H8.out)).mono ?_
             rintro e w13 ⟨rfl, hd⟩
             have HD := Aside0.mk hd.below
             clear hd
             rcases dec2 (P := bytesB (sortP (openL kind a b)) = b) with ⟨hdq, HQE⟩ | ⟨hdq, HQE⟩
             all_goals (rw [hdq])
             all_goals (clear hdq)))
        · go_ret2
          exact open_end HBA.out HBN.out HTO.out HB12.out HD.out ⟨hF.out, HQE.out⟩ (Nat.le_trans (loadOf_len _ _ _) (by rw [hpl2.out]; have := hN.out; omega))
        · go_ret2
          refine ⟨?_, Or.inl ⟨fun h => HQE.out h.2, rfl⟩⟩
          exact open_below HBA.out HBN.out HTO.out HB12.out HD.out
  · by_cases h4 : (b.length : Int) < 4
    · have hF := Aside0.mk hf
      clear hf
      go_enter Try.func22, Try.ntmps22
      go_wp2
      go_ret2
      exact ⟨(Below.refl w.heap.size w).alloc (Nat.le_refl _) _, Or.inl ⟨fun h => hF.out h.1, rfl⟩⟩
    · have g2 : ¬ Int.tmod (b.length : Int) 32 = 4 := by rw [mod32]; unfold FormB at hf; omega
      have g3 : ((b.length : Int) % 32 != 4) = true := by
        rw [mod32] at g2
        have : ¬ ((b.length : Int) % 32 = 4) := by omega
        simpa using this
      have hF := Aside0.mk hf
      clear hf
      go_enter Try.func22, Try.ntmps22
      go_wp2
      go_ret2
      exact ⟨(Below.refl w.heap.size w).alloc (Nat.le_refl _) _, Or.inl ⟨fun h => hF.out h.1, rfl⟩⟩
end Go.Proofs.Ytjegeghigfmkoaa.T
namespace Go.Proofs.Ytjegeghigfmkoaa.T
open Go.RowKit Go.Maps Go.Sort Go.Proofs Go.Proofs.Ytjegeghigfmkoaa Go.Proofs.Ytjegeghigfmkoaa.X Go.Proofs.YtjegeghigfmkoaaW.PrintWords Go.Proofs.YtjegeghigfmkoaaW.PrintLast Go.Proofs.YtjegeghigfmkoaaW.PrintMore
set_option linter.unusedVariables false
set_option linter.unusedSimpArgs false
set_option maxRecDepth 100000
variable {F : Nat → Prop} {N : Nat} {w w' : World} {q b1 b2 : Nat} {tv : Value} {tm : List Int} {s : St}
def grp (x : Int) : Int := wrap64 ((IntKind.u64.wrap ((IntKind.u64.wrap x) * 11400714819323198485)) / 1152921504606846976)
def other (g : Int) (p : S70) : Bool := grp p.f0 != g
theorem group_any (x : Int) (w : World) : Calls Try.prog 56 #[.int .i64 x] w fun e w' => e = .returned (.int .i64 (grp x)) ∧ Below w.heap.size w w' :=
  (plan_Group.calls x (grp x) w rfl).mono fun e w' h => ⟨h.1, h.2.below⟩
def Tgr.T1 : Bool × List (List Nat × List Nat) := (true, [([], []), ([0], [0]), ([1], [1]), ([], []), ([2, 3], [2, 3]), ([4, 2, 0, 1, 2, 3, 4], [4])])
def Tgr.B1 : List Nat := [0, 1, 3, 0, 15, 31]
theorem Tgr.tab1 : rtab .any (opsOf Try.f55 1) = Tgr.T1 := by kernel_rfl
theorem Tgr.bits1 : waitsOk Tgr.T1.2 Tgr.B1 = true := by kernel_rfl
set_option maxHeartbeats 4000000 in
theorem other_calls (g : Int) (p : S70) (B : Nat) (w : World) (hb : w.heap[B]? = some (.cells #[.int .i64 g] 3 (0, 0))) : Calls Try.prog 55 #[aggP p, .pointer (some ⟨B, 0, none⟩)] w fun e w' => e = .returned (.bool (other g p)) ∧ Below w.heap.size w w' := by
  have HB := Aside0.mk hb
  clear hb
  go_enter Try.func55, Try.ntmps55
  go_wp2_with fail
  have HBd := Aside0.mk ((Below.refl w.heap.size w).alloc (Nat.le_refl _) (.cells #[.int .i64 p.f0, .int .i64 p.f1.f0, .int .i64 p.f1.f1, .int .i64 p.f2] 70))
  have HP := Aside0.mk (heap_alloc_new w (.cells #[.int .i64 p.f0, .int .i64 p.f1.f0, .int .i64 p.f1.f1, .int .i64 p.f2] 70))
  generalize (w.alloc (.cells #[.int .i64 p.f0, .int .i64 p.f1.f0, .int .i64 p.f1.f1, .int .i64 p.f2] 70)) = w1 at HBd HP ⊢
  have hg := blk_below HB.out HBd.out
  refine start_ (n := 6) (S := fun w' => w'.cell? ⟨w.heap.size, 0, none⟩ = some (.int .i64 p.f0) ∧ w'.cell? ⟨B, 0, none⟩ = some (.int .i64 g)) (ds := []) #[false, false, false, false, false, false] (by kernel_rfl) rfl rfl ⟨(blk_cell (blk_drew HP.out) 0).trans rfl, (blk_cell (blk_drew hg) 0).trans rfl⟩ (fun hHeld => ?_); refine with_tabW Tgr.tab1 Tgr.bits1 (fun HT_ HW_ => ?_)
  have HB1 := Aside0.mk (below_drew HBd.out)
  have HP1 := Aside0.mk (blk_drew HP.out)
  have HG1 := Aside0.mk (blk_drew hg)
  clear hg HBd HP
  generalize World.drew w1 = w2 at HB1 HP1 HG1 hHeld ⊢
  refine pure_ (i := 0) (N := some 4) (v := ?_) (a' := ?_) #[true, false, false, false, false, false] rfl rfl (any_of HT_.out (by kernel_rfl)) (fun _ _ _ h => h) (Or.inl ⟨by rfl, ?_⟩) ?_ ?_
  rotate_left
  · intro w'
    go_simp
    with_reducible rfl
  rotate_left
  · simp only [Act.put, List.setIfInBounds_toArray, List.set_cons_zero, List.set_cons_succ, i64_w, i32_w]
    rfl
  refine take_ (i := 1) (N := some 5) (v := ?_) (a' := ?_) #[true, true, false, false, false, false] rfl rfl (take_ofW HT_.out HW_.out (by kernel_rfl)) (fun _ _ _ h => h) (Or.inl ⟨by rfl, ?_⟩) hHeld ?_ ?_
  rotate_left
  · rintro w' ⟨s0, s1⟩
    go_simp
    with_reducible rfl
  rotate_left
  · simp only [Act.put, List.setIfInBounds_toArray, List.set_cons_zero, List.set_cons_succ, i64_w, i32_w]
    rfl
  refine take_ (i := 3) (N := some 7) (v := ?_) (a' := ?_) #[true, true, false, true, false, false] rfl rfl (take_ofW HT_.out HW_.out (by kernel_rfl)) (fun _ _ _ h => h) (Or.inl ⟨by rfl, ?_⟩) hHeld ?_ ?_
  rotate_left
  · rintro w' ⟨s0, s1⟩
    go_simp
    with_reducible rfl
  rotate_left
  · simp only [Act.put, List.setIfInBounds_toArray, List.set_cons_zero, List.set_cons_succ, i64_w, i32_w]
    rfl
  refine one_ (i := 2) (N := some 6) #[true, true, true, true, false, false] rfl rfl (one_of HT_.out (by kernel_rfl)) (by decide) (fun K hK => ?_)
  refine goes_ Try.func56 (by kernel_rfl) rfl #[.int .i64 p.f0] (by rfl) rfl rfl (by (try simp only [List.map_toArray, List.map_cons, List.map_nil]); first | done | rfl) ?_
  refine (group_any p.f0 w2).mono ?_
  rintro e w3 ⟨rfl, hb3⟩
  refine ⟨_, rfl, ?_⟩
  have HB3 := Aside0.mk (HB1.out.trans (hb3.mono HB1.out.size))
  refine hK.out _ _ ⟨(blk_cell (blk_below HP1.out hb3) 0).trans rfl, (blk_cell (blk_below HG1.out hb3) 0).trans rfl⟩ (fun hHeld => ?_)
  clear hK K
  refine norm_ (a' := ?_) ?_ ?_
  rotate_left
  · show Act.put _ (some 6) _ = _
    simp only [Act.put, List.setIfInBounds_toArray, List.set_cons_zero, List.set_cons_succ, i64_w, i32_w]
    rfl
  refine pure_ (i := 4) (N := some 8) (v := ?_) (a' := ?_) #[true, true, true, true, true, false] rfl rfl (any_of HT_.out (by kernel_rfl)) (fun _ _ _ h => h) (Or.inl ⟨by rfl, ?_⟩) ?_ ?_
  rotate_left
  · intro w'
    go_simp
    with_reducible rfl
  rotate_left
  · simp only [Act.put, List.setIfInBounds_toArray, List.set_cons_zero, List.set_cons_succ, i64_w, i32_w]
    rfl
  refine pure_ (i := 5) (N := some 3) (v := ?_) (a' := ?_) #[true, true, true, true, true, true] rfl rfl (any_of HT_.out (by kernel_rfl)) (fun _ _ _ h => h) (Or.inl ⟨by rfl, ?_⟩) ?_ ?_
  rotate_left
  · intro w'
    go_simp
    with_reducible rfl
  rotate_left
  · simp only [Act.put, List.setIfInBounds_toArray, List.set_cons_zero, List.set_cons_succ, i64_w, i32_w]
    rfl
  refine done_ (done_of HT_.out (by kernel_rfl)) ?_
  clear hHeld hb3
  go_wp2
  go_ret
  exact ⟨rfl, HB3.out⟩
def idxO (g : Int) (l : List S70) : Int := match l.findIdx? (other g) with
  | none => -1
  | some i => (i : Int)
set_option maxHeartbeats 4000000 in
theorem index_calls (g : Int) (B : Nat) (A : Option Addr) (c : Nat) (l : List S70) (w : World) (hr : Kd.C k70 w A l.length l) (hb : w.heap[B]? = some (.cells #[.int .i64 g] 3 (0, 0))) (hl : l.length < 4398046511104) :
    Calls Try.prog 77 #[.slice A l.length c, .func (.func 55) #[] #[.pointer (some ⟨B, 0, none⟩)]] w fun e w' => e = .returned (.int .i64 (idxO g l)) ∧ Below w.heap.size w w' := by
  have HR := Aside0.mk hr
  have HB := Aside0.mk hb
  clear hr hb
  go_enter Try.func77, Try.ntmps77
  go_wp2
  go_loopg [4, 8, 5] l.length (fun ky s4 s8 s5 wr => ∃ i : Nat, s8 = .int .i64 i ∧ i ≤ l.length ∧ l.length - i ≤ ky ∧ Aside0 (∀ j (h : j < l.length), j < i → other g l[j] = false) ∧ Aside0 (Below w.heap.size w wr))
  case atStart => exact ⟨0, rfl, Nat.zero_le _, Nat.le_refl _, ⟨fun j _ h => absurd h (by omega)⟩, ⟨Below.refl _ _⟩⟩
  case round =>
    obtain ⟨i, rfl, hil, hky, HN, HW⟩ := hrel
    by_cases hlt : i < l.length
    · have hltz : (i : Int) < (l.length : Int) := by omega
      obtain ⟨ad, e, hx0, hx1, hx2, hx3⟩ := at_T70 (Kd.C_below HR.out HW.out) (i : Int) (by omega) (by omega)
      cases e
      obtain ⟨x, HX⟩ : ∃ x, Aside0 (x = l[i]) := ⟨_, ⟨rfl⟩⟩
      have er : rd_T70 l (i : Int) = x := by rw [HX.out]; simp [rd_T70, hlt]
      rw [er] at hx0 hx1 hx2 hx3
      simp only [Int.toNat_natCast] at hx0 hx1 hx2 hx3
      clear er
      have hsm := other_calls g x B wr (blk_below HB.out HW.out)
      cases hv : other g x with
      | false =>
        rw [hv] at hsm
        go_wp2_with (go_at_call 55; refine hsm.mono ?_; rintro e w3 ⟨rfl, hb3⟩)
        have HB3 := Aside0.mk hb3
        clear hb3
        go_roundg (l.length - (i + 1))
        case measure => omega
        case rel =>
          refine ⟨i + 1, by first | rfl | go_num | (congr 1; omega), by omega, Nat.le_refl _, ⟨fun j h hj => ?_⟩, ⟨below_step HW.out HB3.out⟩⟩
          rcases Nat.lt_or_ge j i with h1 | h1
          · exact HN.out j h h1
          · obtain rfl : j = i := by omega
            rw [← HX.out]; exact hv
      | true =>
        rw [hv] at hsm
        go_wp2_with (go_at_call 55; refine hsm.mono ?_; rintro e w3 ⟨rfl, hb3⟩)
        have HB3 := Aside0.mk hb3
        clear hb3
        go_ret
        refine ⟨?_, below_step HW.out HB3.out⟩
        have hf : l.findIdx? (other g) = some i := by
          rw [List.findIdx?_eq_some_iff_getElem]
          refine ⟨hlt, ?_, fun j hj => ?_⟩
          · rw [← HX.out]; exact hv
          · rw [HN.out j (by omega) hj]; simp
        unfold idxO
        rw [hf]
        rfl
    · have hltz : ¬ (i : Int) < (l.length : Int) := by omega
      go_wp2
      go_ret
      refine ⟨?_, HW.out⟩
      have hf : l.findIdx? (other g) = none := by
        rw [List.findIdx?_eq_none_iff]
        intro x hx
        obtain ⟨j, hj, rfl⟩ := List.getElem_of_mem hx
        exact HN.out j hj (by omega)
      unfold idxO
      rw [hf]
      rfl
end Go.Proofs.Ytjegeghigfmkoaa.T
namespace Go.Proofs.Ytjegeghigfmkoaa.T
open Go.RowKit Go.Maps Go.Sort Go.Proofs Go.Proofs.Ytjegeghigfmkoaa Go.Proofs.Ytjegeghigfmkoaa.X Go.Proofs.YtjegeghigfmkoaaW.PrintWords Go.Proofs.YtjegeghigfmkoaaW.PrintLast Go.Proofs.YtjegeghigfmkoaaW.PrintMore
set_option linter.unusedVariables false
set_option linter.unusedSimpArgs false
set_option maxRecDepth 100000
variable {F : Nat → Prop} {N : Nat} {w w' : World} {q b1 b2 : Nat} {tv : Value} {tm : List Int} {s : St}
theorem row_at {W : World} {base : Nat} {ok : Nat → Prop} {g n cap : Nat} {d : List S70} (h : Kd.R k70 70 W base ok (.slice (some ⟨g, 0, none⟩) n cap) d) (i : Nat) (hi : i < n) :
    ∃ z, d[i]? = some z ∧ W.cell? ⟨g, i * 4, none⟩ = some (.int .i64 z.f0) ∧ W.cell? ⟨g, i * 4 + 1, none⟩ = some (.int .i64 z.f1.f0) ∧ W.cell? ⟨g, i * 4 + 2, none⟩ = some (.int .i64 z.f1.f1) ∧ W.cell? ⟨g, i * 4 + 3, none⟩ = some (.int .i64 z.f2) ∧
      W.frozen? ⟨g, i * 4, none⟩ = false ∧ W.frozen? ⟨g, i * 4 + 1, none⟩ = false ∧ W.frozen? ⟨g, i * 4 + 2, none⟩ = false ∧ W.frozen? ⟨g, i * 4 + 3, none⟩ = false := by
  obtain ⟨hn, _, _⟩ := Kd.R_reads' h
  have hil : i < d.length := by omega
  have hc := fun c hc => R_cell h (j := i) (c := c) hil hc
  refine ⟨d[i], List.getElem?_eq_getElem hil, ?_⟩
  exact ⟨(hc 0 (by decide)).1, (hc 1 (by decide)).1, (hc 2 (by decide)).1, (hc 3 (by decide)).1, (hc 0 (by decide)).2, (hc 1 (by decide)).2, (hc 2 (by decide)).2, (hc 3 (by decide)).2⟩
theorem row_set {W : World} {base : Nat} {ok : Nat → Prop} {g n cap : Nat} {d : List S70} (h : Kd.R k70 70 W base ok (.slice (some ⟨g, 0, none⟩) n cap) d) (i : Nat) (hi : i < n) (z : S70) :
    Kd.R k70 70 ((((W.setCell ⟨g, i * 4, none⟩ (.int .i64 z.f0)).setCell ⟨g, i * 4 + 1, none⟩ (.int .i64 z.f1.f0)).setCell ⟨g, i * 4 + 2, none⟩ (.int .i64 z.f1.f1)).setCell ⟨g, i * 4 + 3, none⟩ (.int .i64 z.f2)) base ok (.slice (some ⟨g, 0, none⟩) n cap) (d.set i z) := by
  obtain ⟨c, h1, h2, h3, h4⟩ := Kd.R_elem h z70 (i : Int) (by omega) (by omega)
  have := (Kd.R_seg h (i : Int) (by omega) (by omega) (seg := [.int .i64 z.f0, .int .i64 z.f1.f0, .int .i64 z.f1.f1, .int .i64 z.f2]) (j := 0) h1 h3 (show 4 ≤ 4 from by decide) (x' := z) (by
    obtain rfl := k70_openM h2
    exact k70_mkM _ _ _ z) (fun _ hk => hk)).1
  exact this
structure Ldf (g0 : Int) (w : World) (base : Nat) (ok : Nat → Prop) (g n cap : Nat) (l : List S70) (i j : Nat) (wr : World) (d : List S70) : Prop where
  row : Kd.R k70 70 wr base ok (.slice (some ⟨g, 0, none⟩) n cap) d
  pre : d.take i = (l.take j).filter (fun p => !other g0 p)
  post : d.drop j = l.drop j
  bl : Below base w wr
theorem Ldf.keep {g0 : Int} {base : Nat} {ok : Nat → Prop} {g n cap : Nat} {l : List S70} {i j : Nat} {wr w2 : World} {d : List S70} (h : Ldf g0 w base ok g n cap l i j wr d) (hb : Below wr.heap.size wr w2) (hbs : base ≤ wr.heap.size) : Ldf g0 w base ok g n cap l i j w2 d :=
  ⟨Kd.R_below h.row hb, h.pre, h.post, h.bl.trans (hb.mono hbs)⟩
theorem Ldf.skip {g0 : Int} {base : Nat} {ok : Nat → Prop} {g n cap : Nat} {l : List S70} {i j : Nat} {wr : World} {d : List S70} (h : Ldf g0 w base ok g n cap l i j wr d) {z : S70} (hz : l[j]? = some z) (ho : other g0 z = true) : Ldf g0 w base ok g n cap l i (j + 1) wr d := by
  refine ⟨h.row, ?_, ?_, h.bl⟩
  · rw [h.pre, List.take_add_one, hz]
    simp [ho]
  · rw [← List.drop_drop, h.post, List.drop_drop]
theorem Ldf.put {g0 : Int} {base : Nat} {ok : Nat → Prop} {g n cap : Nat} {l : List S70} {i j : Nat} {wr : World} {d : List S70} (h : Ldf g0 w base ok g n cap l i j wr d) (hg : base ≤ g) (hij : i < j) (hj : j < n) {z : S70} (hz : l[j]? = some z) (ho : other g0 z = false) :
    Ldf g0 w base ok g n cap l (i + 1) (j + 1) ((((wr.setCell ⟨g, i * 4, none⟩ (.int .i64 z.f0)).setCell ⟨g, i * 4 + 1, none⟩ (.int .i64 z.f1.f0)).setCell ⟨g, i * 4 + 2, none⟩ (.int .i64 z.f1.f1)).setCell ⟨g, i * 4 + 3, none⟩ (.int .i64 z.f2)) (d.set i z) := by
  have hn := (Kd.R_reads' h.row).1
  refine ⟨row_set h.row i (by omega) z, ?_, ?_, (((h.bl.setCell (p := ⟨g, i * 4, none⟩) hg _).setCell (p := ⟨g, i * 4 + 1, none⟩) hg _).setCell (p := ⟨g, i * 4 + 2, none⟩) hg _).setCell (p := ⟨g, i * 4 + 3, none⟩) hg _⟩
  · rw [List.take_add_one, List.take_set_of_le (Nat.le_refl i), h.pre, List.take_add_one, hz, List.getElem?_set_self (by omega)]
    simp [ho]
  · rw [List.drop_set_of_lt (by omega), ← List.drop_drop, h.post, List.drop_drop]
theorem delF_end {g0 : Int} {base : Nat} {ok : Nat → Prop} {g cap : Nat} {l : List S70} {i : Nat} {wr : World} {d : List S70} (hg : base ≤ g) (h : Ldf g0 w base ok g l.length cap l i l.length wr d) (hi : i ≤ l.length) :
    ∃ v, Ending.returned (.slice (some ⟨g, 0, none⟩) i cap) = Ending.returned v ∧ Kd.R k70 70 (wr.setCells g (i * 4) (List.replicate ((l.length - i) * 4) (.int .i64 0))) base ok v (l.filter (fun p => !other g0 p)) ∧ Below base w (wr.setCells g (i * 4) (List.replicate ((l.length - i) * 4) (.int .i64 0))) := by
  have hn := (Kd.R_reads' h.row).1
  have hcap := (Kd.R_reads' h.row).2.1
  have hpre := h.pre
  rw [List.take_length] at hpre
  have hlen : (l.filter (fun p => !other g0 p)).length = i := by rw [← hpre, List.length_take]; omega
  have hcell := fun (j c : Nat) (hj : j < d.length) (hc : c < 4) => R_cell h.row hj hc
  obtain ⟨hok, inner, ho, hr⟩ := h.row
  obtain ⟨_, ⟨hbad, _⟩ | ⟨g', cap', cur, he, _, hb, h1, h2, h3, h4⟩⟩ := ho
  · cases hbad
  injection he with e1 e2 e3
  injection e1 with e1
  injection e1 with e1 _ _
  subst e1 e3
  obtain ⟨cur2, e3, e4⟩ := setCells_block g (List.replicate ((l.length - i) * 4) (.int .i64 0)) (i * 4) wr cur hb
  have hbel : Below g wr (wr.setCells g (i * 4) (List.replicate ((l.length - i) * 4) (.int .i64 0))) := below_setCells g _ _ wr wr (Below.refl _ _)
  refine ⟨_, rfl, ?_, h.bl.trans (hbel.mono hg)⟩
  have hR := R_of_cells (base := base) (l' := l.filter (fun p => !other g0 p)) (cap := cap) (hok g (by simp [Value.ownBlock])) hg e3 (by rw [e4, h3]; rfl) h2 (by omega) (fun j c hj hc => by
    rw [World.cell?_setCells_out g _ _ wr ⟨g, j * 4 + c, none⟩ (fun _ _ => Or.inl (by show j * 4 + c < i * 4; omega))]
    have hjd : j < d.length := by omega
    have e : (l.filter (fun p => !other g0 p))[j] = d[j] := by
      have : (d.take i)[j]? = (l.filter (fun p => !other g0 p))[j]? := by rw [hpre]
      rw [List.getElem?_eq_getElem hj, List.getElem?_take_of_lt (by omega), List.getElem?_eq_getElem hjd] at this
      exact (Option.some.inj this).symm
    rw [e]
    exact (hcell j c hjd hc).1)
  rw [hlen] at hR
  exact hR
set_option maxHeartbeats 4000000 in
theorem delF_calls (g0 : Int) (B : Nat) (A : Option Addr) (c : Nat) (l : List S70) (w : World) (base : Nat) (ok : Nat → Prop) (h : Kd.R k70 70 w base ok (.slice A l.length c) l) (hb : w.heap[B]? = some (.cells #[.int .i64 g0] 3 (0, 0))) (hB : B < base) (hbs : base ≤ w.heap.size) (hl : l.length < 4398046511104) :
    Calls Try.prog 54 #[.slice A l.length c, .func (.func 55) #[] #[.pointer (some ⟨B, 0, none⟩)]] w fun e w' => ∃ v, e = .returned v ∧ Kd.R k70 70 w' base ok v (l.filter (fun p => !other g0 p)) ∧ Below base w w' := by
  have HR := Aside0.mk h
  have HB := Aside0.mk hb
  have KI := index_calls g0 B A c l w (Kd.R_reads' h).2.2 hb hl
  have HBS := Aside0.mk (And.intro hB hbs)
  have HL := Aside0.mk hl
  clear h hb hB hbs hl
  cases hi : l.findIdx? (other g0) with
  | none =>
    have HN : Aside0 (l.filter (fun p => !other g0 p) = l) := ⟨by
      rw [List.filter_eq_self]
      intro x hx
      rw [List.findIdx?_eq_none_iff.1 hi x hx]
      rfl⟩
    have e : idxO g0 l = -1 := by rw [idxO, hi]
    rw [e] at KI
    clear hi e
    go_enter Try.func54, Try.ntmps54
    go_wp2_with (go_at_call 77; refine KI.mono ?_; clear KI; rintro e w1 ⟨rfl, hb1⟩; have HB1 := Aside0.mk hb1; clear hb1)
    go_ret
    exact ⟨_, rfl, by rw [HN.out]; exact Kd.R_below HR.out HB1.out, HB1.out.mono HBS.out.2⟩
  | some i0 =>
    have e : idxO g0 l = (i0 : Int) := by rw [idxO, hi]
    rw [e] at KI
    obtain ⟨hlt, ho, hno⟩ := List.findIdx?_eq_some_iff_getElem.1 hi
    obtain ⟨g, cap, hv, hbg, hgl, cs, hcs⟩ := Kd.R_form HR.out (by omega)
    injection hv with hA _ hc
    subst hA
    subst hc
    have HG := Aside0.mk (And.intro hbg hgl)
    have hw1 : wrap64 ((i0 : Int) + 1) = ((i0 + 1 : Nat) : Int) := by have := HL.out; unfold wrap64; omega
    have hne : ((i0 : Int) == -1) = false := by simp
    have HD0 : Aside0 (Ldf g0 w base ok g l.length c l i0 (i0 + 1) w l) := ⟨⟨HR.out, by
      rw [List.take_add_one, List.getElem?_eq_getElem hlt, List.filter_append]
      have h1 : (l.take i0).filter (fun p => !other g0 p) = l.take i0 := by
        rw [List.filter_eq_self]
        intro x hx
        obtain ⟨j, hj, rfl⟩ := List.getElem_of_mem hx
        rw [List.length_take] at hj
        have := hno j (by omega)
        simpa using this
      rw [h1]
      simp [ho], rfl, Below.refl _ _⟩⟩
    have HLT := Aside0.mk hlt
    clear hi e ho hno hbg hgl hcs hlt
    go_enter Try.func54, Try.ntmps54
    go_wp2_with (go_at_call 77; refine KI.mono ?_; clear KI; rintro e w1 ⟨rfl, hb1⟩; have HD1 := Aside0.mk (HD0.out.keep hb1 HBS.out.2); clear hb1)
    rw [hw1]
    go_loopg [5, 6] l.length (fun kx s5 s6 wr => ∃ (i j : Nat) (d : List S70), s5 = .int .i64 i ∧ s6 = .int .i64 j ∧ l.length - j ≤ kx ∧ j ≤ l.length ∧ i < j ∧ Aside0 (Ldf g0 w base ok g l.length c l i j wr d))
    case atStart => exact ⟨i0, i0 + 1, l, rfl, rfl, by omega, HLT.out, by omega, HD1⟩
    case round =>
      clear HD0 HD1
      obtain ⟨i, j, d, rfl, rfl, hkx, hj, hij, HQ⟩ := hrel
      by_cases hlt : j < l.length
      · have hlz : ((j : Int) < (l.length : Int)) := by omega
        have hiz : (0 : Int) ≤ (j : Int) := by omega
        have hi0 : (0 : Int) ≤ (i : Int) := by omega
        have hi1 : (i : Int) < (l.length : Int) := by omega
        obtain ⟨z, hz, x0, x1, x2, x3, _, _, _, _⟩ := row_at HQ.out.row j hlt
        have HZ : Aside0 (l[j]? = some z) := ⟨by
          have h1 := congrArg (fun x => x[0]?) HQ.out.post
          simp only [List.getElem?_drop, Nat.add_zero] at h1
          rw [← h1]; exact hz⟩
        have hwj : wrap64 ((j : Int) + 1) = ((j + 1 : Nat) : Int) := by have := HL.out; unfold wrap64; omega
        have hwi : wrap64 ((i : Int) + 1) = ((i + 1 : Nat) : Int) := by have := HL.out; unfold wrap64; omega
        have hbz : wr.heap[B]? = some (.cells #[.int .i64 g0] 3 (0, 0)) := (HQ.out.bl.block B HBS.out.1).trans HB.out
        have hbb := (Below.refl wr.heap.size wr).alloc (Nat.le_refl _) (.cells #[.int .i64 z.f0, .int .i64 z.f1.f0, .int .i64 z.f1.f1, .int .i64 z.f2] 70)
        have KO := other_calls g0 z B _ (blk_below hbz hbb)
        have HBB := Aside0.mk hbb
        have HV := Aside0.mk (heap_alloc_new wr (.cells #[.int .i64 z.f0, .int .i64 z.f1.f0, .int .i64 z.f1.f1, .int .i64 z.f2] 70))
        have HI1 := Aside0.mk (And.intro hkx (And.intro hj (And.intro hij hlt)))
        have HBR : Aside0 (base ≤ wr.heap.size) := ⟨Nat.le_trans HBS.out.2 HQ.out.bl.size⟩
        clear hbz hbb hkx hj hij hlt hz
        cases hv : other g0 z with
        | true =>
          rw [hv] at KO
          go_wp2_with (go_at_call 55; refine KO.mono ?_; clear KO; rintro e w3 ⟨rfl, hb3⟩; have HB3 := Aside0.mk (HBB.out.trans (hb3.mono HBB.out.size)); clear hb3)
          rw [hwj]
          go_roundg (l.length - (j + 1))
          case measure => have := HI1.out; omega
          case rel => exact ⟨i, j + 1, d, rfl, rfl, Nat.le_refl _, HI1.out.2.2.2, by have := HI1.out; omega, ⟨(HQ.out.keep HB3.out HBR.out).skip HZ.out hv⟩⟩
        | false =>
          rw [hv] at KO
          go_wp2_with (
            go_at_call 55
            refine KO.mono ?_
            clear KO
            rintro e w3 ⟨rfl, hb3⟩
            have HB3 := Aside0.mk (HBB.out.trans (hb3.mono HBB.out.size))
            have HD3 := Aside0.mk (HQ.out.keep HB3.out HBR.out)
            have hv3 := blk_below HV.out hb3
            have v0 := (blk_cell hv3 0).trans rfl
            have v1 := (blk_cell hv3 1).trans rfl
            have v2 := (blk_cell hv3 2).trans rfl
            have v3 := (blk_cell hv3 3).trans rfl
            obtain ⟨y, _, y0, y1, y2, y3, f0, f1, f2, f3⟩ := row_at HD3.out.row i (by have := HI1.out; omega)
            clear hv3 hb3)
          rw [hwj, hwi]
          go_roundg (l.length - (j + 1))
          case measure => have := HI1.out; omega
          case rel => exact ⟨i + 1, j + 1, d.set i z, rfl, rfl, Nat.le_refl _, HI1.out.2.2.2, by have := HI1.out; omega, ⟨HD3.out.put HG.out.1 HI1.out.2.2.1 HI1.out.2.2.2 HZ.out hv⟩⟩
      · have hlz : ¬ ((j : Int) < (l.length : Int)) := by omega
        have hjn : j = l.length := by omega
        subst hjn
        have hcap := (Kd.R_reads' HQ.out.row).2.1
        have hdl := (Kd.R_reads' HQ.out.row).1
        have hic : ¬ c = i := by omega
        have hi0 : (0 : Int) ≤ (i : Int) := by omega
        have hi1 : (i : Int) ≤ (l.length : Int) := by omega
        have hi2 : i ≤ l.length := by omega
        have hi3 : i ≤ c := by omega
        have key : ∀ p, p < (l.length - i) * 4 → (wr.cell? ⟨g, i * 4 + p, none⟩).isSome = true ∧ wr.frozen? ⟨g, i * 4 + p, none⟩ = false := fun p hp => by
          have hx := R_cell HQ.out.row (j := i + p / 4) (c := p % 4) (by omega) (by omega)
          rw [show i * 4 + p = (i + p / 4) * 4 + p % 4 by omega]
          refine ⟨?_, hx.2⟩
          rw [hx.1, get_some (show p % 4 < (So.encP d[i + p / 4]).length from by show p % 4 < 4; omega)]
          rfl
        have hclr := fun ty => run_clear46 wr ty g (i * 4) (l.length - i) (c - i) (by omega) (fun p hp => (key p hp).1) (fun p hp => (key p hp).2)
        have HI1 := Aside0.mk (And.intro hi2 (And.intro hdl hcap))
        clear key hkx hj hij hlt hdl hcap
        go_wp2
        go_ret
        exact delF_end HG.out.1 HQ.out HI1.out.1
set_option maxHeartbeats 4000000 in
theorem Group_calls (h : IsS F N w q s) (g0 : Int) : Calls Try.prog 31 #[.pointer (some ⟨q, 0, none⟩), .int .i64 g0] w fun e w' => ∃ v, e = .returned v ∧ Kd.R k70 70 w' w.heap.size (fun _ => True) v ((sortP s.ps).filter (fun p => !other g0 p)) ∧ Below w.heap.size w w' := by
  have HBB := Aside0.mk ((Below.refl w.heap.size w).alloc (Nat.le_refl _) (.cells #[.int .i64 g0] 3))
  have HG := Aside0.mk (heap_alloc_new w (.cells #[.int .i64 g0] 3))
  have HI := Aside0.mk (h.below HBB.out)
  have HL := Aside0.mk (show (sortP s.ps).length < 4398046511104 by rw [sortP_len]; have h1 := h.len; have h2 := h.small; omega)
  have HS : Aside0 (w.heap.size < (w.alloc (.cells #[.int .i64 g0] 3)).heap.size) := ⟨by simp⟩
  clear h
  go_enter Try.func31, Try.ntmps31
  go_wp2_with (first
    | (go_at_call 21
       refine (Panes_calls HI.out).mono ?_
       rintro e w2 ⟨v2, rfl, hR2, hb2⟩
       obtain ⟨A2, c2, rfl⟩ := Kd.R_slice hR2
       have HR2 := Aside0.mk hR2
       have HB2 := Aside0.mk hb2
       clear hR2 hb2)
    | (go_at_call 54
       refine (delF_calls g0 w.heap.size A2 c2 _ _ _ _ HR2.out (blk_below HG.out HB2.out) HS.out HB2.out.size HL.out).mono ?_
       rintro e w3 ⟨v3, rfl, hR3, hb3⟩
       have HR3 := Aside0.mk hR3
       have HB3 := Aside0.mk hb3
       clear hR3 hb3))
  go_ret
  exact ⟨_, rfl, Kd.R_lower HR3.out HBB.out.size, (HBB.out.trans (HB2.out.mono HBB.out.size)).trans (HB3.out.mono HBB.out.size)⟩
end Go.Proofs.Ytjegeghigfmkoaa.T
namespace Go.Proofs.Ytjegeghigfmkoaa.T
open Go.RowKit Go.Maps Go.Sort Go.Proofs Go.Proofs.Ytjegeghigfmkoaa Go.Proofs.Ytjegeghigfmkoaa.X Go.Proofs.YtjegeghigfmkoaaW.PrintWords Go.Proofs.YtjegeghigfmkoaaW.PrintLast Go.Proofs.YtjegeghigfmkoaaW.PrintMore
set_option linter.unusedVariables false
set_option linter.unusedSimpArgs false
set_option maxRecDepth 100000
variable {F : Nat → Prop} {N : Nat} {w w' : World} {q b1 b2 : Nat} {tv : Value} {tm : List Int} {s : St}
structure Ro where
  kind : Int
  a : Int
  wk : Int
  ws : Int
  wl : Int
  mark : Int
  late : Int
  L : List S70
abbrev cellsO (v1 v5 vL : Value) (x2 x3 x4 : Int) (o : Ro) : Array Value := #[.int .i64 o.kind, v1, .int .i64 x2, .int .i64 x3, .int .i64 x4, v5, .int .i64 o.a, .int .i64 o.wk, .int .i64 o.ws, .int .i64 o.wl, vL, .int .i64 o.mark, .int .i64 o.late]
structure IsO (w0 : World) (G : Nat → Prop) (w : World) (g : Nat) (o : Ro) (v1 v5 vL : Value) (x2 x3 x4 : Int) : Prop where
  at_ : w.heap[g]? = some (.cells (cellsO v1 v5 vL x2 x3 x4 o) 46 (0, 0))
  row : Kd.R k70 70 w w0.heap.size (fun k => G k ∧ k ≠ g) vL o.L
  bl : Below w0.heap.size w0 w
  gG : G g
  gb : w0.heap.size ≤ g
  bound : ∀ k, G k → w0.heap.size ≤ k ∧ k < w.heap.size
theorem IsO.fr {w0 : World} {G M : Nat → Prop} {g : Nat} {o : Ro} {v1 v5 vL : Value} {x2 x3 x4 : Int} (h : IsO w0 G w g o v1 v5 vL x2 x3 x4) (hf : Fr M w w') (hM : ∀ k, M k → ¬ G k ∧ w0.heap.size ≤ k) : IsO w0 G w' g o v1 v5 vL x2 x3 x4 :=
  ⟨(hf.block g (h.bound g h.gG).2 (fun m => (hM g m).1 h.gG)).trans h.at_, Kd.R_step h.row (fun k hk hlt => hf.block k hlt (fun m => (hM k m).1 hk.1)), ⟨hf.os.trans h.bl.os, hf.tape.trans h.bl.tape, hf.output.trans h.bl.output, Nat.le_trans h.bl.size hf.size, fun k hk => (hf.block k (Nat.lt_of_lt_of_le hk h.bl.size) (fun m => by have := (hM k m).2; omega)).trans (h.bl.block k hk)⟩, h.gG, h.gb, fun k hk => ⟨(h.bound k hk).1, Nat.lt_of_lt_of_le (h.bound k hk).2 hf.size⟩⟩
theorem IsO.below {w0 : World} {G : Nat → Prop} {g : Nat} {o : Ro} {v1 v5 vL : Value} {x2 x3 x4 : Int} (h : IsO w0 G w g o v1 v5 vL x2 x3 x4) (hb : Below w.heap.size w w') : IsO w0 G w' g o v1 v5 vL x2 x3 x4 := h.fr (M := fun _ => False) (Fr.of_below hb) (fun _ m => m.elim)
theorem IsO.stored {w0 : World} {G : Nat → Prop} {g : Nat} {o : Ro} {v1 v5 vL v' : Value} {x2 x3 x4 : Int} (h : IsO w0 G w g o v1 v5 vL x2 x3 x4) {w2 : World} {L : List S70} (hf : Fr (fun k => G k ∧ k ≠ g) w w2) (hR : Kd.R k70 70 w2 w0.heap.size (fun k => (G k ∧ k ≠ g) ∨ w.heap.size ≤ k) v' L) :
    IsO w0 (Fx G w (w2.setCell ⟨g, 10, none⟩ v')) (w2.setCell ⟨g, 10, none⟩ v') g { o with L := L } v1 v5 v' x2 x3 x4 ∧ Fr G w (w2.setCell ⟨g, 10, none⟩ v') := by
  have hgl := (h.bound g h.gG).2
  have s2 := hf.size
  have hq : w2.heap[g]? = some (.cells (cellsO v1 v5 vL x2 x3 x4 o) 46 (0, 0)) := (hf.block g hgl (fun m => m.2 rfl)).trans h.at_
  have hsz : (w2.setCell ⟨g, 10, none⟩ v').heap.size = w2.heap.size := by simp [World.setCell]
  have fr : Fr G w (w2.setCell ⟨g, 10, none⟩ v') := (hf.mono (fun k _ hk => hk.1)).setCell (p := ⟨g, 10, none⟩) h.gG v'
  have hbw : Below w0.heap.size w0 (w2.setCell ⟨g, 10, none⟩ v') := ⟨fr.os.trans h.bl.os, fr.tape.trans h.bl.tape, fr.output.trans h.bl.output, Nat.le_trans h.bl.size fr.size, fun k hk => (fr.block k (Nat.lt_of_lt_of_le hk h.bl.size) (fun m => by have := (h.bound k m).1; omega)).trans (h.bl.block k hk)⟩
  refine ⟨⟨blk_set hq 10 v', ?_, hbw, Or.inl h.gG, h.gb, fun k hk => ?_⟩, fr⟩
  · refine Kd.R_mono (Kd.R_bound (Kd.R_far (p := ⟨g, 10, none⟩) hR (fun k hk e => ?_) v')) (fun k hk => ?_)
    · rcases hk with hk | hk
      · exact hk.2 e
      · have e : k = g := e
        omega
    · have hlt : k < (w2.setCell ⟨g, 10, none⟩ v').heap.size := hk.2.2.1
      rcases hk.1 with h1 | h1
      · exact ⟨Or.inl h1.1, h1.2⟩
      · exact ⟨Or.inr ⟨h1, hlt⟩, by omega⟩
  · rcases hk with hk | hk
    · exact ⟨(h.bound k hk).1, by have := (h.bound k hk).2; omega⟩
    · exact ⟨by have := h.bl.size; omega, hk.2⟩
theorem rec_end {w0 w3 w4 : World} {G : Nat → Prop} {g : Nat} {o : Ro} {v1 v5 vL v' : Value} {x2 x3 x4 : Int} {L : List S70} (h : IsO w0 G w g o v1 v5 vL x2 x3 x4) (hb : Below w.heap.size w w3) (h3 : IsO w0 G w3 g o v1 v5 vL x2 x3 x4) (hf : Fr (fun k => G k ∧ k ≠ g) w3 w4) (hR : Kd.R k70 70 w4 w0.heap.size (fun k => (G k ∧ k ≠ g) ∨ w3.heap.size ≤ k) v' L) :
    IsO w0 (Fx G w (w4.setCell ⟨g, 10, none⟩ v')) (w4.setCell ⟨g, 10, none⟩ v') g { o with L := L } v1 v5 v' x2 x3 x4 ∧ Fr G w (w4.setCell ⟨g, 10, none⟩ v') := by
  obtain ⟨h1, h2⟩ := h3.stored hf hR
  have s1 := hb.size
  refine ⟨⟨h1.at_, Kd.R_mono h1.row (fun k hk => ⟨?_, hk.2⟩), h1.bl, Or.inl h.gG, h.gb, fun k hk => ?_⟩, ((Fr.refl G w).below hb).trans h2⟩
  · rcases hk.1 with h | h
    · exact Or.inl h
    · exact Or.inr ⟨by omega, h.2⟩
  · rcases hk with hk | hk
    · exact h1.bound k (Or.inl hk)
    · exact ⟨by have := h.bl.size; omega, hk.2⟩
def Trc.T11 : Bool × List (List Nat × List Nat) := (true, [([], []), ([], []), ([], []), ([2], [2]), ([3], [3]), ([4], [4]), ([5], [5]), ([], []), ([7], [7]), ([8], [8]), ([9], [9]), ([], []), ([], []), ([1, 6, 10, 11, 12, 12], [1, 6, 10, 11, 12]), ([0, 0, 1, 2, 3, 4, 5, 6, 7, 8, 9, 10, 11, 12, 13], [0]), ([14, 0, 1, 2, 3, 4, 5, 6, 7, 8, 9, 10, 11, 12, 13], [14]), ([15, 13, 13, 0, 1, 2, 3, 4, 5, 6, 7, 8, 9, 10, 11, 12, 13], [13, 15])])
def Trc.B11 : List Nat := [0, 0, 0, 4, 12, 28, 60, 0, 128, 384, 896, 0, 0, 8190, 16383, 32767, 65535]
theorem Trc.tab11 : rtab .any (opsOf Try.f16 11) = Trc.T11 := by kernel_rfl
theorem Trc.bits11 : waitsOk Trc.T11.2 Trc.B11 = true := by kernel_rfl
end Go.Proofs.Ytjegeghigfmkoaa.T
namespace Go.Proofs.Ytjegeghigfmkoaa.T
open Go.RowKit Go.Maps Go.Sort Go.Proofs Go.Proofs.Ytjegeghigfmkoaa Go.Proofs.Ytjegeghigfmkoaa.X Go.Proofs.YtjegeghigfmkoaaW.PrintWords Go.Proofs.YtjegeghigfmkoaaW.PrintLast Go.Proofs.YtjegeghigfmkoaaW.PrintMore
set_option linter.unusedVariables false
set_option linter.unusedSimpArgs false
set_option maxRecDepth 100000
variable {F : Nat → Prop} {N : Nat} {w w' : World} {q b1 b2 : Nat} {tv : Value} {tm : List Int} {s : St}
structure Lw (w0 : World) (G : Nat → Prop) (w w2 : World) (g : Nat) (o : Ro) (v1 v5 : Value) (x2 x3 x4 : Int) (r : S39) (A : Option Addr) (sp : List S68) (Lf : Nat → List S70) (i : Nat) (wr : World) (G1 : Nat → Prop) (vL : Value) : Prop where
  is : IsO w0 G1 wr g { o with L := Lf i } v1 v5 vL x2 x3 x4
  fr : Fr G w2 wr
  old : ∀ k, G1 k → G k ∨ w2.heap.size ≤ k
  hR : wr.heap[w.heap.size]? = some (.cells #[.int .i64 r.f0, .int .i64 r.f1, .int .i64 r.f2] 39 (0, 0))
  row : Kd.F k68 wr (fun k => w.heap.size < k ∧ k < w2.heap.size) A sp.length sp
theorem Lw.next {w0 : World} {G G1 : Nat → Prop} {w2 wr w3 w4 : World} {g : Nat} {o : Ro} {v1 v5 vL v' : Value} {x2 x3 x4 : Int} {r : S39} {A : Option Addr} {sp : List S68} {Lf : Nat → List S70} {i : Nat} (h : Lw w0 G w w2 g o v1 v5 x2 x3 x4 r A sp Lf i wr G1 vL) (hG : ∀ k, G k → k < w.heap.size) (hw2 : w.heap.size < w2.heap.size)
    (hb : Below wr.heap.size wr w3) (hf : Fr (fun k => G1 k ∧ k ≠ g) w3 w4) (hR : Kd.R k70 70 w4 w0.heap.size (fun k => (G1 k ∧ k ≠ g) ∨ w3.heap.size ≤ k) v' (Lf (i + 1))) :
    Lw w0 G w w2 g o v1 v5 x2 x3 x4 r A sp Lf (i + 1) (w4.setCell ⟨g, 10, none⟩ v') (Fx G1 wr (w4.setCell ⟨g, 10, none⟩ v')) v' := by
  obtain ⟨h1, h2⟩ := rec_end h.is hb (h.is.below hb) hf hR
  have s1 := h.fr.size
  have hrl := lt_of_block h.hR
  have nG1 : ∀ k, k < w2.heap.size → w.heap.size ≤ k → ¬ G1 k := fun k hk hk2 hg => by
    rcases h.old k hg with h | h
    · have := hG k h; omega
    · omega
  refine ⟨h1, h.fr.mix h.old h2 (Fr.refl (fun _ => False) _) (fun _ h => h.elim), fun k hk => ?_, (h2.block _ hrl (nG1 _ hw2 (Nat.le_refl _))).trans h.hR, Kd.F_step h.row (fun k hk hlt => h2.block k hlt (nG1 k hk.2 (Nat.le_of_lt hk.1)))⟩
  rcases hk with hk | hk
  · exact h.old k hk
  · exact Or.inr (by omega)
end Go.Proofs.Ytjegeghigfmkoaa.T
namespace Go.Proofs.Ytjegeghigfmkoaa.T
open Go.RowKit Go.Maps Go.Sort Go.Proofs Go.Proofs.Ytjegeghigfmkoaa Go.Proofs.Ytjegeghigfmkoaa.X Go.Proofs.YtjegeghigfmkoaaW.PrintWords Go.Proofs.YtjegeghigfmkoaaW.PrintLast Go.Proofs.YtjegeghigfmkoaaW.PrintMore
set_option linter.unusedVariables false
set_option linter.unusedSimpArgs false
set_option maxRecDepth 100000
variable {F : Nat → Prop} {N : Nat} {w w' : World} {q b1 b2 : Nat} {tv : Value} {tm : List Int} {s : St}
theorem puts_one {kind a key val : Int} {ps ps' : List S70} {sp : S68} (h : Puts kind a key val ps [sp] ps') : IntoS kind a key val sp ps ps' := by
  generalize hl : [sp] = l at h
  cases h with
  | nil => cases hl
  | @snoc sps sp' ps1 _ h k =>
    have hl2 := hl
    rcases sps with _ | ⟨x, r⟩
    · simp at hl
      subst hl
      generalize hn : ([] : List S68) = e at h
      cases h with
      | nil => exact k
      | snoc h2 k2 => simp at hn
    · simp at hl
theorem fit10 : Th.Fit 1 10 0 := ⟨by omega, by omega, by omega, by omega, fun h => absurd h (by omega), fun _ => rfl⟩
theorem sp10 (t : Int) (ht : 0 ≤ t ∧ t < 10) : SpS 1 10 0 t [⟨0, 10⟩] := by
  refine Or.inr ⟨by omega, ?_⟩
  have h := Th.spans_ev fit10 (t := t) ⟨by omega, by omega⟩
  have e : Th.spansP 1 10 0 t = [⟨0, 10⟩] := by
    have : Th.fl t 10 = 0 := by unfold Th.fl; omega
    unfold Th.spansP
    rw [if_pos rfl, this]
    rfl
  rw [e] at h
  obtain ⟨k, hk⟩ := h
  exact ⟨k, hk k (Nat.le_refl _)⟩
def p5 : S70 := ⟨1, ⟨0, 10⟩, 5⟩
def p7 : S70 := ⟨1, ⟨0, 10⟩, 7⟩
theorem into1 {ps' : List S70} (h : IntoS 1 1 1 5 ⟨0, 10⟩ [] ps') : ps' = [p5] := by
  unfold IntoS at h
  rw [if_neg (by decide)] at h
  rw [h]
  kernel_rfl
theorem into2 {ps' : List S70} (h : IntoS 1 1 1 2 ⟨0, 10⟩ [p5] ps') : ps' = [p7] := by
  unfold IntoS at h
  rw [if_neg (by decide)] at h
  rw [h]
  kernel_rfl
theorem sort1 (p : S70) : sortP [p] = [p] := Th.sortP_same (List.pairwise_singleton _ _)
theorem p7_64 : P64 p7 := ⟨by unfold I64 p7; decide, by unfold I64 p7; decide, by unfold I64 p7; decide, by unfold I64 p7; decide⟩
theorem b7_len : (bytesB [p7]).length = 36 := by rw [bytesB_len]; rfl
theorem read7 : readB (bytesB [p7]) = [p7] := by
  unfold readB
  rw [b7_len]
  have e : (bytesB [p7]).drop 4 = panesB [p7] := by
    unfold bytesB
    rw [List.drop_append, numB_len, List.drop_eq_nil_of_le (by rw [numB_len]; omega)]
    rfl
  rw [e]
  exact parse_B [p7] (fun p hp => by rw [List.mem_singleton.1 hp]; exact p7_64)
theorem load7 : loadL 1 [p7] = [p7] := by kernel_rfl
theorem open7 : openL 1 1 (bytesB [p7]) = [p7] := by
  rw [openL, read7, loadOf, if_neg (by decide), load7]
theorem ok7 : OpenOk 1 1 (bytesB [p7]) := by
  refine ⟨⟨by rw [b7_len]; omega, by rw [b7_len]⟩, ?_⟩
  rw [open7, sort1]
theorem no7 (b : List Int) (h : b.length = 18) : ¬ OpenOk 1 1 b := fun h2 => by
  have := h2.1.2
  omega
theorem fired7 : firedR ⟨1, 10, 0, 1, [p7]⟩ 9 = [⟨1, 9, 7⟩] := by
  unfold firedR
  rw [sort1]
  kernel_rfl
theorem left7 : firedL ⟨1, 10, 0, 1, [p7]⟩ 9 = [] := by
  unfold firedL
  rw [sort1]
  have : Th.leftR 9 [p7] = [] := by kernel_rfl
  rw [this]
  rfl
theorem idle7 : ¬ Idle ⟨1, 10, 0, 1, [p7]⟩ 9 := fun h => by
  rcases h with ⟨h, _⟩ | h
  · cases h
  · have h := h p7 (List.mem_singleton.2 rfl)
    have e : lastP p7 = 9 := by kernel_rfl
    omega
theorem R_one39 (w : World) (B : Nat) (hB : B ≤ w.heap.size) (x : S39) : Kd.R k39 39 (w.alloc (.cells #[.int .i64 x.f0, .int .i64 x.f1, .int .i64 x.f2] 39)) B (fun _ => True) (.slice (some ⟨w.heap.size, 0, none⟩) 1 1) [x] :=
  ⟨fun _ _ => trivial, _, World.ownsRow_lit (e := 39) (size := 3) w #[.int .i64 x.f0, .int .i64 x.f1, .int .i64 x.f2] 1 hB (by unfold maxLen; omega) rfl, Reps.c3 (k39_mkM _ _ _ x) (Reps.none _ _)⟩
theorem IsS.wide {w1 wa wb : World} {N' : Nat} {s' : St} (h : To (fun k => w1.heap.size ≤ k ∧ k < wa.heap.size) wa wb N' q s') (h1 : w1.heap.size ≤ wa.heap.size) : IsS (fun k => w1.heap.size ≤ k ∧ k < wb.heap.size) N' wb q s' :=
  h.is.mono (fun k hk => by
    have := h.fr.size
    rcases hk with hk | hk
    · exact ⟨hk.1, by omega⟩
    · exact ⟨by omega, hk.2⟩) (fun k hk => hk.2) (Nat.le_refl _) h.is.small
def Tkn.T11 : Bool × List (List Nat × List Nat) := (true, [([], []), ([], []), ([], []), ([2], [2]), ([3], [3]), ([1, 4], [1, 4]), ([0, 5], [0, 5]), ([6], [6]), ([7], [7]), ([7], [7]), ([8, 6, 0, 1, 2, 3, 4, 5, 6, 7, 8], [8]), ([9, 10, 0, 1, 2, 3, 4, 5, 6, 7, 8, 9, 10], [9])])
def Tkn.B11 : List Nat := [0, 0, 0, 4, 12, 30, 63, 127, 255, 255, 511, 2047]
theorem Tkn.tab11 : rtab .any (opsOf Try.f9 11) = Tkn.T11 := by kernel_rfl
theorem Tkn.bits11 : waitsOk Tkn.T11.2 Tkn.B11 = true := by kernel_rfl
set_option maxHeartbeats 8000000 in
theorem known_calls (w : World) : Calls Try.prog 9 #[] w fun e w' => e = .returned (.bool true) ∧ Below w.heap.size w w' := by
  go_enter Try.func9, Try.ntmps9
  go_wp2_with fail
  have HW1 := Aside0.mk (heap_alloc_new w (.cells #[.int .i64 1, .int .i64 10, .int .i64 0] 23))
  have HB1 := Aside0.mk ((Below.refl w.heap.size w).alloc (Nat.le_refl _) (.cells #[.int .i64 1, .int .i64 10, .int .i64 0] 23))
  generalize (w.alloc (.cells #[.int .i64 1, .int .i64 10, .int .i64 0] 23)) = w1 at HW1 HB1 ⊢
  go_wp2_with (first
    | (go_at_call 11
       refine (New_calls w1 1 10 0 1).mono ?_
       rintro e w2 ⟨q, rfl, hI, hb⟩
       have HI2 := Aside0.mk hI
       have HB2 := Aside0.mk hb
       clear hI hb)
    | (go_at_call 15
       refine (Put_calls HI2.out ⟨1, 3, 5⟩ (by unfold I64; decide) [⟨0, 10⟩] (sp10 3 (by decide)) (by intro x hx; rw [List.mem_singleton.1 hx]; unfold I64; decide) (by decide) (by decide)).mono ?_
       rintro e w3 ⟨rfl, N3, ps3, hto, hN, hp⟩
       obtain rfl := into1 (puts_one hp)
       have HB3 := Aside0.mk (HB2.out.trans (hto.fr.toBelow (B := w1.heap.size) HB2.out.size (fun k _ hk => hk.1)))
       have HI3 := Aside0.mk (IsS.wide hto HB2.out.size)
       have HN3 := Aside0.mk hN
       clear hto hN hp HI2 HB2)
    | (go_at_call 15
       refine (Put_calls HI3.out ⟨1, 7, 2⟩ (by unfold I64; decide) [⟨0, 10⟩] (sp10 7 (by decide)) (by intro x hx; rw [List.mem_singleton.1 hx]; unfold I64; decide) (by decide) (by have h : N3 + [p5].length ≤ 0 + 0 + 2 * 1 := HN3.out; show N3 + [p5].length + 128 ≤ _; omega)).mono ?_
       rintro e w4 ⟨rfl, N4, ps4, hto, hN, hp⟩
       obtain rfl := into2 (puts_one hp)
       have HB4 := Aside0.mk (HB3.out.trans (hto.fr.toBelow (B := w1.heap.size) HB3.out.size (fun k _ hk => hk.1)))
       have HI4 := Aside0.mk (IsS.wide hto HB3.out.size)
       clear hto hN hp HI3 HB3)
    | (go_at_call 21
       refine (Panes_calls HI4.out).mono ?_
       rintro e w5 ⟨v5, rfl, hR, hb⟩
       rw [sort1] at hR
       obtain ⟨A5, c5, rfl⟩ := Kd.R_slice hR
       have HF5 := Aside0.mk (Kd.F_mono (Kd.R_F (Kd.R_bound hR)) (fun k hk => (And.intro hk.2.1 hk.2.2.1 : w4.heap.size ≤ k ∧ k < w5.heap.size)))
       have HB5 := Aside0.mk hb
       clear hR hb)
    | (go_at_call 29
       refine (Next_calls (HI4.out.below HB5.out)).mono ?_
       rintro e w6 ⟨t, b, rfl, hn, hto⟩
       have ht : t = 9 ∧ b = true := by
         rcases hn with ⟨_, _, h⟩ | ⟨h1, ⟨p, hp, h2⟩, _⟩
         · cases h
         · rw [List.mem_singleton.1 hp] at h2
           exact ⟨h2.symm.trans (by kernel_rfl), h1⟩
       obtain ⟨rfl, rfl⟩ := ht
       have HTO := Aside0.mk hto
       have HF6 := Aside0.mk (Kd.F_step HF5.out (fun k hk hlt => hto.fr.block k hlt (fun h => by have := hk.1; have := h.2; omega)))
       clear hn hto HF5)
    | (go_at_call 23
       refine (Bytes_calls HTO.out.is).mono ?_
       rintro e w7 ⟨v7, rfl, hR, hb⟩
       rw [sort1] at hR
       obtain ⟨A7, c7, rfl⟩ := Kd.R_slice hR
       have HR7 := Aside0.mk hR
       have HB7 := Aside0.mk hb
       have hlt1 := lt_of_block HW1.out
       have hw4 := (HB4.out.block _ hlt1).trans HW1.out
       have hw5 := blk_below hw4 HB5.out
       have hw6 := (HTO.out.fr.block _ (lt_of_block hw5) (fun h => by have := h.1; omega)).trans hw5
       have hw7 := blk_below hw6 hb
       have HW7 := Aside0.mk hw7
       have u0 := (blk_cell hw7 0).trans rfl
       have u1 := (blk_cell hw7 1).trans rfl
       have u2 := (blk_cell hw7 2).trans rfl
       rw [b7_len]
       clear hR hb hw4 hw5 hw6 hw7 hlt1)
    | (go_at_call 22
       have KO := Open_calls w7 1 10 0 1 A7 c7 _ (Kd.R_reads' HR7.out).2.2 (Kd.R_reads' HR7.out).2.1 (by rw [b7_len]; decide) (bytesB_8 _)
       rw [b7_len] at KO
       refine KO.mono ?_
       clear KO
       rintro e w8 ⟨hb8, h8⟩
       rcases h8 with ⟨h8, _⟩ | ⟨_, q8, N8, rfl, _, h8⟩
       · exact absurd ok7 h8
       rw [open7] at h8
       have HT8 := Aside0.mk h8
       have HB8 := Aside0.mk hb8
       clear h8 hb8)
    | fail)
  have hb8 := HB8.out
  have hw8 := blk_below HW7.out hb8
  refine start_ (n := 12) (S := fun w' => w'.cell? ⟨w.heap.size, 0, none⟩ = some (.int .i64 1) ∧ w'.cell? ⟨w.heap.size, 1, none⟩ = some (.int .i64 10) ∧ w'.cell? ⟨w.heap.size, 2, none⟩ = some (.int .i64 0)) (ds := []) #[false, false, false, false, false, false, false, false, false, false, false, false] (by kernel_rfl) rfl rfl ⟨(blk_cell (blk_drew hw8) 0).trans rfl, (blk_cell (blk_drew hw8) 1).trans rfl, (blk_cell (blk_drew hw8) 2).trans rfl⟩ (fun hHeld => ?_); refine with_tabW Tkn.tab11 Tkn.bits11 (fun HT_ HW_ => ?_)
  have HB9 := Aside0.mk (below_drew hb8)
  have HT9 := Aside0.mk (HT8.out.below (below_drew (Below.refl _ _)))
  have HW9 := Aside0.mk (blk_drew hw8)
  have hc36 : 36 ≤ c7 := by have := (Kd.R_reads' HR7.out).2.1; rw [b7_len] at this; exact this
  have hc18 : 18 ≤ c7 := by omega
  clear hb8 hw8 HB8
  generalize hw9 : World.drew w8 = w9 at HB9 HT9 HW9 hHeld ⊢
  have h18 : wrap64 18 = 18 := by kernel_rfl
  have hsl : ∀ W, (Instr.slice 58 (.slice A7 36 c7) none (some (.int .i64 18)) none).run Try.prog W = .ok (.slice A7 18 c7) W := fun W => to_run A7 36 c7 18 (by decide) hc36 W
  refine take_ (i := 0) (N := some 39) (v := ?_) (a' := ?_) #[true, false, false, false, false, false, false, false, false, false, false, false] rfl rfl (take_ofW HT_.out HW_.out (by kernel_rfl)) (fun _ _ _ h => h) (Or.inl ⟨by rfl, ?_⟩) hHeld ?_ ?_
  rotate_left
  · rintro w' ⟨s0, s1, s2⟩
    go_simp
    with_reducible rfl
  rotate_left
  · simp only [Act.put, List.setIfInBounds_toArray, List.set_cons_zero, List.set_cons_succ, i64_w, i32_w]
    rfl
  refine pure_ (i := 1) (N := some 40) (v := ?_) (a' := ?_) #[true, true, false, false, false, false, false, false, false, false, false, false] rfl rfl (any_of HT_.out (by kernel_rfl)) (fun _ _ _ h => h) (Or.inl ⟨by rfl, ?_⟩) ?_ ?_
  rotate_left
  · intro w'
    go_simp
    with_reducible rfl
  rotate_left
  · simp only [Act.put, List.setIfInBounds_toArray, List.set_cons_zero, List.set_cons_succ, i64_w, i32_w]
    rfl
  refine pure_ (i := 2) (N := some 41) (v := ?_) (a' := ?_) #[true, true, true, false, false, false, false, false, false, false, false, false] rfl rfl (any_of HT_.out (by kernel_rfl)) (fun _ _ _ h => h) (Or.inl ⟨by rfl, ?_⟩) ?_ ?_
  rotate_left
  · intro w'
    go_simp
    with_reducible rfl
  rotate_left
  · simp only [Act.put, List.setIfInBounds_toArray, List.set_cons_zero, List.set_cons_succ, i64_w, i32_w]
    rfl
  refine pure_ (i := 3) (N := some 42) (v := ?_) (a' := ?_) #[true, true, true, true, false, false, false, false, false, false, false, false] rfl rfl (any_of HT_.out (by kernel_rfl)) (fun _ _ _ h => h) (Or.inl ⟨by rfl, ?_⟩) ?_ ?_
  rotate_left
  · intro w'
    go_simp
    with_reducible rfl
  rotate_left
  · simp only [Act.put, List.setIfInBounds_toArray, List.set_cons_zero, List.set_cons_succ, i64_w, i32_w]
    rfl
  refine pure_ (i := 4) (N := some 43) (v := ?_) (a' := ?_) #[true, true, true, true, true, false, false, false, false, false, false, false] rfl rfl (any_of HT_.out (by kernel_rfl)) (fun _ _ _ h => h) (Or.inl ⟨by rfl, ?_⟩) ?_ ?_
  rotate_left
  · intro w'
    go_simp
    with_reducible rfl
  rotate_left
  · simp only [Act.put, List.setIfInBounds_toArray, List.set_cons_zero, List.set_cons_succ, i64_w, i32_w]
    rfl
  refine pure_ (i := 5) (N := some 44) (v := ?_) (a' := ?_) #[true, true, true, true, true, true, false, false, false, false, false, false] rfl rfl (any_of HT_.out (by kernel_rfl)) (fun _ _ _ h => h) (Or.inl ⟨by rfl, ?_⟩) ?_ ?_
  rotate_left
  · intro w'
    go_simp
    with_reducible rfl
  rotate_left
  · simp only [Act.put, List.setIfInBounds_toArray, List.set_cons_zero, List.set_cons_succ, i64_w, i32_w]
    rfl
  have len18 : ((bytesB [p7]).take 18).length = 18 := by rw [List.length_take, b7_len]; rfl
  have KO := Open_calls w9 1 10 0 1 A7 c7 ((bytesB [p7]).take 18) (Kd.C_take (Kd.C_below (Kd.R_reads' HR7.out).2.2 HB9.out) (by rw [b7_len]; decide)) (by rw [len18]; exact hc18) (by rw [len18]; decide) (fun x hx => bytesB_8 _ x (List.mem_of_mem_take hx))
  have KO := KO.mono (R' := fun e w' => e = .returned (.tuple #[.pointer none, .int .i64 120]) ∧ Below w9.heap.size w9 w') (fun e w' h => ⟨by
    rcases h.2 with h2 | h2
    · exact h2.2
    · exact absurd h2.1 (no7 _ len18), h.1⟩)
  rw [len18] at KO
  clear h18 hsl
  refine one_ (i := 6) (N := some 45) #[true, true, true, true, true, true, true, false, false, false, false, false] rfl rfl (one_of HT_.out (by kernel_rfl)) (by decide) (fun K hK => ?_)
  refine goes_ Try.func22 (by kernel_rfl) rfl #[aggW 1 10 0, .int .i64 1, .slice A7 18 c7] (by rfl) rfl rfl (by (try simp only [List.map_toArray, List.map_cons, List.map_nil]); first | done | rfl) ?_
  refine (KO).mono ?_
  rintro e w10 ⟨rfl, hb10⟩
  refine ⟨_, rfl, ?_⟩
  have HB10 := Aside0.mk hb10
  have hw10 := blk_below HW9.out hb10
  refine hK.out _ _ ⟨(blk_cell hw10 0).trans rfl, (blk_cell hw10 1).trans rfl, (blk_cell hw10 2).trans rfl⟩ (fun hHeld => ?_)
  clear hK K
  refine norm_ (a' := ?_) ?_ ?_
  rotate_left
  · show Act.put _ (some 45) _ = _
    simp only [Act.put, List.setIfInBounds_toArray, List.set_cons_zero, List.set_cons_succ, i64_w, i32_w]
    rfl
  refine pure_ (i := 7) (N := some 38) (v := ?_) (a' := ?_) #[true, true, true, true, true, true, true, true, false, false, false, false] rfl rfl (any_of HT_.out (by kernel_rfl)) (fun _ _ _ h => h) (Or.inl ⟨by rfl, ?_⟩) ?_ ?_
  rotate_left
  · intro w'
    go_simp
    with_reducible rfl
  rotate_left
  · simp only [Act.put, List.setIfInBounds_toArray, List.set_cons_zero, List.set_cons_succ, i64_w, i32_w]
    rfl
  refine pure_ (i := 8) (N := some 46) (v := ?_) (a' := ?_) #[true, true, true, true, true, true, true, true, true, false, false, false] rfl rfl (any_of HT_.out (by kernel_rfl)) (fun _ _ _ h => h) (Or.inl ⟨by rfl, ?_⟩) ?_ ?_
  rotate_left
  · intro w'
    go_simp
    with_reducible rfl
  rotate_left
  · simp only [Act.put, List.setIfInBounds_toArray, List.set_cons_zero, List.set_cons_succ, i64_w, i32_w]
    rfl
  refine pure_ (i := 9) (N := some 47) (v := ?_) (a' := ?_) #[true, true, true, true, true, true, true, true, true, true, false, false] rfl rfl (any_of HT_.out (by kernel_rfl)) (fun _ _ _ h => h) (Or.inl ⟨by rfl, ?_⟩) ?_ ?_
  rotate_left
  · intro w'
    go_simp
    with_reducible rfl
  rotate_left
  · simp only [Act.put, List.setIfInBounds_toArray, List.set_cons_zero, List.set_cons_succ, i64_w, i32_w]
    rfl
  refine pure_ (i := 10) (N := some 9) (v := ?_) (a' := ?_) #[true, true, true, true, true, true, true, true, true, true, true, false] rfl rfl (any_of HT_.out (by kernel_rfl)) (fun _ _ _ h => h) (Or.inl ⟨by rfl, ?_⟩) ?_ ?_
  rotate_left
  · intro w'
    go_simp
    with_reducible rfl
  rotate_left
  · simp only [Act.put, List.setIfInBounds_toArray, List.set_cons_zero, List.set_cons_succ, i64_w, i32_w]
    rfl
  refine pure_ (i := 11) (N := some 10) (v := ?_) (a' := ?_) #[true, true, true, true, true, true, true, true, true, true, true, true] rfl rfl (any_of HT_.out (by kernel_rfl)) (fun _ _ _ h => h) (Or.inl ⟨by rfl, ?_⟩) ?_ ?_
  rotate_left
  · intro w'
    go_simp
    with_reducible rfl
  rotate_left
  · simp only [Act.put, List.setIfInBounds_toArray, List.set_cons_zero, List.set_cons_succ, i64_w, i32_w]
    rfl
  refine done_ (done_of HT_.out (by kernel_rfl)) ?_
  clear KO len18 hb10 hw10 hHeld
  go_wp2_with (first
    | (go_at_call 19
       have hI10 := (((HTO.out.is.below HB7.out).below (HB9.out)).below HB10.out)
       refine (Fire_calls hI10 9).mono ?_
       rintro e w11 ⟨v11, out, N11, ps11, rfl, hR, hto, _, h11⟩
       rcases h11 with ⟨h11, _⟩ | ⟨_, rfl, rfl⟩
       · exact absurd h11 idle7
       have HX := Aside0.mk hR
       rw [fired7] at hR
       rw [left7] at hto
       obtain ⟨A11, c11, rfl⟩ := Kd.R_slice hR
       have HR11 := Aside0.mk hR
       have HT11 := Aside0.mk hto
       have hF11 := Kd.F_step (Kd.F_below (Kd.F_below (Kd.F_below HF6.out HB7.out) HB9.out) HB10.out) (fun k hk hlt => hto.fr.block k hlt (fun h => by
         rcases h with h | h
         · have := h.2; have := hk.1; omega
         · have := h.1; have := hk.2; omega))
       obtain ⟨ad, rfl, x0, x1, x2, x3⟩ := at_T70 (Kd.F_now hF11) 0 (by decide) (by decide)
       have ea : ad.add ((0 : Int).toNat * 4) = ad := add0 ad
       rw [ea] at x0 x1 x2 x3
       have HTT : Aside0 (IsS (fun k => w7.heap.size ≤ k ∧ k < w8.heap.size) N8 w11 q8 ⟨1, 10, 0, 1, [p7]⟩) := ⟨(HT9.out.below HB10.out).fr hto.fr (fun k hk h => by
         rcases hk with hk | hk
         · have := hk.2; have := h.1; have := HB5.out.size; have := HTO.out.fr.size; have := HB7.out.size; omega
         · have := h.1; have := hk.2; have := HB7.out.size; omega)⟩
       have KT := Len_st HTT.out
       dsimp only at KT
       clear hI10 hR hto HX hF11 ea)
    | (go_at_call 26; refine KT.mono ?_; clear KT; rintro e w12 ⟨rfl, rfl⟩)
    | (go_at_call 26; refine KS.mono ?_; clear KS; rintro e w12 ⟨rfl, rfl⟩)
    | (go_at_call 18
       obtain ⟨k, hk⟩ := Th.records_ev [⟨1, 9, 7⟩] (by decide)
       have hn := R_one39 w12 w12.heap.size (Nat.le_refl _) ⟨1, 9, 7⟩
       refine (leathelp_Records.calls k A11 c11 [⟨1, 9, 7⟩] _ _ [⟨1, 9, 7⟩] true _ (Kd.C_alloc (Kd.R_reads' HR11.out).2.2 _) (Kd.R_reads' HR11.out).2.1 (Kd.R_reads' hn).2.2 (Kd.R_reads' hn).2.1 (hk k (Nat.le_refl _))).mono ?_
       rintro e w14 ⟨rfl, hd⟩
       have HD := Aside0.mk hd.below
       have KS := Len_st ((HT11.out.is.below ((Below.refl w12.heap.size w12).alloc (Nat.le_refl _) (.cells #[.int .i64 1, .int .i64 9, .int .i64 7] 39))).below HD.out)
       dsimp only at KS
       clear hk hn hd)
    | fail)
  go_ret
  refine ⟨rfl, ?_⟩
  have b1 := HB1.out
  have s1 := b1.size
  have b4 := b1.trans (HB4.out.mono b1.size)
  have b5 := b4.trans (HB5.out.mono b4.size)
  have s5 := b5.size
  have b6 := b5.trans (HTO.out.fr.toBelow (B := w.heap.size) b5.size (fun k _ h => by have := h.1; omega))
  have b7 := b6.trans (HB7.out.mono b6.size)
  have b9 := b7.trans (HB9.out.mono b7.size)
  have b10 := b9.trans (HB10.out.mono b9.size)
  have b12 := b10.trans (HT11.out.fr.toBelow (B := w.heap.size) b10.size (fun k _ h => by
    rcases h with h | h
    · have := h.1; omega
    · have := h.1; omega))
  have b13 := b12.alloc b12.size (.cells #[.int .i64 1, .int .i64 9, .int .i64 7] 39)
  exact b13.trans (HD.out.mono b13.size)
end Go.Proofs.Ytjegeghigfmkoaa.T
namespace Go.Proofs.Ytjegeghigfmkoaa.T
open Go.RowKit Go.Maps Go.Sort Go.Proofs Go.Proofs.Ytjegeghigfmkoaa Go.Proofs.Ytjegeghigfmkoaa.X Go.Proofs.YtjegeghigfmkoaaW.PrintWords Go.Proofs.YtjegeghigfmkoaaW.PrintLast Go.Proofs.YtjegeghigfmkoaaW.PrintMore
set_option linter.unusedVariables false
set_option linter.unusedSimpArgs false
set_option maxRecDepth 100000
variable {F : Nat → Prop} {N : Nat} {w w' : World} {q b1 b2 : Nat} {tv : Value} {tm : List Int} {s : St}
theorem fit_any (kind size slide a : Int) : ∃ b : Bool, (b = true → Th.FitA kind size slide a) ∧ ∀ W, Calls Try.prog 10 #[aggW kind size slide, .int .i64 a] W fun e w' => e = .returned (.bool b) ∧ Below W.heap.size W w' := by
  obtain ⟨b, hb, k, hk⟩ := Th.fit_sp kind size slide a
  exact ⟨b, hb, fun W => leatlaw12_fit.calls k kind size slide a b W (hk k (Nat.le_refl _))⟩
theorem time_any (t : Int) (W : World) : Calls Try.prog 14 #[.int .i64 t] W fun e w' => e = .returned (.bool (decide (Th.TimeOk t))) ∧ Below W.heap.size W w' :=
  (leatlaw12_time.calls t _ W (Th.time_eq t)).mono fun e w' h => ⟨h.1, h.2.below⟩
def spansS (kind size slide t : Int) : List S68 := if kind = 0 then [⟨-9223372036854775808, 2199023255553⟩] else Th.spansP kind size slide t
theorem back_bounds (size slide t : Int) (hs : 1 ≤ slide) : ∀ (n : Nat) (s : Int), s ≤ t → ∀ x ∈ Th.backL size slide t n s, x.f0 ≤ t ∧ t < x.f0 + size ∧ x.f1 = x.f0 + size
  | 0, _, _, x, hx => by cases hx
  | n + 1, s, h, x, hx => by
    rw [Th.backL] at hx
    split at hx
    · rename_i hc
      rcases List.mem_cons.1 hx with rfl | hx
      · exact ⟨h, hc, rfl⟩
      · exact back_bounds size slide t hs n (s - slide) (by omega) x hx
    · cases hx
theorem sp_bounds {kind size slide t : Int} (hf : Th.Fit kind size slide) : ∀ x ∈ Th.spansP kind size slide t, x.f0 ≤ t ∧ t < x.f0 + size ∧ x.f1 = x.f0 + size := by
  have h1 := hf.s1
  unfold Th.spansP
  intro x hx
  split at hx
  · rw [List.mem_singleton.1 hx]
    have := Th.fl_bounds t size h1
    exact ⟨this.1, by show t < Th.fl t size + size; omega, rfl⟩
  · split at hx
    · rw [List.mem_singleton.1 hx]
      exact ⟨Int.le_refl _, by show t < t + size; omega, rfl⟩
    · have hk : kind = 2 := by have := hf.k1; have := hf.k3; omega
      have hsl := hf.sl hk
      have := Th.fl_bounds t slide hsl.1
      exact back_bounds size slide t hsl.1 64 _ this.1 x (List.mem_reverse.1 hx)
theorem spansS_64 {kind size slide a t : Int} (hf : Th.FitA kind size slide a) (ht : Th.TimeOk t) : ∀ x ∈ spansS kind size slide t, (I64 x.f0 ∧ I64 x.f1) ∧ x.f0 < x.f1 ∧ -9223372036854775808 < wrap64 (x.f1 - 1) := by
  intro x hx
  unfold spansS at hx
  split at hx
  · rw [List.mem_singleton.1 hx]
    refine ⟨⟨by unfold I64; decide, by unfold I64; decide⟩, by decide, by unfold wrap64; decide⟩
  · rename_i hk
    have hf := hf.2.resolve_left (fun h => hk h.1)
    have hb := sp_bounds hf x hx
    have h1 := hf.s1
    have h2 := hf.s2
    unfold Th.TimeOk at ht
    unfold I64 wrap64
    omega
theorem spansS_len (kind size slide t : Int) : (spansS kind size slide t).length ≤ 64 := by
  unfold spansS
  split
  · decide
  · exact Th.spansP_len _ _ _ _
theorem spansS_is {kind size slide a t : Int} (hf : Th.FitA kind size slide a) (ht : Th.TimeOk t) : SpS kind size slide t (spansS kind size slide t) := by
  unfold spansS
  by_cases hk : kind = 0
  · rw [if_pos hk]
    exact Or.inl ⟨hk, rfl⟩
  · rw [if_neg hk]
    obtain ⟨k, h⟩ := Th.spans_ev (hf.2.resolve_left (fun h => hk h.1)) ht
    exact Or.inr ⟨hk, k, h k (Nat.le_refl _)⟩
inductive PutsAll (kind size slide a : Int) (ps0 : List S70) : List S39 → List S70 → Prop
  | nil : PutsAll kind size slide a ps0 [] ps0
  | snoc {rs : List S39} {r : S39} {ps1 ps2 : List S70} (h : PutsAll kind size slide a ps0 rs ps1) (k : Puts kind a r.f0 r.f2 ps1 (spansS kind size slide r.f1) ps2) : PutsAll kind size slide a ps0 (rs ++ [r]) ps2
structure Hs (B0 : Nat) (w0 : World) (F : Nat → Prop) (N : Nat) (w : World) (q : Nat) (kind size slide a : Int) (ps : List S70) : Prop where
  is : IsS F N w q ⟨kind, size, slide, a, ps⟩
  bl : Below B0 w0 w
  bs : B0 ≤ w.heap.size
  low : ∀ k, F k → B0 ≤ k
theorem Hs.below {B0 : Nat} {w0 : World} {kind size slide a : Int} {ps : List S70} (h : Hs B0 w0 F N w q kind size slide a ps) (hb : Below w.heap.size w w') : Hs B0 w0 F N w' q kind size slide a ps :=
  ⟨h.is.below hb, h.bl.trans (hb.mono h.bs), Nat.le_trans h.bs hb.size, h.low⟩
theorem Hs.to {B0 : Nat} {w0 : World} {kind size slide a : Int} {ps ps' : List S70} {N' : Nat} (h : Hs B0 w0 F N w q kind size slide a ps) (ht : To F w w' N' q ⟨kind, size, slide, a, ps'⟩) : Hs B0 w0 (Fx F w w') N' w' q kind size slide a ps' :=
  ⟨ht.is, h.bl.trans (ht.fr.toBelow h.bs (fun k _ hk => h.low k hk)), Nat.le_trans h.bs ht.fr.size, fun k hk => by
    have := h.bs
    rcases hk with hk | hk
    · exact h.low k hk
    · omega⟩
theorem Hs.put {B0 : Nat} {w0 : World} {kind size slide a : Int} {ps ps0 : List S70} {rs : List S39} (h : Hs B0 w0 F N w q kind size slide a ps) (hf : Th.FitA kind size slide a) (r : S39) (hr : I64 r.f0 ∧ I64 r.f2) (ht : Th.TimeOk r.f1) (hp : PutsAll kind size slide a ps0 rs ps) (hN : N + ps.length + 128 ≤ 1000000) :
    Calls Try.prog 15 #[.pointer (some ⟨q, 0, none⟩), aggR r] w fun e w' => e = .returned (.tuple #[]) ∧ Fr F w w' ∧ ∃ N' ps', Hs B0 w0 (Fx F w w') N' w' q kind size slide a ps' ∧ N' + ps'.length ≤ N + ps.length + 128 ∧ PutsAll kind size slide a ps0 (rs ++ [r]) ps' := by
  have hl := spansS_len kind size slide r.f1
  refine (Put_calls h.is r hr (spansS kind size slide r.f1) (spansS_is hf ht) (fun x hx => (spansS_64 hf ht x hx).1) hl hN).mono ?_
  rintro e w' ⟨rfl, N', ps', hto, hpot, hput⟩
  exact ⟨rfl, hto.fr, N', ps', h.to hto, by have : N' + ps'.length ≤ N + ps.length + 2 * (spansS kind size slide r.f1).length := hpot; omega, .snoc hp hput⟩
theorem New_hs (w : World) (kind size slide a : Int) : Calls Try.prog 11 #[aggW kind size slide, .int .i64 a] w fun e w' => ∃ q, e = .returned (.pointer (some ⟨q, 0, none⟩)) ∧ Hs w.heap.size w (fun k => w.heap.size ≤ k ∧ k < w'.heap.size) 0 w' q kind size slide a [] ∧ Below w.heap.size w w' :=
  (New_calls w kind size slide a).mono fun e w' ⟨q, h1, h2, h3⟩ => ⟨q, h1, ⟨h2, h3, h3.size, fun k hk => hk.1⟩, h3⟩
structure RecL (w0 : World) (A : Option Addr) (l : List S39) : Prop where
  c : ∀ W, Below w0.heap.size w0 W → Kd.C k39 W A l.length l
  i64 : ∀ r ∈ l, I64 r.f0 ∧ I64 r.f2
end Go.Proofs.Ytjegeghigfmkoaa.T
namespace Go.Proofs.Ytjegeghigfmkoaa.T
open Go.RowKit Go.Maps Go.Sort Go.Proofs Go.Proofs.Ytjegeghigfmkoaa Go.Proofs.Ytjegeghigfmkoaa.X Go.Proofs.YtjegeghigfmkoaaW.PrintWords Go.Proofs.YtjegeghigfmkoaaW.PrintLast Go.Proofs.YtjegeghigfmkoaaW.PrintMore
set_option linter.unusedVariables false
set_option linter.unusedSimpArgs false
set_option maxRecDepth 100000
variable {F : Nat → Prop} {N : Nat} {w w' : World} {q b1 b2 : Nat} {tv : Value} {tm : List Int} {s : St}
theorem bytesEq_l0 (l : List Int) (hn : l.length < 4611686018427387904) : ∀ (d i : Nat), l.length = i + d → Ev (fun k => leathelp_Bytes.l0 k l l (i : Int)) true
  | 0, i, h => by
    refine Ev.step (f := fun _ => some true) (fun k => ?_) (Ev.now _)
    simp only [leathelp_Bytes.l0]; rw [if_neg (by omega)]
  | d + 1, i, h => by
    refine Ev.step (fun k => ?_) (bytesEq_l0 l hn d (i + 1) (by omega))
    simp only [leathelp_Bytes.l0]
    rw [if_pos (by omega), if_pos (by omega), if_pos (by omega), if_pos trivial, Th.step_i (show i < l.length by omega) hn]
theorem bytesEq_ev (l : List Int) (hn : l.length < 4611686018427387904) : Ev (fun k => leathelp_Bytes.f k l l) true :=
  Ev.congr (fun k => by rw [leathelp_Bytes.f, if_pos rfl]; rfl) (bytesEq_l0 l hn l.length 0 (by omega))
theorem bytesEq_any {W : World} {A0 A1 : Option Addr} {c0 c1 : Nat} {l : List Int} (h0 : Kd.C (Kd.int .u8) W A0 l.length l) (hc0 : l.length ≤ c0) (h1 : Kd.C (Kd.int .u8) W A1 l.length l) (hc1 : l.length ≤ c1) (hl : l.length ≤ 100000000) :
    Calls Try.prog 27 #[.slice A0 l.length c0, .slice A1 l.length c1] W fun e w' => e = .returned (.bool true) ∧ Below W.heap.size W w' := by
  obtain ⟨k, hk⟩ := bytesEq_ev l (by omega)
  exact (leathelp_Bytes.calls k A0 c0 l A1 c1 l true W h0 hc0 h1 hc1 (hk k (Nat.le_refl _))).mono fun e w' h => ⟨h.1, h.2.below⟩
structure L2 (w w9 : World) (kind size slide : Int) (g7 : Nat) (cx : List Int) (wr : World) : Prop where
  bl : Below w.heap.size w wr
  b9 : Below w9.heap.size w9 wr
  hw : wr.heap[w.heap.size]? = some (.cells #[.int .i64 kind, .int .i64 size, .int .i64 slide] 23 (0, 0))
theorem L2.below {w9 wr w' : World} {kind size slide : Int} {g7 : Nat} {cx : List Int} (h : L2 w w9 kind size slide g7 cx wr) (hb : Below wr.heap.size wr w') : L2 w w9 kind size slide g7 cx w' :=
  ⟨h.bl.trans (hb.mono h.bl.size), h.b9.trans (hb.mono h.b9.size), blk_below h.hw hb⟩
structure Lr (w1 : World) (kind size slide a : Int) (l : List S39) (i : Nat) (q : Nat) (wr : World) (F1 : Nat → Prop) (N1 : Nat) (ps : List S70) : Prop where
  hs : Hs w1.heap.size w1 F1 N1 wr q kind size slide a ps
  puts : PutsAll kind size slide a [] (l.take i) ps
  pot : N1 + ps.length ≤ 128 * i
end Go.Proofs.Ytjegeghigfmkoaa.T
namespace Go.Proofs.Ytjegeghigfmkoaa.T
open Go.RowKit Go.Sort Go.Proofs.YtjegeghigfmkoaaW.PrintWords Go.Proofs.YtjegeghigfmkoaaW.PrintMore Go.Proofs.Ytjegeghigfmkoaa Go.Proofs.Ytjegeghigfmkoaa.So Go.Proofs.Ytjegeghigfmkoaa.X Go.Proofs.Ytjegeghigfmkoaa.Nf Go.Proofs.Ytjegeghigfmkoaa.Th
set_option linter.unusedVariables false
set_option linter.unusedSimpArgs false
theorem fitA_ok {kind size slide a : Int} (h : FitA kind size slide a) : aggOk a = true := by
  unfold aggOk
  exact decide_eq_true (by have := h.1; omega)
theorem putsAll_rs {kind size slide a : Int} (hf : FitA kind size slide a) {rs : List S39} {ps : List S70} (h : PutsAll kind size slide a [] rs ps) (hr : ∀ r ∈ rs, TimeOk r.f1 ∧ Go.Proofs.Ytjegeghigfmkoaa.I64 r.f2) :
    RSk kind a (ones a (spansS kind size slide) rs) ps ∧ NK kind ps ∧ ∀ p ∈ ps, Prp p := by
  induction h with
  | nil => exact ⟨.done (.refl _), List.Pairwise.nil, fun p hp => by cases hp⟩
  | @snoc rs r ps1 ps2 h k ih =>
    obtain ⟨i1, i2, i3⟩ := ih (fun x hx => hr x (List.mem_append_left _ hx))
    have hr1 := hr r (List.mem_append_right _ (List.mem_singleton.2 rfl))
    obtain ⟨j1, j2, j3⟩ := puts_rs (fitA_ok hf) hr1.2 k i2 i3 (fun s hs => (spansS_64 hf hr1.1 s hs).2.1)
    refine ⟨?_, j2, j3⟩
    rw [ones_snoc]
    exact RS.trans (RS.app i1 _) j1
theorem same_sym {x y : S70} (h : same x y = false) : same y x = false := by
  cases hs : same y x with
  | false => rfl
  | true =>
    have h4 := (same_iff _ _).1 hs
    have h5 : same x y = true := (same_iff _ _).2 ⟨h4.1.symm, h4.2.symm⟩
    rw [h5] at h
    cases h
theorem load_new {a : Int} : ∀ (l acc : List S70), Apart l → (∀ x ∈ l, ∀ y ∈ acc, same x y = false) → l.foldl (loadP a) acc = l.reverse ++ acc
  | [], acc, _, _ => rfl
  | x :: l, acc, h, hno => by
    have h2 := List.pairwise_cons.1 h
    have hx := hno x (List.mem_cons_self ..)
    have hh : hasP x acc = false := by
      cases hh : hasP x acc with
      | false => rfl
      | true =>
        obtain ⟨y, hy, hs⟩ := List.any_eq_true.1 hh
        rw [hx y hy] at hs
        cases hs
    have e : loadP a acc x = x :: acc := by
      unfold loadP
      rw [if_neg (by rw [hh]; decide)]
      unfold layP
      rw [out_none hx]
    rw [List.foldl_cons, e, load_new l (x :: acc) h2.2 (fun z hz y hy => by
      rcases List.mem_cons.1 hy with rfl | hy
      · exact same_sym (h2.1 z hz)
      · exact hno z (List.mem_cons_of_mem _ hz) y hy)]
    simp
theorem loadL_apart {a : Int} {l : List S70} (h : Apart l) : loadL a l = l.reverse := by
  have := load_new (a := a) l [] h (fun _ _ y hy => by cases hy)
  rw [List.append_nil] at this
  exact this
end Go.Proofs.Ytjegeghigfmkoaa.T
namespace Go.Proofs.Ytjegeghigfmkoaa.T
open Go.RowKit Go.Sort Go.Proofs.YtjegeghigfmkoaaW.PrintWords Go.Proofs.YtjegeghigfmkoaaW.PrintMore Go.Proofs.Ytjegeghigfmkoaa Go.Proofs.Ytjegeghigfmkoaa.So Go.Proofs.Ytjegeghigfmkoaa.X Go.Proofs.Ytjegeghigfmkoaa.Nf Go.Proofs.Ytjegeghigfmkoaa.Th
set_option linter.unusedVariables false
set_option linter.unusedSimpArgs false
theorem load_norm {kind a : Int} (ha : aggOk a = true) {l : List S70} (hN : NK kind l) (hP : ∀ p ∈ l, Prp p) : (loadL a (loadOf kind a l)).Perm l := by
  have hl : (loadOf kind a l).Perm l := by
    unfold loadOf
    split
    · rename_i hk
      subst hk
      have h1 := join_is ha l
      have h2 : Is 3 a l (sortP l) := Is.sort ha (.done (.refl _)) hN
      rw [h1.unique ha h2 (.refl _)]
      exact sortP_perm l
    · exact .refl _
  have hap : Apart (loadOf kind a l) := nk_apart (Normal.perm (mgK kind ha) hN hl.symm) (fun p hp => hP p (hl.mem_iff.1 hp))
  rw [loadL_apart hap]
  exact (List.reverse_perm _).trans hl
theorem grp_in (x : Int) : 0 ≤ grp x ∧ grp x < 16 := by
  unfold grp
  have h : 0 ≤ IntKind.u64.wrap (IntKind.u64.wrap x * 11400714819323198485) ∧ IntKind.u64.wrap (IntKind.u64.wrap x * 11400714819323198485) < 18446744073709551616 := by
    rw [u64w]
    generalize IntKind.u64.wrap x * 11400714819323198485 = y
    omega
  generalize IntKind.u64.wrap (IntKind.u64.wrap x * 11400714819323198485) = y at h ⊢
  unfold wrap64
  omega
def groupsFrom (l : List S70) : Nat → List S70
  | 0 => []
  | n + 1 => groupsFrom l n ++ l.filter (fun p => !other ((15 - n : Nat) : Int) p)
end Go.Proofs.Ytjegeghigfmkoaa.T
namespace Go.Proofs.Ytjegeghigfmkoaa.T
open Go.RowKit Go.Maps Go.Sort Go.Proofs Go.Proofs.Ytjegeghigfmkoaa Go.Proofs.Ytjegeghigfmkoaa.X Go.Proofs.YtjegeghigfmkoaaW.PrintWords Go.Proofs.YtjegeghigfmkoaaW.PrintLast Go.Proofs.YtjegeghigfmkoaaW.PrintMore
set_option linter.unusedVariables false
set_option linter.unusedSimpArgs false
set_option maxRecDepth 100000
variable {F : Nat → Prop} {N : Nat} {w w' : World} {q b1 b2 : Nat} {tv : Value} {tm : List Int} {s : St}
theorem app70m {w : World} {base base' : Nat} {ok : Nat → Prop} {v : Value} {ps ms : List S70} {A : Option Addr} {c : Nat} (ho : w.ownsRow base 70 4 v ps.length (flatP ps)) (hb : base ≤ w.heap.size) (hm : Kd.R k70 70 w base' ok (.slice A ms.length c) ms) (hn : ps.length + ms.length ≤ 2000000) (ty : TypeId) :
    ∃ v' w', (Builtin.append_ #[44, 44] ty #[v, .slice A ms.length c]).run Try.prog w = .ok v' w' ∧ w'.ownsRow base 70 4 v' (ps ++ ms).length (flatP (ps ++ ms)) ∧ w.grownBy w' v.ownBlock := by
  obtain ⟨i0, hi, hz0, hz1, hz2⟩ := info_parts info70
  have hfl : flatP (ps ++ ms) = flatP ps ++ flatP ms := List.flatMap_append
  have hC := (Kd.R_reads' hm).2.2
  obtain ⟨_, inner, hown, hrp⟩ := hm
  rcases hown.2 with ⟨hv, hin⟩ | ⟨g, cap, cur, hv, _⟩
  · injection hv with e1 e2 e3
    subst e1
    subst e3
    have hms : ms = [] := List.eq_nil_of_length_eq_zero e2
    subst hms
    exact ⟨v, w, run_append_owned_none w base 44 ty 70 i0 4 Try.underlying44 hi v ps.length (flatP ps) ho, by rw [List.append_nil]; exact ho, ⟨rfl, rfl, rfl, Nat.le_refl _, fun _ _ _ => rfl⟩⟩
  · injection hv with e1 e2 e3
    subst e1
    have hl : (flatP ms).length = ms.length * 4 := flatP_len ms
    have hcell : ∀ j u, (flatP ms)[j]? = some u → w.cell? ((⟨g, 0, none⟩ : Addr).add j) = some u := by
      intro j u hu
      have hj : j < (flatP ms).length := (List.getElem?_eq_some_iff.1 hu).1
      rw [hl] at hj
      obtain ⟨t, ht⟩ : ∃ t, j / 4 = t := ⟨_, rfl⟩
      obtain ⟨c4, hc4⟩ : ∃ c4, j % 4 = c4 := ⟨_, rfl⟩
      have hq : t < ms.length := by omega
      have hjt : j = t * 4 + c4 := by omega
      have hc : c4 < 4 := by omega
      have e4 : (flatP ms)[t * 4 + c4]? = (So.encP ms[t])[c4]? := flatP_get ms t c4 hq hc
      rw [← hjt, hu] at e4
      obtain ⟨ad, cs, e, _, hK, hc0⟩ := Kd.C_get hC z70 (t : Int) (by omega) (by omega)
      cases e
      have hgd : ms.getD ((t : Int)).toNat z70 = ms[t] := by rw [Int.toNat_natCast]; exact Th.getD_at hq
      rw [hgd] at hK
      obtain rfl := k70_open hK
      have h := hc0 c4 u e4.symm
      rw [Int.toNat_natCast] at h
      rw [hjt]
      exact h
    obtain ⟨v', w', g1, g2, g3, _⟩ := run_append_own (P := Try.prog) w base 44 ty 70 i0 _ 4 _ Try.underlying44 hi hz0 hz1 hz2 rfl (by decide) v ps.length (flatP ps) ho ⟨g, 0, none⟩ ms.length c (flatP ms) hl hcell (by
      intro u hu
      obtain ⟨x, _, hx⟩ := List.mem_flatMap.1 hu
      simp only [List.mem_cons, List.not_mem_nil, or_false] at hx
      rcases hx with rfl | rfl | rfl | rfl <;> rfl) (by unfold maxLen; omega) (by omega) hb
    exact ⟨v', w', g1, by rw [List.length_append, hfl]; exact g2, g3⟩
theorem gsort {l : List S70} (h : Th.Sorted l) (g : Int) : sortP (l.filter (fun p => !other g p)) = l.filter (fun p => !other g p) := Th.sortP_same (List.Pairwise.sublist List.filter_sublist h)
theorem other_no {g : Int} {l : List S70} {p : S70} (h : p ∈ l.filter (fun p => !other g p)) : (grp p.f0 != g) = false := by
  have := (List.mem_filter.1 h).2
  simpa [other] using this
theorem groups_len (l : List S70) : ∀ n, (groupsFrom l n).length ≤ n * l.length
  | 0 => by simp [groupsFrom]
  | n + 1 => by
    rw [groupsFrom, List.length_append, Nat.succ_mul]
    have h1 := groups_len l n
    have h2 := List.length_filter_le (fun p => !other ((15 - n : Nat) : Int) p) l
    omega
theorem filter_two {α : Type} (p q r : α → Bool) (h : ∀ x, r x = (p x || q x)) (hd : ∀ x, p x = true → q x = false) : ∀ l : List α, (l.filter p ++ l.filter q).Perm (l.filter r)
  | [] => .refl _
  | x :: l => by
    have ih := filter_two p q r h hd l
    cases hp : p x with
    | true =>
      rw [List.filter_cons_of_pos hp, List.filter_cons_of_neg (by rw [hd x hp]; decide), List.filter_cons_of_pos (by rw [h, hp]; rfl), List.cons_append]
      exact ih.cons x
    | false =>
      rw [List.filter_cons_of_neg (by rw [hp]; decide)]
      cases hq : q x with
      | true =>
        rw [List.filter_cons_of_pos hq, List.filter_cons_of_pos (by rw [h, hp, hq]; rfl)]
        exact List.perm_middle.trans (ih.cons x)
      | false =>
        rw [List.filter_cons_of_neg (by rw [hq]; decide), List.filter_cons_of_neg (by rw [h, hp, hq]; decide)]
        exact ih
theorem groups_filter (l : List S70) : ∀ n : Nat, n ≤ 16 → (groupsFrom l n).Perm (l.filter (fun p => decide ((16 : Int) - n ≤ grp p.f0)))
  | 0, _ => by
    rw [List.filter_eq_nil_iff.2 (fun p hp => by have := grp_in p.f0; simp; omega)]
    exact .refl _
  | n + 1, h => by
    have ih := groups_filter l n (by omega)
    rw [groupsFrom]
    refine (ih.append_right _).trans (filter_two _ _ _ (fun p => ?_) (fun p hp => ?_) l)
    · unfold other
      have e : ((15 - n : Nat) : Int) = 15 - n := by omega
      rw [e]
      by_cases h1 : (16 : Int) - n ≤ grp p.f0
      · rw [decide_eq_true h1, decide_eq_true (by omega)]
        rfl
      · by_cases h2 : grp p.f0 = 15 - n
        · rw [decide_eq_true (by omega), h2]
          simp
        · rw [decide_eq_false h1, decide_eq_false (by omega)]
          simp [h2]
    · have hp := of_decide_eq_true hp
      unfold other
      have e : ((15 - n : Nat) : Int) = 15 - n := by omega
      rw [e]
      have : grp p.f0 ≠ 15 - n := by omega
      simp [this]
theorem groups_perm (l : List S70) : (groupsFrom l 16).Perm l := by
  refine (groups_filter l 16 (Nat.le_refl _)).trans ?_
  rw [List.filter_eq_self.2 (fun p hp => decide_eq_true (by have := grp_in p.f0; omega))]
theorem group_none {l : List S70} {g : Int} (hg : g < 0 ∨ 16 ≤ g) : l.filter (fun p => !other g p) = [] := by
  rw [List.filter_eq_nil_iff]
  intro p hp
  have := grp_in p.f0
  have h : grp p.f0 ≠ g := by omega
  simp [other, h]
structure Lg (w4 : World) (L : List S70) (n : Nat) (wr : World) (v : Value) : Prop where
  row : wr.ownsRow w4.heap.size 70 4 v (groupsFrom L n).length (flatP (groupsFrom L n))
  bl : Below w4.heap.size w4 wr
set_option maxHeartbeats 8000000 in
theorem StateGroups_calls (w : World) (kind size slide a : Int) (A3 : Option Addr) (c3 : Nat) (l : List S39) (hl : RecL w A3 l) (hc3 : l.length ≤ c3) :
    Calls Try.prog 7 #[aggW kind size slide, .int .i64 a, .slice A3 l.length c3] w fun e w' => e = .returned (.bool true) ∧ Below w.heap.size w w' := by
  obtain ⟨fb, hfb, KF⟩ := fit_any kind size slide a
  have HL := Aside0.mk hl
  have HC := Aside0.mk hc3
  have HFB := Aside0.mk hfb
  have KF := Aside0.mk KF
  clear hl hc3 hfb
  go_enter Try.func7, Try.ntmps7
  go_wp2_with fail
  have HW1 := Aside0.mk (heap_alloc_new w (.cells #[.int .i64 kind, .int .i64 size, .int .i64 slide] 23))
  have HB1 := Aside0.mk ((Below.refl w.heap.size w).alloc (Nat.le_refl _) (.cells #[.int .i64 kind, .int .i64 size, .int .i64 slide] 23))
  generalize (w.alloc (.cells #[.int .i64 kind, .int .i64 size, .int .i64 slide] 23)) = w1 at HW1 HB1 ⊢
  cases fb with
  | false =>
    go_wp2_with (first
      | (go_at_call 9
         refine (known_calls w1).mono ?_
         rintro e w2 ⟨rfl, hb2⟩
         have hw2 := blk_below HW1.out hb2
         have HW2 := Aside0.mk hw2
         have HB2 := Aside0.mk (HB1.out.trans (hb2.mono HB1.out.size))
         have z0 := (blk_cell hw2 0).trans rfl
         have z1 := (blk_cell hw2 1).trans rfl
         have z2 := (blk_cell hw2 2).trans rfl
         clear hb2 hw2)
      | (go_at_call 10
         refine (KF.out w2).mono ?_
         rintro e w3 ⟨rfl, hb3⟩
         have hw3 := blk_below HW2.out hb3
         have HW3 := Aside0.mk hw3
         have HB3 := Aside0.mk (HB2.out.trans (hb3.mono HB2.out.size))
         have y0 := (blk_cell hw3 0).trans rfl
         have y1 := (blk_cell hw3 1).trans rfl
         have y2 := (blk_cell hw3 2).trans rfl
         clear hb3 hw3 z0 z1 z2)
      | fail)
    go_ret
    exact ⟨rfl, HB3.out⟩
  | true =>
  have HFA := Aside0.mk (HFB.out rfl)
  by_cases hl4 : (l.length : Int) > 60
  · go_wp2_with (first
      | (go_at_call 9
         refine (known_calls w1).mono ?_
         rintro e w2 ⟨rfl, hb2⟩
         have hw2 := blk_below HW1.out hb2
         have HW2 := Aside0.mk hw2
         have HB2 := Aside0.mk (HB1.out.trans (hb2.mono HB1.out.size))
         have z0 := (blk_cell hw2 0).trans rfl
         have z1 := (blk_cell hw2 1).trans rfl
         have z2 := (blk_cell hw2 2).trans rfl
         clear hb2 hw2)
      | (go_at_call 10
         refine (KF.out w2).mono ?_
         rintro e w3 ⟨rfl, hb3⟩
         have hw3 := blk_below HW2.out hb3
         have HW3 := Aside0.mk hw3
         have HB3 := Aside0.mk (HB2.out.trans (hb3.mono HB2.out.size))
         have y0 := (blk_cell hw3 0).trans rfl
         have y1 := (blk_cell hw3 1).trans rfl
         have y2 := (blk_cell hw3 2).trans rfl
         clear hb3 hw3 z0 z1 z2)
      | fail)
    go_ret
    exact ⟨rfl, HB3.out⟩
  go_wp2_with (first
      | (go_at_call 11
         refine (New_hs w3 kind size slide a).mono ?_
         rintro e w4 ⟨q, rfl, hs4, hb4⟩
         have HS4 := Aside0.mk hs4
         have HW4 := Aside0.mk (blk_below HW3.out hb4)
         clear hs4 hb4)
      | (go_at_call 9
         refine (known_calls w1).mono ?_
         rintro e w2 ⟨rfl, hb2⟩
         have hw2 := blk_below HW1.out hb2
         have HW2 := Aside0.mk hw2
         have HB2 := Aside0.mk (HB1.out.trans (hb2.mono HB1.out.size))
         have z0 := (blk_cell hw2 0).trans rfl
         have z1 := (blk_cell hw2 1).trans rfl
         have z2 := (blk_cell hw2 2).trans rfl
         clear hb2 hw2)
      | (go_at_call 10
         refine (KF.out w2).mono ?_
         rintro e w3 ⟨rfl, hb3⟩
         have hw3 := blk_below HW2.out hb3
         have HW3 := Aside0.mk hw3
         have HB3 := Aside0.mk (HB2.out.trans (hb3.mono HB2.out.size))
         have y0 := (blk_cell hw3 0).trans rfl
         have y1 := (blk_cell hw3 1).trans rfl
         have y2 := (blk_cell hw3 2).trans rfl
         clear hb3 hw3 z0 z1 z2)
      | fail)
  have HLL : Aside0 (l.length ≤ 60) := ⟨by omega⟩
  clear hl4
  have HLR : Aside0 (Lr w3 kind size slide a l 0 q w4 (fun k => w3.heap.size ≤ k ∧ k < w4.heap.size) 0 []) := ⟨⟨HS4.out, by simpa using PutsAll.nil, by simp⟩⟩
  have HW3' : Aside0 (w.heap.size < w3.heap.size) := ⟨lt_of_block HW3.out⟩
  clear HS4 HW1 HW2 HB1 HB2
  go_loopg [8] l.length (fun kx s8 wr => ∃ (i : Nat) (F1 : Nat → Prop) (N1 : Nat) (ps : List S70), s8 = .int .i64 i ∧ l.length - i ≤ kx ∧ i ≤ l.length ∧ Aside0 (Lr w3 kind size slide a l i q wr F1 N1 ps) ∧ Aside0 (∀ r ∈ l.take i, Th.TimeOk r.f1))
  case atStart => exact ⟨0, _, 0, [], rfl, by omega, by omega, HLR, ⟨fun r hr => by simp at hr⟩⟩
  case round =>
    clear HLR
    obtain ⟨i, F1, N1, ps, rfl, hkx, hi, HQ, HTM⟩ := hrel
    have HBR := Aside0.mk (HB3.out.trans (HQ.out.hs.bl.mono HB3.out.size))
    by_cases hlt : i < l.length
    · have hlz : ((i : Int) < (l.length : Int)) := by omega
      have hiz : (0 : Int) ≤ (i : Int) := by omega
      obtain ⟨ad, rfl, x0, x1, x2⟩ := at_T39 (HL.out.c wr HBR.out) (i : Int) hiz hlz
      obtain ⟨r, hr⟩ : ∃ r : S39, l[i] = r := ⟨_, rfl⟩
      have hgd : rd_T39 l (i : Int) = r := by rw [← hr]; simp [rd_T39, hlt]
      rw [hgd] at x0 x1 x2
      have hin : ((i : Int)).toNat = i := by omega
      rw [hin] at x0 x1 x2
      have HTK : Aside0 (l.take (i + 1) = l.take i ++ [r]) := ⟨by rw [← hr]; exact (List.take_append_getElem hlt).symm⟩
      have HR64 := Aside0.mk (HL.out.i64 r (by rw [← hr]; exact List.getElem_mem hlt))
      have hwi : wrap64 ((i : Int) + 1) = ((i + 1 : Nat) : Int) := by have := HLL.out; unfold wrap64; omega
      have HI1 := Aside0.mk (And.intro hkx (And.intro hi hlt))
      have KT := time_any r.f1 wr
      clear hkx hi hr hgd hin hlt
      by_cases ht : Th.TimeOk r.f1
      · rw [decide_eq_true ht] at KT
        have HT := Aside0.mk ht
        clear ht
        go_wp2_with (first
          | (go_at_call 14
             refine KT.mono ?_
             clear KT
             rintro e w5 ⟨rfl, hb5⟩
             have x0 := pw_cell_below hb5 x0
             have x1 := pw_cell_below hb5 x1
             have x2 := pw_cell_below hb5 x2
             have KP := (HQ.out.hs.below hb5).put HFA.out r HR64.out HT.out HQ.out.puts (by have h1 := HQ.out.pot; have h2 := HI1.out; have h3 := HLL.out; omega)
             clear hb5)
          | (go_at_call 15
             refine KP.mono ?_
             clear KP
             rintro e w6 ⟨rfl, _, N2, ps2, hs2, hpot, hp2⟩
             have HS6 := Aside0.mk hs2
             have HP6 := Aside0.mk (And.intro hpot hp2)
             clear hs2 hpot hp2)
          | fail)
        try rw [hwi]
        go_roundg (l.length - (i + 1))
        case measure => have := HI1.out; omega
        case rel => exact ⟨i + 1, _, N2, ps2, rfl, Nat.le_refl _, HI1.out.2.2, ⟨⟨HS6.out, by rw [HTK.out]; exact HP6.out.2, by have h1 := HQ.out.pot; have h2 := HP6.out.1; omega⟩⟩, ⟨fun x hx => by
          rw [HTK.out] at hx
          rcases List.mem_append.1 hx with hx | hx
          · exact HTM.out x hx
          · rw [List.mem_singleton.1 hx]; exact HT.out⟩⟩
      · rw [decide_eq_false ht] at KT
        clear ht
        go_wp2_with (first
          | (go_at_call 14
             refine KT.mono ?_
             clear KT
             rintro e w5 ⟨rfl, hb5⟩
             have HB5 := Aside0.mk hb5
             clear hb5)
          | fail)
        go_ret
        exact ⟨rfl, HBR.out.trans (HB5.out.mono HBR.out.size)⟩
    · have hlz : ¬ ((i : Int) < (l.length : Int)) := by omega
      have hil : i = l.length := by omega
      have HI1 := Aside0.mk hil
      clear hlt hkx hi hil
      rename World => w4
      obtain ⟨L, hL⟩ : ∃ L, sortP ps = L := ⟨_, rfl⟩
      have HSo : Aside0 (Th.Sorted L) := ⟨by rw [← hL]; exact Th.sortP_sorted ps⟩
      have HLn : Aside0 (L.length ≤ 10000) := ⟨by
        rw [← hL, sortP_len]
        have h1 := HQ.out.pot
        have h2 := HI1.out
        have h3 := HLL.out
        omega⟩
      have HLE := Aside0.mk hL
      clear hL
      go_wp2_with fail
      have HLG : Aside0 (Lg w4 L 0 w4 (.slice none 0 0)) := ⟨⟨World.ownsRow_nil _ _ _ _, Below.refl _ _⟩⟩
      go_loopg [9, 10] 16 (fun kx s9 s10 wg => ∃ (n : Nat), s10 = .int .i64 ((15 : Int) - n) ∧ 16 - n ≤ kx ∧ n ≤ 16 ∧ Aside0 (Lg w4 L n wg s9))
      case atStart => exact ⟨0, rfl, by omega, by omega, HLG⟩
      case round =>
        clear HLG
        rename World => wg
        obtain ⟨n, rfl, hkx, hn, HG⟩ := hrel
        by_cases hlt : n < 16
        · have hge : (15 : Int) - n ≥ 0 := by omega
          have hwn : wrap64 ((15 : Int) - n - 1) = (15 : Int) - ((n + 1 : Nat) : Int) := by unfold wrap64; omega
          have hgn : ((15 - n : Nat) : Int) = (15 : Int) - n := by omega
          have HGF : Aside0 (groupsFrom L (n + 1) = groupsFrom L n ++ L.filter (fun p => !other ((15 : Int) - n) p)) := ⟨by rw [groupsFrom, hgn]⟩
          have HI2 := Aside0.mk (And.intro hkx (And.intro hn hlt))
          obtain ⟨P, hP⟩ : ∃ P, L.filter (fun p => !other ((15 : Int) - n) p) = P := ⟨_, rfl⟩
          have HPE := Aside0.mk hP
          have HPl : Aside0 (P.length ≤ 10000) := ⟨by rw [← hP]; exact Nat.le_trans (List.length_filter_le _ _) HLn.out⟩
          clear hkx hn hlt hgn hP
          go_wp2_with (first
            | (go_at_call 31
               refine (Group_calls (HQ.out.hs.is.below HG.out.bl) _).mono ?_
               rintro e w5 ⟨v5, rfl, hR5, hb5⟩
               dsimp only at hR5
               rw [HLE.out, HPE.out] at hR5
               obtain ⟨A5, c5, rfl⟩ := Kd.R_slice hR5
               have HR5 := Aside0.mk hR5
               have HB5 := Aside0.mk hb5
               clear hR5 hb5)
            | (go_at_call 24
               have hsv := Th.rsort_ev P (by have := HPl.out; omega)
               rw [show sortP P = P from by rw [← HPE.out]; exact gsort HSo.out _] at hsv
               obtain ⟨ks, hks⟩ := hsv
               refine (leatref11_Sort.calls ks A5 c5 P P w5 (Kd.R_reads' HR5.out).2.2 (Kd.R_reads' HR5.out).2.1 (hks ks (Nat.le_refl _))).mono ?_
               rintro e w6 ⟨v6, rfl, hR6, hb6⟩
               obtain ⟨A6, c6, rfl⟩ := Kd.R_slice hR6
               have HR6 := Aside0.mk hR6
               have HR56 := Aside0.mk (Kd.R_below HR5.out hb6)
               have HB6 := Aside0.mk (HB5.out.trans (hb6.mono HB5.out.size))
               clear hR6 hb6 hks)
            | (go_at_call 25
               obtain ⟨kp, hkp⟩ := Th.panes_ev P (by have := HPl.out; omega)
               refine (leathelp_Panes.calls kp A5 c5 P A6 c6 P true w6 (Kd.R_reads' HR56.out).2.2 (Kd.R_reads' HR5.out).2.1 (Kd.R_reads' HR6.out).2.2 (Kd.R_reads' HR6.out).2.1 (hkp kp (Nat.le_refl _))).mono ?_
               rintro e w7 ⟨rfl, hd7⟩
               have HR7 := Aside0.mk (Kd.R_below HR56.out hd7.below)
               have HB7 := Aside0.mk (HB6.out.trans (hd7.below.mono HB6.out.size))
               clear hd7 hkp)
            | fail)
          have HLI : Aside0 (Kd.R k70 70 w7 wg.heap.size (fun _ => True) (.slice A5 P.length c5) P ∧ Below wg.heap.size wg w7) := ⟨⟨HR7.out, HB7.out⟩⟩
          clear HR5 HR6 HR56 HR7 HB5 HB6 HB7
          go_loopg [12] P.length (fun kx s12 wi => ∃ (j : Nat), s12 = .int .i64 j ∧ P.length - j ≤ kx ∧ j ≤ P.length ∧ Aside0 (Kd.R k70 70 wi wg.heap.size (fun _ => True) (.slice A5 P.length c5) P ∧ Below wg.heap.size wg wi))
          case atStart => exact ⟨0, rfl, by omega, by omega, HLI⟩
          case round =>
            clear HLI
            rename World => wi
            obtain ⟨j, rfl, hkj, hj, HJ⟩ := hrel
            by_cases hlt : j < P.length
            · have hlz : ((j : Int) < (P.length : Int)) := by omega
              have hiz : (0 : Int) ≤ (j : Int) := by omega
              obtain ⟨ad, rfl, x0, x1, x2, x3⟩ := at_T70 (Kd.R_reads' HJ.out.1).2.2 (j : Int) hiz hlz
              obtain ⟨z, hz⟩ : ∃ z : S70, P[j] = z := ⟨_, rfl⟩
              have hgd : rd_T70 P (j : Int) = z := by rw [← hz]; simp [rd_T70, hlt]
              rw [hgd] at x0 x1 x2 x3
              have hin : ((j : Int)).toNat = j := by omega
              rw [hin] at x0 x1 x2 x3
              have hno : (grp z.f0 != (15 : Int) - n) = false := other_no (l := L) (by rw [HPE.out, ← hz]; exact List.getElem_mem hlt)
              have hwj : wrap64 ((j : Int) + 1) = ((j + 1 : Nat) : Int) := by have := HPl.out; unfold wrap64; omega
              have HJ1 := Aside0.mk (And.intro hkj (And.intro hj hlt))
              clear hkj hj hlt hz hgd hin
              go_wp2_with (first
                | (go_at_call 32
                   refine (leatref9_Group.calls z.f0 (grp z.f0) wi rfl).mono ?_
                   rintro e w8 ⟨rfl, hd8⟩
                   have HJ8 := Aside0.mk (And.intro (Kd.R_below HJ.out.1 hd8.below) (HJ.out.2.trans (hd8.below.mono HJ.out.2.size)))
                   clear hd8)
                | fail)
              try rw [hwj]
              go_roundg (P.length - (j + 1))
              case measure => have := HJ1.out; omega
              case rel => exact ⟨j + 1, rfl, Nat.le_refl _, HJ1.out.2.2, HJ8⟩
            · have hlz : ¬ ((j : Int) < (P.length : Int)) := by omega
              obtain ⟨v9, w9, hrun9, ho9, hg9⟩ := app70m (c := c5) (pw_own_below HG.out.row HJ.out.2) (Nat.le_trans HG.out.bl.size HJ.out.2.size) HJ.out.1 (by have h1 := groups_len L n; have h2 := HLn.out; have h3 := HPl.out; have h4 := HI2.out; have : n * L.length ≤ 16 * 10000 := Nat.mul_le_mul (by omega) h2; omega) 44
              have HLG : Aside0 (Lg w4 L (n + 1) w9 v9) := ⟨⟨by rw [HGF.out, HPE.out]; exact ho9, (HG.out.bl.trans (HJ.out.2.mono HG.out.bl.size)).grown hg9 (Nat.le_trans HG.out.bl.size HJ.out.2.size) (fun k e => (HG.out.row.lt k e).1)⟩⟩
              have HRUN := Aside0.mk hrun9
              clear hkj hj hlt ho9 hg9 hrun9
              go_wp2_with (first
                | (refine bappL_ (some 75) #[u9, .slice A5 P.length c5] rfl rfl (by (try simp only [List.map_toArray, List.map_cons, List.map_nil]); first | done | rfl) rfl HRUN.out ?_)
                | fail)
              try rw [hwn]
              go_roundg (16 - (n + 1))
              case measure => have := HI2.out; omega
              case rel => exact ⟨n + 1, by congr 1; omega, Nat.le_refl _, by have := HI2.out; omega, HLG⟩
        · have hge : ¬ ((15 : Int) - n ≥ 0) := by omega
          have hn16 : n = 16 := by omega
          clear hkx hn hlt
          subst hn16
          have hG := groups_perm L
          have hO := HG.out.row
          have hblG := HG.out.bl
          obtain ⟨G, hGG⟩ : ∃ G, groupsFrom L 16 = G := ⟨_, rfl⟩
          rw [hGG] at hG hO
          have HBLG := Aside0.mk hblG
          clear HG hGG hblG
          obtain ⟨Ag, cg, rfl⟩ := own_slice hO
          have hRg := R_flat hO
          have HRg := Aside0.mk hRg
          have HPL : Aside0 (L.Perm ps) := ⟨by rw [← HLE.out]; exact Th.sortP_perm ps⟩
          have HPR := putsAll_rs HFA.out HQ.out.puts (fun r hr => ⟨HTM.out r hr, (HL.out.i64 r (List.mem_of_mem_take hr)).2⟩)
          have HNK := Aside0.mk (Nf.Normal.perm (Th.mgK kind (fitA_ok HFA.out)) HPR.2.1 (HPL.out.symm.trans hG.symm))
          have HPrp : Aside0 (∀ p ∈ G, Prp p) := ⟨fun p hp => HPR.2.2 p (HPL.out.mem_iff.1 (hG.mem_iff.1 hp))⟩
          have HLoad : Aside0 (sortP (loadL a (loadOf kind a G)) = L) := ⟨by
            have h1 := load_norm (fitA_ok HFA.out) HNK.out HPrp.out
            rw [Th.sortP_congr (h1.trans hG), Th.sortP_same HSo.out]⟩
          have HGl : Aside0 (G.length ≤ 10000) := ⟨by rw [hG.length_eq]; exact HLn.out⟩
          have HG64 : Aside0 (∀ p ∈ G, P64 p) := ⟨fun p hp => HQ.out.hs.is.p64 p (HPL.out.mem_iff.1 (hG.mem_iff.1 hp))⟩
          have hb4 := HQ.out.hs.bl
          have hwg := blk_below ((hb4.block _ HW3'.out).trans HW3.out) HBLG.out
          have k0 := (blk_cell hwg 0).trans rfl
          have k1 := (blk_cell hwg 1).trans rfl
          have k2 := (blk_cell hwg 2).trans rfl
          have HBG : Aside0 (Below w.heap.size w wg) := ⟨(HB3.out.trans (hb4.mono HB3.out.size)).trans (HBLG.out.mono (Nat.le_trans HB3.out.size HQ.out.hs.bs))⟩
          have HIG := Aside0.mk (HQ.out.hs.is.below HBLG.out)
          clear hO hRg hG hb4 hwg HPR
          go_wp2_with (first
            | (go_at_call 11
               refine (New_calls wg kind size slide a).mono ?_
               rintro e w10 ⟨q10, rfl, hI, hb⟩
               have HI10 := Aside0.mk hI
               have HB10 := Aside0.mk hb
               clear hI hb)
            | (go_at_call 20
               have hF := Kd.F_step (Kd.F_mono (Kd.R_F (Kd.R_bound HRg.out)) (fun k hk => And.intro hk.2.1 hk.2.2.1)) (fun k hk hlt => HB10.out.block k hlt)
               refine (Load_calls HI10.out Ag cg G _ hF (Kd.R_reads' HRg.out).2.1 (fun k hk => ⟨fun hf => by have := hk.2; have := hf.1; omega, Nat.lt_of_lt_of_le hk.2 HB10.out.size⟩) HG64.out (by have := HGl.out; omega)).mono ?_
               rintro e w11 ⟨rfl, hto⟩
               have HTO := Aside0.mk hto
               have HI11 := Aside0.mk ((HIG.out.below HB10.out).fr hto.fr (fun k hk hf => by have := HIG.out.bound k hf; have := hk.1; omega))
               have KG1 := Group_calls HI11.out (-1)
               clear hto hF)
            | (go_at_call 31
               refine KG1.mono ?_
               clear KG1
               rintro e w12 ⟨v12, rfl, hR12, hb12⟩
               rw [group_none (Or.inl (by decide))] at hR12
               obtain ⟨A12, c12, rfl⟩ := Kd.R_slice hR12
               have HB12 := Aside0.mk hb12
               have KG2 := Group_calls (HI11.out.below HB12.out) 16
               clear hR12 hb12)
            | (go_at_call 31
               refine KG2.mono ?_
               clear KG2
               rintro e w13 ⟨v13, rfl, hR13, hb13⟩
               rw [group_none (Or.inr (by decide))] at hR13
               obtain ⟨A13, c13, rfl⟩ := Kd.R_slice hR13
               have HB13 := Aside0.mk hb13
               have KB1 := Bytes_calls ((HTO.out.is.below HB12.out).below HB13.out)
               clear hR13 hb13)
            | (go_at_call 23
               refine KB1.mono ?_
               clear KB1
               rintro e w14 ⟨v14, rfl, hR14, hb14⟩
               have hR14 : Kd.R (Kd.int .u8) 5 w14 w13.heap.size (fun _ => True) v14 (bytesB (sortP (loadL a (loadOf kind a G)))) := hR14
               rw [HLoad.out] at hR14
               obtain ⟨A14, c14, rfl⟩ := Kd.R_slice hR14
               have HR14 := Aside0.mk hR14
               have HB14 := Aside0.mk hb14
               have KB2 := Bytes_calls (((HI11.out.below HB12.out).below HB13.out).below HB14.out)
               clear hR14 hb14)
            | (go_at_call 23
               refine KB2.mono ?_
               clear KB2
               rintro e w15 ⟨v15, rfl, hR15, hb15⟩
               have hR15 : Kd.R (Kd.int .u8) 5 w15 w14.heap.size (fun _ => True) v15 (bytesB (sortP ps)) := hR15
               rw [HLE.out] at hR15
               obtain ⟨A15, c15, rfl⟩ := Kd.R_slice hR15
               have KE := bytesEq_any (Kd.C_below (Kd.R_reads' HR14.out).2.2 hb15) (Kd.R_reads' HR14.out).2.1 (Kd.R_reads' hR15).2.2 (Kd.R_reads' hR15).2.1 (by rw [bytesB_len]; have := HLn.out; omega)
               have HB15 := Aside0.mk hb15
               clear hR15 hb15)
            | (go_at_call 27
               refine KE.mono ?_
               clear KE
               rintro e w16 ⟨rfl, hb16⟩
               have HB16 := Aside0.mk hb16
               clear hb16)
            | fail)
          go_ret
          refine ⟨rfl, ?_⟩
          have b10 := HBG.out.trans (HB10.out.mono HBG.out.size)
          have b11 := b10.trans (HTO.out.fr.toBelow (B := w.heap.size) b10.size (fun k _ hk => Nat.le_trans HBG.out.size hk.1))
          have b12 := b11.trans (HB12.out.mono b11.size)
          have b13 := b12.trans (HB13.out.mono b12.size)
          have b14 := b13.trans (HB14.out.mono b13.size)
          have b15 := b14.trans (HB15.out.mono b14.size)
          exact b15.trans (HB16.out.mono b15.size)
end Go.Proofs.Ytjegeghigfmkoaa.T
namespace Go.Proofs.Ytjegeghigfmkoaa.X
open Go.RowKit Go.Proofs Go.Proofs.YtjegeghigfmkoaaW.PrintWords
set_option linter.unusedVariables false
open Classical in
noncomputable def leatlaw12_StateGroups.f (a0_0 a0_1 a0_2 a1 : Int) (l2 : List S39) : Option Bool := if ∀ r ∈ l2, T.I64 r.f0 ∧ T.I64 r.f2 then some true else none
theorem leatlaw12_StateGroups.calls (a0_0 a0_1 a0_2 a1 : Int) (A2 : Option Addr) (c2 : Nat) (l2 : List S39) (r : Bool) (w : World) (hr2 : Kd.C k39 w A2 l2.length l2) (hc2 : l2.length ≤ c2) (h : leatlaw12_StateGroups.f a0_0 a0_1 a0_2 a1 l2 = some r) :
    Calls Try.prog 7 #[.agg #[.int .i64 a0_0, .int .i64 a0_1, .int .i64 a0_2], .int .i64 a1, .slice A2 l2.length c2] w fun e w' => e = .returned (.bool r) ∧ Below w.heap.size w w' := by
  unfold leatlaw12_StateGroups.f at h
  split at h
  · rename_i hc
    cases h
    exact T.StateGroups_calls w a0_0 a0_1 a0_2 a1 A2 c2 l2 ⟨fun W hb => Kd.C_below hr2 hb, hc⟩ hc2
  · cases h
end Go.Proofs.Ytjegeghigfmkoaa.X
