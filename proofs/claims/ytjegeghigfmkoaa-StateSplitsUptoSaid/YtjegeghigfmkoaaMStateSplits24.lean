/- Walk of State.Bytes. Conditions: those typed. -/
import Derived.Test.YtjegeghigfmkoaaMStateSplits21
import Derived.Test.YtjegeghigfmkoaaMStateSplits23
import Derived.Test.YtjegeghigfmkoaaMStateSplits11
import Derived.Test.YtjegeghigfmkoaaMStateSplits18
import Derived.Test.YtjegeghigfmkoaaMStateSplits20
import Derived.Test.YtjegeghigfmkoaaMStateSplits19
import Derived.Test.YtjegeghigfmkoaaMStateSplits17
namespace Go.Proofs.Ytjegeghigfmkoaa.T
open Go.RowKit Go.Maps Go.Sort Go.Proofs Go.Proofs.Ytjegeghigfmkoaa Go.Proofs.Ytjegeghigfmkoaa.X Go.Proofs.YtjegeghigfmkoaaW.PrintWords Go.Proofs.YtjegeghigfmkoaaW.PrintLast Go.Proofs.YtjegeghigfmkoaaW.PrintMore
set_option linter.unusedVariables false
set_option linter.unusedSimpArgs false
set_option maxRecDepth 100000
variable {F : Nat → Prop} {N : Nat} {w w' : World} {q b1 b2 : Nat} {tv : Value} {tm : List Int} {s : St}
theorem num_in {w0 : World} {B : Nat} {v : Value} {b : List Int} {m : Nat} (n : Int) (hm : m ≤ 8) (hb : Below w0.heap.size w0 w) (hw : w0.heap.size ≤ B) (hBw : B ≤ w.heap.size) (hR : Kd.R (Kd.int .u8) 5 w w0.heap.size (fun k => B ≤ k) v b) (hl : b.length ≤ 100000000) :
    Calls Try.prog 50 #[v, .int .u64 n, .int .i64 (m : Int)] w fun e w' => ∃ v', e = .returned v' ∧ Kd.R (Kd.int .u8) 5 w' w0.heap.size (fun k => B ≤ k) v' (b ++ numB n m) ∧ Below w0.heap.size w0 w' ∧ Kept w w' (fun k => B ≤ k) := by
  obtain ⟨k, hk⟩ := number_ev n m b hm (by omega)
  refine (state_number.calls k (fun k => B ≤ k) v b n m _ w0 w hb hR (hk k (Nat.le_refl _))).mono ?_
  rintro e w' ⟨v', rfl, h1, h2, h3⟩
  exact ⟨v', rfl, Kd.R_mono h1 (fun k hk => hk.elim id (fun h => Nat.le_trans hBw h)), h2, h3⟩
def partB (p : S70) : Nat → List Int
  | 0 => []
  | 1 => numB (IntKind.u64.wrap p.f0) 8
  | 2 => numB (IntKind.u64.wrap p.f0) 8 ++ numB (IntKind.u64.wrap p.f1.f0) 8
  | 3 => numB (IntKind.u64.wrap p.f0) 8 ++ numB (IntKind.u64.wrap p.f1.f0) 8 ++ numB (IntKind.u64.wrap p.f1.f1) 8
  | _ => paneB p
theorem idx107 (a b c d : Int) (j : Nat) (hj : j < 4) (w : World) : (Instr.index 107 (.agg #[.int .i64 a, .int .i64 b, .int .i64 c, .int .i64 d]) (.int .i64 (j : Int))).run Try.prog w = .ok (#[Value.int .i64 a, .int .i64 b, .int .i64 c, .int .i64 d][j]) w := by
  rcases j with _ | _ | _ | _ | j
  all_goals first | omega | skip
  all_goals simp [Instr.index, run_underlying Try.underlying107, asIntOf, go_sem]
structure Lb (w w1 : World) (A1 : Option Addr) (ps : List S70) (b : List Int) (wr : World) (v : Value) : Prop where
  row : Kd.R (Kd.int .u8) 5 wr w.heap.size (fun k => w1.heap.size ≤ k) v b
  pan : Kd.F k70 wr (fun k => k < w1.heap.size) A1 ps.length ps
  bl : Below w.heap.size w wr
  sz : w1.heap.size ≤ wr.heap.size
theorem Lb.alloc {w1 wr : World} {A1 : Option Addr} {ps : List S70} {b : List Int} {v : Value} (h : Lb w w1 A1 ps b wr v) (o : Obj) : Lb w w1 A1 ps b (wr.alloc o) v :=
  ⟨Kd.R_below h.row ((Below.refl _ wr).alloc (Nat.le_refl _) o), Kd.F_alloc h.pan o, h.bl.alloc h.bl.size o, by have := h.sz; simp; omega⟩
theorem Lb.num {w1 wr : World} {A1 : Option Addr} {ps : List S70} {b : List Int} {v : Value} (h : Lb w w1 A1 ps b wr v) (hw : w.heap.size ≤ w1.heap.size) (hl : b.length ≤ 100000000) (n : Int) :
    Calls Try.prog 50 #[v, .int .u64 n, .int .i64 8] wr fun e w' => ∃ v', e = .returned v' ∧ Lb w w1 A1 ps (b ++ numB n 8) w' v' := by
  refine (num_in (w0 := w) (B := w1.heap.size) (m := 8) n (by decide) h.bl hw h.sz h.row hl).mono ?_
  rintro e w2 ⟨v2, rfl, hR2, hb2, hk2⟩
  exact ⟨v2, rfl, hR2, Kd.F_kept h.pan hk2 (fun k hk hh => by have hh : w1.heap.size ≤ k := hh; have hk : k < w1.heap.size := hk; omega), hb2, Nat.le_trans h.sz hk2.1⟩
def ps0 (ps : List S70) (i : Nat) : List Int := numB (IntKind.u64.wrap (ps.length : Int)) 4 ++ panesB (ps.take i)
theorem ps0_len (ps : List S70) (i : Nat) (h : ps.length ≤ 1000000) : (ps0 ps i).length ≤ 50000000 := by
  unfold ps0
  rw [List.length_append, numB_len, panesB_len, List.length_take]
  omega
theorem ps0_next {ps : List S70} {i : Nat} (h : i < ps.length) : ps0 ps (i + 1) = ps0 ps i ++ paneB ps[i] := by
  unfold ps0
  rw [← List.take_append_getElem h, List.append_assoc]
  unfold panesB
  rw [List.flatMap_append]
  simp
theorem partB_len (p : S70) (j : Nat) : (partB p j).length ≤ 32 := by
  rcases j with _ | _ | _ | _ | j <;> simp [partB, numB_len, paneB_len]
theorem partB_next1 (b : List Int) (p : S70) : b ++ partB p 0 ++ numB (IntKind.u64.wrap p.f0) 8 = b ++ partB p 1 := by simp [partB]
theorem partB_next2 (b : List Int) (p : S70) : b ++ partB p 1 ++ numB (IntKind.u64.wrap p.f1.f0) 8 = b ++ partB p 2 := by simp [partB]
theorem partB_next3 (b : List Int) (p : S70) : b ++ partB p 2 ++ numB (IntKind.u64.wrap p.f1.f1) 8 = b ++ partB p 3 := by simp [partB]
theorem partB_next4 (b : List Int) (p : S70) : b ++ partB p 3 ++ numB (IntKind.u64.wrap p.f2) 8 = b ++ partB p 4 := by simp [partB, paneB]
set_option maxHeartbeats 4000000 in
theorem Bytes_calls (h : IsS F N w q s) : Calls Try.prog 23 #[.pointer (some ⟨q, 0, none⟩)] w fun e w' => ∃ v, e = .returned v ∧ Kd.R (Kd.int .u8) 5 w' w.heap.size (fun _ => True) v (bytesB (sortP s.ps)) ∧ Below w.heap.size w w' := by
  have HI := Aside0.mk h
  have HL := Aside0.mk (show (sortP s.ps).length ≤ 1000000 by rw [sortP_len]; exact Nat.le_trans h.len h.small)
  clear h
  generalize hps : sortP s.ps = ps at HL ⊢
  have HPS := Aside0.mk hps
  clear hps
  go_enter Try.func23, Try.ntmps23
  go_wp2_with (first
    | (go_at_call 21
       refine (Panes_calls HI.out).mono ?_
       rintro e w1 ⟨v1, rfl, hR1, hb1⟩
       rw [HPS.out] at hR1
       obtain ⟨A1, c1, rfl⟩ := Kd.R_slice hR1
       have HF1 := Aside0.mk (Kd.F_mono (Kd.R_F (Kd.R_bound hR1)) (fun k hk => hk.2.2.1))
       have HB1 := Aside0.mk hb1
       clear hR1 hb1)
    | (go_at_call 50
       refine (num_in (w0 := w) (B := w1.heap.size) (b := []) (m := 4) _ (by decide) HB1.out HB1.out.size (Nat.le_refl _) (Kd.R_nil _ _ _ _ _) (by simp)).mono ?_
       rintro e w2 ⟨v2, rfl, hR2, hb2, hk2⟩
       have HR2 := Aside0.mk hR2
       have HB2 := Aside0.mk hb2
       have SZ := Aside0.mk hk2.1
       have HF2 := Aside0.mk (Kd.F_kept HF1.out hk2 (fun k hk hh => by have hh : w1.heap.size ≤ k := hh; have hk : k < w1.heap.size := hk; omega))
       clear hR2 hb2 hk2))
  have HLB : Aside0 (Lb w w1 A1 ps (ps0 ps 0) w2 v2) := ⟨⟨by simpa [ps0, panesB] using HR2.out, HF2.out, HB2.out, SZ.out⟩⟩
  clear HR2 HF2 HB2 SZ
  go_loopg [4, 17] ps.length (fun kx s4 s17 wr => ∃ (i : Nat), s17 = .int .i64 i ∧ ps.length - i ≤ kx ∧ i ≤ ps.length ∧ Aside0 (Lb w w1 A1 ps (ps0 ps i) wr s4))
  case atStart => exact ⟨0, rfl, by omega, by omega, HLB⟩
  case round =>
    clear HLB
    obtain ⟨i, rfl, hkx, hi, HQ⟩ := hrel
    by_cases hlt : i < ps.length
    · have hlz : ((i : Int) < (ps.length : Int)) := by omega
      have hiz : (0 : Int) ≤ (i : Int) := by omega
      obtain ⟨ad, rfl, x0, x1, x2, x3⟩ := at_T70 (Kd.F_now HQ.out.pan) (i : Int) hiz hlz
      obtain ⟨z, hz⟩ : ∃ z : S70, ps[i] = z := ⟨_, rfl⟩
      have hgd : rd_T70 ps (i : Int) = z := by rw [← hz]; simp [rd_T70, hlt]
      rw [hgd] at x0 x1 x2 x3
      have hin : ((i : Int)).toNat = i := by omega
      rw [hin] at x0 x1 x2 x3
      have HZ : Aside0 (ps0 ps (i + 1) = ps0 ps i ++ partB z 4) := ⟨by rw [ps0_next hlt, hz]; rfl⟩
      have hwi : wrap64 ((i : Int) + 1) = ((i + 1 : Nat) : Int) := by have := HL.out; unfold wrap64; omega
      have HI1 := Aside0.mk (And.intro hkx (And.intro hi hlt))
      clear hkx hi hz hgd hin hlt
      go_wp2_with fail
      have HX0 : Aside0 (Lb w w1 (some ad) ps (ps0 ps i ++ partB z 0) (wr.alloc (.cells #[.int .i64 z.f0, .int .i64 z.f1.f0, .int .i64 z.f1.f1, .int .i64 z.f2] 70)) _) := ⟨by simpa [partB] using HQ.out.alloc (.cells #[.int .i64 z.f0, .int .i64 z.f1.f0, .int .i64 z.f1.f1, .int .i64 z.f2] 70)⟩
      generalize (wr.alloc (.cells #[.int .i64 z.f0, .int .i64 z.f1.f0, .int .i64 z.f1.f1, .int .i64 z.f2] 70)) = w4 at HX0 ⊢
      clear x0 x1 x2 x3 HQ
      go_loopg [4, 32] 4 (fun ky s4 s32 wr => ∃ (j : Nat), ((j = 0 ∧ s32 = .int .i64 0) ∨ (j = 1 ∧ s32 = .int .i64 1) ∨ (j = 2 ∧ s32 = .int .i64 2) ∨ (j = 3 ∧ s32 = .int .i64 3) ∨ (j = 4 ∧ s32 = .int .i64 4)) ∧ 4 - j ≤ ky ∧ Aside0 (Lb w w1 (some ad) ps (ps0 ps i ++ partB z j) wr s4))
      case atStart => exact ⟨0, Or.inl ⟨rfl, rfl⟩, by decide, HX0⟩
      case round =>
        clear HX0
        obtain ⟨j, hj, hky, HX⟩ := hrel
        rcases hj with ⟨rfl, rfl⟩ | ⟨rfl, rfl⟩ | ⟨rfl, rfl⟩ | ⟨rfl, rfl⟩ | ⟨rfl, rfl⟩
        · have ij : ∀ W, (Instr.index 107 (aggP z) (.int .i64 0)).run Try.prog W = .ok (.int .i64 z.f0) W := fun W => idx107 _ _ _ _ 0 (by decide) W
          go_wp2_with (go_at_call 50; refine (HX.out.num HB1.out.size (by have h1 := ps0_len ps i HL.out; have h2 := partB_len z 0; rw [List.length_append]; omega) _).mono ?_; rintro e w5 ⟨v5, rfl, hx⟩; rw [partB_next1] at hx; have HX5 := Aside0.mk hx; clear hx)
          go_roundg (4 - 1)
          case measure => omega
          case rel => exact ⟨1, Or.inr (Or.inl ⟨rfl, rfl⟩), Nat.le_refl _, HX5⟩
        · have ij : ∀ W, (Instr.index 107 (aggP z) (.int .i64 1)).run Try.prog W = .ok (.int .i64 z.f1.f0) W := fun W => idx107 _ _ _ _ 1 (by decide) W
          go_wp2_with (go_at_call 50; refine (HX.out.num HB1.out.size (by have h1 := ps0_len ps i HL.out; have h2 := partB_len z 1; rw [List.length_append]; omega) _).mono ?_; rintro e w5 ⟨v5, rfl, hx⟩; rw [partB_next2] at hx; have HX5 := Aside0.mk hx; clear hx)
          go_roundg (4 - 2)
          case measure => omega
          case rel => exact ⟨2, Or.inr (Or.inr (Or.inl ⟨rfl, rfl⟩)), Nat.le_refl _, HX5⟩
        · have ij : ∀ W, (Instr.index 107 (aggP z) (.int .i64 2)).run Try.prog W = .ok (.int .i64 z.f1.f1) W := fun W => idx107 _ _ _ _ 2 (by decide) W
          go_wp2_with (go_at_call 50; refine (HX.out.num HB1.out.size (by have h1 := ps0_len ps i HL.out; have h2 := partB_len z 2; rw [List.length_append]; omega) _).mono ?_; rintro e w5 ⟨v5, rfl, hx⟩; rw [partB_next3] at hx; have HX5 := Aside0.mk hx; clear hx)
          go_roundg (4 - 3)
          case measure => omega
          case rel => exact ⟨3, Or.inr (Or.inr (Or.inr (Or.inl ⟨rfl, rfl⟩))), Nat.le_refl _, HX5⟩
        · have ij : ∀ W, (Instr.index 107 (aggP z) (.int .i64 3)).run Try.prog W = .ok (.int .i64 z.f2) W := fun W => idx107 _ _ _ _ 3 (by decide) W
          go_wp2_with (go_at_call 50; refine (HX.out.num HB1.out.size (by have h1 := ps0_len ps i HL.out; have h2 := partB_len z 3; rw [List.length_append]; omega) _).mono ?_; rintro e w5 ⟨v5, rfl, hx⟩; rw [partB_next4] at hx; have HX5 := Aside0.mk hx; clear hx)
          go_roundg (4 - 4)
          case measure => omega
          case rel => exact ⟨4, Or.inr (Or.inr (Or.inr (Or.inr (⟨rfl, rfl⟩)))), Nat.le_refl _, HX5⟩
        · go_wp2
          rw [hwi]
          go_roundg (ps.length - (i + 1))
          case measure => have := HI1.out; omega
          case rel => exact ⟨i + 1, rfl, Nat.le_refl _, HI1.out.2.2, ⟨by rw [HZ.out]; exact HX.out⟩⟩
    · have hlz : ¬ ((i : Int) < (ps.length : Int)) := by omega
      have HI1 := Aside0.mk (show i = ps.length from by omega)
      clear hlt hkx hi
      go_wp2
      go_ret
      have hR := HQ.out.row
      rw [HI1.out, ps0, List.take_length] at hR
      exact ⟨_, rfl, Kd.R_mono hR (fun _ _ => trivial), HQ.out.bl⟩
end Go.Proofs.Ytjegeghigfmkoaa.T
namespace Go.Proofs.Ytjegeghigfmkoaa.T
open Go.RowKit Go.Maps Go.Sort Go.Proofs Go.Proofs.Ytjegeghigfmkoaa Go.Proofs.Ytjegeghigfmkoaa.X Go.Proofs.YtjegeghigfmkoaaW.PrintWords Go.Proofs.YtjegeghigfmkoaaW.PrintLast Go.Proofs.YtjegeghigfmkoaaW.PrintMore
set_option linter.unusedVariables false
set_option linter.unusedSimpArgs false
set_option maxRecDepth 100000
variable {F : Nat → Prop} {N : Nat} {w w' : World} {q b1 b2 : Nat} {tv : Value} {tm : List Int} {s : St}
noncomputable def readB (b : List Int) : List S70 := parseN ((b.length - 4) / 32) (b.drop 4)
noncomputable def openL (kind a : Int) (b : List Int) : List S70 := loadL a (loadOf kind a (readB b))
def FormB (b : List Int) : Prop := 4 ≤ b.length ∧ b.length % 32 = 4
def OpenOk (kind a : Int) (b : List Int) : Prop := FormB b ∧ bytesB (sortP (openL kind a b)) = b
theorem mod32 {n : Nat} : Int.tmod (n : Int) 32 = ((n % 32 : Nat) : Int) := by
  rw [Int.tmod_eq_emod_of_nonneg (by omega)]
  rfl
theorem cut_run (A : Option Addr) (n c lo : Nat) (h : lo ≤ n) (hc : n ≤ c) (W : World) : (Instr.slice 58 (.slice A n c) (some (.int .i64 (lo : Int))) none none).run Try.prog W = .ok (.slice (if c = lo then A else A.map (·.add (lo * (Kd.int .u8).sz))) (n - lo) (c - lo)) W := by
  have e : (Kd.int .u8).sz = 1 := rfl
  rw [e, Nat.mul_one]
  by_cases h0 : c = lo
  · subst h0
    simp [Instr.slice, run_underlying Try.underlying58, Instr.sliceBounds, go_sem]
    intro; omega
  · simp [Instr.slice, run_underlying Try.underlying58, Instr.sliceBounds, go_sem]
    intro; omega
theorem mid_run (A : Option Addr) (n c lo hi : Nat) (h : lo ≤ hi) (hh : hi ≤ n) (hc : n ≤ c) (W : World) : (Instr.slice 58 (.slice A n c) (some (.int .i64 (lo : Int))) (some (.int .i64 (hi : Int))) none).run Try.prog W = .ok (.slice (if c = lo then A else A.map (·.add (lo * (Kd.int .u8).sz))) (hi - lo) (c - lo)) W := by
  have e : (Kd.int .u8).sz = 1 := rfl
  rw [e, Nat.mul_one]
  have h3 : hi ≤ c := by omega
  by_cases h0 : c = lo
  · subst h0
    simp [Instr.slice, run_underlying Try.underlying58, Instr.sliceBounds, go_sem, h, h3]
    try (intro; omega)
  · simp [Instr.slice, run_underlying Try.underlying58, Instr.sliceBounds, go_sem, h, h3]
    try (intro; omega)
theorem to_run (A : Option Addr) (n c hi : Nat) (hh : hi ≤ n) (hc : n ≤ c) (W : World) : (Instr.slice 58 (.slice A n c) none (some (.int .i64 (hi : Int))) none).run Try.prog W = .ok (.slice A hi c) W := by
  have h3 : hi ≤ c := by omega
  simp [Instr.slice, run_underlying Try.underlying58, Instr.sliceBounds, go_sem, h3]
def Byt (w : World) (A : Option Addr) (l : List Int) : Prop := ∀ W, Below w.heap.size w W → Kd.C (Kd.int .u8) W A l.length l
theorem Byt.taken {A : Option Addr} {l : List Int} (h : Byt w A l) (c : Nat) (hc : l.length ≤ c) (hl : l.length ≤ 1000) (W : World) (hb : Below w.heap.size w W) : Calls Try.prog 48 #[.slice A l.length c] W fun e w' => e = .returned (.int .i64 (takenP l)) ∧ Drawn0 W w' := by
  obtain ⟨k, hk⟩ := taken_ev l (by omega)
  exact state_taken.calls k A c l _ W (h W hb) hc (hk k (Nat.le_refl _))
structure Cut (w : World) (v : Value) (l : List Int) : Prop where
  p0 : ∃ A c, (∀ W, (Instr.slice 58 v none (some (.int .i64 8)) none).run Try.prog W = .ok (.slice A 8 c) W) ∧ ∀ W, Below w.heap.size w W → Calls Try.prog 48 #[.slice A 8 c] W fun e w' => e = .returned (.int .i64 (takenP (l.take 8))) ∧ Drawn0 W w'
  p1 : ∃ A c, (∀ W, (Instr.slice 58 v (some (.int .i64 8)) (some (.int .i64 16)) none).run Try.prog W = .ok (.slice A 8 c) W) ∧ ∀ W, Below w.heap.size w W → Calls Try.prog 48 #[.slice A 8 c] W fun e w' => e = .returned (.int .i64 (takenP ((l.take 16).drop 8))) ∧ Drawn0 W w'
  p2 : ∃ A c, (∀ W, (Instr.slice 58 v (some (.int .i64 16)) (some (.int .i64 24)) none).run Try.prog W = .ok (.slice A 8 c) W) ∧ ∀ W, Below w.heap.size w W → Calls Try.prog 48 #[.slice A 8 c] W fun e w' => e = .returned (.int .i64 (takenP ((l.take 24).drop 16))) ∧ Drawn0 W w'
  p3 : ∃ A c, (∀ W, (Instr.slice 58 v (some (.int .i64 24)) (some (.int .i64 32)) none).run Try.prog W = .ok (.slice A 8 c) W) ∧ ∀ W, Below w.heap.size w W → Calls Try.prog 48 #[.slice A 8 c] W fun e w' => e = .returned (.int .i64 (takenP ((l.take 32).drop 24))) ∧ Drawn0 W w'
theorem cut_mid {A : Option Addr} {c : Nat} {l : List Int} (h : Byt w A l) (hc : l.length ≤ c) (lo hi : Nat) (h1 : hi = lo + 8) (h2 : hi ≤ l.length) : ∃ A' c', (∀ W, (Instr.slice 58 (.slice A l.length c) (some (.int .i64 (lo : Int))) (some (.int .i64 (hi : Int))) none).run Try.prog W = .ok (.slice A' 8 c') W) ∧ ∀ W, Below w.heap.size w W → Calls Try.prog 48 #[.slice A' 8 c'] W fun e w' => e = .returned (.int .i64 (takenP ((l.take hi).drop lo))) ∧ Drawn0 W w' := by
  have e8 : hi - lo = 8 := by omega
  have hl : ((l.take hi).drop lo).length = 8 := by rw [List.length_drop, List.length_take]; omega
  refine ⟨_, _, fun W => (mid_run A l.length c lo hi (by omega) h2 hc W).trans (by rw [e8]), fun W hb => ?_⟩
  have hB : Byt w (if c = lo then A else A.map (·.add (lo * (Kd.int .u8).sz))) ((l.take hi).drop lo) := fun W hb => Kd.C_mid (h W hb) (by omega) h2 hc
  have := hB.taken (c - lo) (by omega) (by omega) W hb
  rw [hl] at this
  exact this
theorem cut_of {A : Option Addr} {c : Nat} {l : List Int} (h : Byt w A l) (hc : l.length ≤ c) (h32 : 32 ≤ l.length) : Cut w (.slice A l.length c) l := by
  refine ⟨?_, cut_mid h hc 8 16 rfl (by omega), cut_mid h hc 16 24 rfl (by omega), cut_mid h hc 24 32 rfl (by omega)⟩
  refine ⟨A, c, fun W => to_run A l.length c 8 (by omega) hc W, fun W hb => ?_⟩
  have hl : (l.take 8).length = 8 := by rw [List.length_take]; omega
  have hB : Byt w A (l.take 8) := fun W hb => Kd.C_take (h W hb) (by omega)
  have := hB.taken c (by omega) (by omega) W hb
  rw [hl] at this
  exact this
theorem cut_rest {A : Option Addr} {c : Nat} {l : List Int} (h : Byt w A l) (hc : l.length ≤ c) (lo : Nat) (hlo : lo ≤ l.length) : ∃ A' c', (∀ W, (Instr.slice 58 (.slice A l.length c) (some (.int .i64 (lo : Int))) none none).run Try.prog W = .ok (.slice A' (l.drop lo).length c') W) ∧ Byt w A' (l.drop lo) ∧ (l.drop lo).length ≤ c' :=
  ⟨_, c - lo, fun W => (cut_run A l.length c lo hlo hc W).trans (by rw [List.length_drop]), fun W hb => Kd.C_drop (h W hb) hlo hc, by rw [List.length_drop]; omega⟩
theorem parseN_snoc : ∀ (n : Nat) (l : List Int), parseN (n + 1) l = parseN n l ++ [paneOf (l.drop (32 * n))]
  | 0, l => rfl
  | n + 1, l => by
    rw [parseN, parseN_snoc n (l.drop 32), parseN, List.drop_drop]
    rw [show 32 + 32 * n = 32 * (n + 1) from by omega]
    rfl
theorem app70 {w : World} {base : Nat} {v : Value} {ps : List S70} (ho : w.ownsRow base 70 4 v ps.length (flatP ps)) (hb : base ≤ w.heap.size) (p : S70) (B : Nat) (hB : w.heap[B]? = some (.cells #[.int .i64 p.f0, .int .i64 p.f1.f0, .int .i64 p.f1.f1, .int .i64 p.f2] 70 (0, 0))) (hn : ps.length ≤ 2000000) (ty : TypeId) :
    ∃ v' w', (Builtin.append_ #[44, 44] ty #[v, .slice (some ⟨B, 0, none⟩) 1 1]).run Try.prog w = .ok v' w' ∧ w'.ownsRow base 70 4 v' (ps.length + 1) (flatP (ps ++ [p])) ∧ w.grownBy w' v.ownBlock := by
  obtain ⟨i0, hi, hz0, hz1, hz2⟩ := info_parts info70
  have hadd : ∀ j, ((⟨B, 0, none⟩ : Addr).add j) = ⟨B, j, none⟩ := fun j => by unfold Addr.add; split <;> simp_all
  obtain ⟨v', w', g1, g2, g3, _⟩ := run_append_own (P := Try.prog) w base 44 ty 70 i0 _ 4 _ Try.underlying44 hi hz0 hz1 hz2 rfl (by decide) v ps.length (flatP ps) ho ⟨B, 0, none⟩ 1 1 [.int .i64 p.f0, .int .i64 p.f1.f0, .int .i64 p.f1.f1, .int .i64 p.f2] rfl (fun j u hj => by
    rw [hadd]
    exact (blk_cell hB j).trans (by simpa using hj)) (by simp [Value.oneCell']) (by unfold maxLen; omega) (by omega) hb
  exact ⟨v', w', g1, by rw [flatP_snoc]; exact g2, g3⟩
theorem uint8_inj {x y : Int} (hx : 0 ≤ x ∧ x < 256) (hy : 0 ≤ y ∧ y < 256) (h : UInt8.ofNat x.toNat = UInt8.ofNat y.toNat) : x = y := by
  have h := congrArg UInt8.toNat h
  simp at h
  omega
def In8 (l : List Int) : Prop := ∀ x ∈ l, 0 ≤ x ∧ x < 256
theorem strOf_inj : ∀ {l m : List Int}, In8 l → In8 m → (l.map fun n => UInt8.ofNat n.toNat) = (m.map fun n => UInt8.ofNat n.toNat) → l = m
  | [], [], _, _, _ => rfl
  | [], _ :: _, _, _, h => by simp at h
  | _ :: _, [], _, _, h => by simp at h
  | x :: l, y :: m, hl, hm, h => by
    simp only [List.map_cons, List.cons.injEq] at h
    rw [uint8_inj (hl x (List.mem_cons_self ..)) (hm y (List.mem_cons_self ..)) h.1, strOf_inj (fun z hz => hl z (List.mem_cons_of_mem _ hz)) (fun z hz => hm z (List.mem_cons_of_mem _ hz)) h.2]
theorem equal_f {l m : List Int} (hl : In8 l) (hm : In8 m) : bytes_Equal.f l m = some (decide (l = m)) := by
  unfold bytes_Equal.f
  rw [ByteArray.toList_eq, ByteArray.toList_eq, strOfNums_data, strOfNums_data]
  by_cases h : l = m
  · subst h
    simp
  · rw [decide_eq_false h]
    have : ¬ (l.map fun n => UInt8.ofNat n.toNat) = (m.map fun n => UInt8.ofNat n.toNat) := fun h2 => h (strOf_inj hl hm h2)
    simpa using this
theorem numB_8 (n : Int) : ∀ s, In8 (numB n s)
  | 0 => fun x hx => by cases hx
  | s + 1 => fun x hx => by
    rcases List.mem_cons.1 hx with rfl | hx
    · omega
    · exact numB_8 n s x hx
theorem in8_app {l m : List Int} (hl : In8 l) (hm : In8 m) : In8 (l ++ m) := fun x hx => (List.mem_append.1 hx).elim (hl x) (hm x)
theorem bytesB_8 (l : List S70) : In8 (bytesB l) := by
  refine in8_app (numB_8 _ _) (fun x hx => ?_)
  obtain ⟨p, _, hp⟩ := List.mem_flatMap.1 hx
  exact in8_app (numB_8 _ _) (in8_app (numB_8 _ _) (in8_app (numB_8 _ _) (numB_8 _ _))) x hp
theorem dec2 {P : Prop} [Decidable P] : (decide P = true ∧ Aside0 P) ∨ (decide P = false ∧ Aside0 (¬ P)) := by
  by_cases h : P
  · exact Or.inl ⟨decide_eq_true h, ⟨h⟩⟩
  · exact Or.inr ⟨decide_eq_false h, ⟨h⟩⟩
theorem open_below {wr w10 w11 w12 w13 : World} {N' : Nat} (h0 : Below w.heap.size w wr) (h1 : Below wr.heap.size wr w10) (h2 : To (fun k => wr.heap.size ≤ k ∧ k < w10.heap.size) w10 w11 N' q s) (h3 : Below w11.heap.size w11 w12) (h4 : Below w12.heap.size w12 w13) : Below w.heap.size w w13 := by
  have hto : Below wr.heap.size w10 w11 := h2.fr.toBelow (B := wr.heap.size) h1.size (fun k _ hk => hk.1)
  have h5 := (h1.trans hto).trans (h3.mono (Nat.le_trans h1.size h2.fr.size))
  exact (h0.trans (h5.mono h0.size)).trans (h4.mono (Nat.le_trans h0.size h5.size))
theorem open_end {wr w10 w11 w12 w13 : World} {N' : Nat} {kind size slide a : Int} {b : List Int} (h0 : Below w.heap.size w wr) (h1 : Below wr.heap.size wr w10) (h2 : To (fun k => wr.heap.size ≤ k ∧ k < w10.heap.size) w10 w11 N' q ⟨kind, size, slide, a, openL kind a b⟩) (h3 : Below w11.heap.size w11 w12) (h4 : Below w12.heap.size w12 w13) (hok : OpenOk kind a b) (hN : N' ≤ b.length) :
    Below w.heap.size w w13 ∧ ((¬ OpenOk kind a b ∧ Ending.returned (.tuple #[.pointer (some ⟨q, 0, none⟩), .int .i64 0]) = .returned (.tuple #[.pointer none, .int .i64 120])) ∨ (OpenOk kind a b ∧ ∃ q' N', Ending.returned (.tuple #[.pointer (some ⟨q, 0, none⟩), .int .i64 0]) = .returned (.tuple #[.pointer (some ⟨q', 0, none⟩), .int .i64 0]) ∧ N' ≤ b.length ∧ IsS (fun k => w.heap.size ≤ k ∧ k < w13.heap.size) N' w13 q' ⟨kind, size, slide, a, openL kind a b⟩)) := by
  have s0 := h0.size
  have s1 := h1.size
  have s2 := h2.fr.size
  have s3 := h3.size
  have s4 := h4.size
  refine ⟨open_below h0 h1 h2 h3 h4, Or.inr ⟨hok, q, N', rfl, hN, ((h2.is.below h3).below h4).mono (fun k hk => ?_) (fun k hk => hk.2) (Nat.le_refl _) h2.is.small⟩⟩
  rcases hk with hk | hk
  · omega
  · omega
structure Lo (w w1 : World) (l0 : List Int) (Ar : Option Addr) (cr : Nat) (ps : List S70) (i : Nat) (wr : World) (v : Value) : Prop where
  row : wr.ownsRow w1.heap.size 70 4 v ps.length (flatP ps)
  bl : Below w1.heap.size w1 wr
  byt : Byt w Ar (l0.drop (32 * i))
  cap : (l0.drop (32 * i)).length ≤ cr
def Top.T7 : Bool × List (List Nat × List Nat) := (true, [([], []), ([], []), ([1], [1]), ([2], [2]), ([], []), ([4], [4]), ([5, 3], [5]), ([], []), ([7], [7]), ([8, 6], [8]), ([6, 9], [6, 9]), ([], []), ([11], [11]), ([12, 9], [12]), ([3, 10, 13], [3, 10, 13]), ([14], [14]), ([0, 15, 13], [0, 15]), ([16, 16, 0, 1, 2, 3, 4, 5, 6, 7, 8, 9, 10, 11, 12, 13, 14, 15, 16], [0, 16])])
def Top.B7 : List Nat := [0, 0, 2, 6, 0, 16, 62, 0, 128, 510, 1022, 0, 2048, 7166, 16382, 32766, 65535, 131071]
theorem Top.tab7 : rtab .any (opsOf Try.f22 7) = Top.T7 := by kernel_rfl
theorem Top.bits7 : waitsOk Top.T7.2 Top.B7 = true := by kernel_rfl
set_option maxHeartbeats 4000000 in
theorem Open_calls (w : World) (kind size slide a : Int) (A : Option Addr) (c : Nat) (b : List Int) (hC : Kd.C (Kd.int .u8) w A b.length b) (hc : b.length ≤ c) (hl : b.length ≤ 10000000) (h8 : In8 b) :
    Calls Try.prog 22 #[aggW kind size slide, .int .i64 a, .slice A b.length c] w fun e w' => Below w.heap.size w w' ∧ ((¬ OpenOk kind a b ∧ e = .returned (.tuple #[.pointer none, .int .i64 120])) ∨ (OpenOk kind a b ∧ ∃ q N', e = .returned (.tuple #[.pointer (some ⟨q, 0, none⟩), .int .i64 0]) ∧ N' ≤ b.length ∧ IsS (fun k => w.heap.size ≤ k ∧ k < w'.heap.size) N' w' q ⟨kind, size, slide, a, openL kind a b⟩)) := by
  have HC0 := Aside0.mk hC
  have HL := Aside0.mk hl
  have HC := Aside0.mk hc
  have H8 := Aside0.mk h8
  clear hC hl hc h8
  by_cases hf : FormB b
  · obtain ⟨n, hn⟩ : ∃ n, b.length = 4 + 32 * n := ⟨b.length / 32, by unfold FormB at hf; omega⟩
    have hN := Aside0.mk hn
    have hF := Aside0.mk hf
    have g1 : decide ((b.length : Int) < 4) = false := decide_eq_false (by omega)
    have g2 : Int.tmod (b.length : Int) 32 = 4 := by rw [mod32]; omega
    have g3 : ¬ ((b.length : Int) < 4) := by omega
    clear hf hn
    obtain ⟨A9, c9, hcut, hB9, hc9⟩ := cut_rest (w := w) (fun W hb => Kd.C_below HC0.out hb) HC.out 4 (by omega)
    obtain ⟨l0, hl0⟩ : ∃ l, b.drop 4 = l := ⟨_, rfl⟩
    have HL0 := Aside0.mk hl0
    rw [hl0] at hcut hB9 hc9
    have hn0 : l0.length = 32 * n := by rw [← hl0, List.length_drop]; have := hN.out; omega
    rw [hn0] at hcut
    have HN0 := Aside0.mk hn0
    have HB9 := Aside0.mk hB9
    have HC9 := Aside0.mk hc9
    have HNL : Aside0 (n ≤ 1000000) := ⟨by have := HL.out; have := hN.out; omega⟩
    have hcut : ∀ W, (Instr.slice 58 (.slice A b.length c) (some (.int .i64 4)) none none).run Try.prog W = .ok (.slice A9 (32 * n) c9) W := hcut
    clear hl0 hn0 hB9 hc9
    go_enter Try.func22, Try.ntmps22
    go_wp2_with fail
    have HW1 := Aside0.mk (heap_alloc_new w (.cells #[.int .i64 kind, .int .i64 size, .int .i64 slide] 23))
    have HBW := Aside0.mk ((Below.refl w.heap.size w).alloc (Nat.le_refl _) (.cells #[.int .i64 kind, .int .i64 size, .int .i64 slide] 23))
    generalize (w.alloc (.cells #[.int .i64 kind, .int .i64 size, .int .i64 slide] 23)) = w1 at HW1 HBW ⊢
    have HLO : Aside0 (Lo w w1 l0 A9 c9 [] 0 w1 (.slice none 0 0)) := ⟨⟨World.ownsRow_nil _ _ _ _, Below.refl _ _, by simpa using HB9.out, by simpa using HC9.out⟩⟩
    clear HB9 HC9 g1 g2 g3 hcut
    go_loopg [8, 9] n (fun kx s8 s9 wr => ∃ (i : Nat) (Ar : Option Addr) (cr : Nat), s9 = .slice Ar (32 * (n - i)) cr ∧ n - i ≤ kx ∧ i ≤ n ∧ Aside0 (Lo w w1 l0 Ar cr (parseN i l0) i wr s8))
    case atStart => exact ⟨0, A9, c9, rfl, by omega, by omega, HLO⟩
    case round =>
      clear HLO
      obtain ⟨i, Ar, cr, rfl, hkx, hi, HQ⟩ := hrel
      by_cases hlt : i < n
      · have hlz : (((32 * (n - i) : Nat)) : Int) > 0 := by omega
        have hrl : (l0.drop (32 * i)).length = 32 * (n - i) := by rw [List.length_drop, HN0.out]; omega
        have hcut := cut_of HQ.out.byt HQ.out.cap (by rw [hrl]; omega)
        rw [hrl] at hcut
        obtain ⟨B0, d0, r0, K0⟩ := hcut.p0
        obtain ⟨B1, d1, r1, K1⟩ := hcut.p1
        obtain ⟨B2, d2, r2, K2⟩ := hcut.p2
        obtain ⟨B3, d3, r3, K3⟩ := hcut.p3
        obtain ⟨z, hz⟩ : ∃ z, paneOf (l0.drop (32 * i)) = z := ⟨_, rfl⟩
        have hz0 : takenP ((l0.drop (32 * i)).take 8) = z.f0 := by rw [← hz]; rfl
        have hz1 : takenP (((l0.drop (32 * i)).take 16).drop 8) = z.f1.f0 := by rw [← hz]; rfl
        have hz2 : takenP (((l0.drop (32 * i)).take 24).drop 16) = z.f1.f1 := by rw [← hz]; rfl
        have hz3 : takenP (((l0.drop (32 * i)).take 32).drop 24) = z.f2 := by rw [← hz]; rfl
        rw [hz0] at K0
        rw [hz1] at K1
        rw [hz2] at K2
        rw [hz3] at K3
        obtain ⟨A10, c10, hrest, hB10, hc10⟩ := cut_rest HQ.out.byt HQ.out.cap 32 (by rw [hrl]; omega)
        rw [hrl, List.drop_drop, show 32 * i + 32 = 32 * (i + 1) from by omega] at hrest
        rw [List.drop_drop, show 32 * i + 32 = 32 * (i + 1) from by omega] at hB10 hc10
        rw [show (l0.drop (32 * (i + 1))).length = 32 * (n - (i + 1)) from by rw [List.length_drop, HN0.out]; omega] at hrest
        have hrest : ∀ W, (Instr.slice 58 (.slice Ar (32 * (n - i)) cr) (some (.int .i64 32)) none none).run Try.prog W = .ok (.slice A10 (32 * (n - (i + 1))) c10) W := hrest
        have HP : Aside0 (parseN (i + 1) l0 = parseN i l0 ++ [z]) := ⟨by rw [parseN_snoc, hz]⟩
        have HB10 := Aside0.mk hB10
        have HC10 := Aside0.mk hc10
        have K0 := Aside0.mk K0
        have K1 := Aside0.mk K1
        have K2 := Aside0.mk K2
        have K3 := Aside0.mk K3
        have HI1 := Aside0.mk (And.intro hkx (And.intro hi hlt))
        clear hkx hi hlt hz hz0 hz1 hz2 hz3 hrl hcut hB10 hc10
        go_wp2_with fail
        refine start_ (n := 18) (S := fun w' => True) (ds := []) #[false, false, false, false, false, false, false, false, false, false, false, false, false, false, false, false, false, false] (by kernel_rfl) rfl rfl trivial (fun hHeld => ?_); refine with_tabW Top.tab7 Top.bits7 (fun HT_ HW_ => ?_)
        have HBd := Aside0.mk (HQ.out.bl.drew)
        have HOd := Aside0.mk (pw_own_below HQ.out.row (below_drew (Below.refl wr.heap.size wr)))
        generalize World.drew wr = w3 at HBd HOd hHeld ⊢
        refine pure_ (i := 0) (N := some 27) (v := ?_) (a' := ?_) #[true, false, false, false, false, false, false, false, false, false, false, false, false, false, false, false, false, false] rfl rfl (any_of HT_.out (by kernel_rfl)) (fun _ _ _ h => h) (Or.inl ⟨by rfl, ?_⟩) ?_ ?_
        rotate_left
        · intro w'
          go_simp
          with_reducible rfl
        rotate_left
        · simp only [Act.put, List.setIfInBounds_toArray, List.set_cons_zero, List.set_cons_succ, i64_w, i32_w]
          rfl
        refine pure_ (i := 1) (N := some 28) (v := ?_) (a' := ?_) #[true, true, false, false, false, false, false, false, false, false, false, false, false, false, false, false, false, false] rfl rfl (any_of HT_.out (by kernel_rfl)) (fun _ _ _ h => h) (Or.inl ⟨by rfl, ?_⟩) ?_ ?_
        rotate_left
        · intro w'
          go_simp
          with_reducible rfl
        rotate_left
        · simp only [Act.put, List.setIfInBounds_toArray, List.set_cons_zero, List.set_cons_succ, i64_w, i32_w]
          rfl
        refine pure_ (i := 2) (N := some 29) (v := ?_) (a' := ?_) #[true, true, true, false, false, false, false, false, false, false, false, false, false, false, false, false, false, false] rfl rfl (any_of HT_.out (by kernel_rfl)) (fun _ _ _ h => h) (Or.inl ⟨by rfl, ?_⟩) ?_ ?_
        rotate_left
        · intro w'
          go_simp
          with_reducible rfl
        rotate_left
        · simp only [Act.put, List.setIfInBounds_toArray, List.set_cons_zero, List.set_cons_succ, i64_w, i32_w]
          rfl
        refine pure_ (i := 4) (N := some 31) (v := ?_) (a' := ?_) #[true, true, true, false, true, false, false, false, false, false, false, false, false, false, false, false, false, false] rfl rfl (any_of HT_.out (by kernel_rfl)) (fun _ _ _ h => h) (Or.inl ⟨by rfl, ?_⟩) ?_ ?_
        rotate_left
        · intro w'
          go_simp
          with_reducible rfl
        rotate_left
        · simp only [Act.put, List.setIfInBounds_toArray, List.set_cons_zero, List.set_cons_succ, i64_w, i32_w]
          rfl
        refine pure_ (i := 5) (N := some 32) (v := ?_) (a' := ?_) #[true, true, true, false, true, true, false, false, false, false, false, false, false, false, false, false, false, false] rfl rfl (any_of HT_.out (by kernel_rfl)) (fun _ _ _ h => h) (Or.inl ⟨by rfl, ?_⟩) ?_ ?_
        rotate_left
        · intro w'
          go_simp
          with_reducible rfl
        rotate_left
        · simp only [Act.put, List.setIfInBounds_toArray, List.set_cons_zero, List.set_cons_succ, i64_w, i32_w]
          rfl
        refine pure_ (i := 7) (N := some 34) (v := ?_) (a' := ?_) #[true, true, true, false, true, true, false, true, false, false, false, false, false, false, false, false, false, false] rfl rfl (any_of HT_.out (by kernel_rfl)) (fun _ _ _ h => h) (Or.inl ⟨by rfl, ?_⟩) ?_ ?_
        rotate_left
        · intro w'
          go_simp
          with_reducible rfl
        rotate_left
        · simp only [Act.put, List.setIfInBounds_toArray, List.set_cons_zero, List.set_cons_succ, i64_w, i32_w]
          rfl
        refine pure_ (i := 8) (N := some 35) (v := ?_) (a' := ?_) #[true, true, true, false, true, true, false, true, true, false, false, false, false, false, false, false, false, false] rfl rfl (any_of HT_.out (by kernel_rfl)) (fun _ _ _ h => h) (Or.inl ⟨by rfl, ?_⟩) ?_ ?_
        rotate_left
        · intro w'
          go_simp
          with_reducible rfl
        rotate_left
        · simp only [Act.put, List.setIfInBounds_toArray, List.set_cons_zero, List.set_cons_succ, i64_w, i32_w]
          rfl
        refine pure_ (i := 11) (N := some 38) (v := ?_) (a' := ?_) #[true, true, true, false, true, true, false, true, true, false, false, true, false, false, false, false, false, false] rfl rfl (any_of HT_.out (by kernel_rfl)) (fun _ _ _ h => h) (Or.inl ⟨by rfl, ?_⟩) ?_ ?_
        rotate_left
        · intro w'
          go_simp
          with_reducible rfl
        rotate_left
        · simp only [Act.put, List.setIfInBounds_toArray, List.set_cons_zero, List.set_cons_succ, i64_w, i32_w]
          rfl
        refine pure_ (i := 12) (N := some 39) (v := ?_) (a' := ?_) #[true, true, true, false, true, true, false, true, true, false, false, true, true, false, false, false, false, false] rfl rfl (any_of HT_.out (by kernel_rfl)) (fun _ _ _ h => h) (Or.inl ⟨by rfl, ?_⟩) ?_ ?_
        rotate_left
        · intro w'
          go_simp
          with_reducible rfl
        rotate_left
        · simp only [Act.put, List.setIfInBounds_toArray, List.set_cons_zero, List.set_cons_succ, i64_w, i32_w]
          rfl
        clear r0 r1 r2 r3
        refine one_ (i := 3) (N := some 30) #[true, true, true, true, true, true, false, true, true, false, false, true, true, false, false, false, false, false] rfl rfl (one_of HT_.out (by kernel_rfl)) (by decide) (fun K hK => ?_)
        refine goes_ Try.func48 (by kernel_rfl) rfl #[.slice B0 8 d0] (by rfl) rfl rfl (by (try simp only [List.map_toArray, List.map_cons, List.map_nil]); first | done | rfl) ?_
        refine (K0.out _ (HBW.out.trans (HBd.out.mono HBW.out.size))).mono ?_
        rintro e w4 ⟨rfl, hd0⟩
        refine ⟨_, rfl, ?_⟩
        have HBd := Aside0.mk (HBd.out.trans (hd0.below.mono HBd.out.size))
        have HOd := Aside0.mk (pw_own_below HOd.out hd0.below)
        clear hd0 K0
        refine hK.out _ _ trivial (fun hHeld => ?_)
        clear hK K
        refine norm_ (a' := ?_) ?_ ?_
        rotate_left
        · show Act.put _ (some 30) _ = _
          simp only [Act.put, List.setIfInBounds_toArray, List.set_cons_zero, List.set_cons_succ, i64_w, i32_w]
          rfl
        refine one_ (i := 6) (N := some 33) #[true, true, true, true, true, true, true, true, true, false, false, true, true, false, false, false, false, false] rfl rfl (one_of HT_.out (by kernel_rfl)) (by decide) (fun K hK => ?_)
        refine goes_ Try.func48 (by kernel_rfl) rfl #[.slice B1 8 d1] (by rfl) rfl rfl (by (try simp only [List.map_toArray, List.map_cons, List.map_nil]); first | done | rfl) ?_
        refine (K1.out _ (HBW.out.trans (HBd.out.mono HBW.out.size))).mono ?_
        rintro e w5 ⟨rfl, hd1⟩
        refine ⟨_, rfl, ?_⟩
        have HBd := Aside0.mk (HBd.out.trans (hd1.below.mono HBd.out.size))
        have HOd := Aside0.mk (pw_own_below HOd.out hd1.below)
        clear hd1 K1
        refine hK.out _ _ trivial (fun hHeld => ?_)
        clear hK K
        refine norm_ (a' := ?_) ?_ ?_
        rotate_left
        · show Act.put _ (some 33) _ = _
          simp only [Act.put, List.setIfInBounds_toArray, List.set_cons_zero, List.set_cons_succ, i64_w, i32_w]
          rfl
        refine one_ (i := 9) (N := some 36) #[true, true, true, true, true, true, true, true, true, true, false, true, true, false, false, false, false, false] rfl rfl (one_of HT_.out (by kernel_rfl)) (by decide) (fun K hK => ?_)
        refine goes_ Try.func48 (by kernel_rfl) rfl #[.slice B2 8 d2] (by rfl) rfl rfl (by (try simp only [List.map_toArray, List.map_cons, List.map_nil]); first | done | rfl) ?_
        refine (K2.out _ (HBW.out.trans (HBd.out.mono HBW.out.size))).mono ?_
        rintro e w6 ⟨rfl, hd2⟩
        refine ⟨_, rfl, ?_⟩
        have HBd := Aside0.mk (HBd.out.trans (hd2.below.mono HBd.out.size))
        have HOd := Aside0.mk (pw_own_below HOd.out hd2.below)
        clear hd2 K2
        refine hK.out _ _ trivial (fun hHeld => ?_)
        clear hK K
        refine norm_ (a' := ?_) ?_ ?_
        rotate_left
        · show Act.put _ (some 36) _ = _
          simp only [Act.put, List.setIfInBounds_toArray, List.set_cons_zero, List.set_cons_succ, i64_w, i32_w]
          rfl
        refine pure_ (i := 10) (N := some 37) (v := ?_) (a' := ?_) #[true, true, true, true, true, true, true, true, true, true, true, true, true, false, false, false, false, false] rfl rfl (any_of HT_.out (by kernel_rfl)) (fun _ _ _ h => h) (Or.inl ⟨by rfl, ?_⟩) ?_ ?_
        rotate_left
        · intro w'
          go_simp
          with_reducible rfl
        rotate_left
        · simp only [Act.put, List.setIfInBounds_toArray, List.set_cons_zero, List.set_cons_succ, i64_w, i32_w]
          rfl
        refine one_ (i := 13) (N := some 40) #[true, true, true, true, true, true, true, true, true, true, true, true, true, true, false, false, false, false] rfl rfl (one_of HT_.out (by kernel_rfl)) (by decide) (fun K hK => ?_)
        refine goes_ Try.func48 (by kernel_rfl) rfl #[.slice B3 8 d3] (by rfl) rfl rfl (by (try simp only [List.map_toArray, List.map_cons, List.map_nil]); first | done | rfl) ?_
        refine (K3.out _ (HBW.out.trans (HBd.out.mono HBW.out.size))).mono ?_
        rintro e w7 ⟨rfl, hd3⟩
        refine ⟨_, rfl, ?_⟩
        have HBd := Aside0.mk (HBd.out.trans (hd3.below.mono HBd.out.size))
        have HOd := Aside0.mk (pw_own_below HOd.out hd3.below)
        clear hd3 K3
        refine hK.out _ _ trivial (fun hHeld => ?_)
        clear hK K
        refine norm_ (a' := ?_) ?_ ?_
        rotate_left
        · show Act.put _ (some 40) _ = _
          simp only [Act.put, List.setIfInBounds_toArray, List.set_cons_zero, List.set_cons_succ, i64_w, i32_w]
          rfl
        refine pure_ (i := 14) (N := some 41) (v := ?_) (a' := ?_) #[true, true, true, true, true, true, true, true, true, true, true, true, true, true, true, false, false, false] rfl rfl (any_of HT_.out (by kernel_rfl)) (fun _ _ _ h => h) (Or.inl ⟨by rfl, ?_⟩) ?_ ?_
        rotate_left
        · intro w'
          go_simp
          with_reducible rfl
        rotate_left
        · simp only [Act.put, List.setIfInBounds_toArray, List.set_cons_zero, List.set_cons_succ, i64_w, i32_w]
          rfl
        refine one_ (i := 15) (N := some 42) #[true, true, true, true, true, true, true, true, true, true, true, true, true, true, true, true, false, false] rfl rfl (one_of HT_.out (by kernel_rfl)) (by decide) (fun K hK => ?_)
        refine value_ (v := .slice (some ⟨w7.heap.size, 0, none⟩) 1 1) (w1 := w7.alloc (.cells #[.int .i64 z.f0, .int .i64 z.f1.f0, .int .i64 z.f1.f1, .int .i64 z.f2] 70)) (by rfl) rfl ?_ ?_
        · go_simp
          first | done | rfl | simp [Result.andThen]
        have HNB := Aside0.mk (heap_alloc_new w7 (.cells #[.int .i64 z.f0, .int .i64 z.f1.f0, .int .i64 z.f1.f1, .int .i64 z.f2] 70))
        have HBd := Aside0.mk (HBd.out.alloc HBd.out.size (.cells #[.int .i64 z.f0, .int .i64 z.f1.f0, .int .i64 z.f1.f1, .int .i64 z.f2] 70))
        have HOd := Aside0.mk (pw_own_below HOd.out ((Below.refl w7.heap.size w7).alloc (Nat.le_refl _) (.cells #[.int .i64 z.f0, .int .i64 z.f1.f0, .int .i64 z.f1.f1, .int .i64 z.f2] 70)))
        refine hK.out _ _ trivial (fun hHeld => ?_)
        clear hK K
        refine norm_ (a' := ?_) ?_ ?_
        rotate_left
        · show Act.put _ (some 42) _ = _
          simp only [Act.put, List.setIfInBounds_toArray, List.set_cons_zero, List.set_cons_succ, i64_w, i32_w]
          rfl
        refine one_ (i := 16) (N := some 43) #[true, true, true, true, true, true, true, true, true, true, true, true, true, true, true, true, true, false] rfl rfl (one_of HT_.out (by kernel_rfl)) (by decide) (fun K hK => ?_)
        obtain ⟨v8, w8, hrun8, ho8, hg8⟩ := app70 HOd.out HBd.out.size z _ HNB.out (by rw [parseN_len]; have := HNL.out; have := HI1.out; omega) 44
        have HB8 := Aside0.mk (HBd.out.grown hg8 HBd.out.size (fun k e => (HOd.out.lt k e).1))
        have HO8 := Aside0.mk ho8
        refine bapp_ #[u8, .slice (some ⟨w7.heap.size, 0, none⟩) 1 1] (by rfl) (by (try simp only [List.map_toArray, List.map_cons, List.map_nil]); first | done | rfl) (by rfl) rfl hrun8 ?_
        clear hrun8 ho8 hg8
        refine hK.out _ _ trivial (fun hHeld => ?_)
        clear hK K
        refine norm_ (a' := ?_) ?_ ?_
        rotate_left
        · show Act.put _ (some 43) _ = _
          simp only [Act.put, List.setIfInBounds_toArray, List.set_cons_zero, List.set_cons_succ, i64_w, i32_w]
          rfl
        refine pure_ (i := 17) (N := some 8) (v := ?_) (a' := ?_) #[true, true, true, true, true, true, true, true, true, true, true, true, true, true, true, true, true, true] rfl rfl (any_of HT_.out (by kernel_rfl)) (fun _ _ _ h => h) (Or.inl ⟨by rfl, ?_⟩) ?_ ?_
        rotate_left
        · intro w'
          go_simp
          with_reducible rfl
        rotate_left
        · simp only [Act.put, List.setIfInBounds_toArray, List.set_cons_zero, List.set_cons_succ, i64_w, i32_w]
          rfl
        refine done_ (done_of HT_.out (by kernel_rfl)) ?_
        clear hHeld HOd HBd HNB
        go_wp2_with fail
        go_roundg (n - (i + 1))
        case measure => have := HI1.out; omega
        case rel =>
          refine ⟨i + 1, A10, c10, rfl, Nat.le_refl _, HI1.out.2.2, ⟨⟨?_, HB8.out, HB10.out, HC10.out⟩⟩⟩
          rw [HP.out, List.length_append, List.length_singleton]
          exact HO8.out
      · have hlz : ¬ ((((32 * (n - i) : Nat)) : Int) > 0) := by omega
        have hz2 : decide ((0 : Int) < 32 * ((n - i : Nat) : Int)) = false := decide_eq_false (by omega)
        have hni : i = n := by omega
        clear hlt hkx hi
        subst hni
        have hO := HQ.out.row
        have hpl := parseN_len i l0
        obtain ⟨A8, c8, rfl⟩ := own_slice hO
        have hR := R_flat hO
        have HR := Aside0.mk hR
        rw [hpl] at hR
        have HE : Aside0 (openL kind a b = loadL a (loadOf kind a (parseN i l0))) := ⟨by
          have e : (b.length - 4) / 32 = i := by have := hN.out; omega
          rw [openL, readB, e, HL0.out]⟩
        have HBA := Aside0.mk (HBW.out.trans (HQ.out.bl.mono HBW.out.size))
        have hw := blk_below HW1.out HQ.out.bl
        have k0 := (blk_cell hw 0).trans rfl
        have k1 := (blk_cell hw 1).trans rfl
        have k2 := (blk_cell hw 2).trans rfl
        rw [hpl]
        have hpl2 := Aside0.mk hpl
        clear hO hR hw hpl
        go_wp2_with (first
          | (go_at_call 11
             refine (New_calls wr kind size slide a).mono ?_
             rintro e w10 ⟨q, rfl, hI, hb⟩
             have HI := Aside0.mk hI
             have HBN := Aside0.mk hb
             clear hI hb)
          | (go_at_call 20
             have hF := Kd.F_step (Kd.F_mono (Kd.R_F (Kd.R_bound HR.out)) (fun k hk => And.intro hk.2.1 hk.2.2.1)) (fun k hk hlt => HBN.out.block k hlt)
             have KL := Load_calls HI.out A8 c8 (parseN i l0) _ hF (Kd.R_reads' HR.out).2.1 (fun k hk => ⟨fun hf => by have := hk.2; have := hf.1; omega, Nat.lt_of_lt_of_le hk.2 HBN.out.size⟩) (parseN_64 _ _) (by rw [hpl2.out]; exact HNL.out)
             rw [hpl2.out] at KL
             refine KL.mono ?_
             clear KL
             rintro e w11 ⟨rfl, hto⟩
             rw [← HE.out] at hto
             have HTO := Aside0.mk hto
             clear hto hF)
          | (go_at_call 23
             refine (Bytes_calls HTO.out.is).mono ?_
             rintro e w12 ⟨v12, rfl, hR, hb⟩
             obtain ⟨A12, c12, rfl⟩ := Kd.R_slice hR
             have HR12 := Aside0.mk hR
             have HB12 := Aside0.mk hb
             clear hR hb)
          | (go_at_call 49
             refine (bytes_Equal.calls A12 c12 _ A c b _ w12 (Kd.R_reads' HR12.out).2.2 (Kd.R_reads' HR12.out).2.1 (Kd.C_below HC0.out (HBA.out.trans ((HBN.out.trans (((HTO.out.fr.toBelow (B := wr.heap.size) HBN.out.size (fun k _ hk => hk.1)).trans (HB12.out.mono (Nat.le_trans HBN.out.size HTO.out.fr.size))))).mono HBA.out.size))) HC.out (equal_f (bytesB_8 _) H8.out)).mono ?_
             rintro e w13 ⟨rfl, hd⟩
             have HD := Aside0.mk hd.below
             clear hd
             rcases dec2 (P := bytesB (sortP (openL kind a b)) = b) with ⟨hdq, HQE⟩ | ⟨hdq, HQE⟩
             all_goals (rw [hdq])
             all_goals (clear hdq)))
        · go_ret2
          exact open_end HBA.out HBN.out HTO.out HB12.out HD.out ⟨hF.out, HQE.out⟩ (Nat.le_trans (loadOf_len _ _ _) (by rw [hpl2.out]; have := hN.out; omega))
        · go_ret2
          refine ⟨?_, Or.inl ⟨fun h => HQE.out h.2, rfl⟩⟩
          exact open_below HBA.out HBN.out HTO.out HB12.out HD.out
  · by_cases h4 : (b.length : Int) < 4
    · have hF := Aside0.mk hf
      clear hf
      go_enter Try.func22, Try.ntmps22
      go_wp2
      go_ret2
      exact ⟨(Below.refl w.heap.size w).alloc (Nat.le_refl _) _, Or.inl ⟨fun h => hF.out h.1, rfl⟩⟩
    · have g2 : ¬ Int.tmod (b.length : Int) 32 = 4 := by rw [mod32]; unfold FormB at hf; omega
      have g3 : ((b.length : Int) % 32 != 4) = true := by
        rw [mod32] at g2
        have : ¬ ((b.length : Int) % 32 = 4) := by omega
        simpa using this
      have hF := Aside0.mk hf
      clear hf
      go_enter Try.func22, Try.ntmps22
      go_wp2
      go_ret2
      exact ⟨(Below.refl w.heap.size w).alloc (Nat.le_refl _) _, Or.inl ⟨fun h => hF.out h.1, rfl⟩⟩
end Go.Proofs.Ytjegeghigfmkoaa.T
namespace Go.Proofs.Ytjegeghigfmkoaa.T
open Go.RowKit Go.Maps Go.Sort Go.Proofs Go.Proofs.Ytjegeghigfmkoaa Go.Proofs.Ytjegeghigfmkoaa.X Go.Proofs.YtjegeghigfmkoaaW.PrintWords Go.Proofs.YtjegeghigfmkoaaW.PrintLast Go.Proofs.YtjegeghigfmkoaaW.PrintMore
set_option linter.unusedVariables false
set_option linter.unusedSimpArgs false
set_option maxRecDepth 100000
variable {F : Nat → Prop} {N : Nat} {w w' : World} {q b1 b2 : Nat} {tv : Value} {tm : List Int} {s : St}
def grp (x : Int) : Int := wrap64 ((IntKind.u64.wrap ((IntKind.u64.wrap x) * 11400714819323198485)) / 1152921504606846976)
def other (g : Int) (p : S70) : Bool := grp p.f0 != g
theorem group_any (x : Int) (w : World) : Calls Try.prog 56 #[.int .i64 x] w fun e w' => e = .returned (.int .i64 (grp x)) ∧ Below w.heap.size w w' :=
  (plan_Group.calls x (grp x) w rfl).mono fun e w' h => ⟨h.1, h.2.below⟩
def Tgr.T1 : Bool × List (List Nat × List Nat) := (true, [([], []), ([0], [0]), ([1], [1]), ([], []), ([2, 3], [2, 3]), ([4, 2, 0, 1, 2, 3, 4], [4])])
def Tgr.B1 : List Nat := [0, 1, 3, 0, 15, 31]
theorem Tgr.tab1 : rtab .any (opsOf Try.f55 1) = Tgr.T1 := by kernel_rfl
theorem Tgr.bits1 : waitsOk Tgr.T1.2 Tgr.B1 = true := by kernel_rfl
set_option maxHeartbeats 4000000 in
theorem other_calls (g : Int) (p : S70) (B : Nat) (w : World) (hb : w.heap[B]? = some (.cells #[.int .i64 g] 3 (0, 0))) : Calls Try.prog 55 #[aggP p, .pointer (some ⟨B, 0, none⟩)] w fun e w' => e = .returned (.bool (other g p)) ∧ Below w.heap.size w w' := by
  have HB := Aside0.mk hb
  clear hb
  go_enter Try.func55, Try.ntmps55
  go_wp2_with fail
  have HBd := Aside0.mk ((Below.refl w.heap.size w).alloc (Nat.le_refl _) (.cells #[.int .i64 p.f0, .int .i64 p.f1.f0, .int .i64 p.f1.f1, .int .i64 p.f2] 70))
  have HP := Aside0.mk (heap_alloc_new w (.cells #[.int .i64 p.f0, .int .i64 p.f1.f0, .int .i64 p.f1.f1, .int .i64 p.f2] 70))
  generalize (w.alloc (.cells #[.int .i64 p.f0, .int .i64 p.f1.f0, .int .i64 p.f1.f1, .int .i64 p.f2] 70)) = w1 at HBd HP ⊢
  have hg := blk_below HB.out HBd.out
  refine start_ (n := 6) (S := fun w' => w'.cell? ⟨w.heap.size, 0, none⟩ = some (.int .i64 p.f0) ∧ w'.cell? ⟨B, 0, none⟩ = some (.int .i64 g)) (ds := []) #[false, false, false, false, false, false] (by kernel_rfl) rfl rfl ⟨(blk_cell (blk_drew HP.out) 0).trans rfl, (blk_cell (blk_drew hg) 0).trans rfl⟩ (fun hHeld => ?_); refine with_tabW Tgr.tab1 Tgr.bits1 (fun HT_ HW_ => ?_)
  have HB1 := Aside0.mk (below_drew HBd.out)
  have HP1 := Aside0.mk (blk_drew HP.out)
  have HG1 := Aside0.mk (blk_drew hg)
  clear hg HBd HP
  generalize World.drew w1 = w2 at HB1 HP1 HG1 hHeld ⊢
  refine pure_ (i := 0) (N := some 4) (v := ?_) (a' := ?_) #[true, false, false, false, false, false] rfl rfl (any_of HT_.out (by kernel_rfl)) (fun _ _ _ h => h) (Or.inl ⟨by rfl, ?_⟩) ?_ ?_
  rotate_left
  · intro w'
    go_simp
    with_reducible rfl
  rotate_left
  · simp only [Act.put, List.setIfInBounds_toArray, List.set_cons_zero, List.set_cons_succ, i64_w, i32_w]
    rfl
  refine take_ (i := 1) (N := some 5) (v := ?_) (a' := ?_) #[true, true, false, false, false, false] rfl rfl (take_ofW HT_.out HW_.out (by kernel_rfl)) (fun _ _ _ h => h) (Or.inl ⟨by rfl, ?_⟩) hHeld ?_ ?_
  rotate_left
  · rintro w' ⟨s0, s1⟩
    go_simp
    with_reducible rfl
  rotate_left
  · simp only [Act.put, List.setIfInBounds_toArray, List.set_cons_zero, List.set_cons_succ, i64_w, i32_w]
    rfl
  refine take_ (i := 3) (N := some 7) (v := ?_) (a' := ?_) #[true, true, false, true, false, false] rfl rfl (take_ofW HT_.out HW_.out (by kernel_rfl)) (fun _ _ _ h => h) (Or.inl ⟨by rfl, ?_⟩) hHeld ?_ ?_
  rotate_left
  · rintro w' ⟨s0, s1⟩
    go_simp
    with_reducible rfl
  rotate_left
  · simp only [Act.put, List.setIfInBounds_toArray, List.set_cons_zero, List.set_cons_succ, i64_w, i32_w]
    rfl
  refine one_ (i := 2) (N := some 6) #[true, true, true, true, false, false] rfl rfl (one_of HT_.out (by kernel_rfl)) (by decide) (fun K hK => ?_)
  refine goes_ Try.func56 (by kernel_rfl) rfl #[.int .i64 p.f0] (by rfl) rfl rfl (by (try simp only [List.map_toArray, List.map_cons, List.map_nil]); first | done | rfl) ?_
  refine (group_any p.f0 w2).mono ?_
  rintro e w3 ⟨rfl, hb3⟩
  refine ⟨_, rfl, ?_⟩
  have HB3 := Aside0.mk (HB1.out.trans (hb3.mono HB1.out.size))
  refine hK.out _ _ ⟨(blk_cell (blk_below HP1.out hb3) 0).trans rfl, (blk_cell (blk_below HG1.out hb3) 0).trans rfl⟩ (fun hHeld => ?_)
  clear hK K
  refine norm_ (a' := ?_) ?_ ?_
  rotate_left
  · show Act.put _ (some 6) _ = _
    simp only [Act.put, List.setIfInBounds_toArray, List.set_cons_zero, List.set_cons_succ, i64_w, i32_w]
    rfl
  refine pure_ (i := 4) (N := some 8) (v := ?_) (a' := ?_) #[true, true, true, true, true, false] rfl rfl (any_of HT_.out (by kernel_rfl)) (fun _ _ _ h => h) (Or.inl ⟨by rfl, ?_⟩) ?_ ?_
  rotate_left
  · intro w'
    go_simp
    with_reducible rfl
  rotate_left
  · simp only [Act.put, List.setIfInBounds_toArray, List.set_cons_zero, List.set_cons_succ, i64_w, i32_w]
    rfl
  refine pure_ (i := 5) (N := some 3) (v := ?_) (a' := ?_) #[true, true, true, true, true, true] rfl rfl (any_of HT_.out (by kernel_rfl)) (fun _ _ _ h => h) (Or.inl ⟨by rfl, ?_⟩) ?_ ?_
  rotate_left
  · intro w'
    go_simp
    with_reducible rfl
  rotate_left
  · simp only [Act.put, List.setIfInBounds_toArray, List.set_cons_zero, List.set_cons_succ, i64_w, i32_w]
    rfl
  refine done_ (done_of HT_.out (by kernel_rfl)) ?_
  clear hHeld hb3
  go_wp2
  go_ret
  exact ⟨rfl, HB3.out⟩
def idxO (g : Int) (l : List S70) : Int := match l.findIdx? (other g) with
  | none => -1
  | some i => (i : Int)
set_option maxHeartbeats 4000000 in
theorem index_calls (g : Int) (B : Nat) (A : Option Addr) (c : Nat) (l : List S70) (w : World) (hr : Kd.C k70 w A l.length l) (hb : w.heap[B]? = some (.cells #[.int .i64 g] 3 (0, 0))) (hl : l.length < 4398046511104) :
    Calls Try.prog 77 #[.slice A l.length c, .func (.func 55) #[] #[.pointer (some ⟨B, 0, none⟩)]] w fun e w' => e = .returned (.int .i64 (idxO g l)) ∧ Below w.heap.size w w' := by
  have HR := Aside0.mk hr
  have HB := Aside0.mk hb
  clear hr hb
  go_enter Try.func77, Try.ntmps77
  go_wp2
  go_loopg [4, 8, 5] l.length (fun ky s4 s8 s5 wr => ∃ i : Nat, s8 = .int .i64 i ∧ i ≤ l.length ∧ l.length - i ≤ ky ∧ Aside0 (∀ j (h : j < l.length), j < i → other g l[j] = false) ∧ Aside0 (Below w.heap.size w wr))
  case atStart => exact ⟨0, rfl, Nat.zero_le _, Nat.le_refl _, ⟨fun j _ h => absurd h (by omega)⟩, ⟨Below.refl _ _⟩⟩
  case round =>
    obtain ⟨i, rfl, hil, hky, HN, HW⟩ := hrel
    by_cases hlt : i < l.length
    · have hltz : (i : Int) < (l.length : Int) := by omega
      obtain ⟨ad, e, hx0, hx1, hx2, hx3⟩ := at_T70 (Kd.C_below HR.out HW.out) (i : Int) (by omega) (by omega)
      cases e
      obtain ⟨x, HX⟩ : ∃ x, Aside0 (x = l[i]) := ⟨_, ⟨rfl⟩⟩
      have er : rd_T70 l (i : Int) = x := by rw [HX.out]; simp [rd_T70, hlt]
      rw [er] at hx0 hx1 hx2 hx3
      simp only [Int.toNat_natCast] at hx0 hx1 hx2 hx3
      clear er
      have hsm := other_calls g x B wr (blk_below HB.out HW.out)
      cases hv : other g x with
      | false =>
        rw [hv] at hsm
        go_wp2_with (go_at_call 55; refine hsm.mono ?_; rintro e w3 ⟨rfl, hb3⟩)
        have HB3 := Aside0.mk hb3
        clear hb3
        go_roundg (l.length - (i + 1))
        case measure => omega
        case rel =>
          refine ⟨i + 1, by first | rfl | go_num | (congr 1; omega), by omega, Nat.le_refl _, ⟨fun j h hj => ?_⟩, ⟨below_step HW.out HB3.out⟩⟩
          rcases Nat.lt_or_ge j i with h1 | h1
          · exact HN.out j h h1
          · obtain rfl : j = i := by omega
            rw [← HX.out]; exact hv
      | true =>
        rw [hv] at hsm
        go_wp2_with (go_at_call 55; refine hsm.mono ?_; rintro e w3 ⟨rfl, hb3⟩)
        have HB3 := Aside0.mk hb3
        clear hb3
        go_ret
        refine ⟨?_, below_step HW.out HB3.out⟩
        have hf : l.findIdx? (other g) = some i := by
          rw [List.findIdx?_eq_some_iff_getElem]
          refine ⟨hlt, ?_, fun j hj => ?_⟩
          · rw [← HX.out]; exact hv
          · rw [HN.out j (by omega) hj]; simp
        unfold idxO
        rw [hf]
        rfl
    · have hltz : ¬ (i : Int) < (l.length : Int) := by omega
      go_wp2
      go_ret
      refine ⟨?_, HW.out⟩
      have hf : l.findIdx? (other g) = none := by
        rw [List.findIdx?_eq_none_iff]
        intro x hx
        obtain ⟨j, hj, rfl⟩ := List.getElem_of_mem hx
        exact HN.out j hj (by omega)
      unfold idxO
      rw [hf]
      rfl
end Go.Proofs.Ytjegeghigfmkoaa.T
namespace Go.Proofs.Ytjegeghigfmkoaa.T
open Go.RowKit Go.Maps Go.Sort Go.Proofs Go.Proofs.Ytjegeghigfmkoaa Go.Proofs.Ytjegeghigfmkoaa.X Go.Proofs.YtjegeghigfmkoaaW.PrintWords Go.Proofs.YtjegeghigfmkoaaW.PrintLast Go.Proofs.YtjegeghigfmkoaaW.PrintMore
set_option linter.unusedVariables false
set_option linter.unusedSimpArgs false
set_option maxRecDepth 100000
variable {F : Nat → Prop} {N : Nat} {w w' : World} {q b1 b2 : Nat} {tv : Value} {tm : List Int} {s : St}
theorem row_at {W : World} {base : Nat} {ok : Nat → Prop} {g n cap : Nat} {d : List S70} (h : Kd.R k70 70 W base ok (.slice (some ⟨g, 0, none⟩) n cap) d) (i : Nat) (hi : i < n) :
    ∃ z, d[i]? = some z ∧ W.cell? ⟨g, i * 4, none⟩ = some (.int .i64 z.f0) ∧ W.cell? ⟨g, i * 4 + 1, none⟩ = some (.int .i64 z.f1.f0) ∧ W.cell? ⟨g, i * 4 + 2, none⟩ = some (.int .i64 z.f1.f1) ∧ W.cell? ⟨g, i * 4 + 3, none⟩ = some (.int .i64 z.f2) ∧
      W.frozen? ⟨g, i * 4, none⟩ = false ∧ W.frozen? ⟨g, i * 4 + 1, none⟩ = false ∧ W.frozen? ⟨g, i * 4 + 2, none⟩ = false ∧ W.frozen? ⟨g, i * 4 + 3, none⟩ = false := by
  obtain ⟨hn, _, _⟩ := Kd.R_reads' h
  have hil : i < d.length := by omega
  have hc := fun c hc => R_cell h (j := i) (c := c) hil hc
  refine ⟨d[i], List.getElem?_eq_getElem hil, ?_⟩
  exact ⟨(hc 0 (by decide)).1, (hc 1 (by decide)).1, (hc 2 (by decide)).1, (hc 3 (by decide)).1, (hc 0 (by decide)).2, (hc 1 (by decide)).2, (hc 2 (by decide)).2, (hc 3 (by decide)).2⟩
theorem row_set {W : World} {base : Nat} {ok : Nat → Prop} {g n cap : Nat} {d : List S70} (h : Kd.R k70 70 W base ok (.slice (some ⟨g, 0, none⟩) n cap) d) (i : Nat) (hi : i < n) (z : S70) :
    Kd.R k70 70 ((((W.setCell ⟨g, i * 4, none⟩ (.int .i64 z.f0)).setCell ⟨g, i * 4 + 1, none⟩ (.int .i64 z.f1.f0)).setCell ⟨g, i * 4 + 2, none⟩ (.int .i64 z.f1.f1)).setCell ⟨g, i * 4 + 3, none⟩ (.int .i64 z.f2)) base ok (.slice (some ⟨g, 0, none⟩) n cap) (d.set i z) := by
  obtain ⟨c, h1, h2, h3, h4⟩ := Kd.R_elem h z70 (i : Int) (by omega) (by omega)
  have := (Kd.R_seg h (i : Int) (by omega) (by omega) (seg := [.int .i64 z.f0, .int .i64 z.f1.f0, .int .i64 z.f1.f1, .int .i64 z.f2]) (j := 0) h1 h3 (show 4 ≤ 4 from by decide) (x' := z) (by
    obtain rfl := k70_openM h2
    exact k70_mkM _ _ _ z) (fun _ hk => hk)).1
  exact this
structure Ldf (g0 : Int) (w : World) (base : Nat) (ok : Nat → Prop) (g n cap : Nat) (l : List S70) (i j : Nat) (wr : World) (d : List S70) : Prop where
  row : Kd.R k70 70 wr base ok (.slice (some ⟨g, 0, none⟩) n cap) d
  pre : d.take i = (l.take j).filter (fun p => !other g0 p)
  post : d.drop j = l.drop j
  bl : Below base w wr
theorem Ldf.keep {g0 : Int} {base : Nat} {ok : Nat → Prop} {g n cap : Nat} {l : List S70} {i j : Nat} {wr w2 : World} {d : List S70} (h : Ldf g0 w base ok g n cap l i j wr d) (hb : Below wr.heap.size wr w2) (hbs : base ≤ wr.heap.size) : Ldf g0 w base ok g n cap l i j w2 d :=
  ⟨Kd.R_below h.row hb, h.pre, h.post, h.bl.trans (hb.mono hbs)⟩
theorem Ldf.skip {g0 : Int} {base : Nat} {ok : Nat → Prop} {g n cap : Nat} {l : List S70} {i j : Nat} {wr : World} {d : List S70} (h : Ldf g0 w base ok g n cap l i j wr d) {z : S70} (hz : l[j]? = some z) (ho : other g0 z = true) : Ldf g0 w base ok g n cap l i (j + 1) wr d := by
  refine ⟨h.row, ?_, ?_, h.bl⟩
  · rw [h.pre, List.take_add_one, hz]
    simp [ho]
  · rw [← List.drop_drop, h.post, List.drop_drop]
theorem Ldf.put {g0 : Int} {base : Nat} {ok : Nat → Prop} {g n cap : Nat} {l : List S70} {i j : Nat} {wr : World} {d : List S70} (h : Ldf g0 w base ok g n cap l i j wr d) (hg : base ≤ g) (hij : i < j) (hj : j < n) {z : S70} (hz : l[j]? = some z) (ho : other g0 z = false) :
    Ldf g0 w base ok g n cap l (i + 1) (j + 1) ((((wr.setCell ⟨g, i * 4, none⟩ (.int .i64 z.f0)).setCell ⟨g, i * 4 + 1, none⟩ (.int .i64 z.f1.f0)).setCell ⟨g, i * 4 + 2, none⟩ (.int .i64 z.f1.f1)).setCell ⟨g, i * 4 + 3, none⟩ (.int .i64 z.f2)) (d.set i z) := by
  have hn := (Kd.R_reads' h.row).1
  refine ⟨row_set h.row i (by omega) z, ?_, ?_, (((h.bl.setCell (p := ⟨g, i * 4, none⟩) hg _).setCell (p := ⟨g, i * 4 + 1, none⟩) hg _).setCell (p := ⟨g, i * 4 + 2, none⟩) hg _).setCell (p := ⟨g, i * 4 + 3, none⟩) hg _⟩
  · rw [List.take_add_one, List.take_set_of_le (Nat.le_refl i), h.pre, List.take_add_one, hz, List.getElem?_set_self (by omega)]
    simp [ho]
  · rw [List.drop_set_of_lt (by omega), ← List.drop_drop, h.post, List.drop_drop]
theorem delF_end {g0 : Int} {base : Nat} {ok : Nat → Prop} {g cap : Nat} {l : List S70} {i : Nat} {wr : World} {d : List S70} (hg : base ≤ g) (h : Ldf g0 w base ok g l.length cap l i l.length wr d) (hi : i ≤ l.length) :
    ∃ v, Ending.returned (.slice (some ⟨g, 0, none⟩) i cap) = Ending.returned v ∧ Kd.R k70 70 (wr.setCells g (i * 4) (List.replicate ((l.length - i) * 4) (.int .i64 0))) base ok v (l.filter (fun p => !other g0 p)) ∧ Below base w (wr.setCells g (i * 4) (List.replicate ((l.length - i) * 4) (.int .i64 0))) := by
  have hn := (Kd.R_reads' h.row).1
  have hcap := (Kd.R_reads' h.row).2.1
  have hpre := h.pre
  rw [List.take_length] at hpre
  have hlen : (l.filter (fun p => !other g0 p)).length = i := by rw [← hpre, List.length_take]; omega
  have hcell := fun (j c : Nat) (hj : j < d.length) (hc : c < 4) => R_cell h.row hj hc
  obtain ⟨hok, inner, ho, hr⟩ := h.row
  obtain ⟨_, ⟨hbad, _⟩ | ⟨g', cap', cur, he, _, hb, h1, h2, h3, h4⟩⟩ := ho
  · cases hbad
  injection he with e1 e2 e3
  injection e1 with e1
  injection e1 with e1 _ _
  subst e1 e3
  obtain ⟨cur2, e3, e4⟩ := setCells_block g (List.replicate ((l.length - i) * 4) (.int .i64 0)) (i * 4) wr cur hb
  have hbel : Below g wr (wr.setCells g (i * 4) (List.replicate ((l.length - i) * 4) (.int .i64 0))) := below_setCells g _ _ wr wr (Below.refl _ _)
  refine ⟨_, rfl, ?_, h.bl.trans (hbel.mono hg)⟩
  have hR := R_of_cells (base := base) (l' := l.filter (fun p => !other g0 p)) (cap := cap) (hok g (by simp [Value.ownBlock])) hg e3 (by rw [e4, h3]; rfl) h2 (by omega) (fun j c hj hc => by
    rw [World.cell?_setCells_out g _ _ wr ⟨g, j * 4 + c, none⟩ (fun _ _ => Or.inl (by show j * 4 + c < i * 4; omega))]
    have hjd : j < d.length := by omega
    have e : (l.filter (fun p => !other g0 p))[j] = d[j] := by
      have : (d.take i)[j]? = (l.filter (fun p => !other g0 p))[j]? := by rw [hpre]
      rw [List.getElem?_eq_getElem hj, List.getElem?_take_of_lt (by omega), List.getElem?_eq_getElem hjd] at this
      exact (Option.some.inj this).symm
    rw [e]
    exact (hcell j c hjd hc).1)
  rw [hlen] at hR
  exact hR
set_option maxHeartbeats 4000000 in
theorem delF_calls (g0 : Int) (B : Nat) (A : Option Addr) (c : Nat) (l : List S70) (w : World) (base : Nat) (ok : Nat → Prop) (h : Kd.R k70 70 w base ok (.slice A l.length c) l) (hb : w.heap[B]? = some (.cells #[.int .i64 g0] 3 (0, 0))) (hB : B < base) (hbs : base ≤ w.heap.size) (hl : l.length < 4398046511104) :
    Calls Try.prog 54 #[.slice A l.length c, .func (.func 55) #[] #[.pointer (some ⟨B, 0, none⟩)]] w fun e w' => ∃ v, e = .returned v ∧ Kd.R k70 70 w' base ok v (l.filter (fun p => !other g0 p)) ∧ Below base w w' := by
  have HR := Aside0.mk h
  have HB := Aside0.mk hb
  have KI := index_calls g0 B A c l w (Kd.R_reads' h).2.2 hb hl
  have HBS := Aside0.mk (And.intro hB hbs)
  have HL := Aside0.mk hl
  clear h hb hB hbs hl
  cases hi : l.findIdx? (other g0) with
  | none =>
    have HN : Aside0 (l.filter (fun p => !other g0 p) = l) := ⟨by
      rw [List.filter_eq_self]
      intro x hx
      rw [List.findIdx?_eq_none_iff.1 hi x hx]
      rfl⟩
    have e : idxO g0 l = -1 := by rw [idxO, hi]
    rw [e] at KI
    clear hi e
    go_enter Try.func54, Try.ntmps54
    go_wp2_with (go_at_call 77; refine KI.mono ?_; clear KI; rintro e w1 ⟨rfl, hb1⟩; have HB1 := Aside0.mk hb1; clear hb1)
    go_ret
    exact ⟨_, rfl, by rw [HN.out]; exact Kd.R_below HR.out HB1.out, HB1.out.mono HBS.out.2⟩
  | some i0 =>
    have e : idxO g0 l = (i0 : Int) := by rw [idxO, hi]
    rw [e] at KI
    obtain ⟨hlt, ho, hno⟩ := List.findIdx?_eq_some_iff_getElem.1 hi
    obtain ⟨g, cap, hv, hbg, hgl, cs, hcs⟩ := Kd.R_form HR.out (by omega)
    injection hv with hA _ hc
    subst hA
    subst hc
    have HG := Aside0.mk (And.intro hbg hgl)
    have hw1 : wrap64 ((i0 : Int) + 1) = ((i0 + 1 : Nat) : Int) := by have := HL.out; unfold wrap64; omega
    have hne : ((i0 : Int) == -1) = false := by simp
    have HD0 : Aside0 (Ldf g0 w base ok g l.length c l i0 (i0 + 1) w l) := ⟨⟨HR.out, by
      rw [List.take_add_one, List.getElem?_eq_getElem hlt, List.filter_append]
      have h1 : (l.take i0).filter (fun p => !other g0 p) = l.take i0 := by
        rw [List.filter_eq_self]
        intro x hx
        obtain ⟨j, hj, rfl⟩ := List.getElem_of_mem hx
        rw [List.length_take] at hj
        have := hno j (by omega)
        simpa using this
      rw [h1]
      simp [ho], rfl, Below.refl _ _⟩⟩
    have HLT := Aside0.mk hlt
    clear hi e ho hno hbg hgl hcs hlt
    go_enter Try.func54, Try.ntmps54
    go_wp2_with (go_at_call 77; refine KI.mono ?_; clear KI; rintro e w1 ⟨rfl, hb1⟩; have HD1 := Aside0.mk (HD0.out.keep hb1 HBS.out.2); clear hb1)
    rw [hw1]
    go_loopg [5, 6] l.length (fun kx s5 s6 wr => ∃ (i j : Nat) (d : List S70), s5 = .int .i64 i ∧ s6 = .int .i64 j ∧ l.length - j ≤ kx ∧ j ≤ l.length ∧ i < j ∧ Aside0 (Ldf g0 w base ok g l.length c l i j wr d))
    case atStart => exact ⟨i0, i0 + 1, l, rfl, rfl, by omega, HLT.out, by omega, HD1⟩
    case round =>
      clear HD0 HD1
      obtain ⟨i, j, d, rfl, rfl, hkx, hj, hij, HQ⟩ := hrel
      by_cases hlt : j < l.length
      · have hlz : ((j : Int) < (l.length : Int)) := by omega
        have hiz : (0 : Int) ≤ (j : Int) := by omega
        have hi0 : (0 : Int) ≤ (i : Int) := by omega
        have hi1 : (i : Int) < (l.length : Int) := by omega
        obtain ⟨z, hz, x0, x1, x2, x3, _, _, _, _⟩ := row_at HQ.out.row j hlt
        have HZ : Aside0 (l[j]? = some z) := ⟨by
          have h1 := congrArg (fun x => x[0]?) HQ.out.post
          simp only [List.getElem?_drop, Nat.add_zero] at h1
          rw [← h1]; exact hz⟩
        have hwj : wrap64 ((j : Int) + 1) = ((j + 1 : Nat) : Int) := by have := HL.out; unfold wrap64; omega
        have hwi : wrap64 ((i : Int) + 1) = ((i + 1 : Nat) : Int) := by have := HL.out; unfold wrap64; omega
        have hbz : wr.heap[B]? = some (.cells #[.int .i64 g0] 3 (0, 0)) := (HQ.out.bl.block B HBS.out.1).trans HB.out
        have hbb := (Below.refl wr.heap.size wr).alloc (Nat.le_refl _) (.cells #[.int .i64 z.f0, .int .i64 z.f1.f0, .int .i64 z.f1.f1, .int .i64 z.f2] 70)
        have KO := other_calls g0 z B _ (blk_below hbz hbb)
        have HBB := Aside0.mk hbb
        have HV := Aside0.mk (heap_alloc_new wr (.cells #[.int .i64 z.f0, .int .i64 z.f1.f0, .int .i64 z.f1.f1, .int .i64 z.f2] 70))
        have HI1 := Aside0.mk (And.intro hkx (And.intro hj (And.intro hij hlt)))
        have HBR : Aside0 (base ≤ wr.heap.size) := ⟨Nat.le_trans HBS.out.2 HQ.out.bl.size⟩
        clear hbz hbb hkx hj hij hlt hz
        cases hv : other g0 z with
        | true =>
          rw [hv] at KO
          go_wp2_with (go_at_call 55; refine KO.mono ?_; clear KO; rintro e w3 ⟨rfl, hb3⟩; have HB3 := Aside0.mk (HBB.out.trans (hb3.mono HBB.out.size)); clear hb3)
          rw [hwj]
          go_roundg (l.length - (j + 1))
          case measure => have := HI1.out; omega
          case rel => exact ⟨i, j + 1, d, rfl, rfl, Nat.le_refl _, HI1.out.2.2.2, by have := HI1.out; omega, ⟨(HQ.out.keep HB3.out HBR.out).skip HZ.out hv⟩⟩
        | false =>
          rw [hv] at KO
          go_wp2_with (
            go_at_call 55
            refine KO.mono ?_
            clear KO
            rintro e w3 ⟨rfl, hb3⟩
            have HB3 := Aside0.mk (HBB.out.trans (hb3.mono HBB.out.size))
            have HD3 := Aside0.mk (HQ.out.keep HB3.out HBR.out)
            have hv3 := blk_below HV.out hb3
            have v0 := (blk_cell hv3 0).trans rfl
            have v1 := (blk_cell hv3 1).trans rfl
            have v2 := (blk_cell hv3 2).trans rfl
            have v3 := (blk_cell hv3 3).trans rfl
            obtain ⟨y, _, y0, y1, y2, y3, f0, f1, f2, f3⟩ := row_at HD3.out.row i (by have := HI1.out; omega)
            clear hv3 hb3)
          rw [hwj, hwi]
          go_roundg (l.length - (j + 1))
          case measure => have := HI1.out; omega
          case rel => exact ⟨i + 1, j + 1, d.set i z, rfl, rfl, Nat.le_refl _, HI1.out.2.2.2, by have := HI1.out; omega, ⟨HD3.out.put HG.out.1 HI1.out.2.2.1 HI1.out.2.2.2 HZ.out hv⟩⟩
      · have hlz : ¬ ((j : Int) < (l.length : Int)) := by omega
        have hjn : j = l.length := by omega
        subst hjn
        have hcap := (Kd.R_reads' HQ.out.row).2.1
        have hdl := (Kd.R_reads' HQ.out.row).1
        have hic : ¬ c = i := by omega
        have hi0 : (0 : Int) ≤ (i : Int) := by omega
        have hi1 : (i : Int) ≤ (l.length : Int) := by omega
        have hi2 : i ≤ l.length := by omega
        have hi3 : i ≤ c := by omega
        have key : ∀ p, p < (l.length - i) * 4 → (wr.cell? ⟨g, i * 4 + p, none⟩).isSome = true ∧ wr.frozen? ⟨g, i * 4 + p, none⟩ = false := fun p hp => by
          have hx := R_cell HQ.out.row (j := i + p / 4) (c := p % 4) (by omega) (by omega)
          rw [show i * 4 + p = (i + p / 4) * 4 + p % 4 by omega]
          refine ⟨?_, hx.2⟩
          rw [hx.1, get_some (show p % 4 < (So.encP d[i + p / 4]).length from by show p % 4 < 4; omega)]
          rfl
        have hclr := fun ty => run_clear46 wr ty g (i * 4) (l.length - i) (c - i) (by omega) (fun p hp => (key p hp).1) (fun p hp => (key p hp).2)
        have HI1 := Aside0.mk (And.intro hi2 (And.intro hdl hcap))
        clear key hkx hj hij hlt hdl hcap
        go_wp2
        go_ret
        exact delF_end HG.out.1 HQ.out HI1.out.1
set_option maxHeartbeats 4000000 in
theorem Group_calls (h : IsS F N w q s) (g0 : Int) : Calls Try.prog 31 #[.pointer (some ⟨q, 0, none⟩), .int .i64 g0] w fun e w' => ∃ v, e = .returned v ∧ Kd.R k70 70 w' w.heap.size (fun _ => True) v ((sortP s.ps).filter (fun p => !other g0 p)) ∧ Below w.heap.size w w' := by
  have HBB := Aside0.mk ((Below.refl w.heap.size w).alloc (Nat.le_refl _) (.cells #[.int .i64 g0] 3))
  have HG := Aside0.mk (heap_alloc_new w (.cells #[.int .i64 g0] 3))
  have HI := Aside0.mk (h.below HBB.out)
  have HL := Aside0.mk (show (sortP s.ps).length < 4398046511104 by rw [sortP_len]; have h1 := h.len; have h2 := h.small; omega)
  have HS : Aside0 (w.heap.size < (w.alloc (.cells #[.int .i64 g0] 3)).heap.size) := ⟨by simp⟩
  clear h
  go_enter Try.func31, Try.ntmps31
  go_wp2_with (first
    | (go_at_call 21
       refine (Panes_calls HI.out).mono ?_
       rintro e w2 ⟨v2, rfl, hR2, hb2⟩
       obtain ⟨A2, c2, rfl⟩ := Kd.R_slice hR2
       have HR2 := Aside0.mk hR2
       have HB2 := Aside0.mk hb2
       clear hR2 hb2)
    | (go_at_call 54
       refine (delF_calls g0 w.heap.size A2 c2 _ _ _ _ HR2.out (blk_below HG.out HB2.out) HS.out HB2.out.size HL.out).mono ?_
       rintro e w3 ⟨v3, rfl, hR3, hb3⟩
       have HR3 := Aside0.mk hR3
       have HB3 := Aside0.mk hb3
       clear hR3 hb3))
  go_ret
  exact ⟨_, rfl, Kd.R_lower HR3.out HBB.out.size, (HBB.out.trans (HB2.out.mono HBB.out.size)).trans (HB3.out.mono HBB.out.size)⟩
end Go.Proofs.Ytjegeghigfmkoaa.T
namespace Go.Proofs.Ytjegeghigfmkoaa.T
open Go.RowKit Go.Maps Go.Sort Go.Proofs Go.Proofs.Ytjegeghigfmkoaa Go.Proofs.Ytjegeghigfmkoaa.X Go.Proofs.YtjegeghigfmkoaaW.PrintWords Go.Proofs.YtjegeghigfmkoaaW.PrintLast Go.Proofs.YtjegeghigfmkoaaW.PrintMore
set_option linter.unusedVariables false
set_option linter.unusedSimpArgs false
set_option maxRecDepth 100000
variable {F : Nat → Prop} {N : Nat} {w w' : World} {q b1 b2 : Nat} {tv : Value} {tm : List Int} {s : St}
structure Ro where
  kind : Int
  a : Int
  wk : Int
  ws : Int
  wl : Int
  mark : Int
  late : Int
  L : List S70
abbrev cellsO (v1 v5 vL : Value) (x2 x3 x4 : Int) (o : Ro) : Array Value := #[.int .i64 o.kind, v1, .int .i64 x2, .int .i64 x3, .int .i64 x4, v5, .int .i64 o.a, .int .i64 o.wk, .int .i64 o.ws, .int .i64 o.wl, vL, .int .i64 o.mark, .int .i64 o.late]
structure IsO (w0 : World) (G : Nat → Prop) (w : World) (g : Nat) (o : Ro) (v1 v5 vL : Value) (x2 x3 x4 : Int) : Prop where
  at_ : w.heap[g]? = some (.cells (cellsO v1 v5 vL x2 x3 x4 o) 46 (0, 0))
  row : Kd.R k70 70 w w0.heap.size (fun k => G k ∧ k ≠ g) vL o.L
  bl : Below w0.heap.size w0 w
  gG : G g
  gb : w0.heap.size ≤ g
  bound : ∀ k, G k → w0.heap.size ≤ k ∧ k < w.heap.size
theorem IsO.fr {w0 : World} {G M : Nat → Prop} {g : Nat} {o : Ro} {v1 v5 vL : Value} {x2 x3 x4 : Int} (h : IsO w0 G w g o v1 v5 vL x2 x3 x4) (hf : Fr M w w') (hM : ∀ k, M k → ¬ G k ∧ w0.heap.size ≤ k) : IsO w0 G w' g o v1 v5 vL x2 x3 x4 :=
  ⟨(hf.block g (h.bound g h.gG).2 (fun m => (hM g m).1 h.gG)).trans h.at_, Kd.R_step h.row (fun k hk hlt => hf.block k hlt (fun m => (hM k m).1 hk.1)), ⟨hf.os.trans h.bl.os, hf.tape.trans h.bl.tape, hf.output.trans h.bl.output, Nat.le_trans h.bl.size hf.size, fun k hk => (hf.block k (Nat.lt_of_lt_of_le hk h.bl.size) (fun m => by have := (hM k m).2; omega)).trans (h.bl.block k hk)⟩, h.gG, h.gb, fun k hk => ⟨(h.bound k hk).1, Nat.lt_of_lt_of_le (h.bound k hk).2 hf.size⟩⟩
theorem IsO.below {w0 : World} {G : Nat → Prop} {g : Nat} {o : Ro} {v1 v5 vL : Value} {x2 x3 x4 : Int} (h : IsO w0 G w g o v1 v5 vL x2 x3 x4) (hb : Below w.heap.size w w') : IsO w0 G w' g o v1 v5 vL x2 x3 x4 := h.fr (M := fun _ => False) (Fr.of_below hb) (fun _ m => m.elim)
theorem IsO.stored {w0 : World} {G : Nat → Prop} {g : Nat} {o : Ro} {v1 v5 vL v' : Value} {x2 x3 x4 : Int} (h : IsO w0 G w g o v1 v5 vL x2 x3 x4) {w2 : World} {L : List S70} (hf : Fr (fun k => G k ∧ k ≠ g) w w2) (hR : Kd.R k70 70 w2 w0.heap.size (fun k => (G k ∧ k ≠ g) ∨ w.heap.size ≤ k) v' L) :
    IsO w0 (Fx G w (w2.setCell ⟨g, 10, none⟩ v')) (w2.setCell ⟨g, 10, none⟩ v') g { o with L := L } v1 v5 v' x2 x3 x4 ∧ Fr G w (w2.setCell ⟨g, 10, none⟩ v') := by
  have hgl := (h.bound g h.gG).2
  have s2 := hf.size
  have hq : w2.heap[g]? = some (.cells (cellsO v1 v5 vL x2 x3 x4 o) 46 (0, 0)) := (hf.block g hgl (fun m => m.2 rfl)).trans h.at_
  have hsz : (w2.setCell ⟨g, 10, none⟩ v').heap.size = w2.heap.size := by simp [World.setCell]
  have fr : Fr G w (w2.setCell ⟨g, 10, none⟩ v') := (hf.mono (fun k _ hk => hk.1)).setCell (p := ⟨g, 10, none⟩) h.gG v'
  have hbw : Below w0.heap.size w0 (w2.setCell ⟨g, 10, none⟩ v') := ⟨fr.os.trans h.bl.os, fr.tape.trans h.bl.tape, fr.output.trans h.bl.output, Nat.le_trans h.bl.size fr.size, fun k hk => (fr.block k (Nat.lt_of_lt_of_le hk h.bl.size) (fun m => by have := (h.bound k m).1; omega)).trans (h.bl.block k hk)⟩
  refine ⟨⟨blk_set hq 10 v', ?_, hbw, Or.inl h.gG, h.gb, fun k hk => ?_⟩, fr⟩
  · refine Kd.R_mono (Kd.R_bound (Kd.R_far (p := ⟨g, 10, none⟩) hR (fun k hk e => ?_) v')) (fun k hk => ?_)
    · rcases hk with hk | hk
      · exact hk.2 e
      · have e : k = g := e
        omega
    · have hlt : k < (w2.setCell ⟨g, 10, none⟩ v').heap.size := hk.2.2.1
      rcases hk.1 with h1 | h1
      · exact ⟨Or.inl h1.1, h1.2⟩
      · exact ⟨Or.inr ⟨h1, hlt⟩, by omega⟩
  · rcases hk with hk | hk
    · exact ⟨(h.bound k hk).1, by have := (h.bound k hk).2; omega⟩
    · exact ⟨by have := h.bl.size; omega, hk.2⟩
theorem rec_end {w0 w3 w4 : World} {G : Nat → Prop} {g : Nat} {o : Ro} {v1 v5 vL v' : Value} {x2 x3 x4 : Int} {L : List S70} (h : IsO w0 G w g o v1 v5 vL x2 x3 x4) (hb : Below w.heap.size w w3) (h3 : IsO w0 G w3 g o v1 v5 vL x2 x3 x4) (hf : Fr (fun k => G k ∧ k ≠ g) w3 w4) (hR : Kd.R k70 70 w4 w0.heap.size (fun k => (G k ∧ k ≠ g) ∨ w3.heap.size ≤ k) v' L) :
    IsO w0 (Fx G w (w4.setCell ⟨g, 10, none⟩ v')) (w4.setCell ⟨g, 10, none⟩ v') g { o with L := L } v1 v5 v' x2 x3 x4 ∧ Fr G w (w4.setCell ⟨g, 10, none⟩ v') := by
  obtain ⟨h1, h2⟩ := h3.stored hf hR
  have s1 := hb.size
  refine ⟨⟨h1.at_, Kd.R_mono h1.row (fun k hk => ⟨?_, hk.2⟩), h1.bl, Or.inl h.gG, h.gb, fun k hk => ?_⟩, ((Fr.refl G w).below hb).trans h2⟩
  · rcases hk.1 with h | h
    · exact Or.inl h
    · exact Or.inr ⟨by omega, h.2⟩
  · rcases hk with hk | hk
    · exact h1.bound k (Or.inl hk)
    · exact ⟨by have := h.bl.size; omega, hk.2⟩
def Trc.T11 : Bool × List (List Nat × List Nat) := (true, [([], []), ([], []), ([], []), ([2], [2]), ([3], [3]), ([4], [4]), ([5], [5]), ([], []), ([7], [7]), ([8], [8]), ([9], [9]), ([], []), ([], []), ([1, 6, 10, 11, 12, 12], [1, 6, 10, 11, 12]), ([0, 0, 1, 2, 3, 4, 5, 6, 7, 8, 9, 10, 11, 12, 13], [0]), ([14, 0, 1, 2, 3, 4, 5, 6, 7, 8, 9, 10, 11, 12, 13], [14]), ([15, 13, 13, 0, 1, 2, 3, 4, 5, 6, 7, 8, 9, 10, 11, 12, 13], [13, 15])])
def Trc.B11 : List Nat := [0, 0, 0, 4, 12, 28, 60, 0, 128, 384, 896, 0, 0, 8190, 16383, 32767, 65535]
theorem Trc.tab11 : rtab .any (opsOf Try.f16 11) = Trc.T11 := by kernel_rfl
theorem Trc.bits11 : waitsOk Trc.T11.2 Trc.B11 = true := by kernel_rfl
end Go.Proofs.Ytjegeghigfmkoaa.T
namespace Go.Proofs.Ytjegeghigfmkoaa.T
open Go.RowKit Go.Maps Go.Sort Go.Proofs Go.Proofs.Ytjegeghigfmkoaa Go.Proofs.Ytjegeghigfmkoaa.X Go.Proofs.YtjegeghigfmkoaaW.PrintWords Go.Proofs.YtjegeghigfmkoaaW.PrintLast Go.Proofs.YtjegeghigfmkoaaW.PrintMore
set_option linter.unusedVariables false
set_option linter.unusedSimpArgs false
set_option maxRecDepth 100000
variable {F : Nat → Prop} {N : Nat} {w w' : World} {q b1 b2 : Nat} {tv : Value} {tm : List Int} {s : St}
structure Lw (w0 : World) (G : Nat → Prop) (w w2 : World) (g : Nat) (o : Ro) (v1 v5 : Value) (x2 x3 x4 : Int) (r : S39) (A : Option Addr) (sp : List S68) (Lf : Nat → List S70) (i : Nat) (wr : World) (G1 : Nat → Prop) (vL : Value) : Prop where
  is : IsO w0 G1 wr g { o with L := Lf i } v1 v5 vL x2 x3 x4
  fr : Fr G w2 wr
  old : ∀ k, G1 k → G k ∨ w2.heap.size ≤ k
  hR : wr.heap[w.heap.size]? = some (.cells #[.int .i64 r.f0, .int .i64 r.f1, .int .i64 r.f2] 39 (0, 0))
  row : Kd.F k68 wr (fun k => w.heap.size < k ∧ k < w2.heap.size) A sp.length sp
theorem Lw.next {w0 : World} {G G1 : Nat → Prop} {w2 wr w3 w4 : World} {g : Nat} {o : Ro} {v1 v5 vL v' : Value} {x2 x3 x4 : Int} {r : S39} {A : Option Addr} {sp : List S68} {Lf : Nat → List S70} {i : Nat} (h : Lw w0 G w w2 g o v1 v5 x2 x3 x4 r A sp Lf i wr G1 vL) (hG : ∀ k, G k → k < w.heap.size) (hw2 : w.heap.size < w2.heap.size)
    (hb : Below wr.heap.size wr w3) (hf : Fr (fun k => G1 k ∧ k ≠ g) w3 w4) (hR : Kd.R k70 70 w4 w0.heap.size (fun k => (G1 k ∧ k ≠ g) ∨ w3.heap.size ≤ k) v' (Lf (i + 1))) :
    Lw w0 G w w2 g o v1 v5 x2 x3 x4 r A sp Lf (i + 1) (w4.setCell ⟨g, 10, none⟩ v') (Fx G1 wr (w4.setCell ⟨g, 10, none⟩ v')) v' := by
  obtain ⟨h1, h2⟩ := rec_end h.is hb (h.is.below hb) hf hR
  have s1 := h.fr.size
  have hrl := lt_of_block h.hR
  have nG1 : ∀ k, k < w2.heap.size → w.heap.size ≤ k → ¬ G1 k := fun k hk hk2 hg => by
    rcases h.old k hg with h | h
    · have := hG k h; omega
    · omega
  refine ⟨h1, h.fr.mix h.old h2 (Fr.refl (fun _ => False) _) (fun _ h => h.elim), fun k hk => ?_, (h2.block _ hrl (nG1 _ hw2 (Nat.le_refl _))).trans h.hR, Kd.F_step h.row (fun k hk hlt => h2.block k hlt (nG1 k hk.2 (Nat.le_of_lt hk.1)))⟩
  rcases hk with hk | hk
  · exact h.old k hk
  · exact Or.inr (by omega)
end Go.Proofs.Ytjegeghigfmkoaa.T
namespace Go.Proofs.Ytjegeghigfmkoaa.T
open Go.RowKit Go.Maps Go.Sort Go.Proofs Go.Proofs.Ytjegeghigfmkoaa Go.Proofs.Ytjegeghigfmkoaa.X Go.Proofs.YtjegeghigfmkoaaW.PrintWords Go.Proofs.YtjegeghigfmkoaaW.PrintLast Go.Proofs.YtjegeghigfmkoaaW.PrintMore
set_option linter.unusedVariables false
set_option linter.unusedSimpArgs false
set_option maxRecDepth 100000
variable {F : Nat → Prop} {N : Nat} {w w' : World} {q b1 b2 : Nat} {tv : Value} {tm : List Int} {s : St}
theorem puts_one {kind a key val : Int} {ps ps' : List S70} {sp : S68} (h : Puts kind a key val ps [sp] ps') : IntoS kind a key val sp ps ps' := by
  generalize hl : [sp] = l at h
  cases h with
  | nil => cases hl
  | @snoc sps sp' ps1 _ h k =>
    have hl2 := hl
    rcases sps with _ | ⟨x, r⟩
    · simp at hl
      subst hl
      generalize hn : ([] : List S68) = e at h
      cases h with
      | nil => exact k
      | snoc h2 k2 => simp at hn
    · simp at hl
theorem fit10 : Th.Fit 1 10 0 := ⟨by omega, by omega, by omega, by omega, fun h => absurd h (by omega), fun _ => rfl⟩
theorem sp10 (t : Int) (ht : 0 ≤ t ∧ t < 10) : SpS 1 10 0 t [⟨0, 10⟩] := by
  refine Or.inr ⟨by omega, ?_⟩
  have h := Th.spans_ev fit10 (t := t) ⟨by omega, by omega⟩
  have e : Th.spansP 1 10 0 t = [⟨0, 10⟩] := by
    have : Th.fl t 10 = 0 := by unfold Th.fl; omega
    unfold Th.spansP
    rw [if_pos rfl, this]
    rfl
  rw [e] at h
  obtain ⟨k, hk⟩ := h
  exact ⟨k, hk k (Nat.le_refl _)⟩
def p5 : S70 := ⟨1, ⟨0, 10⟩, 5⟩
def p7 : S70 := ⟨1, ⟨0, 10⟩, 7⟩
theorem into1 {ps' : List S70} (h : IntoS 1 1 1 5 ⟨0, 10⟩ [] ps') : ps' = [p5] := by
  unfold IntoS at h
  rw [if_neg (by decide)] at h
  rw [h]
  kernel_rfl
theorem into2 {ps' : List S70} (h : IntoS 1 1 1 2 ⟨0, 10⟩ [p5] ps') : ps' = [p7] := by
  unfold IntoS at h
  rw [if_neg (by decide)] at h
  rw [h]
  kernel_rfl
theorem sort1 (p : S70) : sortP [p] = [p] := Th.sortP_same (List.pairwise_singleton _ _)
theorem p7_64 : P64 p7 := ⟨by unfold I64 p7; decide, by unfold I64 p7; decide, by unfold I64 p7; decide, by unfold I64 p7; decide⟩
theorem b7_len : (bytesB [p7]).length = 36 := by rw [bytesB_len]; rfl
theorem read7 : readB (bytesB [p7]) = [p7] := by
  unfold readB
  rw [b7_len]
  have e : (bytesB [p7]).drop 4 = panesB [p7] := by
    unfold bytesB
    rw [List.drop_append, numB_len, List.drop_eq_nil_of_le (by rw [numB_len]; omega)]
    rfl
  rw [e]
  exact parse_B [p7] (fun p hp => by rw [List.mem_singleton.1 hp]; exact p7_64)
theorem load7 : loadL 1 [p7] = [p7] := by kernel_rfl
theorem open7 : openL 1 1 (bytesB [p7]) = [p7] := by
  rw [openL, read7, loadOf, if_neg (by decide), load7]
theorem ok7 : OpenOk 1 1 (bytesB [p7]) := by
  refine ⟨⟨by rw [b7_len]; omega, by rw [b7_len]⟩, ?_⟩
  rw [open7, sort1]
theorem no7 (b : List Int) (h : b.length = 18) : ¬ OpenOk 1 1 b := fun h2 => by
  have := h2.1.2
  omega
theorem fired7 : firedR ⟨1, 10, 0, 1, [p7]⟩ 9 = [⟨1, 9, 7⟩] := by
  unfold firedR
  rw [sort1]
  kernel_rfl
theorem left7 : firedL ⟨1, 10, 0, 1, [p7]⟩ 9 = [] := by
  unfold firedL
  rw [sort1]
  have : Th.leftR 9 [p7] = [] := by kernel_rfl
  rw [this]
  rfl
theorem idle7 : ¬ Idle ⟨1, 10, 0, 1, [p7]⟩ 9 := fun h => by
  rcases h with ⟨h, _⟩ | h
  · cases h
  · have h := h p7 (List.mem_singleton.2 rfl)
    have e : lastP p7 = 9 := by kernel_rfl
    omega
theorem R_one39 (w : World) (B : Nat) (hB : B ≤ w.heap.size) (x : S39) : Kd.R k39 39 (w.alloc (.cells #[.int .i64 x.f0, .int .i64 x.f1, .int .i64 x.f2] 39)) B (fun _ => True) (.slice (some ⟨w.heap.size, 0, none⟩) 1 1) [x] :=
  ⟨fun _ _ => trivial, _, World.ownsRow_lit (e := 39) (size := 3) w #[.int .i64 x.f0, .int .i64 x.f1, .int .i64 x.f2] 1 hB (by unfold maxLen; omega) rfl, Reps.c3 (k39_mkM _ _ _ x) (Reps.none _ _)⟩
theorem IsS.wide {w1 wa wb : World} {N' : Nat} {s' : St} (h : To (fun k => w1.heap.size ≤ k ∧ k < wa.heap.size) wa wb N' q s') (h1 : w1.heap.size ≤ wa.heap.size) : IsS (fun k => w1.heap.size ≤ k ∧ k < wb.heap.size) N' wb q s' :=
  h.is.mono (fun k hk => by
    have := h.fr.size
    rcases hk with hk | hk
    · exact ⟨hk.1, by omega⟩
    · exact ⟨by omega, hk.2⟩) (fun k hk => hk.2) (Nat.le_refl _) h.is.small
def Tkn.T11 : Bool × List (List Nat × List Nat) := (true, [([], []), ([], []), ([], []), ([2], [2]), ([3], [3]), ([1, 4], [1, 4]), ([0, 5], [0, 5]), ([6], [6]), ([7], [7]), ([7], [7]), ([8, 6, 0, 1, 2, 3, 4, 5, 6, 7, 8], [8]), ([9, 10, 0, 1, 2, 3, 4, 5, 6, 7, 8, 9, 10], [9])])
def Tkn.B11 : List Nat := [0, 0, 0, 4, 12, 30, 63, 127, 255, 255, 511, 2047]
theorem Tkn.tab11 : rtab .any (opsOf Try.f9 11) = Tkn.T11 := by kernel_rfl
theorem Tkn.bits11 : waitsOk Tkn.T11.2 Tkn.B11 = true := by kernel_rfl
set_option maxHeartbeats 8000000 in
theorem known_calls (w : World) : Calls Try.prog 9 #[] w fun e w' => e = .returned (.bool true) ∧ Below w.heap.size w w' := by
  go_enter Try.func9, Try.ntmps9
  go_wp2_with fail
  have HW1 := Aside0.mk (heap_alloc_new w (.cells #[.int .i64 1, .int .i64 10, .int .i64 0] 23))
  have HB1 := Aside0.mk ((Below.refl w.heap.size w).alloc (Nat.le_refl _) (.cells #[.int .i64 1, .int .i64 10, .int .i64 0] 23))
  generalize (w.alloc (.cells #[.int .i64 1, .int .i64 10, .int .i64 0] 23)) = w1 at HW1 HB1 ⊢
  go_wp2_with (first
    | (go_at_call 11
       refine (New_calls w1 1 10 0 1).mono ?_
       rintro e w2 ⟨q, rfl, hI, hb⟩
       have HI2 := Aside0.mk hI
       have HB2 := Aside0.mk hb
       clear hI hb)
    | (go_at_call 15
       refine (Put_calls HI2.out ⟨1, 3, 5⟩ (by unfold I64; decide) [⟨0, 10⟩] (sp10 3 (by decide)) (by intro x hx; rw [List.mem_singleton.1 hx]; unfold I64; decide) (by decide) (by decide)).mono ?_
       rintro e w3 ⟨rfl, N3, ps3, hto, hN, hp⟩
       obtain rfl := into1 (puts_one hp)
       have HB3 := Aside0.mk (HB2.out.trans (hto.fr.toBelow (B := w1.heap.size) HB2.out.size (fun k _ hk => hk.1)))
       have HI3 := Aside0.mk (IsS.wide hto HB2.out.size)
       have HN3 := Aside0.mk hN
       clear hto hN hp HI2 HB2)
    | (go_at_call 15
       refine (Put_calls HI3.out ⟨1, 7, 2⟩ (by unfold I64; decide) [⟨0, 10⟩] (sp10 7 (by decide)) (by intro x hx; rw [List.mem_singleton.1 hx]; unfold I64; decide) (by decide) (by have h : N3 + [p5].length ≤ 0 + 0 + 2 * 1 := HN3.out; show N3 + [p5].length + 128 ≤ _; omega)).mono ?_
       rintro e w4 ⟨rfl, N4, ps4, hto, hN, hp⟩
       obtain rfl := into2 (puts_one hp)
       have HB4 := Aside0.mk (HB3.out.trans (hto.fr.toBelow (B := w1.heap.size) HB3.out.size (fun k _ hk => hk.1)))
       have HI4 := Aside0.mk (IsS.wide hto HB3.out.size)
       clear hto hN hp HI3 HB3)
    | (go_at_call 21
       refine (Panes_calls HI4.out).mono ?_
       rintro e w5 ⟨v5, rfl, hR, hb⟩
       rw [sort1] at hR
       obtain ⟨A5, c5, rfl⟩ := Kd.R_slice hR
       have HF5 := Aside0.mk (Kd.F_mono (Kd.R_F (Kd.R_bound hR)) (fun k hk => (And.intro hk.2.1 hk.2.2.1 : w4.heap.size ≤ k ∧ k < w5.heap.size)))
       have HB5 := Aside0.mk hb
       clear hR hb)
    | (go_at_call 29
       refine (Next_calls (HI4.out.below HB5.out)).mono ?_
       rintro e w6 ⟨t, b, rfl, hn, hto⟩
       have ht : t = 9 ∧ b = true := by
         rcases hn with ⟨_, _, h⟩ | ⟨h1, ⟨p, hp, h2⟩, _⟩
         · cases h
         · rw [List.mem_singleton.1 hp] at h2
           exact ⟨h2.symm.trans (by kernel_rfl), h1⟩
       obtain ⟨rfl, rfl⟩ := ht
       have HTO := Aside0.mk hto
       have HF6 := Aside0.mk (Kd.F_step HF5.out (fun k hk hlt => hto.fr.block k hlt (fun h => by have := hk.1; have := h.2; omega)))
       clear hn hto HF5)
    | (go_at_call 23
       refine (Bytes_calls HTO.out.is).mono ?_
       rintro e w7 ⟨v7, rfl, hR, hb⟩
       rw [sort1] at hR
       obtain ⟨A7, c7, rfl⟩ := Kd.R_slice hR
       have HR7 := Aside0.mk hR
       have HB7 := Aside0.mk hb
       have hlt1 := lt_of_block HW1.out
       have hw4 := (HB4.out.block _ hlt1).trans HW1.out
       have hw5 := blk_below hw4 HB5.out
       have hw6 := (HTO.out.fr.block _ (lt_of_block hw5) (fun h => by have := h.1; omega)).trans hw5
       have hw7 := blk_below hw6 hb
       have HW7 := Aside0.mk hw7
       have u0 := (blk_cell hw7 0).trans rfl
       have u1 := (blk_cell hw7 1).trans rfl
       have u2 := (blk_cell hw7 2).trans rfl
       rw [b7_len]
       clear hR hb hw4 hw5 hw6 hw7 hlt1)
    | (go_at_call 22
       have KO := Open_calls w7 1 10 0 1 A7 c7 _ (Kd.R_reads' HR7.out).2.2 (Kd.R_reads' HR7.out).2.1 (by rw [b7_len]; decide) (bytesB_8 _)
       rw [b7_len] at KO
       refine KO.mono ?_
       clear KO
       rintro e w8 ⟨hb8, h8⟩
       rcases h8 with ⟨h8, _⟩ | ⟨_, q8, N8, rfl, _, h8⟩
       · exact absurd ok7 h8
       rw [open7] at h8
       have HT8 := Aside0.mk h8
       have HB8 := Aside0.mk hb8
       clear h8 hb8)
    | fail)
  have hb8 := HB8.out
  have hw8 := blk_below HW7.out hb8
  refine start_ (n := 12) (S := fun w' => w'.cell? ⟨w.heap.size, 0, none⟩ = some (.int .i64 1) ∧ w'.cell? ⟨w.heap.size, 1, none⟩ = some (.int .i64 10) ∧ w'.cell? ⟨w.heap.size, 2, none⟩ = some (.int .i64 0)) (ds := []) #[false, false, false, false, false, false, false, false, false, false, false, false] (by kernel_rfl) rfl rfl ⟨(blk_cell (blk_drew hw8) 0).trans rfl, (blk_cell (blk_drew hw8) 1).trans rfl, (blk_cell (blk_drew hw8) 2).trans rfl⟩ (fun hHeld => ?_); refine with_tabW Tkn.tab11 Tkn.bits11 (fun HT_ HW_ => ?_)
  have HB9 := Aside0.mk (below_drew hb8)
  have HT9 := Aside0.mk (HT8.out.below (below_drew (Below.refl _ _)))
  have HW9 := Aside0.mk (blk_drew hw8)
  have hc36 : 36 ≤ c7 := by have := (Kd.R_reads' HR7.out).2.1; rw [b7_len] at this; exact this
  have hc18 : 18 ≤ c7 := by omega
  clear hb8 hw8 HB8
  generalize hw9 : World.drew w8 = w9 at HB9 HT9 HW9 hHeld ⊢
  have h18 : wrap64 18 = 18 := by kernel_rfl
  have hsl : ∀ W, (Instr.slice 58 (.slice A7 36 c7) none (some (.int .i64 18)) none).run Try.prog W = .ok (.slice A7 18 c7) W := fun W => to_run A7 36 c7 18 (by decide) hc36 W
  refine take_ (i := 0) (N := some 39) (v := ?_) (a' := ?_) #[true, false, false, false, false, false, false, false, false, false, false, false] rfl rfl (take_ofW HT_.out HW_.out (by kernel_rfl)) (fun _ _ _ h => h) (Or.inl ⟨by rfl, ?_⟩) hHeld ?_ ?_
  rotate_left
  · rintro w' ⟨s0, s1, s2⟩
    go_simp
    with_reducible rfl
  rotate_left
  · simp only [Act.put, List.setIfInBounds_toArray, List.set_cons_zero, List.set_cons_succ, i64_w, i32_w]
    rfl
  refine pure_ (i := 1) (N := some 40) (v := ?_) (a' := ?_) #[true, true, false, false, false, false, false, false, false, false, false, false] rfl rfl (any_of HT_.out (by kernel_rfl)) (fun _ _ _ h => h) (Or.inl ⟨by rfl, ?_⟩) ?_ ?_
  rotate_left
  · intro w'
    go_simp
    with_reducible rfl
  rotate_left
  · simp only [Act.put, List.setIfInBounds_toArray, List.set_cons_zero, List.set_cons_succ, i64_w, i32_w]
    rfl
  refine pure_ (i := 2) (N := some 41) (v := ?_) (a' := ?_) #[true, true, true, false, false, false, false, false, false, false, false, false] rfl rfl (any_of HT_.out (by kernel_rfl)) (fun _ _ _ h => h) (Or.inl ⟨by rfl, ?_⟩) ?_ ?_
  rotate_left
  · intro w'
    go_simp
    with_reducible rfl
  rotate_left
  · simp only [Act.put, List.setIfInBounds_toArray, List.set_cons_zero, List.set_cons_succ, i64_w, i32_w]
    rfl
  refine pure_ (i := 3) (N := some 42) (v := ?_) (a' := ?_) #[true, true, true, true, false, false, false, false, false, false, false, false] rfl rfl (any_of HT_.out (by kernel_rfl)) (fun _ _ _ h => h) (Or.inl ⟨by rfl, ?_⟩) ?_ ?_
  rotate_left
  · intro w'
    go_simp
    with_reducible rfl
  rotate_left
  · simp only [Act.put, List.setIfInBounds_toArray, List.set_cons_zero, List.set_cons_succ, i64_w, i32_w]
    rfl
  refine pure_ (i := 4) (N := some 43) (v := ?_) (a' := ?_) #[true, true, true, true, true, false, false, false, false, false, false, false] rfl rfl (any_of HT_.out (by kernel_rfl)) (fun _ _ _ h => h) (Or.inl ⟨by rfl, ?_⟩) ?_ ?_
  rotate_left
  · intro w'
    go_simp
    with_reducible rfl
  rotate_left
  · simp only [Act.put, List.setIfInBounds_toArray, List.set_cons_zero, List.set_cons_succ, i64_w, i32_w]
    rfl
  refine pure_ (i := 5) (N := some 44) (v := ?_) (a' := ?_) #[true, true, true, true, true, true, false, false, false, false, false, false] rfl rfl (any_of HT_.out (by kernel_rfl)) (fun _ _ _ h => h) (Or.inl ⟨by rfl, ?_⟩) ?_ ?_
  rotate_left
  · intro w'
    go_simp
    with_reducible rfl
  rotate_left
  · simp only [Act.put, List.setIfInBounds_toArray, List.set_cons_zero, List.set_cons_succ, i64_w, i32_w]
    rfl
  have len18 : ((bytesB [p7]).take 18).length = 18 := by rw [List.length_take, b7_len]; rfl
  have KO := Open_calls w9 1 10 0 1 A7 c7 ((bytesB [p7]).take 18) (Kd.C_take (Kd.C_below (Kd.R_reads' HR7.out).2.2 HB9.out) (by rw [b7_len]; decide)) (by rw [len18]; exact hc18) (by rw [len18]; decide) (fun x hx => bytesB_8 _ x (List.mem_of_mem_take hx))
  have KO := KO.mono (R' := fun e w' => e = .returned (.tuple #[.pointer none, .int .i64 120]) ∧ Below w9.heap.size w9 w') (fun e w' h => ⟨by
    rcases h.2 with h2 | h2
    · exact h2.2
    · exact absurd h2.1 (no7 _ len18), h.1⟩)
  rw [len18] at KO
  clear h18 hsl
  refine one_ (i := 6) (N := some 45) #[true, true, true, true, true, true, true, false, false, false, false, false] rfl rfl (one_of HT_.out (by kernel_rfl)) (by decide) (fun K hK => ?_)
  refine goes_ Try.func22 (by kernel_rfl) rfl #[aggW 1 10 0, .int .i64 1, .slice A7 18 c7] (by rfl) rfl rfl (by (try simp only [List.map_toArray, List.map_cons, List.map_nil]); first | done | rfl) ?_
  refine (KO).mono ?_
  rintro e w10 ⟨rfl, hb10⟩
  refine ⟨_, rfl, ?_⟩
  have HB10 := Aside0.mk hb10
  have hw10 := blk_below HW9.out hb10
  refine hK.out _ _ ⟨(blk_cell hw10 0).trans rfl, (blk_cell hw10 1).trans rfl, (blk_cell hw10 2).trans rfl⟩ (fun hHeld => ?_)
  clear hK K
  refine norm_ (a' := ?_) ?_ ?_
  rotate_left
  · show Act.put _ (some 45) _ = _
    simp only [Act.put, List.setIfInBounds_toArray, List.set_cons_zero, List.set_cons_succ, i64_w, i32_w]
    rfl
  refine pure_ (i := 7) (N := some 38) (v := ?_) (a' := ?_) #[true, true, true, true, true, true, true, true, false, false, false, false] rfl rfl (any_of HT_.out (by kernel_rfl)) (fun _ _ _ h => h) (Or.inl ⟨by rfl, ?_⟩) ?_ ?_
  rotate_left
  · intro w'
    go_simp
    with_reducible rfl
  rotate_left
  · simp only [Act.put, List.setIfInBounds_toArray, List.set_cons_zero, List.set_cons_succ, i64_w, i32_w]
    rfl
  refine pure_ (i := 8) (N := some 46) (v := ?_) (a' := ?_) #[true, true, true, true, true, true, true, true, true, false, false, false] rfl rfl (any_of HT_.out (by kernel_rfl)) (fun _ _ _ h => h) (Or.inl ⟨by rfl, ?_⟩) ?_ ?_
  rotate_left
  · intro w'
    go_simp
    with_reducible rfl
  rotate_left
  · simp only [Act.put, List.setIfInBounds_toArray, List.set_cons_zero, List.set_cons_succ, i64_w, i32_w]
    rfl
  refine pure_ (i := 9) (N := some 47) (v := ?_) (a' := ?_) #[true, true, true, true, true, true, true, true, true, true, false, false] rfl rfl (any_of HT_.out (by kernel_rfl)) (fun _ _ _ h => h) (Or.inl ⟨by rfl, ?_⟩) ?_ ?_
  rotate_left
  · intro w'
    go_simp
    with_reducible rfl
  rotate_left
  · simp only [Act.put, List.setIfInBounds_toArray, List.set_cons_zero, List.set_cons_succ, i64_w, i32_w]
    rfl
  refine pure_ (i := 10) (N := some 9) (v := ?_) (a' := ?_) #[true, true, true, true, true, true, true, true, true, true, true, false] rfl rfl (any_of HT_.out (by kernel_rfl)) (fun _ _ _ h => h) (Or.inl ⟨by rfl, ?_⟩) ?_ ?_
  rotate_left
  · intro w'
    go_simp
    with_reducible rfl
  rotate_left
  · simp only [Act.put, List.setIfInBounds_toArray, List.set_cons_zero, List.set_cons_succ, i64_w, i32_w]
    rfl
  refine pure_ (i := 11) (N := some 10) (v := ?_) (a' := ?_) #[true, true, true, true, true, true, true, true, true, true, true, true] rfl rfl (any_of HT_.out (by kernel_rfl)) (fun _ _ _ h => h) (Or.inl ⟨by rfl, ?_⟩) ?_ ?_
  rotate_left
  · intro w'
    go_simp
    with_reducible rfl
  rotate_left
  · simp only [Act.put, List.setIfInBounds_toArray, List.set_cons_zero, List.set_cons_succ, i64_w, i32_w]
    rfl
  refine done_ (done_of HT_.out (by kernel_rfl)) ?_
  clear KO len18 hb10 hw10 hHeld
  go_wp2_with (first
    | (go_at_call 19
       have hI10 := (((HTO.out.is.below HB7.out).below (HB9.out)).below HB10.out)
       refine (Fire_calls hI10 9).mono ?_
       rintro e w11 ⟨v11, out, N11, ps11, rfl, hR, hto, _, h11⟩
       rcases h11 with ⟨h11, _⟩ | ⟨_, rfl, rfl⟩
       · exact absurd h11 idle7
       have HX := Aside0.mk hR
       rw [fired7] at hR
       rw [left7] at hto
       obtain ⟨A11, c11, rfl⟩ := Kd.R_slice hR
       have HR11 := Aside0.mk hR
       have HT11 := Aside0.mk hto
       have hF11 := Kd.F_step (Kd.F_below (Kd.F_below (Kd.F_below HF6.out HB7.out) HB9.out) HB10.out) (fun k hk hlt => hto.fr.block k hlt (fun h => by
         rcases h with h | h
         · have := h.2; have := hk.1; omega
         · have := h.1; have := hk.2; omega))
       obtain ⟨ad, rfl, x0, x1, x2, x3⟩ := at_T70 (Kd.F_now hF11) 0 (by decide) (by decide)
       have ea : ad.add ((0 : Int).toNat * 4) = ad := add0 ad
       rw [ea] at x0 x1 x2 x3
       have HTT : Aside0 (IsS (fun k => w7.heap.size ≤ k ∧ k < w8.heap.size) N8 w11 q8 ⟨1, 10, 0, 1, [p7]⟩) := ⟨(HT9.out.below HB10.out).fr hto.fr (fun k hk h => by
         rcases hk with hk | hk
         · have := hk.2; have := h.1; have := HB5.out.size; have := HTO.out.fr.size; have := HB7.out.size; omega
         · have := h.1; have := hk.2; have := HB7.out.size; omega)⟩
       have KT := Len_st HTT.out
       dsimp only at KT
       clear hI10 hR hto HX hF11 ea)
    | (go_at_call 26; refine KT.mono ?_; clear KT; rintro e w12 ⟨rfl, rfl⟩)
    | (go_at_call 26; refine KS.mono ?_; clear KS; rintro e w12 ⟨rfl, rfl⟩)
    | (go_at_call 18
       obtain ⟨k, hk⟩ := Th.records_ev [⟨1, 9, 7⟩] (by decide)
       have hn := R_one39 w12 w12.heap.size (Nat.le_refl _) ⟨1, 9, 7⟩
       refine (leathelp_Records.calls k A11 c11 [⟨1, 9, 7⟩] _ _ [⟨1, 9, 7⟩] true _ (Kd.C_alloc (Kd.R_reads' HR11.out).2.2 _) (Kd.R_reads' HR11.out).2.1 (Kd.R_reads' hn).2.2 (Kd.R_reads' hn).2.1 (hk k (Nat.le_refl _))).mono ?_
       rintro e w14 ⟨rfl, hd⟩
       have HD := Aside0.mk hd.below
       have KS := Len_st ((HT11.out.is.below ((Below.refl w12.heap.size w12).alloc (Nat.le_refl _) (.cells #[.int .i64 1, .int .i64 9, .int .i64 7] 39))).below HD.out)
       dsimp only at KS
       clear hk hn hd)
    | fail)
  go_ret
  refine ⟨rfl, ?_⟩
  have b1 := HB1.out
  have s1 := b1.size
  have b4 := b1.trans (HB4.out.mono b1.size)
  have b5 := b4.trans (HB5.out.mono b4.size)
  have s5 := b5.size
  have b6 := b5.trans (HTO.out.fr.toBelow (B := w.heap.size) b5.size (fun k _ h => by have := h.1; omega))
  have b7 := b6.trans (HB7.out.mono b6.size)
  have b9 := b7.trans (HB9.out.mono b7.size)
  have b10 := b9.trans (HB10.out.mono b9.size)
  have b12 := b10.trans (HT11.out.fr.toBelow (B := w.heap.size) b10.size (fun k _ h => by
    rcases h with h | h
    · have := h.1; omega
    · have := h.1; omega))
  have b13 := b12.alloc b12.size (.cells #[.int .i64 1, .int .i64 9, .int .i64 7] 39)
  exact b13.trans (HD.out.mono b13.size)
end Go.Proofs.Ytjegeghigfmkoaa.T
namespace Go.Proofs.Ytjegeghigfmkoaa.T
open Go.RowKit Go.Maps Go.Sort Go.Proofs Go.Proofs.Ytjegeghigfmkoaa Go.Proofs.Ytjegeghigfmkoaa.X Go.Proofs.YtjegeghigfmkoaaW.PrintWords Go.Proofs.YtjegeghigfmkoaaW.PrintLast Go.Proofs.YtjegeghigfmkoaaW.PrintMore
set_option linter.unusedVariables false
set_option linter.unusedSimpArgs false
set_option maxRecDepth 100000
variable {F : Nat → Prop} {N : Nat} {w w' : World} {q b1 b2 : Nat} {tv : Value} {tm : List Int} {s : St}
theorem fit_any (kind size slide a : Int) : ∃ b : Bool, (b = true → Th.FitA kind size slide a) ∧ ∀ W, Calls Try.prog 10 #[aggW kind size slide, .int .i64 a] W fun e w' => e = .returned (.bool b) ∧ Below W.heap.size W w' := by
  obtain ⟨b, hb, k, hk⟩ := Th.fit_sp kind size slide a
  exact ⟨b, hb, fun W => leatlaw12_fit.calls k kind size slide a b W (hk k (Nat.le_refl _))⟩
theorem time_any (t : Int) (W : World) : Calls Try.prog 14 #[.int .i64 t] W fun e w' => e = .returned (.bool (decide (Th.TimeOk t))) ∧ Below W.heap.size W w' :=
  (leatlaw12_time.calls t _ W (Th.time_eq t)).mono fun e w' h => ⟨h.1, h.2.below⟩
def spansS (kind size slide t : Int) : List S68 := if kind = 0 then [⟨-9223372036854775808, 2199023255553⟩] else Th.spansP kind size slide t
theorem back_bounds (size slide t : Int) (hs : 1 ≤ slide) : ∀ (n : Nat) (s : Int), s ≤ t → ∀ x ∈ Th.backL size slide t n s, x.f0 ≤ t ∧ t < x.f0 + size ∧ x.f1 = x.f0 + size
  | 0, _, _, x, hx => by cases hx
  | n + 1, s, h, x, hx => by
    rw [Th.backL] at hx
    split at hx
    · rename_i hc
      rcases List.mem_cons.1 hx with rfl | hx
      · exact ⟨h, hc, rfl⟩
      · exact back_bounds size slide t hs n (s - slide) (by omega) x hx
    · cases hx
theorem sp_bounds {kind size slide t : Int} (hf : Th.Fit kind size slide) : ∀ x ∈ Th.spansP kind size slide t, x.f0 ≤ t ∧ t < x.f0 + size ∧ x.f1 = x.f0 + size := by
  have h1 := hf.s1
  unfold Th.spansP
  intro x hx
  split at hx
  · rw [List.mem_singleton.1 hx]
    have := Th.fl_bounds t size h1
    exact ⟨this.1, by show t < Th.fl t size + size; omega, rfl⟩
  · split at hx
    · rw [List.mem_singleton.1 hx]
      exact ⟨Int.le_refl _, by show t < t + size; omega, rfl⟩
    · have hk : kind = 2 := by have := hf.k1; have := hf.k3; omega
      have hsl := hf.sl hk
      have := Th.fl_bounds t slide hsl.1
      exact back_bounds size slide t hsl.1 64 _ this.1 x (List.mem_reverse.1 hx)
theorem spansS_64 {kind size slide a t : Int} (hf : Th.FitA kind size slide a) (ht : Th.TimeOk t) : ∀ x ∈ spansS kind size slide t, (I64 x.f0 ∧ I64 x.f1) ∧ x.f0 < x.f1 ∧ -9223372036854775808 < wrap64 (x.f1 - 1) := by
  intro x hx
  unfold spansS at hx
  split at hx
  · rw [List.mem_singleton.1 hx]
    refine ⟨⟨by unfold I64; decide, by unfold I64; decide⟩, by decide, by unfold wrap64; decide⟩
  · rename_i hk
    have hf := hf.2.resolve_left (fun h => hk h.1)
    have hb := sp_bounds hf x hx
    have h1 := hf.s1
    have h2 := hf.s2
    unfold Th.TimeOk at ht
    unfold I64 wrap64
    omega
theorem spansS_len (kind size slide t : Int) : (spansS kind size slide t).length ≤ 64 := by
  unfold spansS
  split
  · decide
  · exact Th.spansP_len _ _ _ _
theorem spansS_is {kind size slide a t : Int} (hf : Th.FitA kind size slide a) (ht : Th.TimeOk t) : SpS kind size slide t (spansS kind size slide t) := by
  unfold spansS
  by_cases hk : kind = 0
  · rw [if_pos hk]
    exact Or.inl ⟨hk, rfl⟩
  · rw [if_neg hk]
    obtain ⟨k, h⟩ := Th.spans_ev (hf.2.resolve_left (fun h => hk h.1)) ht
    exact Or.inr ⟨hk, k, h k (Nat.le_refl _)⟩
inductive PutsAll (kind size slide a : Int) (ps0 : List S70) : List S39 → List S70 → Prop
  | nil : PutsAll kind size slide a ps0 [] ps0
  | snoc {rs : List S39} {r : S39} {ps1 ps2 : List S70} (h : PutsAll kind size slide a ps0 rs ps1) (k : Puts kind a r.f0 r.f2 ps1 (spansS kind size slide r.f1) ps2) : PutsAll kind size slide a ps0 (rs ++ [r]) ps2
structure Hs (B0 : Nat) (w0 : World) (F : Nat → Prop) (N : Nat) (w : World) (q : Nat) (kind size slide a : Int) (ps : List S70) : Prop where
  is : IsS F N w q ⟨kind, size, slide, a, ps⟩
  bl : Below B0 w0 w
  bs : B0 ≤ w.heap.size
  low : ∀ k, F k → B0 ≤ k
theorem Hs.below {B0 : Nat} {w0 : World} {kind size slide a : Int} {ps : List S70} (h : Hs B0 w0 F N w q kind size slide a ps) (hb : Below w.heap.size w w') : Hs B0 w0 F N w' q kind size slide a ps :=
  ⟨h.is.below hb, h.bl.trans (hb.mono h.bs), Nat.le_trans h.bs hb.size, h.low⟩
theorem Hs.to {B0 : Nat} {w0 : World} {kind size slide a : Int} {ps ps' : List S70} {N' : Nat} (h : Hs B0 w0 F N w q kind size slide a ps) (ht : To F w w' N' q ⟨kind, size, slide, a, ps'⟩) : Hs B0 w0 (Fx F w w') N' w' q kind size slide a ps' :=
  ⟨ht.is, h.bl.trans (ht.fr.toBelow h.bs (fun k _ hk => h.low k hk)), Nat.le_trans h.bs ht.fr.size, fun k hk => by
    have := h.bs
    rcases hk with hk | hk
    · exact h.low k hk
    · omega⟩
theorem Hs.put {B0 : Nat} {w0 : World} {kind size slide a : Int} {ps ps0 : List S70} {rs : List S39} (h : Hs B0 w0 F N w q kind size slide a ps) (hf : Th.FitA kind size slide a) (r : S39) (hr : I64 r.f0 ∧ I64 r.f2) (ht : Th.TimeOk r.f1) (hp : PutsAll kind size slide a ps0 rs ps) (hN : N + ps.length + 128 ≤ 1000000) :
    Calls Try.prog 15 #[.pointer (some ⟨q, 0, none⟩), aggR r] w fun e w' => e = .returned (.tuple #[]) ∧ Fr F w w' ∧ ∃ N' ps', Hs B0 w0 (Fx F w w') N' w' q kind size slide a ps' ∧ N' + ps'.length ≤ N + ps.length + 128 ∧ PutsAll kind size slide a ps0 (rs ++ [r]) ps' := by
  have hl := spansS_len kind size slide r.f1
  refine (Put_calls h.is r hr (spansS kind size slide r.f1) (spansS_is hf ht) (fun x hx => (spansS_64 hf ht x hx).1) hl hN).mono ?_
  rintro e w' ⟨rfl, N', ps', hto, hpot, hput⟩
  exact ⟨rfl, hto.fr, N', ps', h.to hto, by have : N' + ps'.length ≤ N + ps.length + 2 * (spansS kind size slide r.f1).length := hpot; omega, .snoc hp hput⟩
theorem New_hs (w : World) (kind size slide a : Int) : Calls Try.prog 11 #[aggW kind size slide, .int .i64 a] w fun e w' => ∃ q, e = .returned (.pointer (some ⟨q, 0, none⟩)) ∧ Hs w.heap.size w (fun k => w.heap.size ≤ k ∧ k < w'.heap.size) 0 w' q kind size slide a [] ∧ Below w.heap.size w w' :=
  (New_calls w kind size slide a).mono fun e w' ⟨q, h1, h2, h3⟩ => ⟨q, h1, ⟨h2, h3, h3.size, fun k hk => hk.1⟩, h3⟩
structure RecL (w0 : World) (A : Option Addr) (l : List S39) : Prop where
  c : ∀ W, Below w0.heap.size w0 W → Kd.C k39 W A l.length l
  i64 : ∀ r ∈ l, I64 r.f0 ∧ I64 r.f2
end Go.Proofs.Ytjegeghigfmkoaa.T
namespace Go.Proofs.Ytjegeghigfmkoaa.T
open Go.RowKit Go.Maps Go.Sort Go.Proofs Go.Proofs.Ytjegeghigfmkoaa Go.Proofs.Ytjegeghigfmkoaa.X Go.Proofs.YtjegeghigfmkoaaW.PrintWords Go.Proofs.YtjegeghigfmkoaaW.PrintLast Go.Proofs.YtjegeghigfmkoaaW.PrintMore
set_option linter.unusedVariables false
set_option linter.unusedSimpArgs false
set_option maxRecDepth 100000
variable {F : Nat → Prop} {N : Nat} {w w' : World} {q b1 b2 : Nat} {tv : Value} {tm : List Int} {s : St}
structure L2 (w w9 : World) (kind size slide : Int) (g7 : Nat) (cx : List Int) (wr : World) : Prop where
  bl : Below w.heap.size w wr
  b9 : Below w9.heap.size w9 wr
  hw : wr.heap[w.heap.size]? = some (.cells #[.int .i64 kind, .int .i64 size, .int .i64 slide] 23 (0, 0))
theorem L2.below {w9 wr w' : World} {kind size slide : Int} {g7 : Nat} {cx : List Int} (h : L2 w w9 kind size slide g7 cx wr) (hb : Below wr.heap.size wr w') : L2 w w9 kind size slide g7 cx w' :=
  ⟨h.bl.trans (hb.mono h.bl.size), h.b9.trans (hb.mono h.b9.size), blk_below h.hw hb⟩
structure Lr (w1 : World) (kind size slide a : Int) (l : List S39) (i : Nat) (q : Nat) (wr : World) (F1 : Nat → Prop) (N1 : Nat) (ps : List S70) : Prop where
  hs : Hs w1.heap.size w1 F1 N1 wr q kind size slide a ps
  puts : PutsAll kind size slide a [] (l.take i) ps
  pot : N1 + ps.length ≤ 128 * i
end Go.Proofs.Ytjegeghigfmkoaa.T
namespace Go.Proofs.Ytjegeghigfmkoaa.T
open Go.RowKit Go.Sort Go.Proofs.YtjegeghigfmkoaaW.PrintWords Go.Proofs.YtjegeghigfmkoaaW.PrintMore Go.Proofs.Ytjegeghigfmkoaa Go.Proofs.Ytjegeghigfmkoaa.So Go.Proofs.Ytjegeghigfmkoaa.X Go.Proofs.Ytjegeghigfmkoaa.Nf Go.Proofs.Ytjegeghigfmkoaa.Th
set_option linter.unusedVariables false
set_option linter.unusedSimpArgs false
theorem fitA_ok {kind size slide a : Int} (h : FitA kind size slide a) : aggOk a = true := by
  unfold aggOk
  exact decide_eq_true (by have := h.1; omega)
theorem putsAll_rs {kind size slide a : Int} (hf : FitA kind size slide a) {rs : List S39} {ps : List S70} (h : PutsAll kind size slide a [] rs ps) (hr : ∀ r ∈ rs, TimeOk r.f1 ∧ Go.Proofs.Ytjegeghigfmkoaa.I64 r.f2) :
    RSk kind a (ones a (spansS kind size slide) rs) ps ∧ NK kind ps ∧ ∀ p ∈ ps, Prp p := by
  induction h with
  | nil => exact ⟨.done (.refl _), List.Pairwise.nil, fun p hp => by cases hp⟩
  | @snoc rs r ps1 ps2 h k ih =>
    obtain ⟨i1, i2, i3⟩ := ih (fun x hx => hr x (List.mem_append_left _ hx))
    have hr1 := hr r (List.mem_append_right _ (List.mem_singleton.2 rfl))
    obtain ⟨j1, j2, j3⟩ := puts_rs (fitA_ok hf) hr1.2 k i2 i3 (fun s hs => (spansS_64 hf hr1.1 s hs).2.1)
    refine ⟨?_, j2, j3⟩
    rw [ones_snoc]
    exact RS.trans (RS.app i1 _) j1
theorem putsAll_is {kind size slide a : Int} (hf : FitA kind size slide a) {rs : List S39} {ps : List S70} (h : PutsAll kind size slide a [] rs ps) (hr : ∀ r ∈ rs, TimeOk r.f1 ∧ Go.Proofs.Ytjegeghigfmkoaa.I64 r.f2) :
    Is kind a (ones a (spansS kind size slide) rs) (sortP ps) := by
  obtain ⟨h1, h2, _⟩ := putsAll_rs hf h hr
  exact Is.sort (fitA_ok hf) h1 h2
theorem putsAll_order {kind size slide a : Int} (hf : FitA kind size slide a) {rs rs' : List S39} {ps ps' : List S70} (h : PutsAll kind size slide a [] rs ps) (h' : PutsAll kind size slide a [] rs' ps') (hp : rs.Perm rs') (hr : ∀ r ∈ rs, TimeOk r.f1 ∧ Go.Proofs.Ytjegeghigfmkoaa.I64 r.f2) :
    sortP ps = sortP ps' :=
  (putsAll_is hf h hr).unique (fitA_ok hf) (putsAll_is hf h' (fun r hr' => hr r (hp.mem_iff.2 hr'))) (ones_perm a _ hp)
theorem same_sym {x y : S70} (h : same x y = false) : same y x = false := by
  cases hs : same y x with
  | false => rfl
  | true =>
    have h4 := (same_iff _ _).1 hs
    have h5 : same x y = true := (same_iff _ _).2 ⟨h4.1.symm, h4.2.symm⟩
    rw [h5] at h
    cases h
theorem load_new {a : Int} : ∀ (l acc : List S70), Apart l → (∀ x ∈ l, ∀ y ∈ acc, same x y = false) → l.foldl (loadP a) acc = l.reverse ++ acc
  | [], acc, _, _ => rfl
  | x :: l, acc, h, hno => by
    have h2 := List.pairwise_cons.1 h
    have hx := hno x (List.mem_cons_self ..)
    have hh : hasP x acc = false := by
      cases hh : hasP x acc with
      | false => rfl
      | true =>
        obtain ⟨y, hy, hs⟩ := List.any_eq_true.1 hh
        rw [hx y hy] at hs
        cases hs
    have e : loadP a acc x = x :: acc := by
      unfold loadP
      rw [if_neg (by rw [hh]; decide)]
      unfold layP
      rw [out_none hx]
    rw [List.foldl_cons, e, load_new l (x :: acc) h2.2 (fun z hz y hy => by
      rcases List.mem_cons.1 hy with rfl | hy
      · exact same_sym (h2.1 z hz)
      · exact hno z (List.mem_cons_of_mem _ hz) y hy)]
    simp
theorem loadL_apart {a : Int} {l : List S70} (h : Apart l) : loadL a l = l.reverse := by
  have := load_new (a := a) l [] h (fun _ _ y hy => by cases hy)
  rw [List.append_nil] at this
  exact this
end Go.Proofs.Ytjegeghigfmkoaa.T
namespace Go.Proofs.Ytjegeghigfmkoaa.T
open Go.RowKit Go.Sort Go.Proofs.YtjegeghigfmkoaaW.PrintWords Go.Proofs.YtjegeghigfmkoaaW.PrintMore Go.Proofs.Ytjegeghigfmkoaa Go.Proofs.Ytjegeghigfmkoaa.So Go.Proofs.Ytjegeghigfmkoaa.X Go.Proofs.Ytjegeghigfmkoaa.Nf Go.Proofs.Ytjegeghigfmkoaa.Th
set_option linter.unusedVariables false
set_option linter.unusedSimpArgs false
theorem load_norm {kind a : Int} (ha : aggOk a = true) {l : List S70} (hN : NK kind l) (hP : ∀ p ∈ l, Prp p) : (loadL a (loadOf kind a l)).Perm l := by
  have hl : (loadOf kind a l).Perm l := by
    unfold loadOf
    split
    · rename_i hk
      subst hk
      have h1 := join_is ha l
      have h2 : Is 3 a l (sortP l) := Is.sort ha (.done (.refl _)) hN
      rw [h1.unique ha h2 (.refl _)]
      exact sortP_perm l
    · exact .refl _
  have hap : Apart (loadOf kind a l) := nk_apart (Normal.perm (mgK kind ha) hN hl.symm) (fun p hp => hP p (hl.mem_iff.1 hp))
  rw [loadL_apart hap]
  exact (List.reverse_perm _).trans hl
theorem firedL_perm {kind size slide a : Int} (ha : aggOk a = true) {ps : List S70} (hN : NK kind ps) (hP : ∀ p ∈ ps, Prp p) (m : Int) : (firedL ⟨kind, size, slide, a, ps⟩ m).Perm (leftR m (sortP ps)) := by
  unfold firedL
  refine load_norm ha (List.Pairwise.sublist List.filter_sublist (Normal.perm (mgK kind ha) hN (sortP_perm ps).symm)) (fun p hp => hP p (leftR_mem hp))
theorem grp_in (x : Int) : 0 ≤ grp x ∧ grp x < 16 := by
  unfold grp
  have h : 0 ≤ IntKind.u64.wrap (IntKind.u64.wrap x * 11400714819323198485) ∧ IntKind.u64.wrap (IntKind.u64.wrap x * 11400714819323198485) < 18446744073709551616 := by
    rw [u64w]
    generalize IntKind.u64.wrap x * 11400714819323198485 = y
    omega
  generalize IntKind.u64.wrap (IntKind.u64.wrap x * 11400714819323198485) = y at h ⊢
  unfold wrap64
  omega
def groupsFrom (l : List S70) : Nat → List S70
  | 0 => []
  | n + 1 => groupsFrom l n ++ l.filter (fun p => !other ((15 - n : Nat) : Int) p)
end Go.Proofs.Ytjegeghigfmkoaa.T
namespace Go.Proofs.Ytjegeghigfmkoaa.T
open Go.RowKit Go.Maps Go.Sort Go.Proofs Go.Proofs.Ytjegeghigfmkoaa Go.Proofs.Ytjegeghigfmkoaa.X Go.Proofs.YtjegeghigfmkoaaW.PrintWords Go.Proofs.YtjegeghigfmkoaaW.PrintLast Go.Proofs.YtjegeghigfmkoaaW.PrintMore
set_option linter.unusedVariables false
set_option linter.unusedSimpArgs false
set_option maxRecDepth 100000
variable {F F1 F2 : Nat → Prop} {N N1 N2 B0 : Nat} {w w0 w' : World} {q q1 q2 : Nat} {s : St} {kind size slide a : Int} {ps ps1 ps2 ps0 : List S70}
structure H2 (B0 : Nat) (w0 : World) (F1 : Nat → Prop) (N1 : Nat) (F2 : Nat → Prop) (N2 : Nat) (w : World) (q1 q2 : Nat) (kind size slide a : Int) (ps1 ps2 : List S70) : Prop where
  s : Hs B0 w0 F1 N1 w q1 kind size slide a ps1
  t : Hs B0 w0 F2 N2 w q2 kind size slide a ps2
  ap : ∀ k, F1 k → ¬ F2 k
theorem H2.symm (h : H2 B0 w0 F1 N1 F2 N2 w q1 q2 kind size slide a ps1 ps2) : H2 B0 w0 F2 N2 F1 N1 w q2 q1 kind size slide a ps2 ps1 := ⟨h.t, h.s, fun k h2 h1 => h.ap k h1 h2⟩
theorem H2.below (h : H2 B0 w0 F1 N1 F2 N2 w q1 q2 kind size slide a ps1 ps2) (hb : Below w.heap.size w w') : H2 B0 w0 F1 N1 F2 N2 w' q1 q2 kind size slide a ps1 ps2 := ⟨h.s.below hb, h.t.below hb, h.ap⟩
theorem H2.to {ps' : List S70} {N' : Nat} (h : H2 B0 w0 F1 N1 F2 N2 w q1 q2 kind size slide a ps1 ps2) (ht : To F1 w w' N' q1 ⟨kind, size, slide, a, ps'⟩) : H2 B0 w0 (Fx F1 w w') N' F2 N2 w' q1 q2 kind size slide a ps' ps2 := by
  have h1 := h.s.to ht
  exact ⟨h1, ⟨h.t.is.fr ht.fr h.ap, h1.bl, h1.bs, h.t.low⟩, fun k hk => by
    rcases hk with hk | hk
    · exact h.ap k hk
    · intro h2
      have := h.t.is.bound k h2
      omega⟩
theorem H2.fr {M : Nat → Prop} (h : H2 B0 w0 F1 N1 F2 N2 w q1 q2 kind size slide a ps1 ps2) (hf : Fr M w w') (hM : ∀ k, M k → ¬ F1 k ∧ ¬ F2 k ∧ B0 ≤ k) : H2 B0 w0 F1 N1 F2 N2 w' q1 q2 kind size slide a ps1 ps2 := by
  have hb : Below B0 w0 w' := h.s.bl.trans (hf.toBelow h.s.bs (fun k _ hk => (hM k hk).2.2))
  have hs : B0 ≤ w'.heap.size := Nat.le_trans h.s.bs hf.size
  exact ⟨⟨h.s.is.fr hf (fun k hk => (hM k hk).1), hb, hs, h.s.low⟩, ⟨h.t.is.fr hf (fun k hk => (hM k hk).2.1), hb, hs, h.t.low⟩, h.ap⟩
theorem H2.new (h : Hs B0 w0 F1 N1 w q1 kind size slide a ps1) (k : Hs w.heap.size w (fun k => w.heap.size ≤ k ∧ k < w'.heap.size) 0 w' q2 kind size slide a []) (hb : Below w.heap.size w w') : H2 B0 w0 F1 N1 (fun k => w.heap.size ≤ k ∧ k < w'.heap.size) 0 w' q1 q2 kind size slide a ps1 [] := by
  have h1 := h.below hb
  exact ⟨h1, ⟨k.is, h1.bl, h1.bs, fun k hk => Nat.le_trans h.bs hk.1⟩, fun k hk h2 => by
    have := h.is.bound k hk
    omega⟩
def SpA (kind size slide t : Int) (sp : List S68) : Prop := kind = 0 ∧ sp = [⟨-9223372036854775808, 2199023255553⟩] ∨ kind ≠ 0 ∧ Ev (fun k => window_Spans.f k kind size slide t) sp
theorem SpA.ok {t : Int} {sp : List S68} (hf : Th.FitA kind size slide a) (ht : Th.TimeOk t) (h : SpA kind size slide t sp) : sp = spansS kind size slide t := by
  unfold spansS
  rcases h with ⟨hk, rfl⟩ | ⟨hk, h⟩
  · rw [if_pos hk]
  · rw [if_neg hk]
    exact Th.ev_unique h (Th.spans_ev (hf.2.resolve_left (fun h => hk h.1)) ht)
inductive PutsX (kind size slide a : Int) (ps0 : List S70) : List S39 → List S70 → Prop
  | nil : PutsX kind size slide a ps0 [] ps0
  | snoc {rs : List S39} {r : S39} {ps1 ps2 : List S70} {sp : List S68} (h : PutsX kind size slide a ps0 rs ps1) (hs : SpA kind size slide r.f1 sp) (k : Puts kind a r.f0 r.f2 ps1 sp ps2) : PutsX kind size slide a ps0 (rs ++ [r]) ps2
theorem PutsX.ok (hf : Th.FitA kind size slide a) {rs : List S39} (h : PutsX kind size slide a ps0 rs ps) (ht : ∀ r ∈ rs, Th.TimeOk r.f1) : PutsAll kind size slide a ps0 rs ps := by
  induction h with
  | nil => exact .nil
  | @snoc rs r ps1 ps2 sp h hs k ih =>
    refine .snoc (ih (fun x hx => ht x (List.mem_append_left _ hx))) ?_
    rw [← hs.ok hf (ht r (List.mem_append_right _ (List.mem_singleton.2 rfl)))]
    exact k
def flatR (rs : List S39) : List Value := rs.flatMap fun r => [.int .i64 r.f0, .int .i64 r.f1, .int .i64 r.f2]
theorem flatR_len (rs : List S39) : (flatR rs).length = rs.length * 3 := by
  induction rs with
  | nil => rfl
  | cons p r ih => unfold flatR at ih ⊢; rw [List.flatMap_cons, List.length_append, ih, List.length_cons]; simp; omega
theorem flatR_get : ∀ (l : List S39) (j c : Nat) (h : j < l.length), c < 3 → (flatR l)[j * 3 + c]? = ([.int .i64 l[j].f0, .int .i64 l[j].f1, .int .i64 l[j].f2] : List Value)[c]?
  | x :: l, 0, c, h, hc => by
    unfold flatR
    rw [List.flatMap_cons, Nat.zero_mul, Nat.zero_add, List.getElem?_append_left (by simpa using hc)]
    rfl
  | x :: l, j + 1, c, h, hc => by
    have ih := flatR_get l j c (by simpa using h) hc
    unfold flatR at ih ⊢
    rw [List.flatMap_cons, List.getElem?_append_right (by simp; omega)]
    have e : (j + 1) * 3 + c - ([.int .i64 x.f0, .int .i64 x.f1, .int .i64 x.f2] : List Value).length = j * 3 + c := by simp; omega
    rw [e, ih]
    rfl
theorem app39m {w : World} {base base' : Nat} {ok : Nat → Prop} {v : Value} {ps ms : List S39} {A : Option Addr} {c : Nat} (ho : w.ownsRow base 39 3 v ps.length (flatR ps)) (hb : base ≤ w.heap.size) (hm : Kd.R k39 39 w base' ok (.slice A ms.length c) ms) (hn : ps.length + ms.length ≤ 2000000) (ty : TypeId) :
    ∃ v' w', (Builtin.append_ #[47, 47] ty #[v, .slice A ms.length c]).run Try.prog w = .ok v' w' ∧ w'.ownsRow base 39 3 v' (ps ++ ms).length (flatR (ps ++ ms)) ∧ w.grownBy w' v.ownBlock ∧ (v'.ownBlock = v.ownBlock ∨ v'.ownBlock = some w.heap.size) := by
  obtain ⟨i0, hi, hz0, hz1, hz2⟩ := info_parts info39
  have hfl : flatR (ps ++ ms) = flatR ps ++ flatR ms := List.flatMap_append
  have hC := (Kd.R_reads' hm).2.2
  obtain ⟨_, inner, hown, hrp⟩ := hm
  rcases hown.2 with ⟨hv, hin⟩ | ⟨g, cap, cur, hv, _⟩
  · injection hv with e1 e2 e3
    subst e1
    subst e3
    have hms : ms = [] := List.eq_nil_of_length_eq_zero e2
    subst hms
    exact ⟨v, w, run_append_owned_none w base 47 ty 39 i0 3 Try.underlying47 hi v ps.length (flatR ps) ho, by rw [List.append_nil]; exact ho, ⟨rfl, rfl, rfl, Nat.le_refl _, fun _ _ _ => rfl⟩, Or.inl rfl⟩
  · injection hv with e1 e2 e3
    subst e1
    have hl : (flatR ms).length = ms.length * 3 := flatR_len ms
    have hcell : ∀ j u, (flatR ms)[j]? = some u → w.cell? ((⟨g, 0, none⟩ : Addr).add j) = some u := by
      intro j u hu
      have hj : j < (flatR ms).length := (List.getElem?_eq_some_iff.1 hu).1
      rw [hl] at hj
      obtain ⟨t, ht⟩ : ∃ t, j / 3 = t := ⟨_, rfl⟩
      obtain ⟨c4, hc4⟩ : ∃ c4, j % 3 = c4 := ⟨_, rfl⟩
      have hq : t < ms.length := by omega
      have hjt : j = t * 3 + c4 := by omega
      have hc : c4 < 3 := by omega
      have e4 : (flatR ms)[t * 3 + c4]? = _ := flatR_get ms t c4 hq hc
      rw [← hjt, hu] at e4
      obtain ⟨ad, cs, e, _, hK, hc0⟩ := Kd.C_get hC z39 (t : Int) (by omega) (by omega)
      cases e
      have hgd : ms.getD ((t : Int)).toNat z39 = ms[t] := by rw [Int.toNat_natCast]; simp [List.getD, hq]
      rw [hgd] at hK
      obtain rfl := k39_open hK
      have h := hc0 c4 u e4.symm
      rw [Int.toNat_natCast] at h
      rw [hjt]
      exact h
    obtain ⟨v', w', g1, g2, g3, _, g5⟩ := run_append_own_at (P := Try.prog) w base 47 ty 39 i0 _ 3 _ Try.underlying47 hi hz0 hz1 hz2 rfl (by decide) v ps.length (flatR ps) ho ⟨g, 0, none⟩ ms.length c (flatR ms) hl hcell (by
      intro u hu
      obtain ⟨x, _, hx⟩ := List.mem_flatMap.1 hu
      simp only [List.mem_cons, List.not_mem_nil, or_false] at hx
      rcases hx with rfl | rfl | rfl <;> rfl) (by unfold maxLen; omega) (by omega) hb
    exact ⟨v', w', g1, by rw [List.length_append, hfl]; exact g2, g3, g5⟩
structure Lu (B0 : Nat) (w0 : World) (kind size slide a : Int) (al : List S39) (q1 q2 : Nat) (w : World) (v : Value) (F1 : Nat → Prop) (N1 : Nat) (F2 : Nat → Prop) (N2 : Nat) (ps1 ps2 : List S70) : Prop where
  h2 : H2 B0 w0 F1 N1 F2 N2 w q1 q2 kind size slide a ps1 ps2
  row : w.ownsRow B0 39 3 v al.length (flatR al)
  free : ∀ g, v.ownBlock = some g → ¬ F1 g ∧ ¬ F2 g
theorem Lu.to {al : List S39} {v : Value} {ps' : List S70} {N' : Nat} (h : Lu B0 w0 kind size slide a al q1 q2 w v F1 N1 F2 N2 ps1 ps2) (ht : To F1 w w' N' q1 ⟨kind, size, slide, a, ps'⟩) : Lu B0 w0 kind size slide a al q1 q2 w' v (Fx F1 w w') N' F2 N2 ps' ps2 :=
  ⟨h.h2.to ht, own_fr h.row ht.fr (fun g hg => (h.free g hg).1), fun g hg => ⟨fun hf => by
    rcases hf with hf | hf
    · exact (h.free g hg).1 hf
    · have := (h.row.lt g hg).2
      omega, (h.free g hg).2⟩⟩
theorem Lu.below {al : List S39} {v : Value} (h : Lu B0 w0 kind size slide a al q1 q2 w v F1 N1 F2 N2 ps1 ps2) (hb : Below w.heap.size w w') : Lu B0 w0 kind size slide a al q1 q2 w' v F1 N1 F2 N2 ps1 ps2 :=
  ⟨h.h2.below hb, pw_own_below h.row hb, h.free⟩
theorem Lu.app {al out : List S39} {v : Value} {base' : Nat} {ok : Nat → Prop} {A : Option Addr} {c : Nat} (h : Lu B0 w0 kind size slide a al q1 q2 w v F1 N1 F2 N2 ps1 ps2) (hR : Kd.R k39 39 w base' ok (.slice A out.length c) out) (hn : al.length + out.length ≤ 2000000) (ty : TypeId) :
    ∃ v' w', (Builtin.append_ #[47, 47] ty #[v, .slice A out.length c]).run Try.prog w = .ok v' w' ∧ Lu B0 w0 kind size slide a (al ++ out) q1 q2 w' v' F1 N1 F2 N2 ps1 ps2 := by
  obtain ⟨v', w', h1, h2, h3, h4⟩ := app39m h.row h.h2.s.bs hR hn ty
  refine ⟨v', w', h1, ⟨h.h2.fr (M := fun k => some k = v.ownBlock) (Fr.of_grown h3 (fun j hj => hj.symm)) (fun k hk => ⟨(h.free k hk.symm).1, (h.free k hk.symm).2, (h.row.lt k hk.symm).1⟩), h2, fun g hg => ?_⟩⟩
  rcases h4 with h4 | h4
  · exact h.free g (h4 ▸ hg)
  · have e : g = w.heap.size := by rw [h4] at hg; exact (Option.some.inj hg).symm
    subst e
    exact ⟨fun hf => by have := h.h2.s.is.bound _ hf; omega, fun hf => by have := h.h2.t.is.bound _ hf; omega⟩
end Go.Proofs.Ytjegeghigfmkoaa.T
namespace Go.Proofs.Ytjegeghigfmkoaa.T
open Go.RowKit Go.Maps Go.Sort Go.Proofs Go.Proofs.Ytjegeghigfmkoaa Go.Proofs.Ytjegeghigfmkoaa.X Go.Proofs.YtjegeghigfmkoaaW.PrintWords Go.Proofs.YtjegeghigfmkoaaW.PrintLast Go.Proofs.YtjegeghigfmkoaaW.PrintMore
set_option linter.unusedVariables false
set_option linter.unusedSimpArgs false
set_option maxRecDepth 100000
variable {F F1 F2 : Nat → Prop} {N N1 N2 B0 : Nat} {w w0 w' : World} {q q1 q2 : Nat} {s : St} {kind size slide a : Int} {ps ps1 ps2 ps0 : List S70}
theorem Lu.symm {al : List S39} {v : Value} (h : Lu B0 w0 kind size slide a al q1 q2 w v F1 N1 F2 N2 ps1 ps2) : Lu B0 w0 kind size slide a al q2 q1 w v F2 N2 F1 N1 ps2 ps1 := ⟨h.h2.symm, h.row, fun g hg => ⟨(h.free g hg).2, (h.free g hg).1⟩⟩
theorem flatR_set : ∀ (al : List S39) (i : Nat) (r : S39), (((flatR al).set (i * 3) (.int .i64 r.f0)).set (i * 3 + 1) (.int .i64 r.f1)).set (i * 3 + 2) (.int .i64 r.f2) = flatR (al.set i r)
  | [], i, r => by simp [flatR]
  | x :: al, 0, r => rfl
  | x :: al, i + 1, r => by
    have ih := flatR_set al i r
    have e : (i + 1) * 3 = i * 3 + 3 := by omega
    have e1 : i * 3 + 3 + 1 = i * 3 + 1 + 3 := by omega
    have e2 : i * 3 + 3 + 2 = i * 3 + 2 + 3 := by omega
    have hc : ∀ (y : S39) (l : List S39), flatR (y :: l) = .int .i64 y.f0 :: .int .i64 y.f1 :: .int .i64 y.f2 :: flatR l := fun y l => rfl
    rw [hc, e, e1, e2, List.set_cons_succ, List.set_cons_succ, List.set_cons_succ, List.set_cons_succ, List.set_cons_succ, List.set_cons_succ, List.set_cons_succ, List.set_cons_succ, List.set_cons_succ, ih, List.set_cons_succ, hc]
def put3 (w : World) (g i : Nat) (r : S39) : World := ((w.setCell ⟨g, i * 3, none⟩ (.int .i64 r.f0)).setCell ⟨g, i * 3 + 1, none⟩ (.int .i64 r.f1)).setCell ⟨g, i * 3 + 2, none⟩ (.int .i64 r.f2)
theorem Lu.set {al : List S39} {g n c : Nat} (h : Lu B0 w0 kind size slide a al q1 q2 w (.slice (some ⟨g, 0, none⟩) n c) F1 N1 F2 N2 ps1 ps2) (hn : al.length = n) (i : Nat) (r : S39) : Lu B0 w0 kind size slide a (al.set i r) q1 q2 (put3 w g i r) (.slice (some ⟨g, 0, none⟩) n c) F1 N1 F2 N2 ps1 ps2 := by
  have ho := h.row
  rw [hn] at ho
  obtain ⟨h1, g1⟩ := ho.stored (i * 3) (.int .i64 r.f0)
  obtain ⟨h2, g2⟩ := h1.stored (i * 3 + 1) (.int .i64 r.f1)
  obtain ⟨h3, g3⟩ := h2.stored (i * 3 + 2) (.int .i64 r.f2)
  rw [flatR_set] at h3
  have hfr : Fr (fun k => k = g) w (put3 w g i r) := ((Fr.of_grown g1 (fun j hj => (Option.some.inj hj).symm)).trans (Fr.of_grown g2 (fun j hj => (Option.some.inj hj).symm))).trans (Fr.of_grown g3 (fun j hj => (Option.some.inj hj).symm))
  refine ⟨h.h2.fr hfr (fun k hk => ?_), ?_, h.free⟩
  · subst hk
    exact ⟨(h.free k rfl).1, (h.free k rfl).2, (h.row.lt k rfl).1⟩
  · rw [List.length_set, hn]
    exact h3
end Go.Proofs.Ytjegeghigfmkoaa.T
namespace Go.Proofs.Ytjegeghigfmkoaa.T
open Go.RowKit Go.Maps Go.Sort Go.Proofs Go.Proofs.Ytjegeghigfmkoaa Go.Proofs.Ytjegeghigfmkoaa.X Go.Proofs.YtjegeghigfmkoaaW.PrintWords Go.Proofs.YtjegeghigfmkoaaW.PrintLast Go.Proofs.YtjegeghigfmkoaaW.PrintMore
set_option linter.unusedVariables false
set_option linter.unusedSimpArgs false
set_option maxRecDepth 100000
variable {F : Nat → Prop} {N : Nat} {w w' : World} {q b1 b2 : Nat} {tv : Value} {tm : List Int} {s : St}
theorem app70m {w : World} {base base' : Nat} {ok : Nat → Prop} {v : Value} {ps ms : List S70} {A : Option Addr} {c : Nat} (ho : w.ownsRow base 70 4 v ps.length (flatP ps)) (hb : base ≤ w.heap.size) (hm : Kd.R k70 70 w base' ok (.slice A ms.length c) ms) (hn : ps.length + ms.length ≤ 2000000) (ty : TypeId) :
    ∃ v' w', (Builtin.append_ #[44, 44] ty #[v, .slice A ms.length c]).run Try.prog w = .ok v' w' ∧ w'.ownsRow base 70 4 v' (ps ++ ms).length (flatP (ps ++ ms)) ∧ w.grownBy w' v.ownBlock := by
  obtain ⟨i0, hi, hz0, hz1, hz2⟩ := info_parts info70
  have hfl : flatP (ps ++ ms) = flatP ps ++ flatP ms := List.flatMap_append
  have hC := (Kd.R_reads' hm).2.2
  obtain ⟨_, inner, hown, hrp⟩ := hm
  rcases hown.2 with ⟨hv, hin⟩ | ⟨g, cap, cur, hv, _⟩
  · injection hv with e1 e2 e3
    subst e1
    subst e3
    have hms : ms = [] := List.eq_nil_of_length_eq_zero e2
    subst hms
    exact ⟨v, w, run_append_owned_none w base 44 ty 70 i0 4 Try.underlying44 hi v ps.length (flatP ps) ho, by rw [List.append_nil]; exact ho, ⟨rfl, rfl, rfl, Nat.le_refl _, fun _ _ _ => rfl⟩⟩
  · injection hv with e1 e2 e3
    subst e1
    have hl : (flatP ms).length = ms.length * 4 := flatP_len ms
    have hcell : ∀ j u, (flatP ms)[j]? = some u → w.cell? ((⟨g, 0, none⟩ : Addr).add j) = some u := by
      intro j u hu
      have hj : j < (flatP ms).length := (List.getElem?_eq_some_iff.1 hu).1
      rw [hl] at hj
      obtain ⟨t, ht⟩ : ∃ t, j / 4 = t := ⟨_, rfl⟩
      obtain ⟨c4, hc4⟩ : ∃ c4, j % 4 = c4 := ⟨_, rfl⟩
      have hq : t < ms.length := by omega
      have hjt : j = t * 4 + c4 := by omega
      have hc : c4 < 4 := by omega
      have e4 : (flatP ms)[t * 4 + c4]? = (So.encP ms[t])[c4]? := flatP_get ms t c4 hq hc
      rw [← hjt, hu] at e4
      obtain ⟨ad, cs, e, _, hK, hc0⟩ := Kd.C_get hC z70 (t : Int) (by omega) (by omega)
      cases e
      have hgd : ms.getD ((t : Int)).toNat z70 = ms[t] := by rw [Int.toNat_natCast]; exact Th.getD_at hq
      rw [hgd] at hK
      obtain rfl := k70_open hK
      have h := hc0 c4 u e4.symm
      rw [Int.toNat_natCast] at h
      rw [hjt]
      exact h
    obtain ⟨v', w', g1, g2, g3, _⟩ := run_append_own (P := Try.prog) w base 44 ty 70 i0 _ 4 _ Try.underlying44 hi hz0 hz1 hz2 rfl (by decide) v ps.length (flatP ps) ho ⟨g, 0, none⟩ ms.length c (flatP ms) hl hcell (by
      intro u hu
      obtain ⟨x, _, hx⟩ := List.mem_flatMap.1 hu
      simp only [List.mem_cons, List.not_mem_nil, or_false] at hx
      rcases hx with rfl | rfl | rfl | rfl <;> rfl) (by unfold maxLen; omega) (by omega) hb
    exact ⟨v', w', g1, by rw [List.length_append, hfl]; exact g2, g3⟩
structure Lg (w4 : World) (L : List S70) (n : Nat) (wr : World) (v : Value) : Prop where
  row : wr.ownsRow w4.heap.size 70 4 v (groupsFrom L n).length (flatP (groupsFrom L n))
  bl : Below w4.heap.size w4 wr
end Go.Proofs.Ytjegeghigfmkoaa.T
namespace Go.Proofs.Ytjegeghigfmkoaa.T
open Go.RowKit Go.Sort Go.Proofs.YtjegeghigfmkoaaW.PrintWords Go.Proofs.YtjegeghigfmkoaaW.PrintMore Go.Proofs.Ytjegeghigfmkoaa Go.Proofs.Ytjegeghigfmkoaa.So Go.Proofs.Ytjegeghigfmkoaa.X Go.Proofs.Ytjegeghigfmkoaa.Nf Go.Proofs.Ytjegeghigfmkoaa.Th
set_option linter.unusedVariables false
set_option linter.unusedSimpArgs false
structure Tmr (kind a last : Int) (ps ps2 : List S70) (n al : Nat) : Prop where
  nk : NK kind ps
  prp : ∀ p ∈ ps, Prp p
  gt : ∀ p ∈ ps, last < lastP p
  due : ∀ p ∈ ps2, lastP p ≤ last ∨ p ∈ ps
  cnt : al + ps.length = ps2.length
  it : n + ps.length ≤ ps2.length
def Mid (p : S70) : Prop := -4611686018427387904 ≤ p.f1.f0 ∧ p.f1.f0 < p.f1.f1 ∧ p.f1.f1 ≤ 4611686018427387904
theorem mid_join {a : Int} (x y : S70) (hx : Mid x) (hy : Mid y) : Mid (joinP a x y) := by
  unfold Mid joinP mn mx at *
  dsimp only
  split <;> split <;> omega
theorem mid_all {kind size slide a : Int} (hf : FitA kind size slide a) (hk : kind ≠ 0) {rs : List S39} {ps : List S70} (h : PutsAll kind size slide a [] rs ps) (hr : ∀ r ∈ rs, TimeOk r.f1 ∧ Go.Proofs.Ytjegeghigfmkoaa.I64 r.f2) : ∀ p ∈ ps, Mid p := by
  refine rs_all mid_join (putsAll_rs hf h hr).1 (ones_all fun r hr' s hs => ?_)
  have ht := (hr r hr').1
  have hF := hf.2.resolve_left (fun h => hk h.1)
  unfold spansS at hs
  rw [if_neg hk] at hs
  have hb := sp_bounds hF s hs
  have h1 := hF.s1
  have h2 := hF.s2
  unfold TimeOk at ht
  unfold Mid one
  dsimp only
  omega
theorem puts_same {kind size slide a : Int} (hf : FitA kind size slide a) {rs : List S39} {ps ps2 : List S70} (h : PutsAll kind size slide a [] rs ps) (h2 : PutsAll kind size slide a [] rs ps2) (hr : ∀ r ∈ rs, TimeOk r.f1 ∧ Go.Proofs.Ytjegeghigfmkoaa.I64 r.f2) : ps.Perm ps2 := by
  have := putsAll_order hf h h2 (.refl _) hr
  exact (sortP_perm ps).symm.trans (this ▸ sortP_perm ps2)
theorem Tmr.start {kind size slide a : Int} (hf : FitA kind size slide a) (hk : kind ≠ 0) {rs : List S39} {ps ps2 : List S70} (h : PutsAll kind size slide a [] rs ps) (h2 : PutsAll kind size slide a [] rs ps2) (hr : ∀ r ∈ rs, TimeOk r.f1 ∧ Go.Proofs.Ytjegeghigfmkoaa.I64 r.f2) : Tmr kind a (-9223372036854775808) ps ps2 0 0 := by
  have hp := puts_same hf h h2 hr
  obtain ⟨_, r2, r3⟩ := putsAll_rs hf h hr
  refine ⟨r2, r3, fun p hp => ?_, fun p hp2 => Or.inr (hp.mem_iff.2 hp2), by rw [hp.length_eq]; omega, by rw [hp.length_eq]; omega⟩
  have hm := mid_all hf hk h hr p hp
  unfold Mid at hm
  unfold lastP wrap64
  omega
theorem fire_len (m : Int) (l : List S70) : (outR m (sortP l)).length + (leftR m (sortP l)).length = l.length := by
  unfold outR leftR
  rw [List.length_map, ← sortP_len l]
  generalize sortP l = x
  induction x with
  | nil => rfl
  | cons p x ih =>
    cases hd : Th.due m p with
    | true => rw [List.filter_cons_of_pos hd, List.filter_cons_of_neg (by rw [hd]; decide), List.length_cons, List.length_cons]; omega
    | false => rw [List.filter_cons_of_neg (by rw [hd]; decide), List.filter_cons_of_pos (by rw [hd]; rfl), List.length_cons, List.length_cons]; omega
theorem due_iff {m : Int} {p : S70} : Th.due m p = true ↔ lastP p ≤ m := by unfold Th.due lastP; exact decide_eq_true_iff
theorem Tmr.step {kind size slide a last t : Int} {ps ps2 : List S70} {n al : Nat} (ha : aggOk a = true) (h : Tmr kind a last ps ps2 n al) (he : ∃ p ∈ ps, lastP p = t) (hm : ∀ p ∈ ps, t ≤ lastP p) :
    last < t ∧ 0 < (firedR ⟨kind, size, slide, a, ps⟩ t).length ∧ (∀ r ∈ firedR ⟨kind, size, slide, a, ps⟩ t, r.f1 = t) ∧ (firedL ⟨kind, size, slide, a, ps⟩ t).length < ps.length ∧ Tmr kind a t (firedL ⟨kind, size, slide, a, ps⟩ t) ps2 (n + 1) (al + (firedR ⟨kind, size, slide, a, ps⟩ t).length) := by
  have hp := firedL_perm (kind := kind) (size := size) (slide := slide) ha h.nk h.prp t
  have hl := fire_len t ps
  obtain ⟨p0, hp0, hpt⟩ := he
  have hpos : 0 < (outR t (sortP ps)).length := by
    unfold outR
    rw [List.length_map]
    exact List.length_pos_of_mem (List.mem_filter.2 ⟨(sortP_perm ps).mem_iff.2 hp0, due_iff.2 (by omega)⟩)
  have hfl := hp.length_eq
  have hmem : ∀ p ∈ firedL ⟨kind, size, slide, a, ps⟩ t, p ∈ ps ∧ t < lastP p := fun p hpp => by
    have hpp := hp.mem_iff.1 hpp
    obtain ⟨h1, h2⟩ := List.mem_filter.1 hpp
    refine ⟨(sortP_perm ps).mem_iff.1 h1, ?_⟩
    have : ¬ lastP p ≤ t := fun hle => by
      rw [due_iff.2 hle] at h2
      cases h2
    omega
  refine ⟨by have := h.gt p0 hp0; omega, hpos, fun r hr => ?_, by omega, ⟨?_, fun p hpp => h.prp p (hmem p hpp).1, fun p hpp => (hmem p hpp).2, fun p hp2 => ?_, ?_, ?_⟩⟩
  · obtain ⟨p, hpf, rfl⟩ := List.mem_map.1 hr
    obtain ⟨h1, h2⟩ := List.mem_filter.1 hpf
    have h3 := due_iff.1 h2
    have h4 := hm p ((sortP_perm ps).mem_iff.1 h1)
    show lastP p = t
    omega
  · exact Normal.perm (mgK kind ha) (List.Pairwise.sublist List.filter_sublist (Normal.perm (mgK kind ha) h.nk (sortP_perm ps).symm)) hp.symm
  · by_cases hle : lastP p ≤ t
    · exact Or.inl hle
    · rcases h.due p hp2 with h1 | h1
      · have := h.gt p0 hp0
        omega
      · refine Or.inr (hp.mem_iff.2 (List.mem_filter.2 ⟨(sortP_perm ps).mem_iff.2 h1, ?_⟩))
        cases hd : Th.due t p with
        | true => exact absurd (due_iff.1 hd) hle
        | false => rfl
  · have := h.cnt
    show al + (outR t (sortP ps)).length + _ = _
    omega
  · have := h.it
    omega
end Go.Proofs.Ytjegeghigfmkoaa.T
namespace Go.Proofs.Ytjegeghigfmkoaa.T
open Go.RowKit Go.Sort Go.Proofs.YtjegeghigfmkoaaW.PrintWords Go.Proofs.YtjegeghigfmkoaaW.PrintMore Go.Proofs.Ytjegeghigfmkoaa Go.Proofs.Ytjegeghigfmkoaa.So Go.Proofs.Ytjegeghigfmkoaa.X Go.Proofs.Ytjegeghigfmkoaa.Nf Go.Proofs.Ytjegeghigfmkoaa.Th
set_option linter.unusedVariables false
set_option linter.unusedSimpArgs false
def cat {α : Type} (P : Nat → List α) : Nat → List α
  | 0 => []
  | n + 1 => cat P n ++ P n
theorem cat_perm {α : Type} {P Q : Nat → List α} : ∀ n, (∀ j, j < n → (P j).Perm (Q j)) → (cat P n).Perm (cat Q n)
  | 0, _ => .refl _
  | n + 1, h => (cat_perm n (fun j hj => h j (by omega))).append (h n (by omega))
theorem cat_congr {α : Type} {P Q : Nat → List α} : ∀ n, (∀ j, j < n → P j = Q j) → cat P n = cat Q n
  | 0, _ => rfl
  | n + 1, h => by rw [cat, cat, cat_congr n (fun j hj => h j (by omega)), h n (by omega)]
theorem cat_app {α : Type} (P Q : Nat → List α) : ∀ n, (cat (fun j => P j ++ Q j) n).Perm (cat P n ++ cat Q n)
  | 0 => .refl _
  | n + 1 => by
    rw [cat, cat, cat]
    refine ((cat_app P Q n).append_right _).trans ?_
    rw [List.append_assoc, List.append_assoc]
    refine List.Perm.append_left _ ?_
    rw [← List.append_assoc, ← List.append_assoc]
    exact List.perm_append_comm.append_right _
theorem cat_flat {α β : Type} (P : Nat → List α) (f : α → List β) : ∀ n, (cat P n).flatMap f = cat (fun j => (P j).flatMap f) n
  | 0 => rfl
  | n + 1 => by rw [cat, cat, List.flatMap_append, cat_flat P f n]
theorem cat_len {α : Type} (P : Nat → List α) (m : Nat) : ∀ n, (∀ j, j < n → (P j).length ≤ m) → (cat P n).length ≤ n * m
  | 0, _ => by simp [cat]
  | n + 1, h => by
    have h1 := cat_len P m n (fun j hj => h j (by omega))
    have h2 := h n (by omega)
    rw [cat, List.length_append, Nat.succ_mul]
    omega
theorem filter_two' {α : Type} (p q r : α → Bool) (h : ∀ x, r x = (p x || q x)) (hd : ∀ x, p x = true → q x = false) : ∀ l : List α, (l.filter p ++ l.filter q).Perm (l.filter r)
  | [] => .refl _
  | x :: l => by
    have ih := filter_two' p q r h hd l
    cases hp : p x with
    | true =>
      rw [List.filter_cons_of_pos hp, List.filter_cons_of_neg (by rw [hd x hp]; decide), List.filter_cons_of_pos (by rw [h, hp]; rfl), List.cons_append]
      exact ih.cons x
    | false =>
      rw [List.filter_cons_of_neg (by rw [hp]; decide)]
      cases hq : q x with
      | true =>
        rw [List.filter_cons_of_pos hq, List.filter_cons_of_pos (by rw [h, hp, hq]; rfl)]
        exact List.perm_middle.trans (ih.cons x)
      | false =>
        rw [List.filter_cons_of_neg (by rw [hq]; decide), List.filter_cons_of_neg (by rw [h, hp, hq]; decide)]
        exact ih
theorem cat_parts {α : Type} (f : α → Nat) (l : List α) : ∀ n, (cat (fun j => l.filter (fun x => decide (f x = j))) n).Perm (l.filter (fun x => decide (f x < n)))
  | 0 => by
    rw [List.filter_eq_nil_iff.2 (fun x _ => by simp)]
    exact .refl _
  | n + 1 => by
    refine ((cat_parts f l n).append_right _).trans (filter_two' _ _ _ (fun x => ?_) (fun x hx => ?_) l)
    · by_cases h1 : f x < n
      · rw [decide_eq_true h1, decide_eq_true (by omega)]; rfl
      · by_cases h2 : f x = n
        · rw [decide_eq_true h2, decide_eq_true (by omega), Bool.or_true]
        · rw [decide_eq_false h1, decide_eq_false h2, decide_eq_false (by omega)]; rfl
    · have := of_decide_eq_true hx
      exact decide_eq_false (by omega)
theorem cat_all {α : Type} (f : α → Nat) (l : List α) (n : Nat) (h : ∀ x ∈ l, f x < n) : (cat (fun j => l.filter (fun x => decide (f x = j))) n).Perm l := by
  refine (cat_parts f l n).trans ?_
  rw [List.filter_eq_self.2 (fun x hx => decide_eq_true (h x hx))]
def prt (par : Nat) (key : Int) : Nat := (grp key * par / 16).toNat
theorem prt_lt {par : Nat} (h : 1 ≤ par) (key : Int) : prt par key < par := by
  have hg := grp_in key
  unfold prt
  have h1 : grp key * (par : Int) ≤ 15 * par := Int.mul_le_mul_of_nonneg_right (by omega) (by omega)
  have h2 : 0 ≤ grp key * (par : Int) := Int.mul_nonneg hg.1 (by omega)
  omega
theorem part_f {par : Nat} (h1 : 1 ≤ par) (h4 : par ≤ 4) (key : Int) : plan_Part.f (grp key) (par : Int) = some (prt par key : Int) ∧ leatref9_Part.f (grp key) (par : Int) = some (prt par key : Int) := by
  have hg := grp_in key
  have e1 : grp key * (par : Int) ≤ 15 * par := Int.mul_le_mul_of_nonneg_right (by omega) (by omega)
  have e2 : 0 ≤ grp key * (par : Int) := Int.mul_nonneg hg.1 (by omega)
  have e : wrap64 (Int.tdiv (wrap64 (grp key * (par : Int))) 16) = (prt par key : Int) := by
    unfold prt
    generalize grp key * (par : Int) = y at e1 e2
    have hw : wrap64 y = y := by unfold wrap64; omega
    rw [hw, Int.tdiv_eq_ediv_of_nonneg e2]
    unfold wrap64
    omega
  constructor
  · unfold plan_Part.f
    rw [if_neg (by omega), if_neg (by omega), if_neg (by omega), if_neg (by omega), e]
  · unfold leatref9_Part.f
    rw [if_neg (by omega), if_neg (by omega), if_neg (by omega), if_neg (by omega), e]
def partOf (par : Nat) (l : List S70) (j : Nat) : List S70 := l.filter (fun p => decide (prt par p.f0 = j))
def partsOf (par : Nat) (l : List S70) : List (List S70) := (List.range par).map (partOf par l)
theorem partsOf_len (par : Nat) (l : List S70) : (partsOf par l).length = par := by simp [partsOf]
theorem partsOf_get {par : Nat} {l : List S70} {j : Nat} (h : j < par) : (partsOf par l)[j]'(by rw [partsOf_len]; exact h) = partOf par l j := by simp [partsOf]
theorem partOf_snoc_same {par : Nat} (l : List S70) (p : S70) : partOf par (l ++ [p]) (prt par p.f0) = partOf par l (prt par p.f0) ++ [p] := by
  unfold partOf
  rw [List.filter_append]
  simp
theorem partOf_snoc_other {par : Nat} (l : List S70) (p : S70) {j : Nat} (h : prt par p.f0 ≠ j) : partOf par (l ++ [p]) j = partOf par l j := by
  unfold partOf
  rw [List.filter_append, List.filter_cons_of_neg (by simp [h]), List.filter_nil, List.append_nil]
theorem parts_set {par : Nat} (l : List S70) (p : S70) (h : prt par p.f0 < par) : (partsOf par l).set (prt par p.f0) (partOf par l (prt par p.f0) ++ [p]) = partsOf par (l ++ [p]) := by
  refine List.ext_getElem (by rw [List.length_set, partsOf_len, partsOf_len]) fun j h1 h2 => ?_
  have hj : j < par := by rw [partsOf_len] at h2; exact h2
  rw [List.getElem_set, partsOf_get hj]
  split
  · rename_i e
    subst e
    rw [partsOf_get hj, partOf_snoc_same]
  · rename_i e
    rw [partsOf_get hj, partOf_snoc_other l p e]
theorem split_l0 {par : Nat} (h1 : 1 ≤ par) (h4 : par ≤ 4) (l : List S70) (hl : l.length ≤ 1000000) : ∀ (d i : Nat), l.length = i + d → Ev (fun k => state_Split.l0 k (par : Int) (partsOf par (l.take i)) l (l.length : Int) (i : Int)) (partsOf par l)
  | 0, i, h => by
    refine Ev.step (f := fun _ => some _) (fun k => ?_) (Ev.now _)
    simp only [state_Split.l0]
    rw [if_neg (by omega), List.take_of_length_le (by omega)]
  | d + 1, i, h => by
    have hlt : i < l.length := by omega
    have hp := prt_lt h1 l[i].f0
    have ih := split_l0 h1 h4 l hl d (i + 1) (by omega)
    have hrd : rd_L6 (partsOf par (l.take i)) ((prt par l[i].f0 : Nat) : Int) = partOf par (l.take i) (prt par l[i].f0) := by
      unfold rd_L6
      rw [Int.toNat_natCast, List.getD_eq_getElem?_getD, List.getElem?_eq_getElem (by rw [partsOf_len]; exact hp), partsOf_get hp]
      rfl
    have hset : (partsOf par (l.take i)).set (prt par l[i].f0) (partOf par (l.take i) (prt par l[i].f0) ++ [l[i]]) = partsOf par (l.take (i + 1)) := by
      rw [parts_set _ _ hp, List.take_append_getElem hlt]
    have hlen : (partOf par (l.take i) (prt par l[i].f0)).length < 4398046511104 := by
      unfold partOf
      have e1 := List.length_filter_le (fun p => decide (prt par p.f0 = prt par l[i].f0)) (l.take i)
      have e2 := List.length_take_le i l
      omega
    refine Ev.step (fun k => ?_) ih
    simp only [state_Split.l0]
    rw [if_pos (by omega), if_pos (by omega), if_pos (by omega), rd46_at hlt, show plan_Group.f l[i].f0 = some (grp l[i].f0) from rfl, Option.bind_some, (part_f h1 h4 _).1, Option.bind_some, if_pos (by omega), if_pos (by rw [partsOf_len]; omega), hrd, if_pos hlen, Int.toNat_natCast, step_i hlt (by omega)]
    rw [← hset]
theorem split_ev {par : Nat} (h1 : 1 ≤ par) (h4 : par ≤ 4) (l : List S70) (hs : sortP l = l) (hl : l.length ≤ 1000000) : Ev (fun k => state_Split.f k l (par : Int)) (partsOf par l) := by
  have h := split_l0 h1 h4 l hl l.length 0 (by omega)
  refine Ev.congr (fun k => ?_) (Ev.step (g := fun k => state_Split.j0 k l (par : Int) false) (fun k => ?_) h)
  · rw [state_Split.f, if_neg (by omega), decide_eq_false (by omega)]
  · simp only [state_Split.j0]
    rw [if_neg (by decide), if_pos (by omega), if_pos (by omega), window_Sort.f, if_pos (by omega), Option.bind_some, hs]
    have e : List.replicate ((par : Int)).toNat ([] : List S70) = partsOf par (l.take 0) := by
      rw [Int.toNat_natCast, List.take_zero]
      refine List.ext_getElem (by rw [List.length_replicate, partsOf_len]) fun j h1 h2 => ?_
      rw [List.getElem_replicate, partsOf_get (by rw [partsOf_len] at h2; exact h2)]
      rfl
    rw [e]
    rfl
end Go.Proofs.Ytjegeghigfmkoaa.T
namespace Go.Proofs.Ytjegeghigfmkoaa.T
open Go.RowKit Go.Sort Go.Proofs.YtjegeghigfmkoaaW.PrintWords Go.Proofs.YtjegeghigfmkoaaW.PrintMore Go.Proofs.Ytjegeghigfmkoaa Go.Proofs.Ytjegeghigfmkoaa.So Go.Proofs.Ytjegeghigfmkoaa.X Go.Proofs.Ytjegeghigfmkoaa.Nf Go.Proofs.Ytjegeghigfmkoaa.Th
set_option linter.unusedVariables false
set_option linter.unusedSimpArgs false
theorem putsAll_from {kind size slide a : Int} (hf : FitA kind size slide a) {rs : List S39} {ps0 ps : List S70} (h : PutsAll kind size slide a ps0 rs ps) (h0 : NK kind ps0) (hp0 : ∀ p ∈ ps0, Prp p) (hr : ∀ r ∈ rs, TimeOk r.f1 ∧ Go.Proofs.Ytjegeghigfmkoaa.I64 r.f2) :
    RSk kind a (ps0 ++ ones a (spansS kind size slide) rs) ps ∧ NK kind ps ∧ ∀ p ∈ ps, Prp p := by
  induction h with
  | nil => exact ⟨.done (by simp [ones]), h0, hp0⟩
  | @snoc rs r ps1 ps2 h k ih =>
    obtain ⟨i1, i2, i3⟩ := ih (fun x hx => hr x (List.mem_append_left _ hx))
    have hr1 := hr r (List.mem_append_right _ (List.mem_singleton.2 rfl))
    obtain ⟨j1, j2, j3⟩ := puts_rs (fitA_ok hf) hr1.2 k i2 i3 (fun s hs => (spansS_64 hf hr1.1 s hs).2.1)
    refine ⟨?_, j2, j3⟩
    rw [ones_snoc, ← List.append_assoc]
    exact RS.trans (RS.app i1 _) j1
theorem cat_rs {kind a : Int} {X P : Nat → List S70} : ∀ n, (∀ j, j < n → RSk kind a (X j) (P j)) → RSk kind a (cat X n) (cat P n)
  | 0, _ => .done (.refl _)
  | n + 1, h => RS.both (cat_rs n (fun j hj => h j (by omega))) (h n (by omega))
theorem hit_key {kind : Int} {x y : S70} (h : hitK kind x y) : y.f0 = x.f0 := by
  unfold hitK at h
  split at h
  · exact ((hitP_iff x y).1 h).1
  · exact ((sameP_iff x y).1 h).1
theorem cat_mem {α : Type} {P : Nat → List α} {x : α} : ∀ n, x ∈ cat P n → ∃ j, j < n ∧ x ∈ P j
  | 0, h => by cases h
  | n + 1, h => by
    rcases List.mem_append.1 h with h | h
    · obtain ⟨j, h1, h2⟩ := cat_mem n h
      exact ⟨j, by omega, h2⟩
    · exact ⟨n, by omega, h⟩
theorem cat_nk {kind : Int} {par : Nat} {P : Nat → List S70} : ∀ n, (∀ j, j < n → NK kind (P j)) → (∀ j, j < n → ∀ p ∈ P j, prt par p.f0 = j) → NK kind (cat P n)
  | 0, _, _ => List.Pairwise.nil
  | n + 1, h, k => by
    refine List.pairwise_append.2 ⟨cat_nk n (fun j hj => h j (by omega)) (fun j hj => k j (by omega)), h n (by omega), fun x hx y hy hh => ?_⟩
    obtain ⟨j, h1, h2⟩ := cat_mem n hx
    have e1 := k j (by omega) x h2
    have e2 := k n (by omega) y hy
    rw [hit_key hh] at e2
    omega
structure Part (kind size slide a : Int) (par : Nat) (ps0 : List S70) (rs : List S39) (j : Nat) (p0 p : List S70) : Prop where
  load : p0.Perm (partOf par ps0 j)
  puts : PutsAll kind size slide a p0 (rs.filter (fun r => decide (prt par r.f0 = j))) p
theorem Part.facts {kind size slide a : Int} (hf : FitA kind size slide a) {par j : Nat} {ps0 p0 p : List S70} {rs : List S39} (h : Part kind size slide a par ps0 rs j p0 p) (hN : NK kind ps0) (hP : ∀ x ∈ ps0, Prp x) (hr : ∀ r ∈ rs, TimeOk r.f1 ∧ Go.Proofs.Ytjegeghigfmkoaa.I64 r.f2) :
    RSk kind a (p0 ++ ones a (spansS kind size slide) (rs.filter (fun r => decide (prt par r.f0 = j)))) p ∧ NK kind p ∧ (∀ x ∈ p, Prp x) ∧ ∀ x ∈ p, prt par x.f0 = j := by
  have hsub : ∀ x ∈ p0, x ∈ ps0 ∧ prt par x.f0 = j := fun x hx => by
    have := List.mem_filter.1 (h.load.mem_iff.1 hx)
    exact ⟨this.1, of_decide_eq_true this.2⟩
  obtain ⟨i1, i2, i3⟩ := putsAll_from hf h.puts (Normal.perm (mgK kind (fitA_ok hf)) (List.Pairwise.sublist List.filter_sublist hN) h.load.symm) (fun x hx => hP x (hsub x hx).1) (fun r hr' => hr r (List.mem_filter.1 hr').1)
  refine ⟨i1, i2, i3, rs_all (P := fun x => prt par x.f0 = j) (fun x y hx _ => hx) i1 (fun x hx => ?_)⟩
  rcases List.mem_append.1 hx with hx | hx
  · exact (hsub x hx).2
  · exact ones_all (P := fun x => prt par x.f0 = j) (fun r hr' s _ => of_decide_eq_true (List.mem_filter.1 hr').2) x hx
theorem parts_same {kind size slide a : Int} (hf : FitA kind size slide a) {par : Nat} (h1 : 1 ≤ par) {ps0 ps : List S70} {rs : List S39} (hN : NK kind ps0) (hP : ∀ x ∈ ps0, Prp x) (hr : ∀ r ∈ rs, TimeOk r.f1 ∧ Go.Proofs.Ytjegeghigfmkoaa.I64 r.f2)
    (h : PutsAll kind size slide a ps0 rs ps) {P0 P : Nat → List S70} (hp : ∀ j, j < par → Part kind size slide a par ps0 rs j (P0 j) (P j)) : (cat P par).Perm ps := by
  have ha := fitA_ok hf
  obtain ⟨i1, i2, _⟩ := putsAll_from hf h hN hP hr
  have hF : ∀ j, j < par → _ := fun j hj => (hp j hj).facts hf hN hP hr
  refine Nf.unique (mgK kind ha) ?_ i1 (cat_nk (par := par) par (fun j hj => (hF j hj).2.1) (fun j hj => (hF j hj).2.2.2)) i2
  refine (cat_rs par (fun j hj => (hF j hj).1)).perm ?_ (.refl _)
  refine (cat_app P0 _ par).trans (List.Perm.append ?_ ?_)
  · exact (cat_perm par (fun j hj => (hp j hj).load)).trans (cat_all (fun p : S70 => prt par p.f0) ps0 par (fun x _ => prt_lt h1 _))
  · unfold ones
    rw [← cat_flat]
    exact (cat_all (fun r : S39 => prt par r.f0) rs par (fun x _ => prt_lt h1 _)).flatMap_right _
def fo (kind m : Int) (ps : List S70) : Nat := if kind = 0 ∧ m ≠ 9223372036854775807 then 0 else (ps.filter (Th.due m)).length
def fl' (kind m : Int) (ps : List S70) : List S70 := if kind = 0 ∧ m ≠ 9223372036854775807 then ps else ps.filter (fun p => !Th.due m p)
theorem fo_perm {kind m : Int} {ps qs : List S70} (h : ps.Perm qs) : fo kind m ps = fo kind m qs := by
  unfold fo
  split
  · rfl
  · exact (h.filter _).length_eq
theorem fl_perm {kind m : Int} {ps qs : List S70} (h : ps.Perm qs) : (fl' kind m ps).Perm (fl' kind m qs) := by
  unfold fl'
  split
  · exact h
  · exact h.filter _
def sumN (f : Nat → Nat) : Nat → Nat
  | 0 => 0
  | n + 1 => sumN f n + f n
theorem fo_cat (kind m : Int) (P : Nat → List S70) : ∀ n, fo kind m (cat P n) = sumN (fun j => fo kind m (P j)) n
  | 0 => by unfold fo; split <;> rfl
  | n + 1 => by
    have ih := fo_cat kind m P n
    rw [cat, sumN, ← ih]
    unfold fo
    split
    · rfl
    · rw [List.filter_append, List.length_append]
theorem fl_cat (kind m : Int) (P : Nat → List S70) : ∀ n, fl' kind m (cat P n) = cat (fun j => fl' kind m (P j)) n
  | 0 => by unfold fl'; split <;> rfl
  | n + 1 => by
    have ih := fl_cat kind m P n
    rw [cat, cat, ← ih]
    unfold fl'
    split
    · rfl
    · rw [List.filter_append]
theorem fo_le (kind m : Int) (ps : List S70) : fo kind m ps ≤ ps.length := by
  unfold fo
  split
  · omega
  · exact List.length_filter_le _ _
theorem fire_fo {kind size slide a m : Int} {ps ps' : List S70} {out : List S39} (ha : aggOk a = true) (hN : NK kind ps) (hP : ∀ p ∈ ps, Prp p)
    (hf : Idle ⟨kind, size, slide, a, ps⟩ m ∧ out = [] ∧ ps' = ps ∨ ¬ Idle ⟨kind, size, slide, a, ps⟩ m ∧ out = firedR ⟨kind, size, slide, a, ps⟩ m ∧ ps' = firedL ⟨kind, size, slide, a, ps⟩ m) : out.length = fo kind m ps ∧ ps'.Perm (fl' kind m ps) := by
  unfold fo fl'
  by_cases hc : kind = 0 ∧ m ≠ 9223372036854775807
  · rw [if_pos hc, if_pos hc]
    rcases hf with ⟨_, rfl, rfl⟩ | ⟨hi, _⟩
    · exact ⟨rfl, .refl _⟩
    · exact absurd (Or.inl hc) hi
  · rw [if_neg hc, if_neg hc]
    rcases hf with ⟨hi, rfl, rfl⟩ | ⟨hi, rfl, rfl⟩
    · rcases hi with hi | hi
      · exact absurd hi hc
      · have hd : ∀ p ∈ ps', Th.due m p = false := fun p hp => by
          have := hi p hp
          cases hd : Th.due m p with
          | false => rfl
          | true =>
            have h2 := due_iff.1 hd
            omega
        rw [List.filter_eq_nil_iff.2 (fun p hp => by rw [hd p hp]; decide), List.filter_eq_self.2 (fun p hp => by rw [hd p hp]; rfl)]
        exact ⟨rfl, .refl _⟩
    · refine ⟨?_, ?_⟩
      · show (outR m (sortP ps)).length = _
        unfold outR
        rw [List.length_map]
        exact ((sortP_perm ps).filter _).length_eq
      · exact (firedL_perm (kind := kind) (size := size) (slide := slide) ha hN hP m).trans ((sortP_perm ps).filter _)
def groupsUp (l : List S70) (n : Nat) : List S70 := cat (fun g => l.filter (fun p => !other (g : Int) p)) n
theorem groupsUp_perm (l : List S70) : (groupsUp l 16).Perm l := by
  unfold groupsUp
  rw [cat_congr (Q := fun j => l.filter (fun p => decide ((grp p.f0).toNat = j))) 16 (fun j hj => ?_)]
  · exact cat_all (fun p : S70 => (grp p.f0).toNat) l 16 (fun x _ => by have := grp_in x.f0; omega)
  · refine List.filter_congr fun p _ => ?_
    have := grp_in p.f0
    unfold other
    by_cases h : (grp p.f0).toNat = j
    · rw [decide_eq_true h]
      have e : grp p.f0 = (j : Int) := by omega
      rw [e]
      simp
    · rw [decide_eq_false h]
      have e : grp p.f0 ≠ (j : Int) := by omega
      simp [e]
end Go.Proofs.Ytjegeghigfmkoaa.T
namespace Go.Proofs.Ytjegeghigfmkoaa.T
open Go.RowKit Go.Maps Go.Sort Go.Proofs Go.Proofs.Ytjegeghigfmkoaa Go.Proofs.Ytjegeghigfmkoaa.X Go.Proofs.YtjegeghigfmkoaaW.PrintWords Go.Proofs.YtjegeghigfmkoaaW.PrintLast Go.Proofs.YtjegeghigfmkoaaW.PrintMore
set_option linter.unusedVariables false
set_option linter.unusedSimpArgs false
set_option maxRecDepth 100000
variable {B0 : Nat} {w w0 w' : World} {kind size slide a : Int} {n : Nat} {q : Nat → Nat} {F : Nat → Nat → Prop} {N : Nat → Nat} {P : Nat → List S70}
def upd {α : Type} (f : Nat → α) (i : Nat) (x : α) (j : Nat) : α := if j = i then x else f j
theorem upd_same {α : Type} (f : Nat → α) (i : Nat) (x : α) : upd f i x i = x := if_pos rfl
theorem upd_other {α : Type} (f : Nat → α) {i j : Nat} (x : α) (h : j ≠ i) : upd f i x j = f j := if_neg h
structure Fam (w0 : World) (kind size slide a : Int) (n : Nat) (q : Nat → Nat) (F : Nat → Nat → Prop) (N : Nat → Nat) (P : Nat → List S70) (w : World) : Prop where
  is : ∀ j, j < n → IsS (F j) (N j) w (q j) ⟨kind, size, slide, a, P j⟩
  low : ∀ j, j < n → ∀ k, F j k → w0.heap.size ≤ k
  ap : ∀ i j, i < n → j < n → i ≠ j → ∀ k, F i k → ¬ F j k
  bl : Below w0.heap.size w0 w
theorem Fam.below (h : Fam w0 kind size slide a n q F N P w) (hb : Below w.heap.size w w') : Fam w0 kind size slide a n q F N P w' :=
  ⟨fun j hj => (h.is j hj).below hb, h.low, h.ap, h.bl.trans (hb.mono h.bl.size)⟩
theorem Fam.to (h : Fam w0 kind size slide a n q F N P w) {i : Nat} (hi : i < n) {N' : Nat} {ps' : List S70} (ht : To (F i) w w' N' (q i) ⟨kind, size, slide, a, ps'⟩) : Fam w0 kind size slide a n q (upd F i (Fx (F i) w w')) (upd N i N') (upd P i ps') w' := by
  refine ⟨fun j hj => ?_, fun j hj k hk => ?_, fun x y hx hy hne k hk => ?_, h.bl.trans (ht.fr.toBelow h.bl.size (fun k _ hk => h.low i hi k hk))⟩
  · by_cases e : j = i
    · subst e
      rw [upd_same, upd_same, upd_same]
      exact ht.is
    · rw [upd_other _ _ e, upd_other _ _ e, upd_other _ _ e]
      exact (h.is j hj).fr ht.fr (fun k hk => h.ap i j hi hj (fun e' => e e'.symm) k hk)
  · by_cases e : j = i
    · subst e
      rw [upd_same] at hk
      rcases hk with hk | hk
      · exact h.low j hj k hk
      · have := h.bl.size
        omega
    · rw [upd_other _ _ e] at hk
      exact h.low j hj k hk
  · by_cases ex : x = i
    · subst ex
      rw [upd_same] at hk
      rw [upd_other _ _ (fun e => hne e.symm)]
      rcases hk with hk | hk
      · exact h.ap x y hx hy hne k hk
      · intro hy2
        have := (h.is y hy).bound k hy2
        omega
    · rw [upd_other _ _ ex] at hk
      by_cases ey : y = i
      · subst ey
        rw [upd_same]
        intro h2
        rcases h2 with h2 | h2
        · exact h.ap x y hx hy hne k hk h2
        · have := (h.is x hx).bound k hk
          omega
      · rw [upd_other _ _ ey]
        exact h.ap x y hx hy hne k hk
theorem Fam.fr {M : Nat → Prop} (h : Fam w0 kind size slide a n q F N P w) (hf : Fr M w w') (hM : ∀ k, M k → w0.heap.size ≤ k ∧ ∀ j, j < n → ¬ F j k) : Fam w0 kind size slide a n q F N P w' :=
  ⟨fun j hj => (h.is j hj).fr hf (fun k hk => (hM k hk).2 j hj), h.low, h.ap, h.bl.trans (hf.toBelow h.bl.size (fun k _ hk => (hM k hk).1))⟩
theorem Fam.add (h : Fam w0 kind size slide a n q F N P w) (hb : Below w.heap.size w w') {q' N' : Nat} {F' : Nat → Prop} {ps' : List S70} (hI : IsS F' N' w' q' ⟨kind, size, slide, a, ps'⟩) (hF : ∀ k, F' k → w.heap.size ≤ k) : Fam w0 kind size slide a (n + 1) (upd q n q') (upd F n F') (upd N n N') (upd P n ps') w' := by
  have h' := h.below hb
  refine ⟨fun j hj => ?_, fun j hj k hk => ?_, fun x y hx hy hne k hk => ?_, h'.bl⟩
  · by_cases e : j = n
    · subst e
      rw [upd_same, upd_same, upd_same, upd_same]
      exact hI
    · rw [upd_other _ _ e, upd_other _ _ e, upd_other _ _ e, upd_other _ _ e]
      exact h'.is j (by omega)
  · by_cases e : j = n
    · subst e
      rw [upd_same] at hk
      exact Nat.le_trans h.bl.size (hF k hk)
    · rw [upd_other _ _ e] at hk
      exact h.low j (by omega) k hk
  · by_cases ex : x = n
    · subst ex
      rw [upd_same] at hk
      rw [upd_other _ _ (fun e => hne e.symm)]
      intro h2
      have h3 := (h.is y (by omega)).bound k h2
      have h4 := hF k hk
      omega
    · rw [upd_other _ _ ex] at hk
      by_cases ey : y = n
      · subst ey
        rw [upd_same]
        intro h2
        have h3 := (h.is x (by omega)).bound k hk
        have h4 := hF k h2
        omega
      · rw [upd_other _ _ ey]
        exact h.ap x y (by omega) (by omega) hne k hk
structure FR (w0 : World) (kind size slide a : Int) (n : Nat) (q : Nat → Nat) (F : Nat → Nat → Prop) (N : Nat → Nat) (P : Nat → List S70) (B e z : Nat) (v : Value) (len : Nat) (xs : List Value) (w : World) : Prop where
  fam : Fam w0 kind size slide a n q F N P w
  row : w.ownsRow B e z v len xs
  hB : w0.heap.size ≤ B
  free : ∀ g, v.ownBlock = some g → ∀ j, j < n → ¬ F j g
theorem FR.below {B e z : Nat} {v : Value} {len : Nat} {xs : List Value} (h : FR w0 kind size slide a n q F N P B e z v len xs w) (hb : Below w.heap.size w w') : FR w0 kind size slide a n q F N P B e z v len xs w' :=
  ⟨h.fam.below hb, pw_own_below h.row hb, h.hB, h.free⟩
theorem FR.to {B e z : Nat} {v : Value} {len : Nat} {xs : List Value} (h : FR w0 kind size slide a n q F N P B e z v len xs w) {i : Nat} (hi : i < n) {N' : Nat} {ps' : List S70} (ht : To (F i) w w' N' (q i) ⟨kind, size, slide, a, ps'⟩) : FR w0 kind size slide a n q (upd F i (Fx (F i) w w')) (upd N i N') (upd P i ps') B e z v len xs w' :=
  ⟨h.fam.to hi ht, own_fr h.row ht.fr (fun g hg => h.free g hg i hi), h.hB, fun g hg j hj => by
    by_cases e : j = i
    · subst e
      rw [upd_same]
      intro h2
      rcases h2 with h2 | h2
      · exact h.free g hg j hj h2
      · have := (h.row.lt g hg).2
        omega
    · rw [upd_other _ _ e]
      exact h.free g hg j hj⟩
theorem FR.add {B e z : Nat} {v : Value} {len : Nat} {xs : List Value} (h : FR w0 kind size slide a n q F N P B e z v len xs w) (hb : Below w.heap.size w w') {q' N' : Nat} {F' : Nat → Prop} {ps' : List S70} (hI : IsS F' N' w' q' ⟨kind, size, slide, a, ps'⟩) (hF : ∀ k, F' k → w.heap.size ≤ k) : FR w0 kind size slide a (n + 1) (upd q n q') (upd F n F') (upd N n N') (upd P n ps') B e z v len xs w' :=
  ⟨h.fam.add hb hI hF, pw_own_below h.row hb, h.hB, fun g hg j hj => by
    by_cases e : j = n
    · subst e
      rw [upd_same]
      intro h2
      have h3 := hF g h2
      have h4 := (h.row.lt g hg).2
      omega
    · rw [upd_other _ _ e]
      exact h.free g hg j (by omega)⟩
theorem FR.grown {B e z : Nat} {v v' : Value} {len len' : Nat} {xs xs' : List Value} (h : FR w0 kind size slide a n q F N P B e z v len xs w) (ho : w'.ownsRow B e z v' len' xs') (hg : w.grownBy w' v.ownBlock) (hat : v'.ownBlock = v.ownBlock ∨ v'.ownBlock = some w.heap.size) : FR w0 kind size slide a n q F N P B e z v' len' xs' w' := by
  refine ⟨h.fam.fr (M := fun k => some k = v.ownBlock) (Fr.of_grown hg (fun j hj => hj.symm)) (fun k hk => ⟨Nat.le_trans h.hB (h.row.lt k hk.symm).1, h.free k hk.symm⟩), ho, h.hB, fun g hg j hj => ?_⟩
  rcases hat with h4 | h4
  · exact h.free g (h4 ▸ hg) j hj
  · have e : g = w.heap.size := by rw [h4] at hg; exact (Option.some.inj hg).symm
    subst e
    intro hf
    have := (h.fam.is j hj).bound _ hf
    omega
def ptrs (q : Nat → Nat) (n : Nat) : List Value := (List.range n).map fun j => .pointer (some ⟨q (j + 1), 0, none⟩)
theorem ptrs_get (q : Nat → Nat) {n j : Nat} (h : j < n) : (ptrs q n)[j]? = some (.pointer (some ⟨q (j + 1), 0, none⟩)) := by
  unfold ptrs
  rw [List.getElem?_map, List.getElem?_range h]
  rfl
theorem ptrs_snoc (q : Nat → Nat) (n q' : Nat) : ptrs (upd q (n + 1) q') (n + 1) = ptrs q n ++ [.pointer (some ⟨q', 0, none⟩)] := by
  unfold ptrs
  rw [List.range_succ, List.map_append, List.map_singleton, upd_same]
  congr 1
  refine List.map_congr_left fun j hj => ?_
  have := List.mem_range.1 hj
  rw [upd_other _ _ (by omega)]
theorem info27 : (Try.prog.info? 27).map (fun i => (i.zero, i.size, i.bytes)) = some (some (.pointer none), 1, 8) := by kernel_rfl
theorem app27 {w : World} {base : Nat} {v : Value} {len : Nat} {xs : List Value} (ho : w.ownsRow base 27 1 v len xs) (hb : base ≤ w.heap.size) (u : Value) (hu : u.oneCell' = true) (hn : len ≤ 1000) (ty : TypeId) :
    ∃ v' w', (Builtin.append_ #[80, 80] ty #[v, .slice (some ⟨w.heap.size, 0, none⟩) 1 1]).run Try.prog (w.alloc (.cells #[u] 27)) = .ok v' w' ∧ w'.ownsRow base 27 1 v' (len + 1) (xs ++ [u]) ∧ (w.alloc (.cells #[u] 27)).grownBy w' v.ownBlock ∧ (v'.ownBlock = v.ownBlock ∨ v'.ownBlock = some (w.alloc (.cells #[u] 27)).heap.size) := by
  obtain ⟨i0, hi, hz0, hz1, hz2⟩ := info_parts info27
  obtain ⟨v', w', g1, g2, g3, _, g5⟩ := run_append_own_at (P := Try.prog) (w.alloc (.cells #[u] 27)) base 80 ty 27 i0 _ 1 _ Try.underlying80 hi hz0 hz1 hz2 rfl (by decide) v len xs (ho.alloc _) ⟨w.heap.size, 0, none⟩ 1 1 [u] rfl (by
    intro j x hx
    have hj : j = 0 := by have := (List.getElem?_eq_some_iff.1 hx).1; simp at this; omega
    subst hj
    cases hx
    exact (blk_cell (blk_new w (.cells #[u] 27)) 0).trans rfl) (by intro x hx; rw [List.mem_singleton.1 hx]; exact hu) (by unfold maxLen; omega) (by omega) (by rw [World.size_alloc]; omega)
  exact ⟨v', w', g1, g2, g3, g5⟩
end Go.Proofs.Ytjegeghigfmkoaa.T
namespace Go.Proofs.Ytjegeghigfmkoaa.T
open Go.RowKit Go.Maps Go.Sort Go.Proofs Go.Proofs.Ytjegeghigfmkoaa Go.Proofs.Ytjegeghigfmkoaa.X Go.Proofs.YtjegeghigfmkoaaW.PrintWords Go.Proofs.YtjegeghigfmkoaaW.PrintLast Go.Proofs.YtjegeghigfmkoaaW.PrintMore
set_option linter.unusedVariables false
set_option linter.unusedSimpArgs false
set_option maxRecDepth 100000
variable {B0 : Nat} {w w0 w' : World} {kind size slide a : Int} {n : Nat} {q : Nat → Nat} {F : Nat → Nat → Prop} {N : Nat → Nat} {P : Nat → List S70}
theorem F_of_C70 {A : Option Addr} {l : List S70} (h : Kd.C k70 w A l.length l) : Kd.F k70 w (fun k => k < w.heap.size) A l.length l := fun W' hW => by
  have hsz : w.heap.size ≤ W'.heap.size := by
    refine Nat.le_of_not_lt fun hlt => ?_
    have h1 := hW W'.heap.size hlt hlt
    rw [Array.getElem?_eq_none (Nat.le_refl _), Array.getElem?_eq_getElem hlt] at h1
    cases h1
  have hb : Below w.heap.size w { w with heap := W'.heap } := ⟨rfl, rfl, rfl, hsz, fun k hk => hW k hk hk⟩
  have h2 := Kd.C_below h hb
  exact h2
def Pls (w : World) (A : Option Addr) (c : Nat) (xs : List (List S70)) : Prop := xs.length ≤ c ∧ ∀ W, Below w.heap.size w W → Kd.C (Kd.slice 70 k70) W A xs.length xs
theorem Split_calls {par : Nat} (h1 : 1 ≤ par) (h4 : par ≤ 4) (w : World) (A : Option Addr) (c : Nat) (L : List S70) (hR : Kd.C k70 w A L.length L) (hc : L.length ≤ c) (hs : sortP L = L) (hl : L.length ≤ 1000000) :
    Calls Try.prog 33 #[.slice A L.length c, .int .i64 (par : Int)] w fun e w' => ∃ A' c', e = .returned (.slice A' par c') ∧ Below w.heap.size w w' ∧ Pls w' A' c' (partsOf par L) := by
  obtain ⟨k, hk⟩ := split_ev h1 h4 L hs hl
  refine (state_Split.calls k A c L par (partsOf par L) w hR hc (hk k (Nat.le_refl _))).mono ?_
  rintro e w' ⟨v, rfl, hS, hb⟩
  obtain ⟨A', c', rfl, hc', hC⟩ := Kd.S_reads hS
  refine ⟨A', c', by rw [partsOf_len], hb, hc', fun W hW => ?_⟩
  exact (Kd.S_reads' (Kd.S_below hS hW)).2.2
theorem Split_none (par : Int) (hp : par < 1 ∨ par > 4) (w : World) (A : Option Addr) (c : Nat) (L : List S70) (hR : Kd.C k70 w A L.length L) (hc : L.length ≤ c) :
    Calls Try.prog 33 #[.slice A L.length c, .int .i64 par] w fun e w' => ∃ A' c', e = .returned (.slice A' 0 c') ∧ Below w.heap.size w w' := by
  refine (state_Split.calls 1 A c L par [] w hR hc ?_).mono ?_
  · rw [state_Split.f]
    split
    · simp [state_Split.j0]
    · rw [decide_eq_true (by omega)]
      simp [state_Split.j0]
  · rintro e w' ⟨v, rfl, hS, hb⟩
    obtain ⟨A', c', rfl, _, _⟩ := Kd.S_reads hS
    exact ⟨A', c', rfl, hb⟩
theorem C_one70 (w : World) (x : S70) : Kd.C k70 (w.alloc (.cells #[.int .i64 x.f0, .int .i64 x.f1.f0, .int .i64 x.f1.f1, .int .i64 x.f2] 70)) (some ⟨w.heap.size, 0, none⟩) 1 [x] :=
  (Kd.R_reads' (show Kd.R k70 70 _ w.heap.size (fun _ => True) (.slice (some ⟨w.heap.size, 0, none⟩) 1 1) [x] from ⟨fun _ _ => trivial, _, World.ownsRow_lit (e := 70) (size := 4) w #[.int .i64 x.f0, .int .i64 x.f1.f0, .int .i64 x.f1.f1, .int .i64 x.f2] 1 (Nat.le_refl _) (by unfold maxLen; omega) rfl, Reps.c4 (k70_mkM _ _ _ x) (Reps.none _ _)⟩)).2.2
theorem refGroup (x : Int) (w : World) : Calls Try.prog 32 #[.int .i64 x] w fun e w' => e = .returned (.int .i64 (grp x)) ∧ Below w.heap.size w w' := (leatref9_Group.calls x (grp x) w rfl).mono fun e w' h => ⟨h.1, h.2.below⟩
theorem refPart {par : Nat} (h1 : 1 ≤ par) (h4 : par ≤ 4) (x : Int) (w : World) : Calls Try.prog 34 #[.int .i64 (grp x), .int .i64 (par : Int)] w fun e w' => e = .returned (.int .i64 (prt par x : Int)) ∧ Below w.heap.size w w' := (leatref9_Part.calls (grp x) par _ w (part_f h1 h4 x).2).mono fun e w' h => ⟨h.1, h.2.below⟩
structure Lgu (w4 : World) (L : List S70) (n : Nat) (wr : World) (v : Value) : Prop where
  row : wr.ownsRow w4.heap.size 70 4 v (groupsUp L n).length (flatP (groupsUp L n))
  bl : Below w4.heap.size w4 wr
structure Lm (w3 wD : World) (kind size slide a : Int) (ps L : List S70) (par i : Nat) (q : Nat → Nat) (F : Nat → Nat → Prop) (N : Nat → Nat) (P : Nat → List S70) (v : Value) (wr : World) : Prop where
  fr : FR w3 kind size slide a (i + 1) q F N P wD.heap.size 27 1 v i (ptrs q i) wr
  bd : Below wD.heap.size wD wr
  s0 : P 0 = ps
  n0 : N 0 + ps.length ≤ 10000
  ld : ∀ j, j < i → (P (j + 1)).Perm (partOf par L j)
  nj : ∀ j, j < i → N (j + 1) ≤ 10000
theorem Lm.step {w3 wD : World} {ps L : List S70} {par i : Nat} {v : Value} {wr w1 w2 : World} {q' : Nat} (ha : aggOk a = true) (h : Lm w3 wD kind size slide a ps L par i q F N P v wr) (hN : Th.NK kind L) (hP : ∀ p ∈ L, Prp p) (hl : L.length ≤ 10000) (hb : Below wr.heap.size wr w1)
    (hto : To (fun k => wr.heap.size ≤ k ∧ k < w1.heap.size) w1 w2 (loadOf kind a (partOf par L i)).length q' ⟨kind, size, slide, a, loadL a (loadOf kind a (partOf par L i))⟩) :
    ∃ F1 N1 P1, FR w3 kind size slide a (i + 2) (upd q (i + 1) q') F1 N1 P1 wD.heap.size 27 1 v i (ptrs q i) w2 ∧ Below wr.heap.size wr w2 ∧ P1 0 = ps ∧ N1 0 + ps.length ≤ 10000 ∧ (∀ j, j < i + 1 → (P1 (j + 1)).Perm (partOf par L j)) ∧ ∀ j, j < i + 1 → N1 (j + 1) ≤ 10000 := by
  have hb2 : Below wr.heap.size wr w2 := hb.trans (hto.fr.toBelow (B := wr.heap.size) hb.size (fun k _ hk => hk.1))
  have hsub : (partOf par L i).length ≤ L.length := List.length_filter_le _ _
  have hld : (loadL a (loadOf kind a (partOf par L i))).Perm (partOf par L i) := load_norm ha (List.Pairwise.sublist List.filter_sublist hN) (fun p hp => hP p (List.mem_filter.1 hp).1)
  refine ⟨_, _, _, h.fr.add (n := i + 1) hb2 hto.is (fun k hk => ?_), hb2, ?_, ?_, fun j hj => ?_, fun j hj => ?_⟩
  · rcases hk with hk | hk
    · exact hk.1
    · have := hb.size
      omega
  · rw [upd_other _ _ (by omega)]
    exact h.s0
  · rw [upd_other _ _ (by omega)]
    exact h.n0
  · by_cases e : j = i
    · subst e
      rw [upd_same]
      exact hld
    · rw [upd_other _ _ (by omega)]
      exact h.ld j (by omega)
  · by_cases e : j = i
    · subst e
      rw [upd_same]
      have := loadOf_len kind a (partOf par L j)
      omega
    · rw [upd_other _ _ (by omega)]
      exact h.nj j (by omega)
theorem Lm.below {w3 wD : World} {ps L : List S70} {par i : Nat} {v : Value} {wr : World} (h : Lm w3 wD kind size slide a ps L par i q F N P v wr) (hb : Below wr.heap.size wr w') : Lm w3 wD kind size slide a ps L par i q F N P v w' :=
  ⟨h.fr.below hb, h.bd.trans (hb.mono h.bd.size), h.s0, h.n0, h.ld, h.nj⟩
theorem Lm.push {w3 wD : World} {ps L : List S70} {par i : Nat} {A : Option Addr} {c : Nat} {wi w1 w2 : World} {q' : Nat} (ha : aggOk a = true) (h : Lm w3 wD kind size slide a ps L par i q F N P (.slice A i c) wi) (hN : Th.NK kind L) (hP : ∀ p ∈ L, Prp p) (hl : L.length ≤ 10000) (hi : i ≤ 100) (hb : Below wi.heap.size wi w1)
    (hto : To (fun k => wi.heap.size ≤ k ∧ k < w1.heap.size) w1 w2 (loadOf kind a (partOf par L i)).length q' ⟨kind, size, slide, a, loadL a (loadOf kind a (partOf par L i))⟩) :
    ∃ v' w4, (Builtin.append_ #[80, 80] 80 #[.slice A i c, .slice (some ⟨w2.heap.size, 0, none⟩) 1 1]).run Try.prog (w2.alloc (.cells #[.pointer (some ⟨q', 0, none⟩)] 27)) = .ok v' w4 ∧ ∃ F1 N1 P1, Lm w3 wD kind size slide a ps L par (i + 1) (upd q (i + 1) q') F1 N1 P1 v' w4 := by
  obtain ⟨F1, N1, P1, hfr, hb2, h1, h2, h3, h4⟩ := h.step ha hN hP hl hb hto
  have hs1 := h.bd.size
  have hs2 := hb2.size
  obtain ⟨v', w4, g1, g2, g3, g4⟩ := app27 hfr.row (Nat.le_trans hs1 hs2) (.pointer (some ⟨q', 0, none⟩)) rfl (by omega) 80
  have hal : Below w2.heap.size w2 (w2.alloc (.cells #[.pointer (some ⟨q', 0, none⟩)] 27)) := (Below.refl _ w2).alloc (Nat.le_refl _) _
  have hbd : Below wD.heap.size wD (w2.alloc (.cells #[.pointer (some ⟨q', 0, none⟩)] 27)) := (h.bd.trans (hb2.mono hs1)).trans (hal.mono (Nat.le_trans hs1 hs2))
  refine ⟨v', w4, g1, F1, N1, P1, ⟨?_, hbd.grown g3 hbd.size (fun k e => (hfr.row.lt k e).1), h1, h2, h3, h4⟩⟩
  rw [ptrs_snoc]
  exact (hfr.below hal).grown g2 g3 g4
structure Lqm (w3 : World) (kind size slide a : Int) (ps : List S70) (par B : Nat) (l : List S39) (i : Nat) (q : Nat → Nat) (F : Nat → Nat → Prop) (N : Nat → Nat) (P0 P : Nat → List S70) (v : Value) (wr : World) : Prop where
  fr : FR w3 kind size slide a (par + 1) q F N P B 27 1 v par (ptrs q par) wr
  p0 : PutsAll kind size slide a ps (l.take i) (P 0)
  pj : ∀ j, j < par → Part kind size slide a par ps (l.take i) j (P0 j) (P (j + 1))
  nn : ∀ j, j < par + 1 → N j + (P j).length ≤ 30000 + 128 * i
theorem FR.put {B e z : Nat} {v : Value} {len : Nat} {xs : List Value} (h : FR w0 kind size slide a n q F N P B e z v len xs w) {i : Nat} (hi : i < n) (hf : Th.FitA kind size slide a) (r : S39) (hr : I64 r.f0 ∧ I64 r.f2) (ht : Th.TimeOk r.f1) (hN : N i + (P i).length + 128 ≤ 1000000) :
    Calls Try.prog 15 #[.pointer (some ⟨q i, 0, none⟩), aggR r] w fun e' w' => e' = .returned (.tuple #[]) ∧ ∃ F' N' ps', FR w0 kind size slide a n q (upd F i F') (upd N i N') (upd P i ps') B e z v len xs w' ∧ N' + ps'.length ≤ N i + (P i).length + 128 ∧ Puts kind a r.f0 r.f2 (P i) (spansS kind size slide r.f1) ps' := by
  have hl := spansS_len kind size slide r.f1
  refine (Put_calls (h.fam.is i hi) r hr (spansS kind size slide r.f1) (spansS_is hf ht) (fun x hx => (spansS_64 hf ht x hx).1) hl hN).mono ?_
  rintro e' w' ⟨rfl, N', ps', hto, hpot, hput⟩
  exact ⟨rfl, _, N', ps', h.to hi hto, by have : N' + ps'.length ≤ N i + (P i).length + 2 * (spansS kind size slide r.f1).length := hpot; omega, hput⟩
theorem Lqm.step {w3 : World} {ps : List S70} {par B : Nat} {l : List S39} {i : Nat} {P0 : Nat → List S70} {v : Value} {wr w2 : World} {r : S39} {F1 F2 : Nat → Prop} {N1 N2 : Nat} {ps1 ps2 : List S70} (h : Lqm w3 kind size slide a ps par B l i q F N P0 P v wr) (hr : l.take (i + 1) = l.take i ++ [r]) (hp : prt par r.f0 < par)
    (h1 : Puts kind a r.f0 r.f2 (P 0) (spansS kind size slide r.f1) ps1) (g1 : N1 + ps1.length ≤ N 0 + (P 0).length + 128) (h2 : Puts kind a r.f0 r.f2 (P (prt par r.f0 + 1)) (spansS kind size slide r.f1) ps2) (g2 : N2 + ps2.length ≤ N (prt par r.f0 + 1) + (P (prt par r.f0 + 1)).length + 128)
    (hfr : FR w3 kind size slide a (par + 1) q (upd (upd F 0 F1) (prt par r.f0 + 1) F2) (upd (upd N 0 N1) (prt par r.f0 + 1) N2) (upd (upd P 0 ps1) (prt par r.f0 + 1) ps2) B 27 1 v par (ptrs q par) w2) :
    Lqm w3 kind size slide a ps par B l (i + 1) q (upd (upd F 0 F1) (prt par r.f0 + 1) F2) (upd (upd N 0 N1) (prt par r.f0 + 1) N2) P0 (upd (upd P 0 ps1) (prt par r.f0 + 1) ps2) v w2 := by
  refine ⟨hfr, ?_, fun j hj => ?_, fun j hj => ?_⟩
  · rw [upd_other _ _ (by omega), upd_same, hr]
    exact .snoc h.p0 h1
  · have hpj := h.pj j hj
    by_cases e : j = prt par r.f0
    · subst e
      rw [upd_same]
      refine ⟨hpj.load, ?_⟩
      rw [hr, List.filter_append, List.filter_cons_of_pos (by simp), List.filter_nil]
      exact .snoc hpj.puts h2
    · rw [upd_other _ _ (by omega), upd_other _ _ (by omega)]
      refine ⟨hpj.load, ?_⟩
      rw [hr, List.filter_append, List.filter_cons_of_neg (by simp; omega), List.filter_nil, List.append_nil]
      exact hpj.puts
  · by_cases e : j = prt par r.f0 + 1
    · subst e
      rw [upd_same, upd_same]
      have := h.nn _ hj
      omega
    · rw [upd_other _ _ e, upd_other _ _ e]
      by_cases e0 : j = 0
      · subst e0
        rw [upd_same, upd_same]
        have := h.nn _ hj
        omega
      · rw [upd_other _ _ e0, upd_other _ _ e0]
        have := h.nn _ hj
        omega
structure Lx (w3 : World) (kind size slide a m : Int) (par B BG : Nat) (i : Nat) (q : Nat → Nat) (F : Nat → Nat → Prop) (N : Nat → Nat) (Pm P : Nat → List S70) (v u : Value) (wr : World) : Prop where
  ts : FR w3 kind size slide a (par + 1) q F N P B 27 1 v par (ptrs q par) wr
  all : FR w3 kind size slide a (par + 1) q F N P BG 70 4 u (cat (fun j => sortP (P (j + 1))) i).length (flatP (cat (fun j => sortP (P (j + 1))) i)) wr
  lt : ∀ g, v.ownBlock = some g → g < BG
  bg : ∀ {s : Nat}, wr.heap.size ≤ s → BG ≤ s
  done : ∀ j, j < i → (P (j + 1)).Perm (fl' kind m (Pm (j + 1)))
  wait : ∀ j, i ≤ j → j < par → P (j + 1) = Pm (j + 1)
  z0 : (P 0).Perm (fl' kind m (Pm 0))
theorem FR.fire {B e z : Nat} {v : Value} {len : Nat} {xs : List Value} (h : FR w0 kind size slide a n q F N P B e z v len xs w) {i : Nat} (hi : i < n) (ha : aggOk a = true) (m : Int) (hN : Th.NK kind (P i)) (hP : ∀ p ∈ P i, Prp p) :
    Calls Try.prog 19 #[.pointer (some ⟨q i, 0, none⟩), .int .i64 m] w fun e' w' => ∃ A c N' ps', e' = .returned (.slice A (fo kind m (P i)) c) ∧ To (F i) w w' N' (q i) ⟨kind, size, slide, a, ps'⟩ ∧ ps'.Perm (fl' kind m (P i)) := by
  refine (Fire_calls (h.fam.is i hi) m).mono ?_
  rintro e' w' ⟨v, out, N', ps', rfl, hR, hto, _, hc⟩
  obtain ⟨A, c, rfl⟩ := Kd.R_slice hR
  obtain ⟨h1, h2⟩ := fire_fo ha hN hP hc
  exact ⟨A, c, N', ps', by rw [h1], hto, h2⟩
theorem app70h {w : World} {base base' : Nat} {ok : Nat → Prop} {v : Value} {ps ms : List S70} {A : Option Addr} {c : Nat} (ho : w.ownsRow base 70 4 v ps.length (flatP ps)) (hb : base ≤ w.heap.size) (hm : Kd.R k70 70 w base' ok (.slice A ms.length c) ms) (hn : ps.length + ms.length ≤ 2000000) (ty : TypeId) :
    ∃ v' w', (Builtin.append_ #[44, 44] ty #[v, .slice A ms.length c]).run Try.prog w = .ok v' w' ∧ w'.ownsRow base 70 4 v' (ps ++ ms).length (flatP (ps ++ ms)) ∧ w.grownBy w' v.ownBlock ∧ (v'.ownBlock = v.ownBlock ∨ v'.ownBlock = some w.heap.size) := by
  obtain ⟨i0, hi, hz0, hz1, hz2⟩ := info_parts info70
  have hfl : flatP (ps ++ ms) = flatP ps ++ flatP ms := List.flatMap_append
  have hC := (Kd.R_reads' hm).2.2
  obtain ⟨_, inner, hown, hrp⟩ := hm
  rcases hown.2 with ⟨hv, hin⟩ | ⟨g, cap, cur, hv, _⟩
  · injection hv with e1 e2 e3
    subst e1
    subst e3
    have hms : ms = [] := List.eq_nil_of_length_eq_zero e2
    subst hms
    exact ⟨v, w, run_append_owned_none w base 44 ty 70 i0 4 Try.underlying44 hi v ps.length (flatP ps) ho, by rw [List.append_nil]; exact ho, ⟨rfl, rfl, rfl, Nat.le_refl _, fun _ _ _ => rfl⟩, Or.inl rfl⟩
  · injection hv with e1 e2 e3
    subst e1
    have hl : (flatP ms).length = ms.length * 4 := flatP_len ms
    have hcell : ∀ j u, (flatP ms)[j]? = some u → w.cell? ((⟨g, 0, none⟩ : Addr).add j) = some u := by
      intro j u hu
      have hj : j < (flatP ms).length := (List.getElem?_eq_some_iff.1 hu).1
      rw [hl] at hj
      obtain ⟨t, ht⟩ : ∃ t, j / 4 = t := ⟨_, rfl⟩
      obtain ⟨c4, hc4⟩ : ∃ c4, j % 4 = c4 := ⟨_, rfl⟩
      have hq : t < ms.length := by omega
      have hjt : j = t * 4 + c4 := by omega
      have hc : c4 < 4 := by omega
      have e4 : (flatP ms)[t * 4 + c4]? = (So.encP ms[t])[c4]? := flatP_get ms t c4 hq hc
      rw [← hjt, hu] at e4
      obtain ⟨ad, cs, e, _, hK, hc0⟩ := Kd.C_get hC z70 (t : Int) (by omega) (by omega)
      cases e
      have hgd : ms.getD ((t : Int)).toNat z70 = ms[t] := by rw [Int.toNat_natCast]; exact Th.getD_at hq
      rw [hgd] at hK
      obtain rfl := k70_open hK
      have h := hc0 c4 u e4.symm
      rw [Int.toNat_natCast] at h
      rw [hjt]
      exact h
    obtain ⟨v', w', g1, g2, g3, _, g5⟩ := run_append_own_at (P := Try.prog) w base 44 ty 70 i0 _ 4 _ Try.underlying44 hi hz0 hz1 hz2 rfl (by decide) v ps.length (flatP ps) ho ⟨g, 0, none⟩ ms.length c (flatP ms) hl hcell (by
      intro u hu
      obtain ⟨x, _, hx⟩ := List.mem_flatMap.1 hu
      simp only [List.mem_cons, List.not_mem_nil, or_false] at hx
      rcases hx with rfl | rfl | rfl | rfl <;> rfl) (by unfold maxLen; omega) (by omega) hb
    exact ⟨v', w', g1, by rw [List.length_append, hfl]; exact g2, g3, g5⟩
theorem sumN_le (f : Nat → Nat) (m : Nat) : ∀ n, (∀ j, j < n → f j ≤ m) → sumN f n ≤ n * m
  | 0, _ => by simp [sumN]
  | n + 1, h => by
    have h1 := sumN_le f m n (fun j hj => h j (by omega))
    have h2 := h n (by omega)
    rw [sumN, Nat.succ_mul]
    omega
theorem Lx.step {w3 : World} {m : Int} {par B BG i : Nat} {Pm : Nat → List S70} {v : Value} {Au : Option Addr} {cu : Nat} {wr w1 w2 : World} {N' : Nat} {ps' : List S70} (h : Lx w3 kind size slide a m par B BG i q F N Pm P v (.slice Au (cat (fun j => sortP (P (j + 1))) i).length cu) wr) (hi : i < par)
    (hto : To (F (i + 1)) wr w1 N' (q (i + 1)) ⟨kind, size, slide, a, ps'⟩) (hp : ps'.Perm (fl' kind m (P (i + 1)))) (hb : Below w1.heap.size w1 w2) {A : Option Addr} {c : Nat} {base' : Nat} {ok : Nat → Prop} (hR : Kd.R k70 70 w2 base' ok (.slice A (sortP ps').length c) (sortP ps')) (hl : (cat (fun j => sortP (P (j + 1))) i).length + ps'.length ≤ 2000000) :
    ∃ u' w4, (Builtin.append_ #[44, 44] 44 #[.slice Au (cat (fun j => sortP (P (j + 1))) i).length cu, .slice A (sortP ps').length c]).run Try.prog w2 = .ok u' w4 ∧ Lx w3 kind size slide a m par B BG (i + 1) q (upd F (i + 1) (Fx (F (i + 1)) wr w1)) (upd N (i + 1) N') Pm (upd P (i + 1) ps') v u' w4 := by
  have h1 := (h.ts.to (i := i + 1) (by omega) hto).below hb
  have h2 := (h.all.to (i := i + 1) (by omega) hto).below hb
  have hBG2 : BG ≤ w2.heap.size := h.bg (Nat.le_trans hto.fr.size hb.size)
  obtain ⟨u', w4, g1, g2, g3, g4⟩ := app70h (c := c) h2.row hBG2 hR (by rw [sortP_len]; omega) 44
  have e : cat (fun j => sortP (upd P (i + 1) ps' (j + 1))) (i + 1) = cat (fun j => sortP (P (j + 1))) i ++ sortP ps' := by
    rw [cat, upd_same]
    congr 1
    refine cat_congr i (fun j hj => ?_)
    rw [upd_other _ _ (by omega)]
  have h3 := h2.grown g2 g3 g4
  refine ⟨u', w4, g1, ⟨⟨h3.fam, h1.row.kept g3 ?_, h1.hB, h1.free⟩, by rw [e]; exact h3, h.lt, fun {s} hs => Nat.le_trans (h.bg (Nat.le_refl _)) (Nat.le_trans (Nat.le_trans hto.fr.size (Nat.le_trans hb.size g3.size)) hs), fun j hj => ?_, fun j hj hj2 => ?_, ?_⟩⟩
  · cases hv : v.ownBlock with
    | none => exact Or.inl rfl
    | some g =>
      refine Or.inr fun e => ?_
      have h4 := h.lt g hv
      have h5 := h2.row.lt g e.symm
      omega
  · by_cases ej : j = i
    · subst ej
      rw [upd_same, ← h.wait j (Nat.le_refl _) hi]
      exact hp
    · rw [upd_other _ _ (by omega)]
      exact h.done j (by omega)
  · rw [upd_other _ _ (by omega)]
    exact h.wait j (by omega) hj2
  · rw [upd_other _ _ (by omega)]
    exact h.z0
end Go.Proofs.Ytjegeghigfmkoaa.T
namespace Go.Proofs.Ytjegeghigfmkoaa.T
open Go.RowKit Go.Maps Go.Sort Go.Proofs Go.Proofs.Ytjegeghigfmkoaa Go.Proofs.Ytjegeghigfmkoaa.X Go.Proofs.YtjegeghigfmkoaaW.PrintWords Go.Proofs.YtjegeghigfmkoaaW.PrintLast Go.Proofs.YtjegeghigfmkoaaW.PrintMore
set_option linter.unusedVariables false
set_option linter.unusedSimpArgs false
set_option maxRecDepth 100000
variable {F : Nat → Prop} {N : Nat} {w w' : World} {q b1 b2 : Nat} {tv : Value} {tm : List Int} {s : St}
theorem own_cell {w : World} {base g n c : Nat} {e : TypeId} {xs : List Value} (h : w.ownsRow base e 1 (.slice (some ⟨g, 0, none⟩) n c) n xs) {j : Nat} {u : Value} (hj : xs[j]? = some u) : w.cell? ⟨g, j, none⟩ = some u := by
  have := h.cells (g := g) rfl j u hj
  by_cases e : j = 0
  · subst e
    simpa [Addr.add] using this
  · simpa [Addr.add, e] using this
theorem Lm.nn {w3 wD : World} {kind size slide a : Int} {q : Nat → Nat} {F : Nat → Nat → Prop} {N : Nat → Nat} {P : Nat → List S70} {ps L : List S70} {par : Nat} {v : Value} {wr : World} (h : Lm w3 wD kind size slide a ps L par par q F N P v wr) : ∀ j, j < par + 1 → N j + (P j).length ≤ 30000 + 128 * 0 := fun j hj => by
  have hl : (P j).length ≤ N j := (h.fr.fam.is j hj).len
  by_cases e : j = 0
  · subst e
    have h1 := h.n0
    rw [h.s0] at hl ⊢
    omega
  · obtain ⟨j', rfl⟩ : ∃ j', j = j' + 1 := ⟨j - 1, by omega⟩
    have h1 := h.nj j' (by omega)
    omega
def Tspl.T42 : Bool × List (List Nat × List Nat) := (true, [([], []), ([], []), ([], []), ([1, 2], [1, 2]), ([3], [3]), ([4], [4]), ([5], [5]), ([], []), ([6, 7, 6], [6, 7]), ([0, 8], [0, 8]), ([9], [9]), ([], []), ([], []), ([11, 12], [11, 12]), ([13], [13]), ([10, 14, 8], [10, 14])])
def Tspl.B42 : List Nat := [0, 0, 0, 6, 14, 30, 62, 0, 254, 511, 1023, 0, 0, 6144, 14336, 32767]
theorem Tspl.tab42 : rtab .any (opsOf Try.f8 42) = Tspl.T42 := by kernel_rfl
theorem Tspl.bits42 : waitsOk Tspl.T42.2 Tspl.B42 = true := by kernel_rfl
set_option maxHeartbeats 16000000 in
theorem StateSplits_calls (w : World) (kind size slide a : Int) (A3 : Option Addr) (c3 : Nat) (l : List S39) (A4 : Option Addr) (c4 : Nat) (more : List S39) (par0 mark : Int) (hl : RecL w A3 l) (hc3 : l.length ≤ c3) (hm : RecL w A4 more) (hc4 : more.length ≤ c4) :
    Calls Try.prog 8 #[aggW kind size slide, .int .i64 a, .slice A3 l.length c3, .slice A4 more.length c4, .int .i64 par0, .int .i64 mark] w fun e w' => e = .returned (.bool true) ∧ Below w.heap.size w w' := by
  obtain ⟨fb, hfb, KF⟩ := fit_any kind size slide a
  have HL := Aside0.mk hl
  have HC := Aside0.mk hc3
  have HM := Aside0.mk hm
  have HC4 := Aside0.mk hc4
  have HFB := Aside0.mk hfb
  have KF := Aside0.mk KF
  clear hl hc3 hfb hm hc4
  go_enter Try.func8, Try.ntmps8
  go_wp2_with fail
  have HW1 := Aside0.mk (heap_alloc_new w (.cells #[.int .i64 kind, .int .i64 size, .int .i64 slide] 23))
  have HB1 := Aside0.mk ((Below.refl w.heap.size w).alloc (Nat.le_refl _) (.cells #[.int .i64 kind, .int .i64 size, .int .i64 slide] 23))
  generalize (w.alloc (.cells #[.int .i64 kind, .int .i64 size, .int .i64 slide] 23)) = w1 at HW1 HB1 ⊢
  cases fb with
  | false =>
    go_wp2_with (first
      | (go_at_call 9
         refine (known_calls w1).mono ?_
         rintro e w2 ⟨rfl, hb2⟩
         have hw2 := blk_below HW1.out hb2
         have HW2 := Aside0.mk hw2
         have HB2 := Aside0.mk (HB1.out.trans (hb2.mono HB1.out.size))
         have z0 := (blk_cell hw2 0).trans rfl
         have z1 := (blk_cell hw2 1).trans rfl
         have z2 := (blk_cell hw2 2).trans rfl
         clear hb2 hw2)
      | (go_at_call 10
         refine (KF.out w2).mono ?_
         rintro e w3 ⟨rfl, hb3⟩
         have hw3 := blk_below HW2.out hb3
         have HW3 := Aside0.mk hw3
         have HB3 := Aside0.mk (HB2.out.trans (hb3.mono HB2.out.size))
         have y0 := (blk_cell hw3 0).trans rfl
         have y1 := (blk_cell hw3 1).trans rfl
         have y2 := (blk_cell hw3 2).trans rfl
         clear hb3 hw3 z0 z1 z2)
      | fail)
    go_ret
    exact ⟨rfl, HB3.out⟩
  | true =>
  have HFA := Aside0.mk (HFB.out rfl)
  by_cases hl4 : (l.length : Int) > 60
  · go_wp2_with (first
      | (go_at_call 9
         refine (known_calls w1).mono ?_
         rintro e w2 ⟨rfl, hb2⟩
         have hw2 := blk_below HW1.out hb2
         have HW2 := Aside0.mk hw2
         have HB2 := Aside0.mk (HB1.out.trans (hb2.mono HB1.out.size))
         have z0 := (blk_cell hw2 0).trans rfl
         have z1 := (blk_cell hw2 1).trans rfl
         have z2 := (blk_cell hw2 2).trans rfl
         clear hb2 hw2)
      | (go_at_call 10
         refine (KF.out w2).mono ?_
         rintro e w3 ⟨rfl, hb3⟩
         have hw3 := blk_below HW2.out hb3
         have HW3 := Aside0.mk hw3
         have HB3 := Aside0.mk (HB2.out.trans (hb3.mono HB2.out.size))
         have y0 := (blk_cell hw3 0).trans rfl
         have y1 := (blk_cell hw3 1).trans rfl
         have y2 := (blk_cell hw3 2).trans rfl
         clear hb3 hw3 z0 z1 z2)
      | fail)
    go_ret
    exact ⟨rfl, HB3.out⟩
  by_cases hm4 : (more.length : Int) > 60
  · go_wp2_with (first
      | (go_at_call 9
         refine (known_calls w1).mono ?_
         rintro e w2 ⟨rfl, hb2⟩
         have hw2 := blk_below HW1.out hb2
         have HW2 := Aside0.mk hw2
         have HB2 := Aside0.mk (HB1.out.trans (hb2.mono HB1.out.size))
         have z0 := (blk_cell hw2 0).trans rfl
         have z1 := (blk_cell hw2 1).trans rfl
         have z2 := (blk_cell hw2 2).trans rfl
         clear hb2 hw2)
      | (go_at_call 10
         refine (KF.out w2).mono ?_
         rintro e w3 ⟨rfl, hb3⟩
         have hw3 := blk_below HW2.out hb3
         have HW3 := Aside0.mk hw3
         have HB3 := Aside0.mk (HB2.out.trans (hb3.mono HB2.out.size))
         have y0 := (blk_cell hw3 0).trans rfl
         have y1 := (blk_cell hw3 1).trans rfl
         have y2 := (blk_cell hw3 2).trans rfl
         clear hb3 hw3 z0 z1 z2)
      | fail)
    go_ret
    exact ⟨rfl, HB3.out⟩
  have HLL : Aside0 (l.length ≤ 60) := ⟨by omega⟩
  have HML : Aside0 (more.length ≤ 60) := ⟨by omega⟩
  by_cases hp1 : par0 < 1
  · go_wp2_with (first
      | (go_at_call 9
         refine (known_calls w1).mono ?_
         rintro e w2 ⟨rfl, hb2⟩
         have hw2 := blk_below HW1.out hb2
         have HW2 := Aside0.mk hw2
         have HB2 := Aside0.mk (HB1.out.trans (hb2.mono HB1.out.size))
         have z0 := (blk_cell hw2 0).trans rfl
         have z1 := (blk_cell hw2 1).trans rfl
         have z2 := (blk_cell hw2 2).trans rfl
         clear hb2 hw2)
      | (go_at_call 10
         refine (KF.out w2).mono ?_
         rintro e w3 ⟨rfl, hb3⟩
         have hw3 := blk_below HW2.out hb3
         have HW3 := Aside0.mk hw3
         have HB3 := Aside0.mk (HB2.out.trans (hb3.mono HB2.out.size))
         have y0 := (blk_cell hw3 0).trans rfl
         have y1 := (blk_cell hw3 1).trans rfl
         have y2 := (blk_cell hw3 2).trans rfl
         clear hb3 hw3 z0 z1 z2)
      | (go_at_call 33
         refine (Split_none par0 (Or.inl hp1) _ _ 1 [⟨1, ⟨0, 0⟩, 0⟩] (C_one70 w3 ⟨1, ⟨0, 0⟩, 0⟩) (Nat.le_refl _)).mono ?_
         rintro e w5 ⟨A5, c5, rfl, hb5⟩
         have HB5 := Aside0.mk (((Below.refl w3.heap.size w3).alloc (Nat.le_refl _) _).trans (hb5.mono (by rw [World.size_alloc]; omega)))
         clear hb5)
      | fail)
    go_ret
    exact ⟨rfl, HB3.out.trans (HB5.out.mono HB3.out.size)⟩
  by_cases hp4 : par0 > 4
  · go_wp2_with (first
      | (go_at_call 9
         refine (known_calls w1).mono ?_
         rintro e w2 ⟨rfl, hb2⟩
         have hw2 := blk_below HW1.out hb2
         have HW2 := Aside0.mk hw2
         have HB2 := Aside0.mk (HB1.out.trans (hb2.mono HB1.out.size))
         have z0 := (blk_cell hw2 0).trans rfl
         have z1 := (blk_cell hw2 1).trans rfl
         have z2 := (blk_cell hw2 2).trans rfl
         clear hb2 hw2)
      | (go_at_call 10
         refine (KF.out w2).mono ?_
         rintro e w3 ⟨rfl, hb3⟩
         have hw3 := blk_below HW2.out hb3
         have HW3 := Aside0.mk hw3
         have HB3 := Aside0.mk (HB2.out.trans (hb3.mono HB2.out.size))
         have y0 := (blk_cell hw3 0).trans rfl
         have y1 := (blk_cell hw3 1).trans rfl
         have y2 := (blk_cell hw3 2).trans rfl
         clear hb3 hw3 z0 z1 z2)
      | (go_at_call 33
         refine (Split_none par0 (Or.inr hp4) _ _ 1 [⟨1, ⟨0, 0⟩, 0⟩] (C_one70 w3 ⟨1, ⟨0, 0⟩, 0⟩) (Nat.le_refl _)).mono ?_
         rintro e w5 ⟨A5, c5, rfl, hb5⟩
         have HB5 := Aside0.mk (((Below.refl w3.heap.size w3).alloc (Nat.le_refl _) _).trans (hb5.mono (by rw [World.size_alloc]; omega)))
         clear hb5)
      | fail)
    go_ret
    exact ⟨rfl, HB3.out.trans (HB5.out.mono HB3.out.size)⟩
  obtain ⟨par, rfl⟩ : ∃ par : Nat, par0 = (par : Int) := ⟨par0.toNat, by omega⟩
  have HP14 : Aside0 (1 ≤ par ∧ par ≤ 4) := ⟨by omega⟩
  go_wp2_with (first
      | (go_at_call 11
         refine (New_hs w3 kind size slide a).mono ?_
         rintro e w4 ⟨q, rfl, hs4, hb4⟩
         have HS4 := Aside0.mk hs4
         have HW4 := Aside0.mk (blk_below HW3.out hb4)
         clear hs4 hb4)
      | (go_at_call 9
         refine (known_calls w1).mono ?_
         rintro e w2 ⟨rfl, hb2⟩
         have hw2 := blk_below HW1.out hb2
         have HW2 := Aside0.mk hw2
         have HB2 := Aside0.mk (HB1.out.trans (hb2.mono HB1.out.size))
         have z0 := (blk_cell hw2 0).trans rfl
         have z1 := (blk_cell hw2 1).trans rfl
         have z2 := (blk_cell hw2 2).trans rfl
         clear hb2 hw2)
      | (go_at_call 10
         refine (KF.out w2).mono ?_
         rintro e w3 ⟨rfl, hb3⟩
         have hw3 := blk_below HW2.out hb3
         have HW3 := Aside0.mk hw3
         have HB3 := Aside0.mk (HB2.out.trans (hb3.mono HB2.out.size))
         have y0 := (blk_cell hw3 0).trans rfl
         have y1 := (blk_cell hw3 1).trans rfl
         have y2 := (blk_cell hw3 2).trans rfl
         clear hb3 hw3 z0 z1 z2)
      | fail)
  clear hl4 hm4
  have HLR : Aside0 (Lr w3 kind size slide a l 0 q w4 (fun k => w3.heap.size ≤ k ∧ k < w4.heap.size) 0 []) := ⟨⟨HS4.out, by simpa using PutsAll.nil, by simp⟩⟩
  have HW3' : Aside0 (w.heap.size < w3.heap.size) := ⟨lt_of_block HW3.out⟩
  clear HS4 HW1 HW2 HB1 HB2 HW4
  go_loopg [14] l.length (fun kx s14 wr => ∃ (i : Nat) (F1 : Nat → Prop) (N1 : Nat) (ps : List S70), s14 = .int .i64 i ∧ l.length - i ≤ kx ∧ i ≤ l.length ∧ Aside0 (Lr w3 kind size slide a l i q wr F1 N1 ps) ∧ Aside0 (∀ r ∈ l.take i, Th.TimeOk r.f1))
  case atStart => exact ⟨0, _, 0, [], rfl, by omega, by omega, HLR, ⟨fun r hr => by simp at hr⟩⟩
  case round =>
    clear HLR
    obtain ⟨i, F1, N1, ps, rfl, hkx, hi, HQ, HTM⟩ := hrel
    have HBR := Aside0.mk (HB3.out.trans (HQ.out.hs.bl.mono HB3.out.size))
    by_cases hlt : i < l.length
    · have hlz : ((i : Int) < (l.length : Int)) := by omega
      have hiz : (0 : Int) ≤ (i : Int) := by omega
      obtain ⟨ad, rfl, x0, x1, x2⟩ := at_T39 (HL.out.c wr HBR.out) (i : Int) hiz hlz
      obtain ⟨r, hr⟩ : ∃ r : S39, l[i] = r := ⟨_, rfl⟩
      have hgd : rd_T39 l (i : Int) = r := by rw [← hr]; simp [rd_T39, hlt]
      rw [hgd] at x0 x1 x2
      have hin : ((i : Int)).toNat = i := by omega
      rw [hin] at x0 x1 x2
      have HTK : Aside0 (l.take (i + 1) = l.take i ++ [r]) := ⟨by rw [← hr]; exact (List.take_append_getElem hlt).symm⟩
      have HR64 := Aside0.mk (HL.out.i64 r (by rw [← hr]; exact List.getElem_mem hlt))
      have hwi : wrap64 ((i : Int) + 1) = ((i + 1 : Nat) : Int) := by have := HLL.out; unfold wrap64; omega
      have HI1 := Aside0.mk (And.intro hkx (And.intro hi hlt))
      have KT := time_any r.f1 wr
      clear hkx hi hr hgd hin hlt
      by_cases ht : Th.TimeOk r.f1
      · rw [decide_eq_true ht] at KT
        have HT := Aside0.mk ht
        clear ht
        go_wp2_with (first
          | (go_at_call 14
             refine KT.mono ?_
             clear KT
             rintro e w5 ⟨rfl, hb5⟩
             have x0 := pw_cell_below hb5 x0
             have x1 := pw_cell_below hb5 x1
             have x2 := pw_cell_below hb5 x2
             have KP := (HQ.out.hs.below hb5).put HFA.out r HR64.out HT.out HQ.out.puts (by have h1 := HQ.out.pot; have h2 := HI1.out; have h3 := HLL.out; omega)
             clear hb5)
          | (go_at_call 15
             refine KP.mono ?_
             clear KP
             rintro e w6 ⟨rfl, _, N2, ps2, hs2, hpot, hp2⟩
             have HS6 := Aside0.mk hs2
             have HP6 := Aside0.mk (And.intro hpot hp2)
             clear hs2 hpot hp2)
          | fail)
        try rw [hwi]
        go_roundg (l.length - (i + 1))
        case measure => have := HI1.out; omega
        case rel => exact ⟨i + 1, _, N2, ps2, rfl, Nat.le_refl _, HI1.out.2.2, ⟨⟨HS6.out, by rw [HTK.out]; exact HP6.out.2, by have h1 := HQ.out.pot; have h2 := HP6.out.1; omega⟩⟩, ⟨fun x hx => by
          rw [HTK.out] at hx
          rcases List.mem_append.1 hx with hx | hx
          · exact HTM.out x hx
          · rw [List.mem_singleton.1 hx]; exact HT.out⟩⟩
      · rw [decide_eq_false ht] at KT
        clear ht
        go_wp2_with (first
          | (go_at_call 14
             refine KT.mono ?_
             clear KT
             rintro e w5 ⟨rfl, hb5⟩
             have HB5 := Aside0.mk hb5
             clear hb5)
          | fail)
        go_ret
        exact ⟨rfl, HBR.out.trans (HB5.out.mono HBR.out.size)⟩
    · have hlz : ¬ ((i : Int) < (l.length : Int)) := by omega
      have hil : i = l.length := by omega
      have HI1 := Aside0.mk hil
      clear hlt hkx hi hil
      rename World => w4
      obtain ⟨L, hL⟩ : ∃ L, sortP ps = L := ⟨_, rfl⟩
      have HSo : Aside0 (sortP L = L) := ⟨by rw [← hL]; exact Th.sortP_same (Th.sortP_sorted ps)⟩
      have HLn : Aside0 (ps.length ≤ 7680 ∧ L.length = ps.length) := ⟨by
        have h1 := HQ.out.pot
        have h2 := HI1.out
        have h3 := HLL.out
        exact ⟨by omega, by rw [← hL, sortP_len]⟩⟩
      have HLE := Aside0.mk hL
      have HPR := Aside0.mk (putsAll_rs HFA.out HQ.out.puts (fun r hr => ⟨HTM.out r hr, (HL.out.i64 r (List.mem_of_mem_take hr)).2⟩)).2
      have HLP : Aside0 (L.Perm ps) := ⟨by rw [← hL]; exact Th.sortP_perm ps⟩
      have HAG := Aside0.mk (fitA_ok HFA.out)
      have HLNK : Aside0 (Th.NK kind L ∧ ∀ p ∈ L, Prp p) := ⟨⟨Nf.Normal.perm (Th.mgK kind HAG.out) HPR.out.1 HLP.out.symm, fun p hp => HPR.out.2 p (HLP.out.mem_iff.1 hp)⟩⟩
      have hpne : ((par : Int) != (par : Int)) = false := by simp
      clear hL HTM
      go_wp2_with (first
        | (go_at_call 21
           refine (Panes_calls HQ.out.hs.is).mono ?_
           rintro e w5 ⟨v5, rfl, hR5, hb5⟩
           have hR5 : Kd.R k70 70 w5 w4.heap.size (fun _ => True) v5 (sortP ps) := hR5
           rw [HLE.out] at hR5
           obtain ⟨A5, c5, rfl⟩ := Kd.R_slice hR5
           have HB5 := Aside0.mk hb5
           have KS := Split_calls HP14.out.1 HP14.out.2 w5 A5 c5 L (Kd.R_reads' hR5).2.2 (Kd.R_reads' hR5).2.1 HSo.out (by have := HLn.out; omega)
           clear hR5 hb5)
        | (go_at_call 33
           refine KS.mono ?_
           clear KS
           rintro e w6 ⟨A6, c6, rfl, hb6, hpl⟩
           have HPL := Aside0.mk hpl
           have HB6 := Aside0.mk (HB5.out.trans (hb6.mono HB5.out.size))
           clear hb6 hpl)
        | fail)
      have HS6 := Aside0.mk (HQ.out.hs.below HB6.out)
      have HG0 : Aside0 (Lgu w6 L 0 w6 (.slice none 0 0)) := ⟨⟨World.ownsRow_nil _ _ _ _, Below.refl _ _⟩⟩
      have HBW6 : Aside0 (Below w.heap.size w w6) := ⟨HB3.out.trans (HS6.out.bl.mono HB3.out.size)⟩
      clear HB5 HB6 hpne
      go_loopg [17, 18] 16 (fun kx s17 s18 wg => ∃ (n : Nat), s18 = .int .i64 (n : Int) ∧ 16 - n ≤ kx ∧ n ≤ 16 ∧ Aside0 (Lgu w6 L n wg s17))
      case atStart => exact ⟨0, rfl, by omega, by omega, HG0⟩
      case round =>
        clear HG0
        rename World => wg
        obtain ⟨n, rfl, hkx, hn, HG⟩ := hrel
        by_cases hlt : n < 16
        · have hge : (n : Int) < 16 := by omega
          have hwn : wrap64 ((n : Int) + 1) = ((n + 1 : Nat) : Int) := by unfold wrap64; omega
          have HI2 := Aside0.mk (And.intro hkx (And.intro hn hlt))
          obtain ⟨Pg, hP⟩ : ∃ P, L.filter (fun p => !other (n : Int) p) = P := ⟨_, rfl⟩
          have HPE := Aside0.mk hP
          have HPl : Aside0 (Pg.length ≤ 7680) := ⟨by rw [← hP]; exact Nat.le_trans (List.length_filter_le _ _) (by have := HLn.out; omega)⟩
          obtain ⟨Ag, cg, rfl⟩ := own_slice HG.out.row
          clear hkx hn hlt hP
          have KG := Group_calls (HS6.out.is.below HG.out.bl) (n : Int)
          have KG : Calls Try.prog 31 #[.pointer (some ⟨q, 0, none⟩), .int .i64 (n : Int)] wg fun e w5 => ∃ A5 c5 v9 w9, e = .returned (.slice A5 Pg.length c5) ∧ (Builtin.append_ #[44, 44] 44 #[.slice Ag (groupsUp L n).length cg, .slice A5 Pg.length c5]).run Try.prog w5 = .ok v9 w9 ∧ Lgu w6 L (n + 1) w9 v9 := by
            refine KG.mono ?_
            rintro e w5 ⟨v5, rfl, hR5, hb5⟩
            dsimp only at hR5
            rw [HLE.out, HPE.out] at hR5
            obtain ⟨A5, c5, rfl⟩ := Kd.R_slice hR5
            have hlen : (groupsUp L n).length ≤ 16 * 7680 := Nat.le_trans (cat_len _ 7680 n (fun j _ => Nat.le_trans (List.length_filter_le _ _) (by have := HLn.out; omega))) (Nat.mul_le_mul_right _ HI2.out.2.1)
            obtain ⟨v9, w9, hrun9, ho9, hg9⟩ := app70m (c := c5) (pw_own_below HG.out.row hb5) (Nat.le_trans HG.out.bl.size hb5.size) hR5 (by have := HPl.out; omega) 44
            have e1 : groupsUp L (n + 1) = groupsUp L n ++ Pg := by rw [← HPE.out]; rfl
            exact ⟨A5, c5, v9, w9, rfl, hrun9, ⟨by rw [e1]; exact ho9, (HG.out.bl.trans (hb5.mono HG.out.bl.size)).grown hg9 (Nat.le_trans HG.out.bl.size hb5.size) (fun k e => (HG.out.row.lt k e).1)⟩⟩
          go_wp2_with (first
            | (go_at_call 31
               refine KG.mono ?_
               clear KG
               rintro e w5 ⟨A5, c5, v9, w9, rfl, hrun9, hlg⟩
               have HRUN := Aside0.mk hrun9
               have HLG := Aside0.mk hlg
               clear hrun9 hlg)
            | (refine bappL_ (some 93) #[.slice Ag (groupsUp L n).length cg, .slice A5 Pg.length c5] rfl rfl (by (try simp only [List.map_toArray, List.map_cons, List.map_nil]); first | done | rfl) rfl HRUN.out ?_)
            | fail)
          try rw [hwn]
          go_roundg (16 - (n + 1))
          case measure => have := HI2.out; omega
          case rel => exact ⟨n + 1, rfl, Nat.le_refl _, by have := HI2.out; omega, HLG⟩
        · have hge : ¬ ((n : Int) < 16) := by omega
          have hn16 : n = 16 := by omega
          clear hkx hn hlt
          subst hn16
          have hGp := groupsUp_perm L
          have hO := HG.out.row
          have hblG := HG.out.bl
          obtain ⟨G, hGG⟩ : ∃ G, groupsUp L 16 = G := ⟨_, rfl⟩
          rw [hGG] at hGp hO
          have HBLG := Aside0.mk hblG
          clear HG hGG hblG
          obtain ⟨Ag, cg, rfl⟩ := own_slice hO
          have HO := Aside0.mk hO
          have HGP := Aside0.mk hGp
          clear hO hGp
          have HSG := Aside0.mk (HS6.out.below HBLG.out)
          have HPLG : Aside0 (∀ W, Below wg.heap.size wg W → Kd.C (Kd.slice 70 k70) W A6 (partsOf par L).length (partsOf par L)) := ⟨fun W hW => HPL.out.2 W (HBLG.out.trans (hW.mono HBLG.out.size))⟩
          go_wp2_with fail
          obtain ⟨Q0, hQ0⟩ : ∃ Q0, q = Q0 := ⟨_, rfl⟩
          have HQQ := Aside0.mk hQ0
          clear hQ0
          have HM0 : Aside0 (Lm w3 wg kind size slide a ps L par 0 (fun _ => q) (fun _ => F1) (fun _ => N1) (fun _ => ps) (.slice none 0 0) wg) := ⟨⟨⟨⟨fun j _ => HSG.out.is, fun j _ => HSG.out.low, fun x y hx hy hne => absurd (show x = y by omega) hne, HSG.out.bl⟩, World.ownsRow_nil _ _ _ _, HSG.out.bs, fun g hg => by cases hg⟩, Below.refl _ _, rfl, by have h1 := HQ.out.pot; have h2 := HI1.out; have h3 := HLL.out; omega, fun j hj => by omega, fun j hj => by omega⟩⟩
          go_loopg [16, 19] par (fun kx s16 s19 wr => ∃ (i : Nat) (q : Nat → Nat) (F : Nat → Nat → Prop) (N : Nat → Nat) (P : Nat → List S70), s19 = .int .i64 (i : Int) ∧ par - i ≤ kx ∧ i ≤ par ∧ q 0 = Q0 ∧ Aside0 (Lm w3 wg kind size slide a ps L par i q F N P s16 wr))
          case atStart => exact ⟨0, _, _, _, _, rfl, by omega, by omega, HQQ.out, HM0⟩
          case round =>
            clear HM0
            rename World => wr
            obtain ⟨i, q, F, N, P, rfl, hkx, hi, hq0, HV⟩ := hrel
            obtain ⟨At, ct, rfl⟩ := own_slice HV.out.fr.row
            have HBV : Aside0 (Below w.heap.size w wr) := ⟨HB3.out.trans (HV.out.fr.fam.bl.mono HB3.out.size)⟩
            by_cases hlt : i < par
            · have hlz : (i : Int) < (par : Int) := by omega
              have hiz : (0 : Int) ≤ (i : Int) := by omega
              obtain ⟨ad, A0, c0, rfl, x0, hc0, hC0⟩ := at_L6 (HPLG.out wr HV.out.bd) (i : Int) hiz (by rw [partsOf_len]; exact hlz)
              obtain ⟨Pi_, hPi⟩ : ∃ P_, partOf par L i = P_ := ⟨_, rfl⟩
              have hrd : rd_L6 (partsOf par L) (i : Int) = Pi_ := by
                unfold rd_L6
                rw [Int.toNat_natCast, List.getD_eq_getElem?_getD, List.getElem?_eq_getElem (by rw [partsOf_len]; exact hlt), partsOf_get hlt, hPi]
                rfl
              rw [hrd] at x0 hc0 hC0
              have hin : ((i : Int)).toNat = i := by omega
              rw [hin] at x0
              have HC0 := Aside0.mk (And.intro hc0 hC0)
              have HPI := Aside0.mk hPi
              have HPIl : Aside0 (Pi_.length ≤ 7680) := ⟨by rw [← hPi]; exact Nat.le_trans (List.length_filter_le _ _) (by have := HLn.out; omega)⟩
              have hwi : wrap64 ((i : Int) + 1) = ((i + 1 : Nat) : Int) := by have := HP14.out; unfold wrap64; omega
              have hii : ((i : Int) != (i : Int)) = false := by simp
              have HI3 := Aside0.mk (And.intro hkx (And.intro hi hlt))
              have HQ0 := Aside0.mk hq0
              clear hkx hi hlt hrd hin hPi hc0 hC0 hq0
              go_wp2_with fail
              go_loopg [20] Pi_.length (fun kx s20 wi => ∃ (j : Nat), s20 = .int .i64 j ∧ Pi_.length - j ≤ kx ∧ j ≤ Pi_.length ∧ Aside0 (Below wr.heap.size wr wi))
              case atStart => exact ⟨0, rfl, by omega, by omega, ⟨Below.refl _ _⟩⟩
              case round =>
                rename World => wi
                obtain ⟨j, rfl, hkj, hj, HJ⟩ := hrel
                have x0 := pw_cell_below HJ.out x0
                by_cases hlt : j < Pi_.length
                · have hlz2 : ((j : Int) < (Pi_.length : Int)) := by omega
                  have hjz : (0 : Int) ≤ (j : Int) := by omega
                  obtain ⟨ad2, rfl, y0, y1, y2, y3⟩ := at_T70 (Kd.C_below HC0.out.2 HJ.out) (j : Int) hjz hlz2
                  obtain ⟨z, hz⟩ : ∃ z : S70, Pi_[j] = z := ⟨_, rfl⟩
                  have hgd : rd_T70 Pi_ (j : Int) = z := by rw [← hz]; simp [rd_T70, hlt]
                  rw [hgd] at y0 y1 y2 y3
                  have hin : ((j : Int)).toNat = j := by omega
                  rw [hin] at y0 y1 y2 y3
                  have hzp : prt par z.f0 = i := by
                    have : z ∈ partOf par L i := by rw [HPI.out, ← hz]; exact List.getElem_mem hlt
                    exact of_decide_eq_true (List.mem_filter.1 this).2
                  have KPT := fun W => refPart HP14.out.1 HP14.out.2 z.f0 W
                  rw [hzp] at KPT
                  have hwj : wrap64 ((j : Int) + 1) = ((j + 1 : Nat) : Int) := by have := HPIl.out; unfold wrap64; omega
                  have HJ1 := Aside0.mk (And.intro hkj (And.intro hj hlt))
                  clear hkj hj hlt hz hgd hin hzp
                  go_wp2_with (first
                    | (go_at_call 32
                       refine (refGroup z.f0 wi).mono ?_
                       rintro e w8 ⟨rfl, hb8⟩
                       have HJ8 := Aside0.mk (HJ.out.trans (hb8.mono HJ.out.size))
                       clear hb8)
                    | (go_at_call 34
                       refine (KPT w8).mono ?_
                       clear KPT
                       rintro e w9 ⟨rfl, hb9⟩
                       have HJ9 := Aside0.mk (HJ8.out.trans (hb9.mono HJ8.out.size))
                       clear hb9)
                    | fail)
                  try rw [hwj]
                  go_roundg (Pi_.length - (j + 1))
                  case measure => have := HJ1.out; omega
                  case rel => exact ⟨j + 1, rfl, Nat.le_refl _, HJ1.out.2.2, HJ9⟩
                · have hlz2 : ¬ ((j : Int) < (Pi_.length : Int)) := by omega
                  have HVI := Aside0.mk (HV.out.below HJ.out)
                  have hwn := (HBV.out.trans (HJ.out.mono HBV.out.size))
                  have hww := (HVI.out.fr.fam.bl.block _ HW3'.out).trans HW3.out
                  have u0 := (blk_cell hww 0).trans rfl
                  have u1 := (blk_cell hww 1).trans rfl
                  have u2 := (blk_cell hww 2).trans rfl
                  have HF := Aside0.mk (F_of_C70 (Kd.C_below HC0.out.2 HJ.out))
                  have HLD : Aside0 (∀ p ∈ Pi_, P64 p) := ⟨fun p hp => HQ.out.hs.is.p64 p (HLP.out.mem_iff.1 (by rw [← HPI.out] at hp; exact (List.mem_filter.1 hp).1))⟩
                  clear hkj hj hlt hwn hww
                  go_wp2_with (first
                    | (go_at_call 11
                       refine (New_calls wi kind size slide a).mono ?_
                       clear u0 u1 u2
                       rintro e w10 ⟨q10, rfl, hI, hb⟩
                       have x0 := pw_cell_below hb x0
                       have HB10 := Aside0.mk hb
                       have KL := Load_calls hI A0 c0 Pi_ _ (Kd.F_below HF.out hb) HC0.out.1 (fun k hk => ⟨fun h => by have := h.1; omega, Nat.lt_of_lt_of_le hk hb.size⟩) HLD.out (by have := HPIl.out; omega)
                       clear hI hb)
                    | (go_at_call 20
                       refine KL.mono ?_
                       clear KL
                       rintro e w11 ⟨rfl, hto⟩
                       have hto : To (fun k => wi.heap.size ≤ k ∧ k < w10.heap.size) w10 w11 (loadOf kind a Pi_).length q10 ⟨kind, size, slide, a, loadL a (loadOf kind a Pi_)⟩ := hto
                       rw [← HPI.out] at hto
                       obtain ⟨v12, w12, hrun, F9, N9, P9, hlm⟩ := HVI.out.push HAG.out HLNK.out.1 HLNK.out.2 (by have := HLn.out; omega) (by have h1 := HI3.out; have h2 := HP14.out; omega) HB10.out hto
                       have HRUN := Aside0.mk hrun
                       have HLM := Aside0.mk hlm
                       clear hto hrun hlm)
                    | (refine bappL_ (some 133) #[.slice At i ct, .slice (some ⟨w11.heap.size, 0, none⟩) 1 1] rfl rfl (by (try simp only [List.map_toArray, List.map_cons, List.map_nil]); first | done | rfl) rfl HRUN.out ?_)
                    | fail)
                  try rw [hwi]
                  go_roundg (par - (i + 1))
                  case measure => have := HI3.out; omega
                  case rel => exact ⟨i + 1, _, _, _, _, rfl, Nat.le_refl _, HI3.out.2.2, by rw [upd_other _ _ (by omega)]; exact HQ0.out, HLM⟩
            · have hlz : ¬ ((i : Int) < (par : Int)) := by omega
              have hip : i = par := by omega
              have HQ0 := Aside0.mk (hq0.trans HQQ.out.symm)
              clear hkx hi hlt hq0
              subst hip
              have HVE := HV
              rename World => wE
              have KS : Calls Try.prog 24 #[.slice Ag G.length cg] wE fun e w' => ∃ A c, e = .returned (.slice A L.length c) ∧ Kd.R k70 70 w' wE.heap.size (fun _ => True) (.slice A L.length c) L ∧ Below wE.heap.size wE w' := by
                obtain ⟨ks, hks⟩ := Th.rsort_ev G (by rw [HGP.out.length_eq]; have := HLn.out; omega)
                rw [show sortP G = L from (Th.sortP_congr HGP.out).trans HSo.out] at hks
                have hRG := Kd.R_reads' (R_flat (pw_own_below HO.out HVE.out.bd))
                refine (leatref11_Sort.calls ks Ag cg G L wE hRG.2.2 hRG.2.1 (hks ks (Nat.le_refl _))).mono ?_
                rintro e w' ⟨v, rfl, hR, hb⟩
                obtain ⟨A, c, rfl⟩ := Kd.R_slice hR
                exact ⟨A, c, rfl, hR, hb⟩
              go_wp2_with (first
                | (go_at_call 24
                   refine KS.mono ?_
                   clear KS
                   rintro e w5 ⟨A5, c5, rfl, hR5, hb5⟩
                   have HR5 := Aside0.mk hR5
                   have HB5 := Aside0.mk hb5
                   have KP := Panes_calls ((HVE.out.fr.fam.is 0 (by omega)).below hb5)
                   rw [HQ0.out] at KP
                   clear hR5 hb5)
                | (go_at_call 21
                   refine KP.mono ?_
                   clear KP
                   rintro e w6 ⟨v6, rfl, hR6, hb6⟩
                   have hR6 : Kd.R k70 70 w6 w5.heap.size (fun _ => True) v6 (sortP (P 0)) := hR6
                   rw [HVE.out.s0, HLE.out] at hR6
                   obtain ⟨A6', c6', rfl⟩ := Kd.R_slice hR6
                   have HR6 := Aside0.mk hR6
                   have HR56 := Aside0.mk (Kd.R_below HR5.out hb6)
                   have HB6 := Aside0.mk (HB5.out.trans (hb6.mono HB5.out.size))
                   clear hR6 hb6)
                | (go_at_call 25
                   obtain ⟨kp, hkp⟩ := Th.panes_ev L (by have := HLn.out; omega)
                   refine (leathelp_Panes.calls kp A5 c5 L A6' c6' L true w6 (Kd.R_reads' HR56.out).2.2 (Kd.R_reads' HR56.out).2.1 (Kd.R_reads' HR6.out).2.2 (Kd.R_reads' HR6.out).2.1 (hkp kp (Nat.le_refl _))).mono ?_
                   rintro e w7 ⟨rfl, hd7⟩
                   have HB7 := Aside0.mk (HB6.out.trans (hd7.below.mono HB6.out.size))
                   clear hd7 hkp)
                | fail)
              have HQ7 : Aside0 (Lqm w3 kind size slide a ps i wg.heap.size more 0 q F N (fun j => P (j + 1)) P (.slice At i ct) w7) := ⟨⟨HVE.out.fr.below HB7.out, by rw [HVE.out.s0]; exact .nil, fun j hj => ⟨(HVE.out.ld j hj).trans (HLP.out.filter _), .nil⟩, HVE.out.nn⟩⟩
              go_loopg [22] more.length (fun kx s22 wr => ∃ (j : Nat) (F : Nat → Nat → Prop) (N : Nat → Nat) (Pc : Nat → List S70), s22 = .int .i64 (j : Int) ∧ more.length - j ≤ kx ∧ j ≤ more.length ∧ Aside0 (Lqm w3 kind size slide a ps i wg.heap.size more j q F N (fun j => P (j + 1)) Pc (.slice At i ct) wr) ∧ Aside0 (∀ r ∈ more.take j, Th.TimeOk r.f1))
              case atStart => exact ⟨0, _, _, _, rfl, by omega, by omega, HQ7, ⟨fun r hr => by simp at hr⟩⟩
              case round =>
                clear HQ7
                rename World => wr
                obtain ⟨j, F5, N5, P5, rfl, hkx, hj, HX, HTX⟩ := hrel
                have HBX := Aside0.mk (HB3.out.trans (HX.out.fr.fam.bl.mono HB3.out.size))
                by_cases hlt : j < more.length
                · have hlz : ((j : Int) < (more.length : Int)) := by omega
                  have hiz : (0 : Int) ≤ (j : Int) := by omega
                  obtain ⟨adm, rfl, x0, x1, x2⟩ := at_T39 (HM.out.c wr HBX.out) (j : Int) hiz hlz
                  obtain ⟨r, hr⟩ : ∃ r : S39, more[j] = r := ⟨_, rfl⟩
                  have hgd : rd_T39 more (j : Int) = r := by rw [← hr]; simp [rd_T39, hlt]
                  rw [hgd] at x0 x1 x2
                  have hin : ((j : Int)).toNat = j := by omega
                  rw [hin] at x0 x1 x2
                  have HTK : Aside0 (more.take (j + 1) = more.take j ++ [r]) := ⟨by rw [← hr]; exact (List.take_append_getElem hlt).symm⟩
                  have HR64 := Aside0.mk (HM.out.i64 r (by rw [← hr]; exact List.getElem_mem hlt))
                  have hwj : wrap64 ((j : Int) + 1) = ((j + 1 : Nat) : Int) := by have := HML.out; unfold wrap64; omega
                  have HJ1 := Aside0.mk (And.intro hkx (And.intro hj hlt))
                  have HJM : Aside0 (j < 60) := ⟨by have := HML.out; omega⟩
                  have KT := time_any r.f1 wr
                  have HGD := Aside0.mk (And.intro hgd hin)
                  clear hkx hj hr hgd hin hlt
                  by_cases ht : Th.TimeOk r.f1
                  · rw [decide_eq_true ht] at KT
                    have HT := Aside0.mk ht
                    clear ht
                    go_wp2_with (first
                      | (go_at_call 14
                         refine KT.mono ?_
                         clear KT
                         rintro e w8 ⟨rfl, hb8⟩
                         have x0 := pw_cell_below hb8 x0
                         have x1 := pw_cell_below hb8 x1
                         have x2 := pw_cell_below hb8 x2
                         have KP := (HX.out.fr.below hb8).put (i := 0) (by omega) HFA.out r HR64.out HT.out (by have h1 := HX.out.nn 0 (by omega); have h2 := HJM.out; omega)
                         rw [HQ0.out] at KP
                         clear hb8)
                      | (go_at_call 15
                         refine KP.mono ?_
                         clear KP
                         rintro e w9 ⟨rfl, F9, N9, ps9, hfr, hpot, hput⟩
                         have HF9 := Aside0.mk (And.intro hfr (And.intro hpot hput))
                         clear hfr hpot hput)
                      | fail)
                    have HX9 := HF9.out.1
                    have HROW := Aside0.mk HX9.row
                    have hpl := prt_lt HP14.out.1 r.f0
                    obtain ⟨pj, hpj⟩ : ∃ pj, prt i r.f0 = pj := ⟨_, rfl⟩
                    rw [hpj] at hpl
                    have HPJ := Aside0.mk hpj
                    have HPL2 := Aside0.mk hpl
                    obtain ⟨gt, rfl⟩ : ∃ gt, At = some ⟨gt, 0, none⟩ := by
                      rcases HX9.row.2 with ⟨hv, hin⟩ | ⟨g, cap, cur, hv, _⟩
                      · injection hv with e1 e2 e3
                        omega
                      · injection hv with e1 e2 e3
                        exact ⟨g, e1⟩
                    have hts : ∀ W, Below w9.heap.size w9 W → W.cell? ⟨gt, pj, none⟩ = some (.pointer (some ⟨q (pj + 1), 0, none⟩)) := fun W hW => own_cell (pw_own_below HX9.row hW) (ptrs_get q hpl)
                    have hxs : ∀ W, Below w9.heap.size w9 W → W.cell? (adm.add (j * 3)) = some (.int .i64 r.f0) ∧ W.cell? ⟨(adm.add (j * 3)).block, (adm.add (j * 3)).off + 1, none⟩ = some (.int .i64 r.f1) ∧ W.cell? ⟨(adm.add (j * 3)).block, (adm.add (j * 3)).off + 2, none⟩ = some (.int .i64 r.f2) := fun W hW => by
                      obtain ⟨ad', e', z0, z1, z2⟩ := at_T39 (HM.out.c W ((HB3.out.trans (HX9.fam.bl.mono HB3.out.size)).trans (hW.mono (Nat.le_trans HB3.out.size HX9.fam.bl.size)))) (j : Int) (by omega) (by have := HJ1.out.2.2; omega)
                      cases e'
                      rw [HGD.out.1, HGD.out.2] at z0 z1 z2
                      exact ⟨z0, z1, z2⟩
                    have HTS := Aside0.mk hts
                    have HXS := Aside0.mk hxs
                    have HPZ : Aside0 ((0 : Int) ≤ (pj : Int) ∧ (pj : Int) < (i : Int)) := ⟨by omega⟩
                    have hpz0 := HPZ.out.1
                    have hpz1 := HPZ.out.2
                    clear hts hxs hpj hpl x0 x1 x2
                    refine start_ (n := 16) (S := fun w' => w'.cell? (adm.add (j * 3)) = some (.int .i64 r.f0) ∧ w'.cell? ⟨(adm.add (j * 3)).block, (adm.add (j * 3)).off + 1, none⟩ = some (.int .i64 r.f1) ∧ w'.cell? ⟨(adm.add (j * 3)).block, (adm.add (j * 3)).off + 2, none⟩ = some (.int .i64 r.f2) ∧ w'.cell? ⟨gt, pj, none⟩ = some (.pointer (some ⟨q (pj + 1), 0, none⟩))) (ds := [15]) #[false, false, false, false, false, false, false, false, false, false, false, false, false, false, false, false] (by kernel_rfl) rfl rfl ⟨(HXS.out _ (below_drew (Below.refl _ _))).1, (HXS.out _ (below_drew (Below.refl _ _))).2.1, (HXS.out _ (below_drew (Below.refl _ _))).2.2, HTS.out _ (below_drew (Below.refl _ _))⟩ (fun hHeld => ?_); refine with_tabW Tspl.tab42 Tspl.bits42 (fun HT_ HW_ => ?_)
                    have HBy : Aside0 (Below w9.heap.size w9 w9.drew) := ⟨below_drew (Below.refl _ _)⟩
                    generalize hwy : World.drew w9 = wy at HBy hHeld ⊢
                    clear hwy
                    refine pure_ (i := 0) (N := some 159) (v := ?_) (a' := ?_) #[true, false, false, false, false, false, false, false, false, false, false, false, false, false, false, false] rfl rfl (any_of HT_.out (by kernel_rfl)) (fun _ _ _ h => h) (Or.inl ⟨by rfl, ?_⟩) ?_ ?_
                    rotate_left
                    · intro w'
                      go_simp
                      with_reducible rfl
                    rotate_left
                    · simp only [Act.put, List.setIfInBounds_toArray, List.set_cons_zero, List.set_cons_succ, i64_w, i32_w]
                      rfl
                    refine pure_ (i := 1) (N := some 160) (v := ?_) (a' := ?_) #[true, true, false, false, false, false, false, false, false, false, false, false, false, false, false, false] rfl rfl (any_of HT_.out (by kernel_rfl)) (fun _ _ _ h => h) (Or.inl ⟨by rfl, ?_⟩) ?_ ?_
                    rotate_left
                    · intro w'
                      go_simp
                      with_reducible rfl
                    rotate_left
                    · simp only [Act.put, List.setIfInBounds_toArray, List.set_cons_zero, List.set_cons_succ, i64_w, i32_w]
                      rfl
                    refine pure_ (i := 2) (N := some 161) (v := ?_) (a' := ?_) #[true, true, true, false, false, false, false, false, false, false, false, false, false, false, false, false] rfl rfl (any_of HT_.out (by kernel_rfl)) (fun _ _ _ h => h) (Or.inl ⟨by rfl, ?_⟩) ?_ ?_
                    rotate_left
                    · intro w'
                      go_simp
                      with_reducible rfl
                    rotate_left
                    · simp only [Act.put, List.setIfInBounds_toArray, List.set_cons_zero, List.set_cons_succ, i64_w, i32_w]
                      rfl
                    refine pure_ (i := 3) (N := some 162) (v := ?_) (a' := ?_) #[true, true, true, true, false, false, false, false, false, false, false, false, false, false, false, false] rfl rfl (any_of HT_.out (by kernel_rfl)) (fun _ _ _ h => h) (Or.inl ⟨by rfl, ?_⟩) ?_ ?_
                    rotate_left
                    · intro w'
                      go_simp
                      with_reducible rfl
                    rotate_left
                    · simp only [Act.put, List.setIfInBounds_toArray, List.set_cons_zero, List.set_cons_succ, i64_w, i32_w]
                      rfl
                    refine pure_ (i := 4) (N := some 163) (v := ?_) (a' := ?_) #[true, true, true, true, true, false, false, false, false, false, false, false, false, false, false, false] rfl rfl (any_of HT_.out (by kernel_rfl)) (fun _ _ _ h => h) (Or.inl ⟨by rfl, ?_⟩) ?_ ?_
                    rotate_left
                    · intro w'
                      go_simp
                      with_reducible rfl
                    rotate_left
                    · simp only [Act.put, List.setIfInBounds_toArray, List.set_cons_zero, List.set_cons_succ, i64_w, i32_w]
                      rfl
                    refine take_ (i := 5) (N := some 164) (v := ?_) (a' := ?_) #[true, true, true, true, true, true, false, false, false, false, false, false, false, false, false, false] rfl rfl (take_ofW HT_.out HW_.out (by kernel_rfl)) (fun _ _ _ h => h) (Or.inl ⟨by rfl, ?_⟩) hHeld ?_ ?_
                    rotate_left
                    · rintro w' ⟨s0, s1, s2, s3⟩
                      go_simp
                      with_reducible rfl
                    rotate_left
                    · simp only [Act.put, List.setIfInBounds_toArray, List.set_cons_zero, List.set_cons_succ, i64_w, i32_w]
                      rfl
                    refine pure_ (i := 7) (N := some 166) (v := ?_) (a' := ?_) #[true, true, true, true, true, true, false, true, false, false, false, false, false, false, false, false] rfl rfl (any_of HT_.out (by kernel_rfl)) (fun _ _ _ h => h) (Or.inl ⟨by rfl, ?_⟩) ?_ ?_
                    rotate_left
                    · intro w'
                      go_simp
                      with_reducible rfl
                    rotate_left
                    · simp only [Act.put, List.setIfInBounds_toArray, List.set_cons_zero, List.set_cons_succ, i64_w, i32_w]
                      rfl
                    refine pure_ (i := 11) (N := some 170) (v := ?_) (a' := ?_) #[true, true, true, true, true, true, false, true, false, false, false, true, false, false, false, false] rfl rfl (any_of HT_.out (by kernel_rfl)) (fun _ _ _ h => h) (Or.inl ⟨by rfl, ?_⟩) ?_ ?_
                    rotate_left
                    · intro w'
                      go_simp
                      with_reducible rfl
                    rotate_left
                    · simp only [Act.put, List.setIfInBounds_toArray, List.set_cons_zero, List.set_cons_succ, i64_w, i32_w]
                      rfl
                    refine pure_ (i := 12) (N := some 171) (v := ?_) (a' := ?_) #[true, true, true, true, true, true, false, true, false, false, false, true, true, false, false, false] rfl rfl (any_of HT_.out (by kernel_rfl)) (fun _ _ _ h => h) (Or.inl ⟨by rfl, ?_⟩) ?_ ?_
                    rotate_left
                    · intro w'
                      go_simp
                      with_reducible rfl
                    rotate_left
                    · simp only [Act.put, List.setIfInBounds_toArray, List.set_cons_zero, List.set_cons_succ, i64_w, i32_w]
                      rfl
                    refine pure_ (i := 13) (N := some 172) (v := ?_) (a' := ?_) #[true, true, true, true, true, true, false, true, false, false, false, true, true, true, false, false] rfl rfl (any_of HT_.out (by kernel_rfl)) (fun _ _ _ h => h) (Or.inl ⟨by rfl, ?_⟩) ?_ ?_
                    rotate_left
                    · intro w'
                      go_simp
                      with_reducible rfl
                    rotate_left
                    · simp only [Act.put, List.setIfInBounds_toArray, List.set_cons_zero, List.set_cons_succ, i64_w, i32_w]
                      rfl
                    refine take_ (i := 14) (N := some 173) (v := ?_) (a' := ?_) #[true, true, true, true, true, true, false, true, false, false, false, true, true, true, true, false] rfl rfl (take_ofW HT_.out HW_.out (by kernel_rfl)) (fun _ _ _ h => h) (Or.inl ⟨by rfl, ?_⟩) hHeld ?_ ?_
                    rotate_left
                    · rintro w' ⟨s0, s1, s2, s3⟩
                      go_simp
                      with_reducible rfl
                    rotate_left
                    · simp only [Act.put, List.setIfInBounds_toArray, List.set_cons_zero, List.set_cons_succ, i64_w, i32_w]
                      rfl
                    refine one_ (i := 6) (N := some 165) #[true, true, true, true, true, true, true, true, false, false, false, true, true, true, true, false] rfl rfl (one_of HT_.out (by kernel_rfl)) (by decide) (fun K hK => ?_)
                    refine goes_ Try.func32 (by kernel_rfl) rfl #[.int .i64 r.f0] (by rfl) rfl rfl (by (try simp only [List.map_toArray, List.map_cons, List.map_nil]); first | done | rfl) ?_
                    refine (refGroup r.f0 wy).mono ?_
                    rintro e w10 ⟨rfl, hb10⟩
                    refine ⟨_, rfl, ?_⟩
                    have HB10 := Aside0.mk (HBy.out.trans (hb10.mono HBy.out.size))
                    clear hb10
                    refine hK.out _ _ ⟨(HXS.out _ HB10.out).1, (HXS.out _ HB10.out).2.1, (HXS.out _ HB10.out).2.2, HTS.out _ HB10.out⟩ (fun hHeld => ?_)
                    clear hK K
                    refine norm_ (a' := ?_) ?_ ?_
                    rotate_left
                    · show Act.put _ (some 165) _ = _
                      simp only [Act.put, List.setIfInBounds_toArray, List.set_cons_zero, List.set_cons_succ, i64_w, i32_w]
                      rfl
                    have KPT := refPart HP14.out.1 HP14.out.2 r.f0 w10
                    rw [HPJ.out] at KPT
                    refine one_ (i := 8) (N := some 167) #[true, true, true, true, true, true, true, true, true, false, false, true, true, true, true, false] rfl rfl (one_of HT_.out (by kernel_rfl)) (by decide) (fun K hK => ?_)
                    refine goes_ Try.func34 (by kernel_rfl) rfl #[.int .i64 (grp r.f0), .int .i64 (i : Int)] (by rfl) rfl rfl (by (try simp only [List.map_toArray, List.map_cons, List.map_nil]); first | done | rfl) ?_
                    refine (KPT).mono ?_
                    rintro e w11 ⟨rfl, hb11⟩
                    refine ⟨_, rfl, ?_⟩
                    have HB11 := Aside0.mk (HB10.out.trans (hb11.mono HB10.out.size))
                    clear hb11 KPT
                    refine hK.out _ _ ⟨(HXS.out _ HB11.out).1, (HXS.out _ HB11.out).2.1, (HXS.out _ HB11.out).2.2, HTS.out _ HB11.out⟩ (fun hHeld => ?_)
                    clear hK K
                    refine norm_ (a' := ?_) ?_ ?_
                    rotate_left
                    · show Act.put _ (some 167) _ = _
                      simp only [Act.put, List.setIfInBounds_toArray, List.set_cons_zero, List.set_cons_succ, i64_w, i32_w]
                      rfl
                    refine pure_ (i := 9) (N := some 168) (v := ?_) (a' := ?_) #[true, true, true, true, true, true, true, true, true, true, false, true, true, true, true, false] rfl rfl (any_of HT_.out (by kernel_rfl)) (fun _ _ _ h => h) (Or.inl ⟨by rfl, ?_⟩) ?_ ?_
                    rotate_left
                    · intro w'
                      go_simp
                      with_reducible rfl
                    rotate_left
                    · simp only [Act.put, List.setIfInBounds_toArray, List.set_cons_zero, List.set_cons_succ, i64_w, i32_w]
                      rfl
                    refine take_ (i := 10) (N := some 169) (v := ?_) (a' := ?_) #[true, true, true, true, true, true, true, true, true, true, true, true, true, true, true, false] rfl rfl (take_ofW HT_.out HW_.out (by kernel_rfl)) (fun _ _ _ h => h) (Or.inl ⟨by rfl, ?_⟩) hHeld ?_ ?_
                    rotate_left
                    · rintro w' ⟨s0, s1, s2, s3⟩
                      go_simp
                      with_reducible rfl
                    rotate_left
                    · simp only [Act.put, List.setIfInBounds_toArray, List.set_cons_zero, List.set_cons_succ, i64_w, i32_w]
                      rfl
                    have KP2 := (HF9.out.1.below HB11.out).put (i := pj + 1) (by have := HPL2.out; omega) HFA.out r HR64.out HT.out (by rw [upd_other _ _ (by omega), upd_other _ _ (by omega)]; have h1 := HX.out.nn (pj + 1) (by have := HPL2.out; omega); have h2 := HJM.out; omega)
                    refine last_ (i := 15) (N := some 174) #[true, true, true, true, true, true, true, true, true, true, true, true, true, true, true, true] rfl rfl (one_of HT_.out (by kernel_rfl)) (by decide) (fun K hK => ?_)
                    refine goes_ Try.func15 (by kernel_rfl) rfl #[.pointer (some ⟨q (pj + 1), 0, none⟩), aggR r] (by rfl) rfl rfl (by (try simp only [List.map_toArray, List.map_cons, List.map_nil]); first | done | rfl) ?_
                    refine (KP2).mono ?_
                    rintro e w12 ⟨rfl, F12, N12, ps12, hfr, hpot, hput⟩
                    refine ⟨_, rfl, ?_⟩
                    rw [upd_other _ _ (by omega)] at hput
                    rw [upd_other _ _ (by omega), upd_other _ _ (by omega)] at hpot
                    rw [← HPJ.out] at hput hpot hfr
                    have HQ12 := Aside0.mk (HX.out.step HTK.out (by rw [HPJ.out]; exact HPL2.out) HF9.out.2.2 HF9.out.2.1 hput hpot hfr)
                    clear hput hpot hfr KP2
                    refine hK.out _ _ ?_
                    clear hK K
                    refine norm_ (a' := ?_) ?_ ?_
                    rotate_left
                    · show Act.put _ (some 174) _ = _
                      simp only [Act.put, List.setIfInBounds_toArray, List.set_cons_zero, List.set_cons_succ, i64_w, i32_w]
                      rfl
                    refine done_ (done_of HT_.out (by kernel_rfl)) ?_
                    clear hHeld
                    go_wp2_with fail
                    try rw [hwj]
                    go_roundg (more.length - (j + 1))
                    case measure => have := HJ1.out; omega
                    case rel => exact ⟨j + 1, _, _, _, rfl, Nat.le_refl _, HJ1.out.2.2, HQ12, ⟨fun x hx => by
                      rw [HTK.out] at hx
                      rcases List.mem_append.1 hx with hx | hx
                      · exact HTX.out x hx
                      · rw [List.mem_singleton.1 hx]; exact HT.out⟩⟩
                  · rw [decide_eq_false ht] at KT
                    clear ht
                    go_wp2_with (first
                      | (go_at_call 14
                         refine KT.mono ?_
                         clear KT
                         rintro e w8 ⟨rfl, hb8⟩
                         have HB8 := Aside0.mk hb8
                         clear hb8)
                      | fail)
                    go_ret
                    exact ⟨rfl, HBX.out.trans (HB8.out.mono HBX.out.size)⟩
                · have hlz : ¬ ((j : Int) < (more.length : Int)) := by omega
                  have hjl : j = more.length := by omega
                  have hp0 := HX.out.p0
                  have hpj := HX.out.pj
                  have htm := HTX.out
                  rw [hjl, List.take_of_length_le (Nat.le_refl _)] at hp0 htm
                  rw [hjl] at hpj
                  have hpj : ∀ x, x < i → Part kind size slide a i ps more x (P (x + 1)) (P5 (x + 1)) := fun x hx => by
                    have := hpj x hx
                    rwa [List.take_of_length_le (Nat.le_refl _)] at this
                  have hok : ∀ r ∈ more, Th.TimeOk r.f1 ∧ Go.Proofs.Ytjegeghigfmkoaa.I64 r.f2 := fun r hr => ⟨htm r hr, (HM.out.i64 r hr).2⟩
                  have HCAT := Aside0.mk (parts_same HFA.out HP14.out.1 HPR.out.1 HPR.out.2 hok hp0 hpj)
                  have HNK0 := Aside0.mk (putsAll_from HFA.out hp0 HPR.out.1 HPR.out.2 hok).2
                  have HNKJ : Aside0 (∀ x, x < i → Th.NK kind (P5 (x + 1)) ∧ ∀ p ∈ P5 (x + 1), Prp p) := ⟨fun x hx => by
                    obtain ⟨_, f2, f3, _⟩ := (hpj x hx).facts HFA.out HPR.out.1 HPR.out.2 hok
                    exact ⟨f2, f3⟩⟩
                  have HLEN : Aside0 (∀ x, x < i + 1 → (P5 x).length ≤ 37680) := ⟨fun x hx => by
                    have h1 := HX.out.nn x hx
                    have h2 := HML.out
                    omega⟩
                  have KF := (HX.out.fr).fire (i := 0) (by omega) HAG.out mark HNK0.out.1 HNK0.out.2
                  rw [HQ0.out] at KF
                  clear hkx hj hlt hp0 hpj htm hok hjl HTX
                  go_wp2_with (first
                    | (go_at_call 19
                       refine KF.mono ?_
                       clear KF
                       rintro e w8 ⟨A8, c8, N8, ps8, rfl, hto, hp8⟩
                       rw [← HQ0.out] at hto
                       have HTO := Aside0.mk hto
                       have HP8 := Aside0.mk hp8
                       clear hto hp8)
                    | fail)
                  have hts := HX.out.fr.to (i := 0) (by omega) HTO.out
                  have HLX : Aside0 (Lx w3 kind size slide a mark i wg.heap.size w8.heap.size 0 q (upd F5 0 (Fx (F5 0) wr w8)) (upd N5 0 N8) P5 (upd P5 0 ps8) (.slice At i ct) (.slice none 0 0) w8) := ⟨⟨hts, ⟨hts.fam, World.ownsRow_nil _ _ _ _, hts.fam.bl.size, fun g hg => by cases hg⟩, fun g hg => (hts.row.lt g hg).2, fun h => h, fun x hx => by omega, fun x _ hx => upd_other _ _ (by omega), by rw [upd_same]; exact HP8.out⟩⟩
                  clear hts
                  go_loopg [23, 24, 26] i (fun kx s23 s24 s26 wr => ∃ (j : Nat) (F : Nat → Nat → Prop) (N : Nat → Nat) (Pc : Nat → List S70), s24 = .int .i64 (sumN (fun x => fo kind mark (P5 (x + 1))) j : Int) ∧ s26 = .int .i64 (j : Int) ∧ i - j ≤ kx ∧ j ≤ i ∧ Aside0 (Lx w3 kind size slide a mark i wg.heap.size w8.heap.size j q F N P5 Pc (.slice At i ct) s23 wr))
                  case atStart => exact ⟨0, _, _, _, rfl, rfl, by omega, by omega, HLX⟩
                  case round =>
                    clear HLX
                    rename World => wy
                    obtain ⟨j, F6, N6, P6, rfl, rfl, hkx, hj, HY⟩ := hrel
                    obtain ⟨Au, cu, rfl⟩ := own_slice HY.out.all.row
                    have HCL : Aside0 ((cat (fun x => sortP (P6 (x + 1))) j).length ≤ 4 * 37680) := ⟨by
                      have h1 := cat_len (fun x => sortP (P6 (x + 1))) 37680 j (fun x hx => by
                        show (sortP (P6 (x + 1))).length ≤ 37680
                        rw [sortP_len, (HY.out.done x hx).length_eq]
                        refine Nat.le_trans ?_ (HLEN.out (x + 1) (by omega))
                        unfold fl'
                        split
                        · exact Nat.le_refl _
                        · exact List.length_filter_le _ _)
                      have h2 := HP14.out.2
                      have h3 : j * 37680 ≤ 4 * 37680 := Nat.mul_le_mul_right _ (by omega)
                      omega⟩
                    have HSL : Aside0 (∀ x, x ≤ i → sumN (fun x => fo kind mark (P5 (x + 1))) x ≤ 4 * 37680) := ⟨fun x hx => by
                      have h1 := sumN_le (fun x => fo kind mark (P5 (x + 1))) 37680 x (fun y hy => Nat.le_trans (fo_le _ _ _) (HLEN.out (y + 1) (by omega)))
                      have h2 := HP14.out.2
                      have h3 : x * 37680 ≤ 4 * 37680 := Nat.mul_le_mul_right _ (by omega)
                      omega⟩
                    by_cases hlt : j < i
                    · have hlz : ((j : Int) < (i : Int)) := by omega
                      have hiz : (0 : Int) ≤ (j : Int) := by omega
                      obtain ⟨gt, rfl⟩ : ∃ gt, At = some ⟨gt, 0, none⟩ := by
                        rcases HY.out.ts.row.2 with ⟨hv, hin⟩ | ⟨g, cap, cur, hv, _⟩
                        · injection hv with e1 e2 e3
                          omega
                        · injection hv with e1 e2 e3
                          exact ⟨g, e1⟩
                      have x0 := own_cell HY.out.ts.row (ptrs_get q hlt)
                      have hw6 : P6 (j + 1) = P5 (j + 1) := HY.out.wait j (Nat.le_refl _) hlt
                      have KF := (HY.out.ts).fire (i := j + 1) (by omega) HAG.out mark (by rw [hw6]; exact (HNKJ.out j hlt).1) (by rw [hw6]; exact (HNKJ.out j hlt).2)
                      have HW6 := Aside0.mk hw6
                      have hsum : wrap64 ((sumN (fun x => fo kind mark (P5 (x + 1))) j : Int) + (fo kind mark (P6 (j + 1)) : Int)) = (sumN (fun x => fo kind mark (P5 (x + 1))) (j + 1) : Int) := by
                        rw [hw6]
                        have h1 := HSL.out (j + 1) (by omega)
                        rw [sumN] at h1 ⊢
                        unfold wrap64
                        omega
                      have hwj : wrap64 ((j : Int) + 1) = ((j + 1 : Nat) : Int) := by have := HP14.out.2; unfold wrap64; omega
                      have HJ1 := Aside0.mk (And.intro hkx (And.intro hj hlt))
                      generalize hss : sumN (fun x => fo kind mark (P5 (x + 1))) j = S0 at hsum
                      generalize hs1 : sumN (fun x => fo kind mark (P5 (x + 1))) (j + 1) = S1 at hsum
                      have HS1 := Aside0.mk hs1
                      have HSum := Aside0.mk hsum
                      clear hkx hj hlt hw6 hss hs1
                      go_wp2_with (first
                        | (go_at_call 19
                           refine KF.mono ?_
                           clear KF
                           rintro e w9 ⟨A9, c9, N9, ps9, rfl, hto, hp9⟩
                           have x0 := own_cell (HY.out.ts.to (i := j + 1) (by have := HJ1.out; omega) hto).row (ptrs_get q HJ1.out.2.2)
                           have KP := Panes_calls hto.is
                           have HTJ := Aside0.mk hto
                           have HP9 := Aside0.mk hp9
                           clear hto hp9)
                        | (go_at_call 21
                           refine KP.mono ?_
                           clear KP
                           rintro e w10 ⟨v10, rfl, hR10, hb10⟩
                           have hR10 : Kd.R k70 70 w10 w9.heap.size (fun _ => True) v10 (sortP ps9) := hR10
                           obtain ⟨A10, c10, rfl⟩ := Kd.R_slice hR10
                           obtain ⟨u11, w11, hrun, hlx⟩ := HY.out.step HJ1.out.2.2 HTJ.out HP9.out hb10 hR10 (by
                             have h1 := HCL.out
                             have h2 := HP9.out.length_eq
                             have h3 : (fl' kind mark (P6 (j + 1))).length ≤ 37680 := by
                               rw [HW6.out]
                               refine Nat.le_trans ?_ (HLEN.out (j + 1) (by have := HJ1.out; omega))
                               unfold fl'
                               split
                               · exact Nat.le_refl _
                               · exact List.length_filter_le _ _
                             omega)
                           have HRUN := Aside0.mk hrun
                           have HLX := Aside0.mk hlx
                           clear hR10 hb10 hrun hlx)
                        | (refine bappL_ (some 198) #[.slice Au (cat (fun x => sortP (P6 (x + 1))) j).length cu, .slice A10 (sortP ps9).length c10] rfl rfl (by (try simp only [List.map_toArray, List.map_cons, List.map_nil]); first | done | rfl) rfl HRUN.out ?_)
                        | fail)
                      try rw [hwj]
                      try rw [HSum.out]
                      go_roundg (i - (j + 1))
                      case measure => have := HJ1.out; omega
                      case rel => exact ⟨j + 1, _, _, _, by rw [HS1.out], rfl, Nat.le_refl _, HJ1.out.2.2, HLX⟩
                    · have hlz : ¬ ((j : Int) < (i : Int)) := by omega
                      have hji : j = i := by omega
                      clear hkx hj hlt
                      subst hji
                      have hfo : fo kind mark (P5 0) = sumN (fun x => fo kind mark (P5 (x + 1))) j := by rw [← fo_perm HCAT.out, fo_cat]
                      have hfe : ((sumN (fun x => fo kind mark (P5 (x + 1))) j : Int) == (fo kind mark (P5 0) : Int)) = true := by rw [hfo]; simp
                      have hperm : (cat (fun x => sortP (P6 (x + 1))) j).Perm (P6 0) := by
                        refine (cat_perm j (fun x hx => (Th.sortP_perm _).trans (HY.out.done x hx))).trans ?_
                        rw [← fl_cat kind mark (fun x => P5 (x + 1)) j]
                        exact (fl_perm HCAT.out).trans HY.out.z0.symm
                      obtain ⟨G6, hG6⟩ : ∃ G6, cat (fun x => sortP (P6 (x + 1))) j = G6 := ⟨_, rfl⟩
                      have hrow := HY.out.all.row
                      rw [hG6] at hrow hperm
                      obtain ⟨T6, hT6⟩ : ∃ T6, sortP (P6 0) = T6 := ⟨_, rfl⟩
                      have HT6 := Aside0.mk hT6
                      have HGL : Aside0 (G6.length ≤ 4 * 37680 ∧ T6.length = G6.length) := ⟨by rw [← hG6]; exact HCL.out, by rw [← hT6, sortP_len, hperm.length_eq]⟩
                      have HGT : Aside0 (sortP G6 = T6) := ⟨by rw [← hT6]; exact Th.sortP_congr hperm⟩
                      have hRG := Aside0.mk (R_flat hrow)
                      rw [hG6]
                      have KS : Calls Try.prog 24 #[.slice Au G6.length cu] wy fun e w' => ∃ A c, e = .returned (.slice A T6.length c) ∧ Kd.R k70 70 w' wy.heap.size (fun _ => True) (.slice A T6.length c) T6 ∧ Below wy.heap.size wy w' := by
                        obtain ⟨ks, hks⟩ := Th.rsort_ev G6 (by have := HGL.out; omega)
                        rw [HGT.out] at hks
                        refine (leatref11_Sort.calls ks Au cu G6 T6 wy (Kd.R_reads' hRG.out).2.2 (Kd.R_reads' hRG.out).2.1 (hks ks (Nat.le_refl _))).mono ?_
                        rintro e w' ⟨v, rfl, hR, hb⟩
                        obtain ⟨A, c, rfl⟩ := Kd.R_slice hR
                        exact ⟨A, c, rfl, hR, hb⟩
                      have HBY : Aside0 (Below w.heap.size w wy) := ⟨HB3.out.trans (HY.out.ts.fam.bl.mono HB3.out.size)⟩
                      clear hfo hperm hrow hG6 hT6
                      go_wp2_with (first
                        | (go_at_call 24
                           refine KS.mono ?_
                           clear KS
                           rintro e w5' ⟨A5', c5', rfl, hR5, hb5⟩
                           have HR5' := Aside0.mk hR5
                           have HB5' := Aside0.mk hb5
                           have KP := Panes_calls ((HY.out.ts.fam.is 0 (by omega)).below hb5)
                           rw [HQ0.out] at KP
                           clear hR5 hb5)
                        | (go_at_call 21
                           refine KP.mono ?_
                           clear KP
                           rintro e w6' ⟨v6', rfl, hR6, hb6⟩
                           have hR6 : Kd.R k70 70 w6' w5'.heap.size (fun _ => True) v6' (sortP (P6 0)) := hR6
                           rw [HT6.out] at hR6
                           obtain ⟨A6'', c6'', rfl⟩ := Kd.R_slice hR6
                           have HR6' := Aside0.mk hR6
                           have HR56' := Aside0.mk (Kd.R_below HR5'.out hb6)
                           have HB6' := Aside0.mk (HB5'.out.trans (hb6.mono HB5'.out.size))
                           clear hR6 hb6)
                        | (go_at_call 25
                           obtain ⟨kp, hkp⟩ := Th.panes_ev T6 (by have := HGL.out; omega)
                           refine (leathelp_Panes.calls kp A5' c5' T6 A6'' c6'' T6 true w6' (Kd.R_reads' HR56'.out).2.2 (Kd.R_reads' HR56'.out).2.1 (Kd.R_reads' HR6'.out).2.2 (Kd.R_reads' HR6'.out).2.1 (hkp kp (Nat.le_refl _))).mono ?_
                           rintro e w7' ⟨rfl, hd7⟩
                           have HB7' := Aside0.mk (HB6'.out.trans (hd7.below.mono HB6'.out.size))
                           clear hd7 hkp)
                        | fail)
                      go_ret
                      exact ⟨rfl, HBY.out.trans (HB7'.out.mono HBY.out.size)⟩
end Go.Proofs.Ytjegeghigfmkoaa.T
namespace Go.Proofs.Ytjegeghigfmkoaa.X
open Go.RowKit Go.Proofs Go.Proofs.YtjegeghigfmkoaaW.PrintWords
set_option linter.unusedVariables false
open Classical in
noncomputable def leatlaw12_StateSplits.f (a0_0 a0_1 a0_2 a1 : Int) (l2 l3 : List S39) (a4 a5 : Int) : Option Bool := if (∀ r ∈ l2, T.I64 r.f0 ∧ T.I64 r.f2) ∧ ∀ r ∈ l3, T.I64 r.f0 ∧ T.I64 r.f2 then some true else none
theorem leatlaw12_StateSplits.calls (a0_0 a0_1 a0_2 a1 : Int) (A2 : Option Addr) (c2 : Nat) (l2 : List S39) (A3 : Option Addr) (c3 : Nat) (l3 : List S39) (a4 a5 : Int) (r : Bool) (w : World) (hr2 : Kd.C k39 w A2 l2.length l2) (hc2 : l2.length ≤ c2) (hr3 : Kd.C k39 w A3 l3.length l3) (hc3 : l3.length ≤ c3) (h : leatlaw12_StateSplits.f a0_0 a0_1 a0_2 a1 l2 l3 a4 a5 = some r) :
    Calls Try.prog 8 #[.agg #[.int .i64 a0_0, .int .i64 a0_1, .int .i64 a0_2], .int .i64 a1, .slice A2 l2.length c2, .slice A3 l3.length c3, .int .i64 a4, .int .i64 a5] w fun e w' => e = .returned (.bool r) ∧ Below w.heap.size w w' := by
  unfold leatlaw12_StateSplits.f at h
  split at h
  · rename_i hc
    cases h
    exact T.StateSplits_calls w a0_0 a0_1 a0_2 a1 A2 c2 l2 A3 c3 l3 a4 a5 ⟨fun W hb => Kd.C_below hr2 hb, hc.1⟩ hc2 ⟨fun W hb => Kd.C_below hr3 hb, hc.2⟩ hc3
  · cases h
end Go.Proofs.Ytjegeghigfmkoaa.X
