/- Walk of State.Bytes. Conditions: those typed. -/
import Derived.Test.YtjegeghigfmkoaaMStateOrder21
import Derived.Test.YtjegeghigfmkoaaMStateOrder23
import Derived.Test.YtjegeghigfmkoaaMStateOrder11
import Derived.Test.YtjegeghigfmkoaaMStateOrder18
import Derived.Test.YtjegeghigfmkoaaMStateOrder20
import Derived.Test.YtjegeghigfmkoaaMStateOrder19
namespace Go.Proofs.Ytjegeghigfmkoaa.T
open Go.RowKit Go.Maps Go.Sort Go.Proofs Go.Proofs.Ytjegeghigfmkoaa Go.Proofs.Ytjegeghigfmkoaa.X Go.Proofs.YtjegeghigfmkoaaW.PrintWords Go.Proofs.YtjegeghigfmkoaaW.PrintLast Go.Proofs.YtjegeghigfmkoaaW.PrintMore
set_option linter.unusedVariables false
set_option linter.unusedSimpArgs false
set_option maxRecDepth 100000
variable {F : Nat → Prop} {N : Nat} {w w' : World} {q b1 b2 : Nat} {tv : Value} {tm : List Int} {s : St}
theorem num_in {w0 : World} {B : Nat} {v : Value} {b : List Int} {m : Nat} (n : Int) (hm : m ≤ 8) (hb : Below w0.heap.size w0 w) (hw : w0.heap.size ≤ B) (hBw : B ≤ w.heap.size) (hR : Kd.R (Kd.int .u8) 5 w w0.heap.size (fun k => B ≤ k) v b) (hl : b.length ≤ 100000000) :
    Calls Try.prog 50 #[v, .int .u64 n, .int .i64 (m : Int)] w fun e w' => ∃ v', e = .returned v' ∧ Kd.R (Kd.int .u8) 5 w' w0.heap.size (fun k => B ≤ k) v' (b ++ numB n m) ∧ Below w0.heap.size w0 w' ∧ Kept w w' (fun k => B ≤ k) := by
  obtain ⟨k, hk⟩ := number_ev n m b hm (by omega)
  refine (state_number.calls k (fun k => B ≤ k) v b n m _ w0 w hb hR (hk k (Nat.le_refl _))).mono ?_
  rintro e w' ⟨v', rfl, h1, h2, h3⟩
  exact ⟨v', rfl, Kd.R_mono h1 (fun k hk => hk.elim id (fun h => Nat.le_trans hBw h)), h2, h3⟩
def partB (p : S70) : Nat → List Int
  | 0 => []
  | 1 => numB (IntKind.u64.wrap p.f0) 8
  | 2 => numB (IntKind.u64.wrap p.f0) 8 ++ numB (IntKind.u64.wrap p.f1.f0) 8
  | 3 => numB (IntKind.u64.wrap p.f0) 8 ++ numB (IntKind.u64.wrap p.f1.f0) 8 ++ numB (IntKind.u64.wrap p.f1.f1) 8
  | _ => paneB p
theorem idx107 (a b c d : Int) (j : Nat) (hj : j < 4) (w : World) : (Instr.index 107 (.agg #[.int .i64 a, .int .i64 b, .int .i64 c, .int .i64 d]) (.int .i64 (j : Int))).run Try.prog w = .ok (#[Value.int .i64 a, .int .i64 b, .int .i64 c, .int .i64 d][j]) w := by
  rcases j with _ | _ | _ | _ | j
  all_goals first | omega | skip
  all_goals simp [Instr.index, run_underlying Try.underlying107, asIntOf, go_sem]
structure Lb (w w1 : World) (A1 : Option Addr) (ps : List S70) (b : List Int) (wr : World) (v : Value) : Prop where
  row : Kd.R (Kd.int .u8) 5 wr w.heap.size (fun k => w1.heap.size ≤ k) v b
  pan : Kd.F k70 wr (fun k => k < w1.heap.size) A1 ps.length ps
  bl : Below w.heap.size w wr
  sz : w1.heap.size ≤ wr.heap.size
theorem Lb.alloc {w1 wr : World} {A1 : Option Addr} {ps : List S70} {b : List Int} {v : Value} (h : Lb w w1 A1 ps b wr v) (o : Obj) : Lb w w1 A1 ps b (wr.alloc o) v :=
  ⟨Kd.R_below h.row ((Below.refl _ wr).alloc (Nat.le_refl _) o), Kd.F_alloc h.pan o, h.bl.alloc h.bl.size o, by have := h.sz; simp; omega⟩
theorem Lb.num {w1 wr : World} {A1 : Option Addr} {ps : List S70} {b : List Int} {v : Value} (h : Lb w w1 A1 ps b wr v) (hw : w.heap.size ≤ w1.heap.size) (hl : b.length ≤ 100000000) (n : Int) :
    Calls Try.prog 50 #[v, .int .u64 n, .int .i64 8] wr fun e w' => ∃ v', e = .returned v' ∧ Lb w w1 A1 ps (b ++ numB n 8) w' v' := by
  refine (num_in (w0 := w) (B := w1.heap.size) (m := 8) n (by decide) h.bl hw h.sz h.row hl).mono ?_
  rintro e w2 ⟨v2, rfl, hR2, hb2, hk2⟩
  exact ⟨v2, rfl, hR2, Kd.F_kept h.pan hk2 (fun k hk hh => by have hh : w1.heap.size ≤ k := hh; have hk : k < w1.heap.size := hk; omega), hb2, Nat.le_trans h.sz hk2.1⟩
def ps0 (ps : List S70) (i : Nat) : List Int := numB (IntKind.u64.wrap (ps.length : Int)) 4 ++ panesB (ps.take i)
theorem ps0_len (ps : List S70) (i : Nat) (h : ps.length ≤ 1000000) : (ps0 ps i).length ≤ 50000000 := by
  unfold ps0
  rw [List.length_append, numB_len, panesB_len, List.length_take]
  omega
theorem ps0_next {ps : List S70} {i : Nat} (h : i < ps.length) : ps0 ps (i + 1) = ps0 ps i ++ paneB ps[i] := by
  unfold ps0
  rw [← List.take_append_getElem h, List.append_assoc]
  unfold panesB
  rw [List.flatMap_append]
  simp
theorem partB_len (p : S70) (j : Nat) : (partB p j).length ≤ 32 := by
  rcases j with _ | _ | _ | _ | j <;> simp [partB, numB_len, paneB_len]
theorem partB_next1 (b : List Int) (p : S70) : b ++ partB p 0 ++ numB (IntKind.u64.wrap p.f0) 8 = b ++ partB p 1 := by simp [partB]
theorem partB_next2 (b : List Int) (p : S70) : b ++ partB p 1 ++ numB (IntKind.u64.wrap p.f1.f0) 8 = b ++ partB p 2 := by simp [partB]
theorem partB_next3 (b : List Int) (p : S70) : b ++ partB p 2 ++ numB (IntKind.u64.wrap p.f1.f1) 8 = b ++ partB p 3 := by simp [partB]
theorem partB_next4 (b : List Int) (p : S70) : b ++ partB p 3 ++ numB (IntKind.u64.wrap p.f2) 8 = b ++ partB p 4 := by simp [partB, paneB]
set_option maxHeartbeats 4000000 in
theorem Bytes_calls (h : IsS F N w q s) : Calls Try.prog 23 #[.pointer (some ⟨q, 0, none⟩)] w fun e w' => ∃ v, e = .returned v ∧ Kd.R (Kd.int .u8) 5 w' w.heap.size (fun _ => True) v (bytesB (sortP s.ps)) ∧ Below w.heap.size w w' := by
  have HI := Aside0.mk h
  have HL := Aside0.mk (show (sortP s.ps).length ≤ 1000000 by rw [sortP_len]; exact Nat.le_trans h.len h.small)
  clear h
  generalize hps : sortP s.ps = ps at HL ⊢
  have HPS := Aside0.mk hps
  clear hps
  go_enter Try.func23, Try.ntmps23
  go_wp2_with (first
    | (go_at_call 21
       refine (Panes_calls HI.out).mono ?_
       rintro e w1 ⟨v1, rfl, hR1, hb1⟩
       rw [HPS.out] at hR1
       obtain ⟨A1, c1, rfl⟩ := Kd.R_slice hR1
       have HF1 := Aside0.mk (Kd.F_mono (Kd.R_F (Kd.R_bound hR1)) (fun k hk => hk.2.2.1))
       have HB1 := Aside0.mk hb1
       clear hR1 hb1)
    | (go_at_call 50
       refine (num_in (w0 := w) (B := w1.heap.size) (b := []) (m := 4) _ (by decide) HB1.out HB1.out.size (Nat.le_refl _) (Kd.R_nil _ _ _ _ _) (by simp)).mono ?_
       rintro e w2 ⟨v2, rfl, hR2, hb2, hk2⟩
       have HR2 := Aside0.mk hR2
       have HB2 := Aside0.mk hb2
       have SZ := Aside0.mk hk2.1
       have HF2 := Aside0.mk (Kd.F_kept HF1.out hk2 (fun k hk hh => by have hh : w1.heap.size ≤ k := hh; have hk : k < w1.heap.size := hk; omega))
       clear hR2 hb2 hk2))
  have HLB : Aside0 (Lb w w1 A1 ps (ps0 ps 0) w2 v2) := ⟨⟨by simpa [ps0, panesB] using HR2.out, HF2.out, HB2.out, SZ.out⟩⟩
  clear HR2 HF2 HB2 SZ
  go_loopg [4, 17] ps.length (fun kx s4 s17 wr => ∃ (i : Nat), s17 = .int .i64 i ∧ ps.length - i ≤ kx ∧ i ≤ ps.length ∧ Aside0 (Lb w w1 A1 ps (ps0 ps i) wr s4))
  case atStart => exact ⟨0, rfl, by omega, by omega, HLB⟩
  case round =>
    clear HLB
    obtain ⟨i, rfl, hkx, hi, HQ⟩ := hrel
    by_cases hlt : i < ps.length
    · have hlz : ((i : Int) < (ps.length : Int)) := by omega
      have hiz : (0 : Int) ≤ (i : Int) := by omega
      obtain ⟨ad, rfl, x0, x1, x2, x3⟩ := at_T70 (Kd.F_now HQ.out.pan) (i : Int) hiz hlz
      obtain ⟨z, hz⟩ : ∃ z : S70, ps[i] = z := ⟨_, rfl⟩
      have hgd : rd_T70 ps (i : Int) = z := by rw [← hz]; simp [rd_T70, hlt]
      rw [hgd] at x0 x1 x2 x3
      have hin : ((i : Int)).toNat = i := by omega
      rw [hin] at x0 x1 x2 x3
      have HZ : Aside0 (ps0 ps (i + 1) = ps0 ps i ++ partB z 4) := ⟨by rw [ps0_next hlt, hz]; rfl⟩
      have hwi : wrap64 ((i : Int) + 1) = ((i + 1 : Nat) : Int) := by have := HL.out; unfold wrap64; omega
      have HI1 := Aside0.mk (And.intro hkx (And.intro hi hlt))
      clear hkx hi hz hgd hin hlt
      go_wp2_with fail
      have HX0 : Aside0 (Lb w w1 (some ad) ps (ps0 ps i ++ partB z 0) (wr.alloc (.cells #[.int .i64 z.f0, .int .i64 z.f1.f0, .int .i64 z.f1.f1, .int .i64 z.f2] 70)) _) := ⟨by simpa [partB] using HQ.out.alloc (.cells #[.int .i64 z.f0, .int .i64 z.f1.f0, .int .i64 z.f1.f1, .int .i64 z.f2] 70)⟩
      generalize (wr.alloc (.cells #[.int .i64 z.f0, .int .i64 z.f1.f0, .int .i64 z.f1.f1, .int .i64 z.f2] 70)) = w4 at HX0 ⊢
      clear x0 x1 x2 x3 HQ
      go_loopg [4, 32] 4 (fun ky s4 s32 wr => ∃ (j : Nat), ((j = 0 ∧ s32 = .int .i64 0) ∨ (j = 1 ∧ s32 = .int .i64 1) ∨ (j = 2 ∧ s32 = .int .i64 2) ∨ (j = 3 ∧ s32 = .int .i64 3) ∨ (j = 4 ∧ s32 = .int .i64 4)) ∧ 4 - j ≤ ky ∧ Aside0 (Lb w w1 (some ad) ps (ps0 ps i ++ partB z j) wr s4))
      case atStart => exact ⟨0, Or.inl ⟨rfl, rfl⟩, by decide, HX0⟩
      case round =>
        clear HX0
        obtain ⟨j, hj, hky, HX⟩ := hrel
        rcases hj with ⟨rfl, rfl⟩ | ⟨rfl, rfl⟩ | ⟨rfl, rfl⟩ | ⟨rfl, rfl⟩ | ⟨rfl, rfl⟩
        · have ij : ∀ W, (Instr.index 107 (aggP z) (.int .i64 0)).run Try.prog W = .ok (.int .i64 z.f0) W := fun W => idx107 _ _ _ _ 0 (by decide) W
          go_wp2_with (go_at_call 50; refine (HX.out.num HB1.out.size (by have h1 := ps0_len ps i HL.out; have h2 := partB_len z 0; rw [List.length_append]; omega) _).mono ?_; rintro e w5 ⟨v5, rfl, hx⟩; rw [partB_next1] at hx; have HX5 := Aside0.mk hx; clear hx)
          go_roundg (4 - 1)
          case measure => omega
          case rel => exact ⟨1, Or.inr (Or.inl ⟨rfl, rfl⟩), Nat.le_refl _, HX5⟩
        · have ij : ∀ W, (Instr.index 107 (aggP z) (.int .i64 1)).run Try.prog W = .ok (.int .i64 z.f1.f0) W := fun W => idx107 _ _ _ _ 1 (by decide) W
          go_wp2_with (go_at_call 50; refine (HX.out.num HB1.out.size (by have h1 := ps0_len ps i HL.out; have h2 := partB_len z 1; rw [List.length_append]; omega) _).mono ?_; rintro e w5 ⟨v5, rfl, hx⟩; rw [partB_next2] at hx; have HX5 := Aside0.mk hx; clear hx)
          go_roundg (4 - 2)
          case measure => omega
          case rel => exact ⟨2, Or.inr (Or.inr (Or.inl ⟨rfl, rfl⟩)), Nat.le_refl _, HX5⟩
        · have ij : ∀ W, (Instr.index 107 (aggP z) (.int .i64 2)).run Try.prog W = .ok (.int .i64 z.f1.f1) W := fun W => idx107 _ _ _ _ 2 (by decide) W
          go_wp2_with (go_at_call 50; refine (HX.out.num HB1.out.size (by have h1 := ps0_len ps i HL.out; have h2 := partB_len z 2; rw [List.length_append]; omega) _).mono ?_; rintro e w5 ⟨v5, rfl, hx⟩; rw [partB_next3] at hx; have HX5 := Aside0.mk hx; clear hx)
          go_roundg (4 - 3)
          case measure => omega
          case rel => exact ⟨3, Or.inr (Or.inr (Or.inr (Or.inl ⟨rfl, rfl⟩))), Nat.le_refl _, HX5⟩
        · have ij : ∀ W, (Instr.index 107 (aggP z) (.int .i64 3)).run Try.prog W = .ok (.int .i64 z.f2) W := fun W => idx107 _ _ _ _ 3 (by decide) W
          go_wp2_with (go_at_call 50; refine (HX.out.num HB1.out.size (by have h1 := ps0_len ps i HL.out; have h2 := partB_len z 3; rw [List.length_append]; omega) _).mono ?_; rintro e w5 ⟨v5, rfl, hx⟩; rw [partB_next4] at hx; have HX5 := Aside0.mk hx; clear hx)
          go_roundg (4 - 4)
          case measure => omega
          case rel => exact ⟨4, Or.inr (Or.inr (Or.inr (Or.inr (⟨rfl, rfl⟩)))), Nat.le_refl _, HX5⟩
        · go_wp2
          rw [hwi]
          go_roundg (ps.length - (i + 1))
          case measure => have := HI1.out; omega
          case rel => exact ⟨i + 1, rfl, Nat.le_refl _, HI1.out.2.2, ⟨by rw [HZ.out]; exact HX.out⟩⟩
    · have hlz : ¬ ((i : Int) < (ps.length : Int)) := by omega
      have HI1 := Aside0.mk (show i = ps.length from by omega)
      clear hlt hkx hi
      go_wp2
      go_ret
      have hR := HQ.out.row
      rw [HI1.out, ps0, List.take_length] at hR
      exact ⟨_, rfl, Kd.R_mono hR (fun _ _ => trivial), HQ.out.bl⟩
end Go.Proofs.Ytjegeghigfmkoaa.T
namespace Go.Proofs.Ytjegeghigfmkoaa.T
open Go.RowKit Go.Maps Go.Sort Go.Proofs Go.Proofs.Ytjegeghigfmkoaa Go.Proofs.Ytjegeghigfmkoaa.X Go.Proofs.YtjegeghigfmkoaaW.PrintWords Go.Proofs.YtjegeghigfmkoaaW.PrintLast Go.Proofs.YtjegeghigfmkoaaW.PrintMore
set_option linter.unusedVariables false
set_option linter.unusedSimpArgs false
set_option maxRecDepth 100000
variable {F : Nat → Prop} {N : Nat} {w w' : World} {q b1 b2 : Nat} {tv : Value} {tm : List Int} {s : St}
noncomputable def readB (b : List Int) : List S70 := parseN ((b.length - 4) / 32) (b.drop 4)
noncomputable def openL (kind a : Int) (b : List Int) : List S70 := loadL a (loadOf kind a (readB b))
def FormB (b : List Int) : Prop := 4 ≤ b.length ∧ b.length % 32 = 4
def OpenOk (kind a : Int) (b : List Int) : Prop := FormB b ∧ bytesB (sortP (openL kind a b)) = b
theorem mod32 {n : Nat} : Int.tmod (n : Int) 32 = ((n % 32 : Nat) : Int) := by
  rw [Int.tmod_eq_emod_of_nonneg (by omega)]
  rfl
theorem cut_run (A : Option Addr) (n c lo : Nat) (h : lo ≤ n) (hc : n ≤ c) (W : World) : (Instr.slice 58 (.slice A n c) (some (.int .i64 (lo : Int))) none none).run Try.prog W = .ok (.slice (if c = lo then A else A.map (·.add (lo * (Kd.int .u8).sz))) (n - lo) (c - lo)) W := by
  have e : (Kd.int .u8).sz = 1 := rfl
  rw [e, Nat.mul_one]
  by_cases h0 : c = lo
  · subst h0
    simp [Instr.slice, run_underlying Try.underlying58, Instr.sliceBounds, go_sem]
    intro; omega
  · simp [Instr.slice, run_underlying Try.underlying58, Instr.sliceBounds, go_sem]
    intro; omega
theorem mid_run (A : Option Addr) (n c lo hi : Nat) (h : lo ≤ hi) (hh : hi ≤ n) (hc : n ≤ c) (W : World) : (Instr.slice 58 (.slice A n c) (some (.int .i64 (lo : Int))) (some (.int .i64 (hi : Int))) none).run Try.prog W = .ok (.slice (if c = lo then A else A.map (·.add (lo * (Kd.int .u8).sz))) (hi - lo) (c - lo)) W := by
  have e : (Kd.int .u8).sz = 1 := rfl
  rw [e, Nat.mul_one]
  have h3 : hi ≤ c := by omega
  by_cases h0 : c = lo
  · subst h0
    simp [Instr.slice, run_underlying Try.underlying58, Instr.sliceBounds, go_sem, h, h3]
    try (intro; omega)
  · simp [Instr.slice, run_underlying Try.underlying58, Instr.sliceBounds, go_sem, h, h3]
    try (intro; omega)
theorem to_run (A : Option Addr) (n c hi : Nat) (hh : hi ≤ n) (hc : n ≤ c) (W : World) : (Instr.slice 58 (.slice A n c) none (some (.int .i64 (hi : Int))) none).run Try.prog W = .ok (.slice A hi c) W := by
  have h3 : hi ≤ c := by omega
  simp [Instr.slice, run_underlying Try.underlying58, Instr.sliceBounds, go_sem, h3]
def Byt (w : World) (A : Option Addr) (l : List Int) : Prop := ∀ W, Below w.heap.size w W → Kd.C (Kd.int .u8) W A l.length l
theorem Byt.taken {A : Option Addr} {l : List Int} (h : Byt w A l) (c : Nat) (hc : l.length ≤ c) (hl : l.length ≤ 1000) (W : World) (hb : Below w.heap.size w W) : Calls Try.prog 48 #[.slice A l.length c] W fun e w' => e = .returned (.int .i64 (takenP l)) ∧ Drawn0 W w' := by
  obtain ⟨k, hk⟩ := taken_ev l (by omega)
  exact state_taken.calls k A c l _ W (h W hb) hc (hk k (Nat.le_refl _))
structure Cut (w : World) (v : Value) (l : List Int) : Prop where
  p0 : ∃ A c, (∀ W, (Instr.slice 58 v none (some (.int .i64 8)) none).run Try.prog W = .ok (.slice A 8 c) W) ∧ ∀ W, Below w.heap.size w W → Calls Try.prog 48 #[.slice A 8 c] W fun e w' => e = .returned (.int .i64 (takenP (l.take 8))) ∧ Drawn0 W w'
  p1 : ∃ A c, (∀ W, (Instr.slice 58 v (some (.int .i64 8)) (some (.int .i64 16)) none).run Try.prog W = .ok (.slice A 8 c) W) ∧ ∀ W, Below w.heap.size w W → Calls Try.prog 48 #[.slice A 8 c] W fun e w' => e = .returned (.int .i64 (takenP ((l.take 16).drop 8))) ∧ Drawn0 W w'
  p2 : ∃ A c, (∀ W, (Instr.slice 58 v (some (.int .i64 16)) (some (.int .i64 24)) none).run Try.prog W = .ok (.slice A 8 c) W) ∧ ∀ W, Below w.heap.size w W → Calls Try.prog 48 #[.slice A 8 c] W fun e w' => e = .returned (.int .i64 (takenP ((l.take 24).drop 16))) ∧ Drawn0 W w'
  p3 : ∃ A c, (∀ W, (Instr.slice 58 v (some (.int .i64 24)) (some (.int .i64 32)) none).run Try.prog W = .ok (.slice A 8 c) W) ∧ ∀ W, Below w.heap.size w W → Calls Try.prog 48 #[.slice A 8 c] W fun e w' => e = .returned (.int .i64 (takenP ((l.take 32).drop 24))) ∧ Drawn0 W w'
theorem cut_mid {A : Option Addr} {c : Nat} {l : List Int} (h : Byt w A l) (hc : l.length ≤ c) (lo hi : Nat) (h1 : hi = lo + 8) (h2 : hi ≤ l.length) : ∃ A' c', (∀ W, (Instr.slice 58 (.slice A l.length c) (some (.int .i64 (lo : Int))) (some (.int .i64 (hi : Int))) none).run Try.prog W = .ok (.slice A' 8 c') W) ∧ ∀ W, Below w.heap.size w W → Calls Try.prog 48 #[.slice A' 8 c'] W fun e w' => e = .returned (.int .i64 (takenP ((l.take hi).drop lo))) ∧ Drawn0 W w' := by
  have e8 : hi - lo = 8 := by omega
  have hl : ((l.take hi).drop lo).length = 8 := by rw [List.length_drop, List.length_take]; omega
  refine ⟨_, _, fun W => (mid_run A l.length c lo hi (by omega) h2 hc W).trans (by rw [e8]), fun W hb => ?_⟩
  have hB : Byt w (if c = lo then A else A.map (·.add (lo * (Kd.int .u8).sz))) ((l.take hi).drop lo) := fun W hb => Kd.C_mid (h W hb) (by omega) h2 hc
  have := hB.taken (c - lo) (by omega) (by omega) W hb
  rw [hl] at this
  exact this
theorem cut_of {A : Option Addr} {c : Nat} {l : List Int} (h : Byt w A l) (hc : l.length ≤ c) (h32 : 32 ≤ l.length) : Cut w (.slice A l.length c) l := by
  refine ⟨?_, cut_mid h hc 8 16 rfl (by omega), cut_mid h hc 16 24 rfl (by omega), cut_mid h hc 24 32 rfl (by omega)⟩
  refine ⟨A, c, fun W => to_run A l.length c 8 (by omega) hc W, fun W hb => ?_⟩
  have hl : (l.take 8).length = 8 := by rw [List.length_take]; omega
  have hB : Byt w A (l.take 8) := fun W hb => Kd.C_take (h W hb) (by omega)
  have := hB.taken c (by omega) (by omega) W hb
  rw [hl] at this
  exact this
theorem cut_rest {A : Option Addr} {c : Nat} {l : List Int} (h : Byt w A l) (hc : l.length ≤ c) (lo : Nat) (hlo : lo ≤ l.length) : ∃ A' c', (∀ W, (Instr.slice 58 (.slice A l.length c) (some (.int .i64 (lo : Int))) none none).run Try.prog W = .ok (.slice A' (l.drop lo).length c') W) ∧ Byt w A' (l.drop lo) ∧ (l.drop lo).length ≤ c' :=
  ⟨_, c - lo, fun W => (cut_run A l.length c lo hlo hc W).trans (by rw [List.length_drop]), fun W hb => Kd.C_drop (h W hb) hlo hc, by rw [List.length_drop]; omega⟩
theorem parseN_snoc : ∀ (n : Nat) (l : List Int), parseN (n + 1) l = parseN n l ++ [paneOf (l.drop (32 * n))]
  | 0, l => rfl
  | n + 1, l => by
    rw [parseN, parseN_snoc n (l.drop 32), parseN, List.drop_drop]
    rw [show 32 + 32 * n = 32 * (n + 1) from by omega]
    rfl
theorem app70 {w : World} {base : Nat} {v : Value} {ps : List S70} (ho : w.ownsRow base 70 4 v ps.length (flatP ps)) (hb : base ≤ w.heap.size) (p : S70) (B : Nat) (hB : w.heap[B]? = some (.cells #[.int .i64 p.f0, .int .i64 p.f1.f0, .int .i64 p.f1.f1, .int .i64 p.f2] 70 (0, 0))) (hn : ps.length ≤ 2000000) (ty : TypeId) :
    ∃ v' w', (Builtin.append_ #[44, 44] ty #[v, .slice (some ⟨B, 0, none⟩) 1 1]).run Try.prog w = .ok v' w' ∧ w'.ownsRow base 70 4 v' (ps.length + 1) (flatP (ps ++ [p])) ∧ w.grownBy w' v.ownBlock := by
  obtain ⟨i0, hi, hz0, hz1, hz2⟩ := info_parts info70
  have hadd : ∀ j, ((⟨B, 0, none⟩ : Addr).add j) = ⟨B, j, none⟩ := fun j => by unfold Addr.add; split <;> simp_all
  obtain ⟨v', w', g1, g2, g3, _⟩ := run_append_own (P := Try.prog) w base 44 ty 70 i0 _ 4 _ Try.underlying44 hi hz0 hz1 hz2 rfl (by decide) v ps.length (flatP ps) ho ⟨B, 0, none⟩ 1 1 [.int .i64 p.f0, .int .i64 p.f1.f0, .int .i64 p.f1.f1, .int .i64 p.f2] rfl (fun j u hj => by
    rw [hadd]
    exact (blk_cell hB j).trans (by simpa using hj)) (by simp [Value.oneCell']) (by unfold maxLen; omega) (by omega) hb
  exact ⟨v', w', g1, by rw [flatP_snoc]; exact g2, g3⟩
theorem uint8_inj {x y : Int} (hx : 0 ≤ x ∧ x < 256) (hy : 0 ≤ y ∧ y < 256) (h : UInt8.ofNat x.toNat = UInt8.ofNat y.toNat) : x = y := by
  have h := congrArg UInt8.toNat h
  simp at h
  omega
def In8 (l : List Int) : Prop := ∀ x ∈ l, 0 ≤ x ∧ x < 256
theorem strOf_inj : ∀ {l m : List Int}, In8 l → In8 m → (l.map fun n => UInt8.ofNat n.toNat) = (m.map fun n => UInt8.ofNat n.toNat) → l = m
  | [], [], _, _, _ => rfl
  | [], _ :: _, _, _, h => by simp at h
  | _ :: _, [], _, _, h => by simp at h
  | x :: l, y :: m, hl, hm, h => by
    simp only [List.map_cons, List.cons.injEq] at h
    rw [uint8_inj (hl x (List.mem_cons_self ..)) (hm y (List.mem_cons_self ..)) h.1, strOf_inj (fun z hz => hl z (List.mem_cons_of_mem _ hz)) (fun z hz => hm z (List.mem_cons_of_mem _ hz)) h.2]
theorem equal_f {l m : List Int} (hl : In8 l) (hm : In8 m) : bytes_Equal.f l m = some (decide (l = m)) := by
  unfold bytes_Equal.f
  rw [ByteArray.toList_eq, ByteArray.toList_eq, strOfNums_data, strOfNums_data]
  by_cases h : l = m
  · subst h
    simp
  · rw [decide_eq_false h]
    have : ¬ (l.map fun n => UInt8.ofNat n.toNat) = (m.map fun n => UInt8.ofNat n.toNat) := fun h2 => h (strOf_inj hl hm h2)
    simpa using this
theorem numB_8 (n : Int) : ∀ s, In8 (numB n s)
  | 0 => fun x hx => by cases hx
  | s + 1 => fun x hx => by
    rcases List.mem_cons.1 hx with rfl | hx
    · omega
    · exact numB_8 n s x hx
theorem in8_app {l m : List Int} (hl : In8 l) (hm : In8 m) : In8 (l ++ m) := fun x hx => (List.mem_append.1 hx).elim (hl x) (hm x)
theorem bytesB_8 (l : List S70) : In8 (bytesB l) := by
  refine in8_app (numB_8 _ _) (fun x hx => ?_)
  obtain ⟨p, _, hp⟩ := List.mem_flatMap.1 hx
  exact in8_app (numB_8 _ _) (in8_app (numB_8 _ _) (in8_app (numB_8 _ _) (numB_8 _ _))) x hp
theorem dec2 {P : Prop} [Decidable P] : (decide P = true ∧ Aside0 P) ∨ (decide P = false ∧ Aside0 (¬ P)) := by
  by_cases h : P
  · exact Or.inl ⟨decide_eq_true h, ⟨h⟩⟩
  · exact Or.inr ⟨decide_eq_false h, ⟨h⟩⟩
theorem open_below {wr w10 w11 w12 w13 : World} {N' : Nat} (h0 : Below w.heap.size w wr) (h1 : Below wr.heap.size wr w10) (h2 : To (fun k => wr.heap.size ≤ k ∧ k < w10.heap.size) w10 w11 N' q s) (h3 : Below w11.heap.size w11 w12) (h4 : Below w12.heap.size w12 w13) : Below w.heap.size w w13 := by
  have hto : Below wr.heap.size w10 w11 := h2.fr.toBelow (B := wr.heap.size) h1.size (fun k _ hk => hk.1)
  have h5 := (h1.trans hto).trans (h3.mono (Nat.le_trans h1.size h2.fr.size))
  exact (h0.trans (h5.mono h0.size)).trans (h4.mono (Nat.le_trans h0.size h5.size))
theorem open_end {wr w10 w11 w12 w13 : World} {N' : Nat} {kind size slide a : Int} {b : List Int} (h0 : Below w.heap.size w wr) (h1 : Below wr.heap.size wr w10) (h2 : To (fun k => wr.heap.size ≤ k ∧ k < w10.heap.size) w10 w11 N' q ⟨kind, size, slide, a, openL kind a b⟩) (h3 : Below w11.heap.size w11 w12) (h4 : Below w12.heap.size w12 w13) (hok : OpenOk kind a b) (hN : N' ≤ b.length) :
    Below w.heap.size w w13 ∧ ((¬ OpenOk kind a b ∧ Ending.returned (.tuple #[.pointer (some ⟨q, 0, none⟩), .int .i64 0]) = .returned (.tuple #[.pointer none, .int .i64 120])) ∨ (OpenOk kind a b ∧ ∃ q' N', Ending.returned (.tuple #[.pointer (some ⟨q, 0, none⟩), .int .i64 0]) = .returned (.tuple #[.pointer (some ⟨q', 0, none⟩), .int .i64 0]) ∧ N' ≤ b.length ∧ IsS (fun k => w.heap.size ≤ k ∧ k < w13.heap.size) N' w13 q' ⟨kind, size, slide, a, openL kind a b⟩)) := by
  have s0 := h0.size
  have s1 := h1.size
  have s2 := h2.fr.size
  have s3 := h3.size
  have s4 := h4.size
  refine ⟨open_below h0 h1 h2 h3 h4, Or.inr ⟨hok, q, N', rfl, hN, ((h2.is.below h3).below h4).mono (fun k hk => ?_) (fun k hk => hk.2) (Nat.le_refl _) h2.is.small⟩⟩
  rcases hk with hk | hk
  · omega
  · omega
structure Lo (w w1 : World) (l0 : List Int) (Ar : Option Addr) (cr : Nat) (ps : List S70) (i : Nat) (wr : World) (v : Value) : Prop where
  row : wr.ownsRow w1.heap.size 70 4 v ps.length (flatP ps)
  bl : Below w1.heap.size w1 wr
  byt : Byt w Ar (l0.drop (32 * i))
  cap : (l0.drop (32 * i)).length ≤ cr
def Top.T7 : Bool × List (List Nat × List Nat) := (true, [([], []), ([], []), ([1], [1]), ([2], [2]), ([], []), ([4], [4]), ([5, 3], [5]), ([], []), ([7], [7]), ([8, 6], [8]), ([6, 9], [6, 9]), ([], []), ([11], [11]), ([12, 9], [12]), ([3, 10, 13], [3, 10, 13]), ([14], [14]), ([0, 15, 13], [0, 15]), ([16, 16, 0, 1, 2, 3, 4, 5, 6, 7, 8, 9, 10, 11, 12, 13, 14, 15, 16], [0, 16])])
def Top.B7 : List Nat := [0, 0, 2, 6, 0, 16, 62, 0, 128, 510, 1022, 0, 2048, 7166, 16382, 32766, 65535, 131071]
theorem Top.tab7 : rtab .any (opsOf Try.f22 7) = Top.T7 := by kernel_rfl
theorem Top.bits7 : waitsOk Top.T7.2 Top.B7 = true := by kernel_rfl
set_option maxHeartbeats 4000000 in
theorem Open_calls (w : World) (kind size slide a : Int) (A : Option Addr) (c : Nat) (b : List Int) (hC : Kd.C (Kd.int .u8) w A b.length b) (hc : b.length ≤ c) (hl : b.length ≤ 10000000) (h8 : In8 b) :
    Calls Try.prog 22 #[aggW kind size slide, .int .i64 a, .slice A b.length c] w fun e w' => Below w.heap.size w w' ∧ ((¬ OpenOk kind a b ∧ e = .returned (.tuple #[.pointer none, .int .i64 120])) ∨ (OpenOk kind a b ∧ ∃ q N', e = .returned (.tuple #[.pointer (some ⟨q, 0, none⟩), .int .i64 0]) ∧ N' ≤ b.length ∧ IsS (fun k => w.heap.size ≤ k ∧ k < w'.heap.size) N' w' q ⟨kind, size, slide, a, openL kind a b⟩)) := by
  have HC0 := Aside0.mk hC
  have HL := Aside0.mk hl
  have HC := Aside0.mk hc
  have H8 := Aside0.mk h8
  clear hC hl hc h8
  by_cases hf : FormB b
  · obtain ⟨n, hn⟩ : ∃ n, b.length = 4 + 32 * n := ⟨b.length / 32, by unfold FormB at hf; omega⟩
    have hN := Aside0.mk hn
    have hF := Aside0.mk hf
    have g1 : decide ((b.length : Int) < 4) = false := decide_eq_false (by omega)
    have g2 : Int.tmod (b.length : Int) 32 = 4 := by rw [mod32]; omega
    have g3 : ¬ ((b.length : Int) < 4) := by omega
    clear hf hn
    obtain ⟨A9, c9, hcut, hB9, hc9⟩ := cut_rest (w := w) (fun W hb => Kd.C_below HC0.out hb) HC.out 4 (by omega)
    obtain ⟨l0, hl0⟩ : ∃ l, b.drop 4 = l := ⟨_, rfl⟩
    have HL0 := Aside0.mk hl0
    rw [hl0] at hcut hB9 hc9
    have hn0 : l0.length = 32 * n := by rw [← hl0, List.length_drop]; have := hN.out; omega
    rw [hn0] at hcut
    have HN0 := Aside0.mk hn0
    have HB9 := Aside0.mk hB9
    have HC9 := Aside0.mk hc9
    have HNL : Aside0 (n ≤ 1000000) := ⟨by have := HL.out; have := hN.out; omega⟩
    have hcut : ∀ W, (Instr.slice 58 (.slice A b.length c) (some (.int .i64 4)) none none).run Try.prog W = .ok (.slice A9 (32 * n) c9) W := hcut
    clear hl0 hn0 hB9 hc9
    go_enter Try.func22, Try.ntmps22
    go_wp2_with fail
    have HW1 := Aside0.mk (heap_alloc_new w (.cells #[.int .i64 kind, .int .i64 size, .int .i64 slide] 23))
    have HBW := Aside0.mk ((Below.refl w.heap.size w).alloc (Nat.le_refl _) (.cells #[.int .i64 kind, .int .i64 size, .int .i64 slide] 23))
    generalize (w.alloc (.cells #[.int .i64 kind, .int .i64 size, .int .i64 slide] 23)) = w1 at HW1 HBW ⊢
    have HLO : Aside0 (Lo w w1 l0 A9 c9 [] 0 w1 (.slice none 0 0)) := ⟨⟨World.ownsRow_nil _ _ _ _, Below.refl _ _, by simpa using HB9.out, by simpa using HC9.out⟩⟩
    clear HB9 HC9 g1 g2 g3 hcut
    go_loopg [8, 9] n (fun kx s8 s9 wr => ∃ (i : Nat) (Ar : Option Addr) (cr : Nat), s9 = .slice Ar (32 * (n - i)) cr ∧ n - i ≤ kx ∧ i ≤ n ∧ Aside0 (Lo w w1 l0 Ar cr (parseN i l0) i wr s8))
    case atStart => exact ⟨0, A9, c9, rfl, by omega, by omega, HLO⟩
    case round =>
      clear HLO
      obtain ⟨i, Ar, cr, rfl, hkx, hi, HQ⟩ := hrel
      by_cases hlt : i < n
      · have hlz : (((32 * (n - i) : Nat)) : Int) > 0 := by omega
        have hrl : (l0.drop (32 * i)).length = 32 * (n - i) := by rw [List.length_drop, HN0.out]; omega
        have hcut := cut_of HQ.out.byt HQ.out.cap (by rw [hrl]; omega)
        rw [hrl] at hcut
        obtain ⟨B0, d0, r0, K0⟩ := hcut.p0
        obtain ⟨B1, d1, r1, K1⟩ := hcut.p1
        obtain ⟨B2, d2, r2, K2⟩ := hcut.p2
        obtain ⟨B3, d3, r3, K3⟩ := hcut.p3
        obtain ⟨z, hz⟩ : ∃ z, paneOf (l0.drop (32 * i)) = z := ⟨_, rfl⟩
        have hz0 : takenP ((l0.drop (32 * i)).take 8) = z.f0 := by rw [← hz]; rfl
        have hz1 : takenP (((l0.drop (32 * i)).take 16).drop 8) = z.f1.f0 := by rw [← hz]; rfl
        have hz2 : takenP (((l0.drop (32 * i)).take 24).drop 16) = z.f1.f1 := by rw [← hz]; rfl
        have hz3 : takenP (((l0.drop (32 * i)).take 32).drop 24) = z.f2 := by rw [← hz]; rfl
        rw [hz0] at K0
        rw [hz1] at K1
        rw [hz2] at K2
        rw [hz3] at K3
        obtain ⟨A10, c10, hrest, hB10, hc10⟩ := cut_rest HQ.out.byt HQ.out.cap 32 (by rw [hrl]; omega)
        rw [hrl, List.drop_drop, show 32 * i + 32 = 32 * (i + 1) from by omega] at hrest
        rw [List.drop_drop, show 32 * i + 32 = 32 * (i + 1) from by omega] at hB10 hc10
        rw [show (l0.drop (32 * (i + 1))).length = 32 * (n - (i + 1)) from by rw [List.length_drop, HN0.out]; omega] at hrest
        have hrest : ∀ W, (Instr.slice 58 (.slice Ar (32 * (n - i)) cr) (some (.int .i64 32)) none none).run Try.prog W = .ok (.slice A10 (32 * (n - (i + 1))) c10) W := hrest
        have HP : Aside0 (parseN (i + 1) l0 = parseN i l0 ++ [z]) := ⟨by rw [parseN_snoc, hz]⟩
        have HB10 := Aside0.mk hB10
        have HC10 := Aside0.mk hc10
        have K0 := Aside0.mk K0
        have K1 := Aside0.mk K1
        have K2 := Aside0.mk K2
        have K3 := Aside0.mk K3
        have HI1 := Aside0.mk (And.intro hkx (And.intro hi hlt))
        clear hkx hi hlt hz hz0 hz1 hz2 hz3 hrl hcut hB10 hc10
        go_wp2_with fail
        refine start_ (n := 18) (S := fun w' => True) (ds := []) #[false, false, false, false, false, false, false, false, false, false, false, false, false, false, false, false, false, false] (by kernel_rfl) rfl rfl trivial (fun hHeld => ?_); refine with_tabW Top.tab7 Top.bits7 (fun HT_ HW_ => ?_)
        have HBd := Aside0.mk (HQ.out.bl.drew)
        have HOd := Aside0.mk (pw_own_below HQ.out.row (below_drew (Below.refl wr.heap.size wr)))
        generalize World.drew wr = w3 at HBd HOd hHeld ⊢
        refine pure_ (i := 0) (N := some 27) (v := ?_) (a' := ?_) #[true, false, false, false, false, false, false, false, false, false, false, false, false, false, false, false, false, false] rfl rfl (any_of HT_.out (by kernel_rfl)) (fun _ _ _ h => h) (Or.inl ⟨by rfl, ?_⟩) ?_ ?_
        rotate_left
        · intro w'
          go_simp
          with_reducible rfl
        rotate_left
        · simp only [Act.put, List.setIfInBounds_toArray, List.set_cons_zero, List.set_cons_succ, i64_w, i32_w]
          rfl
        refine pure_ (i := 1) (N := some 28) (v := ?_) (a' := ?_) #[true, true, false, false, false, false, false, false, false, false, false, false, false, false, false, false, false, false] rfl rfl (any_of HT_.out (by kernel_rfl)) (fun _ _ _ h => h) (Or.inl ⟨by rfl, ?_⟩) ?_ ?_
        rotate_left
        · intro w'
          go_simp
          with_reducible rfl
        rotate_left
        · simp only [Act.put, List.setIfInBounds_toArray, List.set_cons_zero, List.set_cons_succ, i64_w, i32_w]
          rfl
        refine pure_ (i := 2) (N := some 29) (v := ?_) (a' := ?_) #[true, true, true, false, false, false, false, false, false, false, false, false, false, false, false, false, false, false] rfl rfl (any_of HT_.out (by kernel_rfl)) (fun _ _ _ h => h) (Or.inl ⟨by rfl, ?_⟩) ?_ ?_
        rotate_left
        · intro w'
          go_simp
          with_reducible rfl
        rotate_left
        · simp only [Act.put, List.setIfInBounds_toArray, List.set_cons_zero, List.set_cons_succ, i64_w, i32_w]
          rfl
        refine pure_ (i := 4) (N := some 31) (v := ?_) (a' := ?_) #[true, true, true, false, true, false, false, false, false, false, false, false, false, false, false, false, false, false] rfl rfl (any_of HT_.out (by kernel_rfl)) (fun _ _ _ h => h) (Or.inl ⟨by rfl, ?_⟩) ?_ ?_
        rotate_left
        · intro w'
          go_simp
          with_reducible rfl
        rotate_left
        · simp only [Act.put, List.setIfInBounds_toArray, List.set_cons_zero, List.set_cons_succ, i64_w, i32_w]
          rfl
        refine pure_ (i := 5) (N := some 32) (v := ?_) (a' := ?_) #[true, true, true, false, true, true, false, false, false, false, false, false, false, false, false, false, false, false] rfl rfl (any_of HT_.out (by kernel_rfl)) (fun _ _ _ h => h) (Or.inl ⟨by rfl, ?_⟩) ?_ ?_
        rotate_left
        · intro w'
          go_simp
          with_reducible rfl
        rotate_left
        · simp only [Act.put, List.setIfInBounds_toArray, List.set_cons_zero, List.set_cons_succ, i64_w, i32_w]
          rfl
        refine pure_ (i := 7) (N := some 34) (v := ?_) (a' := ?_) #[true, true, true, false, true, true, false, true, false, false, false, false, false, false, false, false, false, false] rfl rfl (any_of HT_.out (by kernel_rfl)) (fun _ _ _ h => h) (Or.inl ⟨by rfl, ?_⟩) ?_ ?_
        rotate_left
        · intro w'
          go_simp
          with_reducible rfl
        rotate_left
        · simp only [Act.put, List.setIfInBounds_toArray, List.set_cons_zero, List.set_cons_succ, i64_w, i32_w]
          rfl
        refine pure_ (i := 8) (N := some 35) (v := ?_) (a' := ?_) #[true, true, true, false, true, true, false, true, true, false, false, false, false, false, false, false, false, false] rfl rfl (any_of HT_.out (by kernel_rfl)) (fun _ _ _ h => h) (Or.inl ⟨by rfl, ?_⟩) ?_ ?_
        rotate_left
        · intro w'
          go_simp
          with_reducible rfl
        rotate_left
        · simp only [Act.put, List.setIfInBounds_toArray, List.set_cons_zero, List.set_cons_succ, i64_w, i32_w]
          rfl
        refine pure_ (i := 11) (N := some 38) (v := ?_) (a' := ?_) #[true, true, true, false, true, true, false, true, true, false, false, true, false, false, false, false, false, false] rfl rfl (any_of HT_.out (by kernel_rfl)) (fun _ _ _ h => h) (Or.inl ⟨by rfl, ?_⟩) ?_ ?_
        rotate_left
        · intro w'
          go_simp
          with_reducible rfl
        rotate_left
        · simp only [Act.put, List.setIfInBounds_toArray, List.set_cons_zero, List.set_cons_succ, i64_w, i32_w]
          rfl
        refine pure_ (i := 12) (N := some 39) (v := ?_) (a' := ?_) #[true, true, true, false, true, true, false, true, true, false, false, true, true, false, false, false, false, false] rfl rfl (any_of HT_.out (by kernel_rfl)) (fun _ _ _ h => h) (Or.inl ⟨by rfl, ?_⟩) ?_ ?_
        rotate_left
        · intro w'
          go_simp
          with_reducible rfl
        rotate_left
        · simp only [Act.put, List.setIfInBounds_toArray, List.set_cons_zero, List.set_cons_succ, i64_w, i32_w]
          rfl
        clear r0 r1 r2 r3
        refine one_ (i := 3) (N := some 30) #[true, true, true, true, true, true, false, true, true, false, false, true, true, false, false, false, false, false] rfl rfl (one_of HT_.out (by kernel_rfl)) (by decide) (fun K hK => ?_)
        refine goes_ Try.func48 (by kernel_rfl) rfl #[.slice B0 8 d0] (by rfl) rfl rfl (by (try simp only [List.map_toArray, List.map_cons, List.map_nil]); first | done | rfl) ?_
        refine (K0.out _ (HBW.out.trans (HBd.out.mono HBW.out.size))).mono ?_
        rintro e w4 ⟨rfl, hd0⟩
        refine ⟨_, rfl, ?_⟩
        have HBd := Aside0.mk (HBd.out.trans (hd0.below.mono HBd.out.size))
        have HOd := Aside0.mk (pw_own_below HOd.out hd0.below)
        clear hd0 K0
        refine hK.out _ _ trivial (fun hHeld => ?_)
        clear hK K
        refine norm_ (a' := ?_) ?_ ?_
        rotate_left
        · show Act.put _ (some 30) _ = _
          simp only [Act.put, List.setIfInBounds_toArray, List.set_cons_zero, List.set_cons_succ, i64_w, i32_w]
          rfl
        refine one_ (i := 6) (N := some 33) #[true, true, true, true, true, true, true, true, true, false, false, true, true, false, false, false, false, false] rfl rfl (one_of HT_.out (by kernel_rfl)) (by decide) (fun K hK => ?_)
        refine goes_ Try.func48 (by kernel_rfl) rfl #[.slice B1 8 d1] (by rfl) rfl rfl (by (try simp only [List.map_toArray, List.map_cons, List.map_nil]); first | done | rfl) ?_
        refine (K1.out _ (HBW.out.trans (HBd.out.mono HBW.out.size))).mono ?_
        rintro e w5 ⟨rfl, hd1⟩
        refine ⟨_, rfl, ?_⟩
        have HBd := Aside0.mk (HBd.out.trans (hd1.below.mono HBd.out.size))
        have HOd := Aside0.mk (pw_own_below HOd.out hd1.below)
        clear hd1 K1
        refine hK.out _ _ trivial (fun hHeld => ?_)
        clear hK K
        refine norm_ (a' := ?_) ?_ ?_
        rotate_left
        · show Act.put _ (some 33) _ = _
          simp only [Act.put, List.setIfInBounds_toArray, List.set_cons_zero, List.set_cons_succ, i64_w, i32_w]
          rfl
        refine one_ (i := 9) (N := some 36) #[true, true, true, true, true, true, true, true, true, true, false, true, true, false, false, false, false, false] rfl rfl (one_of HT_.out (by kernel_rfl)) (by decide) (fun K hK => ?_)
        refine goes_ Try.func48 (by kernel_rfl) rfl #[.slice B2 8 d2] (by rfl) rfl rfl (by (try simp only [List.map_toArray, List.map_cons, List.map_nil]); first | done | rfl) ?_
        refine (K2.out _ (HBW.out.trans (HBd.out.mono HBW.out.size))).mono ?_
        rintro e w6 ⟨rfl, hd2⟩
        refine ⟨_, rfl, ?_⟩
        have HBd := Aside0.mk (HBd.out.trans (hd2.below.mono HBd.out.size))
        have HOd := Aside0.mk (pw_own_below HOd.out hd2.below)
        clear hd2 K2
        refine hK.out _ _ trivial (fun hHeld => ?_)
        clear hK K
        refine norm_ (a' := ?_) ?_ ?_
        rotate_left
        · show Act.put _ (some 36) _ = _
          simp only [Act.put, List.setIfInBounds_toArray, List.set_cons_zero, List.set_cons_succ, i64_w, i32_w]
          rfl
        refine pure_ (i := 10) (N := some 37) (v := ?_) (a' := ?_) #[true, true, true, true, true, true, true, true, true, true, true, true, true, false, false, false, false, false] rfl rfl (any_of HT_.out (by kernel_rfl)) (fun _ _ _ h => h) (Or.inl ⟨by rfl, ?_⟩) ?_ ?_
        rotate_left
        · intro w'
          go_simp
          with_reducible rfl
        rotate_left
        · simp only [Act.put, List.setIfInBounds_toArray, List.set_cons_zero, List.set_cons_succ, i64_w, i32_w]
          rfl
        refine one_ (i := 13) (N := some 40) #[true, true, true, true, true, true, true, true, true, true, true, true, true, true, false, false, false, false] rfl rfl (one_of HT_.out (by kernel_rfl)) (by decide) (fun K hK => ?_)
        refine goes_ Try.func48 (by kernel_rfl) rfl #[.slice B3 8 d3] (by rfl) rfl rfl (by (try simp only [List.map_toArray, List.map_cons, List.map_nil]); first | done | rfl) ?_
        refine (K3.out _ (HBW.out.trans (HBd.out.mono HBW.out.size))).mono ?_
        rintro e w7 ⟨rfl, hd3⟩
        refine ⟨_, rfl, ?_⟩
        have HBd := Aside0.mk (HBd.out.trans (hd3.below.mono HBd.out.size))
        have HOd := Aside0.mk (pw_own_below HOd.out hd3.below)
        clear hd3 K3
        refine hK.out _ _ trivial (fun hHeld => ?_)
        clear hK K
        refine norm_ (a' := ?_) ?_ ?_
        rotate_left
        · show Act.put _ (some 40) _ = _
          simp only [Act.put, List.setIfInBounds_toArray, List.set_cons_zero, List.set_cons_succ, i64_w, i32_w]
          rfl
        refine pure_ (i := 14) (N := some 41) (v := ?_) (a' := ?_) #[true, true, true, true, true, true, true, true, true, true, true, true, true, true, true, false, false, false] rfl rfl (any_of HT_.out (by kernel_rfl)) (fun _ _ _ h => h) (Or.inl ⟨by rfl, ?_⟩) ?_ ?_
        rotate_left
        · intro w'
          go_simp
          with_reducible rfl
        rotate_left
        · simp only [Act.put, List.setIfInBounds_toArray, List.set_cons_zero, List.set_cons_succ, i64_w, i32_w]
          rfl
        refine one_ (i := 15) (N := some 42) #[true, true, true, true, true, true, true, true, true, true, true, true, true, true, true, true, false, false] rfl rfl (one_of HT_.out (by kernel_rfl)) (by decide) (fun K hK => ?_)
        refine value_ (v := .slice (some ⟨w7.heap.size, 0, none⟩) 1 1) (w1 := w7.alloc (.cells #[.int .i64 z.f0, .int .i64 z.f1.f0, .int .i64 z.f1.f1, .int .i64 z.f2] 70)) (by rfl) rfl ?_ ?_
        · go_simp
          first | done | rfl | simp [Result.andThen]
        have HNB := Aside0.mk (heap_alloc_new w7 (.cells #[.int .i64 z.f0, .int .i64 z.f1.f0, .int .i64 z.f1.f1, .int .i64 z.f2] 70))
        have HBd := Aside0.mk (HBd.out.alloc HBd.out.size (.cells #[.int .i64 z.f0, .int .i64 z.f1.f0, .int .i64 z.f1.f1, .int .i64 z.f2] 70))
        have HOd := Aside0.mk (pw_own_below HOd.out ((Below.refl w7.heap.size w7).alloc (Nat.le_refl _) (.cells #[.int .i64 z.f0, .int .i64 z.f1.f0, .int .i64 z.f1.f1, .int .i64 z.f2] 70)))
        refine hK.out _ _ trivial (fun hHeld => ?_)
        clear hK K
        refine norm_ (a' := ?_) ?_ ?_
        rotate_left
        · show Act.put _ (some 42) _ = _
          simp only [Act.put, List.setIfInBounds_toArray, List.set_cons_zero, List.set_cons_succ, i64_w, i32_w]
          rfl
        refine one_ (i := 16) (N := some 43) #[true, true, true, true, true, true, true, true, true, true, true, true, true, true, true, true, true, false] rfl rfl (one_of HT_.out (by kernel_rfl)) (by decide) (fun K hK => ?_)
        obtain ⟨v8, w8, hrun8, ho8, hg8⟩ := app70 HOd.out HBd.out.size z _ HNB.out (by rw [parseN_len]; have := HNL.out; have := HI1.out; omega) 44
        have HB8 := Aside0.mk (HBd.out.grown hg8 HBd.out.size (fun k e => (HOd.out.lt k e).1))
        have HO8 := Aside0.mk ho8
        refine bapp_ #[u8, .slice (some ⟨w7.heap.size, 0, none⟩) 1 1] (by rfl) (by (try simp only [List.map_toArray, List.map_cons, List.map_nil]); first | done | rfl) (by rfl) rfl hrun8 ?_
        clear hrun8 ho8 hg8
        refine hK.out _ _ trivial (fun hHeld => ?_)
        clear hK K
        refine norm_ (a' := ?_) ?_ ?_
        rotate_left
        · show Act.put _ (some 43) _ = _
          simp only [Act.put, List.setIfInBounds_toArray, List.set_cons_zero, List.set_cons_succ, i64_w, i32_w]
          rfl
        refine pure_ (i := 17) (N := some 8) (v := ?_) (a' := ?_) #[true, true, true, true, true, true, true, true, true, true, true, true, true, true, true, true, true, true] rfl rfl (any_of HT_.out (by kernel_rfl)) (fun _ _ _ h => h) (Or.inl ⟨by rfl, ?_⟩) ?_ ?_
        rotate_left
        · intro w'
          go_simp
          with_reducible rfl
        rotate_left
        · simp only [Act.put, List.setIfInBounds_toArray, List.set_cons_zero, List.set_cons_succ, i64_w, i32_w]
          rfl
        refine done_ (done_of HT_.out (by kernel_rfl)) ?_
        clear hHeld HOd HBd HNB
        go_wp2_with fail
        go_roundg (n - (i + 1))
        case measure => have := HI1.out; omega
        case rel =>
          refine ⟨i + 1, A10, c10, rfl, Nat.le_refl _, HI1.out.2.2, ⟨⟨?_, HB8.out, HB10.out, HC10.out⟩⟩⟩
          rw [HP.out, List.length_append, List.length_singleton]
          exact HO8.out
      · have hlz : ¬ ((((32 * (n - i) : Nat)) : Int) > 0) := by omega
        have hz2 : decide ((0 : Int) < 32 * ((n - i : Nat) : Int)) = false := decide_eq_false (by omega)
        have hni : i = n := by omega
        clear hlt hkx hi
        subst hni
        have hO := HQ.out.row
        have hpl := parseN_len i l0
        obtain ⟨A8, c8, rfl⟩ := own_slice hO
        have hR := R_flat hO
        have HR := Aside0.mk hR
        rw [hpl] at hR
        have HE : Aside0 (openL kind a b = loadL a (loadOf kind a (parseN i l0))) := ⟨by
          have e : (b.length - 4) / 32 = i := by have := hN.out; omega
          rw [openL, readB, e, HL0.out]⟩
        have HBA := Aside0.mk (HBW.out.trans (HQ.out.bl.mono HBW.out.size))
        have hw := blk_below HW1.out HQ.out.bl
        have k0 := (blk_cell hw 0).trans rfl
        have k1 := (blk_cell hw 1).trans rfl
        have k2 := (blk_cell hw 2).trans rfl
        rw [hpl]
        have hpl2 := Aside0.mk hpl
        clear hO hR hw hpl
        go_wp2_with (first
          | (go_at_call 11
             refine (New_calls wr kind size slide a).mono ?_
             rintro e w10 ⟨q, rfl, hI, hb⟩
             have HI := Aside0.mk hI
             have HBN := Aside0.mk hb
             clear hI hb)
          | (go_at_call 20
             have hF := Kd.F_step (Kd.F_mono (Kd.R_F (Kd.R_bound HR.out)) (fun k hk => And.intro hk.2.1 hk.2.2.1)) (fun k hk hlt => HBN.out.block k hlt)
             have KL := Load_calls HI.out A8 c8 (parseN i l0) _ hF (Kd.R_reads' HR.out).2.1 (fun k hk => ⟨fun hf => by have := hk.2; have := hf.1; omega, Nat.lt_of_lt_of_le hk.2 HBN.out.size⟩) (parseN_64 _ _) (by rw [hpl2.out]; exact HNL.out)
             rw [hpl2.out] at KL
             refine KL.mono ?_
             clear KL
             rintro e w11 ⟨rfl, hto⟩
             rw [← HE.out] at hto
             have HTO := Aside0.mk hto
             clear hto hF)
          | (go_at_call 23
             refine (Bytes_calls HTO.out.is).mono ?_
             rintro e w12 ⟨v12, rfl, hR, hb⟩
             obtain ⟨A12, c12, rfl⟩ := Kd.R_slice hR
             have HR12 := Aside0.mk hR
             have HB12 := Aside0.mk hb
             clear hR hb)
          | (go_at_call 49
             refine (bytes_Equal.calls A12 c12 _ A c b _ w12 (Kd.R_reads' HR12.out).2.2 (Kd.R_reads' HR12.out).2.1 (Kd.C_below HC0.out (HBA.out.trans ((HBN.out.trans (((HTO.out.fr.toBelow (B := wr.heap.size) HBN.out.size (fun k _ hk => hk.1)).trans (HB12.out.mono (Nat.le_trans HBN.out.size HTO.out.fr.size))))).mono HBA.out.size))) HC.out (equal_f (bytesB_8 _) H8.out)).mono ?_
             rintro e w13 ⟨rfl, hd⟩
             have HD := Aside0.mk hd.below
             clear hd
             rcases dec2 (P := bytesB (sortP (openL kind a b)) = b) with ⟨hdq, HQE⟩ | ⟨hdq, HQE⟩
             all_goals (rw [hdq])
             all_goals (clear hdq)))
        · go_ret2
          exact open_end HBA.out HBN.out HTO.out HB12.out HD.out ⟨hF.out, HQE.out⟩ (Nat.le_trans (loadOf_len _ _ _) (by rw [hpl2.out]; have := hN.out; omega))
        · go_ret2
          refine ⟨?_, Or.inl ⟨fun h => HQE.out h.2, rfl⟩⟩
          exact open_below HBA.out HBN.out HTO.out HB12.out HD.out
  · by_cases h4 : (b.length : Int) < 4
    · have hF := Aside0.mk hf
      clear hf
      go_enter Try.func22, Try.ntmps22
      go_wp2
      go_ret2
      exact ⟨(Below.refl w.heap.size w).alloc (Nat.le_refl _) _, Or.inl ⟨fun h => hF.out h.1, rfl⟩⟩
    · have g2 : ¬ Int.tmod (b.length : Int) 32 = 4 := by rw [mod32]; unfold FormB at hf; omega
      have g3 : ((b.length : Int) % 32 != 4) = true := by
        rw [mod32] at g2
        have : ¬ ((b.length : Int) % 32 = 4) := by omega
        simpa using this
      have hF := Aside0.mk hf
      clear hf
      go_enter Try.func22, Try.ntmps22
      go_wp2
      go_ret2
      exact ⟨(Below.refl w.heap.size w).alloc (Nat.le_refl _) _, Or.inl ⟨fun h => hF.out h.1, rfl⟩⟩
end Go.Proofs.Ytjegeghigfmkoaa.T
namespace Go.Proofs.Ytjegeghigfmkoaa.T
open Go.RowKit Go.Maps Go.Sort Go.Proofs Go.Proofs.Ytjegeghigfmkoaa Go.Proofs.Ytjegeghigfmkoaa.X Go.Proofs.YtjegeghigfmkoaaW.PrintWords Go.Proofs.YtjegeghigfmkoaaW.PrintLast Go.Proofs.YtjegeghigfmkoaaW.PrintMore
set_option linter.unusedVariables false
set_option linter.unusedSimpArgs false
set_option maxRecDepth 100000
variable {F : Nat → Prop} {N : Nat} {w w' : World} {q b1 b2 : Nat} {tv : Value} {tm : List Int} {s : St}
def grp (x : Int) : Int := wrap64 ((IntKind.u64.wrap ((IntKind.u64.wrap x) * 11400714819323198485)) / 1152921504606846976)
def other (g : Int) (p : S70) : Bool := grp p.f0 != g
def Tgr.T1 : Bool × List (List Nat × List Nat) := (true, [([], []), ([0], [0]), ([1], [1]), ([], []), ([2, 3], [2, 3]), ([4, 2, 0, 1, 2, 3, 4], [4])])
def Tgr.B1 : List Nat := [0, 1, 3, 0, 15, 31]
theorem Tgr.tab1 : rtab .any (opsOf Try.f55 1) = Tgr.T1 := by kernel_rfl
theorem Tgr.bits1 : waitsOk Tgr.T1.2 Tgr.B1 = true := by kernel_rfl
end Go.Proofs.Ytjegeghigfmkoaa.T
namespace Go.Proofs.Ytjegeghigfmkoaa.T
open Go.RowKit Go.Maps Go.Sort Go.Proofs Go.Proofs.Ytjegeghigfmkoaa Go.Proofs.Ytjegeghigfmkoaa.X Go.Proofs.YtjegeghigfmkoaaW.PrintWords Go.Proofs.YtjegeghigfmkoaaW.PrintLast Go.Proofs.YtjegeghigfmkoaaW.PrintMore
set_option linter.unusedVariables false
set_option linter.unusedSimpArgs false
set_option maxRecDepth 100000
variable {F : Nat → Prop} {N : Nat} {w w' : World} {q b1 b2 : Nat} {tv : Value} {tm : List Int} {s : St}
theorem row_set {W : World} {base : Nat} {ok : Nat → Prop} {g n cap : Nat} {d : List S70} (h : Kd.R k70 70 W base ok (.slice (some ⟨g, 0, none⟩) n cap) d) (i : Nat) (hi : i < n) (z : S70) :
    Kd.R k70 70 ((((W.setCell ⟨g, i * 4, none⟩ (.int .i64 z.f0)).setCell ⟨g, i * 4 + 1, none⟩ (.int .i64 z.f1.f0)).setCell ⟨g, i * 4 + 2, none⟩ (.int .i64 z.f1.f1)).setCell ⟨g, i * 4 + 3, none⟩ (.int .i64 z.f2)) base ok (.slice (some ⟨g, 0, none⟩) n cap) (d.set i z) := by
  obtain ⟨c, h1, h2, h3, h4⟩ := Kd.R_elem h z70 (i : Int) (by omega) (by omega)
  have := (Kd.R_seg h (i : Int) (by omega) (by omega) (seg := [.int .i64 z.f0, .int .i64 z.f1.f0, .int .i64 z.f1.f1, .int .i64 z.f2]) (j := 0) h1 h3 (show 4 ≤ 4 from by decide) (x' := z) (by
    obtain rfl := k70_openM h2
    exact k70_mkM _ _ _ z) (fun _ hk => hk)).1
  exact this
structure Ldf (g0 : Int) (w : World) (base : Nat) (ok : Nat → Prop) (g n cap : Nat) (l : List S70) (i j : Nat) (wr : World) (d : List S70) : Prop where
  row : Kd.R k70 70 wr base ok (.slice (some ⟨g, 0, none⟩) n cap) d
  pre : d.take i = (l.take j).filter (fun p => !other g0 p)
  post : d.drop j = l.drop j
  bl : Below base w wr
theorem Ldf.keep {g0 : Int} {base : Nat} {ok : Nat → Prop} {g n cap : Nat} {l : List S70} {i j : Nat} {wr w2 : World} {d : List S70} (h : Ldf g0 w base ok g n cap l i j wr d) (hb : Below wr.heap.size wr w2) (hbs : base ≤ wr.heap.size) : Ldf g0 w base ok g n cap l i j w2 d :=
  ⟨Kd.R_below h.row hb, h.pre, h.post, h.bl.trans (hb.mono hbs)⟩
theorem Ldf.skip {g0 : Int} {base : Nat} {ok : Nat → Prop} {g n cap : Nat} {l : List S70} {i j : Nat} {wr : World} {d : List S70} (h : Ldf g0 w base ok g n cap l i j wr d) {z : S70} (hz : l[j]? = some z) (ho : other g0 z = true) : Ldf g0 w base ok g n cap l i (j + 1) wr d := by
  refine ⟨h.row, ?_, ?_, h.bl⟩
  · rw [h.pre, List.take_add_one, hz]
    simp [ho]
  · rw [← List.drop_drop, h.post, List.drop_drop]
theorem Ldf.put {g0 : Int} {base : Nat} {ok : Nat → Prop} {g n cap : Nat} {l : List S70} {i j : Nat} {wr : World} {d : List S70} (h : Ldf g0 w base ok g n cap l i j wr d) (hg : base ≤ g) (hij : i < j) (hj : j < n) {z : S70} (hz : l[j]? = some z) (ho : other g0 z = false) :
    Ldf g0 w base ok g n cap l (i + 1) (j + 1) ((((wr.setCell ⟨g, i * 4, none⟩ (.int .i64 z.f0)).setCell ⟨g, i * 4 + 1, none⟩ (.int .i64 z.f1.f0)).setCell ⟨g, i * 4 + 2, none⟩ (.int .i64 z.f1.f1)).setCell ⟨g, i * 4 + 3, none⟩ (.int .i64 z.f2)) (d.set i z) := by
  have hn := (Kd.R_reads' h.row).1
  refine ⟨row_set h.row i (by omega) z, ?_, ?_, (((h.bl.setCell (p := ⟨g, i * 4, none⟩) hg _).setCell (p := ⟨g, i * 4 + 1, none⟩) hg _).setCell (p := ⟨g, i * 4 + 2, none⟩) hg _).setCell (p := ⟨g, i * 4 + 3, none⟩) hg _⟩
  · rw [List.take_add_one, List.take_set_of_le (Nat.le_refl i), h.pre, List.take_add_one, hz, List.getElem?_set_self (by omega)]
    simp [ho]
  · rw [List.drop_set_of_lt (by omega), ← List.drop_drop, h.post, List.drop_drop]
end Go.Proofs.Ytjegeghigfmkoaa.T
namespace Go.Proofs.Ytjegeghigfmkoaa.T
open Go.RowKit Go.Maps Go.Sort Go.Proofs Go.Proofs.Ytjegeghigfmkoaa Go.Proofs.Ytjegeghigfmkoaa.X Go.Proofs.YtjegeghigfmkoaaW.PrintWords Go.Proofs.YtjegeghigfmkoaaW.PrintLast Go.Proofs.YtjegeghigfmkoaaW.PrintMore
set_option linter.unusedVariables false
set_option linter.unusedSimpArgs false
set_option maxRecDepth 100000
variable {F : Nat → Prop} {N : Nat} {w w' : World} {q b1 b2 : Nat} {tv : Value} {tm : List Int} {s : St}
structure Ro where
  kind : Int
  a : Int
  wk : Int
  ws : Int
  wl : Int
  mark : Int
  late : Int
  L : List S70
abbrev cellsO (v1 v5 vL : Value) (x2 x3 x4 : Int) (o : Ro) : Array Value := #[.int .i64 o.kind, v1, .int .i64 x2, .int .i64 x3, .int .i64 x4, v5, .int .i64 o.a, .int .i64 o.wk, .int .i64 o.ws, .int .i64 o.wl, vL, .int .i64 o.mark, .int .i64 o.late]
structure IsO (w0 : World) (G : Nat → Prop) (w : World) (g : Nat) (o : Ro) (v1 v5 vL : Value) (x2 x3 x4 : Int) : Prop where
  at_ : w.heap[g]? = some (.cells (cellsO v1 v5 vL x2 x3 x4 o) 46 (0, 0))
  row : Kd.R k70 70 w w0.heap.size (fun k => G k ∧ k ≠ g) vL o.L
  bl : Below w0.heap.size w0 w
  gG : G g
  gb : w0.heap.size ≤ g
  bound : ∀ k, G k → w0.heap.size ≤ k ∧ k < w.heap.size
theorem IsO.fr {w0 : World} {G M : Nat → Prop} {g : Nat} {o : Ro} {v1 v5 vL : Value} {x2 x3 x4 : Int} (h : IsO w0 G w g o v1 v5 vL x2 x3 x4) (hf : Fr M w w') (hM : ∀ k, M k → ¬ G k ∧ w0.heap.size ≤ k) : IsO w0 G w' g o v1 v5 vL x2 x3 x4 :=
  ⟨(hf.block g (h.bound g h.gG).2 (fun m => (hM g m).1 h.gG)).trans h.at_, Kd.R_step h.row (fun k hk hlt => hf.block k hlt (fun m => (hM k m).1 hk.1)), ⟨hf.os.trans h.bl.os, hf.tape.trans h.bl.tape, hf.output.trans h.bl.output, Nat.le_trans h.bl.size hf.size, fun k hk => (hf.block k (Nat.lt_of_lt_of_le hk h.bl.size) (fun m => by have := (hM k m).2; omega)).trans (h.bl.block k hk)⟩, h.gG, h.gb, fun k hk => ⟨(h.bound k hk).1, Nat.lt_of_lt_of_le (h.bound k hk).2 hf.size⟩⟩
theorem IsO.below {w0 : World} {G : Nat → Prop} {g : Nat} {o : Ro} {v1 v5 vL : Value} {x2 x3 x4 : Int} (h : IsO w0 G w g o v1 v5 vL x2 x3 x4) (hb : Below w.heap.size w w') : IsO w0 G w' g o v1 v5 vL x2 x3 x4 := h.fr (M := fun _ => False) (Fr.of_below hb) (fun _ m => m.elim)
theorem IsO.stored {w0 : World} {G : Nat → Prop} {g : Nat} {o : Ro} {v1 v5 vL v' : Value} {x2 x3 x4 : Int} (h : IsO w0 G w g o v1 v5 vL x2 x3 x4) {w2 : World} {L : List S70} (hf : Fr (fun k => G k ∧ k ≠ g) w w2) (hR : Kd.R k70 70 w2 w0.heap.size (fun k => (G k ∧ k ≠ g) ∨ w.heap.size ≤ k) v' L) :
    IsO w0 (Fx G w (w2.setCell ⟨g, 10, none⟩ v')) (w2.setCell ⟨g, 10, none⟩ v') g { o with L := L } v1 v5 v' x2 x3 x4 ∧ Fr G w (w2.setCell ⟨g, 10, none⟩ v') := by
  have hgl := (h.bound g h.gG).2
  have s2 := hf.size
  have hq : w2.heap[g]? = some (.cells (cellsO v1 v5 vL x2 x3 x4 o) 46 (0, 0)) := (hf.block g hgl (fun m => m.2 rfl)).trans h.at_
  have hsz : (w2.setCell ⟨g, 10, none⟩ v').heap.size = w2.heap.size := by simp [World.setCell]
  have fr : Fr G w (w2.setCell ⟨g, 10, none⟩ v') := (hf.mono (fun k _ hk => hk.1)).setCell (p := ⟨g, 10, none⟩) h.gG v'
  have hbw : Below w0.heap.size w0 (w2.setCell ⟨g, 10, none⟩ v') := ⟨fr.os.trans h.bl.os, fr.tape.trans h.bl.tape, fr.output.trans h.bl.output, Nat.le_trans h.bl.size fr.size, fun k hk => (fr.block k (Nat.lt_of_lt_of_le hk h.bl.size) (fun m => by have := (h.bound k m).1; omega)).trans (h.bl.block k hk)⟩
  refine ⟨⟨blk_set hq 10 v', ?_, hbw, Or.inl h.gG, h.gb, fun k hk => ?_⟩, fr⟩
  · refine Kd.R_mono (Kd.R_bound (Kd.R_far (p := ⟨g, 10, none⟩) hR (fun k hk e => ?_) v')) (fun k hk => ?_)
    · rcases hk with hk | hk
      · exact hk.2 e
      · have e : k = g := e
        omega
    · have hlt : k < (w2.setCell ⟨g, 10, none⟩ v').heap.size := hk.2.2.1
      rcases hk.1 with h1 | h1
      · exact ⟨Or.inl h1.1, h1.2⟩
      · exact ⟨Or.inr ⟨h1, hlt⟩, by omega⟩
  · rcases hk with hk | hk
    · exact ⟨(h.bound k hk).1, by have := (h.bound k hk).2; omega⟩
    · exact ⟨by have := h.bl.size; omega, hk.2⟩
theorem rec_end {w0 w3 w4 : World} {G : Nat → Prop} {g : Nat} {o : Ro} {v1 v5 vL v' : Value} {x2 x3 x4 : Int} {L : List S70} (h : IsO w0 G w g o v1 v5 vL x2 x3 x4) (hb : Below w.heap.size w w3) (h3 : IsO w0 G w3 g o v1 v5 vL x2 x3 x4) (hf : Fr (fun k => G k ∧ k ≠ g) w3 w4) (hR : Kd.R k70 70 w4 w0.heap.size (fun k => (G k ∧ k ≠ g) ∨ w3.heap.size ≤ k) v' L) :
    IsO w0 (Fx G w (w4.setCell ⟨g, 10, none⟩ v')) (w4.setCell ⟨g, 10, none⟩ v') g { o with L := L } v1 v5 v' x2 x3 x4 ∧ Fr G w (w4.setCell ⟨g, 10, none⟩ v') := by
  obtain ⟨h1, h2⟩ := h3.stored hf hR
  have s1 := hb.size
  refine ⟨⟨h1.at_, Kd.R_mono h1.row (fun k hk => ⟨?_, hk.2⟩), h1.bl, Or.inl h.gG, h.gb, fun k hk => ?_⟩, ((Fr.refl G w).below hb).trans h2⟩
  · rcases hk.1 with h | h
    · exact Or.inl h
    · exact Or.inr ⟨by omega, h.2⟩
  · rcases hk with hk | hk
    · exact h1.bound k (Or.inl hk)
    · exact ⟨by have := h.bl.size; omega, hk.2⟩
def Trc.T11 : Bool × List (List Nat × List Nat) := (true, [([], []), ([], []), ([], []), ([2], [2]), ([3], [3]), ([4], [4]), ([5], [5]), ([], []), ([7], [7]), ([8], [8]), ([9], [9]), ([], []), ([], []), ([1, 6, 10, 11, 12, 12], [1, 6, 10, 11, 12]), ([0, 0, 1, 2, 3, 4, 5, 6, 7, 8, 9, 10, 11, 12, 13], [0]), ([14, 0, 1, 2, 3, 4, 5, 6, 7, 8, 9, 10, 11, 12, 13], [14]), ([15, 13, 13, 0, 1, 2, 3, 4, 5, 6, 7, 8, 9, 10, 11, 12, 13], [13, 15])])
def Trc.B11 : List Nat := [0, 0, 0, 4, 12, 28, 60, 0, 128, 384, 896, 0, 0, 8190, 16383, 32767, 65535]
theorem Trc.tab11 : rtab .any (opsOf Try.f16 11) = Trc.T11 := by kernel_rfl
theorem Trc.bits11 : waitsOk Trc.T11.2 Trc.B11 = true := by kernel_rfl
end Go.Proofs.Ytjegeghigfmkoaa.T
namespace Go.Proofs.Ytjegeghigfmkoaa.T
open Go.RowKit Go.Maps Go.Sort Go.Proofs Go.Proofs.Ytjegeghigfmkoaa Go.Proofs.Ytjegeghigfmkoaa.X Go.Proofs.YtjegeghigfmkoaaW.PrintWords Go.Proofs.YtjegeghigfmkoaaW.PrintLast Go.Proofs.YtjegeghigfmkoaaW.PrintMore
set_option linter.unusedVariables false
set_option linter.unusedSimpArgs false
set_option maxRecDepth 100000
variable {F : Nat → Prop} {N : Nat} {w w' : World} {q b1 b2 : Nat} {tv : Value} {tm : List Int} {s : St}
structure Lw (w0 : World) (G : Nat → Prop) (w w2 : World) (g : Nat) (o : Ro) (v1 v5 : Value) (x2 x3 x4 : Int) (r : S39) (A : Option Addr) (sp : List S68) (Lf : Nat → List S70) (i : Nat) (wr : World) (G1 : Nat → Prop) (vL : Value) : Prop where
  is : IsO w0 G1 wr g { o with L := Lf i } v1 v5 vL x2 x3 x4
  fr : Fr G w2 wr
  old : ∀ k, G1 k → G k ∨ w2.heap.size ≤ k
  hR : wr.heap[w.heap.size]? = some (.cells #[.int .i64 r.f0, .int .i64 r.f1, .int .i64 r.f2] 39 (0, 0))
  row : Kd.F k68 wr (fun k => w.heap.size < k ∧ k < w2.heap.size) A sp.length sp
theorem Lw.next {w0 : World} {G G1 : Nat → Prop} {w2 wr w3 w4 : World} {g : Nat} {o : Ro} {v1 v5 vL v' : Value} {x2 x3 x4 : Int} {r : S39} {A : Option Addr} {sp : List S68} {Lf : Nat → List S70} {i : Nat} (h : Lw w0 G w w2 g o v1 v5 x2 x3 x4 r A sp Lf i wr G1 vL) (hG : ∀ k, G k → k < w.heap.size) (hw2 : w.heap.size < w2.heap.size)
    (hb : Below wr.heap.size wr w3) (hf : Fr (fun k => G1 k ∧ k ≠ g) w3 w4) (hR : Kd.R k70 70 w4 w0.heap.size (fun k => (G1 k ∧ k ≠ g) ∨ w3.heap.size ≤ k) v' (Lf (i + 1))) :
    Lw w0 G w w2 g o v1 v5 x2 x3 x4 r A sp Lf (i + 1) (w4.setCell ⟨g, 10, none⟩ v') (Fx G1 wr (w4.setCell ⟨g, 10, none⟩ v')) v' := by
  obtain ⟨h1, h2⟩ := rec_end h.is hb (h.is.below hb) hf hR
  have s1 := h.fr.size
  have hrl := lt_of_block h.hR
  have nG1 : ∀ k, k < w2.heap.size → w.heap.size ≤ k → ¬ G1 k := fun k hk hk2 hg => by
    rcases h.old k hg with h | h
    · have := hG k h; omega
    · omega
  refine ⟨h1, h.fr.mix h.old h2 (Fr.refl (fun _ => False) _) (fun _ h => h.elim), fun k hk => ?_, (h2.block _ hrl (nG1 _ hw2 (Nat.le_refl _))).trans h.hR, Kd.F_step h.row (fun k hk hlt => h2.block k hlt (nG1 k hk.2 (Nat.le_of_lt hk.1)))⟩
  rcases hk with hk | hk
  · exact h.old k hk
  · exact Or.inr (by omega)
end Go.Proofs.Ytjegeghigfmkoaa.T
namespace Go.Proofs.Ytjegeghigfmkoaa.T
open Go.RowKit Go.Maps Go.Sort Go.Proofs Go.Proofs.Ytjegeghigfmkoaa Go.Proofs.Ytjegeghigfmkoaa.X Go.Proofs.YtjegeghigfmkoaaW.PrintWords Go.Proofs.YtjegeghigfmkoaaW.PrintLast Go.Proofs.YtjegeghigfmkoaaW.PrintMore
set_option linter.unusedVariables false
set_option linter.unusedSimpArgs false
set_option maxRecDepth 100000
variable {F : Nat → Prop} {N : Nat} {w w' : World} {q b1 b2 : Nat} {tv : Value} {tm : List Int} {s : St}
theorem puts_one {kind a key val : Int} {ps ps' : List S70} {sp : S68} (h : Puts kind a key val ps [sp] ps') : IntoS kind a key val sp ps ps' := by
  generalize hl : [sp] = l at h
  cases h with
  | nil => cases hl
  | @snoc sps sp' ps1 _ h k =>
    have hl2 := hl
    rcases sps with _ | ⟨x, r⟩
    · simp at hl
      subst hl
      generalize hn : ([] : List S68) = e at h
      cases h with
      | nil => exact k
      | snoc h2 k2 => simp at hn
    · simp at hl
theorem fit10 : Th.Fit 1 10 0 := ⟨by omega, by omega, by omega, by omega, fun h => absurd h (by omega), fun _ => rfl⟩
theorem sp10 (t : Int) (ht : 0 ≤ t ∧ t < 10) : SpS 1 10 0 t [⟨0, 10⟩] := by
  refine Or.inr ⟨by omega, ?_⟩
  have h := Th.spans_ev fit10 (t := t) ⟨by omega, by omega⟩
  have e : Th.spansP 1 10 0 t = [⟨0, 10⟩] := by
    have : Th.fl t 10 = 0 := by unfold Th.fl; omega
    unfold Th.spansP
    rw [if_pos rfl, this]
    rfl
  rw [e] at h
  obtain ⟨k, hk⟩ := h
  exact ⟨k, hk k (Nat.le_refl _)⟩
def p5 : S70 := ⟨1, ⟨0, 10⟩, 5⟩
def p7 : S70 := ⟨1, ⟨0, 10⟩, 7⟩
theorem into1 {ps' : List S70} (h : IntoS 1 1 1 5 ⟨0, 10⟩ [] ps') : ps' = [p5] := by
  unfold IntoS at h
  rw [if_neg (by decide)] at h
  rw [h]
  kernel_rfl
theorem into2 {ps' : List S70} (h : IntoS 1 1 1 2 ⟨0, 10⟩ [p5] ps') : ps' = [p7] := by
  unfold IntoS at h
  rw [if_neg (by decide)] at h
  rw [h]
  kernel_rfl
theorem sort1 (p : S70) : sortP [p] = [p] := Th.sortP_same (List.pairwise_singleton _ _)
theorem p7_64 : P64 p7 := ⟨by unfold I64 p7; decide, by unfold I64 p7; decide, by unfold I64 p7; decide, by unfold I64 p7; decide⟩
theorem b7_len : (bytesB [p7]).length = 36 := by rw [bytesB_len]; rfl
theorem read7 : readB (bytesB [p7]) = [p7] := by
  unfold readB
  rw [b7_len]
  have e : (bytesB [p7]).drop 4 = panesB [p7] := by
    unfold bytesB
    rw [List.drop_append, numB_len, List.drop_eq_nil_of_le (by rw [numB_len]; omega)]
    rfl
  rw [e]
  exact parse_B [p7] (fun p hp => by rw [List.mem_singleton.1 hp]; exact p7_64)
theorem load7 : loadL 1 [p7] = [p7] := by kernel_rfl
theorem open7 : openL 1 1 (bytesB [p7]) = [p7] := by
  rw [openL, read7, loadOf, if_neg (by decide), load7]
theorem ok7 : OpenOk 1 1 (bytesB [p7]) := by
  refine ⟨⟨by rw [b7_len]; omega, by rw [b7_len]⟩, ?_⟩
  rw [open7, sort1]
theorem no7 (b : List Int) (h : b.length = 18) : ¬ OpenOk 1 1 b := fun h2 => by
  have := h2.1.2
  omega
theorem fired7 : firedR ⟨1, 10, 0, 1, [p7]⟩ 9 = [⟨1, 9, 7⟩] := by
  unfold firedR
  rw [sort1]
  kernel_rfl
theorem left7 : firedL ⟨1, 10, 0, 1, [p7]⟩ 9 = [] := by
  unfold firedL
  rw [sort1]
  have : Th.leftR 9 [p7] = [] := by kernel_rfl
  rw [this]
  rfl
theorem idle7 : ¬ Idle ⟨1, 10, 0, 1, [p7]⟩ 9 := fun h => by
  rcases h with ⟨h, _⟩ | h
  · cases h
  · have h := h p7 (List.mem_singleton.2 rfl)
    have e : lastP p7 = 9 := by kernel_rfl
    omega
theorem R_one39 (w : World) (B : Nat) (hB : B ≤ w.heap.size) (x : S39) : Kd.R k39 39 (w.alloc (.cells #[.int .i64 x.f0, .int .i64 x.f1, .int .i64 x.f2] 39)) B (fun _ => True) (.slice (some ⟨w.heap.size, 0, none⟩) 1 1) [x] :=
  ⟨fun _ _ => trivial, _, World.ownsRow_lit (e := 39) (size := 3) w #[.int .i64 x.f0, .int .i64 x.f1, .int .i64 x.f2] 1 hB (by unfold maxLen; omega) rfl, Reps.c3 (k39_mkM _ _ _ x) (Reps.none _ _)⟩
theorem IsS.wide {w1 wa wb : World} {N' : Nat} {s' : St} (h : To (fun k => w1.heap.size ≤ k ∧ k < wa.heap.size) wa wb N' q s') (h1 : w1.heap.size ≤ wa.heap.size) : IsS (fun k => w1.heap.size ≤ k ∧ k < wb.heap.size) N' wb q s' :=
  h.is.mono (fun k hk => by
    have := h.fr.size
    rcases hk with hk | hk
    · exact ⟨hk.1, by omega⟩
    · exact ⟨by omega, hk.2⟩) (fun k hk => hk.2) (Nat.le_refl _) h.is.small
def Tkn.T11 : Bool × List (List Nat × List Nat) := (true, [([], []), ([], []), ([], []), ([2], [2]), ([3], [3]), ([1, 4], [1, 4]), ([0, 5], [0, 5]), ([6], [6]), ([7], [7]), ([7], [7]), ([8, 6, 0, 1, 2, 3, 4, 5, 6, 7, 8], [8]), ([9, 10, 0, 1, 2, 3, 4, 5, 6, 7, 8, 9, 10], [9])])
def Tkn.B11 : List Nat := [0, 0, 0, 4, 12, 30, 63, 127, 255, 255, 511, 2047]
theorem Tkn.tab11 : rtab .any (opsOf Try.f9 11) = Tkn.T11 := by kernel_rfl
theorem Tkn.bits11 : waitsOk Tkn.T11.2 Tkn.B11 = true := by kernel_rfl
set_option maxHeartbeats 8000000 in
theorem known_calls (w : World) : Calls Try.prog 9 #[] w fun e w' => e = .returned (.bool true) ∧ Below w.heap.size w w' := by
  go_enter Try.func9, Try.ntmps9
  go_wp2_with fail
  have HW1 := Aside0.mk (heap_alloc_new w (.cells #[.int .i64 1, .int .i64 10, .int .i64 0] 23))
  have HB1 := Aside0.mk ((Below.refl w.heap.size w).alloc (Nat.le_refl _) (.cells #[.int .i64 1, .int .i64 10, .int .i64 0] 23))
  generalize (w.alloc (.cells #[.int .i64 1, .int .i64 10, .int .i64 0] 23)) = w1 at HW1 HB1 ⊢
  go_wp2_with (first
    | (go_at_call 11
       refine (New_calls w1 1 10 0 1).mono ?_
       rintro e w2 ⟨q, rfl, hI, hb⟩
       have HI2 := Aside0.mk hI
       have HB2 := Aside0.mk hb
       clear hI hb)
    | (go_at_call 15
       refine (Put_calls HI2.out ⟨1, 3, 5⟩ (by unfold I64; decide) [⟨0, 10⟩] (sp10 3 (by decide)) (by intro x hx; rw [List.mem_singleton.1 hx]; unfold I64; decide) (by decide) (by decide)).mono ?_
       rintro e w3 ⟨rfl, N3, ps3, hto, hN, hp⟩
       obtain rfl := into1 (puts_one hp)
       have HB3 := Aside0.mk (HB2.out.trans (hto.fr.toBelow (B := w1.heap.size) HB2.out.size (fun k _ hk => hk.1)))
       have HI3 := Aside0.mk (IsS.wide hto HB2.out.size)
       have HN3 := Aside0.mk hN
       clear hto hN hp HI2 HB2)
    | (go_at_call 15
       refine (Put_calls HI3.out ⟨1, 7, 2⟩ (by unfold I64; decide) [⟨0, 10⟩] (sp10 7 (by decide)) (by intro x hx; rw [List.mem_singleton.1 hx]; unfold I64; decide) (by decide) (by have h : N3 + [p5].length ≤ 0 + 0 + 2 * 1 := HN3.out; show N3 + [p5].length + 128 ≤ _; omega)).mono ?_
       rintro e w4 ⟨rfl, N4, ps4, hto, hN, hp⟩
       obtain rfl := into2 (puts_one hp)
       have HB4 := Aside0.mk (HB3.out.trans (hto.fr.toBelow (B := w1.heap.size) HB3.out.size (fun k _ hk => hk.1)))
       have HI4 := Aside0.mk (IsS.wide hto HB3.out.size)
       clear hto hN hp HI3 HB3)
    | (go_at_call 21
       refine (Panes_calls HI4.out).mono ?_
       rintro e w5 ⟨v5, rfl, hR, hb⟩
       rw [sort1] at hR
       obtain ⟨A5, c5, rfl⟩ := Kd.R_slice hR
       have HF5 := Aside0.mk (Kd.F_mono (Kd.R_F (Kd.R_bound hR)) (fun k hk => (And.intro hk.2.1 hk.2.2.1 : w4.heap.size ≤ k ∧ k < w5.heap.size)))
       have HB5 := Aside0.mk hb
       clear hR hb)
    | (go_at_call 29
       refine (Next_calls (HI4.out.below HB5.out)).mono ?_
       rintro e w6 ⟨t, b, rfl, hn, hto⟩
       have ht : t = 9 ∧ b = true := by
         rcases hn with ⟨_, _, h⟩ | ⟨h1, ⟨p, hp, h2⟩, _⟩
         · cases h
         · rw [List.mem_singleton.1 hp] at h2
           exact ⟨h2.symm.trans (by kernel_rfl), h1⟩
       obtain ⟨rfl, rfl⟩ := ht
       have HTO := Aside0.mk hto
       have HF6 := Aside0.mk (Kd.F_step HF5.out (fun k hk hlt => hto.fr.block k hlt (fun h => by have := hk.1; have := h.2; omega)))
       clear hn hto HF5)
    | (go_at_call 23
       refine (Bytes_calls HTO.out.is).mono ?_
       rintro e w7 ⟨v7, rfl, hR, hb⟩
       rw [sort1] at hR
       obtain ⟨A7, c7, rfl⟩ := Kd.R_slice hR
       have HR7 := Aside0.mk hR
       have HB7 := Aside0.mk hb
       have hlt1 := lt_of_block HW1.out
       have hw4 := (HB4.out.block _ hlt1).trans HW1.out
       have hw5 := blk_below hw4 HB5.out
       have hw6 := (HTO.out.fr.block _ (lt_of_block hw5) (fun h => by have := h.1; omega)).trans hw5
       have hw7 := blk_below hw6 hb
       have HW7 := Aside0.mk hw7
       have u0 := (blk_cell hw7 0).trans rfl
       have u1 := (blk_cell hw7 1).trans rfl
       have u2 := (blk_cell hw7 2).trans rfl
       rw [b7_len]
       clear hR hb hw4 hw5 hw6 hw7 hlt1)
    | (go_at_call 22
       have KO := Open_calls w7 1 10 0 1 A7 c7 _ (Kd.R_reads' HR7.out).2.2 (Kd.R_reads' HR7.out).2.1 (by rw [b7_len]; decide) (bytesB_8 _)
       rw [b7_len] at KO
       refine KO.mono ?_
       clear KO
       rintro e w8 ⟨hb8, h8⟩
       rcases h8 with ⟨h8, _⟩ | ⟨_, q8, N8, rfl, _, h8⟩
       · exact absurd ok7 h8
       rw [open7] at h8
       have HT8 := Aside0.mk h8
       have HB8 := Aside0.mk hb8
       clear h8 hb8)
    | fail)
  have hb8 := HB8.out
  have hw8 := blk_below HW7.out hb8
  refine start_ (n := 12) (S := fun w' => w'.cell? ⟨w.heap.size, 0, none⟩ = some (.int .i64 1) ∧ w'.cell? ⟨w.heap.size, 1, none⟩ = some (.int .i64 10) ∧ w'.cell? ⟨w.heap.size, 2, none⟩ = some (.int .i64 0)) (ds := []) #[false, false, false, false, false, false, false, false, false, false, false, false] (by kernel_rfl) rfl rfl ⟨(blk_cell (blk_drew hw8) 0).trans rfl, (blk_cell (blk_drew hw8) 1).trans rfl, (blk_cell (blk_drew hw8) 2).trans rfl⟩ (fun hHeld => ?_); refine with_tabW Tkn.tab11 Tkn.bits11 (fun HT_ HW_ => ?_)
  have HB9 := Aside0.mk (below_drew hb8)
  have HT9 := Aside0.mk (HT8.out.below (below_drew (Below.refl _ _)))
  have HW9 := Aside0.mk (blk_drew hw8)
  have hc36 : 36 ≤ c7 := by have := (Kd.R_reads' HR7.out).2.1; rw [b7_len] at this; exact this
  have hc18 : 18 ≤ c7 := by omega
  clear hb8 hw8 HB8
  generalize hw9 : World.drew w8 = w9 at HB9 HT9 HW9 hHeld ⊢
  have h18 : wrap64 18 = 18 := by kernel_rfl
  have hsl : ∀ W, (Instr.slice 58 (.slice A7 36 c7) none (some (.int .i64 18)) none).run Try.prog W = .ok (.slice A7 18 c7) W := fun W => to_run A7 36 c7 18 (by decide) hc36 W
  refine take_ (i := 0) (N := some 39) (v := ?_) (a' := ?_) #[true, false, false, false, false, false, false, false, false, false, false, false] rfl rfl (take_ofW HT_.out HW_.out (by kernel_rfl)) (fun _ _ _ h => h) (Or.inl ⟨by rfl, ?_⟩) hHeld ?_ ?_
  rotate_left
  · rintro w' ⟨s0, s1, s2⟩
    go_simp
    with_reducible rfl
  rotate_left
  · simp only [Act.put, List.setIfInBounds_toArray, List.set_cons_zero, List.set_cons_succ, i64_w, i32_w]
    rfl
  refine pure_ (i := 1) (N := some 40) (v := ?_) (a' := ?_) #[true, true, false, false, false, false, false, false, false, false, false, false] rfl rfl (any_of HT_.out (by kernel_rfl)) (fun _ _ _ h => h) (Or.inl ⟨by rfl, ?_⟩) ?_ ?_
  rotate_left
  · intro w'
    go_simp
    with_reducible rfl
  rotate_left
  · simp only [Act.put, List.setIfInBounds_toArray, List.set_cons_zero, List.set_cons_succ, i64_w, i32_w]
    rfl
  refine pure_ (i := 2) (N := some 41) (v := ?_) (a' := ?_) #[true, true, true, false, false, false, false, false, false, false, false, false] rfl rfl (any_of HT_.out (by kernel_rfl)) (fun _ _ _ h => h) (Or.inl ⟨by rfl, ?_⟩) ?_ ?_
  rotate_left
  · intro w'
    go_simp
    with_reducible rfl
  rotate_left
  · simp only [Act.put, List.setIfInBounds_toArray, List.set_cons_zero, List.set_cons_succ, i64_w, i32_w]
    rfl
  refine pure_ (i := 3) (N := some 42) (v := ?_) (a' := ?_) #[true, true, true, true, false, false, false, false, false, false, false, false] rfl rfl (any_of HT_.out (by kernel_rfl)) (fun _ _ _ h => h) (Or.inl ⟨by rfl, ?_⟩) ?_ ?_
  rotate_left
  · intro w'
    go_simp
    with_reducible rfl
  rotate_left
  · simp only [Act.put, List.setIfInBounds_toArray, List.set_cons_zero, List.set_cons_succ, i64_w, i32_w]
    rfl
  refine pure_ (i := 4) (N := some 43) (v := ?_) (a' := ?_) #[true, true, true, true, true, false, false, false, false, false, false, false] rfl rfl (any_of HT_.out (by kernel_rfl)) (fun _ _ _ h => h) (Or.inl ⟨by rfl, ?_⟩) ?_ ?_
  rotate_left
  · intro w'
    go_simp
    with_reducible rfl
  rotate_left
  · simp only [Act.put, List.setIfInBounds_toArray, List.set_cons_zero, List.set_cons_succ, i64_w, i32_w]
    rfl
  refine pure_ (i := 5) (N := some 44) (v := ?_) (a' := ?_) #[true, true, true, true, true, true, false, false, false, false, false, false] rfl rfl (any_of HT_.out (by kernel_rfl)) (fun _ _ _ h => h) (Or.inl ⟨by rfl, ?_⟩) ?_ ?_
  rotate_left
  · intro w'
    go_simp
    with_reducible rfl
  rotate_left
  · simp only [Act.put, List.setIfInBounds_toArray, List.set_cons_zero, List.set_cons_succ, i64_w, i32_w]
    rfl
  have len18 : ((bytesB [p7]).take 18).length = 18 := by rw [List.length_take, b7_len]; rfl
  have KO := Open_calls w9 1 10 0 1 A7 c7 ((bytesB [p7]).take 18) (Kd.C_take (Kd.C_below (Kd.R_reads' HR7.out).2.2 HB9.out) (by rw [b7_len]; decide)) (by rw [len18]; exact hc18) (by rw [len18]; decide) (fun x hx => bytesB_8 _ x (List.mem_of_mem_take hx))
  have KO := KO.mono (R' := fun e w' => e = .returned (.tuple #[.pointer none, .int .i64 120]) ∧ Below w9.heap.size w9 w') (fun e w' h => ⟨by
    rcases h.2 with h2 | h2
    · exact h2.2
    · exact absurd h2.1 (no7 _ len18), h.1⟩)
  rw [len18] at KO
  clear h18 hsl
  refine one_ (i := 6) (N := some 45) #[true, true, true, true, true, true, true, false, false, false, false, false] rfl rfl (one_of HT_.out (by kernel_rfl)) (by decide) (fun K hK => ?_)
  refine goes_ Try.func22 (by kernel_rfl) rfl #[aggW 1 10 0, .int .i64 1, .slice A7 18 c7] (by rfl) rfl rfl (by (try simp only [List.map_toArray, List.map_cons, List.map_nil]); first | done | rfl) ?_
  refine (KO).mono ?_
  rintro e w10 ⟨rfl, hb10⟩
  refine ⟨_, rfl, ?_⟩
  have HB10 := Aside0.mk hb10
  have hw10 := blk_below HW9.out hb10
  refine hK.out _ _ ⟨(blk_cell hw10 0).trans rfl, (blk_cell hw10 1).trans rfl, (blk_cell hw10 2).trans rfl⟩ (fun hHeld => ?_)
  clear hK K
  refine norm_ (a' := ?_) ?_ ?_
  rotate_left
  · show Act.put _ (some 45) _ = _
    simp only [Act.put, List.setIfInBounds_toArray, List.set_cons_zero, List.set_cons_succ, i64_w, i32_w]
    rfl
  refine pure_ (i := 7) (N := some 38) (v := ?_) (a' := ?_) #[true, true, true, true, true, true, true, true, false, false, false, false] rfl rfl (any_of HT_.out (by kernel_rfl)) (fun _ _ _ h => h) (Or.inl ⟨by rfl, ?_⟩) ?_ ?_
  rotate_left
  · intro w'
    go_simp
    with_reducible rfl
  rotate_left
  · simp only [Act.put, List.setIfInBounds_toArray, List.set_cons_zero, List.set_cons_succ, i64_w, i32_w]
    rfl
  refine pure_ (i := 8) (N := some 46) (v := ?_) (a' := ?_) #[true, true, true, true, true, true, true, true, true, false, false, false] rfl rfl (any_of HT_.out (by kernel_rfl)) (fun _ _ _ h => h) (Or.inl ⟨by rfl, ?_⟩) ?_ ?_
  rotate_left
  · intro w'
    go_simp
    with_reducible rfl
  rotate_left
  · simp only [Act.put, List.setIfInBounds_toArray, List.set_cons_zero, List.set_cons_succ, i64_w, i32_w]
    rfl
  refine pure_ (i := 9) (N := some 47) (v := ?_) (a' := ?_) #[true, true, true, true, true, true, true, true, true, true, false, false] rfl rfl (any_of HT_.out (by kernel_rfl)) (fun _ _ _ h => h) (Or.inl ⟨by rfl, ?_⟩) ?_ ?_
  rotate_left
  · intro w'
    go_simp
    with_reducible rfl
  rotate_left
  · simp only [Act.put, List.setIfInBounds_toArray, List.set_cons_zero, List.set_cons_succ, i64_w, i32_w]
    rfl
  refine pure_ (i := 10) (N := some 9) (v := ?_) (a' := ?_) #[true, true, true, true, true, true, true, true, true, true, true, false] rfl rfl (any_of HT_.out (by kernel_rfl)) (fun _ _ _ h => h) (Or.inl ⟨by rfl, ?_⟩) ?_ ?_
  rotate_left
  · intro w'
    go_simp
    with_reducible rfl
  rotate_left
  · simp only [Act.put, List.setIfInBounds_toArray, List.set_cons_zero, List.set_cons_succ, i64_w, i32_w]
    rfl
  refine pure_ (i := 11) (N := some 10) (v := ?_) (a' := ?_) #[true, true, true, true, true, true, true, true, true, true, true, true] rfl rfl (any_of HT_.out (by kernel_rfl)) (fun _ _ _ h => h) (Or.inl ⟨by rfl, ?_⟩) ?_ ?_
  rotate_left
  · intro w'
    go_simp
    with_reducible rfl
  rotate_left
  · simp only [Act.put, List.setIfInBounds_toArray, List.set_cons_zero, List.set_cons_succ, i64_w, i32_w]
    rfl
  refine done_ (done_of HT_.out (by kernel_rfl)) ?_
  clear KO len18 hb10 hw10 hHeld
  go_wp2_with (first
    | (go_at_call 19
       have hI10 := (((HTO.out.is.below HB7.out).below (HB9.out)).below HB10.out)
       refine (Fire_calls hI10 9).mono ?_
       rintro e w11 ⟨v11, out, N11, ps11, rfl, hR, hto, _, h11⟩
       rcases h11 with ⟨h11, _⟩ | ⟨_, rfl, rfl⟩
       · exact absurd h11 idle7
       have HX := Aside0.mk hR
       rw [fired7] at hR
       rw [left7] at hto
       obtain ⟨A11, c11, rfl⟩ := Kd.R_slice hR
       have HR11 := Aside0.mk hR
       have HT11 := Aside0.mk hto
       have hF11 := Kd.F_step (Kd.F_below (Kd.F_below (Kd.F_below HF6.out HB7.out) HB9.out) HB10.out) (fun k hk hlt => hto.fr.block k hlt (fun h => by
         rcases h with h | h
         · have := h.2; have := hk.1; omega
         · have := h.1; have := hk.2; omega))
       obtain ⟨ad, rfl, x0, x1, x2, x3⟩ := at_T70 (Kd.F_now hF11) 0 (by decide) (by decide)
       have ea : ad.add ((0 : Int).toNat * 4) = ad := add0 ad
       rw [ea] at x0 x1 x2 x3
       have HTT : Aside0 (IsS (fun k => w7.heap.size ≤ k ∧ k < w8.heap.size) N8 w11 q8 ⟨1, 10, 0, 1, [p7]⟩) := ⟨(HT9.out.below HB10.out).fr hto.fr (fun k hk h => by
         rcases hk with hk | hk
         · have := hk.2; have := h.1; have := HB5.out.size; have := HTO.out.fr.size; have := HB7.out.size; omega
         · have := h.1; have := hk.2; have := HB7.out.size; omega)⟩
       have KT := Len_st HTT.out
       dsimp only at KT
       clear hI10 hR hto HX hF11 ea)
    | (go_at_call 26; refine KT.mono ?_; clear KT; rintro e w12 ⟨rfl, rfl⟩)
    | (go_at_call 26; refine KS.mono ?_; clear KS; rintro e w12 ⟨rfl, rfl⟩)
    | (go_at_call 18
       obtain ⟨k, hk⟩ := Th.records_ev [⟨1, 9, 7⟩] (by decide)
       have hn := R_one39 w12 w12.heap.size (Nat.le_refl _) ⟨1, 9, 7⟩
       refine (leathelp_Records.calls k A11 c11 [⟨1, 9, 7⟩] _ _ [⟨1, 9, 7⟩] true _ (Kd.C_alloc (Kd.R_reads' HR11.out).2.2 _) (Kd.R_reads' HR11.out).2.1 (Kd.R_reads' hn).2.2 (Kd.R_reads' hn).2.1 (hk k (Nat.le_refl _))).mono ?_
       rintro e w14 ⟨rfl, hd⟩
       have HD := Aside0.mk hd.below
       have KS := Len_st ((HT11.out.is.below ((Below.refl w12.heap.size w12).alloc (Nat.le_refl _) (.cells #[.int .i64 1, .int .i64 9, .int .i64 7] 39))).below HD.out)
       dsimp only at KS
       clear hk hn hd)
    | fail)
  go_ret
  refine ⟨rfl, ?_⟩
  have b1 := HB1.out
  have s1 := b1.size
  have b4 := b1.trans (HB4.out.mono b1.size)
  have b5 := b4.trans (HB5.out.mono b4.size)
  have s5 := b5.size
  have b6 := b5.trans (HTO.out.fr.toBelow (B := w.heap.size) b5.size (fun k _ h => by have := h.1; omega))
  have b7 := b6.trans (HB7.out.mono b6.size)
  have b9 := b7.trans (HB9.out.mono b7.size)
  have b10 := b9.trans (HB10.out.mono b9.size)
  have b12 := b10.trans (HT11.out.fr.toBelow (B := w.heap.size) b10.size (fun k _ h => by
    rcases h with h | h
    · have := h.1; omega
    · have := h.1; omega))
  have b13 := b12.alloc b12.size (.cells #[.int .i64 1, .int .i64 9, .int .i64 7] 39)
  exact b13.trans (HD.out.mono b13.size)
end Go.Proofs.Ytjegeghigfmkoaa.T
namespace Go.Proofs.Ytjegeghigfmkoaa.T
open Go.RowKit Go.Maps Go.Sort Go.Proofs Go.Proofs.Ytjegeghigfmkoaa Go.Proofs.Ytjegeghigfmkoaa.X Go.Proofs.YtjegeghigfmkoaaW.PrintWords Go.Proofs.YtjegeghigfmkoaaW.PrintLast Go.Proofs.YtjegeghigfmkoaaW.PrintMore
set_option linter.unusedVariables false
set_option linter.unusedSimpArgs false
set_option maxRecDepth 100000
variable {F : Nat → Prop} {N : Nat} {w w' : World} {q b1 b2 : Nat} {tv : Value} {tm : List Int} {s : St}
theorem fit_any (kind size slide a : Int) : ∃ b : Bool, (b = true → Th.FitA kind size slide a) ∧ ∀ W, Calls Try.prog 10 #[aggW kind size slide, .int .i64 a] W fun e w' => e = .returned (.bool b) ∧ Below W.heap.size W w' := by
  obtain ⟨b, hb, k, hk⟩ := Th.fit_sp kind size slide a
  exact ⟨b, hb, fun W => leatlaw12_fit.calls k kind size slide a b W (hk k (Nat.le_refl _))⟩
theorem time_any (t : Int) (W : World) : Calls Try.prog 14 #[.int .i64 t] W fun e w' => e = .returned (.bool (decide (Th.TimeOk t))) ∧ Below W.heap.size W w' :=
  (leatlaw12_time.calls t _ W (Th.time_eq t)).mono fun e w' h => ⟨h.1, h.2.below⟩
def spansS (kind size slide t : Int) : List S68 := if kind = 0 then [⟨-9223372036854775808, 2199023255553⟩] else Th.spansP kind size slide t
theorem back_bounds (size slide t : Int) (hs : 1 ≤ slide) : ∀ (n : Nat) (s : Int), s ≤ t → ∀ x ∈ Th.backL size slide t n s, x.f0 ≤ t ∧ t < x.f0 + size ∧ x.f1 = x.f0 + size
  | 0, _, _, x, hx => by cases hx
  | n + 1, s, h, x, hx => by
    rw [Th.backL] at hx
    split at hx
    · rename_i hc
      rcases List.mem_cons.1 hx with rfl | hx
      · exact ⟨h, hc, rfl⟩
      · exact back_bounds size slide t hs n (s - slide) (by omega) x hx
    · cases hx
theorem sp_bounds {kind size slide t : Int} (hf : Th.Fit kind size slide) : ∀ x ∈ Th.spansP kind size slide t, x.f0 ≤ t ∧ t < x.f0 + size ∧ x.f1 = x.f0 + size := by
  have h1 := hf.s1
  unfold Th.spansP
  intro x hx
  split at hx
  · rw [List.mem_singleton.1 hx]
    have := Th.fl_bounds t size h1
    exact ⟨this.1, by show t < Th.fl t size + size; omega, rfl⟩
  · split at hx
    · rw [List.mem_singleton.1 hx]
      exact ⟨Int.le_refl _, by show t < t + size; omega, rfl⟩
    · have hk : kind = 2 := by have := hf.k1; have := hf.k3; omega
      have hsl := hf.sl hk
      have := Th.fl_bounds t slide hsl.1
      exact back_bounds size slide t hsl.1 64 _ this.1 x (List.mem_reverse.1 hx)
theorem spansS_64 {kind size slide a t : Int} (hf : Th.FitA kind size slide a) (ht : Th.TimeOk t) : ∀ x ∈ spansS kind size slide t, (I64 x.f0 ∧ I64 x.f1) ∧ x.f0 < x.f1 ∧ -9223372036854775808 < wrap64 (x.f1 - 1) := by
  intro x hx
  unfold spansS at hx
  split at hx
  · rw [List.mem_singleton.1 hx]
    refine ⟨⟨by unfold I64; decide, by unfold I64; decide⟩, by decide, by unfold wrap64; decide⟩
  · rename_i hk
    have hf := hf.2.resolve_left (fun h => hk h.1)
    have hb := sp_bounds hf x hx
    have h1 := hf.s1
    have h2 := hf.s2
    unfold Th.TimeOk at ht
    unfold I64 wrap64
    omega
theorem spansS_len (kind size slide t : Int) : (spansS kind size slide t).length ≤ 64 := by
  unfold spansS
  split
  · decide
  · exact Th.spansP_len _ _ _ _
theorem spansS_is {kind size slide a t : Int} (hf : Th.FitA kind size slide a) (ht : Th.TimeOk t) : SpS kind size slide t (spansS kind size slide t) := by
  unfold spansS
  by_cases hk : kind = 0
  · rw [if_pos hk]
    exact Or.inl ⟨hk, rfl⟩
  · rw [if_neg hk]
    obtain ⟨k, h⟩ := Th.spans_ev (hf.2.resolve_left (fun h => hk h.1)) ht
    exact Or.inr ⟨hk, k, h k (Nat.le_refl _)⟩
inductive PutsAll (kind size slide a : Int) (ps0 : List S70) : List S39 → List S70 → Prop
  | nil : PutsAll kind size slide a ps0 [] ps0
  | snoc {rs : List S39} {r : S39} {ps1 ps2 : List S70} (h : PutsAll kind size slide a ps0 rs ps1) (k : Puts kind a r.f0 r.f2 ps1 (spansS kind size slide r.f1) ps2) : PutsAll kind size slide a ps0 (rs ++ [r]) ps2
structure Hs (B0 : Nat) (w0 : World) (F : Nat → Prop) (N : Nat) (w : World) (q : Nat) (kind size slide a : Int) (ps : List S70) : Prop where
  is : IsS F N w q ⟨kind, size, slide, a, ps⟩
  bl : Below B0 w0 w
  bs : B0 ≤ w.heap.size
  low : ∀ k, F k → B0 ≤ k
theorem Hs.below {B0 : Nat} {w0 : World} {kind size slide a : Int} {ps : List S70} (h : Hs B0 w0 F N w q kind size slide a ps) (hb : Below w.heap.size w w') : Hs B0 w0 F N w' q kind size slide a ps :=
  ⟨h.is.below hb, h.bl.trans (hb.mono h.bs), Nat.le_trans h.bs hb.size, h.low⟩
theorem Hs.to {B0 : Nat} {w0 : World} {kind size slide a : Int} {ps ps' : List S70} {N' : Nat} (h : Hs B0 w0 F N w q kind size slide a ps) (ht : To F w w' N' q ⟨kind, size, slide, a, ps'⟩) : Hs B0 w0 (Fx F w w') N' w' q kind size slide a ps' :=
  ⟨ht.is, h.bl.trans (ht.fr.toBelow h.bs (fun k _ hk => h.low k hk)), Nat.le_trans h.bs ht.fr.size, fun k hk => by
    have := h.bs
    rcases hk with hk | hk
    · exact h.low k hk
    · omega⟩
theorem Hs.put {B0 : Nat} {w0 : World} {kind size slide a : Int} {ps ps0 : List S70} {rs : List S39} (h : Hs B0 w0 F N w q kind size slide a ps) (hf : Th.FitA kind size slide a) (r : S39) (hr : I64 r.f0 ∧ I64 r.f2) (ht : Th.TimeOk r.f1) (hp : PutsAll kind size slide a ps0 rs ps) (hN : N + ps.length + 128 ≤ 1000000) :
    Calls Try.prog 15 #[.pointer (some ⟨q, 0, none⟩), aggR r] w fun e w' => e = .returned (.tuple #[]) ∧ Fr F w w' ∧ ∃ N' ps', Hs B0 w0 (Fx F w w') N' w' q kind size slide a ps' ∧ N' + ps'.length ≤ N + ps.length + 128 ∧ PutsAll kind size slide a ps0 (rs ++ [r]) ps' := by
  have hl := spansS_len kind size slide r.f1
  refine (Put_calls h.is r hr (spansS kind size slide r.f1) (spansS_is hf ht) (fun x hx => (spansS_64 hf ht x hx).1) hl hN).mono ?_
  rintro e w' ⟨rfl, N', ps', hto, hpot, hput⟩
  exact ⟨rfl, hto.fr, N', ps', h.to hto, by have : N' + ps'.length ≤ N + ps.length + 2 * (spansS kind size slide r.f1).length := hpot; omega, .snoc hp hput⟩
theorem New_hs (w : World) (kind size slide a : Int) : Calls Try.prog 11 #[aggW kind size slide, .int .i64 a] w fun e w' => ∃ q, e = .returned (.pointer (some ⟨q, 0, none⟩)) ∧ Hs w.heap.size w (fun k => w.heap.size ≤ k ∧ k < w'.heap.size) 0 w' q kind size slide a [] ∧ Below w.heap.size w w' :=
  (New_calls w kind size slide a).mono fun e w' ⟨q, h1, h2, h3⟩ => ⟨q, h1, ⟨h2, h3, h3.size, fun k hk => hk.1⟩, h3⟩
structure RecL (w0 : World) (A : Option Addr) (l : List S39) : Prop where
  c : ∀ W, Below w0.heap.size w0 W → Kd.C k39 W A l.length l
  i64 : ∀ r ∈ l, I64 r.f0 ∧ I64 r.f2
end Go.Proofs.Ytjegeghigfmkoaa.T
namespace Go.Proofs.Ytjegeghigfmkoaa.T
open Go.RowKit Go.Maps Go.Sort Go.Proofs Go.Proofs.Ytjegeghigfmkoaa Go.Proofs.Ytjegeghigfmkoaa.X Go.Proofs.YtjegeghigfmkoaaW.PrintWords Go.Proofs.YtjegeghigfmkoaaW.PrintLast Go.Proofs.YtjegeghigfmkoaaW.PrintMore
set_option linter.unusedVariables false
set_option linter.unusedSimpArgs false
set_option maxRecDepth 100000
variable {F : Nat → Prop} {N : Nat} {w w' : World} {q b1 b2 : Nat} {tv : Value} {tm : List Int} {s : St}
theorem place_any (x : Int) (n : Nat) (hn : 0 < n) (hn2 : n ≤ 1000000000) : ∃ i : Nat, i < n ∧ ∀ W, Calls Try.prog 30 #[.int .i64 x, .int .i64 (n : Int)] W fun e w' => e = .returned (.int .i64 (i : Int)) ∧ Below W.heap.size W w' := by
  have h0 := Int.tmod_lt_of_pos x (b := (n : Int)) (by omega)
  have h1 := Int.lt_tmod_of_pos x (b := (n : Int)) (by omega)
  by_cases h : Int.tmod x n < 0
  · refine ⟨(Int.tmod x n + n).toNat, by omega, fun W => (leathelp_Place.calls x n _ W (by unfold leathelp_Place.f; rw [if_neg (by omega), if_pos h])).mono fun e w' hh => ⟨?_, hh.2.below⟩⟩
    rw [hh.1]
    have : wrap64 (Int.tmod x n + n) = ((Int.tmod x n + n).toNat : Int) := by unfold wrap64; omega
    rw [this]
  · refine ⟨(Int.tmod x n).toNat, by omega, fun W => (leathelp_Place.calls x n _ W (by unfold leathelp_Place.f; rw [if_neg (by omega), if_neg h])).mono fun e w' hh => ⟨?_, hh.2.below⟩⟩
    rw [hh.1]
    have : Int.tmod x n = ((Int.tmod x n).toNat : Int) := by omega
    rw [← this]
theorem bytesEq_l0 (l : List Int) (hn : l.length < 4611686018427387904) : ∀ (d i : Nat), l.length = i + d → Ev (fun k => leathelp_Bytes.l0 k l l (i : Int)) true
  | 0, i, h => by
    refine Ev.step (f := fun _ => some true) (fun k => ?_) (Ev.now _)
    simp only [leathelp_Bytes.l0]; rw [if_neg (by omega)]
  | d + 1, i, h => by
    refine Ev.step (fun k => ?_) (bytesEq_l0 l hn d (i + 1) (by omega))
    simp only [leathelp_Bytes.l0]
    rw [if_pos (by omega), if_pos (by omega), if_pos (by omega), if_pos trivial, Th.step_i (show i < l.length by omega) hn]
theorem bytesEq_ev (l : List Int) (hn : l.length < 4611686018427387904) : Ev (fun k => leathelp_Bytes.f k l l) true :=
  Ev.congr (fun k => by rw [leathelp_Bytes.f, if_pos rfl]; rfl) (bytesEq_l0 l hn l.length 0 (by omega))
theorem bytesEq_any {W : World} {A0 A1 : Option Addr} {c0 c1 : Nat} {l : List Int} (h0 : Kd.C (Kd.int .u8) W A0 l.length l) (hc0 : l.length ≤ c0) (h1 : Kd.C (Kd.int .u8) W A1 l.length l) (hc1 : l.length ≤ c1) (hl : l.length ≤ 100000000) :
    Calls Try.prog 27 #[.slice A0 l.length c0, .slice A1 l.length c1] W fun e w' => e = .returned (.bool true) ∧ Below W.heap.size W w' := by
  obtain ⟨k, hk⟩ := bytesEq_ev l (by omega)
  exact (leathelp_Bytes.calls k A0 c0 l A1 c1 l true W h0 hc0 h1 hc1 (hk k (Nat.le_refl _))).mono fun e w' h => ⟨h.1, h.2.below⟩
structure L2 (w w9 : World) (kind size slide : Int) (g7 : Nat) (cx : List Int) (wr : World) : Prop where
  bl : Below w.heap.size w wr
  b9 : Below w9.heap.size w9 wr
  hw : wr.heap[w.heap.size]? = some (.cells #[.int .i64 kind, .int .i64 size, .int .i64 slide] 23 (0, 0))
theorem L2.below {w9 wr w' : World} {kind size slide : Int} {g7 : Nat} {cx : List Int} (h : L2 w w9 kind size slide g7 cx wr) (hb : Below wr.heap.size wr w') : L2 w w9 kind size slide g7 cx w' :=
  ⟨h.bl.trans (hb.mono h.bl.size), h.b9.trans (hb.mono h.b9.size), blk_below h.hw hb⟩
structure Lr (w1 : World) (kind size slide a : Int) (l : List S39) (i : Nat) (q : Nat) (wr : World) (F1 : Nat → Prop) (N1 : Nat) (ps : List S70) : Prop where
  hs : Hs w1.heap.size w1 F1 N1 wr q kind size slide a ps
  puts : PutsAll kind size slide a [] (l.take i) ps
  pot : N1 + ps.length ≤ 128 * i
end Go.Proofs.Ytjegeghigfmkoaa.T
namespace Go.Proofs.Ytjegeghigfmkoaa.T
open Go.RowKit Go.Sort Go.Proofs.YtjegeghigfmkoaaW.PrintWords Go.Proofs.YtjegeghigfmkoaaW.PrintMore Go.Proofs.Ytjegeghigfmkoaa Go.Proofs.Ytjegeghigfmkoaa.So Go.Proofs.Ytjegeghigfmkoaa.X Go.Proofs.Ytjegeghigfmkoaa.Nf Go.Proofs.Ytjegeghigfmkoaa.Th
set_option linter.unusedVariables false
set_option linter.unusedSimpArgs false
theorem fitA_ok {kind size slide a : Int} (h : FitA kind size slide a) : aggOk a = true := by
  unfold aggOk
  exact decide_eq_true (by have := h.1; omega)
theorem putsAll_rs {kind size slide a : Int} (hf : FitA kind size slide a) {rs : List S39} {ps : List S70} (h : PutsAll kind size slide a [] rs ps) (hr : ∀ r ∈ rs, TimeOk r.f1 ∧ Go.Proofs.Ytjegeghigfmkoaa.I64 r.f2) :
    RSk kind a (ones a (spansS kind size slide) rs) ps ∧ NK kind ps ∧ ∀ p ∈ ps, Prp p := by
  induction h with
  | nil => exact ⟨.done (.refl _), List.Pairwise.nil, fun p hp => by cases hp⟩
  | @snoc rs r ps1 ps2 h k ih =>
    obtain ⟨i1, i2, i3⟩ := ih (fun x hx => hr x (List.mem_append_left _ hx))
    have hr1 := hr r (List.mem_append_right _ (List.mem_singleton.2 rfl))
    obtain ⟨j1, j2, j3⟩ := puts_rs (fitA_ok hf) hr1.2 k i2 i3 (fun s hs => (spansS_64 hf hr1.1 s hs).2.1)
    refine ⟨?_, j2, j3⟩
    rw [ones_snoc]
    exact RS.trans (RS.app i1 _) j1
theorem putsAll_is {kind size slide a : Int} (hf : FitA kind size slide a) {rs : List S39} {ps : List S70} (h : PutsAll kind size slide a [] rs ps) (hr : ∀ r ∈ rs, TimeOk r.f1 ∧ Go.Proofs.Ytjegeghigfmkoaa.I64 r.f2) :
    Is kind a (ones a (spansS kind size slide) rs) (sortP ps) := by
  obtain ⟨h1, h2, _⟩ := putsAll_rs hf h hr
  exact Is.sort (fitA_ok hf) h1 h2
theorem putsAll_order {kind size slide a : Int} (hf : FitA kind size slide a) {rs rs' : List S39} {ps ps' : List S70} (h : PutsAll kind size slide a [] rs ps) (h' : PutsAll kind size slide a [] rs' ps') (hp : rs.Perm rs') (hr : ∀ r ∈ rs, TimeOk r.f1 ∧ Go.Proofs.Ytjegeghigfmkoaa.I64 r.f2) :
    sortP ps = sortP ps' :=
  (putsAll_is hf h hr).unique (fitA_ok hf) (putsAll_is hf h' (fun r hr' => hr r (hp.mem_iff.2 hr'))) (ones_perm a _ hp)
theorem same_sym {x y : S70} (h : same x y = false) : same y x = false := by
  cases hs : same y x with
  | false => rfl
  | true =>
    have h4 := (same_iff _ _).1 hs
    have h5 : same x y = true := (same_iff _ _).2 ⟨h4.1.symm, h4.2.symm⟩
    rw [h5] at h
    cases h
theorem load_new {a : Int} : ∀ (l acc : List S70), Apart l → (∀ x ∈ l, ∀ y ∈ acc, same x y = false) → l.foldl (loadP a) acc = l.reverse ++ acc
  | [], acc, _, _ => rfl
  | x :: l, acc, h, hno => by
    have h2 := List.pairwise_cons.1 h
    have hx := hno x (List.mem_cons_self ..)
    have hh : hasP x acc = false := by
      cases hh : hasP x acc with
      | false => rfl
      | true =>
        obtain ⟨y, hy, hs⟩ := List.any_eq_true.1 hh
        rw [hx y hy] at hs
        cases hs
    have e : loadP a acc x = x :: acc := by
      unfold loadP
      rw [if_neg (by rw [hh]; decide)]
      unfold layP
      rw [out_none hx]
    rw [List.foldl_cons, e, load_new l (x :: acc) h2.2 (fun z hz y hy => by
      rcases List.mem_cons.1 hy with rfl | hy
      · exact same_sym (h2.1 z hz)
      · exact hno z (List.mem_cons_of_mem _ hz) y hy)]
    simp
theorem loadL_apart {a : Int} {l : List S70} (h : Apart l) : loadL a l = l.reverse := by
  have := load_new (a := a) l [] h (fun _ _ y hy => by cases hy)
  rw [List.append_nil] at this
  exact this
end Go.Proofs.Ytjegeghigfmkoaa.T
namespace Go.Proofs.Ytjegeghigfmkoaa.T
open Go.RowKit Go.Sort Go.Proofs.YtjegeghigfmkoaaW.PrintWords Go.Proofs.YtjegeghigfmkoaaW.PrintMore Go.Proofs.Ytjegeghigfmkoaa Go.Proofs.Ytjegeghigfmkoaa.So Go.Proofs.Ytjegeghigfmkoaa.X Go.Proofs.Ytjegeghigfmkoaa.Nf Go.Proofs.Ytjegeghigfmkoaa.Th
set_option linter.unusedVariables false
set_option linter.unusedSimpArgs false
theorem load_norm {kind a : Int} (ha : aggOk a = true) {l : List S70} (hN : NK kind l) (hP : ∀ p ∈ l, Prp p) : (loadL a (loadOf kind a l)).Perm l := by
  have hl : (loadOf kind a l).Perm l := by
    unfold loadOf
    split
    · rename_i hk
      subst hk
      have h1 := join_is ha l
      have h2 : Is 3 a l (sortP l) := Is.sort ha (.done (.refl _)) hN
      rw [h1.unique ha h2 (.refl _)]
      exact sortP_perm l
    · exact .refl _
  have hap : Apart (loadOf kind a l) := nk_apart (Normal.perm (mgK kind ha) hN hl.symm) (fun p hp => hP p (hl.mem_iff.1 hp))
  rw [loadL_apart hap]
  exact (List.reverse_perm _).trans hl
theorem firedL_perm {kind size slide a : Int} (ha : aggOk a = true) {ps : List S70} (hN : NK kind ps) (hP : ∀ p ∈ ps, Prp p) (m : Int) : (firedL ⟨kind, size, slide, a, ps⟩ m).Perm (leftR m (sortP ps)) := by
  unfold firedL
  refine load_norm ha (List.Pairwise.sublist List.filter_sublist (Normal.perm (mgK kind ha) hN (sortP_perm ps).symm)) (fun p hp => hP p (leftR_mem hp))
end Go.Proofs.Ytjegeghigfmkoaa.T
namespace Go.Proofs.Ytjegeghigfmkoaa.T
open Go.RowKit Go.Maps Go.Sort Go.Proofs Go.Proofs.Ytjegeghigfmkoaa Go.Proofs.Ytjegeghigfmkoaa.X Go.Proofs.YtjegeghigfmkoaaW.PrintWords Go.Proofs.YtjegeghigfmkoaaW.PrintLast Go.Proofs.YtjegeghigfmkoaaW.PrintMore
set_option linter.unusedVariables false
set_option linter.unusedSimpArgs false
set_option maxRecDepth 100000
variable {F F1 F2 : Nat → Prop} {N N1 N2 B0 : Nat} {w w0 w' : World} {q q1 q2 : Nat} {s : St} {kind size slide a : Int} {ps ps1 ps2 ps0 : List S70}
structure H2 (B0 : Nat) (w0 : World) (F1 : Nat → Prop) (N1 : Nat) (F2 : Nat → Prop) (N2 : Nat) (w : World) (q1 q2 : Nat) (kind size slide a : Int) (ps1 ps2 : List S70) : Prop where
  s : Hs B0 w0 F1 N1 w q1 kind size slide a ps1
  t : Hs B0 w0 F2 N2 w q2 kind size slide a ps2
  ap : ∀ k, F1 k → ¬ F2 k
theorem H2.symm (h : H2 B0 w0 F1 N1 F2 N2 w q1 q2 kind size slide a ps1 ps2) : H2 B0 w0 F2 N2 F1 N1 w q2 q1 kind size slide a ps2 ps1 := ⟨h.t, h.s, fun k h2 h1 => h.ap k h1 h2⟩
theorem H2.below (h : H2 B0 w0 F1 N1 F2 N2 w q1 q2 kind size slide a ps1 ps2) (hb : Below w.heap.size w w') : H2 B0 w0 F1 N1 F2 N2 w' q1 q2 kind size slide a ps1 ps2 := ⟨h.s.below hb, h.t.below hb, h.ap⟩
theorem H2.to {ps' : List S70} {N' : Nat} (h : H2 B0 w0 F1 N1 F2 N2 w q1 q2 kind size slide a ps1 ps2) (ht : To F1 w w' N' q1 ⟨kind, size, slide, a, ps'⟩) : H2 B0 w0 (Fx F1 w w') N' F2 N2 w' q1 q2 kind size slide a ps' ps2 := by
  have h1 := h.s.to ht
  exact ⟨h1, ⟨h.t.is.fr ht.fr h.ap, h1.bl, h1.bs, h.t.low⟩, fun k hk => by
    rcases hk with hk | hk
    · exact h.ap k hk
    · intro h2
      have := h.t.is.bound k h2
      omega⟩
theorem H2.fr {M : Nat → Prop} (h : H2 B0 w0 F1 N1 F2 N2 w q1 q2 kind size slide a ps1 ps2) (hf : Fr M w w') (hM : ∀ k, M k → ¬ F1 k ∧ ¬ F2 k ∧ B0 ≤ k) : H2 B0 w0 F1 N1 F2 N2 w' q1 q2 kind size slide a ps1 ps2 := by
  have hb : Below B0 w0 w' := h.s.bl.trans (hf.toBelow h.s.bs (fun k _ hk => (hM k hk).2.2))
  have hs : B0 ≤ w'.heap.size := Nat.le_trans h.s.bs hf.size
  exact ⟨⟨h.s.is.fr hf (fun k hk => (hM k hk).1), hb, hs, h.s.low⟩, ⟨h.t.is.fr hf (fun k hk => (hM k hk).2.1), hb, hs, h.t.low⟩, h.ap⟩
theorem H2.new (h : Hs B0 w0 F1 N1 w q1 kind size slide a ps1) (k : Hs w.heap.size w (fun k => w.heap.size ≤ k ∧ k < w'.heap.size) 0 w' q2 kind size slide a []) (hb : Below w.heap.size w w') : H2 B0 w0 F1 N1 (fun k => w.heap.size ≤ k ∧ k < w'.heap.size) 0 w' q1 q2 kind size slide a ps1 [] := by
  have h1 := h.below hb
  exact ⟨h1, ⟨k.is, h1.bl, h1.bs, fun k hk => Nat.le_trans h.bs hk.1⟩, fun k hk h2 => by
    have := h.is.bound k hk
    omega⟩
def SpA (kind size slide t : Int) (sp : List S68) : Prop := kind = 0 ∧ sp = [⟨-9223372036854775808, 2199023255553⟩] ∨ kind ≠ 0 ∧ Ev (fun k => window_Spans.f k kind size slide t) sp
theorem SpA.ok {t : Int} {sp : List S68} (hf : Th.FitA kind size slide a) (ht : Th.TimeOk t) (h : SpA kind size slide t sp) : sp = spansS kind size slide t := by
  unfold spansS
  rcases h with ⟨hk, rfl⟩ | ⟨hk, h⟩
  · rw [if_pos hk]
  · rw [if_neg hk]
    exact Th.ev_unique h (Th.spans_ev (hf.2.resolve_left (fun h => hk h.1)) ht)
def Sp64 (x : S68) : Prop := I64 x.f0 ∧ I64 x.f1
theorem below_64 (t n : Int) (hn : 1 ≤ n) : ∃ v, window_below.f t n = some v ∧ I64 v := by
  unfold window_below.f
  rw [if_neg (by omega)]
  split <;> exact ⟨_, rfl, wrap64_in _⟩
theorem spans64_l (kind size slide t : Int) (n : Nat) : ∀ (x : List S68) (s : Int), x.length + n = 64 → I64 s → (∀ y ∈ x, Sp64 y) → Th.Sp (fun r => r.length ≤ 64 ∧ ∀ y ∈ r, Sp64 y) (fun k => window_Spans.l0 k t x s kind size slide) := by
  induction n with
  | zero =>
    intro x s hx hs h
    have hrev := Th.rev_ev x (by omega)
    refine ⟨x.reverse, ⟨by simp; omega, fun y hy => h y (List.mem_reverse.1 hy)⟩, ?_⟩
    by_cases hc : wrap64 (s + size) > t
    · refine Ev.step (fun k => ?_) (Ev.bind hrev (Ev.now _))
      simp only [window_Spans.l0]
      rw [if_pos hc, if_neg (by omega)]
    · refine Ev.step (fun k => ?_) (Ev.bind hrev (Ev.now _))
      simp only [window_Spans.l0]
      rw [if_neg hc]
  | succ n ih =>
    intro x s hx hs h
    by_cases hc : wrap64 (s + size) > t
    · obtain ⟨r, hr, hev⟩ := ih (x ++ [⟨s, wrap64 (s + size)⟩]) (wrap64 (s - slide)) (by simp; omega) (wrap64_in _) (fun y hy => by
        rcases List.mem_append.1 hy with hy | hy
        · exact h y hy
        · rw [List.mem_singleton.1 hy]; exact ⟨hs, wrap64_in _⟩)
      refine ⟨r, hr, Ev.step (fun k => ?_) hev⟩
      simp only [window_Spans.l0]
      rw [if_pos hc, if_pos (by omega), if_pos (by omega)]
    · have hrev := Th.rev_ev x (by omega)
      refine ⟨x.reverse, ⟨by simp; omega, fun y hy => h y (List.mem_reverse.1 hy)⟩, Ev.step (fun k => ?_) (Ev.bind hrev (Ev.now _))⟩
      simp only [window_Spans.l0]
      rw [if_neg hc]
theorem spans_64 (hf : Th.Fit kind size slide) {t : Int} (ht : I64 t) : Th.Sp (fun r => r.length ≤ 64 ∧ ∀ y ∈ r, Sp64 y) (fun k => window_Spans.f k kind size slide t) := by
  have hs1 := hf.s1
  have e : ∀ k, window_Spans.f k kind size slide t = window_Spans.j0 k t false kind size slide := fun k => by
    rw [window_Spans.f, if_neg (by omega)]
    by_cases h2 : kind = 2
    · have := hf.sl h2
      rw [if_pos h2, decide_eq_false (by omega)]
    · rw [if_neg h2]
  by_cases h1 : kind = 1
  · obtain ⟨v, hv, h64⟩ := below_64 t size hs1
    refine ⟨[⟨v, wrap64 (v + size)⟩], ⟨by simp, fun y hy => by rw [List.mem_singleton.1 hy]; exact ⟨h64, wrap64_in _⟩⟩, Ev.congr e (Ev.step (f := fun _ => some _) (fun k => ?_) (Ev.now _))⟩
    simp only [window_Spans.j0]
    rw [if_neg (by simp), if_pos h1, hv, Option.bind_some]
  · by_cases h3 : kind = 3
    · refine ⟨[⟨t, wrap64 (t + size)⟩], ⟨by simp, fun y hy => by rw [List.mem_singleton.1 hy]; exact ⟨ht, wrap64_in _⟩⟩, Ev.congr e (Ev.step (f := fun _ => some _) (fun k => ?_) (Ev.now _))⟩
      simp only [window_Spans.j0]
      rw [if_neg (by simp), if_neg h1, if_pos h3]
    · have h2 : kind = 2 := by have := hf.k1; have := hf.k3; omega
      obtain ⟨v, hv, h64⟩ := below_64 t slide (hf.sl h2).1
      obtain ⟨r, hr, hev⟩ := spans64_l kind size slide t 64 [] v rfl h64 (fun y hy => by cases hy)
      refine ⟨r, hr, Ev.congr e (Ev.step (fun k => ?_) hev)⟩
      simp only [window_Spans.j0]
      rw [if_neg (by simp), if_neg h1, if_neg h3, if_pos h2, hv, Option.bind_some]
theorem spA_any (hf : Th.FitA kind size slide a) {t : Int} (ht : I64 t) : ∃ sp, SpA kind size slide t sp ∧ SpS kind size slide t sp ∧ (∀ x ∈ sp, I64 x.f0 ∧ I64 x.f1) ∧ sp.length ≤ 64 := by
  by_cases hk : kind = 0
  · exact ⟨_, Or.inl ⟨hk, rfl⟩, Or.inl ⟨hk, rfl⟩, fun x hx => by rw [List.mem_singleton.1 hx]; exact ⟨by unfold I64; decide, by unfold I64; decide⟩, by decide⟩
  · obtain ⟨r, ⟨h1, h2⟩, h3⟩ := spans_64 (hf.2.resolve_left (fun h => hk h.1)) ht
    obtain ⟨k, h4⟩ := id h3
    exact ⟨r, Or.inr ⟨hk, h3⟩, Or.inr ⟨hk, k, h4 k (Nat.le_refl _)⟩, h2, h1⟩
inductive PutsX (kind size slide a : Int) (ps0 : List S70) : List S39 → List S70 → Prop
  | nil : PutsX kind size slide a ps0 [] ps0
  | snoc {rs : List S39} {r : S39} {ps1 ps2 : List S70} {sp : List S68} (h : PutsX kind size slide a ps0 rs ps1) (hs : SpA kind size slide r.f1 sp) (k : Puts kind a r.f0 r.f2 ps1 sp ps2) : PutsX kind size slide a ps0 (rs ++ [r]) ps2
theorem PutsX.ok (hf : Th.FitA kind size slide a) {rs : List S39} (h : PutsX kind size slide a ps0 rs ps) (ht : ∀ r ∈ rs, Th.TimeOk r.f1) : PutsAll kind size slide a ps0 rs ps := by
  induction h with
  | nil => exact .nil
  | @snoc rs r ps1 ps2 sp h hs k ih =>
    refine .snoc (ih (fun x hx => ht x (List.mem_append_left _ hx))) ?_
    rw [← hs.ok hf (ht r (List.mem_append_right _ (List.mem_singleton.2 rfl)))]
    exact k
theorem H2.put1 {rs : List S39} (h : H2 B0 w0 F1 N1 F2 N2 w q1 q2 kind size slide a ps1 ps2) (hf : Th.FitA kind size slide a) (r : S39) (hr : I64 r.f0 ∧ I64 r.f2) (ht : I64 r.f1) (hp : PutsX kind size slide a ps0 rs ps1) (hN : N1 + ps1.length + 128 ≤ 1000000) :
    Calls Try.prog 15 #[.pointer (some ⟨q1, 0, none⟩), aggR r] w fun e w' => e = .returned (.tuple #[]) ∧ Fr F1 w w' ∧ ∃ F' N' ps', H2 B0 w0 F' N' F2 N2 w' q1 q2 kind size slide a ps' ps2 ∧ N' + ps'.length ≤ N1 + ps1.length + 128 ∧ PutsX kind size slide a ps0 (rs ++ [r]) ps' := by
  obtain ⟨sp, h1, h2, h3, h4⟩ := spA_any hf ht
  refine (Put_calls h.s.is r hr sp h2 h3 h4 hN).mono ?_
  rintro e w' ⟨rfl, N', ps', hto, hpot, hput⟩
  exact ⟨rfl, hto.fr, _, N', ps', h.to hto, by have : N' + ps'.length ≤ N1 + ps1.length + 2 * sp.length := hpot; omega, .snoc hp h1 hput⟩
theorem H2.put2 {rs : List S39} (h : H2 B0 w0 F1 N1 F2 N2 w q1 q2 kind size slide a ps1 ps2) (hf : Th.FitA kind size slide a) (r : S39) (hr : I64 r.f0 ∧ I64 r.f2) (ht : I64 r.f1) (hp : PutsX kind size slide a ps0 rs ps2) (hN : N2 + ps2.length + 128 ≤ 1000000) :
    Calls Try.prog 15 #[.pointer (some ⟨q2, 0, none⟩), aggR r] w fun e w' => e = .returned (.tuple #[]) ∧ Fr F2 w w' ∧ ∃ F' N' ps', H2 B0 w0 F1 N1 F' N' w' q1 q2 kind size slide a ps1 ps' ∧ N' + ps'.length ≤ N2 + ps2.length + 128 ∧ PutsX kind size slide a ps0 (rs ++ [r]) ps' :=
  (h.symm.put1 hf r hr ht hp hN).mono fun e w' ⟨h1, hfr, F', N', ps', h2, h3, h4⟩ => ⟨h1, hfr, F', N', ps', h2.symm, h3, h4⟩
theorem time_64 {t : Int} (h : Th.TimeOk t) : I64 t := by unfold Th.TimeOk at h; unfold I64; omega
def flatR (rs : List S39) : List Value := rs.flatMap fun r => [.int .i64 r.f0, .int .i64 r.f1, .int .i64 r.f2]
theorem flatR_len (rs : List S39) : (flatR rs).length = rs.length * 3 := by
  induction rs with
  | nil => rfl
  | cons p r ih => unfold flatR at ih ⊢; rw [List.flatMap_cons, List.length_append, ih, List.length_cons]; simp; omega
theorem flatR_get : ∀ (l : List S39) (j c : Nat) (h : j < l.length), c < 3 → (flatR l)[j * 3 + c]? = ([.int .i64 l[j].f0, .int .i64 l[j].f1, .int .i64 l[j].f2] : List Value)[c]?
  | x :: l, 0, c, h, hc => by
    unfold flatR
    rw [List.flatMap_cons, Nat.zero_mul, Nat.zero_add, List.getElem?_append_left (by simpa using hc)]
    rfl
  | x :: l, j + 1, c, h, hc => by
    have ih := flatR_get l j c (by simpa using h) hc
    unfold flatR at ih ⊢
    rw [List.flatMap_cons, List.getElem?_append_right (by simp; omega)]
    have e : (j + 1) * 3 + c - ([.int .i64 x.f0, .int .i64 x.f1, .int .i64 x.f2] : List Value).length = j * 3 + c := by simp; omega
    rw [e, ih]
    rfl
theorem app39m {w : World} {base base' : Nat} {ok : Nat → Prop} {v : Value} {ps ms : List S39} {A : Option Addr} {c : Nat} (ho : w.ownsRow base 39 3 v ps.length (flatR ps)) (hb : base ≤ w.heap.size) (hm : Kd.R k39 39 w base' ok (.slice A ms.length c) ms) (hn : ps.length + ms.length ≤ 2000000) (ty : TypeId) :
    ∃ v' w', (Builtin.append_ #[47, 47] ty #[v, .slice A ms.length c]).run Try.prog w = .ok v' w' ∧ w'.ownsRow base 39 3 v' (ps ++ ms).length (flatR (ps ++ ms)) ∧ w.grownBy w' v.ownBlock ∧ (v'.ownBlock = v.ownBlock ∨ v'.ownBlock = some w.heap.size) := by
  obtain ⟨i0, hi, hz0, hz1, hz2⟩ := info_parts info39
  have hfl : flatR (ps ++ ms) = flatR ps ++ flatR ms := List.flatMap_append
  have hC := (Kd.R_reads' hm).2.2
  obtain ⟨_, inner, hown, hrp⟩ := hm
  rcases hown.2 with ⟨hv, hin⟩ | ⟨g, cap, cur, hv, _⟩
  · injection hv with e1 e2 e3
    subst e1
    subst e3
    have hms : ms = [] := List.eq_nil_of_length_eq_zero e2
    subst hms
    exact ⟨v, w, run_append_owned_none w base 47 ty 39 i0 3 Try.underlying47 hi v ps.length (flatR ps) ho, by rw [List.append_nil]; exact ho, ⟨rfl, rfl, rfl, Nat.le_refl _, fun _ _ _ => rfl⟩, Or.inl rfl⟩
  · injection hv with e1 e2 e3
    subst e1
    have hl : (flatR ms).length = ms.length * 3 := flatR_len ms
    have hcell : ∀ j u, (flatR ms)[j]? = some u → w.cell? ((⟨g, 0, none⟩ : Addr).add j) = some u := by
      intro j u hu
      have hj : j < (flatR ms).length := (List.getElem?_eq_some_iff.1 hu).1
      rw [hl] at hj
      obtain ⟨t, ht⟩ : ∃ t, j / 3 = t := ⟨_, rfl⟩
      obtain ⟨c4, hc4⟩ : ∃ c4, j % 3 = c4 := ⟨_, rfl⟩
      have hq : t < ms.length := by omega
      have hjt : j = t * 3 + c4 := by omega
      have hc : c4 < 3 := by omega
      have e4 : (flatR ms)[t * 3 + c4]? = _ := flatR_get ms t c4 hq hc
      rw [← hjt, hu] at e4
      obtain ⟨ad, cs, e, _, hK, hc0⟩ := Kd.C_get hC z39 (t : Int) (by omega) (by omega)
      cases e
      have hgd : ms.getD ((t : Int)).toNat z39 = ms[t] := by rw [Int.toNat_natCast]; simp [List.getD, hq]
      rw [hgd] at hK
      obtain rfl := k39_open hK
      have h := hc0 c4 u e4.symm
      rw [Int.toNat_natCast] at h
      rw [hjt]
      exact h
    obtain ⟨v', w', g1, g2, g3, _, g5⟩ := run_append_own_at (P := Try.prog) w base 47 ty 39 i0 _ 3 _ Try.underlying47 hi hz0 hz1 hz2 rfl (by decide) v ps.length (flatR ps) ho ⟨g, 0, none⟩ ms.length c (flatR ms) hl hcell (by
      intro u hu
      obtain ⟨x, _, hx⟩ := List.mem_flatMap.1 hu
      simp only [List.mem_cons, List.not_mem_nil, or_false] at hx
      rcases hx with rfl | rfl | rfl <;> rfl) (by unfold maxLen; omega) (by omega) hb
    exact ⟨v', w', g1, by rw [List.length_append, hfl]; exact g2, g3, g5⟩
structure Lu (B0 : Nat) (w0 : World) (kind size slide a : Int) (al : List S39) (q1 q2 : Nat) (w : World) (v : Value) (F1 : Nat → Prop) (N1 : Nat) (F2 : Nat → Prop) (N2 : Nat) (ps1 ps2 : List S70) : Prop where
  h2 : H2 B0 w0 F1 N1 F2 N2 w q1 q2 kind size slide a ps1 ps2
  row : w.ownsRow B0 39 3 v al.length (flatR al)
  free : ∀ g, v.ownBlock = some g → ¬ F1 g ∧ ¬ F2 g
theorem Lu.to {al : List S39} {v : Value} {ps' : List S70} {N' : Nat} (h : Lu B0 w0 kind size slide a al q1 q2 w v F1 N1 F2 N2 ps1 ps2) (ht : To F1 w w' N' q1 ⟨kind, size, slide, a, ps'⟩) : Lu B0 w0 kind size slide a al q1 q2 w' v (Fx F1 w w') N' F2 N2 ps' ps2 :=
  ⟨h.h2.to ht, own_fr h.row ht.fr (fun g hg => (h.free g hg).1), fun g hg => ⟨fun hf => by
    rcases hf with hf | hf
    · exact (h.free g hg).1 hf
    · have := (h.row.lt g hg).2
      omega, (h.free g hg).2⟩⟩
theorem Lu.below {al : List S39} {v : Value} (h : Lu B0 w0 kind size slide a al q1 q2 w v F1 N1 F2 N2 ps1 ps2) (hb : Below w.heap.size w w') : Lu B0 w0 kind size slide a al q1 q2 w' v F1 N1 F2 N2 ps1 ps2 :=
  ⟨h.h2.below hb, pw_own_below h.row hb, h.free⟩
theorem Lu.app {al out : List S39} {v : Value} {base' : Nat} {ok : Nat → Prop} {A : Option Addr} {c : Nat} (h : Lu B0 w0 kind size slide a al q1 q2 w v F1 N1 F2 N2 ps1 ps2) (hR : Kd.R k39 39 w base' ok (.slice A out.length c) out) (hn : al.length + out.length ≤ 2000000) (ty : TypeId) :
    ∃ v' w', (Builtin.append_ #[47, 47] ty #[v, .slice A out.length c]).run Try.prog w = .ok v' w' ∧ Lu B0 w0 kind size slide a (al ++ out) q1 q2 w' v' F1 N1 F2 N2 ps1 ps2 := by
  obtain ⟨v', w', h1, h2, h3, h4⟩ := app39m h.row h.h2.s.bs hR hn ty
  refine ⟨v', w', h1, ⟨h.h2.fr (M := fun k => some k = v.ownBlock) (Fr.of_grown h3 (fun j hj => hj.symm)) (fun k hk => ⟨(h.free k hk.symm).1, (h.free k hk.symm).2, (h.row.lt k hk.symm).1⟩), h2, fun g hg => ?_⟩⟩
  rcases h4 with h4 | h4
  · exact h.free g (h4 ▸ hg)
  · have e : g = w.heap.size := by rw [h4] at hg; exact (Option.some.inj hg).symm
    subst e
    exact ⟨fun hf => by have := h.h2.s.is.bound _ hf; omega, fun hf => by have := h.h2.t.is.bound _ hf; omega⟩
end Go.Proofs.Ytjegeghigfmkoaa.T
namespace Go.Proofs.Ytjegeghigfmkoaa.T
open Go.RowKit Go.Maps Go.Sort Go.Proofs Go.Proofs.Ytjegeghigfmkoaa Go.Proofs.Ytjegeghigfmkoaa.X Go.Proofs.YtjegeghigfmkoaaW.PrintWords Go.Proofs.YtjegeghigfmkoaaW.PrintLast Go.Proofs.YtjegeghigfmkoaaW.PrintMore
set_option linter.unusedVariables false
set_option linter.unusedSimpArgs false
set_option maxRecDepth 100000
variable {F F1 F2 : Nat → Prop} {N N1 N2 B0 : Nat} {w w0 w' : World} {q q1 q2 : Nat} {s : St} {kind size slide a : Int} {ps ps1 ps2 ps0 : List S70}
theorem Lu.symm {al : List S39} {v : Value} (h : Lu B0 w0 kind size slide a al q1 q2 w v F1 N1 F2 N2 ps1 ps2) : Lu B0 w0 kind size slide a al q2 q1 w v F2 N2 F1 N1 ps2 ps1 := ⟨h.h2.symm, h.row, fun g hg => ⟨(h.free g hg).2, (h.free g hg).1⟩⟩
theorem Lu.put1 {al rs : List S39} {v : Value} (h : Lu B0 w0 kind size slide a al q1 q2 w v F1 N1 F2 N2 ps1 ps2) (hf : Th.FitA kind size slide a) (r : S39) (hr : I64 r.f0 ∧ I64 r.f2) (ht : I64 r.f1) (hp : PutsX kind size slide a ps0 rs ps1) (hN : N1 + ps1.length + 128 ≤ 1000000) :
    Calls Try.prog 15 #[.pointer (some ⟨q1, 0, none⟩), aggR r] w fun e w' => e = .returned (.tuple #[]) ∧ ∃ F' N' ps', Lu B0 w0 kind size slide a al q1 q2 w' v F' N' F2 N2 ps' ps2 ∧ N' + ps'.length ≤ N1 + ps1.length + 128 ∧ PutsX kind size slide a ps0 (rs ++ [r]) ps' := by
  obtain ⟨sp, h1, h2, h3, h4⟩ := spA_any hf ht
  refine (Put_calls h.h2.s.is r hr sp h2 h3 h4 hN).mono ?_
  rintro e w' ⟨rfl, N', ps', hto, hpot, hput⟩
  exact ⟨rfl, _, N', ps', h.to hto, by have : N' + ps'.length ≤ N1 + ps1.length + 2 * sp.length := hpot; omega, .snoc hp h1 hput⟩
theorem Lu.put2 {al rs : List S39} {v : Value} (h : Lu B0 w0 kind size slide a al q1 q2 w v F1 N1 F2 N2 ps1 ps2) (hf : Th.FitA kind size slide a) (r : S39) (hr : I64 r.f0 ∧ I64 r.f2) (ht : I64 r.f1) (hp : PutsX kind size slide a ps0 rs ps2) (hN : N2 + ps2.length + 128 ≤ 1000000) :
    Calls Try.prog 15 #[.pointer (some ⟨q2, 0, none⟩), aggR r] w fun e w' => e = .returned (.tuple #[]) ∧ ∃ F' N' ps', Lu B0 w0 kind size slide a al q1 q2 w' v F1 N1 F' N' ps1 ps' ∧ N' + ps'.length ≤ N2 + ps2.length + 128 ∧ PutsX kind size slide a ps0 (rs ++ [r]) ps' :=
  (h.symm.put1 hf r hr ht hp hN).mono fun e w' ⟨h1, F', N', ps', h2, h3, h4⟩ => ⟨h1, F', N', ps', h2.symm, h3, h4⟩
theorem flatR_set : ∀ (al : List S39) (i : Nat) (r : S39), (((flatR al).set (i * 3) (.int .i64 r.f0)).set (i * 3 + 1) (.int .i64 r.f1)).set (i * 3 + 2) (.int .i64 r.f2) = flatR (al.set i r)
  | [], i, r => by simp [flatR]
  | x :: al, 0, r => rfl
  | x :: al, i + 1, r => by
    have ih := flatR_set al i r
    have e : (i + 1) * 3 = i * 3 + 3 := by omega
    have e1 : i * 3 + 3 + 1 = i * 3 + 1 + 3 := by omega
    have e2 : i * 3 + 3 + 2 = i * 3 + 2 + 3 := by omega
    have hc : ∀ (y : S39) (l : List S39), flatR (y :: l) = .int .i64 y.f0 :: .int .i64 y.f1 :: .int .i64 y.f2 :: flatR l := fun y l => rfl
    rw [hc, e, e1, e2, List.set_cons_succ, List.set_cons_succ, List.set_cons_succ, List.set_cons_succ, List.set_cons_succ, List.set_cons_succ, List.set_cons_succ, List.set_cons_succ, List.set_cons_succ, ih, List.set_cons_succ, hc]
def put3 (w : World) (g i : Nat) (r : S39) : World := ((w.setCell ⟨g, i * 3, none⟩ (.int .i64 r.f0)).setCell ⟨g, i * 3 + 1, none⟩ (.int .i64 r.f1)).setCell ⟨g, i * 3 + 2, none⟩ (.int .i64 r.f2)
theorem Lu.set {al : List S39} {g n c : Nat} (h : Lu B0 w0 kind size slide a al q1 q2 w (.slice (some ⟨g, 0, none⟩) n c) F1 N1 F2 N2 ps1 ps2) (hn : al.length = n) (i : Nat) (r : S39) : Lu B0 w0 kind size slide a (al.set i r) q1 q2 (put3 w g i r) (.slice (some ⟨g, 0, none⟩) n c) F1 N1 F2 N2 ps1 ps2 := by
  have ho := h.row
  rw [hn] at ho
  obtain ⟨h1, g1⟩ := ho.stored (i * 3) (.int .i64 r.f0)
  obtain ⟨h2, g2⟩ := h1.stored (i * 3 + 1) (.int .i64 r.f1)
  obtain ⟨h3, g3⟩ := h2.stored (i * 3 + 2) (.int .i64 r.f2)
  rw [flatR_set] at h3
  have hfr : Fr (fun k => k = g) w (put3 w g i r) := ((Fr.of_grown g1 (fun j hj => (Option.some.inj hj).symm)).trans (Fr.of_grown g2 (fun j hj => (Option.some.inj hj).symm))).trans (Fr.of_grown g3 (fun j hj => (Option.some.inj hj).symm))
  refine ⟨h.h2.fr hfr (fun k hk => ?_), ?_, h.free⟩
  · subst hk
    exact ⟨(h.free k rfl).1, (h.free k rfl).2, (h.row.lt k rfl).1⟩
  · rw [List.length_set, hn]
    exact h3
theorem R_flatR {w : World} {base : Nat} {v : Value} {ps : List S39} (h : w.ownsRow base 39 3 v ps.length (flatR ps)) : Kd.R k39 39 w base (fun _ => True) v ps :=
  ⟨fun _ _ => trivial, _, h, by
    have : ∀ ps : List S39, Reps (k39.M w base fun k => True ∧ some k ≠ v.ownBlock) 3 ps (flatR ps) := fun ps => by
      induction ps with
      | nil => exact Reps.none _ _
      | cons p r ih => exact Reps.c3 (k39_mkM _ _ _ p) ih
    exact this ps⟩
theorem copy39 {w : World} {ms : List S39} {A : Option Addr} {c : Nat} (hC : Kd.C k39 w A ms.length ms) (hn : ms.length ≤ 2000000) (ty : TypeId) :
    ∃ v' w', (Builtin.append_ #[47, 47] ty #[.slice none 0 0, .slice A ms.length c]).run Try.prog w = .ok v' w' ∧ w'.ownsRow w.heap.size 39 3 v' ms.length (flatR ms) ∧ Below w.heap.size w w' := by
  obtain ⟨i0, hi, hz0, hz1, hz2⟩ := info_parts info39
  have ho : w.ownsRow w.heap.size 39 3 (.slice none 0 0) 0 [] := World.ownsRow_nil _ _ _ _
  cases hms : ms with
  | nil =>
    subst hms
    cases A with
    | none => 
      refine ⟨.slice none 0 0, w, ?_, ho, Below.refl _ _⟩
      have hrun := run_append_owned_none w w.heap.size 47 ty 39 i0 3 Try.underlying47 hi (.slice none 0 0) 0 [] ho
      have : (Builtin.append_ #[47, 47] ty #[.slice none 0 0, .slice none 0 c]).run Try.prog w = (Builtin.append_ #[47, 47] ty #[.slice none 0 0, .slice none 0 0]).run Try.prog w := rfl
      exact this.trans hrun
    | some ad =>
      obtain ⟨v', w', g1, g2, g3, _⟩ := run_append_own_at (P := Try.prog) w w.heap.size 47 ty 39 i0 _ 3 _ Try.underlying47 hi hz0 hz1 hz2 rfl (by decide) (.slice none 0 0) 0 [] ho ad 0 c [] rfl (fun j u hu => by simp at hu) (fun u hu => by cases hu) (by unfold maxLen; omega) (by omega) (Nat.le_refl _)
      exact ⟨v', w', g1, g2, (Below.refl _ _).grown g3 (Nat.le_refl _) (fun k e => by cases e)⟩
  | cons x0 r0 =>
    rw [← hms]
    have hpos : 0 < ms.length := by rw [hms]; simp
    obtain ⟨ad, _, e, _⟩ := Kd.C_get hC z39 (0 : Int) (by omega) (by omega)
    subst e
    have hl : (flatR ms).length = ms.length * 3 := flatR_len ms
    have hcell : ∀ j u, (flatR ms)[j]? = some u → w.cell? (ad.add j) = some u := by
      intro j u hu
      have hj : j < (flatR ms).length := (List.getElem?_eq_some_iff.1 hu).1
      rw [hl] at hj
      obtain ⟨t, ht⟩ : ∃ t, j / 3 = t := ⟨_, rfl⟩
      obtain ⟨c4, hc4⟩ : ∃ c4, j % 3 = c4 := ⟨_, rfl⟩
      have hq : t < ms.length := by omega
      have hjt : j = t * 3 + c4 := by omega
      have hc : c4 < 3 := by omega
      have e4 : (flatR ms)[t * 3 + c4]? = _ := flatR_get ms t c4 hq hc
      rw [← hjt, hu] at e4
      obtain ⟨ad', cs, e, _, hK, hc0⟩ := Kd.C_get hC z39 (t : Int) (by omega) (by omega)
      cases e
      have hgd : ms.getD ((t : Int)).toNat z39 = ms[t] := by rw [Int.toNat_natCast]; simp [List.getD, hq]
      rw [hgd] at hK
      obtain rfl := k39_open hK
      have h := hc0 c4 u e4.symm
      rw [Int.toNat_natCast] at h
      rw [hjt]
      exact h
    obtain ⟨v', w', g1, g2, g3, _⟩ := run_append_own_at (P := Try.prog) w w.heap.size 47 ty 39 i0 _ 3 _ Try.underlying47 hi hz0 hz1 hz2 rfl (by decide) (.slice none 0 0) 0 [] ho ad ms.length c (flatR ms) hl hcell (by
      intro u hu
      obtain ⟨x, _, hx⟩ := List.mem_flatMap.1 hu
      simp only [List.mem_cons, List.not_mem_nil, or_false] at hx
      rcases hx with rfl | rfl | rfl <;> rfl) (by unfold maxLen; omega) (by omega) (Nat.le_refl _)
    rw [Nat.zero_add, List.nil_append] at g2
    exact ⟨v', w', g1, g2, (Below.refl _ _).grown g3 (Nat.le_refl _) (fun k e => by cases e)⟩
theorem own_mono {w : World} {base base' : Nat} {e : TypeId} {size n : Nat} {v : Value} {xs : List Value} (h : w.ownsRow base e size v n xs) (hb : base' ≤ base) : w.ownsRow base' e size v n xs := by
  obtain ⟨h1, h2 | ⟨g, cap, cur, rfl, hg, r⟩⟩ := h
  · exact ⟨h1, Or.inl h2⟩
  · exact ⟨h1, Or.inr ⟨g, cap, cur, rfl, Nat.le_trans hb hg, r⟩⟩
theorem Lu.of_copy {al : List S39} {v : Value} (h : H2 B0 w0 F1 N1 F2 N2 w q1 q2 kind size slide a ps1 ps2) (ho : w'.ownsRow w.heap.size 39 3 v al.length (flatR al)) (hb : Below w.heap.size w w') : Lu B0 w0 kind size slide a al q1 q2 w' v F1 N1 F2 N2 ps1 ps2 :=
  ⟨h.below hb, own_mono ho h.s.bs, fun g hg => by
    have hge := (ho.lt g hg).1
    exact ⟨fun hf => by have := h.s.is.bound _ hf; omega, fun hf => by have := h.t.is.bound _ hf; omega⟩⟩
end Go.Proofs.Ytjegeghigfmkoaa.T
namespace Go.Proofs.Ytjegeghigfmkoaa.T
open Go.RowKit Go.Sort Go.Proofs.YtjegeghigfmkoaaW.PrintWords Go.Proofs.YtjegeghigfmkoaaW.PrintMore Go.Proofs.Ytjegeghigfmkoaa Go.Proofs.Ytjegeghigfmkoaa.So Go.Proofs.Ytjegeghigfmkoaa.X Go.Proofs.Ytjegeghigfmkoaa.Nf Go.Proofs.Ytjegeghigfmkoaa.Th
set_option linter.unusedVariables false
set_option linter.unusedSimpArgs false
structure Tmr (kind a last : Int) (ps ps2 : List S70) (n al : Nat) : Prop where
  nk : NK kind ps
  prp : ∀ p ∈ ps, Prp p
  gt : ∀ p ∈ ps, last < lastP p
  due : ∀ p ∈ ps2, lastP p ≤ last ∨ p ∈ ps
  cnt : al + ps.length = ps2.length
  it : n + ps.length ≤ ps2.length
def Mid (p : S70) : Prop := -4611686018427387904 ≤ p.f1.f0 ∧ p.f1.f0 < p.f1.f1 ∧ p.f1.f1 ≤ 4611686018427387904
theorem mid_join {a : Int} (x y : S70) (hx : Mid x) (hy : Mid y) : Mid (joinP a x y) := by
  unfold Mid joinP mn mx at *
  dsimp only
  split <;> split <;> omega
theorem mid_all {kind size slide a : Int} (hf : FitA kind size slide a) (hk : kind ≠ 0) {rs : List S39} {ps : List S70} (h : PutsAll kind size slide a [] rs ps) (hr : ∀ r ∈ rs, TimeOk r.f1 ∧ Go.Proofs.Ytjegeghigfmkoaa.I64 r.f2) : ∀ p ∈ ps, Mid p := by
  refine rs_all mid_join (putsAll_rs hf h hr).1 (ones_all fun r hr' s hs => ?_)
  have ht := (hr r hr').1
  have hF := hf.2.resolve_left (fun h => hk h.1)
  unfold spansS at hs
  rw [if_neg hk] at hs
  have hb := sp_bounds hF s hs
  have h1 := hF.s1
  have h2 := hF.s2
  unfold TimeOk at ht
  unfold Mid one
  dsimp only
  omega
theorem puts_same {kind size slide a : Int} (hf : FitA kind size slide a) {rs : List S39} {ps ps2 : List S70} (h : PutsAll kind size slide a [] rs ps) (h2 : PutsAll kind size slide a [] rs ps2) (hr : ∀ r ∈ rs, TimeOk r.f1 ∧ Go.Proofs.Ytjegeghigfmkoaa.I64 r.f2) : ps.Perm ps2 := by
  have := putsAll_order hf h h2 (.refl _) hr
  exact (sortP_perm ps).symm.trans (this ▸ sortP_perm ps2)
theorem Tmr.start {kind size slide a : Int} (hf : FitA kind size slide a) (hk : kind ≠ 0) {rs : List S39} {ps ps2 : List S70} (h : PutsAll kind size slide a [] rs ps) (h2 : PutsAll kind size slide a [] rs ps2) (hr : ∀ r ∈ rs, TimeOk r.f1 ∧ Go.Proofs.Ytjegeghigfmkoaa.I64 r.f2) : Tmr kind a (-9223372036854775808) ps ps2 0 0 := by
  have hp := puts_same hf h h2 hr
  obtain ⟨_, r2, r3⟩ := putsAll_rs hf h hr
  refine ⟨r2, r3, fun p hp => ?_, fun p hp2 => Or.inr (hp.mem_iff.2 hp2), by rw [hp.length_eq]; omega, by rw [hp.length_eq]; omega⟩
  have hm := mid_all hf hk h hr p hp
  unfold Mid at hm
  unfold lastP wrap64
  omega
theorem fire_len (m : Int) (l : List S70) : (outR m (sortP l)).length + (leftR m (sortP l)).length = l.length := by
  unfold outR leftR
  rw [List.length_map, ← sortP_len l]
  generalize sortP l = x
  induction x with
  | nil => rfl
  | cons p x ih =>
    cases hd : Th.due m p with
    | true => rw [List.filter_cons_of_pos hd, List.filter_cons_of_neg (by rw [hd]; decide), List.length_cons, List.length_cons]; omega
    | false => rw [List.filter_cons_of_neg (by rw [hd]; decide), List.filter_cons_of_pos (by rw [hd]; rfl), List.length_cons, List.length_cons]; omega
theorem due_iff {m : Int} {p : S70} : Th.due m p = true ↔ lastP p ≤ m := by unfold Th.due lastP; exact decide_eq_true_iff
theorem Tmr.step {kind size slide a last t : Int} {ps ps2 : List S70} {n al : Nat} (ha : aggOk a = true) (h : Tmr kind a last ps ps2 n al) (he : ∃ p ∈ ps, lastP p = t) (hm : ∀ p ∈ ps, t ≤ lastP p) :
    last < t ∧ 0 < (firedR ⟨kind, size, slide, a, ps⟩ t).length ∧ (∀ r ∈ firedR ⟨kind, size, slide, a, ps⟩ t, r.f1 = t) ∧ (firedL ⟨kind, size, slide, a, ps⟩ t).length < ps.length ∧ Tmr kind a t (firedL ⟨kind, size, slide, a, ps⟩ t) ps2 (n + 1) (al + (firedR ⟨kind, size, slide, a, ps⟩ t).length) := by
  have hp := firedL_perm (kind := kind) (size := size) (slide := slide) ha h.nk h.prp t
  have hl := fire_len t ps
  obtain ⟨p0, hp0, hpt⟩ := he
  have hpos : 0 < (outR t (sortP ps)).length := by
    unfold outR
    rw [List.length_map]
    exact List.length_pos_of_mem (List.mem_filter.2 ⟨(sortP_perm ps).mem_iff.2 hp0, due_iff.2 (by omega)⟩)
  have hfl := hp.length_eq
  have hmem : ∀ p ∈ firedL ⟨kind, size, slide, a, ps⟩ t, p ∈ ps ∧ t < lastP p := fun p hpp => by
    have hpp := hp.mem_iff.1 hpp
    obtain ⟨h1, h2⟩ := List.mem_filter.1 hpp
    refine ⟨(sortP_perm ps).mem_iff.1 h1, ?_⟩
    have : ¬ lastP p ≤ t := fun hle => by
      rw [due_iff.2 hle] at h2
      cases h2
    omega
  refine ⟨by have := h.gt p0 hp0; omega, hpos, fun r hr => ?_, by omega, ⟨?_, fun p hpp => h.prp p (hmem p hpp).1, fun p hpp => (hmem p hpp).2, fun p hp2 => ?_, ?_, ?_⟩⟩
  · obtain ⟨p, hpf, rfl⟩ := List.mem_map.1 hr
    obtain ⟨h1, h2⟩ := List.mem_filter.1 hpf
    have h3 := due_iff.1 h2
    have h4 := hm p ((sortP_perm ps).mem_iff.1 h1)
    show lastP p = t
    omega
  · exact Normal.perm (mgK kind ha) (List.Pairwise.sublist List.filter_sublist (Normal.perm (mgK kind ha) h.nk (sortP_perm ps).symm)) hp.symm
  · by_cases hle : lastP p ≤ t
    · exact Or.inl hle
    · rcases h.due p hp2 with h1 | h1
      · have := h.gt p0 hp0
        omega
      · refine Or.inr (hp.mem_iff.2 (List.mem_filter.2 ⟨(sortP_perm ps).mem_iff.2 h1, ?_⟩))
        cases hd : Th.due t p with
        | true => exact absurd (due_iff.1 hd) hle
        | false => rfl
  · have := h.cnt
    show al + (outR t (sortP ps)).length + _ = _
    omega
  · have := h.it
    omega
end Go.Proofs.Ytjegeghigfmkoaa.T
namespace Go.Proofs.Ytjegeghigfmkoaa.T
open Go.RowKit Go.Maps Go.Sort Go.Proofs Go.Proofs.Ytjegeghigfmkoaa Go.Proofs.Ytjegeghigfmkoaa.X Go.Proofs.YtjegeghigfmkoaaW.PrintWords Go.Proofs.YtjegeghigfmkoaaW.PrintLast Go.Proofs.YtjegeghigfmkoaaW.PrintMore
set_option linter.unusedVariables false
set_option linter.unusedSimpArgs false
set_option maxRecDepth 100000
variable {F : Nat → Prop} {N : Nat} {w w' : World} {q b1 b2 : Nat} {tv : Value} {tm : List Int} {s : St}
theorem cell_after {w : World} {a b : Addr} {u v : Value} (ha : w.cell? a = some u) (h : a = b → v = u) : (w.setCell b v).cell? a = some u := by
  by_cases e : a = b
  · rw [h e]
    subst e
    exact World.cell?_setCell_same _ _ _ (by rw [ha])
  · exact (World.cell?_setCell_other _ _ _ _ (fun h => e h.symm)).trans ha
theorem off_ne {g x y : Nat} {u v : Value} (h : x ≠ y) : (⟨g, x, none⟩ : Addr) = ⟨g, y, none⟩ → v = u := fun e => by
  injection e with _ e
  exact absurd e h
theorem row39_at {w : World} {base g n c : Nat} {m : List S39} (h : w.ownsRow base 39 3 (.slice (some ⟨g, 0, none⟩) n c) m.length (flatR m)) {k : Nat} {r : S39} (hk : m[k]? = some r) : w.cell? ⟨g, k * 3, none⟩ = some (.int .i64 r.f0) ∧ w.cell? ⟨g, k * 3 + 1, none⟩ = some (.int .i64 r.f1) ∧ w.cell? ⟨g, k * 3 + 2, none⟩ = some (.int .i64 r.f2) ∧ w.frozen? ⟨g, k * 3, none⟩ = false ∧ w.frozen? ⟨g, k * 3 + 1, none⟩ = false ∧ w.frozen? ⟨g, k * 3 + 2, none⟩ = false := by
  obtain ⟨hlt, hr⟩ := List.getElem?_eq_some_iff.1 hk
  have HR := R_flatR h
  have hn := (Kd.R_reads' HR).1
  obtain ⟨ce, _, hM, hcc, hfr⟩ := Kd.R_elem HR z39 (k : Int) (by omega) (by omega)
  rw [show m.getD ((k : Int)).toNat z39 = r from by rw [Int.toNat_natCast]; simp [List.getD, hk]] at hM
  obtain rfl := k39_openM hM
  have c0 := hcc 0 _ rfl
  have c1 := hcc 1 _ rfl
  have c2 := hcc 2 _ rfl
  have f0 := hfr 0
  have f1 := hfr 1
  have f2 := hfr 2
  rw [Int.toNat_natCast] at c0 c1 c2 f0 f1 f2
  exact ⟨c0, c1, c2, f0, f1, f2⟩
theorem swap39 {l : List S39} {i j : Nat} (hi : i < l.length) (hj : j < l.length) : ((l.set i l[j]).set j l[i]).Perm l := List.set_set_perm hi hj
structure Ld (w3 : World) (kind size slide a : Int) (l m : List S39) (i : Nat) (q1 q2 : Nat) (wr : World) (v : Value) (F1 : Nat → Prop) (N1 : Nat) (F2 : Nat → Prop) (N2 : Nat) (ps1 ps2 : List S70) : Prop where
  u : Lu w3.heap.size w3 kind size slide a m q1 q2 wr v F1 N1 F2 N2 ps1 ps2
  p1 : PutsX kind size slide a [] (l.take i) ps1
  p2 : PutsX kind size slide a [] (m.take i) ps2
  t1 : N1 + ps1.length ≤ 128 * i
  t2 : N2 + ps2.length ≤ 128 * i
def Tord.T5 : Bool × List (List Nat × List Nat) := (true, [([], []), ([], []), ([0, 1], [0, 1]), ([], []), ([], []), ([3, 4, 2], [3, 4]), ([2, 5, 0, 1, 2], [2]), ([5, 6, 0, 1, 2, 3, 4, 5, 6], [5])])
def Tord.B5 : List Nat := [0, 0, 3, 0, 0, 31, 63, 127]
theorem Tord.tab5 : rtab .any (opsOf Try.f4 5) = Tord.T5 := by kernel_rfl
theorem Tord.bits5 : waitsOk Tord.T5.2 Tord.B5 = true := by kernel_rfl
set_option maxHeartbeats 8000000 in
theorem StateOrder_calls (w : World) (kind size slide a : Int) (A3 : Option Addr) (c3 : Nat) (l : List S39) (turn : Int) (hl : RecL w A3 l) (h1 : ∀ r ∈ l, I64 r.f1) (hc3 : l.length ≤ c3) :
    Calls Try.prog 4 #[aggW kind size slide, .int .i64 a, .slice A3 l.length c3, .int .i64 turn] w fun e w' => e = .returned (.bool true) ∧ Below w.heap.size w w' := by
  obtain ⟨fb, hfb, KF⟩ := fit_any kind size slide a
  have HL := Aside0.mk hl
  have HC := Aside0.mk hc3
  have H64 := Aside0.mk h1
  have HFB := Aside0.mk hfb
  have KF := Aside0.mk KF
  clear hl hc3 hfb h1
  go_enter Try.func4, Try.ntmps4
  go_wp2_with fail
  have HW1 := Aside0.mk (heap_alloc_new w (.cells #[.int .i64 kind, .int .i64 size, .int .i64 slide] 23))
  have HB1 := Aside0.mk ((Below.refl w.heap.size w).alloc (Nat.le_refl _) (.cells #[.int .i64 kind, .int .i64 size, .int .i64 slide] 23))
  generalize (w.alloc (.cells #[.int .i64 kind, .int .i64 size, .int .i64 slide] 23)) = w1 at HW1 HB1 ⊢
  cases fb with
  | false =>
    go_wp2_with (first
      | (go_at_call 9
         refine (known_calls w1).mono ?_
         rintro e w2 ⟨rfl, hb2⟩
         have hw2 := blk_below HW1.out hb2
         have HW2 := Aside0.mk hw2
         have HB2 := Aside0.mk (HB1.out.trans (hb2.mono HB1.out.size))
         have z0 := (blk_cell hw2 0).trans rfl
         have z1 := (blk_cell hw2 1).trans rfl
         have z2 := (blk_cell hw2 2).trans rfl
         clear hb2 hw2)
      | (go_at_call 10
         refine (KF.out w2).mono ?_
         rintro e w3 ⟨rfl, hb3⟩
         have hw3 := blk_below HW2.out hb3
         have HW3 := Aside0.mk hw3
         have HB3 := Aside0.mk (HB2.out.trans (hb3.mono HB2.out.size))
         have y0 := (blk_cell hw3 0).trans rfl
         have y1 := (blk_cell hw3 1).trans rfl
         have y2 := (blk_cell hw3 2).trans rfl
         clear hb3 hw3 z0 z1 z2)
      | fail)
    go_ret
    exact ⟨rfl, HB3.out⟩
  | true =>
  have HFA := Aside0.mk (HFB.out rfl)
  by_cases hl4 : (l.length : Int) > 80
  · go_wp2_with (first
      | (go_at_call 9
         refine (known_calls w1).mono ?_
         rintro e w2 ⟨rfl, hb2⟩
         have hw2 := blk_below HW1.out hb2
         have HW2 := Aside0.mk hw2
         have HB2 := Aside0.mk (HB1.out.trans (hb2.mono HB1.out.size))
         have z0 := (blk_cell hw2 0).trans rfl
         have z1 := (blk_cell hw2 1).trans rfl
         have z2 := (blk_cell hw2 2).trans rfl
         clear hb2 hw2)
      | (go_at_call 10
         refine (KF.out w2).mono ?_
         rintro e w3 ⟨rfl, hb3⟩
         have hw3 := blk_below HW2.out hb3
         have HW3 := Aside0.mk hw3
         have HB3 := Aside0.mk (HB2.out.trans (hb3.mono HB2.out.size))
         have y0 := (blk_cell hw3 0).trans rfl
         have y1 := (blk_cell hw3 1).trans rfl
         have y2 := (blk_cell hw3 2).trans rfl
         clear hb3 hw3 z0 z1 z2)
      | fail)
    go_ret
    exact ⟨rfl, HB3.out⟩
  go_wp2_with (first
      | (go_at_call 9
         refine (known_calls w1).mono ?_
         rintro e w2 ⟨rfl, hb2⟩
         have hw2 := blk_below HW1.out hb2
         have HW2 := Aside0.mk hw2
         have HB2 := Aside0.mk (HB1.out.trans (hb2.mono HB1.out.size))
         have z0 := (blk_cell hw2 0).trans rfl
         have z1 := (blk_cell hw2 1).trans rfl
         have z2 := (blk_cell hw2 2).trans rfl
         clear hb2 hw2)
      | (go_at_call 10
         refine (KF.out w2).mono ?_
         rintro e w3 ⟨rfl, hb3⟩
         have hw3 := blk_below HW2.out hb3
         have HW3 := Aside0.mk hw3
         have HB3 := Aside0.mk (HB2.out.trans (hb3.mono HB2.out.size))
         have y0 := (blk_cell hw3 0).trans rfl
         have y1 := (blk_cell hw3 1).trans rfl
         have y2 := (blk_cell hw3 2).trans rfl
         clear hb3 hw3 z0 z1 z2)
      | fail)
  have HLL : Aside0 (l.length ≤ 80) := ⟨by omega⟩
  clear hl4
  refine start_ (n := 8) (S := fun w' => w'.cell? ⟨w.heap.size, 0, none⟩ = some (.int .i64 kind) ∧ w'.cell? ⟨w.heap.size, 1, none⟩ = some (.int .i64 size) ∧ w'.cell? ⟨w.heap.size, 2, none⟩ = some (.int .i64 slide)) (ds := []) #[false, false, false, false, false, false, false, false] (by kernel_rfl) rfl rfl ⟨(blk_cell (blk_drew HW3.out) 0).trans rfl, (blk_cell (blk_drew HW3.out) 1).trans rfl, (blk_cell (blk_drew HW3.out) 2).trans rfl⟩ (fun hHeld => ?_); refine with_tabW Tord.tab5 Tord.bits5 (fun HT_ HW_ => ?_)
  have HBD : Aside0 (Below w3.heap.size w3 w3.drew) := ⟨below_drew (Below.refl _ _)⟩
  have HWD := Aside0.mk (blk_drew HW3.out)
  generalize hwd : World.drew w3 = wd at HBD HWD hHeld ⊢
  clear hwd
  refine take_ (i := 0) (N := some 26) (v := ?_) (a' := ?_) #[true, false, false, false, false, false, false, false] rfl rfl (take_ofW HT_.out HW_.out (by kernel_rfl)) (fun _ _ _ h => h) (Or.inl ⟨by rfl, ?_⟩) hHeld ?_ ?_
  rotate_left
  · rintro w' ⟨s0, s1, s2⟩
    go_simp
    with_reducible rfl
  rotate_left
  · simp only [Act.put, List.setIfInBounds_toArray, List.set_cons_zero, List.set_cons_succ, i64_w, i32_w]
    rfl
  refine pure_ (i := 1) (N := some 27) (v := ?_) (a' := ?_) #[true, true, false, false, false, false, false, false] rfl rfl (any_of HT_.out (by kernel_rfl)) (fun _ _ _ h => h) (Or.inl ⟨by rfl, ?_⟩) ?_ ?_
  rotate_left
  · intro w'
    go_simp
    with_reducible rfl
  rotate_left
  · simp only [Act.put, List.setIfInBounds_toArray, List.set_cons_zero, List.set_cons_succ, i64_w, i32_w]
    rfl
  refine take_ (i := 3) (N := some 29) (v := ?_) (a' := ?_) #[true, true, false, true, false, false, false, false] rfl rfl (take_ofW HT_.out HW_.out (by kernel_rfl)) (fun _ _ _ h => h) (Or.inl ⟨by rfl, ?_⟩) hHeld ?_ ?_
  rotate_left
  · rintro w' ⟨s0, s1, s2⟩
    go_simp
    with_reducible rfl
  rotate_left
  · simp only [Act.put, List.setIfInBounds_toArray, List.set_cons_zero, List.set_cons_succ, i64_w, i32_w]
    rfl
  refine pure_ (i := 4) (N := some 30) (v := ?_) (a' := ?_) #[true, true, false, true, true, false, false, false] rfl rfl (any_of HT_.out (by kernel_rfl)) (fun _ _ _ h => h) (Or.inl ⟨by rfl, ?_⟩) ?_ ?_
  rotate_left
  · intro w'
    go_simp
    with_reducible rfl
  rotate_left
  · simp only [Act.put, List.setIfInBounds_toArray, List.set_cons_zero, List.set_cons_succ, i64_w, i32_w]
    rfl
  refine one_ (i := 2) (N := some 28) #[true, true, true, true, true, false, false, false] rfl rfl (one_of HT_.out (by kernel_rfl)) (by decide) (fun K hK => ?_)
  refine goes_ Try.func11 (by kernel_rfl) rfl #[aggW kind size slide, .int .i64 a] (by rfl) rfl rfl (by (try simp only [List.map_toArray, List.map_cons, List.map_nil]); first | done | rfl) ?_
  refine (New_hs wd kind size slide a).mono ?_
  rintro e w4 ⟨q1, rfl, hs4, hb4⟩
  refine ⟨_, rfl, ?_⟩
  have HS4 := Aside0.mk hs4
  have HW4 := Aside0.mk (blk_below HWD.out hb4)
  have HB4 := Aside0.mk hb4
  clear hs4 hb4
  refine hK.out _ _ ⟨(blk_cell HW4.out 0).trans rfl, (blk_cell HW4.out 1).trans rfl, (blk_cell HW4.out 2).trans rfl⟩ (fun hHeld => ?_)
  clear hK K
  refine norm_ (a' := ?_) ?_ ?_
  rotate_left
  · show Act.put _ (some 28) _ = _
    simp only [Act.put, List.setIfInBounds_toArray, List.set_cons_zero, List.set_cons_succ, i64_w, i32_w]
    rfl
  refine one_ (i := 5) (N := some 31) #[true, true, true, true, true, true, false, false] rfl rfl (one_of HT_.out (by kernel_rfl)) (by decide) (fun K hK => ?_)
  refine goes_ Try.func11 (by kernel_rfl) rfl #[aggW kind size slide, .int .i64 a] (by rfl) rfl rfl (by (try simp only [List.map_toArray, List.map_cons, List.map_nil]); first | done | rfl) ?_
  refine (New_hs w4 kind size slide a).mono ?_
  rintro e w5 ⟨q2, rfl, hs5, hb5⟩
  refine ⟨_, rfl, ?_⟩
  have HS5 := Aside0.mk (H2.new HS4.out hs5 hb5)
  have HW5 := Aside0.mk (blk_below HW4.out hb5)
  clear hs5 hb5
  refine hK.out _ _ ⟨(blk_cell HW5.out 0).trans rfl, (blk_cell HW5.out 1).trans rfl, (blk_cell HW5.out 2).trans rfl⟩ (fun hHeld => ?_)
  clear hK K
  refine norm_ (a' := ?_) ?_ ?_
  rotate_left
  · show Act.put _ (some 31) _ = _
    simp only [Act.put, List.setIfInBounds_toArray, List.set_cons_zero, List.set_cons_succ, i64_w, i32_w]
    rfl
  refine pure_ (i := 6) (N := some 9) (v := ?_) (a' := ?_) #[true, true, true, true, true, true, true, false] rfl rfl (any_of HT_.out (by kernel_rfl)) (fun _ _ _ h => h) (Or.inl ⟨by rfl, ?_⟩) ?_ ?_
  rotate_left
  · intro w'
    go_simp
    with_reducible rfl
  rotate_left
  · simp only [Act.put, List.setIfInBounds_toArray, List.set_cons_zero, List.set_cons_succ, i64_w, i32_w]
    rfl
  refine pure_ (i := 7) (N := some 10) (v := ?_) (a' := ?_) #[true, true, true, true, true, true, true, true] rfl rfl (any_of HT_.out (by kernel_rfl)) (fun _ _ _ h => h) (Or.inl ⟨by rfl, ?_⟩) ?_ ?_
  rotate_left
  · intro w'
    go_simp
    with_reducible rfl
  rotate_left
  · simp only [Act.put, List.setIfInBounds_toArray, List.set_cons_zero, List.set_cons_succ, i64_w, i32_w]
    rfl
  refine done_ (done_of HT_.out (by kernel_rfl)) ?_
  have HBW : Aside0 (Below w.heap.size w wd) := ⟨HB3.out.trans (HBD.out.mono HB3.out.size)⟩
  have HWL : Aside0 (w.heap.size < wd.heap.size) := ⟨lt_of_block HWD.out⟩
  have HB5 : Aside0 (Below w.heap.size w w5) := ⟨HBW.out.trans (HS5.out.s.bl.mono HBW.out.size)⟩
  obtain ⟨v6, w6, hrun6, ho6, hb6⟩ := copy39 (c := c3) (HL.out.c w5 HB5.out) (by have := HLL.out; omega) 47
  obtain ⟨A6, c6, rfl⟩ := own_slice ho6
  have HU6 := Aside0.mk (Lu.of_copy HS5.out ho6 hb6)
  have HRUN := Aside0.mk hrun6
  clear HS4 HS5 HW1 HW2 HB1 HB2 HB4 HW4 HW5 HW3 HB3 HBD hHeld hrun6 ho6 hb6
  go_wp2_with (first
    | (refine bappL_ (some 33) #[.slice none 0 0, .slice A3 l.length c3] rfl rfl (by (try simp only [List.map_toArray, List.map_cons, List.map_nil]); first | done | rfl) rfl HRUN.out ?_)
    | fail)
  clear HRUN
  go_loopg [12] l.length (fun kx s12 wr => ∃ (i : Nat) (m : List S39), s12 = .int .i64 i ∧ l.length - i ≤ kx ∧ i ≤ l.length ∧ m.length = l.length ∧ Aside0 (Lu wd.heap.size wd kind size slide a m q1 q2 wr (.slice A6 l.length c6) (fun k => wd.heap.size ≤ k ∧ k < w4.heap.size) 0 (fun k => w4.heap.size ≤ k ∧ k < w5.heap.size) 0 [] []) ∧ Aside0 (m.Perm l))
  case atStart => exact ⟨0, l, rfl, by omega, by omega, rfl, HU6, ⟨.refl _⟩⟩
  case round =>
    clear HU6
    rename World => wr
    obtain ⟨i, m, rfl, hkx, hi, hml, HU, HP⟩ := hrel
    by_cases hlt : i < l.length
    · have hlz : ((i : Int) < (l.length : Int)) := by omega
      obtain ⟨pl, hpl, KP⟩ := place_any turn 1000 (by decide) (by decide)
      obtain ⟨j, hj⟩ : ∃ j : Nat, (pl + 7 * i) % l.length = j := ⟨_, rfl⟩
      have hjl : j < l.length := by rw [← hj]; exact Nat.mod_lt _ (by omega)
      have hjz : Int.tmod (wrap64 ((pl : Int) + 7 * (i : Int))) (l.length : Int) = (j : Int) := by
        have hi80 : i < 80 := by have := HLL.out; omega
        have h1 : wrap64 (7 * (i : Int)) = 7 * (i : Int) := by unfold wrap64; omega
        have h2 : wrap64 ((pl : Int) + 7 * (i : Int)) = ((pl + 7 * i : Nat) : Int) := by unfold wrap64; omega
        rw [h2, ← hj]
        rfl
      have hlen0 : ((l.length : Int) == 0) = false := beq_eq_false_iff_ne.2 (by omega)
      have hlen1 : ¬ ((l.length : Int) = 0) := by omega
      have hwi : wrap64 ((i : Int) + 1) = ((i + 1 : Nat) : Int) := by have := HLL.out; unfold wrap64; omega
      have HI1 := Aside0.mk (And.intro hkx (And.intro hi hlt))
      have HJ := Aside0.mk hjl
      have HML := Aside0.mk hml
      clear hkx hi hlt hj hjl hml hpl
      go_wp2_with (first
        | (go_at_call 30
           refine (KP _).mono ?_
           rintro e w7 ⟨rfl, hb7⟩
           have HU7 := Aside0.mk (HU.out.below hb7)
           clear hb7)
        | fail)
      try rw [hjz]
      have hro := HU7.out.row
      obtain ⟨g, rfl⟩ : ∃ g, A6 = some ⟨g, 0, none⟩ := by
        rcases hro.2 with ⟨hv, hin⟩ | ⟨g, cap, cur, hv, _⟩
        · have := HJ.out
          injection hv with e1 e2 e3
          omega
        · injection hv with e1 e2 e3
          exact ⟨g, e1⟩
      have HR7 := R_flatR hro
      have HMI : i < m.length := by have h1 := HML.out; have h2 := HI1.out; omega
      have HMJ : j < m.length := by have h1 := HML.out; have h2 := HJ.out; omega
      have fc : ∀ k : Nat, (h : k < m.length) → w7.cell? ⟨g, k * 3, none⟩ = some (.int .i64 m[k].f0) ∧ w7.cell? ⟨g, k * 3 + 1, none⟩ = some (.int .i64 m[k].f1) ∧ w7.cell? ⟨g, k * 3 + 2, none⟩ = some (.int .i64 m[k].f2) ∧ w7.frozen? ⟨g, k * 3, none⟩ = false ∧ w7.frozen? ⟨g, k * 3 + 1, none⟩ = false ∧ w7.frozen? ⟨g, k * 3 + 2, none⟩ = false := fun k hk => by
        have HR := HR7
        rw [← HML.out] at HR
        obtain ⟨ce, _, hM, hcc, hfr⟩ := Kd.R_elem HR z39 (k : Int) (by omega) (by omega)
        rw [show m.getD ((k : Int)).toNat z39 = m[k] from by rw [Int.toNat_natCast]; simp [List.getD, hk]] at hM
        obtain rfl := k39_openM hM
        have c0 := hcc 0 _ rfl
        have c1 := hcc 1 _ rfl
        have c2 := hcc 2 _ rfl
        have f0 := hfr 0
        have f1 := hfr 1
        have f2 := hfr 2
        rw [Int.toNat_natCast] at c0 c1 c2 f0 f1 f2
        exact ⟨c0, c1, c2, f0, f1, f2⟩
      obtain ⟨ci0, ci1, ci2, fi0, fi1, fi2⟩ := fc i HMI
      obtain ⟨cj0, cj1, cj2, fj0, fj1, fj2⟩ := fc j HMJ
      have ci0' : w7.drew.cell? ⟨g, i * 3, none⟩ = _ := ci0
      have ci1' : w7.drew.cell? ⟨g, i * 3 + 1, none⟩ = _ := ci1
      have ci2' : w7.drew.cell? ⟨g, i * 3 + 2, none⟩ = _ := ci2
      have cj0' : w7.drew.cell? ⟨g, j * 3, none⟩ = _ := cj0
      have cj1' : w7.drew.cell? ⟨g, j * 3 + 1, none⟩ = _ := cj1
      have cj2' : w7.drew.cell? ⟨g, j * 3 + 2, none⟩ = _ := cj2
      have fi0' : w7.drew.frozen? ⟨g, i * 3, none⟩ = _ := fi0
      have fi1' : w7.drew.frozen? ⟨g, i * 3 + 1, none⟩ = _ := fi1
      have fi2' : w7.drew.frozen? ⟨g, i * 3 + 2, none⟩ = _ := fi2
      have fj0' : w7.drew.frozen? ⟨g, j * 3, none⟩ = _ := fj0
      have fj1' : w7.drew.frozen? ⟨g, j * 3 + 1, none⟩ = _ := fj1
      have fj2' : w7.drew.frozen? ⟨g, j * 3 + 2, none⟩ = _ := fj2
      have hjlz : (j : Int) < (l.length : Int) := by have := HJ.out; omega
      have hjz0 : (0 : Int) ≤ (j : Int) := by omega
      have hiz0 : (0 : Int) ≤ (i : Int) := by omega
      obtain ⟨ri, hri⟩ : ∃ r, m[i] = r := ⟨_, rfl⟩
      obtain ⟨rj, hrj⟩ : ∃ r, m[j] = r := ⟨_, rfl⟩
      rw [hri] at ci0 ci1 ci2 ci0' ci1' ci2'
      rw [hrj] at cj0 cj1 cj2 cj0' cj1' cj2'
      have HRI : Aside0 (∃ (h1 : i < m.length) (h2 : j < m.length), m[i] = ri ∧ m[j] = rj) := ⟨⟨HMI, HMJ, hri, hrj⟩⟩
      clear fc HR7 hro hri hrj HMJ HMI
      have si0 := cell_after (b := ⟨g, i * 3, none⟩) (v := .int .i64 rj.f0) cj0 (fun _ => rfl)
      have si1 := cell_after (b := ⟨g, i * 3 + 1, none⟩) (v := .int .i64 rj.f1) (cell_after (b := ⟨g, i * 3, none⟩) (v := .int .i64 rj.f0) cj1 (off_ne (by omega))) (fun _ => rfl)
      have si2 := cell_after (b := ⟨g, i * 3 + 2, none⟩) (v := .int .i64 rj.f2) (cell_after (b := ⟨g, i * 3 + 1, none⟩) (v := .int .i64 rj.f1) (cell_after (b := ⟨g, i * 3, none⟩) (v := .int .i64 rj.f0) cj2 (off_ne (by omega))) (off_ne (by omega))) (fun _ => rfl)
      go_region
      have HU8 : Aside0 (Lu wd.heap.size wd kind size slide a ((m.set i rj).set j ri) q1 q2 (put3 (put3 w7 g i rj) g j ri).drew (.slice (some ⟨g, 0, none⟩) l.length c6) (fun k => wd.heap.size ≤ k ∧ k < w4.heap.size) 0 (fun k => w4.heap.size ≤ k ∧ k < w5.heap.size) 0 [] []) := ⟨((HU7.out.set HML.out i rj).set (by rw [List.length_set]; exact HML.out) j ri).below (below_drew (Below.refl _ _))⟩
      unfold put3 at HU8
      clear ci0 ci1 ci2 cj0 cj1 cj2 fi0 fi1 fi2 fj0 fj1 fj2 ci0' ci1' ci2' cj0' cj1' cj2' fi0' fi1' fi2' fj0' fj1' fj2' si0 si1 si2
      go_wp2_with fail
      try rw [hwi]
      go_roundg (l.length - (i + 1))
      case measure => have := HI1.out; omega
      case rel => exact ⟨i + 1, (m.set i rj).set j ri, rfl, Nat.le_refl _, HI1.out.2.2, by rw [List.length_set, List.length_set]; exact HML.out, HU8, ⟨by
        obtain ⟨h1, h2, h3, h4⟩ := HRI.out
        rw [← h3, ← h4]
        exact (swap39 h1 h2).trans HP.out⟩⟩
    · have hlz : ¬ ((i : Int) < (l.length : Int)) := by omega
      clear hkx hi hlt
      have HML := Aside0.mk hml
      clear hml
      go_wp2_with fail
      have HLD : Aside0 (Ld wd kind size slide a l m 0 q1 q2 wr (.slice A6 l.length c6) (fun k => wd.heap.size ≤ k ∧ k < w4.heap.size) 0 (fun k => w4.heap.size ≤ k ∧ k < w5.heap.size) 0 [] []) := ⟨⟨HU.out, by simpa using PutsX.nil, by simpa using PutsX.nil, by simp, by simp⟩⟩
      clear HU
      go_loopg [14] l.length (fun kx s14 wr => ∃ (i : Nat) (F1 : Nat → Prop) (N1 : Nat) (F2 : Nat → Prop) (N2 : Nat) (ps1 ps2 : List S70), s14 = .int .i64 i ∧ l.length - i ≤ kx ∧ i ≤ l.length ∧ Aside0 (Ld wd kind size slide a l m i q1 q2 wr (.slice A6 l.length c6) F1 N1 F2 N2 ps1 ps2) ∧ Aside0 (∀ r ∈ l.take i, Th.TimeOk r.f1))
      case atStart => exact ⟨0, _, 0, _, 0, [], [], rfl, by omega, by omega, HLD, ⟨fun r hr => by simp at hr⟩⟩
      case round =>
        clear HLD
        rename World => wi
        obtain ⟨i, F1, N1, F2, N2, ps1, ps2, rfl, hkx, hi, HQ, HTM⟩ := hrel
        have HBR := Aside0.mk (HBW.out.trans (HQ.out.u.h2.s.bl.mono HBW.out.size))
        by_cases hlt : i < l.length
        · have hlz : ((i : Int) < (l.length : Int)) := by omega
          have hiz : (0 : Int) ≤ (i : Int) := by omega
          obtain ⟨ad, rfl, x0, x1, x2⟩ := at_T39 (HL.out.c wi HBR.out) (i : Int) hiz hlz
          obtain ⟨r, hr⟩ : ∃ r : S39, l[i] = r := ⟨_, rfl⟩
          have hgd : rd_T39 l (i : Int) = r := by rw [← hr]; simp [rd_T39, hlt]
          rw [hgd] at x0 x1 x2
          have hin : ((i : Int)).toNat = i := by omega
          rw [hin] at x0 x1 x2
          have hmi : i < m.length := by have := HML.out; omega
          obtain ⟨rm, hrm⟩ : ∃ r : S39, m[i] = r := ⟨_, rfl⟩
          have HRM : Aside0 (m[i]? = some rm) := ⟨List.getElem?_eq_some_iff.2 ⟨hmi, hrm⟩⟩
          obtain ⟨g, rfl⟩ : ∃ g, A6 = some ⟨g, 0, none⟩ := by
            rcases HQ.out.u.row.2 with ⟨hv, hin⟩ | ⟨g, cap, cur, hv, _⟩
            · injection hv with e1 e2 e3
              omega
            · injection hv with e1 e2 e3
              exact ⟨g, e1⟩
          have HTK : Aside0 (l.take (i + 1) = l.take i ++ [r]) := ⟨by rw [← hr]; exact (List.take_append_getElem hlt).symm⟩
          have HTK2 : Aside0 (m.take (i + 1) = m.take i ++ [rm]) := ⟨by rw [← hrm]; exact (List.take_append_getElem hmi).symm⟩
          have HR64 := Aside0.mk (HL.out.i64 r (by rw [← hr]; exact List.getElem_mem hlt))
          have hml2 : rm ∈ l := HP.out.mem_iff.1 (by rw [← hrm]; exact List.getElem_mem hmi)
          have HM64 := Aside0.mk (And.intro (HL.out.i64 rm hml2) (H64.out rm hml2))
          have hwi : wrap64 ((i : Int) + 1) = ((i + 1 : Nat) : Int) := by have := HLL.out; unfold wrap64; omega
          have HI1 := Aside0.mk (And.intro hkx (And.intro hi hlt))
          have KT := time_any r.f1 wi
          have HZ := Aside0.mk (And.intro hiz hlz)
          clear hkx hi hr hgd hin hlt hmi hrm hml2
          by_cases ht : Th.TimeOk r.f1
          · rw [decide_eq_true ht] at KT
            have HT := Aside0.mk ht
            clear ht
            go_wp2_with (first
              | (go_at_call 14
                 refine KT.mono ?_
                 clear KT
                 rintro e w6 ⟨rfl, hb6⟩
                 have x0 := pw_cell_below hb6 x0
                 have x1 := pw_cell_below hb6 x1
                 have x2 := pw_cell_below hb6 x2
                 have KP1 := (HQ.out.u.below hb6).put1 HFA.out r HR64.out (time_64 HT.out) HQ.out.p1 (by have h1 := HQ.out.t1; have h2 := HI1.out; have h3 := HLL.out; omega)
                 clear hb6)
              | (go_at_call 15
                 refine KP1.mono ?_
                 clear KP1
                 rintro e w7 ⟨rfl, F3, N3, ps3, hh, hpot, hp3⟩
                 clear x0 x1 x2
                 obtain ⟨x0, x1, x2, _, _, _⟩ := row39_at hh.row HRM.out
                 have HP7 := Aside0.mk (And.intro hpot hp3)
                 have KP2 := hh.put2 HFA.out rm HM64.out.1 HM64.out.2 HQ.out.p2 (by have h1 := HQ.out.t2; have h2 := HI1.out; have h3 := HLL.out; omega)
                 clear hh hpot hp3)
              | (go_at_call 15
                 refine KP2.mono ?_
                 clear KP2
                 rintro e w8 ⟨rfl, F4, N4, ps4, hh, hpot, hp4⟩
                 have HS8 := Aside0.mk hh
                 have HP8 := Aside0.mk (And.intro hpot hp4)
                 clear hh hpot hp4)
              | fail)
            try rw [hwi]
            go_roundg (l.length - (i + 1))
            case measure => have := HI1.out; omega
            case rel => exact ⟨i + 1, _, _, _, _, _, _, rfl, Nat.le_refl _, HI1.out.2.2, ⟨⟨HS8.out, by rw [HTK.out]; exact HP7.out.2, by rw [HTK2.out]; exact HP8.out.2, by have h1 := HQ.out.t1; have h2 := HP7.out.1; omega, by have h1 := HQ.out.t2; have h2 := HP8.out.1; omega⟩⟩, ⟨fun x hx => by
              rw [HTK.out] at hx
              rcases List.mem_append.1 hx with hx | hx
              · exact HTM.out x hx
              · rw [List.mem_singleton.1 hx]; exact HT.out⟩⟩
          · rw [decide_eq_false ht] at KT
            clear ht
            go_wp2_with (first
              | (go_at_call 14
                 refine KT.mono ?_
                 clear KT
                 rintro e w6 ⟨rfl, hb6⟩
                 have HB6 := Aside0.mk hb6
                 clear hb6)
              | fail)
            go_ret
            exact ⟨rfl, HBR.out.trans (HB6.out.mono HBR.out.size)⟩
        · have hlz : ¬ ((i : Int) < (l.length : Int)) := by omega
          have hil : i = l.length := by omega
          have hp1 := HQ.out.p1
          have hp2 := HQ.out.p2
          have htm := HTM.out
          rw [hil, List.take_of_length_le (Nat.le_refl _)] at hp1 htm
          rw [hil, List.take_of_length_le (Nat.le_of_eq HML.out)] at hp2
          have hok : ∀ r ∈ l, Th.TimeOk r.f1 ∧ Go.Proofs.Ytjegeghigfmkoaa.I64 r.f2 := fun r hr => ⟨htm r hr, (HL.out.i64 r hr).2⟩
          have HSAME := Aside0.mk (putsAll_order HFA.out (hp1.ok HFA.out htm) (hp2.ok HFA.out (fun r hr => htm r (HP.out.mem_iff.1 hr))) HP.out.symm hok)
          have HLn : Aside0 ((sortP ps1).length ≤ 20000) := ⟨by
            rw [sortP_len]
            have h1 := HQ.out.t1
            have h3 := HLL.out
            omega⟩
          have KB1 := Bytes_calls HQ.out.u.h2.s.is
          clear hlt hkx hi hil hp1 hp2 htm hok
          go_wp2_with (first
            | (go_at_call 23
               refine KB1.mono ?_
               clear KB1
               rintro e w14 ⟨v14, rfl, hR14, hb14⟩
               have hR14 : Kd.R (Kd.int .u8) 5 w14 wi.heap.size (fun _ => True) v14 (bytesB (sortP ps1)) := hR14
               obtain ⟨A14, c14, rfl⟩ := Kd.R_slice hR14
               have HR14 := Aside0.mk hR14
               have HB14 := Aside0.mk hb14
               have KB2 := Bytes_calls (HQ.out.u.h2.t.is.below hb14)
               clear hR14 hb14)
            | (go_at_call 23
               refine KB2.mono ?_
               clear KB2
               rintro e w15 ⟨v15, rfl, hR15, hb15⟩
               have hR15 : Kd.R (Kd.int .u8) 5 w15 w14.heap.size (fun _ => True) v15 (bytesB (sortP ps2)) := hR15
               rw [← HSAME.out] at hR15
               obtain ⟨A15, c15, rfl⟩ := Kd.R_slice hR15
               have KE := bytesEq_any (Kd.C_below (Kd.R_reads' HR14.out).2.2 hb15) (Kd.R_reads' HR14.out).2.1 (Kd.R_reads' hR15).2.2 (Kd.R_reads' hR15).2.1 (by rw [bytesB_len]; have := HLn.out; omega)
               have HB15 := Aside0.mk hb15
               clear hR15 hb15)
            | (go_at_call 27
               refine KE.mono ?_
               clear KE
               rintro e w16 ⟨rfl, hb16⟩
               have HB16 := Aside0.mk hb16
               clear hb16)
            | fail)
          go_ret
          have b14 := HBR.out.trans (HB14.out.mono HBR.out.size)
          have b15 := b14.trans (HB15.out.mono b14.size)
          exact ⟨rfl, b15.trans (HB16.out.mono b15.size)⟩
end Go.Proofs.Ytjegeghigfmkoaa.T
namespace Go.Proofs.Ytjegeghigfmkoaa.X
open Go.RowKit Go.Proofs Go.Proofs.YtjegeghigfmkoaaW.PrintWords
set_option linter.unusedVariables false
open Classical in
noncomputable def leatlaw12_StateOrder.f (a0_0 a0_1 a0_2 a1 : Int) (l2 : List S39) (a3 : Int) : Option Bool := if ∀ r ∈ l2, (T.I64 r.f0 ∧ T.I64 r.f2) ∧ T.I64 r.f1 then some true else none
theorem leatlaw12_StateOrder.calls (a0_0 a0_1 a0_2 a1 : Int) (A2 : Option Addr) (c2 : Nat) (l2 : List S39) (a3 : Int) (r : Bool) (w : World) (hr2 : Kd.C k39 w A2 l2.length l2) (hc2 : l2.length ≤ c2) (h : leatlaw12_StateOrder.f a0_0 a0_1 a0_2 a1 l2 a3 = some r) :
    Calls Try.prog 4 #[.agg #[.int .i64 a0_0, .int .i64 a0_1, .int .i64 a0_2], .int .i64 a1, .slice A2 l2.length c2, .int .i64 a3] w fun e w' => e = .returned (.bool r) ∧ Below w.heap.size w w' := by
  unfold leatlaw12_StateOrder.f at h
  split at h
  · rename_i hc
    cases h
    exact T.StateOrder_calls w a0_0 a0_1 a0_2 a1 A2 c2 l2 a3 ⟨fun W hb => Kd.C_below hr2 hb, fun r hr => (hc r hr).1⟩ (fun r hr => (hc r hr).2) hc2
  · cases h
end Go.Proofs.Ytjegeghigfmkoaa.X
