/- Proofs towards the laws of this seat, joined. No conditions beyond those typed. -/
import Derived.Test.YtihbgdobicokpaaDPk
import Derived.Test.YtihbgdobicokpaaB8
namespace Go.Proofs.Ytihbgdobicokpaa.D
open Go.RowKit Go.Maps Go.Proofs.Ytihbgdobicokpaa.X Go.Proofs.YtihbgdobicokpaaW.PrintWords Go.Proofs.YtihbgdobicokpaaW.PrintLast Go.Proofs.YtihbgdobicokpaaW.PrintMore
attribute [local go_sem] max2_int min2_int max_two min_two max_three min_three max_four min_four   -- for this text's walks alone
set_option linter.unusedVariables false
set_option linter.unusedSimpArgs false
theorem meas {n j g : Nat} (h : j < n) (k : n - j ≤ g) : n - (j + 1) < g := by omega
theorem C_take {w : World} {A : Option Addr} {xs : List Int} (h : Kd.C (Kd.int .u8) w A xs.length xs) {m : Nat} (hm : m ≤ xs.length) : Kd.C (Kd.int .u8) w A m (xs.take m) := by
 refine ⟨by rw [List.length_take]; omega, Nat.le_trans (by omega) h.2.1, fun hn => ?_⟩
 obtain ⟨ad, e, hc⟩ := h.2.2 (by omega)
 refine ⟨ad, e, fun j x hj => hc j x ?_⟩
 rw [List.getElem?_take] at hj
 split at hj
 ·exact hj
 ·cases hj
theorem Bytes_callsC {w : World} {A A' : Option Addr} {c c' : Nat} {xs ys : List Int} (h0 : Kd.C (Kd.int .u8) w A xs.length xs) (h0c : xs.length ≤ c) (h0l : xs.length ≤ 140737488355328) (h1 : Kd.C (Kd.int .u8) w A' ys.length ys) (h1c : ys.length ≤ c') :
  Calls Try.prog 16 #[.slice A xs.length c, .slice A' ys.length c'] w fun e w' => e = .returned (.bool (decide (xs = ys))) ∧ Drawn0 w w' := by
 obtain ⟨k, hk⟩ := Bytes_f xs ys h0l
 exact leathelp_Bytes.calls k A c xs A' c' ys _ w h0 h0c h1 h1c hk
theorem slice23m (A : Option Addr) (n c m : Nat) (hm : m ≤ c) (w : World) : (Instr.slice 23 (.slice A n c) none (some (.int .i64 (m : Int))) none).run Try.prog w = .ok (.slice A m c) w := by
 have h1 : (Instr.sliceBounds true n c none (some (.int .i64 (m : Int))) none).run Try.prog w = .ok (0, m, c) w := by
  unfold Instr.sliceBounds
  simp [run_sliceBound, hm, Result.andThen]
 unfold Instr.slice
 simp [run_underlying Try.underlying23, h1, Result.andThen, Try.sizeOf5]
 intro _
 cases A <;> simp [Addr.add]
theorem step_cells2 {w0 : World} {A : Option Addr} {l : List S30} (hC : Kd.C k30 w0 A l.length l) {i : Nat} (hi : i < l.length) : ∃ ad A4 c4, A = some ad ∧ l[i].f4.length ≤ c4 ∧ Kd.C (Kd.int .u8) w0 A4 l[i].f4.length l[i].f4 ∧ ∀ w', Below w0.heap.size w0 w' → w'.cell? (ad.add (i * 6)) = some (.int .i64 l[i].f0) ∧ w'.cell? ⟨(ad.add (i * 6)).block, (ad.add (i * 6)).off + 2, none⟩ = some (.string l[i].f2) ∧ w'.cell? ⟨(ad.add (i * 6)).block, (ad.add (i * 6)).off + 4, none⟩ = some (.slice A4 l[i].f4.length c4) := by
 obtain ⟨ad, A4, c4, A5, c5, e, g0, g1, g2, g3, g4, g5, b4, k4, _, k5⟩ := at_T30 hC (i : Int) (by omega) (by omega)
 have hx : rd_T30 l (i : Int) = l[i] := by simp [rd_T30, List.getD, List.getElem?_eq_getElem hi]
 rw [hx] at g0 g2 g4 k4 b4
 simp only [Int.toNat_natCast] at g0 g2 g4
 exact ⟨ad, A4, c4, e, b4, k4, fun w' hb => ⟨(hb.cell (World.block_lt_of_cell? w0 _ g0)).trans g0, (hb.cell (World.block_lt_of_cell? w0 _ g2)).trans g2, (hb.cell (World.block_lt_of_cell? w0 _ g4)).trans g4⟩⟩
def Pq (n : Nm) (y : List Int) (x : S30) : Prop := x.f0 < 3 ∧ x.f2.data.toList = n ∧ y.length ≤ x.f4.length ∧ y = x.f4.take y.length
theorem st_step {A : Prop} {P : S30 → Prop} {l : List S30} {j : Nat} {v : Bool} (hgo : j < l.length) (h : (A → v = true) ∧ ∀ q (hq : q < l.length), q < j → P l[q] → v = true) :
  ∀ v' : Bool, (v = true → v' = true) → (P l[j] → v' = true) → (A → v' = true) ∧ ∀ q (hq : q < l.length), q < j + 1 → P l[q] → v' = true := fun v' h1 h2 => ⟨fun e => h1 (h.1 e), fun q hq h3 h4 => by
 by_cases hqj : q = j
 ·subst hqj; exact h2 h4
 ·exact h1 (h.2 q hq (by omega) h4)⟩
def Dkp.T10 : Bool × List (List Nat × List Nat) := (true, [([], []), ([], []), ([], []), ([1, 2], [1, 2]), ([3], [3]), ([4], [4]), ([], []), ([], []), ([6, 7], [6, 7]), ([8], [8]), ([9], [9]), ([0, 5, 10], [0, 5, 10])])
def Dkp.B10 : List Nat := [0, 0, 0, 6, 14, 30, 0, 0, 192, 448, 960, 2047]
theorem Dkp.tab10 : rtab .any (opsOf Try.f3 10) = Dkp.T10 := by kernel_rfl
theorem Dkp.bits10 : waitsOk Dkp.T10.2 Dkp.B10 = true := by kernel_rfl
def Dkp.T29 : Bool × List (List Nat × List Nat) := (true, [([], []), ([0], [0]), ([1], [1]), ([1], [1]), ([2, 3, 1], [1, 2, 3]), ([4, 1], [1, 4]), ([5, 1], [1, 5]), ([6, 1], [1, 6]), ([7, 1, 1], [1, 7]), ([8], [8]), ([8], [8]), ([9, 10, 8], [8, 9, 10]), ([11, 8], [8, 11]), ([12, 8], [8, 12]), ([8], [8]), ([8], [8]), ([14, 15, 8], [8, 14, 15]), ([16, 8], [8, 16]), ([13, 17, 8], [8, 13, 17]), ([8, 18, 1], [1, 8, 18]), ([19, 8, 1], [1, 19]), ([20], [20]), ([21, 20], [20, 21]), ([20], [20]), ([20], [20]), ([23, 24, 20], [20, 23, 24]), ([25, 20], [20, 25]), ([26, 20], [20, 26]), ([27, 20], [20, 27]), ([22, 28, 20], [20, 22, 28]), ([20, 29, 1], [1, 20, 29]), ([30, 20, 1], [1, 30]), ([31], [31]), ([31], [31]), ([31], [31]), ([33, 34, 31], [31, 33, 34]), ([35, 31], [31, 35]), ([36, 31], [31, 36]), ([31], [31]), ([38, 31], [31, 38]), ([37, 39, 31], [31, 37, 39]), ([32, 40, 31, 31], [31, 32, 40]), ([31, 41, 1], [1, 31, 41]), ([1, 42], [1, 42]), ([43, 41, 0, 1, 2, 3, 4, 5, 6, 7, 8, 9, 10, 11, 12, 13, 14, 15, 16, 17, 18, 19, 20, 21, 22, 23, 24, 25, 26, 27, 28, 29, 30, 31, 32, 33, 34, 35, 36, 37, 38, 39, 40, 41, 42, 43], [0, 43])])
def Dkp.B29 : List Nat := [0, 1, 3, 3, 15, 31, 63, 127, 255, 511, 511, 2047, 4095, 8191, 511, 511, 49663, 115199, 262143, 524287, 1048575, 2097151, 4194303, 2097151, 2097151, 27262975, 60817407, 127926271, 262143999, 536870911, 1073741823, 2147483647, 4294967295, 4294967295, 4294967295, 30064771071, 64424509439, 133143986175, 4294967295, 279172874239, 1095216660479, 2199023255551, 4398046511103, 8796093022207, 17592186044415]
theorem Dkp.tab29 : rtab .any (opsOf Try.f3 29) = Dkp.T29 := by kernel_rfl
theorem Dkp.bits29 : waitsOk Dkp.T29.2 Dkp.B29 = true := by kernel_rfl
end Go.Proofs.Ytihbgdobicokpaa.D
