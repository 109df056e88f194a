/- slices.swapRangeCmpFunc at elements of k cells: it exchanges two runs. No conditions beyond those typed: the runs lie in the row and do not overlap. -/
import Derived.Test.YtdinbnbogdadgaaProg
import Derived.Shelf.SlSortCmp.KitK
import Derived.Test.YtdinbnbogdadgaaB4
import Derived.Deep.LoopGhost
import Derived.WalkKit
namespace Go.Proofs.Ytdinbnbogdadgaa.So
open Go.Shelf Go.RowKit Go.Lib Go.Sort Go.Proofs
set_option linter.unusedVariables false
set_option linter.unusedSimpArgs false
variable {α : Type} [Inhabited α]
structure Lay (P : Program) (k : Nat) : Prop where
 mixed : P.follows .mixedOrders = true
 f67 : P.funcs[67]? = some Try.f67
 f66 : P.funcs[66]? = some Try.f66
 f65 : P.funcs[65]? = some Try.f65
 f64 : P.funcs[64]? = some Try.f64
 f62 : P.funcs[62]? = some Try.f62
 f52 : P.funcs[52]? = some Try.f52
 t0 : P.underlying 0 = some (TypeDesc.tuple #[])
 a0 : ∀ w, (isAgg 0).run P w = .ok false w
 z0 : ∀ w, (Go.sizeOf 0).run P w = .ok 1 w
 v0 : ∀ w, (zeroValue 0).run P w = .ok (Value.tuple #[]) w
 t3 : P.underlying 3 = some (TypeDesc.int IntKind.i64)
 a3 : ∀ w, (isAgg 3).run P w = .ok false w
 z3 : ∀ w, (Go.sizeOf 3).run P w = .ok 1 w
 v3 : ∀ w, (zeroValue 3).run P w = .ok (Value.int IntKind.i64 0) w
 t4 : P.underlying 4 = some (TypeDesc.bool)
 a4 : ∀ w, (isAgg 4).run P w = .ok false w
 z4 : ∀ w, (Go.sizeOf 4).run P w = .ok 1 w
 v4 : ∀ w, (zeroValue 4).run P w = .ok (Value.bool false) w
 t35 : P.underlying 35 = some (TypeDesc.slice 46)
 a35 : ∀ w, (isAgg 35).run P w = .ok false w
 z35 : ∀ w, (Go.sizeOf 35).run P w = .ok 1 w
 v35 : ∀ w, (zeroValue 35).run P w = .ok (Value.slice none 0 0) w
 t68 : P.underlying 68 = some (TypeDesc.func #[46, 46] #[3] false)
 a68 : ∀ w, (isAgg 68).run P w = .ok false w
 z68 : ∀ w, (Go.sizeOf 68).run P w = .ok 1 w
 v68 : ∀ w, (zeroValue 68).run P w = .ok (Value.nilFunc) w
 t85 : P.underlying 85 = some (TypeDesc.int IntKind.u64)
 a85 : ∀ w, (isAgg 85).run P w = .ok false w
 z85 : ∀ w, (Go.sizeOf 85).run P w = .ok 1 w
 v85 : ∀ w, (zeroValue 85).run P w = .ok (Value.int IntKind.u64 0) w
 aE : ∀ w, (isAgg 46).run P w = .ok true w
 zE : ∀ w, (Go.sizeOf 46).run P w = .ok k w
set_option maxHeartbeats 4000000 in
set_option maxRecDepth 1000000 in
theorem swapRange {P : Program} {k : Nat} (L : Lay P k) (enc : α → List Value) (g : Nat) (cb : Array Value) (blk off cap a b n : Nat) (d0 d : Array α) (w0 w : World)
  (R : RowK enc k w0 blk off d0) (hs : d0.size = d.size) (S : SWK enc k w0 blk off d w) (hab : a + n ≤ b) (hb : b + n ≤ d.size) (hsz : d.size < 4611686018427387904) :
  Calls P 67 #[.slice (some ⟨blk, off, none⟩) d.size cap, .int .i64 a, .int .i64 b, .int .i64 n, .func (.func g) #[] cb] w fun e w' => e = .returned (.tuple #[]) ∧ SWK enc k w0 blk off (swapN a b n d) w' := by
 have mixed := L.mixed; have t0 := L.t0; have a0 := L.a0; have z0 := L.z0; have v0 := L.v0; have t3 := L.t3; have a3 := L.a3; have z3 := L.z3; have v3 := L.v3; have t4 := L.t4; have a4 := L.a4; have z4 := L.z4; have v4 := L.v4; have t35 := L.t35; have a35 := L.a35; have z35 := L.z35; have v35 := L.v35; have t68 := L.t68; have a68 := L.a68; have z68 := L.z68; have v68 := L.v68; have aE := L.aE; have zE := L.zE
 have FG := L.f67
 have S0 : Aside (SWK enc k w0 blk off d w) := S
 clear S
 go_enter FG, Try.ntmps67
 go_wp2
 go_loopg [10] n (fun kx s10 wr => ∃ (i : Nat), s10 = .int .i64 i ∧ i ≤ n ∧ n - i ≤ kx ∧ Aside (SWK enc k w0 blk off (swapN a b i d) wr))
 case atStart => exact ⟨0, rfl, by omega, by omega, S0⟩
 case round =>
  clear S0
  obtain ⟨i, rfl, hin, hkx, S1⟩ := hrel
  have hds := swapN_size a b i d
  have HDS : Aside _ := hds
  clear hds
  by_cases hlt : i < n
  ·have hltz : (i : Int) < (n : Int) := by omega
   go_wp2_with fail
   have ea : ((a : Int) + (i : Int)).toNat = a + i := by omega
   have pa : (0 : Int) ≤ (a : Int) + (i : Int) := by omega
   have ba : (a : Int) + (i : Int) < (d.size : Int) := by omega
   have ra : IntKind.i64.wrap ((a : Int) + (i : Int)) = (a : Int) + (i : Int) := by rw [IntKind.wrap_i64]; omega
   have ec : ((b : Int) + (i : Int)).toNat = b + i := by omega
   have pc : (0 : Int) ≤ (b : Int) + (i : Int) := by omega
   have bc : (b : Int) + (i : Int) < (d.size : Int) := by omega
   have rc : IntKind.i64.wrap ((b : Int) + (i : Int)) = (b : Int) + (i : Int) := by rw [IntKind.wrap_i64]; omega
   generalize hdk : swapN a b i d = dk at S1 HDS
   have HDK : Aside _ := hdk
   clear hdk
   have S2 : Aside (SWK enc k w0 blk off (swp dk (a + i) (b + i)) ((wr.drew.setCells blk (off + (a + i) * k) (enc dk[b + i]!)).setCells blk (off + (b + i) * k) (enc dk[a + i]!))) := S1.out.swapped R (a + i) (b + i) (by rw [HDS.out]; omega) (by rw [HDS.out]; omega)
   have l44a := S1.out.ld1 R (by rw [HDS.out]; omega) P (a + i) (by rw [HDS.out]; omega)
   have l44b := S1.out.ld1 R (by rw [HDS.out]; omega) P (b + i) (by rw [HDS.out]; omega)
   have s44a := S1.out.st1 R (by rw [HDS.out]; omega) P (a + i) (by rw [HDS.out]; omega) dk[b + i]!
   have s44b := S1.out.st2 R (by rw [HDS.out]; omega) P (a + i) (b + i) (by rw [HDS.out]; omega) (by rw [HDS.out]; omega) dk[b + i]! dk[a + i]!
   have n44a : (enc dk[a + i]!).length = k := R.hk _
   have n44b : (enc dk[b + i]!).length = k := R.hk _
   generalize enc dk[a + i]! = cI at S2 l44a s44b n44a
   generalize enc dk[b + i]! = cJ at S2 l44b s44a s44b n44b
   clear S1
   go_wp2_with fail
   go_big_region_o
   clear l44a l44b s44a s44b
   generalize (wr.drew.setCells blk (off + (a + i) * k) cJ).setCells blk (off + (b + i) * k) cI = w2 at S2 ⊢
   go_wp2
   go_roundg (n - (i + 1))
   case measure => omega
   case rel => exact ⟨i + 1, by go_num, by omega, by omega, by rw [swapN, HDK.out]; exact S2⟩
  ·obtain rfl : i = n := by omega
   go_wp2
   go_end0
   exact ⟨rfl, S1.out⟩
set_option maxHeartbeats 4000000 in
set_option maxRecDepth 1000000 in
theorem rotate {P : Program} {k : Nat} (L : Lay P k) (enc : α → List Value) (g : Nat) (cb : Array Value) (blk off cap a m b : Nat) (d0 d : Array α) (w0 w : World)
  (R : RowK enc k w0 blk off d0) (hs : d0.size = d.size) (S : SWK enc k w0 blk off d w) (ham : a < m) (hmb : m < b) (hb : b ≤ d.size) (hsz : d.size < 4611686018427387904) :
  Calls P 66 #[.slice (some ⟨blk, off, none⟩) d.size cap, .int .i64 a, .int .i64 m, .int .i64 b, .func (.func g) #[] cb] w fun e w' => e = .returned (.tuple #[]) ∧ SWK enc k w0 blk off (rotGo m (b - a) (m - a) (b - m) d) w' := by
 have mixed := L.mixed; have t0 := L.t0; have a0 := L.a0; have z0 := L.z0; have v0 := L.v0; have t3 := L.t3; have a3 := L.a3; have z3 := L.z3; have v3 := L.v3; have t4 := L.t4; have a4 := L.a4; have z4 := L.z4; have v4 := L.v4; have t35 := L.t35; have a35 := L.a35; have z35 := L.z35; have v35 := L.v35; have t68 := L.t68; have a68 := L.a68; have z68 := L.z68; have v68 := L.v68
 have FG := L.f66
 have e67 : ∀ args w, (callFunc 67 args).run P w = .ok (.enter 67 args) w := enters_of L.f67 (by kernel_rfl) rfl
 have S0 : Aside (SWK enc k w0 blk off d w) := S
 clear S
 have c1 : (m : Int) - (a : Int) = ((m - a : Nat) : Int) := by omega
 have c2 : (b : Int) - (m : Int) = ((b - m : Nat) : Int) := by omega
 have hSR := fun (x y n : Nat) (dk : Array α) (w1 : World) (h1 : d0.size = dk.size) (h2 : SWK enc k w0 blk off dk w1) (h3 : x + n ≤ y) (h4 : y + n ≤ dk.size) (h5 : dk.size < 4611686018427387904) => swapRange L enc g cb blk off cap x y n d0 dk w0 w1 R h1 h2 h3 h4 h5
 have HSR : Aside _ := hSR
 clear hSR
 go_enter FG, Try.ntmps66
 go_wp2
 go_loopg [10, 11] (b - a) (fun kx s10 s11 wr => ∃ (i j f : Nat) (dk : Array α), s10 = .int .i64 i ∧ s11 = .int .i64 j ∧ 0 < i ∧ 0 < j ∧ i ≤ m - a ∧ j ≤ b - m ∧ i + j ≤ f ∧ f ≤ kx ∧ dk.size = d.size ∧ Aside (SWK enc k w0 blk off dk wr) ∧ Aside (rotGo m f i j dk = rotGo m (b - a) (m - a) (b - m) d))
 case atStart => exact ⟨m - a, b - m, b - a, d, by first | rfl | go_num | (congr 1; omega), by first | rfl | go_num | (congr 1; omega), by omega, by omega, by omega, by omega, by omega, by omega, rfl, S0, rfl⟩
 case round =>
  clear S0
  obtain ⟨i, j, f, dk, rfl, rfl, hi, hj, him, hjb, hf, hfk, hds, S1, HE⟩ := hrel
  obtain ⟨f, rfl⟩ : ∃ f', f = f' + 1 := ⟨f - 1, by omega⟩
  have hmi : (m : Int) - (i : Int) = ((m - i : Nat) : Int) := by omega
  by_cases he : i = j
  ·subst he
   have HF : Aside (rotGo m (f + 1) i i dk = swapN (m - i) m i dk) := by show _ = _; rw [rotGo, if_pos rfl]
   have hc := HSR.out (m - i) m i dk wr (by omega) S1.out (by omega) (by omega) (by omega)
   rw [hds] at hc
   go_wp2_with (go_at_call 67; refine hc.mono ?_; rintro e w1 ⟨rfl, S2⟩)
   go_end0
   exact ⟨rfl, by rw [← HE.out, HF.out]; exact S2⟩
  ·have hnz : ¬ ((i : Int) = (j : Int)) := by omega
   by_cases hgt : j < i
   ·have hgz : (j : Int) < (i : Int) := by omega
    have HF : Aside (rotGo m (f + 1) i j dk = rotGo m f (i - j) j (swapN (m - i) m j dk)) := by show _ = _; rw [rotGo, if_neg he, if_pos hgt]
    have hc := HSR.out (m - i) m j dk wr (by omega) S1.out (by omega) (by omega) (by omega)
    rw [hds] at hc
    go_wp2_with (go_at_call 67; refine hc.mono ?_; rintro e w1 ⟨rfl, S2⟩)
    have S3 : Aside _ := S2
    clear S2 S1 hc
    go_wp2
    go_roundg f
    case measure => omega
    case rel => exact ⟨i - j, j, f, swapN (m - i) m j dk, by first | rfl | go_num | (congr 1; omega), rfl, by omega, by omega, by omega, by omega, by omega, Nat.le_refl _, by rw [swapN_size]; exact hds, S3, by show _ = _; rw [← HE.out, HF.out]⟩
   ·have hgz : ¬ (j : Int) < (i : Int) := by omega
    have hmj : (m : Int) + (j : Int) - (i : Int) = ((m + j - i : Nat) : Int) := by omega
    have HF : Aside (rotGo m (f + 1) i j dk = rotGo m f i (j - i) (swapN (m - i) (m + j - i) i dk)) := by show _ = _; rw [rotGo, if_neg he, if_neg hgt]
    have hc := HSR.out (m - i) (m + j - i) i dk wr (by omega) S1.out (by omega) (by omega) (by omega)
    rw [hds] at hc
    go_wp2_with (go_at_call 67; refine hc.mono ?_; rintro e w1 ⟨rfl, S2⟩)
    have S3 : Aside _ := S2
    clear S2 S1 hc
    go_wp2
    go_roundg f
    case measure => omega
    case rel => exact ⟨i, j - i, f, swapN (m - i) (m + j - i) i dk, rfl, by first | rfl | go_num | (congr 1; omega), by omega, by omega, by omega, by omega, by omega, Nat.le_refl _, by rw [swapN_size]; exact hds, S3, by show _ = _; rw [← HE.out, HF.out]⟩
end Go.Proofs.Ytdinbnbogdadgaa.So
namespace Go.Proofs.Ytdinbnbogdadgaa.So
open Go.Shelf Go.RowKit Go.Lib Go.Sort Go.Proofs
set_option linter.unusedVariables false
set_option linter.unusedSimpArgs false
variable {α : Type} [Inhabited α]
set_option maxHeartbeats 40000000 in
set_option maxRecDepth 1000000 in
theorem stable {P : Program} {k : Nat} (L : Lay P k) (enc : α → List Value) (lt : α → α → Bool) (g : Nat) (cb : Array Value) (blk off cap : Nat) (d : Array α) (w0 w : World)
  (S : SWK enc k w0 blk off d w) (hsz : d.size < 1152921504606846976)
  (hins : ∀ (a b : Nat) (dk : Array α) (w1 : World), dk.size = d.size → SWK enc k w0 blk off dk w1 → a ≤ b → b ≤ dk.size → Calls P 64 #[.slice (some ⟨blk, off, none⟩) d.size cap, .int .i64 a, .int .i64 b, .func (.func g) #[] cb] w1 fun e w' => e = .returned (.tuple #[]) ∧ ∃ d', PermIn a b dk d' ∧ SortedIn lt a b d' ∧ SWK enc k w0 blk off d' w')
  (hsym : ∀ (a m b : Nat) (dk : Array α) (w1 : World), dk.size = d.size → SWK enc k w0 blk off dk w1 → a < m → m < b → b ≤ dk.size → SortedIn lt a m dk → SortedIn lt m b dk → Calls P 65 #[.slice (some ⟨blk, off, none⟩) d.size cap, .int .i64 a, .int .i64 m, .int .i64 b, .func (.func g) #[] cb] w1 fun e w' => e = .returned (.tuple #[]) ∧ ∃ d', PermIn a b dk d' ∧ SortedIn lt a b d' ∧ SWK enc k w0 blk off d' w') :
  Calls P 62 #[.slice (some ⟨blk, off, none⟩) d.size cap, .int .i64 d.size, .func (.func g) #[] cb] w fun e w' => e = .returned (.tuple #[]) ∧ ∃ d', PermIn 0 d.size d d' ∧ SortedIn lt 0 d.size d' ∧ SWK enc k w0 blk off d' w' := by
 have mixed := L.mixed; have t0 := L.t0; have a0 := L.a0; have z0 := L.z0; have v0 := L.v0; have t3 := L.t3; have a3 := L.a3; have z3 := L.z3; have v3 := L.v3; have t4 := L.t4; have a4 := L.a4; have z4 := L.z4; have v4 := L.v4; have t35 := L.t35; have a35 := L.a35; have z35 := L.z35; have v35 := L.v35; have t68 := L.t68; have a68 := L.a68; have z68 := L.z68; have v68 := L.v68
 have FG := L.f62
 have e64 : ∀ args w, (callFunc 64 args).run P w = .ok (.enter 64 args) w := enters_of L.f64 (by kernel_rfl) rfl
 have e65 : ∀ args w, (callFunc 65 args).run P w = .ok (.enter 65 args) w := enters_of L.f65 (by kernel_rfl) rfl
 have HI : Aside _ := hins
 have HS : Aside _ := hsym
 clear hins hsym
 have S0 : Aside (SWK enc k w0 blk off d w) := S
 clear S
 obtain ⟨n, hn⟩ : ∃ n : Nat, n = d.size := ⟨_, rfl⟩
 have HN : Aside (n = d.size) := hn
 rw [← hn] at HI HS ⊢
 have hszn : n < 1152921504606846976 := by omega
 clear hn hsz
 go_enter FG, Try.ntmps62
 go_wp2
 go_loopg [7, 8] n (fun kx s7 s8 wr => ∃ (a : Nat) (dk : Array α), s7 = .int .i64 a ∧ s8 = .int .i64 ((a : Int) + 20) ∧ a ≤ n ∧ n - a ≤ kx ∧ Aside (SWK enc k w0 blk off dk wr) ∧ Aside (PermIn 0 n d dk) ∧ Aside (Front lt 20 dk a))
 case atStart => exact ⟨0, d, rfl, rfl, Nat.zero_le _, Nat.le_refl _, S0, permIn_refl _ _ _, .zero⟩
 case round =>
  clear S0
  obtain ⟨a, dk, rfl, rfl, han, hkx, S1, PP, FR⟩ := hrel
  have hdk : dk.size = n := PP.out.1.trans HN.out.symm
  by_cases hlt : a + 20 ≤ n
  ·have hltz : (a : Int) + 20 ≤ (n : Int) := by omega
   have zb : (a : Int) + 20 = ((a + 20 : Nat) : Int) := by omega
   have hc := HI.out a (a + 20) dk wr (by omega) S1.out (by omega) (by omega)
   rw [← zb] at hc
   clear zb
   go_wp2_with (go_at_call 64; refine hc.mono ?_; rintro e w1 ⟨rfl, d1, q1, q2, S2⟩)
   go_roundg (n - (a + 20))
   case measure => omega
   case rel =>
    refine ⟨a + 20, d1, by first | rfl | go_num | (congr 1; omega), by first | rfl | go_num | (congr 1; omega), by omega, Nat.le_refl _, S2, ?_, ?_⟩
    ·exact permIn_trans _ _ _ 0 n PP.out (permIn_mono dk d1 a (a + 20) 0 n (by omega) hlt (by omega) q1)
    ·exact .more a (Front.keep FR.out (fun t ht => q1.2.1 t (Or.inl ht))) q2
  ·have hltz : ¬ (a : Int) + 20 ≤ (n : Int) := by omega
   have hc := HI.out a n dk wr (by omega) S1.out (by omega) (by omega)
   go_wp2_with (go_at_call 64; refine hc.mono ?_; rintro e w1 ⟨rfl, d1, q1, q2, S2⟩)
   have hp1 : PermIn 0 n d d1 := permIn_trans _ _ _ 0 n PP.out (permIn_mono dk d1 a n 0 n (by omega) (Nat.le_refl _) (by omega) q1)
   have P1 : Aside (PermIn 0 n d d1) := hp1
   have R1 : Aside (Runs lt 20 n d1 0) := Front.join (by omega) (Front.keep FR.out (fun t ht => q1.2.1 t (Or.inl ht))) han (Runs.ofLast q2 (by omega))
   have S3 : Aside (SWK enc k w0 blk off d1 w1) := S2
   clear S2 q1 q2 hp1 PP FR S1 hc
   go_loopg [6] n (fun kx s6 wr => ∃ (s : Nat) (dk : Array α), s6 = .int .i64 s ∧ 0 < s ∧ s < 2305843009213693952 ∧ n - s ≤ kx ∧ Aside (SWK enc k w0 blk off dk wr) ∧ Aside (PermIn 0 n d dk) ∧ Aside (Runs lt s n dk 0))
   case atStart => exact ⟨20, d1, rfl, by omega, by omega, by omega, S3, P1, R1⟩
   case round =>
    clear S3 P1 R1 hdk
    obtain ⟨s, d2, rfl, hs0, hs1, hkx2, S4, P2, R2⟩ := hrel
    by_cases hsn : s < n
    ·have hsnz : (s : Int) < (n : Int) := by omega
     go_wp2
     go_loopg [7, 8] n (fun kx s7 s8 wr => ∃ (x : Nat) (dk : Array α), s7 = .int .i64 x ∧ s8 = .int .i64 ((x : Int) + 2 * (s : Int)) ∧ x ≤ n ∧ n - x ≤ kx ∧ Aside (SWK enc k w0 blk off dk wr) ∧ Aside (PermIn 0 n d dk) ∧ Aside (Front lt (2 * s) dk x ∧ Runs lt s n dk x))
     case atStart => exact ⟨0, d2, rfl, by first | rfl | go_num | (congr 1; omega), Nat.zero_le _, Nat.le_refl _, S4, P2, ⟨.zero, R2.out⟩⟩
     case round =>
      clear S4 P2 R2
      obtain ⟨x, d3, rfl, rfl, hxn, hkx3, S5, P3, R3⟩ := hrel
      have hd3 : d3.size = n := P3.out.1.trans HN.out.symm
      by_cases hle : x + 2 * s ≤ n
      ·have hlez : (x : Int) + 2 * (s : Int) ≤ (n : Int) := by omega
       obtain ⟨q1, q2, q3⟩ := Runs.two R3.out.2 hle hs0
       have zm : (x : Int) + (s : Int) = ((x + s : Nat) : Int) := by omega
       have zb : (x : Int) + 2 * (s : Int) = ((x + 2 * s : Nat) : Int) := by omega
       have hc := HS.out x (x + s) (x + 2 * s) d3 wr (by omega) S5.out (by omega) (by omega) (by omega) q1 q2
       have Q3 : Aside _ := q3
       clear q1 q2 q3
       rw [← zm, ← zb] at hc
       clear zm zb
       go_wp2_with (go_at_call 65; refine hc.mono ?_; rintro e w2 ⟨rfl, d4, q4, q5, S6⟩)
       go_roundg (n - (x + 2 * s))
       case measure => omega
       case rel =>
        refine ⟨x + 2 * s, d4, by first | rfl | go_num | (congr 1; omega), by first | rfl | go_num | (congr 1; omega), hle, Nat.le_refl _, S6, ?_, ?_, ?_⟩
        ·exact permIn_trans _ _ _ 0 n P3.out (permIn_mono d3 d4 x (x + 2 * s) 0 n (by omega) hle (by omega) q4)
        ·exact .more x (Front.keep R3.out.1 (fun t ht => q4.2.1 t (Or.inl ht))) q5
        ·exact Runs.keep Q3.out (fun t ht => q4.2.1 t (Or.inr ht))
      ·have hlez : ¬ (x : Int) + 2 * (s : Int) ≤ (n : Int) := by omega
       by_cases hm : x + s < n
       ·have hmz : (x : Int) + (s : Int) < (n : Int) := by omega
        obtain ⟨q1, q2⟩ := Runs.last R3.out.2 hm (by omega)
        have zm : (x : Int) + (s : Int) = ((x + s : Nat) : Int) := by omega
        have hc := HS.out x (x + s) n d3 wr (by omega) S5.out (by omega) hm (by omega) q1 q2
        clear q1 q2
        rw [← zm] at hc
        clear zm
        go_wp2_with (go_at_call 65; refine hc.mono ?_; rintro e w2 ⟨rfl, d4, q4, q5, S6⟩)
        go_roundg (n - 2 * s)
        case measure => omega
        case rel =>
         refine ⟨2 * s, d4, by first | rfl | go_num | (congr 1; omega), by omega, by omega, Nat.le_refl _, S6, ?_, ?_⟩
         ·exact permIn_trans _ _ _ 0 n P3.out (permIn_mono d3 d4 x n 0 n (by omega) (Nat.le_refl _) (by omega) q4)
         ·exact Front.join (by omega) (Front.keep R3.out.1 (fun t ht => q4.2.1 t (Or.inl ht))) hxn (Runs.ofLast q5 (by omega))
       ·have hmz : ¬ (x : Int) + (s : Int) < (n : Int) := by omega
        go_wp2
        go_roundg (n - 2 * s)
        case measure => omega
        case rel => exact ⟨2 * s, d3, by first | rfl | go_num | (congr 1; omega), by omega, by omega, Nat.le_refl _, S5, P3, Front.join (by omega) R3.out.1 hxn (Runs.ofLast (Runs.one R3.out.2 (by omega)) (by omega))⟩
    ·have hsnz : ¬ (s : Int) < (n : Int) := by omega
     go_wp2
     go_end0
     exact ⟨rfl, d2, P2.out, Runs.one R2.out (by omega), S4.out⟩
end Go.Proofs.Ytdinbnbogdadgaa.So
