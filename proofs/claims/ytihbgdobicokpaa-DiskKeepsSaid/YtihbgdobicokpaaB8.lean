/- Proofs towards the laws of this seat, joined. No conditions beyond those typed. -/
import Derived.Test.YtihbgdobicokpaaB7
import Derived.Lib.SmallJoins
import Derived.Test.YtihbgdobicokpaaB5
namespace Go.Proofs.Ytihbgdobicokpaa.D
open Go.RowKit Go.Maps Go.Proofs.Ytihbgdobicokpaa.X Go.Proofs.YtihbgdobicokpaaW.PrintWords Go.Proofs.YtihbgdobicokpaaW.PrintLast Go.Proofs.YtihbgdobicokpaaW.PrintMore
set_option linter.unusedVariables false
set_option linter.unusedSimpArgs false
theorem IsB.C {w : World} {A : Option Addr} {n c : Nat} {xs : List Int} (h : IsB w (.slice A n c) xs) : Kd.C (Kd.int .u8) w A xs.length xs := by
 obtain ⟨A', c', e, _, hC⟩ := h.reads
 cases e
 exact hC
theorem IsB.lit (w : World) (xs : List Int) (h : xs.length ≤ 140737488355328) : IsB (w.alloc (.cells ((xs.map (Value.int .u8)).toArray) 5 (0, 0))) (.slice (some ⟨w.heap.size, 0, none⟩) xs.length xs.length) xs :=
 Or.inr ⟨w.heap.size, xs.length, _, rfl, Nat.le_refl _, h, heap_alloc_new w _, by rw [List.toList_toArray, List.take_of_length_le (by simp)]⟩
def k0 : Dk := ⟨[], 100, -1, false⟩
def k1 : Dk := ⟨[⟨[97], [120, 121, 122], 0⟩], 100, -1, false⟩
def k2 : Dk := ⟨[⟨[97], [120, 121, 122], 3⟩], 100, -1, false⟩
def k3 : Dk := ⟨[⟨[97], [112, 113, 114, 115], 0⟩], 100, -1, false⟩
def k4 : Dk := ⟨[⟨[97], [112, 113, 114, 115], 0⟩, ⟨[98], [113], 0⟩], 100, -1, false⟩
def k5 : Dk := ⟨[⟨[97], [112, 113], 2⟩, ⟨[98], [], 0⟩], 100, -1, false⟩
def k6 : Dk := ⟨[⟨[98], [112, 113], 2⟩], 100, -1, false⟩
theorem s0 : newD 100 = k0 := rfl
theorem s1 : wrD k0 [97] [120, 121, 122] = (0, k1) := by kernel_rfl
theorem s2 : syD k1 [97] = (0, k2) := by kernel_rfl
theorem s3 : wrD k2 [97] [112, 113, 114, 115] = (0, k3) := by kernel_rfl
theorem s4 : wrD k3 [98] [113] = (0, k4) := by kernel_rfl
theorem s5 : crD k4 [2] = k5 := by kernel_rfl
theorem s6 : rdD k5 [97] = ([112, 113], 0) := by kernel_rfl
theorem s7 : rdD k5 [98] = ([], 0) := by kernel_rfl
theorem s8 : wrD k5 [99] (List.replicate 99 0) = (22, k5) := by kernel_rfl
theorem s9 : rnD k5 [97] [98] = (0, k6) := by kernel_rfl
theorem s10 : lsD k6 = [[98]] := by kernel_rfl
theorem s11 : rdD k6 [97] = ([], 20) := by kernel_rfl
theorem s12 : total k6.fs = 2 := by kernel_rfl
theorem litC (w : World) (xs : List Int) (fr : Nat × Nat) (h : xs.length ≤ 140737488355328) : Kd.C (Kd.int .u8) (w.alloc (.cells ((xs.map (Value.int .u8)).toArray) 5 fr)) (some ⟨w.heap.size, 0, none⟩) xs.length xs := by
 have h0 := (IsB.lit w xs h).C
 refine ⟨h0.1, h0.2.1, fun hn => ?_⟩
 obtain ⟨ad, e, hc⟩ := h0.2.2 hn
 cases e
 refine ⟨_, rfl, fun j x hj => ?_⟩
 obtain ⟨c, h1, h2, h3⟩ := hc j x hj
 refine ⟨c, h1, h2, fun i u hu => ?_⟩
 have := h3 i u hu
 have hb : ∀ k, (Addr.add ⟨w.heap.size, 0, none⟩ k).block = w.heap.size ∧ (Addr.add ⟨w.heap.size, 0, none⟩ k).spot = none := fun k => by unfold Addr.add; split <;> exact ⟨rfl, rfl⟩
 simp only [World.cell?, (hb _).1, (hb _).2, heap_alloc_new] at this ⊢
 exact this
theorem C_blk {q : IntKind} {w : World} {g t : Nat} {fr : Nat × Nat} {xs : List Int} (h : w.heap[g]? = some (.cells ((xs.map (Value.int q)).toArray) t fr)) (hl : xs.length ≤ 140737488355328) : Kd.C (Kd.int q) w (some ⟨g, 0, none⟩) xs.length xs := by
 refine ⟨rfl, Nat.le_trans hl (by decide), fun hn => ⟨_, rfl, fun j x hj => ⟨[.int q x], rfl, rfl, fun i u hu => ?_⟩⟩⟩
 cases i with
 | succ i => simp at hu
 | zero =>
  simp at hu
  subst hu
  have hb : (Addr.add ⟨g, 0, none⟩ j).block = g := by unfold Addr.add; split <;> rfl
  have hs : (Addr.add ⟨g, 0, none⟩ j).spot = none := by unfold Addr.add; split <;> rfl
  have ho : (Addr.add ⟨g, 0, none⟩ j).off = j := by unfold Addr.add; split <;> simp_all
  simp only [Kd.int, Kd.scalar, Nat.mul_one, Nat.add_zero]
  simp only [World.cell?, hb, h, hs, ho]
  simp [hj]
def z99 : Array Value := (((List.replicate 99 (0 : Int))).map (Value.int .u8)).toArray
theorem mk99 (w : World) : (Instr.makeSlice 23 (.int .i64 99) (.int .i64 99)).run Try.prog w = .ok (.slice (some ⟨w.heap.size, 0, none⟩) 99 99) (w.alloc (.cells z99 5)) := by
 obtain ⟨i0, hi, hz0, hz1, hz2⟩ := info_parts X.info5
 have h := run_make w 23 5 i0 (.int .u8 0) Try.underlying23 hi hz0 .i64 .i64 99 99 (by omega) (by omega) (by rw [hz2]; decide) (by omega)
 rw [hz1] at h
 have e : madeCells (Value.cells (.int .u8 0)) ((99 : Int).toNat * 1) = z99 := by kernel_rfl
 rw [e] at h
 exact h
theorem conv_own {w : World} {base c n : Nat} {A : Option Addr} {xs : List Int} (h : w.ownsRow base 5 1 (.slice A n c) n (xs.map (Value.int .u8))) (hn : 0 < n) : (convert 23 9 (.slice A n c)).run Try.prog w = .ok (.string (strOfNums xs)) w := by
 have hx : xs.length = n := by have := h.1; simpa using this
 have hB := IsB.of_own h hx
 obtain ⟨h1, ⟨h2, h3⟩ | ⟨g, cap, cur, h2, h3, h4, h5, h6, h7, h8⟩⟩ := h
 ·omega
 ·cases h2
  refine run_convert_bytes_arg w 23 5 Try.underlying23 Try.underlying5 g 0 n c xs hx (fun i hi => ?_) 9 Try.underlying9
  have e : cur.toList[i]? = some (.int .u8 (xs.getD i 0)) := by
   have := congrArg (fun l => l[i]?) h8
   simp only [Nat.mul_one, List.getElem?_take, if_pos hi, List.getElem?_map, List.getElem?_eq_getElem (show i < xs.length by omega)] at this
   rw [this]
   simp [List.getD, List.getElem?_eq_getElem (show i < xs.length by omega)]
  simp only [World.cell?, h4, Nat.zero_add]
  simpa using e
section
variable {N : Nat} {w : World} {p b : Nat} {d d' : Dk} {e : Int}
theorem Write_is (h : IsD N w p b d) (hN : N < 1000000) {nm : ByteArray} (hn : nm.size ≤ maxLen) {A : Option Addr} {cp : Nat} {bs : List Int} (hC : Kd.C (Kd.int .u8) w A bs.length bs) (he : wrD d nm.data.toList bs = (e, d')) :
  Calls Try.prog 11 #[.pointer (some ⟨p, 0, none⟩), .string nm, .slice A bs.length cp] w fun x w' => x = .returned (.int .i64 e) ∧ IsD (N + 1) w' p b d' ∧ Fr (Two p b) w w' := by
 have := Write_calls (cp := cp) h hN hn hC
 rw [he] at this
 exact this
theorem Sync_is (h : IsD N w p b d) (hN : N < 1000000) {nm : ByteArray} (hn : nm.size ≤ maxLen) (he : syD d nm.data.toList = (e, d')) :
  Calls Try.prog 12 #[.pointer (some ⟨p, 0, none⟩), .string nm] w fun x w' => x = .returned (.int .i64 e) ∧ IsD (N + 1) w' p b d' ∧ Fr (Two p b) w w' := by
 have := Sync_calls h hN hn
 rw [he] at this
 exact this
theorem Rename_is (h : IsD N w p b d) (hN : N < 1000000) {nm tm : ByteArray} (hn : nm.size ≤ maxLen) (ht : tm.size ≤ maxLen) (he : rnD d nm.data.toList tm.data.toList = (e, d')) :
  Calls Try.prog 13 #[.pointer (some ⟨p, 0, none⟩), .string nm, .string tm] w fun x w' => x = .returned (.int .i64 e) ∧ IsD (N + 1) w' p b d' ∧ Fr (Two p b) w w' := by
 have := Rename_calls h hN hn ht
 rw [he] at this
 exact this
theorem Read_is (h : IsD N w p b d) {nm : ByteArray} (hn : nm.size ≤ maxLen) {bs : List Int} (he : rdD d nm.data.toList = (bs, e)) :
  Calls Try.prog 15 #[.pointer (some ⟨p, 0, none⟩), .string nm] w fun x w' => ∃ v, x = .returned (.tuple #[v, .int .i64 e]) ∧ w'.ownsRow w.heap.size 5 1 v bs.length (bs.map (Value.int .u8)) ∧ Below w.heap.size w w' := by
 have := Read_calls h hn
 rw [he] at this
 exact this
end
set_option maxHeartbeats 8000000 in
set_option maxRecDepth 100000 in
theorem known_calls (w : World) : Calls Try.prog 8 #[] w fun e w' => e = .returned (.bool true) ∧ Below w.heap.size w w' := by
 have hm97 : (⟨#[97]⟩ : ByteArray).size ≤ maxLen := by decide
 have hm98 : (⟨#[98]⟩ : ByteArray).size ≤ maxLen := by decide
 have hm99 : (⟨#[99]⟩ : ByteArray).size ≤ maxLen := by decide
 have H97 := Aside0.mk hm97
 have H98 := Aside0.mk hm98
 have H99 := Aside0.mk hm99
 clear hm97 hm98 hm99
 go_enter Try.func8, Try.ntmps8
 go_wp2_with fail
 refine (New_calls w 100 (by omega)).mono ?_
 rintro e w1 ⟨p, b, rfl, hd, hb1, hp, hb⟩
 rw [s0] at hd
 have HP := Aside0.mk hp
 have HBB := Aside0.mk hb
 have HD := Aside0.mk hd
 have HB := Aside0.mk hb1
 clear hd hb1 hp hb
 have hcv1 := Lib.run_convert_bytes_const (P := Try.prog) w1 23 5 #[.int .u8 120, .int .u8 121, .int .u8 122] 3 3 Try.underlying23 Try.underlying5
 go_wp2_with fail
 refine (Write_is (N := 0) (HD.out.below ((Below.refl _ w1).alloc (Nat.le_refl _) _)) (by decide) H97.out (litC w1 [120, 121, 122] _ (by decide)) s1).mono ?_
 rintro e w2 ⟨rfl, hd2, hf2⟩
 have HD2 := Aside0.mk hd2
 have HB2 := Aside0.mk (Fr.base (HB.out.alloc HB.out.size _) HP.out HBB.out hf2)
 clear hd2 hf2 HD HB hcv1
 go_wp2_with fail
 refine (Sync_is HD2.out (by decide) H97.out s2).mono ?_
 rintro e w3 ⟨rfl, hd3, hf3⟩
 have HD3 := Aside0.mk hd3
 have HB3 := Aside0.mk (Fr.base HB2.out HP.out HBB.out hf3)
 clear hd3 hf3 HD2 HB2
 have hcv3 := Lib.run_convert_bytes_const (P := Try.prog) w3 23 5 #[.int .u8 112, .int .u8 113, .int .u8 114, .int .u8 115] 4 4 Try.underlying23 Try.underlying5
 go_wp2_with fail
 refine (Write_is (N := 2) (HD3.out.below ((Below.refl _ w3).alloc (Nat.le_refl _) _)) (by decide) H97.out (litC w3 [112, 113, 114, 115] _ (by decide)) s3).mono ?_
 rintro e w4 ⟨rfl, hd4, hf4⟩
 have HD4 := Aside0.mk hd4
 have HB4 := Aside0.mk (Fr.base (HB3.out.alloc HB3.out.size _) HP.out HBB.out hf4)
 clear hd4 hf4 HD3 HB3 hcv3
 have hcv4 := Lib.run_convert_bytes_const (P := Try.prog) w4 23 5 #[.int .u8 113] 1 1 Try.underlying23 Try.underlying5
 go_wp2_with fail
 refine (Write_is (N := 3) (HD4.out.below ((Below.refl _ w4).alloc (Nat.le_refl _) _)) (by decide) H98.out (litC w4 [113] _ (by decide)) s4).mono ?_
 rintro e w5 ⟨rfl, hd5, hf5⟩
 have HD5 := Aside0.mk hd5
 have HB5 := Aside0.mk (Fr.base (HB4.out.alloc HB4.out.size _) HP.out HBB.out hf5)
 clear hd5 hf5 HD4 HB4 hcv4
 go_wp2_with fail
 have hd5 := HD5.out.below ((Below.refl w5.heap.size w5).alloc (Nat.le_refl _) (.cells #[.int .i64 2] 3 (0, 0)))
 refine (Crash_calls (keep := [2]) hd5 (by decide) (fun w' hf => C_blk (xs := [2]) ((hf.block _ (by simp) (by rintro (e | e); exact absurd HD5.out.lt (by omega); exact absurd HD5.out.ltb (by omega))).trans (heap_alloc_new w5 _)) (by decide))).mono ?_
 rintro e w6 ⟨rfl, hd6, hf6⟩
 rw [s5] at hd6
 have HD6 := Aside0.mk hd6
 have HB6 := Aside0.mk (Fr.base (HB5.out.alloc HB5.out.size _) HP.out HBB.out hf6)
 clear hd6 hf6 HD5 HB5 hd5
 go_wp2_with fail
 refine (Read_is HD6.out H97.out s6).mono ?_
 rintro e w7 ⟨v7, rfl, ho7, hb7⟩
 obtain ⟨A7, c7, rfl⟩ := own_slice ho7
 have HLT := Aside0.mk (show ∀ k, Two p b k → k < w6.heap.size from fun k hk => by rcases hk with rfl | rfl; exact HD6.out.lt; exact HD6.out.ltb)
 have HD7 := Aside0.mk (HD6.out.below hb7)
 have HB7 := Aside0.mk (HB6.out.trans (hb7.mono HB6.out.size))
 have HO7 := Aside0.mk ho7
 clear hb7 ho7 HD6 HB6
 go_wp2_with fail
 refine (Read_is HD7.out H98.out s7).mono ?_
 rintro e w8 ⟨v8, rfl, ho8, hb8⟩
 obtain ⟨A8, c8, rfl⟩ := own_slice ho8
 have HD8 := Aside0.mk (HD7.out.below hb8)
 have HB8 := Aside0.mk (HB7.out.trans (hb8.mono HB7.out.size))
 have HO7' := Aside0.mk (pw_own_below HO7.out hb8)
 have HO8 := Aside0.mk ho8
 clear hb8 ho8 HD7 HB7 HO7
 have hmk := mk99 w8
 go_wp2_with fail
 refine (Write_is (N := 6) (bs := List.replicate 99 0) ((HD8.out.mono (by omega) (by omega)).below ((Below.refl _ w8).alloc (Nat.le_refl _) _)) (by decide) H99.out (C_blk (q := .u8) (xs := List.replicate 99 0) (heap_alloc_new w8 _) (by decide)) s8).mono ?_
 rintro e w9 ⟨rfl, hd9, hf9⟩
 have HD9 := Aside0.mk hd9
 have HB9 := Aside0.mk (Fr.base (HB8.out.alloc HB8.out.size _) HP.out HBB.out hf9)
 clear hd9 HD8 HB8 hmk
 have HO9 := Aside0.mk (row_fr (pw_own_below HO7'.out ((Below.refl _ w8).alloc (Nat.le_refl _) (.cells z99 5 (0, 0)))) hf9 HLT.out)
 clear HO7' HO8
 go_wp2_with fail
 refine (Rename_is HD9.out (by decide) H97.out H98.out s9).mono ?_
 rintro e w10 ⟨rfl, hd10, hf10⟩
 have HD10 := Aside0.mk hd10
 have HB10 := Aside0.mk (Fr.base HB9.out HP.out HBB.out hf10)
 have HO10 := Aside0.mk (row_fr HO9.out hf10 HLT.out)
 clear hd10 hf10 HD9 HB9 HO9
 go_wp2_with fail
 have K11 := List_calls HD10.out
 rw [s10] at K11
 refine K11.mono ?_
 clear K11
 rintro e w11 ⟨v11, rfl, ho11, hb11⟩
 obtain ⟨A11, c11, rfl⟩ := own_slice ho11
 have HD11 := Aside0.mk (HD10.out.below hb11)
 have HB11 := Aside0.mk (HB10.out.trans (hb11.mono HB10.out.size))
 have HO11 := Aside0.mk (pw_own_below HO10.out hb11)
 have HL11 := Aside0.mk ho11
 clear hb11 ho11 HD10 HB10 HO10
 go_wp2_with fail
 refine (Read_is HD11.out H97.out s11).mono ?_
 rintro e w12 ⟨v12, rfl, ho12, hb12⟩
 have HD12 := Aside0.mk (HD11.out.below hb12)
 have HB12 := Aside0.mk (HB11.out.trans (hb12.mono HB11.out.size))
 have HO12 := Aside0.mk (pw_own_below HO11.out hb12)
 have HL12 := Aside0.mk (pw_own_below HL11.out hb12)
 clear hb12 ho12 HD11 HB11 HO11 HL11
 have hpq : strOfNums [112, 113] = ⟨#[112, 113]⟩ := by kernel_rfl
 have hcv : (convert 23 9 (.slice A7 2 c7)).run Try.prog w12 = .ok (.string ⟨#[112, 113]⟩) w12 := by
  have h := conv_own (xs := [112, 113]) HO12.out (by decide)
  rw [hpq] at h
  exact h
 clear hpq
 obtain ⟨ad, e1, hc11⟩ := row_cells HL12.out 0 (v := .string ⟨#[98]⟩) rfl
 cases e1
 have hc12 : w12.cell? ad = some (.string ⟨#[98]⟩) := by simpa [Addr.add] using hc11
 clear hc11
 have hU := Used_calls HD12.out
 rw [s12] at hU
 go_wp2_with (go_at_call 19; refine hU.mono ?_; rintro e w13 ⟨rfl, hb13⟩)
 go_ret
 exact ⟨rfl, HB12.out.trans (hb13.mono HB12.out.size)⟩
end Go.Proofs.Ytihbgdobicokpaa.D
namespace Go.Proofs.Ytihbgdobicokpaa.D
open Go.RowKit Go.Maps Go.Proofs.Ytihbgdobicokpaa.X Go.Proofs.YtihbgdobicokpaaW.PrintWords Go.Proofs.YtihbgdobicokpaaW.PrintLast Go.Proofs.YtihbgdobicokpaaW.PrintMore
attribute [local go_sem] max2_int min2_int max_two min_two max_three min_three max_four min_four   -- for this text's walks alone
set_option linter.unusedVariables false
set_option linter.unusedSimpArgs false
theorem Bytes_loop (l0 l1 : List Int) (hl : l0.length = l1.length) (hb : l0.length ≤ 140737488355328) : ∀ (m i : Nat), l0.length - i = m → i ≤ l0.length → l0.take i = l1.take i → leathelp_Bytes.l0 (m + 1) l0 l1 (i : Int) = some (decide (l0 = l1))
 | 0, i, hm, hi, he => by
  unfold leathelp_Bytes.l0
  rw [if_neg (by omega)]
  have e : l0 = l1 := by rw [List.take_of_length_le (by omega), List.take_of_length_le (by omega)] at he; exact he
  rw [decide_eq_true e]
 | m + 1, i, hm, hi, he => by
  unfold leathelp_Bytes.l0
  have w5 : wrap64 ((i : Int) + 1) = ((i + 1 : Nat) : Int) := by unfold wrap64; omega
  have h0 : rd l0 (i : Int) = l0[i]'(by omega) := by simp [rd, List.getD, List.getElem?_eq_getElem (show i < l0.length by omega)]
  have h1 : rd l1 (i : Int) = l1[i]'(by omega) := by simp [rd, List.getD, List.getElem?_eq_getElem (show i < l1.length by omega)]
  rw [if_pos (by omega), if_pos (by omega), if_pos (by omega), h0, h1, w5]
  by_cases c : l0[i]'(by omega) = l1[i]'(by omega)
  ·rw [if_pos c]
   refine Bytes_loop l0 l1 hl hb m (i + 1) (by omega) (by omega) ?_
   rw [List.take_succ_eq_append_getElem (by omega), List.take_succ_eq_append_getElem (by omega), he, c]
  ·rw [if_neg c]
   have : ¬ l0 = l1 := fun e => c (by subst e; rfl)
   rw [decide_eq_false this]
theorem Bytes_f (l0 l1 : List Int) (hb : l0.length ≤ 140737488355328) : ∃ k, leathelp_Bytes.f k l0 l1 = some (decide (l0 = l1)) := by
 by_cases c : l0.length = l1.length
 ·refine ⟨l0.length + 1, ?_⟩
  unfold leathelp_Bytes.f
  rw [if_pos (by omega)]
  exact Bytes_loop l0 l1 c hb l0.length 0 (by omega) (by omega) (by simp)
 ·refine ⟨0, ?_⟩
  unfold leathelp_Bytes.f
  rw [if_neg (by omega), decide_eq_false (fun e => c (by rw [e]))]
theorem Bytes_calls {w : World} {A A' : Option Addr} {n n' c c' : Nat} {xs ys : List Int} (h0 : IsB w (.slice A n c) xs) (h1 : IsB w (.slice A' n' c') ys) :
  Calls Try.prog 16 #[.slice A n c, .slice A' n' c'] w fun e w' => e = .returned (.bool (decide (xs = ys))) ∧ Drawn0 w w' := by
 obtain ⟨k, hk⟩ := Bytes_f xs ys h0.len
 obtain ⟨A0, c0, e0, g0, hC0⟩ := h0.reads
 obtain ⟨A1, c1, e1, g1, hC1⟩ := h1.reads
 cases e0
 cases e1
 exact leathelp_Bytes.calls k A c xs A' c' ys _ w hC0 g0 hC1 g1 hk
theorem look_names {fs : List Fl} {n : Nm} (h : n ∈ names fs) : (look n fs).isSome = true := by
 unfold names at h
 obtain ⟨f, hf, rfl⟩ := List.mem_map.1 h
 unfold look
 rw [List.find?_isSome]
 exact ⟨f, hf, by simp⟩
theorem IsD.got_len {N : Nat} {w : World} {p b : Nat} {d : Dk} (h : IsD N w p b d) (n : Nm) : (got n d.fs).1.length ≤ 1048576 := by
 obtain ⟨es, h1, h2⟩ := h.fs
 obtain ⟨sl, g1, g2, g3, g4, g5, g6⟩ := got_of n h2
 exact g6
theorem rd_names {d : Dk} {n : Nm} (hd : d.dead = false) (h : n ∈ names d.fs) : rdD d n = ((got n d.fs).1, 0) := by
 have e : isE d n = 0 := by unfold isE; rw [if_neg (by rw [hd]; decide), if_pos (look_names h)]
 unfold rdD
 rw [if_pos e]
def Dalb.T9 : Bool × List (List Nat × List Nat) := (true, [([], []), ([], []), ([0, 1], [0, 1]), ([2], [2]), ([], []), ([], []), ([4, 5], [4, 5]), ([6], [6]), ([3, 7], [3, 7]), ([8], [8]), ([9], [9]), ([9], [9]), ([10, 11, 9], [9, 10, 11]), ([9, 12], [9, 12]), ([13, 9], [13]), ([14], [14]), ([14], [14]), ([15, 16, 14, 14], [14, 15, 16]), ([17, 14], [14, 17]), ([14, 18], [14, 18])])
def Dalb.B9 : List Nat := [0, 0, 3, 7, 0, 0, 48, 112, 255, 511, 1023, 1023, 4095, 8191, 16383, 32767, 32767, 131071, 262143, 524287]
theorem Dalb.tab9 : rtab .any (opsOf Try.f25 9) = Dalb.T9 := by kernel_rfl
theorem Dalb.bits9 : waitsOk Dalb.T9.2 Dalb.B9 = true := by kernel_rfl
set_option maxHeartbeats 8000000 in
set_option maxRecDepth 100000 in
theorem alikeBoth_calls {N N' : Nat} {w : World} {p b p' b' : Nat} {d : Dk} (h : IsD N w p b d) (h' : IsD N' w p' b' d) :
  Calls Try.prog 25 #[.pointer (some ⟨p, 0, none⟩), .pointer (some ⟨p', 0, none⟩)] w fun e w' => e = .returned (.bool true) ∧ Below w.heap.size w w' := by
 have HLEN := Aside0.mk (show (lsD d).length ≤ 1000000 from by unfold lsD names; have := names_len h; have := h.small; split <;> simp <;> omega)
 have HMX := Aside0.mk h.nmle
 have H := Aside0.mk h
 have H' := Aside0.mk h'
 clear h h'
 go_enter Try.func25, Try.ntmps25
 go_wp2_with fail
 refine (List_calls H.out).mono ?_
 rintro e w1 ⟨v1, rfl, ho1, hb1⟩
 obtain ⟨A1, c1, rfl⟩ := own_slice ho1
 have HB1 := Aside0.mk hb1
 have HO1 := Aside0.mk ho1
 clear ho1 hb1
 go_wp2_with fail
 refine (List_calls (H'.out.below HB1.out)).mono ?_
 rintro e w2 ⟨v2, rfl, ho2, hb2⟩
 obtain ⟨A2, c2, rfl⟩ := own_slice ho2
 have HB2 := Aside0.mk (HB1.out.trans (hb2.mono HB1.out.size))
 have HO1' := Aside0.mk (pw_own_below HO1.out hb2)
 have HO2 := Aside0.mk (own_weaken ho2 HB1.out.size)
 clear ho2 hb2 HO1 HB1
 go_wp2_with fail
 refine (Used_calls (H.out.below HB2.out)).mono ?_
 rintro e w3 ⟨rfl, hb3⟩
 have HB3 := Aside0.mk (HB2.out.trans (hb3.mono HB2.out.size))
 have HO1 := Aside0.mk (pw_own_below HO1'.out (hb3.mono (Nat.le_refl _)))
 have HO2' := Aside0.mk (pw_own_below HO2.out (hb3.mono (Nat.le_refl _)))
 clear hb3 HO1' HO2 HB2
 go_wp2_with fail
 refine (Used_calls (H'.out.below HB3.out)).mono ?_
 rintro e w4 ⟨rfl, hb4⟩
 have HB4 := Aside0.mk (HB3.out.trans (hb4.mono HB3.out.size))
 have HO1' := Aside0.mk (pw_own_below HO1.out (hb4.mono (Nat.le_refl _)))
 have HO2 := Aside0.mk (pw_own_below HO2'.out (hb4.mono (Nat.le_refl _)))
 clear hb4 HO1 HO2' HB3
 go_wp2_with (first
  | (go_at_call 23; refine (Dead_calls (H.out.below HB4.out)).mono ?_; rintro e w5 ⟨rfl, rfl⟩; go_wp2_with fail)
  | (go_at_call 23; refine (Dead_calls (H'.out.below HB4.out)).mono ?_; rintro e w5 ⟨rfl, rfl⟩; go_wp2_with fail)
  | fail)
 have HROW := Aside0.mk HO1'.out
 have HROW2 := Aside0.mk HO2.out
 clear HO1' HO2
 go_loopg [7] ((lsD d).length) (fun kx s7 wr => ∃ i : Nat, s7 = .int .i64 (i : Int) ∧ i ≤ (lsD d).length ∧ (lsD d).length - i ≤ kx ∧ Aside0 (Below w.heap.size w wr) ∧ Aside0 (Below w5.heap.size w5 wr))
 case atStart => exact ⟨0, rfl, Nat.zero_le _, by omega, ⟨HB4.out⟩, ⟨Below.refl _ _⟩⟩
 case round =>
  obtain ⟨i, rfl, hi, hk, HB, HBr⟩ := hrel
  by_cases hgo : i < (lsD d).length
  ·have hlz : (i : Int) < ((lsD d).length : Int) := by omega
   have hl6 := HLEN.out
   have hwi : wrap64 ((i : Int) + 1) = ((i + 1 : Nat) : Int) := by unfold wrap64; omega
   obtain ⟨n, hn⟩ : ∃ n, (lsD d)[i]? = some n := ⟨_, List.getElem?_eq_getElem hgo⟩
   have hdead : d.dead = false := by
    cases hd : d.dead with
    | false => rfl
    | true => unfold lsD at hn; rw [if_pos hd] at hn; simp at hn
   have hmem : n ∈ names d.fs := by unfold lsD at hn; rw [if_neg (by rw [hdead]; decide)] at hn; exact List.mem_of_getElem? hn
   have HRD := Aside0.mk (rd_names hdead hmem)
   have HNB := Aside0.mk (show (⟨n.toArray⟩ : ByteArray).size ≤ maxLen from HMX.out n hmem)
   obtain ⟨ad1, e1, hcell1⟩ := row_cells HROW.out i (v := .string ⟨n.toArray⟩) (by rw [List.getElem?_map, hn]; rfl)
   obtain ⟨ad2, e2, hcell2⟩ := row_cells HROW2.out i (v := .string ⟨n.toArray⟩) (by rw [List.getElem?_map, hn]; rfl)
   cases e1
   cases e2
   have HC1 := Aside0.mk (show ∀ w', Below w5.heap.size w5 w' → w'.cell? (ad1.add i) = some (.string ⟨n.toArray⟩) from fun w' hb => (hb.cell (World.block_lt_of_cell? w5 _ hcell1)).trans hcell1)
   have HC2 := Aside0.mk (show ∀ w', Below w5.heap.size w5 w' → w'.cell? (ad2.add i) = some (.string ⟨n.toArray⟩) from fun w' hb => (hb.cell (World.block_lt_of_cell? w5 _ hcell2)).trans hcell2)
   clear hn hdead hmem hcell1 hcell2 hl6
   have hc1 := HC1.out wr HBr.out
   go_wp2_with fail
   refine (Read_is (H.out.below HB.out) HNB.out HRD.out).mono ?_
   rintro e w6 ⟨v6, rfl, ho6, hb6⟩
   have hB6 := IsB.of_own ho6 rfl (by have := H.out.got_len n; omega)
   obtain ⟨B6, k6, rfl⟩ := hB6.agg
   have HB6 := Aside0.mk (HB.out.trans (hb6.mono HB.out.size))
   have HBr6 := Aside0.mk (HBr.out.trans (hb6.mono HBr.out.size))
   have HV6 := Aside0.mk hB6
   clear hb6 ho6 hB6 HB HBr hc1
   have hc2 := HC2.out w6 HBr6.out
   go_wp2_with fail
   refine (Read_is (H'.out.below HB6.out) HNB.out HRD.out).mono ?_
   rintro e w7 ⟨v7, rfl, ho7, hb7⟩
   have hB7 := IsB.of_own ho7 rfl (by have := H.out.got_len n; omega)
   obtain ⟨B7, k7, rfl⟩ := hB7.agg
   have HB7 := Aside0.mk (HB6.out.trans (hb7.mono HB6.out.size))
   have HBr7 := Aside0.mk (HBr6.out.trans (hb7.mono HBr6.out.size))
   have HV6' := Aside0.mk (HV6.out.below hb7)
   have HV7 := Aside0.mk hB7
   clear hb7 ho7 hB7 HB6 HBr6 HV6 hc2
   go_wp2_with fail
   refine start_ (n := 20) (S := fun w' => w'.cell? (ad1.add i) = some (.string ⟨n.toArray⟩) ∧ w'.cell? (ad2.add i) = some (.string ⟨n.toArray⟩)) (ds := []) #[false, false, false, false, false, false, false, false, false, false, false, false, false, false, false, false, false, false, false, false] (by kernel_rfl) rfl rfl ⟨HC1.out _ (HBr7.out.drew), HC2.out _ (HBr7.out.drew)⟩ (fun hHeld => ?_); refine with_tabW Dalb.tab9 Dalb.bits9 (fun HT_ HW_ => ?_)
   have HBd := Aside0.mk (HB7.out.drew)
   have HBrd := Aside0.mk (HBr7.out.drew)
   have HV6d := Aside0.mk (HV6'.out.below ((Below.refl w7.heap.size w7).drew))
   have HV7d := Aside0.mk (HV7.out.below ((Below.refl w7.heap.size w7).drew))
   clear HB7 HBr7 HV6' HV7
   generalize World.drew _ = w8 at HBd HBrd HV6d HV7d hHeld ⊢
   refine pure_ (i := 0) (N := some 59) (v := ?_) (a' := ?_) #[true, false, false, false, false, false, false, false, false, false, false, false, false, false, false, false, false, false, false, false] rfl rfl (any_of HT_.out (by kernel_rfl)) (fun _ _ _ h => h) (Or.inl ⟨by rfl, ?_⟩) ?_ ?_
   rotate_left
   ·intro w'
    go_simp
    with_reducible rfl
   rotate_left
   ·simp only [Act.put, List.setIfInBounds_toArray, List.set_cons_zero, List.set_cons_succ, i64_w, i32_w]
    rfl
   refine pure_ (i := 1) (N := some 60) (v := ?_) (a' := ?_) #[true, true, false, false, false, false, false, false, false, false, false, false, false, false, false, false, false, false, false, false] rfl rfl (any_of HT_.out (by kernel_rfl)) (fun _ _ _ h => h) (Or.inl ⟨by rfl, ?_⟩) ?_ ?_
   rotate_left
   ·intro w'
    go_simp
    with_reducible rfl
   rotate_left
   ·simp only [Act.put, List.setIfInBounds_toArray, List.set_cons_zero, List.set_cons_succ, i64_w, i32_w]
    rfl
   refine pure_ (i := 2) (N := some 61) (v := ?_) (a' := ?_) #[true, true, true, false, false, false, false, false, false, false, false, false, false, false, false, false, false, false, false, false] rfl rfl (any_of HT_.out (by kernel_rfl)) (fun _ _ _ h => h) (Or.inl ⟨by rfl, ?_⟩) ?_ ?_
   rotate_left
   ·intro w'
    go_simp
    with_reducible rfl
   rotate_left
   ·simp only [Act.put, List.setIfInBounds_toArray, List.set_cons_zero, List.set_cons_succ, i64_w, i32_w]
    rfl
   refine take_ (i := 3) (N := some 62) (v := ?_) (a' := ?_) #[true, true, true, true, false, false, false, false, false, false, false, false, false, false, false, false, false, false, false, false] rfl rfl (take_ofW HT_.out HW_.out (by kernel_rfl)) (fun _ _ _ h => h) (Or.inl ⟨by rfl, ?_⟩) hHeld ?_ ?_
   rotate_left
   ·rintro w' ⟨s0, s1⟩
    go_simp
    with_reducible rfl
   rotate_left
   ·simp only [Act.put, List.setIfInBounds_toArray, List.set_cons_zero, List.set_cons_succ, i64_w, i32_w]
    rfl
   refine pure_ (i := 4) (N := some 63) (v := ?_) (a' := ?_) #[true, true, true, true, true, false, false, false, false, false, false, false, false, false, false, false, false, false, false, false] rfl rfl (any_of HT_.out (by kernel_rfl)) (fun _ _ _ h => h) (Or.inl ⟨by rfl, ?_⟩) ?_ ?_
   rotate_left
   ·intro w'
    go_simp
    with_reducible rfl
   rotate_left
   ·simp only [Act.put, List.setIfInBounds_toArray, List.set_cons_zero, List.set_cons_succ, i64_w, i32_w]
    rfl
   refine pure_ (i := 5) (N := some 64) (v := ?_) (a' := ?_) #[true, true, true, true, true, true, false, false, false, false, false, false, false, false, false, false, false, false, false, false] rfl rfl (any_of HT_.out (by kernel_rfl)) (fun _ _ _ h => h) (Or.inl ⟨by rfl, ?_⟩) ?_ ?_
   rotate_left
   ·intro w'
    go_simp
    with_reducible rfl
   rotate_left
   ·simp only [Act.put, List.setIfInBounds_toArray, List.set_cons_zero, List.set_cons_succ, i64_w, i32_w]
    rfl
   refine pure_ (i := 6) (N := some 65) (v := ?_) (a' := ?_) #[true, true, true, true, true, true, true, false, false, false, false, false, false, false, false, false, false, false, false, false] rfl rfl (any_of HT_.out (by kernel_rfl)) (fun _ _ _ h => h) (Or.inl ⟨by rfl, ?_⟩) ?_ ?_
   rotate_left
   ·intro w'
    go_simp
    with_reducible rfl
   rotate_left
   ·simp only [Act.put, List.setIfInBounds_toArray, List.set_cons_zero, List.set_cons_succ, i64_w, i32_w]
    rfl
   refine take_ (i := 7) (N := some 66) (v := ?_) (a' := ?_) #[true, true, true, true, true, true, true, true, false, false, false, false, false, false, false, false, false, false, false, false] rfl rfl (take_ofW HT_.out HW_.out (by kernel_rfl)) (fun _ _ _ h => h) (Or.inl ⟨by rfl, ?_⟩) hHeld ?_ ?_
   rotate_left
   ·rintro w' ⟨s0, s1⟩
    go_simp
    with_reducible rfl
   rotate_left
   ·simp only [Act.put, List.setIfInBounds_toArray, List.set_cons_zero, List.set_cons_succ, i64_w, i32_w]
    rfl
   refine pure_ (i := 8) (N := some 67) (v := ?_) (a' := ?_) #[true, true, true, true, true, true, true, true, true, false, false, false, false, false, false, false, false, false, false, false] rfl rfl (any_of HT_.out (by kernel_rfl)) (fun _ _ _ h => h) (Or.inl ⟨by rfl, ?_⟩) ?_ ?_
   rotate_left
   ·intro w'
    go_simp
    with_reducible rfl
   rotate_left
   ·simp only [Act.put, List.setIfInBounds_toArray, List.set_cons_zero, List.set_cons_succ, i64_w, i32_w]
    rfl
   refine pure_ (i := 9) (N := some 68) (v := ?_) (a' := ?_) #[true, true, true, true, true, true, true, true, true, true, false, false, false, false, false, false, false, false, false, false] rfl rfl (any_of HT_.out (by kernel_rfl)) (fun _ _ _ h => h) (Or.inl ⟨by rfl, ?_⟩) ?_ ?_
   rotate_left
   ·intro w'
    go_simp
    with_reducible rfl
   rotate_left
   ·simp only [Act.put, List.setIfInBounds_toArray, List.set_cons_zero, List.set_cons_succ, i64_w, i32_w]
    rfl
   refine pure_ (i := 10) (N := some 69) (v := ?_) (a' := ?_) #[true, true, true, true, true, true, true, true, true, true, true, false, false, false, false, false, false, false, false, false] rfl rfl (any_of HT_.out (by kernel_rfl)) (fun _ _ _ h => h) (Or.inl ⟨by rfl, ?_⟩) ?_ ?_
   rotate_left
   ·intro w'
    go_simp
    with_reducible rfl
   rotate_left
   ·simp only [Act.put, List.setIfInBounds_toArray, List.set_cons_zero, List.set_cons_succ, i64_w, i32_w]
    rfl
   refine pure_ (i := 11) (N := some 70) (v := ?_) (a' := ?_) #[true, true, true, true, true, true, true, true, true, true, true, true, false, false, false, false, false, false, false, false] rfl rfl (any_of HT_.out (by kernel_rfl)) (fun _ _ _ h => h) (Or.inl ⟨by rfl, ?_⟩) ?_ ?_
   rotate_left
   ·intro w'
    go_simp
    with_reducible rfl
   rotate_left
   ·simp only [Act.put, List.setIfInBounds_toArray, List.set_cons_zero, List.set_cons_succ, i64_w, i32_w]
    rfl
   refine pure_ (i := 12) (N := some 71) (v := ?_) (a' := ?_) #[true, true, true, true, true, true, true, true, true, true, true, true, true, false, false, false, false, false, false, false] rfl rfl (any_of HT_.out (by kernel_rfl)) (fun _ _ _ h => h) (Or.inl ⟨by rfl, ?_⟩) ?_ ?_
   rotate_left
   ·intro w'
    go_simp
    with_reducible rfl
   rotate_left
   ·simp only [Act.put, List.setIfInBounds_toArray, List.set_cons_zero, List.set_cons_succ, i64_w, i32_w]
    rfl
   refine pure_ (i := 13) (N := some 72) (v := ?_) (a' := ?_) #[true, true, true, true, true, true, true, true, true, true, true, true, true, true, false, false, false, false, false, false] rfl rfl (any_of HT_.out (by kernel_rfl)) (fun _ _ _ h => h) (Or.inl ⟨by rfl, ?_⟩) ?_ ?_
   rotate_left
   ·intro w'
    go_simp
    with_reducible rfl
   rotate_left
   ·simp only [Act.put, List.setIfInBounds_toArray, List.set_cons_zero, List.set_cons_succ, i64_w, i32_w]
    rfl
   refine pure_ (i := 14) (N := some 73) (v := ?_) (a' := ?_) #[true, true, true, true, true, true, true, true, true, true, true, true, true, true, true, false, false, false, false, false] rfl rfl (any_of HT_.out (by kernel_rfl)) (fun _ _ _ h => h) (Or.inl ⟨by rfl, ?_⟩) ?_ ?_
   rotate_left
   ·intro w'
    go_simp
    with_reducible rfl
   rotate_left
   ·simp only [Act.put, List.setIfInBounds_toArray, List.set_cons_zero, List.set_cons_succ, i64_w, i32_w]
    rfl
   refine pure_ (i := 15) (N := some 74) (v := ?_) (a' := ?_) #[true, true, true, true, true, true, true, true, true, true, true, true, true, true, true, true, false, false, false, false] rfl rfl (any_of HT_.out (by kernel_rfl)) (fun _ _ _ h => h) (Or.inl ⟨by rfl, ?_⟩) ?_ ?_
   rotate_left
   ·intro w'
    go_simp
    with_reducible rfl
   rotate_left
   ·simp only [Act.put, List.setIfInBounds_toArray, List.set_cons_zero, List.set_cons_succ, i64_w, i32_w]
    rfl
   refine pure_ (i := 16) (N := some 75) (v := ?_) (a' := ?_) #[true, true, true, true, true, true, true, true, true, true, true, true, true, true, true, true, true, false, false, false] rfl rfl (any_of HT_.out (by kernel_rfl)) (fun _ _ _ h => h) (Or.inl ⟨by rfl, ?_⟩) ?_ ?_
   rotate_left
   ·intro w'
    go_simp
    with_reducible rfl
   rotate_left
   ·simp only [Act.put, List.setIfInBounds_toArray, List.set_cons_zero, List.set_cons_succ, i64_w, i32_w]
    rfl
   refine one_ (i := 17) (N := some 76) #[true, true, true, true, true, true, true, true, true, true, true, true, true, true, true, true, true, true, false, false] rfl rfl (one_of HT_.out (by kernel_rfl)) (by decide) (fun K hK => ?_)
   refine goes_ Try.func16 (by kernel_rfl) rfl #[.slice B6 _ k6, .slice B7 _ k7] (by rfl) rfl rfl (by (try simp only [List.map_toArray, List.map_cons, List.map_nil]); first | done | rfl) ?_
   refine (Bytes_calls HV6d.out HV7d.out).mono ?_
   rintro e w9 ⟨rfl, hdr9⟩
   refine ⟨_, rfl, ?_⟩
   have HB9 := Aside0.mk (below_drawn HBd.out hdr9)
   have HBr9 := Aside0.mk (below_drawn HBrd.out hdr9)
   clear hdr9 HBd HBrd HV6d HV7d
   refine hK.out _ _ ⟨HC1.out _ HBr9.out, HC2.out _ HBr9.out⟩ (fun hHeld => ?_)
   clear hK K
   refine norm_ (a' := ?_) ?_ ?_
   rotate_left
   ·show Act.put _ (some 76) _ = _
    simp only [Act.put, List.setIfInBounds_toArray, List.set_cons_zero, List.set_cons_succ, i64_w, i32_w]
    rfl
   refine pure_ (i := 18) (N := some 77) (v := ?_) (a' := ?_) #[true, true, true, true, true, true, true, true, true, true, true, true, true, true, true, true, true, true, true, false] rfl rfl (any_of HT_.out (by kernel_rfl)) (fun _ _ _ h => h) (Or.inl ⟨by rfl, ?_⟩) ?_ ?_
   rotate_left
   ·intro w'
    go_simp
    with_reducible rfl
   rotate_left
   ·simp only [Act.put, List.setIfInBounds_toArray, List.set_cons_zero, List.set_cons_succ, i64_w, i32_w]
    rfl
   refine pure_ (i := 19) (N := some 78) (v := ?_) (a' := ?_) #[true, true, true, true, true, true, true, true, true, true, true, true, true, true, true, true, true, true, true, true] rfl rfl (any_of HT_.out (by kernel_rfl)) (fun _ _ _ h => h) (Or.inl ⟨by rfl, ?_⟩) ?_ ?_
   rotate_left
   ·intro w'
    go_simp
    with_reducible rfl
   rotate_left
   ·simp only [Act.put, List.setIfInBounds_toArray, List.set_cons_zero, List.set_cons_succ, i64_w, i32_w]
    rfl
   refine done_ (done_of HT_.out (by kernel_rfl)) ?_
   clear hHeld
   go_wp2_with fail
   go_roundg ((lsD d).length - (i + 1))
   case measure => omega
   case rel => exact ⟨i + 1, by first | rfl | rw [hwi], by omega, Nat.le_refl _, HB9, HBr9⟩
  ·have hlz : ¬ (i : Int) < ((lsD d).length : Int) := by omega
   go_wp2
   go_ret
   exact ⟨rfl, HB.out⟩
end Go.Proofs.Ytihbgdobicokpaa.D
namespace Go.Proofs.Ytihbgdobicokpaa.D
open Go.RowKit Go.Maps Go.Proofs.Ytihbgdobicokpaa.X Go.Proofs.YtihbgdobicokpaaW.PrintWords Go.Proofs.YtihbgdobicokpaaW.PrintLast Go.Proofs.YtihbgdobicokpaaW.PrintMore
attribute [local go_sem] max2_int min2_int max_two min_two max_three min_three max_four min_four   -- for this text's walks alone
set_option linter.unusedVariables false
set_option linter.unusedSimpArgs false
theorem place_f (a : Int) (m : Int) (hm : 0 < m) (hb : m ≤ 1000000) : ∃ r, leathelp_Place.f a m = some r ∧ 0 ≤ r ∧ r < m := by
 unfold leathelp_Place.f
 rw [if_neg (by omega)]
 have h1 := Int.tmod_lt_of_pos a hm
 have h2 : -m < Int.tmod a m := by
  have := Int.lt_tmod_of_pos a hm
  omega
 by_cases c : Int.tmod a m < 0
 ·rw [if_pos c]
  refine ⟨_, rfl, ?_⟩
  unfold wrap64
  omega
 ·rw [if_neg c]
  exact ⟨_, rfl, by omega, h1⟩
theorem C_nil (w : World) : Kd.C (Kd.int .u8) w none ([] : List Int).length [] := ⟨rfl, by decide, fun h => absurd h (by simp)⟩
def Far (p b p' b' : Nat) : Prop := p ≠ p' ∧ p ≠ b' ∧ b ≠ p' ∧ b ≠ b'
theorem IsD.other {N N' : Nat} {w w' : World} {p b p' b' : Nat} {d d' : Dk} (h : IsD N w p b d) (h' : IsD N' w p' b' d') (hf : Fr (Two p' b') w w') (hn : Far p b p' b') : IsD N w' p b d :=
 h.fr hf h'.two (fun e => by rcases e with e | e; exact hn.1 e; exact hn.2.1 e) (fun e => by rcases e with e | e; exact hn.2.2.1 e; exact hn.2.2.2 e)
theorem drawn_below {w w' : World} (h : Drawn0 w w') : Below w.heap.size w w' := below_drawn (Below.refl _ _) h
set_option maxHeartbeats 8000000 in
set_option maxRecDepth 100000 in
theorem DiskCuts_calls {w : World} {A : Option Addr} {c : Nat} {l : List S30} {n : Int} (hC : Kd.C k30 w A l.length l) (hc : l.length ≤ c) (hl : l.length ≤ 140737488351232) (hs : Small l) (hg : GoodL l) :
  Calls Try.prog 5 #[.slice A l.length c, .int .i64 n] w fun e w' => e = .returned (.bool true) ∧ Below w.heap.size w w' := by
 obtain ⟨k, r, hr, hr2⟩ := light_f hl hs
 obtain ⟨n1, hn1, hn2, hn3⟩ := place_f n 400 (by omega) (by omega)
 have HC := Aside0.mk hC
 have HCc := Aside0.mk hc
 have HG := Aside0.mk hg
 have HR := Aside0.mk hr
 have HN1 := Aside0.mk hn1
 have HN := Aside0.mk (show 0 ≤ n1 ∧ n1 < 400 from ⟨hn2, hn3⟩)
 clear hC hc hl hs hg hr hn1 hn2 hn3
 cases r with
 | false =>
  clear hr2
  go_enter Try.func5, Try.ntmps5
  go_wp2_with fail
  refine (known_calls w).mono ?_
  rintro e w1 ⟨rfl, hb1⟩
  have HB1 := Aside0.mk hb1
  clear hb1
  go_wp2_with fail
  refine (leatlaw2_light.calls k A c l false w1 (Kd.C_below HC.out HB1.out) HCc.out HR.out).mono ?_
  rintro e w2 ⟨rfl, hb2⟩
  have HB2 := Aside0.mk (below_drawn HB1.out hb2)
  clear hb2
  go_wp2_with fail
  go_ret
  exact ⟨rfl, HB2.out⟩
 | true =>
  have hl3 := (hr2 rfl).1
  clear hr2
  have HL3 := Aside0.mk hl3
  clear hl3
  go_enter Try.func5, Try.ntmps5
  go_wp2_with fail
  refine (known_calls w).mono ?_
  rintro e w1 ⟨rfl, hb1⟩
  have HB1 := Aside0.mk hb1
  clear hb1
  go_wp2_with fail
  refine (leatlaw2_light.calls k A c l true w1 (Kd.C_below HC.out HB1.out) HCc.out HR.out).mono ?_
  rintro e w2 ⟨rfl, hb2⟩
  have HB2 := Aside0.mk (below_drawn HB1.out hb2)
  clear hb2
  go_wp2_with fail
  refine (New_calls w2 65536 (by omega)).mono ?_
  rintro e w3 ⟨pa, ba, rfl, hda, hb3, hpa, hba⟩
  have HDA := Aside0.mk hda
  have HB3 := Aside0.mk (HB2.out.trans (hb3.mono HB2.out.size))
  have HPA := Aside0.mk (show w.heap.size ≤ pa ∧ w.heap.size ≤ ba from ⟨Nat.le_trans HB2.out.size hpa, Nat.le_trans HB2.out.size hba⟩)
  clear hda hb3 hpa hba
  go_wp2_with fail
  refine (New_calls w3 65536 (by omega)).mono ?_
  rintro e w4 ⟨pb, bb, rfl, hdb, hb4, hpb, hbb⟩
  have HDB := Aside0.mk hdb
  have HDA4 := Aside0.mk (HDA.out.below hb4)
  have HB4 := Aside0.mk (HB3.out.trans (hb4.mono HB3.out.size))
  have HPB := Aside0.mk (show w.heap.size ≤ pb ∧ w.heap.size ≤ bb from ⟨Nat.le_trans HB3.out.size hpb, Nat.le_trans HB3.out.size hbb⟩)
  have HFAR := Aside0.mk (show Far pa ba pb bb from ⟨by have := HDA.out.lt; omega, by have := HDA.out.lt; omega, by have := HDA.out.ltb; omega, by have := HDA.out.ltb; omega⟩)
  have HFAR' := Aside0.mk (show Far pb bb pa ba from ⟨HFAR.out.1.symm, HFAR.out.2.2.1.symm, HFAR.out.2.1.symm, HFAR.out.2.2.2.symm⟩)
  clear hdb hb4 hpb hbb HDA
  obtain ⟨PA, PB, hA, hB, hA0, hAd, hBn, hBd, hBf⟩ := cuts_law l 65536 n1 HN.out.1
  have HA := Aside0.mk hA
  have HBx := Aside0.mk hB
  have HLAW := Aside0.mk (show 0 ≤ PA.2 ∧ PA.1.dead = false ∧ PB.2 = (if n1 < PA.2 then n1 else PA.2) ∧ PB.1.dead = decide (n1 ≤ PA.2) ∧ (PB.1.dead = false → PB.1.fs = PA.1.fs) from ⟨hA0, hAd, hBn, hBd, hBf⟩)
  clear hA hB hA0 hAd hBn hBd hBf
  obtain ⟨DA, all⟩ := PA
  obtain ⟨DB, dn⟩ := PB
  go_wp2_with fail
  have K5 := play_calls (cl := c) HDA4.out HB4.out HPA.out.1 HPA.out.2 (by have := HL3.out; omega) HC.out HG.out
  rw [HA.out] at K5
  refine K5.mono ?_
  clear K5
  rintro e w5 ⟨rfl, hd5, hf5⟩
  have HDA5 := Aside0.mk (show IsD 1000 w5 pa ba DA from hd5.mono (by have := HL3.out; omega) (by omega))
  have HDB5 := Aside0.mk (HDB.out.other HDA4.out hf5 HFAR'.out)
  have HB5 := Aside0.mk (Fr.base HB4.out HPA.out.1 HPA.out.2 hf5)
  clear hd5 hf5 HDB HDA4 HB4
  go_wp2_with fail
  refine (leathelp_Place.calls n 400 n1 w5 HN1.out).mono ?_
  rintro e w6 ⟨rfl, hb6⟩
  have HDA6 := Aside0.mk (HDA5.out.drawn hb6)
  have HDB6 := Aside0.mk (HDB5.out.drawn hb6)
  have HB6 := Aside0.mk (below_drawn HB5.out hb6)
  clear hb6 HDA5 HDB5 HB5
  go_wp2_with fail
  refine (Cut_calls HDB6.out n1 (by have := HN.out; omega)).mono ?_
  rintro e w7 ⟨rfl, hd7, hf7⟩
  have HDB7 := Aside0.mk hd7
  have HDA7 := Aside0.mk (HDA6.out.other HDB6.out hf7 HFAR.out)
  have HB7 := Aside0.mk (Fr.base HB6.out HPB.out.1 HPB.out.2 hf7)
  clear hd7 hf7 HDA6 HDB6 HB6
  go_wp2_with fail
  have K8 := play_calls (cl := c) HDB7.out HB7.out HPB.out.1 HPB.out.2 (by have := HL3.out; omega) HC.out HG.out
  rw [HBx.out] at K8
  refine K8.mono ?_
  clear K8
  rintro e w8 ⟨rfl, hd8, hf8⟩
  have HDB8 := Aside0.mk hd8
  have HDA8 := Aside0.mk (HDA7.out.other HDB7.out hf8 HFAR.out)
  have HB8 := Aside0.mk (Fr.base HB7.out HPB.out.1 HPB.out.2 hf8)
  clear hd8 hf8 HDA7 HDB7 HB7
  obtain ⟨hL0, hL1, hL2, hL3, hL4⟩ := HLAW.out
  simp only at hL0 hL1 hL2 hL3 hL4 HDA8 HDB8
  have HL4 := Aside0.mk hL4
  have HLD := Aside0.mk hL3
  have HLA := Aside0.mk hL1
  clear HLAW hL4 HA HBx hL1
  by_cases hcut : n1 ≤ all
  ·have e1 : dn = n1 := by rw [hL2]; split <;> omega
   have e2 : decide (n1 ≤ all) = true := decide_eq_true hcut
   have hmin : (if n1 < all then n1 else all) = n1 := by split <;> omega
   have hmin2 : (if all < n1 then all else n1) = n1 := by split <;> omega
   rw [e2] at hL3
   subst e1
   clear hL2 hL0
   have HE2 := Aside0.mk hL3
   clear hL3
   go_wp2_with (first
    | (go_at_call 23; refine (Dead_calls HDB8.out).mono ?_; rintro e w9 ⟨rfl, rfl⟩; rw [HE2.out]))
   have hE : ∀ n, isE DB n = 23 := fun n => by unfold isE; rw [if_pos HE2.out]
   have hrd : rdD DB [97] = ([], 23) := by unfold rdD; rw [hE]; rfl
   have hls : lsD DB = [] := by unfold lsD; rw [if_pos HE2.out]
   have hdl : delD DB [97] = (23, DB) := by unfold delD; rw [hE]; rfl
   have hwr : wrD DB [97] [] = (23, DB) := by unfold wrD; rw [if_pos HE2.out]
   have HDL := Aside0.mk hdl
   have HLS := Aside0.mk hls
   have HWR := Aside0.mk hwr
   have hm97 : (⟨#[97]⟩ : ByteArray).size ≤ maxLen := by decide
   refine (Read_is HDB8.out hm97 hrd).mono ?_
   have H97 := Aside0.mk hm97
   clear hE hrd hls hdl hwr hm97
   rintro e w10 ⟨v10, rfl, ho10, hb10⟩
   have HDB10 := Aside0.mk (HDB8.out.below hb10)
   have HB10 := Aside0.mk (HB8.out.trans (hb10.mono HB8.out.size))
   clear hb10 ho10 HDB8 HB8 HDA8
   have KL := List_calls HDB10.out
   rw [HLS.out] at KL
   go_wp2_with (first
    | (go_at_call 17; refine KL.mono ?_; rintro e w11 ⟨v11, rfl, ho11, hb11⟩; obtain ⟨A11, c11, rfl⟩ := own_slice ho11; have HDB11 := Aside0.mk (HDB10.out.below hb11); have HB11 := Aside0.mk (HB10.out.trans (hb11.mono HB10.out.size)); clear hb11 ho11 HDB10 HB10 KL; have KD := Delete_calls HDB11.out H97.out; rw [HDL.out] at KD)
    | (go_at_call 20; refine KD.mono ?_; rintro e w12 ⟨rfl, hd12, hf12⟩; have HDB12 := Aside0.mk hd12; have HB12 := Aside0.mk (Fr.base HB11.out HPB.out.1 HPB.out.2 hf12); clear hd12 hf12 HDB11 HB11 KD; have KW := Write_is (nm := ⟨#[97]⟩) (bs := []) (cp := 0) (A := none) HDB12.out (by have := HL3.out; omega) H97.out (C_nil _) HWR.out)
    | (go_at_call 11; refine KW.mono ?_; rintro e w13 ⟨rfl, hd13, hf13⟩; have HB13 := Aside0.mk (Fr.base HB12.out HPB.out.1 HPB.out.2 hf13); clear hd13 hf13 KW))
   go_ret
   exact ⟨rfl, HB13.out⟩
  ·have e1 : dn = all := by rw [hL2]; split <;> omega
   have e2 : decide (n1 ≤ all) = false := decide_eq_false hcut
   have hmin : (if n1 < all then n1 else all) = all := by split <;> omega
   have hmin2 : (if all < n1 then all else n1) = all := by split <;> omega
   rw [e2] at hL3
   subst e1
   clear hL2 hL0
   have HE2 := Aside0.mk hL3
   clear hL3
   have KUa := Used_calls HDA8.out
   rw [← HL4.out HE2.out] at KUa
   go_wp2_with (first
    | (go_at_call 23; refine (Dead_calls HDB8.out).mono ?_; rintro e w9 ⟨rfl, rfl⟩; rw [HE2.out])
    | (go_at_call 19; refine KUa.mono ?_; rintro e w10 ⟨rfl, hb10⟩; have KUb := Used_calls (HDB8.out.below hb10); have HB10 := Aside0.mk (HB8.out.trans (hb10.mono HB8.out.size)); clear hb10 KUa)
    | (go_at_call 19; refine KUb.mono ?_; rintro e w11 ⟨rfl, hb11⟩; have HB11 := Aside0.mk (HB10.out.trans (hb11.mono HB10.out.size)); clear hb11 KUb))
   go_ret
   exact ⟨rfl, HB11.out⟩
end Go.Proofs.Ytihbgdobicokpaa.D
namespace Go.Proofs.Ytihbgdobicokpaa.X
open Go.RowKit Go.Maps Go.Proofs.YtihbgdobicokpaaW.PrintWords Go.Proofs.Ytihbgdobicokpaa.D
set_option linter.unusedVariables false
open Classical in
noncomputable def leatlaw2_DiskCuts.f (l0 : List S30) (a1 : Int) : Option Bool := if l0.length ≤ 140737488351232 ∧ Small l0 ∧ GoodL l0 then some true else none
theorem leatlaw2_DiskCuts.calls (A0 : Option Addr) (c0 : Nat) (l0 : List S30) (a1 : Int) (r : Bool) (w : World) (hr0 : Kd.C k30 w A0 l0.length l0) (hc0 : l0.length ≤ c0) (h : leatlaw2_DiskCuts.f l0 a1 = some r) :
  Calls Try.prog 5 #[.slice A0 l0.length c0, .int .i64 a1] w fun e w' => e = .returned (.bool r) ∧ Below w.heap.size w w' := by
 unfold leatlaw2_DiskCuts.f at h
 split at h
 ·rename_i hc
  cases h
  exact DiskCuts_calls hr0 hc0 hc.1 hc.2.1 hc.2.2
 ·cases h
end Go.Proofs.Ytihbgdobicokpaa.X
namespace Go.Proofs.Ytihbgdobicokpaa.D
open Go.RowKit Go.Maps Go.Proofs.Ytihbgdobicokpaa.X Go.Proofs.YtihbgdobicokpaaW.PrintWords Go.Proofs.YtihbgdobicokpaaW.PrintLast Go.Proofs.YtihbgdobicokpaaW.PrintMore
attribute [local go_sem] max2_int min2_int max_two min_two max_three min_three max_four min_four   -- for this text's walks alone
set_option linter.unusedVariables false
set_option linter.unusedSimpArgs false
structure Bh (n p b : Nat) : Prop where
 p : n ≤ p
 b : n ≤ b
theorem Bh.mono {n m p b : Nat} (h : Bh m p b) (hn : n ≤ m) : Bh n p b := ⟨Nat.le_trans hn h.p, Nat.le_trans hn h.b⟩
theorem Fr.base' {w0 w w' : World} {p b : Nat} (h : Below w0.heap.size w0 w) (hp : Bh w0.heap.size p b) (hf : Fr (Two p b) w w') : Below w0.heap.size w0 w' := Fr.base h hp.p hp.b hf
theorem far_new {N : Nat} {w : World} {p b p' b' : Nat} {d : Dk} (h : IsD N w p b d) (h' : Bh w.heap.size p' b') : Far p b p' b' := by
 have := h.lt; have := h.ltb; have := h'.p; have := h'.b
 exact ⟨by omega, by omega, by omega, by omega⟩
theorem Far.symm {p b p' b' : Nat} (h : Far p b p' b') : Far p' b' p b := ⟨h.1.symm, h.2.2.1.symm, h.2.1.symm, h.2.2.2.symm⟩
theorem C_nil64 (w : World) : Kd.C (Kd.int .i64) w none ([] : List Int).length [] := ⟨rfl, by decide, fun h => absurd h (by simp)⟩
set_option maxHeartbeats 8000000 in
set_option maxRecDepth 100000 in
theorem DiskApart_calls {w : World} {A A' : Option Addr} {c c' : Nat} {l l' : List S30} {n : Int} (hn : n ≤ 9223372036854775807) (hC : Kd.C k30 w A l.length l) (hc : l.length ≤ c) (hl : l.length ≤ 140737488351232) (hs : Small l) (hg : GoodL l)
  (hC' : Kd.C k30 w A' l'.length l') (hc' : l'.length ≤ c') (hl' : l'.length ≤ 140737488351232) (hs' : Small l') (hg' : GoodL l') :
  Calls Try.prog 6 #[.int .i64 n, .slice A l.length c, .slice A' l'.length c'] w fun e w' => e = .returned (.bool true) ∧ Below w.heap.size w w' := by
 obtain ⟨k, r, hr, hr2⟩ := light_f hl hs
 obtain ⟨k', r', hr', hr2'⟩ := light_f hl' hs'
 have HNN := Aside0.mk hn
 have HC := Aside0.mk hC
 have HCc := Aside0.mk hc
 have HG := Aside0.mk hg
 have HR := Aside0.mk hr
 have HC' := Aside0.mk hC'
 have HCc' := Aside0.mk hc'
 have HG' := Aside0.mk hg'
 have HR' := Aside0.mk hr'
 have HL3 : Aside0 (r = true → l.length ≤ 300) := ⟨fun e => (hr2 e).1⟩
 have HL3' : Aside0 (r' = true → l'.length ≤ 300) := ⟨fun e => (hr2' e).1⟩
 clear hC hc hl hs hg hr hC' hc' hl' hs' hg' hr' hn hr2 hr2'
 go_enter Try.func6, Try.ntmps6
 go_wp2_with fail
 refine (known_calls w).mono ?_
 rintro e w1 ⟨rfl, hb1⟩
 have HB1 := Aside0.mk hb1
 clear hb1
 go_wp2_with fail
 refine (leatlaw2_light.calls k A c l r w1 (Kd.C_below HC.out HB1.out) HCc.out HR.out).mono ?_
 rintro e w2 ⟨rfl, hb2⟩
 have HB2 := Aside0.mk (below_drawn HB1.out hb2)
 clear hb2
 cases r with
 | false =>
  go_wp2_with fail
  go_ret
  exact ⟨rfl, HB2.out⟩
 | true =>
  go_wp2_with fail
  refine (leatlaw2_light.calls k' A' c' l' r' w2 (Kd.C_below HC'.out HB2.out) HCc'.out HR'.out).mono ?_
  rintro e w3 ⟨rfl, hb3⟩
  have HB3 := Aside0.mk (below_drawn HB2.out hb3)
  clear hb3
  cases r' with
  | false =>
   go_wp2_with fail
   go_ret
   exact ⟨rfl, HB3.out⟩
  | true =>
   have hL : l.length ≤ 300 := by simpa using HL3.out
   have hL' : l'.length ≤ 300 := by simpa using HL3'.out
   have HL := Aside0.mk hL
   have HL' := Aside0.mk hL'
   clear hL hL' HL3 HL3'
   go_wp2_with fail
   refine (New_calls w3 n HNN.out).mono ?_
   rintro e w4 ⟨pa, ba, rfl, hda, hb4, hpa, hba⟩
   have HDA := Aside0.mk hda
   have HB4 := Aside0.mk (HB3.out.trans (hb4.mono HB3.out.size))
   have HPA := Aside0.mk ((Bh.mk hpa hba).mono HB3.out.size)
   clear hda hb4 hpa hba
   go_wp2_with fail
   refine (New_calls w4 n HNN.out).mono ?_
   rintro e w5 ⟨pb, bb, rfl, hdb, hb5, hpb, hbb⟩
   have HDB5 := Aside0.mk hdb
   have HDA5 := Aside0.mk (HDA.out.below hb5)
   have HB5 := Aside0.mk (HB4.out.trans (hb5.mono HB4.out.size))
   have HPB := Aside0.mk ((Bh.mk hpb hbb).mono HB4.out.size)
   have HAB := Aside0.mk (far_new HDA.out ⟨hpb, hbb⟩)
   clear hdb hb5 hpb hbb HDA
   obtain ⟨DA, na, HA⟩ : ∃ d m, Aside0 (playF l (newD n) = (d, m)) := ⟨_, _, ⟨rfl⟩⟩
   go_wp2_with fail
   have K6 := play_calls (cl := c) HDA5.out HB5.out HPA.out.p HPA.out.b (by have := HL.out; omega) HC.out HG.out
   rw [HA.out] at K6
   refine K6.mono ?_
   clear K6
   rintro e w6 ⟨rfl, hd6, hf6⟩
   have HDA6 := Aside0.mk (show IsD 1000 w6 pa ba DA from hd6.mono (by have := HL.out; omega) (by omega))
   have HDB6 := Aside0.mk (HDB5.out.other HDA5.out hf6 HAB.out.symm)
   have HB6 := Aside0.mk (Fr.base' HB5.out HPA.out hf6)
   clear hd6 hf6 HDA5 HDB5 HB5
   go_wp2_with fail
   have K7 := play_calls (cl := c) HDB6.out HB6.out HPB.out.p HPB.out.b (by have := HL.out; omega) HC.out HG.out
   rw [HA.out] at K7
   refine K7.mono ?_
   clear K7
   rintro e w7 ⟨rfl, hd7, hf7⟩
   have HDB7 := Aside0.mk (show IsD 1000 w7 pb bb DA from hd7.mono (by have := HL.out; omega) (by omega))
   have HDA7 := Aside0.mk (HDA6.out.other HDB6.out hf7 HAB.out)
   have HB7 := Aside0.mk (Fr.base' HB6.out HPB.out hf7)
   clear hd7 hf7 HDA6 HDB6 HB6
   go_wp2_with fail
   refine (Copy_calls HDA7.out).mono ?_
   rintro e w8 ⟨pc, bc, rfl, hd8, hb8, hpc, hbc⟩
   have HDC8 := Aside0.mk hd8
   have HPC := Aside0.mk ((Bh.mk hpc hbc).mono HB7.out.size)
   have HAC := Aside0.mk (far_new HDA7.out ⟨hpc, hbc⟩)
   have HBC := Aside0.mk (far_new HDB7.out ⟨hpc, hbc⟩)
   have HDA8 := Aside0.mk (HDA7.out.below hb8)
   have HDB8 := Aside0.mk (HDB7.out.below hb8)
   have HB8 := Aside0.mk (HB7.out.trans (hb8.mono HB7.out.size))
   clear hd8 hb8 hpc hbc HDA7 HDB7 HB7
   obtain ⟨DM, nm, HM⟩ : ∃ d m, Aside0 (playF l' DA = (d, m)) := ⟨_, _, ⟨rfl⟩⟩
   go_wp2_with fail
   have K9 := play_calls (cl := c') HDC8.out HB8.out HPC.out.p HPC.out.b (by have := HL'.out; omega) HC'.out HG'.out
   rw [HM.out] at K9
   refine K9.mono ?_
   clear K9
   rintro e w9 ⟨rfl, hd9, hf9⟩
   have HDC9 := Aside0.mk (show IsD 2000 w9 pc bc DM from hd9.mono (by have := HL'.out; omega) (by omega))
   have HDA9 := Aside0.mk (HDA8.out.other HDC8.out hf9 HAC.out)
   have HDB9 := Aside0.mk (HDB8.out.other HDC8.out hf9 HBC.out)
   have HB9 := Aside0.mk (Fr.base' HB8.out HPC.out hf9)
   clear hd9 hf9 HDA8 HDB8 HDC8 HB8
   go_wp2_with fail
   have K10 := play_calls (cl := c') HDB9.out HB9.out HPB.out.p HPB.out.b (by have := HL'.out; omega) HC'.out HG'.out
   rw [HM.out] at K10
   refine K10.mono ?_
   clear K10
   rintro e w10 ⟨rfl, hd10, hf10⟩
   have HDB10 := Aside0.mk (show IsD 2000 w10 pb bb DM from hd10.mono (by have := HL'.out; omega) (by omega))
   have HDA10 := Aside0.mk (HDA9.out.other HDB9.out hf10 HAB.out)
   have HDC10 := Aside0.mk (HDC9.out.other HDB9.out hf10 HBC.out.symm)
   have HB10 := Aside0.mk (Fr.base' HB9.out HPB.out hf10)
   clear hd10 hf10 HDA9 HDB9 HDC9 HB9
   go_wp2_with fail
   refine (Used_calls HDC10.out).mono ?_
   rintro e w11 ⟨rfl, hb11⟩
   have HDA11 := Aside0.mk (HDA10.out.below hb11)
   have HDB11 := Aside0.mk (HDB10.out.below hb11)
   have HDC11 := Aside0.mk (HDC10.out.below hb11)
   have HB11 := Aside0.mk (HB10.out.trans (hb11.mono HB10.out.size))
   clear hb11 HDA10 HDB10 HDC10 HB10
   go_wp2_with fail
   refine (Used_calls HDB11.out).mono ?_
   rintro e w12 ⟨rfl, hb12⟩
   have HDA12 := Aside0.mk (HDA11.out.below hb12)
   have HDB12 := Aside0.mk (HDB11.out.below hb12)
   have HDC12 := Aside0.mk (HDC11.out.below hb12)
   have HB12 := Aside0.mk (HB11.out.trans (hb12.mono HB11.out.size))
   clear hb12 HDA11 HDB11 HDC11 HB11
   go_wp2_with fail
   refine (Crash_calls (keep := []) (cp := 0) HDC12.out (by omega) (fun w' _ => C_nil64 w')).mono ?_
   rintro e w13 ⟨rfl, hd13, hf13⟩
   have HDC13 := Aside0.mk hd13
   have HDA13 := Aside0.mk (HDA12.out.other HDC12.out hf13 HAC.out)
   have HDB13 := Aside0.mk (HDB12.out.other HDC12.out hf13 HBC.out)
   have HB13 := Aside0.mk (Fr.base' HB12.out HPC.out hf13)
   clear hd13 hf13 HDA12 HDB12 HDC12 HB12
   go_wp2_with fail
   refine (Crash_calls (keep := []) (cp := 0) HDB13.out (by omega) (fun w' _ => C_nil64 w')).mono ?_
   rintro e w14 ⟨rfl, hd14, hf14⟩
   have HDB14 := Aside0.mk hd14
   have HDA14 := Aside0.mk (HDA13.out.other HDB13.out hf14 HAB.out)
   have HDC14 := Aside0.mk (HDC13.out.other HDB13.out hf14 HBC.out.symm)
   have HB14 := Aside0.mk (Fr.base' HB13.out HPB.out hf14)
   clear hd14 hf14 HDA13 HDB13 HDC13 HB13
   go_wp2_with fail
   refine (New_calls w14 n HNN.out).mono ?_
   rintro e w15 ⟨pd, bd, rfl, hdd, hb15, hpd, hbd⟩
   have HDD15 := Aside0.mk hdd
   have HDA15 := Aside0.mk (HDA14.out.below hb15)
   have HDB15 := Aside0.mk (HDB14.out.below hb15)
   have HDC15 := Aside0.mk (HDC14.out.below hb15)
   have HB15 := Aside0.mk (HB14.out.trans (hb15.mono HB14.out.size))
   have HPD := Aside0.mk ((Bh.mk hpd hbd).mono HB14.out.size)
   have HAD := Aside0.mk (far_new HDA14.out ⟨hpd, hbd⟩)
   have HBD := Aside0.mk (far_new HDB14.out ⟨hpd, hbd⟩)
   have HCD := Aside0.mk (far_new HDC14.out ⟨hpd, hbd⟩)
   clear hdd hb15 hpd hbd HDA14 HDB14 HDC14 HB14
   go_wp2_with fail
   have K16 := play_calls (cl := c) HDD15.out HB15.out HPD.out.p HPD.out.b (by have := HL.out; omega) HC.out HG.out
   rw [HA.out] at K16
   refine K16.mono ?_
   clear K16
   rintro e w16 ⟨rfl, hd16, hf16⟩
   have HDD16 := Aside0.mk hd16
   have HDA16 := Aside0.mk (HDA15.out.other HDD15.out hf16 HAD.out)
   have HDB16 := Aside0.mk (HDB15.out.other HDD15.out hf16 HBD.out)
   have HDC16 := Aside0.mk (HDC15.out.other HDD15.out hf16 HCD.out)
   have HB16 := Aside0.mk (Fr.base' HB15.out HPD.out hf16)
   clear hd16 hf16 HDA15 HDB15 HDC15 HDD15 HB15
   go_wp2_with fail
   refine (alikeBoth_calls HDC16.out HDB16.out).mono ?_
   rintro e w17 ⟨rfl, hb17⟩
   have HDA17 := Aside0.mk (HDA16.out.below hb17)
   have HDD17 := Aside0.mk (HDD16.out.below hb17)
   have HB17 := Aside0.mk (HB16.out.trans (hb17.mono HB16.out.size))
   clear hb17 HDA16 HDB16 HDC16 HDD16 HB16
   go_wp2_with (go_at_call 25; refine (alikeBoth_calls HDA17.out HDD17.out).mono ?_; rintro e w18 ⟨rfl, hb18⟩; have HB18 := Aside0.mk (HB17.out.trans (hb18.mono HB17.out.size)); clear hb18)
   go_ret
   exact ⟨rfl, HB18.out⟩
end Go.Proofs.Ytihbgdobicokpaa.D
namespace Go.Proofs.Ytihbgdobicokpaa.X
open Go.RowKit Go.Maps Go.Proofs.YtihbgdobicokpaaW.PrintWords Go.Proofs.Ytihbgdobicokpaa.D
set_option linter.unusedVariables false
open Classical in
noncomputable def leatlaw2_DiskApart.f (a0 : Int) (l1 l2 : List S30) : Option Bool := if a0 ≤ 9223372036854775807 ∧ (l1.length ≤ 140737488351232 ∧ Small l1 ∧ GoodL l1) ∧ (l2.length ≤ 140737488351232 ∧ Small l2 ∧ GoodL l2) then some true else none
theorem leatlaw2_DiskApart.calls (a0 : Int) (A1 : Option Addr) (c1 : Nat) (l1 : List S30) (A2 : Option Addr) (c2 : Nat) (l2 : List S30) (r : Bool) (w : World) (hr1 : Kd.C k30 w A1 l1.length l1) (hc1 : l1.length ≤ c1) (hr2 : Kd.C k30 w A2 l2.length l2) (hc2 : l2.length ≤ c2) (h : leatlaw2_DiskApart.f a0 l1 l2 = some r) :
  Calls Try.prog 6 #[.int .i64 a0, .slice A1 l1.length c1, .slice A2 l2.length c2] w fun e w' => e = .returned (.bool r) ∧ Below w.heap.size w w' := by
 unfold leatlaw2_DiskApart.f at h
 split at h
 ·rename_i hc
  cases h
  exact DiskApart_calls hc.1 hr1 hc1 hc.2.1.1 hc.2.1.2.1 hc.2.1.2.2 hr2 hc2 hc.2.2.1 hc.2.2.2.1 hc.2.2.2.2
 ·cases h
end Go.Proofs.Ytihbgdobicokpaa.X
