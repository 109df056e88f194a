/- Proofs towards the law DiskPlays, joined into one text. No conditions beyond those typed. -/
import Derived.Test.YtihbgdobicokpaaMDiskPlays7
import Derived.Lib.SmallJoins
import Derived.Test.YtihbgdobicokpaaMDiskPlays6
import Derived.Laws.OwnMore
namespace Go.Proofs.Ytihbgdobicokpaa.D
open Go.RowKit Go.Maps Go.Proofs.Ytihbgdobicokpaa.X Go.Proofs.YtihbgdobicokpaaW.PrintWords Go.Proofs.YtihbgdobicokpaaW.PrintLast Go.Proofs.YtihbgdobicokpaaW.PrintMore
set_option linter.unusedVariables false
set_option linter.unusedSimpArgs false
theorem IsB.C {w : World} {A : Option Addr} {n c : Nat} {xs : List Int} (h : IsB w (.slice A n c) xs) : Kd.C (Kd.int .u8) w A xs.length xs := by
  obtain ⟨A', c', e, _, hC⟩ := h.reads
  cases e
  exact hC
theorem IsB.lit (w : World) (xs : List Int) (h : xs.length ≤ 140737488355328) : IsB (w.alloc (.cells ((xs.map (Value.int .u8)).toArray) 5 (0, 0))) (.slice (some ⟨w.heap.size, 0, none⟩) xs.length xs.length) xs :=
  Or.inr ⟨w.heap.size, xs.length, _, rfl, Nat.le_refl _, h, heap_alloc_new w _, by rw [List.toList_toArray, List.take_of_length_le (by simp)]⟩
def k0 : Dk := ⟨[], 100, -1, false⟩
def k1 : Dk := ⟨[⟨[97], [120, 121, 122], 0⟩], 100, -1, false⟩
def k2 : Dk := ⟨[⟨[97], [120, 121, 122], 3⟩], 100, -1, false⟩
def k3 : Dk := ⟨[⟨[97], [112, 113, 114, 115], 0⟩], 100, -1, false⟩
def k4 : Dk := ⟨[⟨[97], [112, 113, 114, 115], 0⟩, ⟨[98], [113], 0⟩], 100, -1, false⟩
def k5 : Dk := ⟨[⟨[97], [112, 113], 2⟩, ⟨[98], [], 0⟩], 100, -1, false⟩
def k6 : Dk := ⟨[⟨[98], [112, 113], 2⟩], 100, -1, false⟩
theorem s0 : newD 100 = k0 := rfl
theorem s1 : wrD k0 [97] [120, 121, 122] = (0, k1) := by kernel_rfl
theorem s2 : syD k1 [97] = (0, k2) := by kernel_rfl
theorem s3 : wrD k2 [97] [112, 113, 114, 115] = (0, k3) := by kernel_rfl
theorem s4 : wrD k3 [98] [113] = (0, k4) := by kernel_rfl
theorem s5 : crD k4 [2] = k5 := by kernel_rfl
theorem s6 : rdD k5 [97] = ([112, 113], 0) := by kernel_rfl
theorem s7 : rdD k5 [98] = ([], 0) := by kernel_rfl
theorem s8 : wrD k5 [99] (List.replicate 99 0) = (22, k5) := by kernel_rfl
theorem s9 : rnD k5 [97] [98] = (0, k6) := by kernel_rfl
theorem s10 : lsD k6 = [[98]] := by kernel_rfl
theorem s11 : rdD k6 [97] = ([], 20) := by kernel_rfl
theorem s12 : total k6.fs = 2 := by kernel_rfl
theorem litC (w : World) (xs : List Int) (fr : Nat × Nat) (h : xs.length ≤ 140737488355328) : Kd.C (Kd.int .u8) (w.alloc (.cells ((xs.map (Value.int .u8)).toArray) 5 fr)) (some ⟨w.heap.size, 0, none⟩) xs.length xs := by
  have h0 := (IsB.lit w xs h).C
  refine ⟨h0.1, h0.2.1, fun hn => ?_⟩
  obtain ⟨ad, e, hc⟩ := h0.2.2 hn
  cases e
  refine ⟨_, rfl, fun j x hj => ?_⟩
  obtain ⟨c, h1, h2, h3⟩ := hc j x hj
  refine ⟨c, h1, h2, fun i u hu => ?_⟩
  have := h3 i u hu
  have hb : ∀ k, (Addr.add ⟨w.heap.size, 0, none⟩ k).block = w.heap.size ∧ (Addr.add ⟨w.heap.size, 0, none⟩ k).spot = none := fun k => by unfold Addr.add; split <;> exact ⟨rfl, rfl⟩
  simp only [World.cell?, (hb _).1, (hb _).2, heap_alloc_new] at this ⊢
  exact this
theorem C_blk {q : IntKind} {w : World} {g t : Nat} {fr : Nat × Nat} {xs : List Int} (h : w.heap[g]? = some (.cells ((xs.map (Value.int q)).toArray) t fr)) (hl : xs.length ≤ 140737488355328) : Kd.C (Kd.int q) w (some ⟨g, 0, none⟩) xs.length xs := by
  refine ⟨rfl, Nat.le_trans hl (by decide), fun hn => ⟨_, rfl, fun j x hj => ⟨[.int q x], rfl, rfl, fun i u hu => ?_⟩⟩⟩
  cases i with
  | succ i => simp at hu
  | zero =>
    simp at hu
    subst hu
    have hb : (Addr.add ⟨g, 0, none⟩ j).block = g := by unfold Addr.add; split <;> rfl
    have hs : (Addr.add ⟨g, 0, none⟩ j).spot = none := by unfold Addr.add; split <;> rfl
    have ho : (Addr.add ⟨g, 0, none⟩ j).off = j := by unfold Addr.add; split <;> simp_all
    simp only [Kd.int, Kd.scalar, Nat.mul_one, Nat.add_zero]
    simp only [World.cell?, hb, h, hs, ho]
    simp [hj]
def z99 : Array Value := (((List.replicate 99 (0 : Int))).map (Value.int .u8)).toArray
theorem mk99 (w : World) : (Instr.makeSlice 23 (.int .i64 99) (.int .i64 99)).run Try.prog w = .ok (.slice (some ⟨w.heap.size, 0, none⟩) 99 99) (w.alloc (.cells z99 5)) := by
  obtain ⟨i0, hi, hz0, hz1, hz2⟩ := info_parts X.info5
  have h := run_make w 23 5 i0 (.int .u8 0) Try.underlying23 hi hz0 .i64 .i64 99 99 (by omega) (by omega) (by rw [hz2]; decide) (by omega)
  rw [hz1] at h
  have e : madeCells (Value.cells (.int .u8 0)) ((99 : Int).toNat * 1) = z99 := by kernel_rfl
  rw [e] at h
  exact h
theorem conv_own {w : World} {base c n : Nat} {A : Option Addr} {xs : List Int} (h : w.ownsRow base 5 1 (.slice A n c) n (xs.map (Value.int .u8))) (hn : 0 < n) : (convert 23 9 (.slice A n c)).run Try.prog w = .ok (.string (strOfNums xs)) w := by
  have hx : xs.length = n := by have := h.1; simpa using this
  have hB := IsB.of_own h hx
  obtain ⟨h1, ⟨h2, h3⟩ | ⟨g, cap, cur, h2, h3, h4, h5, h6, h7, h8⟩⟩ := h
  · omega
  · cases h2
    refine run_convert_bytes_arg w 23 5 Try.underlying23 Try.underlying5 g 0 n c xs hx (fun i hi => ?_) 9 Try.underlying9
    have e : cur.toList[i]? = some (.int .u8 (xs.getD i 0)) := by
      have := congrArg (fun l => l[i]?) h8
      simp only [Nat.mul_one, List.getElem?_take, if_pos hi, List.getElem?_map, List.getElem?_eq_getElem (show i < xs.length by omega)] at this
      rw [this]
      simp [List.getD, List.getElem?_eq_getElem (show i < xs.length by omega)]
    simp only [World.cell?, h4, Nat.zero_add]
    simpa using e
section
variable {N : Nat} {w : World} {p b : Nat} {d d' : Dk} {e : Int}
theorem Write_is (h : IsD N w p b d) (hN : N < 1000000) {nm : ByteArray} (hn : nm.size ≤ maxLen) {A : Option Addr} {cp : Nat} {bs : List Int} (hC : Kd.C (Kd.int .u8) w A bs.length bs) (he : wrD d nm.data.toList bs = (e, d')) :
    Calls Try.prog 11 #[.pointer (some ⟨p, 0, none⟩), .string nm, .slice A bs.length cp] w fun x w' => x = .returned (.int .i64 e) ∧ IsD (N + 1) w' p b d' ∧ Fr (Two p b) w w' := by
  have := Write_calls (cp := cp) h hN hn hC
  rw [he] at this
  exact this
theorem Sync_is (h : IsD N w p b d) (hN : N < 1000000) {nm : ByteArray} (hn : nm.size ≤ maxLen) (he : syD d nm.data.toList = (e, d')) :
    Calls Try.prog 12 #[.pointer (some ⟨p, 0, none⟩), .string nm] w fun x w' => x = .returned (.int .i64 e) ∧ IsD (N + 1) w' p b d' ∧ Fr (Two p b) w w' := by
  have := Sync_calls h hN hn
  rw [he] at this
  exact this
theorem Rename_is (h : IsD N w p b d) (hN : N < 1000000) {nm tm : ByteArray} (hn : nm.size ≤ maxLen) (ht : tm.size ≤ maxLen) (he : rnD d nm.data.toList tm.data.toList = (e, d')) :
    Calls Try.prog 13 #[.pointer (some ⟨p, 0, none⟩), .string nm, .string tm] w fun x w' => x = .returned (.int .i64 e) ∧ IsD (N + 1) w' p b d' ∧ Fr (Two p b) w w' := by
  have := Rename_calls h hN hn ht
  rw [he] at this
  exact this
theorem Read_is (h : IsD N w p b d) {nm : ByteArray} (hn : nm.size ≤ maxLen) {bs : List Int} (he : rdD d nm.data.toList = (bs, e)) :
    Calls Try.prog 15 #[.pointer (some ⟨p, 0, none⟩), .string nm] w fun x w' => ∃ v, x = .returned (.tuple #[v, .int .i64 e]) ∧ w'.ownsRow w.heap.size 5 1 v bs.length (bs.map (Value.int .u8)) ∧ Below w.heap.size w w' := by
  have := Read_calls h hn
  rw [he] at this
  exact this
end
set_option maxHeartbeats 8000000 in
set_option maxRecDepth 100000 in
theorem known_calls (w : World) : Calls Try.prog 8 #[] w fun e w' => e = .returned (.bool true) ∧ Below w.heap.size w w' := by
  have hm97 : (⟨#[97]⟩ : ByteArray).size ≤ maxLen := by decide
  have hm98 : (⟨#[98]⟩ : ByteArray).size ≤ maxLen := by decide
  have hm99 : (⟨#[99]⟩ : ByteArray).size ≤ maxLen := by decide
  have H97 := Aside0.mk hm97
  have H98 := Aside0.mk hm98
  have H99 := Aside0.mk hm99
  clear hm97 hm98 hm99
  go_enter Try.func8, Try.ntmps8
  go_wp2_with fail
  refine (New_calls w 100 (by omega)).mono ?_
  rintro e w1 ⟨p, b, rfl, hd, hb1, hp, hb⟩
  rw [s0] at hd
  have HP := Aside0.mk hp
  have HBB := Aside0.mk hb
  have HD := Aside0.mk hd
  have HB := Aside0.mk hb1
  clear hd hb1 hp hb
  have hcv1 := Lib.run_convert_bytes_const (P := Try.prog) w1 23 5 #[.int .u8 120, .int .u8 121, .int .u8 122] 3 3 Try.underlying23 Try.underlying5
  go_wp2_with fail
  refine (Write_is (N := 0) (HD.out.below ((Below.refl _ w1).alloc (Nat.le_refl _) _)) (by decide) H97.out (litC w1 [120, 121, 122] _ (by decide)) s1).mono ?_
  rintro e w2 ⟨rfl, hd2, hf2⟩
  have HD2 := Aside0.mk hd2
  have HB2 := Aside0.mk (Fr.base (HB.out.alloc HB.out.size _) HP.out HBB.out hf2)
  clear hd2 hf2 HD HB hcv1
  go_wp2_with fail
  refine (Sync_is HD2.out (by decide) H97.out s2).mono ?_
  rintro e w3 ⟨rfl, hd3, hf3⟩
  have HD3 := Aside0.mk hd3
  have HB3 := Aside0.mk (Fr.base HB2.out HP.out HBB.out hf3)
  clear hd3 hf3 HD2 HB2
  have hcv3 := Lib.run_convert_bytes_const (P := Try.prog) w3 23 5 #[.int .u8 112, .int .u8 113, .int .u8 114, .int .u8 115] 4 4 Try.underlying23 Try.underlying5
  go_wp2_with fail
  refine (Write_is (N := 2) (HD3.out.below ((Below.refl _ w3).alloc (Nat.le_refl _) _)) (by decide) H97.out (litC w3 [112, 113, 114, 115] _ (by decide)) s3).mono ?_
  rintro e w4 ⟨rfl, hd4, hf4⟩
  have HD4 := Aside0.mk hd4
  have HB4 := Aside0.mk (Fr.base (HB3.out.alloc HB3.out.size _) HP.out HBB.out hf4)
  clear hd4 hf4 HD3 HB3 hcv3
  have hcv4 := Lib.run_convert_bytes_const (P := Try.prog) w4 23 5 #[.int .u8 113] 1 1 Try.underlying23 Try.underlying5
  go_wp2_with fail
  refine (Write_is (N := 3) (HD4.out.below ((Below.refl _ w4).alloc (Nat.le_refl _) _)) (by decide) H98.out (litC w4 [113] _ (by decide)) s4).mono ?_
  rintro e w5 ⟨rfl, hd5, hf5⟩
  have HD5 := Aside0.mk hd5
  have HB5 := Aside0.mk (Fr.base (HB4.out.alloc HB4.out.size _) HP.out HBB.out hf5)
  clear hd5 hf5 HD4 HB4 hcv4
  go_wp2_with fail
  have hd5 := HD5.out.below ((Below.refl w5.heap.size w5).alloc (Nat.le_refl _) (.cells #[.int .i64 2] 3 (0, 0)))
  refine (Crash_calls (keep := [2]) hd5 (by decide) (fun w' hf => C_blk (xs := [2]) ((hf.block _ (by simp) (by rintro (e | e); exact absurd HD5.out.lt (by omega); exact absurd HD5.out.ltb (by omega))).trans (heap_alloc_new w5 _)) (by decide))).mono ?_
  rintro e w6 ⟨rfl, hd6, hf6⟩
  rw [s5] at hd6
  have HD6 := Aside0.mk hd6
  have HB6 := Aside0.mk (Fr.base (HB5.out.alloc HB5.out.size _) HP.out HBB.out hf6)
  clear hd6 hf6 HD5 HB5 hd5
  go_wp2_with fail
  refine (Read_is HD6.out H97.out s6).mono ?_
  rintro e w7 ⟨v7, rfl, ho7, hb7⟩
  obtain ⟨A7, c7, rfl⟩ := own_slice ho7
  have HLT := Aside0.mk (show ∀ k, Two p b k → k < w6.heap.size from fun k hk => by rcases hk with rfl | rfl; exact HD6.out.lt; exact HD6.out.ltb)
  have HD7 := Aside0.mk (HD6.out.below hb7)
  have HB7 := Aside0.mk (HB6.out.trans (hb7.mono HB6.out.size))
  have HO7 := Aside0.mk ho7
  clear hb7 ho7 HD6 HB6
  go_wp2_with fail
  refine (Read_is HD7.out H98.out s7).mono ?_
  rintro e w8 ⟨v8, rfl, ho8, hb8⟩
  obtain ⟨A8, c8, rfl⟩ := own_slice ho8
  have HD8 := Aside0.mk (HD7.out.below hb8)
  have HB8 := Aside0.mk (HB7.out.trans (hb8.mono HB7.out.size))
  have HO7' := Aside0.mk (pw_own_below HO7.out hb8)
  have HO8 := Aside0.mk ho8
  clear hb8 ho8 HD7 HB7 HO7
  have hmk := mk99 w8
  go_wp2_with fail
  refine (Write_is (N := 6) (bs := List.replicate 99 0) ((HD8.out.mono (by omega) (by omega)).below ((Below.refl _ w8).alloc (Nat.le_refl _) _)) (by decide) H99.out (C_blk (q := .u8) (xs := List.replicate 99 0) (heap_alloc_new w8 _) (by decide)) s8).mono ?_
  rintro e w9 ⟨rfl, hd9, hf9⟩
  have HD9 := Aside0.mk hd9
  have HB9 := Aside0.mk (Fr.base (HB8.out.alloc HB8.out.size _) HP.out HBB.out hf9)
  clear hd9 HD8 HB8 hmk
  have HO9 := Aside0.mk (row_fr (pw_own_below HO7'.out ((Below.refl _ w8).alloc (Nat.le_refl _) (.cells z99 5 (0, 0)))) hf9 HLT.out)
  clear HO7' HO8
  go_wp2_with fail
  refine (Rename_is HD9.out (by decide) H97.out H98.out s9).mono ?_
  rintro e w10 ⟨rfl, hd10, hf10⟩
  have HD10 := Aside0.mk hd10
  have HB10 := Aside0.mk (Fr.base HB9.out HP.out HBB.out hf10)
  have HO10 := Aside0.mk (row_fr HO9.out hf10 HLT.out)
  clear hd10 hf10 HD9 HB9 HO9
  go_wp2_with fail
  have K11 := List_calls HD10.out
  rw [s10] at K11
  refine K11.mono ?_
  clear K11
  rintro e w11 ⟨v11, rfl, ho11, hb11⟩
  obtain ⟨A11, c11, rfl⟩ := own_slice ho11
  have HD11 := Aside0.mk (HD10.out.below hb11)
  have HB11 := Aside0.mk (HB10.out.trans (hb11.mono HB10.out.size))
  have HO11 := Aside0.mk (pw_own_below HO10.out hb11)
  have HL11 := Aside0.mk ho11
  clear hb11 ho11 HD10 HB10 HO10
  go_wp2_with fail
  refine (Read_is HD11.out H97.out s11).mono ?_
  rintro e w12 ⟨v12, rfl, ho12, hb12⟩
  have HD12 := Aside0.mk (HD11.out.below hb12)
  have HB12 := Aside0.mk (HB11.out.trans (hb12.mono HB11.out.size))
  have HO12 := Aside0.mk (pw_own_below HO11.out hb12)
  have HL12 := Aside0.mk (pw_own_below HL11.out hb12)
  clear hb12 ho12 HD11 HB11 HO11 HL11
  have hpq : strOfNums [112, 113] = ⟨#[112, 113]⟩ := by kernel_rfl
  have hcv : (convert 23 9 (.slice A7 2 c7)).run Try.prog w12 = .ok (.string ⟨#[112, 113]⟩) w12 := by
    have h := conv_own (xs := [112, 113]) HO12.out (by decide)
    rw [hpq] at h
    exact h
  clear hpq
  obtain ⟨ad, e1, hc11⟩ := row_cells HL12.out 0 (v := .string ⟨#[98]⟩) rfl
  cases e1
  have hc12 : w12.cell? ad = some (.string ⟨#[98]⟩) := by simpa [Addr.add] using hc11
  clear hc11
  have hU := Used_calls HD12.out
  rw [s12] at hU
  go_wp2_with (go_at_call 19; refine hU.mono ?_; rintro e w13 ⟨rfl, hb13⟩)
  go_ret
  exact ⟨rfl, HB12.out.trans (hb13.mono HB12.out.size)⟩
end Go.Proofs.Ytihbgdobicokpaa.D
namespace Go.Proofs.Ytihbgdobicokpaa.D
open Go.RowKit Go.Maps Go.Proofs.Ytihbgdobicokpaa.X Go.Proofs.YtihbgdobicokpaaW.PrintWords Go.Proofs.YtihbgdobicokpaaW.PrintLast Go.Proofs.YtihbgdobicokpaaW.PrintMore
attribute [local go_sem] max2_int min2_int max_two min_two max_three min_three max_four min_four   -- for this text's walks alone
set_option linter.unusedVariables false
set_option linter.unusedSimpArgs false
theorem Bytes_loop (l0 l1 : List Int) (hl : l0.length = l1.length) (hb : l0.length ≤ 140737488355328) : ∀ (m i : Nat), l0.length - i = m → i ≤ l0.length → l0.take i = l1.take i → leathelp_Bytes.l0 (m + 1) l0 l1 (i : Int) = some (decide (l0 = l1))
  | 0, i, hm, hi, he => by
    unfold leathelp_Bytes.l0
    rw [if_neg (by omega)]
    have e : l0 = l1 := by rw [List.take_of_length_le (by omega), List.take_of_length_le (by omega)] at he; exact he
    rw [decide_eq_true e]
  | m + 1, i, hm, hi, he => by
    unfold leathelp_Bytes.l0
    have w5 : wrap64 ((i : Int) + 1) = ((i + 1 : Nat) : Int) := by unfold wrap64; omega
    have h0 : rd l0 (i : Int) = l0[i]'(by omega) := by simp [rd, List.getD, List.getElem?_eq_getElem (show i < l0.length by omega)]
    have h1 : rd l1 (i : Int) = l1[i]'(by omega) := by simp [rd, List.getD, List.getElem?_eq_getElem (show i < l1.length by omega)]
    rw [if_pos (by omega), if_pos (by omega), if_pos (by omega), h0, h1, w5]
    by_cases c : l0[i]'(by omega) = l1[i]'(by omega)
    · rw [if_pos c]
      refine Bytes_loop l0 l1 hl hb m (i + 1) (by omega) (by omega) ?_
      rw [List.take_succ_eq_append_getElem (by omega), List.take_succ_eq_append_getElem (by omega), he, c]
    · rw [if_neg c]
      have : ¬ l0 = l1 := fun e => c (by subst e; rfl)
      rw [decide_eq_false this]
theorem Bytes_f (l0 l1 : List Int) (hb : l0.length ≤ 140737488355328) : ∃ k, leathelp_Bytes.f k l0 l1 = some (decide (l0 = l1)) := by
  by_cases c : l0.length = l1.length
  · refine ⟨l0.length + 1, ?_⟩
    unfold leathelp_Bytes.f
    rw [if_pos (by omega)]
    exact Bytes_loop l0 l1 c hb l0.length 0 (by omega) (by omega) (by simp)
  · refine ⟨0, ?_⟩
    unfold leathelp_Bytes.f
    rw [if_neg (by omega), decide_eq_false (fun e => c (by rw [e]))]
theorem Bytes_calls {w : World} {A A' : Option Addr} {n n' c c' : Nat} {xs ys : List Int} (h0 : IsB w (.slice A n c) xs) (h1 : IsB w (.slice A' n' c') ys) :
    Calls Try.prog 16 #[.slice A n c, .slice A' n' c'] w fun e w' => e = .returned (.bool (decide (xs = ys))) ∧ Drawn0 w w' := by
  obtain ⟨k, hk⟩ := Bytes_f xs ys h0.len
  obtain ⟨A0, c0, e0, g0, hC0⟩ := h0.reads
  obtain ⟨A1, c1, e1, g1, hC1⟩ := h1.reads
  cases e0
  cases e1
  exact leathelp_Bytes.calls k A c xs A' c' ys _ w hC0 g0 hC1 g1 hk
theorem look_names {fs : List Fl} {n : Nm} (h : n ∈ names fs) : (look n fs).isSome = true := by
  unfold names at h
  obtain ⟨f, hf, rfl⟩ := List.mem_map.1 h
  unfold look
  rw [List.find?_isSome]
  exact ⟨f, hf, by simp⟩
theorem IsDX.got_len {X : Nat → Prop} {N : Nat} {w : World} {p b : Nat} {d : Dk} (h : IsDX X N w p b d) (n : Nm) : (got n d.fs).1.length ≤ 1048576 := by
  obtain ⟨es, h1, h2⟩ := h.fs
  obtain ⟨sl, g1, g2, g3, g4, g5, g6⟩ := got_of n h2
  exact g6
theorem rd_names {d : Dk} {n : Nm} (hd : d.dead = false) (h : n ∈ names d.fs) : rdD d n = ((got n d.fs).1, 0) := by
  have e : isE d n = 0 := by unfold isE; rw [if_neg (by rw [hd]; decide), if_pos (look_names h)]
  unfold rdD
  rw [if_pos e]
def Dalb.T9 : Bool × List (List Nat × List Nat) := (true, [([], []), ([], []), ([0, 1], [0, 1]), ([2], [2]), ([], []), ([], []), ([4, 5], [4, 5]), ([6], [6]), ([3, 7], [3, 7]), ([8], [8]), ([9], [9]), ([9], [9]), ([10, 11, 9], [9, 10, 11]), ([9, 12], [9, 12]), ([13, 9], [13]), ([14], [14]), ([14], [14]), ([15, 16, 14, 14], [14, 15, 16]), ([17, 14], [14, 17]), ([14, 18], [14, 18])])
def Dalb.B9 : List Nat := [0, 0, 3, 7, 0, 0, 48, 112, 255, 511, 1023, 1023, 4095, 8191, 16383, 32767, 32767, 131071, 262143, 524287]
theorem Dalb.tab9 : rtab .any (opsOf Try.f25 9) = Dalb.T9 := by kernel_rfl
theorem Dalb.bits9 : waitsOk Dalb.T9.2 Dalb.B9 = true := by kernel_rfl
end Go.Proofs.Ytihbgdobicokpaa.D
namespace Go.Proofs.Ytihbgdobicokpaa.D
open Go.RowKit Go.Maps Go.Proofs.Ytihbgdobicokpaa.X Go.Proofs.YtihbgdobicokpaaW.PrintWords Go.Proofs.YtihbgdobicokpaaW.PrintLast Go.Proofs.YtihbgdobicokpaaW.PrintMore
attribute [local go_sem] max2_int min2_int max_two min_two max_three min_three max_four min_four   -- for this text's walks alone
set_option linter.unusedVariables false
set_option linter.unusedSimpArgs false
theorem C_nil (w : World) : Kd.C (Kd.int .u8) w none ([] : List Int).length [] := ⟨rfl, by decide, fun h => absurd h (by simp)⟩
def Far (p b p' b' : Nat) : Prop := p ≠ p' ∧ p ≠ b' ∧ b ≠ p' ∧ b ≠ b'
theorem IsDX.other {X : Nat → Prop} {N N' : Nat} {w w' : World} {p b p' b' : Nat} {d d' : Dk} (h : IsDX X N w p b d) (h' : IsDX X N' w p' b' d') (hf : Fr (Two p' b') w w') (hn : Far p b p' b') : IsDX X N w' p b d :=
  h.fr hf h'.two (fun e => by rcases e with e | e; exact hn.1 e; exact hn.2.1 e) (fun e => by rcases e with e | e; exact hn.2.2.1 e; exact hn.2.2.2 e)
theorem drawn_below {w w' : World} (h : Drawn0 w w') : Below w.heap.size w w' := below_drawn (Below.refl _ _) h
end Go.Proofs.Ytihbgdobicokpaa.D
namespace Go.Proofs.Ytihbgdobicokpaa.X
open Go.RowKit Go.Maps Go.Proofs.YtihbgdobicokpaaW.PrintWords Go.Proofs.Ytihbgdobicokpaa.D
set_option linter.unusedVariables false
open Classical in
noncomputable def leatlaw2_DiskCuts.f (l0 : List S30) (a1 : Int) : Option Bool := if l0.length ≤ 140737488351232 ∧ Small l0 ∧ GoodL l0 then some true else none
end Go.Proofs.Ytihbgdobicokpaa.X
namespace Go.Proofs.Ytihbgdobicokpaa.D
open Go.RowKit Go.Maps Go.Proofs.Ytihbgdobicokpaa.X Go.Proofs.YtihbgdobicokpaaW.PrintWords Go.Proofs.YtihbgdobicokpaaW.PrintLast Go.Proofs.YtihbgdobicokpaaW.PrintMore
attribute [local go_sem] max2_int min2_int max_two min_two max_three min_three max_four min_four   -- for this text's walks alone
set_option linter.unusedVariables false
set_option linter.unusedSimpArgs false
structure Bh (n p b : Nat) : Prop where
  p : n ≤ p
  b : n ≤ b
theorem Bh.mono {n m p b : Nat} (h : Bh m p b) (hn : n ≤ m) : Bh n p b := ⟨Nat.le_trans hn h.p, Nat.le_trans hn h.b⟩
theorem Fr.base' {w0 w w' : World} {p b : Nat} (h : Below w0.heap.size w0 w) (hp : Bh w0.heap.size p b) (hf : Fr (Two p b) w w') : Below w0.heap.size w0 w' := Fr.base h hp.p hp.b hf
theorem far_new {N : Nat} {w : World} {p b p' b' : Nat} {d : Dk} (h : IsD N w p b d) (h' : Bh w.heap.size p' b') : Far p b p' b' := by
  have := h.lt; have := h.ltb; have := h'.p; have := h'.b
  exact ⟨by omega, by omega, by omega, by omega⟩
theorem Far.symm {p b p' b' : Nat} (h : Far p b p' b') : Far p' b' p b := ⟨h.1.symm, h.2.2.1.symm, h.2.1.symm, h.2.2.2.symm⟩
end Go.Proofs.Ytihbgdobicokpaa.D
namespace Go.Proofs.Ytihbgdobicokpaa.X
open Go.RowKit Go.Maps Go.Proofs.YtihbgdobicokpaaW.PrintWords Go.Proofs.Ytihbgdobicokpaa.D
set_option linter.unusedVariables false
open Classical in
noncomputable def leatlaw2_DiskApart.f (a0 : Int) (l1 l2 : List S30) : Option Bool := if a0 ≤ 9223372036854775807 ∧ (l1.length ≤ 140737488351232 ∧ Small l1 ∧ GoodL l1) ∧ (l2.length ≤ 140737488351232 ∧ Small l2 ∧ GoodL l2) then some true else none
end Go.Proofs.Ytihbgdobicokpaa.X
namespace Go.Proofs.Ytihbgdobicokpaa.D
open Go.RowKit
set_option linter.unusedVariables false
set_option linter.unusedSimpArgs false
theorem total_cons (f : Fl) (l : List Fl) : total (f :: l) = f.b.length + total l := by simp [total]
theorem out_none {n : Nm} : ∀ {l : List Fl}, (∀ f ∈ l, f.n ≠ n) → out Fl.n n l = l := by
  intro l h
  unfold out
  rw [List.filter_eq_self]
  intro f hf
  simpa using h f hf
structure Ok (room : Int) (d : Dk) : Prop where
  dead : d.dead = false
  cut : d.cut = -1
  room_ : d.room = room
  in_ : (total d.fs : Int) ≤ room
end Go.Proofs.Ytihbgdobicokpaa.D
namespace Go.Proofs.Ytihbgdobicokpaa.D
open Go.RowKit Go.Maps Go.Proofs.Ytihbgdobicokpaa.X Go.Proofs.YtihbgdobicokpaaW.PrintWords Go.Proofs.YtihbgdobicokpaaW.PrintLast Go.Proofs.YtihbgdobicokpaaW.PrintMore
set_option linter.unusedVariables false
set_option linter.unusedSimpArgs false
variable {X : Nat → Prop}
structure Rk where
  fs : List Fl
  room : Int
  left : Int
theorem cells_ty {a b : Array Value} {t t' : TypeId} {f f' : Nat × Nat} (h : (some (Obj.cells a t f) : Option Obj) = some (.cells b t' f')) : t = t' := by
  injection h with h
  injection h
def FC (X : Nat → Prop) (w : World) (f : Fl) (c : List Value) : Prop := ∃ sl, c = [.string ⟨f.n.toArray⟩, sl, .int .i64 f.s] ∧ IsB w sl f.b ∧ Av X sl ∧ f.n.length ≤ maxLen ∧ 0 ≤ f.s ∧ f.s ≤ f.b.length ∧ f.b.length ≤ 1048576
inductive FCs (X : Nat → Prop) (w : World) : List Fl → List Value → Prop
  | nil : FCs X w [] []
  | cons {f : Fl} {fs : List Fl} {c cs : List Value} (h : FC X w f c) (r : FCs X w fs cs) : FCs X w (f :: fs) (c ++ cs)
theorem FC.len {w : World} {f : Fl} {c : List Value} (h : FC X w f c) : c.length = 3 := by obtain ⟨sl, rfl, _⟩ := h; rfl
theorem FCs.len {w : World} {fs : List Fl} {cs : List Value} (h : FCs X w fs cs) : cs.length = fs.length * 3 := by
  induction h with
  | nil => rfl
  | cons h _ ih => rw [List.length_append, h.len, ih, List.length_cons]; omega
theorem FCs.append {w : World} {fs gs : List Fl} {cs ds : List Value} (h : FCs X w fs cs) (k : FCs X w gs ds) : FCs X w (fs ++ gs) (cs ++ ds) := by
  induction h with
  | nil => exact k
  | cons h _ ih => rw [List.append_assoc]; exact .cons h ih
theorem FCs.one {w : World} {f : Fl} {c : List Value} (h : FC X w f c) : FCs X w [f] c := by
  have := FCs.cons h FCs.nil
  rwa [List.append_nil] at this
theorem FCs.take {w : World} {fs : List Fl} {cs : List Value} (h : FCs X w fs cs) : ∀ i, FCs X w (fs.take i) (cs.take (i * 3)) := by
  induction h with
  | nil => intro i; simp; exact .nil
  | cons h _ ih =>
    intro i
    cases i with
    | zero => simp; exact .nil
    | succ i =>
      have hl := h.len
      have e : ∀ c cs : List Value, c.length = 3 → (c ++ cs).take ((i + 1) * 3) = c ++ cs.take (i * 3) := fun c cs hc => by
        rw [List.take_append, List.take_of_length_le (by omega), show (i + 1) * 3 - c.length = i * 3 from by omega]
      rw [e _ _ hl]
      exact .cons h (ih i)
theorem FCs.drop {w : World} {fs : List Fl} {cs : List Value} (h : FCs X w fs cs) : ∀ i, FCs X w (fs.drop i) (cs.drop (i * 3)) := by
  induction h with
  | nil => intro i; simp; exact .nil
  | cons h r ih =>
    intro i
    cases i with
    | zero => simp; exact .cons h r
    | succ i =>
      have hl := h.len
      have e : ∀ c cs : List Value, c.length = 3 → (c ++ cs).drop ((i + 1) * 3) = cs.drop (i * 3) := fun c cs hc => by
        rw [List.drop_append, List.drop_of_length_le (by omega), List.nil_append, show (i + 1) * 3 - c.length = i * 3 from by omega]
      rw [e _ _ hl]
      exact ih i
theorem FCs.get {w : World} {fs : List Fl} {cs : List Value} (h : FCs X w fs cs) {i : Nat} {f : Fl} (hf : fs[i]? = some f) : ∃ sl, cs[i * 3]? = some (.string ⟨f.n.toArray⟩) ∧ cs[i * 3 + 1]? = some sl ∧ cs[i * 3 + 2]? = some (.int .i64 f.s) ∧ FC X w f [.string ⟨f.n.toArray⟩, sl, .int .i64 f.s] := by
  have hd := h.drop i
  obtain ⟨hi, rfl⟩ := List.getElem?_eq_some_iff.1 hf
  rw [List.drop_eq_getElem_cons hi] at hd
  generalize hcs : cs.drop (i * 3) = ds at hd
  cases hd with
  | cons h r =>
    have h0 := h
    obtain ⟨sl, rfl, _⟩ := h
    have e : ∀ j, cs[i * 3 + j]? = (cs.drop (i * 3))[j]? := fun j => by rw [List.getElem?_drop]
    refine ⟨sl, ?_, ?_, ?_, h0⟩
    · have := e 0; rw [hcs] at this; simpa using this
    · rw [e 1, hcs]; rfl
    · rw [e 2, hcs]; rfl
theorem FC.fr {M : Nat → Prop} {w w' : World} {f : Fl} {c : List Value} (h : FC X w f c) (hf : Fr M w w') (hM : ∀ k, k < w.heap.size → M k → NB w k) : FC X w' f c := by
  obtain ⟨sl, h1, h2, h3⟩ := h
  exact ⟨sl, h1, h2.fr hf hM, h3⟩
theorem FCs.fr {M : Nat → Prop} {w w' : World} {fs : List Fl} {cs : List Value} (h : FCs X w fs cs) (hf : Fr M w w') (hM : ∀ k, k < w.heap.size → M k → NB w k) : FCs X w' fs cs := by
  induction h with
  | nil => exact .nil
  | cons h _ ih => exact .cons (h.fr hf hM) ih
theorem Av.of_row {w : World} {B n e s : Nat} {v : Value} {xs : List Value} (h : w.ownsRow B e s v n xs) (hX : ∀ k, X k → k < B) : Av X v := by
  intro a m c e hx
  obtain ⟨_, ⟨h2, _⟩ | ⟨g, cap, cur, h2, h3, _⟩⟩ := h
  · rw [e] at h2; cases h2
  · rw [e] at h2; cases h2
    exact absurd (hX _ hx) (Nat.not_lt.2 h3)
theorem FCs.spoil {M : Nat → Prop} {w w' : World} {fs : List Fl} {cs : List Value} (h : FCs X w fs cs) (hf : Fr M w w') (hM : ∀ k, M k → X k) : FCs X w' fs cs := by
  induction h with
  | nil => exact .nil
  | cons h _ ih =>
    obtain ⟨sl, h1, h2, h3, h4⟩ := h
    exact .cons ⟨sl, h1, h2.fr' hf (fun a n c e hm => h3 a n c e (hM _ hm)), h3, h4⟩ ih
theorem FCs.avoid {Y : Nat → Prop} {w : World} {fs : List Fl} {cs : List Value} (h : FCs X w fs cs) (hY : ∀ k, k < w.heap.size → Y k → X k) : FCs Y w fs cs := by
  induction h with
  | nil => exact .nil
  | cons h _ ih =>
    obtain ⟨sl, h1, h2, h3, h4⟩ := h
    refine .cons ⟨sl, h1, h2, fun a n c e hx => ?_, h4⟩ ih
    rcases h2 with ⟨h2, _⟩ | ⟨g, cap, cur, h5, _, _, h6, _⟩
    · rw [e] at h2; cases h2
    · have e2 := e
      rw [h5] at e2
      cases e2
      exact h3 _ _ _ e (hY g (lt_of_block h6) hx)
def NR (w : World) (k : Nat) : Prop := ∀ cur t, w.heap[k]? = some (.cells cur t (0, 0)) → t ≠ 5 ∧ t ≠ 80
theorem NR.nb {w : World} {k : Nat} (h : NR w k) : NB w k := fun cur hk => (h cur 5 hk).1 rfl
theorem Av.avoid {Y : Nat → Prop} {w : World} {v : Value} {n B e s : Nat} {cs : List Value} (h : w.ownsRow B e s v n cs) (ha : Av X v) (hY : ∀ k, k < w.heap.size → Y k → X k) : Av Y v := by
  intro a m c e hx
  obtain ⟨_, ⟨h2, _⟩ | ⟨g, cap, cur, h2, h3, h4, _⟩⟩ := h
  · rw [e] at h2; cases h2
  · have e2 := e
    rw [h2] at e2
    cases e2
    exact ha _ _ _ e (hY g (lt_of_block h4) hx)
structure IsR (X : Nat → Prop) (w : World) (q : Nat) (r : Rk) : Prop where
  ex : ∃ v cs, w.heap[q]? = some (.cells #[v, .int .i64 r.room, .int .i64 r.left] 76 (0, 0)) ∧ w.ownsRow 0 80 3 v r.fs.length cs ∧ FCs X w r.fs cs ∧ Av X v
  small : r.fs.length ≤ 1000000
  room0 : 0 ≤ r.room
  room1 : r.room ≤ 9223372036854775807
  left0 : -1 ≤ r.left
  left1 : r.left ≤ 9223372036854775807
theorem IsR.lt {w : World} {q : Nat} {r : Rk} (h : IsR X w q r) : q < w.heap.size := by obtain ⟨v, cs, h1, _⟩ := h.ex; exact lt_of_block h1
theorem IsR.nr {w : World} {q : Nat} {r : Rk} (h : IsR X w q r) : ∀ k, k < w.heap.size → k = q → NR w k := by
  rintro k _ rfl cur t hk
  obtain ⟨v, cs, h1, _⟩ := h.ex
  rw [h1] at hk
  cases hk
  exact ⟨by decide, by decide⟩
theorem IsDX.nr {N : Nat} {w : World} {p b : Nat} {d : Dk} (h : IsDX X N w p b d) : ∀ k, k < w.heap.size → Two p b k → NR w k := by
  rintro k _ (rfl | rfl) cur t hk
  · rw [h.at_] at hk; cases hk; exact ⟨by decide, by decide⟩
  · obtain ⟨es, ⟨e1, c1, h1, _⟩, _⟩ := h.fs
    rw [h1] at hk; cases hk
theorem own_fr {M : Nat → Prop} {w w' : World} {v : Value} {n B e s : Nat} {cs : List Value} (h : w.ownsRow B e s v n cs) (hf : Fr M w w') (hM : ∀ k, k < w.heap.size → M k → ∀ cur, w.heap[k]? ≠ some (.cells cur e (0, 0))) : w'.ownsRow B e s v n cs := by
  obtain ⟨h1, h2 | ⟨g, cap, cur, h2, h3, h4, h5⟩⟩ := h
  · exact ⟨h1, Or.inl h2⟩
  · exact ⟨h1, Or.inr ⟨g, cap, cur, h2, h3, (hf.block g (lt_of_block h4) (fun hm => hM g (lt_of_block h4) hm cur h4)).trans h4, h5⟩⟩
theorem IsR.fr {M : Nat → Prop} {w w' : World} {q : Nat} {r : Rk} (h : IsR X w q r) (hf : Fr M w w') (hM : ∀ k, k < w.heap.size → M k → NR w k) (hq : ¬ M q) : IsR X w' q r := by
  obtain ⟨v, cs, h1, h2, h3, h3a⟩ := h.ex
  exact ⟨⟨v, cs, (hf.block q (lt_of_block h1) hq).trans h1, own_fr h2 hf (fun k hk hm cur hc => (hM k hk hm cur 80 hc).2 rfl), h3.fr hf (fun k hk hm => (hM k hk hm).nb), h3a⟩, h.small, h.room0, h.room1, h.left0, h.left1⟩
theorem IsR.below {w w' : World} {q : Nat} {r : Rk} (h : IsR X w q r) (hf : Below w.heap.size w w') : IsR X w' q r :=
  h.fr (M := fun _ => False) (Fr.of_below hf) (fun _ _ h => h.elim) id
theorem IsR.drawn {w w' : World} {q : Nat} {r : Rk} (h : IsR X w q r) (hf : Drawn0 w w') : IsR X w' q r := h.below (drawn_below hf)
theorem IsR.avoid {Y : Nat → Prop} {w : World} {q : Nat} {r : Rk} (h : IsR X w q r) (hY : ∀ k, k < w.heap.size → Y k → X k) : IsR Y w q r := by
  obtain ⟨v, cs, h1, h2, h3, h3a⟩ := h.ex
  exact ⟨⟨v, cs, h1, h2, h3.avoid hY, Av.avoid h2 h3a hY⟩, h.small, h.room0, h.room1, h.left0, h.left1⟩
theorem IsR.spoil {M : Nat → Prop} {w w' : World} {q : Nat} {r : Rk} (h : IsR X w q r) (hf : Fr M w w') (hM : ∀ k, M k → X k) (hq : ¬ M q) : IsR X w' q r := by
  obtain ⟨v, cs, h1, h2, h3, h3a⟩ := h.ex
  refine ⟨⟨v, cs, (hf.block q (lt_of_block h1) hq).trans h1, ?_, h3.spoil hf hM, h3a⟩, h.small, h.room0, h.room1, h.left0, h.left1⟩
  obtain ⟨k1, k2 | ⟨g, cap, cur, k2, k3, k4, k5⟩⟩ := h2
  · exact ⟨k1, Or.inl k2⟩
  · exact ⟨k1, Or.inr ⟨g, cap, cur, k2, k3, (hf.block g (lt_of_block k4) (fun hm => h3a _ _ _ k2 (hM _ hm))).trans k4, k5⟩⟩
theorem IsR.disk {N : Nat} {w w' : World} {p b q : Nat} {d : Dk} {r : Rk} {Y : Nat → Prop} (h : IsR X w q r) (hd : IsDX Y N w p b d) (hf : Fr (Two p b) w w') : IsR X w' q r := by
  refine h.fr hf hd.nr ?_
  obtain ⟨v, cs, h1, _⟩ := h.ex
  rintro (rfl | rfl)
  · rw [hd.at_] at h1; exact absurd (cells_ty h1) (by decide)
  · obtain ⟨es, ⟨e1, c1, h2, _⟩, _⟩ := hd.fs
    rw [h1] at h2; cases h2
theorem IsDX.ref {N : Nat} {w w' : World} {p b q : Nat} {d : Dk} {r : Rk} {Y : Nat → Prop} (hd : IsDX Y N w p b d) (h : IsR X w q r) (hf : Fr (fun k => k = q) w w') : IsDX Y N w' p b d := by
  obtain ⟨v, cs, h1, _⟩ := h.ex
  refine hd.fr hf (fun k hk e => (h.nr k hk e).nb) ?_ ?_
  · rintro rfl
    rw [hd.at_] at h1; exact absurd (cells_ty h1) (by decide)
  · rintro rfl
    obtain ⟨es, ⟨e1, c1, h2, _⟩, _⟩ := hd.fs
    rw [h1] at h2; cases h2
theorem IsR.cells {w : World} {q : Nat} {r : Rk} (h : IsR X w q r) : ∃ A c, (w.cell? ⟨q, 0, none⟩ = some (.slice A r.fs.length c) ∧ w.cell? ⟨q, 1, none⟩ = some (.int .i64 r.room) ∧ w.cell? ⟨q, 2, none⟩ = some (.int .i64 r.left)) ∧ r.fs.length ≤ c ∧
    (r.fs ≠ [] → ∃ g, A = some ⟨g, 0, none⟩) ∧
    ∀ (i : Nat) (f : Fl), r.fs[i]? = some f → ∃ ad sl, A = some ad ∧ w.cell? (ad.add (i * 3)) = some (.string ⟨f.n.toArray⟩) ∧ w.cell? ⟨(ad.add (i * 3)).block, (ad.add (i * 3)).off + 1, none⟩ = some sl ∧ w.cell? ⟨(ad.add (i * 3)).block, (ad.add (i * 3)).off + 2, none⟩ = some (.int .i64 f.s) ∧ FC X w f [.string ⟨f.n.toArray⟩, sl, .int .i64 f.s] := by
  obtain ⟨v, cs, h1, h2, h3, h3a⟩ := h.ex
  have hc0 := (blk_cell h1 0).trans rfl
  have hc1 := (blk_cell h1 1).trans rfl
  have hc2 := (blk_cell h1 2).trans rfl
  obtain ⟨hl, ⟨rfl, h5⟩ | ⟨g, cap, cur, rfl, h5, h6, h7, h8, h9, h10⟩⟩ := h2
  · have hnil : r.fs = [] := List.eq_nil_of_length_eq_zero h5
    refine ⟨none, 0, ⟨by rw [h5]; exact hc0, hc1, hc2⟩, by omega, fun hn => absurd hnil hn, fun i f hf => ?_⟩
    rw [hnil] at hf; simp at hf
  · refine ⟨some ⟨g, 0, none⟩, cap, ⟨hc0, hc1, hc2⟩, h7, fun _ => ⟨g, rfl⟩, fun i f hf => ?_⟩
    obtain ⟨sl, k0, k1, k2, k3⟩ := h3.get hf
    have hb : ((⟨g, 0, none⟩ : Addr).add (i * 3)) = ⟨g, i * 3, none⟩ := by unfold Addr.add; split <;> simp_all
    have hcell : ∀ j u, cs[j]? = some u → w.cell? ⟨g, j, none⟩ = some u := fun j u hj => by
      have hjl : j < cs.length := (List.getElem?_eq_some_iff.1 hj).1
      rw [← h10, List.getElem?_take, if_pos (by omega)] at hj
      simp only [World.cell?, h6]
      simpa using hj
    refine ⟨_, sl, rfl, ?_, ?_, ?_, k3⟩
    · rw [hb]; exact hcell _ _ k0
    · rw [hb]; exact hcell _ _ k1
    · rw [hb]; exact hcell _ _ k2
theorem IsR.frozen {w : World} {q : Nat} {r : Rk} (h : IsR X w q r) (i : Nat) : w.frozen? ⟨q, i, none⟩ = false := by
  obtain ⟨v, cs, h1, _⟩ := h.ex
  exact blk_frozen h1 i
theorem IsR.set {w : World} {q : Nat} {r : Rk} (h : IsR X w q r) (i : Nat) (hi : i = 1 ∨ i = 2) (n : Int) (r' : Rk) (hfs : r'.fs = r.fs) (hr : r' = (if i = 1 then { r with room := n } else { r with left := n }))
    (h1 : 0 ≤ r'.room) (h2 : r'.room ≤ 9223372036854775807) (h3 : -1 ≤ r'.left) (h4 : r'.left ≤ 9223372036854775807) : IsR X (w.setCell ⟨q, i, none⟩ (.int .i64 n)) q r' ∧ Fr (fun k => k = q) w (w.setCell ⟨q, i, none⟩ (.int .i64 n)) := by
  have hf : Fr (fun k => k = q) w (w.setCell ⟨q, i, none⟩ (.int .i64 n)) := Fr.setCell (M := fun k => k = q) (Fr.refl _ w) (p := ⟨q, i, none⟩) rfl _
  obtain ⟨v, cs, g1, g2, g3, g3a⟩ := h.ex
  refine ⟨⟨⟨v, cs, ?_, ?_, ?_, g3a⟩, by rw [hfs]; exact h.small, h1, h2, h3, h4⟩, hf⟩
  · have := blk_set g1 i (.int .i64 n)
    rw [this, hr]
    rcases hi with rfl | rfl <;> simp
  · rw [hfs]; exact own_fr g2 hf (fun k hk hm cur hc => (h.nr k hk hm cur 80 hc).2 rfl)
  · rw [hfs]; exact g3.fr hf (fun k hk hm => (h.nr k hk hm).nb)
theorem IsR.setL {w : World} {q : Nat} {r : Rk} (h : IsR X w q r) {v : Value} {fs : List Fl} {cs : List Value} (ho : w.ownsRow 0 80 3 v fs.length cs) (hF : FCs X w fs cs) (ha : Av X v) (hs : fs.length ≤ 1000000) : IsR X (w.setCell ⟨q, 0, none⟩ v) q { r with fs := fs } ∧ Fr (fun k => k = q) w (w.setCell ⟨q, 0, none⟩ v) := by
  have hf : Fr (fun k => k = q) w (w.setCell ⟨q, 0, none⟩ v) := Fr.setCell (M := fun k => k = q) (Fr.refl _ w) (p := ⟨q, 0, none⟩) rfl _
  obtain ⟨v0, cs0, g1, g2, g3, _⟩ := h.ex
  refine ⟨⟨⟨v, cs, ?_, ?_, ?_, ha⟩, hs, h.room0, h.room1, h.left0, h.left1⟩, hf⟩
  · have := blk_set g1 0 v
    rw [this]
    simp
  · exact own_fr ho hf (fun k hk hm cur hc => (h.nr k hk hm cur 80 hc).2 rfl)
  · exact hF.fr hf (fun k hk hm => (h.nr k hk hm).nb)
end Go.Proofs.Ytihbgdobicokpaa.D
namespace Go.Proofs.Ytihbgdobicokpaa.D
open Go.RowKit Go.Maps Go.Proofs.Ytihbgdobicokpaa.X Go.Proofs.YtihbgdobicokpaaW.PrintWords Go.Proofs.YtihbgdobicokpaaW.PrintLast Go.Proofs.YtihbgdobicokpaaW.PrintMore
attribute [local go_sem] max2_int min2_int max_two min_two max_three min_three max_four min_four   -- for this text's walks alone
set_option linter.unusedVariables false
set_option linter.unusedSimpArgs false
variable {X : Nat → Prop}
set_option maxHeartbeats 1000000 in
set_option maxRecDepth 100000 in
theorem rDead_calls {w : World} {q : Nat} {r : Rk} (h : IsR X w q r) : Calls Try.prog 47 #[.pointer (some ⟨q, 0, none⟩)] w fun e w' => e = .returned (.bool (decide (r.left = 0))) ∧ w' = w := by
  obtain ⟨A, c, ⟨hc0, hc1, hc2⟩, _⟩ := h.cells
  clear h
  by_cases k : r.left = 0
  · rw [k] at hc2
    rw [decide_eq_true k]
    go_enter Try.func47, Try.ntmps47
    go_wp2
    go_ret
    exact ⟨rfl, rfl⟩
  · have k1 : (r.left == 0) = false := by simpa using k
    rw [decide_eq_false k]
    go_enter Try.func47, Try.ntmps47
    go_wp2
    go_ret
    exact ⟨rfl, rfl⟩
def rdone (r : Rk) : Rk := if 0 < r.left then { r with left := r.left - 1 } else r
set_option maxHeartbeats 1000000 in
set_option maxRecDepth 100000 in
theorem rdone_calls {w : World} {q : Nat} {r : Rk} (h : IsR X w q r) : Calls Try.prog 52 #[.pointer (some ⟨q, 0, none⟩)] w fun e w' => e = .returned (.tuple #[]) ∧ IsR X w' q (rdone r) ∧ Fr (fun k => k = q) w w' := by
  obtain ⟨A, c, ⟨hc0, hc1, hc2⟩, _⟩ := h.cells
  have hf2 := h.frozen 2
  have hw : wrap64 (r.left - 1) = r.left - 1 := by have := h.left0; have := h.left1; unfold wrap64; omega
  have H := Aside0.mk h
  clear h
  by_cases k : 0 < r.left
  · have k1 : decide (0 < r.left) = true := decide_eq_true k
    go_enter Try.func52, Try.ntmps52
    go_wp2
    first | go_end0 | ((try simp only [Exit.inBlock, Exit.then]); refine bodyPost_ret (results_none rfl _ _ _) rfl ?_)
    have h := H.out
    have s := h.set 2 (Or.inr rfl) (r.left - 1) (rdone r) (by unfold rdone; rw [if_pos k]) (by unfold rdone; rw [if_pos k, if_neg (by decide)]) (by unfold rdone; rw [if_pos k]; exact h.room0) (by unfold rdone; rw [if_pos k]; exact h.room1) (by unfold rdone; rw [if_pos k]; simp only; omega) (by unfold rdone; rw [if_pos k]; have := h.left1; simp only; omega)
    exact ⟨rfl, s.1, s.2⟩
  · have k1 : decide (0 < r.left) = false := decide_eq_false k
    go_enter Try.func52, Try.ntmps52
    go_wp2
    first | go_end0 | ((try simp only [Exit.inBlock, Exit.then]); refine bodyPost_ret (results_none rfl _ _ _) rfl ?_)
    refine ⟨rfl, ?_, Fr.refl _ _⟩
    rw [rdone, if_neg (by omega)]
    exact H.out
def rroom (r : Rk) (n : Int) : Rk := { r with room := mx n 0 }
set_option maxHeartbeats 1000000 in
set_option maxRecDepth 100000 in
theorem rRoom_calls {w : World} {q : Nat} {r : Rk} (h : IsR X w q r) (n : Int) (hn : n ≤ 9223372036854775807) : Calls Try.prog 35 #[.pointer (some ⟨q, 0, none⟩), .int .i64 n] w fun e w' => e = .returned (.tuple #[]) ∧ IsR X w' q (rroom r n) ∧ Fr (fun k => k = q) w w' := by
  obtain ⟨A, c, ⟨hc0, hc1, hc2⟩, _⟩ := h.cells
  have hf1 := h.frozen 1
  obtain ⟨m, hm⟩ : ∃ m, mx n 0 = m := ⟨_, rfl⟩
  have hm_ : (if n < 0 then 0 else n) = m := hm
  have h0 : 0 ≤ m := by rw [← hm]; unfold mx; split <;> omega
  have h1 : m ≤ 9223372036854775807 := by rw [← hm]; unfold mx; split <;> omega
  have HM := Aside0.mk hm
  have H := Aside0.mk h
  have H0 := Aside0.mk h0
  have H1 := Aside0.mk h1
  clear h hm h0 h1 hn
  go_enter Try.func35, Try.ntmps35
  go_wp2
  first | go_end0 | ((try simp only [Exit.inBlock, Exit.then]); refine bodyPost_ret (results_none rfl _ _ _) rfl ?_)
  have h := H.out
  have s := h.set 1 (Or.inl rfl) m (rroom r n) rfl (by rw [if_pos rfl, rroom, HM.out]) (by simpa [rroom, HM.out] using H0.out) (by simpa [rroom, HM.out] using H1.out) h.left0 h.left1
  exact ⟨rfl, s.1, s.2⟩
def rcut (r : Rk) (n : Int) : Rk := if r.left = 0 then r else { r with left := mx n (-1) }
set_option maxHeartbeats 1000000 in
set_option maxRecDepth 100000 in
theorem rCut_calls {w : World} {q : Nat} {r : Rk} (h : IsR X w q r) (n : Int) (hn : n ≤ 9223372036854775807) : Calls Try.prog 36 #[.pointer (some ⟨q, 0, none⟩), .int .i64 n] w fun e w' => e = .returned (.tuple #[]) ∧ IsR X w' q (rcut r n) ∧ Fr (fun k => k = q) w w' := by
  have K1 := rDead_calls h
  obtain ⟨A, c, ⟨hc0, hc1, hc2⟩, _⟩ := h.cells
  have hf2 := h.frozen 2
  obtain ⟨m, hm⟩ : ∃ m, mx n (-1) = m := ⟨_, rfl⟩
  have hm_ : (if n < (-1) then (-1) else n) = m := hm
  have h0 : -1 ≤ m := by rw [← hm]; unfold mx; split <;> omega
  have h1 : m ≤ 9223372036854775807 := by rw [← hm]; unfold mx; split <;> omega
  have HM := Aside0.mk hm
  have H := Aside0.mk h
  have H0 := Aside0.mk h0
  have H1 := Aside0.mk h1
  clear h hm h0 h1 hn
  by_cases k : r.left = 0
  · rw [decide_eq_true k] at K1
    go_enter Try.func36, Try.ntmps36
    go_wp2_with (go_at_call 47; refine K1.mono ?_; rintro e w1 ⟨rfl, rfl⟩)
    first | go_end0 | ((try simp only [Exit.inBlock, Exit.then]); refine bodyPost_ret (results_none rfl _ _ _) rfl ?_)
    refine ⟨rfl, ?_, Fr.refl _ _⟩
    rw [rcut, if_pos k]
    exact H.out
  · rw [decide_eq_false k] at K1
    go_enter Try.func36, Try.ntmps36
    go_wp2_with (go_at_call 47; refine K1.mono ?_; rintro e w1 ⟨rfl, rfl⟩)
    first | go_end0 | ((try simp only [Exit.inBlock, Exit.then]); refine bodyPost_ret (results_none rfl _ _ _) rfl ?_)
    have h := H.out
    have s := h.set 2 (Or.inr rfl) m (rcut r n) (by rw [rcut, if_neg k]) (by rw [if_neg (by decide), rcut, if_neg k, HM.out]) (by rw [rcut, if_neg k]; exact h.room0) (by rw [rcut, if_neg k]; exact h.room1) (by rw [rcut, if_neg k]; simpa [HM.out] using H0.out) (by rw [rcut, if_neg k]; simpa [HM.out] using H1.out)
    exact ⟨rfl, s.1, s.2⟩
def rnew (n : Int) : Rk := ⟨[], mx n 0, -1⟩
set_option maxHeartbeats 1000000 in
set_option maxRecDepth 100000 in
theorem rNew_calls (w : World) (n : Int) (hn : n ≤ 9223372036854775807) : Calls Try.prog 26 #[.int .i64 n] w fun e w' => ∃ q, e = .returned (.pointer (some ⟨q, 0, none⟩)) ∧ IsR X w' q (rnew n) ∧ Below w.heap.size w w' ∧ w.heap.size ≤ q := by
  obtain ⟨m, hm⟩ : ∃ m, mx n 0 = m := ⟨_, rfl⟩
  have hm_ : (if n < 0 then 0 else n) = m := hm
  have h0 : 0 ≤ m := by rw [← hm]; unfold mx; split <;> omega
  have h1 : m ≤ 9223372036854775807 := by rw [← hm]; unfold mx; split <;> omega
  have HM := Aside0.mk hm
  have H0 := Aside0.mk h0
  have H1 := Aside0.mk h1
  clear hm h0 h1 hn
  go_enter Try.func26, Try.ntmps26
  go_wp2
  go_ret
  refine ⟨w.heap.size, rfl, ⟨⟨.slice none 0 0, [], ?_, World.ownsRow_nil _ _ _ _, .nil, fun a n c e => by cases e⟩, Nat.zero_le _, ?_, ?_, by show (-1 : Int) ≤ -1; omega, by show (-1 : Int) ≤ _; omega⟩, (Below.refl _ w).alloc (Nat.le_refl _) _, Nat.le_refl _⟩
  · have e : (rnew n).room = m := HM.out
    rw [e]
    exact heap_alloc_new w _
  · show 0 ≤ mx n 0; rw [HM.out]; exact H0.out
  · show mx n 0 ≤ _; rw [HM.out]; exact H1.out
end Go.Proofs.Ytihbgdobicokpaa.D
namespace Go.Proofs.Ytihbgdobicokpaa.D
open Go.RowKit Go.Maps Go.Proofs.Ytihbgdobicokpaa.X Go.Proofs.YtihbgdobicokpaaW.PrintWords Go.Proofs.YtihbgdobicokpaaW.PrintLast Go.Proofs.YtihbgdobicokpaaW.PrintMore
attribute [local go_sem] max2_int min2_int max_two min_two max_three min_three max_four min_four   -- for this text's walks alone
set_option linter.unusedVariables false
set_option linter.unusedSimpArgs false
variable {X : Nat → Prop}
theorem less_before : ∀ a b : List UInt8, Op.bytesLess a b = bytesBefore a b
  | [], [] => rfl
  | [], _ :: _ => rfl
  | _ :: _, [] => rfl
  | x :: r, y :: s => by
    have ih := less_before r s
    unfold Op.bytesLess bytesBefore
    rw [ih]
theorem wrap_add {a b : Nat} (h : a + b ≤ 9000000000000000000) : wrap64 ((a : Int) + (b : Int)) = ((a + b : Nat) : Int) := by unfold wrap64; omega
theorem meas {n j g : Nat} (h : j < n) (k : n - j ≤ g) : n - (j + 1) < g := by omega
theorem wrap_succ {i n : Nat} (h : i < n) (hn : n ≤ 9000000000000000000) : wrap64 ((i : Int) + 1) = ((i + 1 : Nat) : Int) := by unfold wrap64; omega
def posF (n : Nm) : List Fl → Nat
  | [] => 0
  | f :: r => if bytesBefore f.n n then posF n r + 1 else 0
def hasF (n : Nm) (fs : List Fl) : Bool := match fs[posF n fs]? with | some f => f.n == n | none => false
theorem posF_le (n : Nm) : ∀ fs : List Fl, posF n fs ≤ fs.length
  | [] => Nat.le_refl _
  | f :: r => by unfold posF; have := posF_le n r; split <;> simp <;> omega
theorem posF_step (n : Nm) : ∀ (fs : List Fl) (i : Nat) (f : Fl), fs[i]? = some f → i ≤ posF n fs → (bytesBefore f.n n = true → i + 1 ≤ posF n fs) ∧ (bytesBefore f.n n = false → i = posF n fs)
  | [], i, f, h, _ => by simp at h
  | g :: r, 0, f, h, _ => by
    simp at h
    subst h
    unfold posF
    exact ⟨fun e => by rw [if_pos e]; omega, fun e => by rw [if_neg (by rw [e]; decide)]⟩
  | g :: r, i + 1, f, h, hi => by
    unfold posF at hi ⊢
    have h : r[i]? = some f := by simpa using h
    by_cases c : bytesBefore g.n n = true
    · rw [if_pos c] at hi ⊢
      have := posF_step n r i f h (by omega)
      exact ⟨fun e => by have := this.1 e; omega, fun e => by have := this.2 e; omega⟩
    · rw [if_neg c] at hi
      omega
def Drat.T4 : Bool × List (List Nat × List Nat) := (true, [([], []), ([], []), ([], []), ([2], [2]), ([3], [3]), ([4], [4]), ([5], [5]), ([1, 6], [1, 6]), ([7], [7]), ([8], [8]), ([9, 8], [8, 9]), ([10, 8], [8, 10]), ([11, 8], [8, 11]), ([8], [8]), ([12, 13, 8], [8, 12, 13]), ([14, 8], [8, 14]), ([15, 8], [8, 15]), ([8], [8]), ([16, 17, 8], [8, 16, 17]), ([8, 18], [8, 18]), ([0, 8, 0], [0]), ([19, 20, 0, 1, 2, 3, 4, 5, 6, 7, 8, 9, 10, 11, 12, 13, 14, 15, 16, 17, 18, 19, 20], [19])])
def Drat.B4 : List Nat := [0, 0, 0, 4, 12, 28, 60, 126, 254, 510, 1022, 2046, 4094, 510, 16382, 32766, 65534, 510, 262142, 524286, 511, 2097151]
theorem Drat.tab4 : rtab .any (opsOf Try.f49 4) = Drat.T4 := by kernel_rfl
theorem Drat.bits4 : waitsOk Drat.T4.2 Drat.B4 = true := by kernel_rfl
set_option maxHeartbeats 4000000 in
set_option maxRecDepth 100000 in
theorem rat_calls {w : World} {q : Nat} {r : Rk} (h : IsR X w q r) (nm : ByteArray) : Calls Try.prog 49 #[.pointer (some ⟨q, 0, none⟩), .string nm] w fun e w' => e = .returned (.tuple #[.int .i64 (posF nm.data.toList r.fs : Nat), .bool (hasF nm.data.toList r.fs)]) ∧ Below w.heap.size w w' := by
  obtain ⟨A, c, ⟨hc0, hc1, hc2⟩, hcc, _, hcell⟩ := h.cells
  have hn6 := h.small
  have HC0 := Aside0.mk (show ∀ w', Below w.heap.size w w' → w'.cell? ⟨q, 0, none⟩ = some (.slice A r.fs.length c) from fun w' hb => (hb.cell (World.block_lt_of_cell? w _ hc0)).trans hc0)
  have HCELL := Aside0.mk hcell
  have HN6 := Aside0.mk hn6
  clear h hcell hcc hc1 hc2 hn6
  go_enter Try.func49, Try.ntmps49
  go_wp2_with fail
  go_loopg [6] (r.fs.length) (fun kx s6 wr => ∃ i : Nat, s6 = .int .i64 (i : Int) ∧ r.fs.length - i ≤ kx ∧ Aside0 (i ≤ posF nm.data.toList r.fs) ∧ wr = w)
  case atStart => exact ⟨0, rfl, by omega, ⟨Nat.zero_le _⟩, rfl⟩
  case round =>
    obtain ⟨i, rfl, hk, HI, rfl⟩ := hrel
    have hile : i ≤ r.fs.length := Nat.le_trans HI.out (posF_le _ _)
    by_cases hgo : i < r.fs.length
    · have hlz : (i : Int) < (r.fs.length : Int) := by omega
      obtain ⟨f, hf⟩ : ∃ f, r.fs[i]? = some f := ⟨_, List.getElem?_eq_getElem hgo⟩
      obtain ⟨ad, sl, e1, g0, g1, g2, _⟩ := HCELL.out i f hf
      cases e1
      have hwi := wrap_succ hgo (by have := HN6.out; omega)
      have HST := Aside0.mk (posF_step nm.data.toList r.fs i f hf HI.out)
      have hbl : Op.bytesLess f.n nm.toList = bytesBefore f.n nm.data.toList := by rw [less_before, ByteArray.toList_eq]
      cases hb : bytesBefore f.n nm.data.toList with
      | true =>
        rw [hb] at hbl
        go_wp2_with fail
        go_roundg (r.fs.length - (i + 1))
        case measure => exact meas hgo hk
        case rel => exact ⟨i + 1, by first | rfl | rw [hwi], Nat.le_refl _, ⟨HST.out.1 hb⟩, rfl⟩
      | false =>
        rw [hb] at hbl
        obtain ⟨bv, HBV⟩ : ∃ b : Bool, Aside0 ((f.n == nm.toList) = b) := ⟨_, ⟨rfl⟩⟩
        have hbv := HBV.out
        go_wp2_with fail
        refine start_ (n := 22) (S := fun w' => w'.cell? ⟨q, 0, none⟩ = some (.slice (some ad) r.fs.length c) ∧ w'.cell? (ad.add (i * 3)) = some (.string ⟨f.n.toArray⟩)) (ds := []) #[false, false, false, false, false, false, false, false, false, false, false, false, false, false, false, false, false, false, false, false, false, false] (by kernel_rfl) rfl rfl ⟨hc0, g0⟩ (fun hHeld => ?_); refine with_tabW Drat.tab4 Drat.bits4 (fun HT_ HW_ => ?_)
        refine pure_ (i := 0) (N := some 28) (v := ?_) (a' := ?_) #[true, false, false, false, false, false, false, false, false, false, false, false, false, false, false, false, false, false, false, false, false, false] rfl rfl (any_of HT_.out (by kernel_rfl)) (fun _ _ _ h => h) (Or.inl ⟨by rfl, ?_⟩) ?_ ?_
        rotate_left
        · intro w'
          go_simp
          with_reducible rfl
        rotate_left
        · simp only [Act.put, List.setIfInBounds_toArray, List.set_cons_zero, List.set_cons_succ, i64_w, i32_w]
          rfl
        refine pure_ (i := 1) (N := some 29) (v := ?_) (a' := ?_) #[true, true, false, false, false, false, false, false, false, false, false, false, false, false, false, false, false, false, false, false, false, false] rfl rfl (any_of HT_.out (by kernel_rfl)) (fun _ _ _ h => h) (Or.inl ⟨by rfl, ?_⟩) ?_ ?_
        rotate_left
        · intro w'
          go_simp
          with_reducible rfl
        rotate_left
        · simp only [Act.put, List.setIfInBounds_toArray, List.set_cons_zero, List.set_cons_succ, i64_w, i32_w]
          rfl
        refine pure_ (i := 2) (N := some 30) (v := ?_) (a' := ?_) #[true, true, true, false, false, false, false, false, false, false, false, false, false, false, false, false, false, false, false, false, false, false] rfl rfl (any_of HT_.out (by kernel_rfl)) (fun _ _ _ h => h) (Or.inl ⟨by rfl, ?_⟩) ?_ ?_
        rotate_left
        · intro w'
          go_simp
          with_reducible rfl
        rotate_left
        · simp only [Act.put, List.setIfInBounds_toArray, List.set_cons_zero, List.set_cons_succ, i64_w, i32_w]
          rfl
        refine pure_ (i := 3) (N := some 31) (v := ?_) (a' := ?_) #[true, true, true, true, false, false, false, false, false, false, false, false, false, false, false, false, false, false, false, false, false, false] rfl rfl (any_of HT_.out (by kernel_rfl)) (fun _ _ _ h => h) (Or.inl ⟨by rfl, ?_⟩) ?_ ?_
        rotate_left
        · intro w'
          go_simp
          with_reducible rfl
        rotate_left
        · simp only [Act.put, List.setIfInBounds_toArray, List.set_cons_zero, List.set_cons_succ, i64_w, i32_w]
          rfl
        refine pure_ (i := 4) (N := some 32) (v := ?_) (a' := ?_) #[true, true, true, true, true, false, false, false, false, false, false, false, false, false, false, false, false, false, false, false, false, false] rfl rfl (any_of HT_.out (by kernel_rfl)) (fun _ _ _ h => h) (Or.inl ⟨by rfl, ?_⟩) ?_ ?_
        rotate_left
        · intro w'
          go_simp
          with_reducible rfl
        rotate_left
        · simp only [Act.put, List.setIfInBounds_toArray, List.set_cons_zero, List.set_cons_succ, i64_w, i32_w]
          rfl
        refine take_ (i := 5) (N := some 33) (v := ?_) (a' := ?_) #[true, true, true, true, true, true, false, false, false, false, false, false, false, false, false, false, false, false, false, false, false, false] rfl rfl (take_ofW HT_.out HW_.out (by kernel_rfl)) (fun _ _ _ h => h) (Or.inl ⟨by rfl, ?_⟩) hHeld ?_ ?_
        rotate_left
        · rintro w' ⟨s0, s1⟩
          go_simp
          with_reducible rfl
        rotate_left
        · simp only [Act.put, List.setIfInBounds_toArray, List.set_cons_zero, List.set_cons_succ, i64_w, i32_w]
          rfl
        refine pure_ (i := 6) (N := some 34) (v := ?_) (a' := ?_) #[true, true, true, true, true, true, true, false, false, false, false, false, false, false, false, false, false, false, false, false, false, false] rfl rfl (any_of HT_.out (by kernel_rfl)) (fun _ _ _ h => h) (Or.inl ⟨by rfl, ?_⟩) ?_ ?_
        rotate_left
        · intro w'
          go_simp
          with_reducible rfl
        rotate_left
        · simp only [Act.put, List.setIfInBounds_toArray, List.set_cons_zero, List.set_cons_succ, i64_w, i32_w]
          rfl
        refine pure_ (i := 7) (N := some 35) (v := ?_) (a' := ?_) #[true, true, true, true, true, true, true, true, false, false, false, false, false, false, false, false, false, false, false, false, false, false] rfl rfl (any_of HT_.out (by kernel_rfl)) (fun _ _ _ h => h) (Or.inl ⟨by rfl, ?_⟩) ?_ ?_
        rotate_left
        · intro w'
          go_simp
          with_reducible rfl
        rotate_left
        · simp only [Act.put, List.setIfInBounds_toArray, List.set_cons_zero, List.set_cons_succ, i64_w, i32_w]
          rfl
        refine pure_ (i := 8) (N := some 36) (v := ?_) (a' := ?_) #[true, true, true, true, true, true, true, true, true, false, false, false, false, false, false, false, false, false, false, false, false, false] rfl rfl (any_of HT_.out (by kernel_rfl)) (fun _ _ _ h => h) (Or.inl ⟨by rfl, ?_⟩) ?_ ?_
        rotate_left
        · intro w'
          go_simp
          with_reducible rfl
        rotate_left
        · simp only [Act.put, List.setIfInBounds_toArray, List.set_cons_zero, List.set_cons_succ, i64_w, i32_w]
          rfl
        refine pure_ (i := 9) (N := some 37) (v := ?_) (a' := ?_) #[true, true, true, true, true, true, true, true, true, true, false, false, false, false, false, false, false, false, false, false, false, false] rfl rfl (any_of HT_.out (by kernel_rfl)) (fun _ _ _ h => h) (Or.inl ⟨by rfl, ?_⟩) ?_ ?_
        rotate_left
        · intro w'
          go_simp
          with_reducible rfl
        rotate_left
        · simp only [Act.put, List.setIfInBounds_toArray, List.set_cons_zero, List.set_cons_succ, i64_w, i32_w]
          rfl
        refine pure_ (i := 10) (N := some 38) (v := ?_) (a' := ?_) #[true, true, true, true, true, true, true, true, true, true, true, false, false, false, false, false, false, false, false, false, false, false] rfl rfl (any_of HT_.out (by kernel_rfl)) (fun _ _ _ h => h) (Or.inl ⟨by rfl, ?_⟩) ?_ ?_
        rotate_left
        · intro w'
          go_simp
          with_reducible rfl
        rotate_left
        · simp only [Act.put, List.setIfInBounds_toArray, List.set_cons_zero, List.set_cons_succ, i64_w, i32_w]
          rfl
        refine pure_ (i := 11) (N := some 39) (v := ?_) (a' := ?_) #[true, true, true, true, true, true, true, true, true, true, true, true, false, false, false, false, false, false, false, false, false, false] rfl rfl (any_of HT_.out (by kernel_rfl)) (fun _ _ _ h => h) (Or.inl ⟨by rfl, ?_⟩) ?_ ?_
        rotate_left
        · intro w'
          go_simp
          with_reducible rfl
        rotate_left
        · simp only [Act.put, List.setIfInBounds_toArray, List.set_cons_zero, List.set_cons_succ, i64_w, i32_w]
          rfl
        refine take_ (i := 12) (N := some 40) (v := ?_) (a' := ?_) #[true, true, true, true, true, true, true, true, true, true, true, true, true, false, false, false, false, false, false, false, false, false] rfl rfl (take_ofW HT_.out HW_.out (by kernel_rfl)) (fun _ _ _ h => h) (Or.inl ⟨by rfl, ?_⟩) hHeld ?_ ?_
        rotate_left
        · rintro w' ⟨s0, s1⟩
          go_simp
          with_reducible rfl
        rotate_left
        · simp only [Act.put, List.setIfInBounds_toArray, List.set_cons_zero, List.set_cons_succ, i64_w, i32_w]
          rfl
        refine pure_ (i := 13) (N := some 41) (v := ?_) (a' := ?_) #[true, true, true, true, true, true, true, true, true, true, true, true, true, true, false, false, false, false, false, false, false, false] rfl rfl (any_of HT_.out (by kernel_rfl)) (fun _ _ _ h => h) (Or.inl ⟨by rfl, ?_⟩) ?_ ?_
        rotate_left
        · intro w'
          go_simp
          with_reducible rfl
        rotate_left
        · simp only [Act.put, List.setIfInBounds_toArray, List.set_cons_zero, List.set_cons_succ, i64_w, i32_w]
          rfl
        refine pure_ (i := 14) (N := some 42) (v := ?_) (a' := ?_) #[true, true, true, true, true, true, true, true, true, true, true, true, true, true, true, false, false, false, false, false, false, false] rfl rfl (any_of HT_.out (by kernel_rfl)) (fun _ _ _ h => h) (Or.inl ⟨by rfl, ?_⟩) ?_ ?_
        rotate_left
        · intro w'
          go_simp
          with_reducible rfl
        rotate_left
        · simp only [Act.put, List.setIfInBounds_toArray, List.set_cons_zero, List.set_cons_succ, i64_w, i32_w]
          rfl
        refine pure_ (i := 15) (N := some 43) (v := ?_) (a' := ?_) #[true, true, true, true, true, true, true, true, true, true, true, true, true, true, true, true, false, false, false, false, false, false] rfl rfl (any_of HT_.out (by kernel_rfl)) (fun _ _ _ h => h) (Or.inl ⟨by rfl, ?_⟩) ?_ ?_
        rotate_left
        · intro w'
          go_simp
          with_reducible rfl
        rotate_left
        · simp only [Act.put, List.setIfInBounds_toArray, List.set_cons_zero, List.set_cons_succ, i64_w, i32_w]
          rfl
        refine take_ (i := 16) (N := some 44) (v := ?_) (a' := ?_) #[true, true, true, true, true, true, true, true, true, true, true, true, true, true, true, true, true, false, false, false, false, false] rfl rfl (take_ofW HT_.out HW_.out (by kernel_rfl)) (fun _ _ _ h => h) (Or.inl ⟨by rfl, ?_⟩) hHeld ?_ ?_
        rotate_left
        · rintro w' ⟨s0, s1⟩
          go_simp
          with_reducible rfl
        rotate_left
        · simp only [Act.put, List.setIfInBounds_toArray, List.set_cons_zero, List.set_cons_succ, i64_w, i32_w]
          rfl
        refine pure_ (i := 17) (N := some 45) (v := ?_) (a' := ?_) #[true, true, true, true, true, true, true, true, true, true, true, true, true, true, true, true, true, true, false, false, false, false] rfl rfl (any_of HT_.out (by kernel_rfl)) (fun _ _ _ h => h) (Or.inl ⟨by rfl, ?_⟩) ?_ ?_
        rotate_left
        · intro w'
          go_simp
          with_reducible rfl
        rotate_left
        · simp only [Act.put, List.setIfInBounds_toArray, List.set_cons_zero, List.set_cons_succ, i64_w, i32_w]
          rfl
        refine pure_ (i := 18) (N := some 46) (v := ?_) (a' := ?_) #[true, true, true, true, true, true, true, true, true, true, true, true, true, true, true, true, true, true, true, false, false, false] rfl rfl (any_of HT_.out (by kernel_rfl)) (fun _ _ _ h => h) (Or.inl ⟨by rfl, ?_⟩) ?_ ?_
        rotate_left
        · intro w'
          go_simp
          with_reducible rfl
        rotate_left
        · simp only [Act.put, List.setIfInBounds_toArray, List.set_cons_zero, List.set_cons_succ, i64_w, i32_w]
          rfl
        refine pure_ (i := 19) (N := some 47) (v := ?_) (a' := ?_) #[true, true, true, true, true, true, true, true, true, true, true, true, true, true, true, true, true, true, true, true, false, false] rfl rfl (any_of HT_.out (by kernel_rfl)) (fun _ _ _ h => h) (Or.inl ⟨by rfl, ?_⟩) ?_ ?_
        rotate_left
        · intro w'
          go_simp
          with_reducible rfl
        rotate_left
        · simp only [Act.put, List.setIfInBounds_toArray, List.set_cons_zero, List.set_cons_succ, i64_w, i32_w]
          rfl
        refine pure_ (i := 20) (N := some 4) (v := ?_) (a' := ?_) #[true, true, true, true, true, true, true, true, true, true, true, true, true, true, true, true, true, true, true, true, true, false] rfl rfl (any_of HT_.out (by kernel_rfl)) (fun _ _ _ h => h) (Or.inl ⟨by rfl, ?_⟩) ?_ ?_
        rotate_left
        · intro w'
          go_simp
          with_reducible rfl
        rotate_left
        · simp only [Act.put, List.setIfInBounds_toArray, List.set_cons_zero, List.set_cons_succ, i64_w, i32_w]
          rfl
        refine pure_ (i := 21) (N := some 5) (v := ?_) (a' := ?_) #[true, true, true, true, true, true, true, true, true, true, true, true, true, true, true, true, true, true, true, true, true, true] rfl rfl (any_of HT_.out (by kernel_rfl)) (fun _ _ _ h => h) (Or.inl ⟨by rfl, ?_⟩) ?_ ?_
        rotate_left
        · intro w'
          go_simp
          with_reducible rfl
        rotate_left
        · simp only [Act.put, List.setIfInBounds_toArray, List.set_cons_zero, List.set_cons_succ, i64_w, i32_w]
          rfl
        refine done_ (done_of HT_.out (by kernel_rfl)) ?_
        clear hHeld
        go_wp2_with fail
        go_ret2
        refine ⟨?_, (Below.refl _ _).drew⟩
        have e := HST.out.2 hb
        rw [← e]
        have e2 : hasF nm.data.toList r.fs = bv := by
          unfold hasF
          rw [← e, hf]
          simp only
          rw [← HBV.out, ByteArray.toList_eq]
        rw [e2]
        rfl
    · have hlz : ¬ (i : Int) < (r.fs.length : Int) := by omega
      have HIE := Aside0.mk (show i = r.fs.length from by omega)
      go_wp2_with fail
      refine start_ (n := 22) (S := fun w' => w'.cell? ⟨q, 0, none⟩ = some (.slice A r.fs.length c)) (ds := []) #[false, false, false, false, false, false, false, false, false, false, false, false, false, false, false, false, false, false, false, false, false, false] (by kernel_rfl) rfl rfl hc0 (fun hHeld => ?_); refine with_tabW Drat.tab4 Drat.bits4 (fun HT_ HW_ => ?_)
      refine pure_ (i := 0) (N := some 28) (v := ?_) (a' := ?_) #[true, false, false, false, false, false, false, false, false, false, false, false, false, false, false, false, false, false, false, false, false, false] rfl rfl (any_of HT_.out (by kernel_rfl)) (fun _ _ _ h => h) (Or.inl ⟨by rfl, ?_⟩) ?_ ?_
      rotate_left
      · intro w'
        go_simp
        with_reducible rfl
      rotate_left
      · simp only [Act.put, List.setIfInBounds_toArray, List.set_cons_zero, List.set_cons_succ, i64_w, i32_w]
        rfl
      refine pure_ (i := 1) (N := some 29) (v := ?_) (a' := ?_) #[true, true, false, false, false, false, false, false, false, false, false, false, false, false, false, false, false, false, false, false, false, false] rfl rfl (any_of HT_.out (by kernel_rfl)) (fun _ _ _ h => h) (Or.inl ⟨by rfl, ?_⟩) ?_ ?_
      rotate_left
      · intro w'
        go_simp
        with_reducible rfl
      rotate_left
      · simp only [Act.put, List.setIfInBounds_toArray, List.set_cons_zero, List.set_cons_succ, i64_w, i32_w]
        rfl
      refine pure_ (i := 2) (N := some 30) (v := ?_) (a' := ?_) #[true, true, true, false, false, false, false, false, false, false, false, false, false, false, false, false, false, false, false, false, false, false] rfl rfl (any_of HT_.out (by kernel_rfl)) (fun _ _ _ h => h) (Or.inl ⟨by rfl, ?_⟩) ?_ ?_
      rotate_left
      · intro w'
        go_simp
        with_reducible rfl
      rotate_left
      · simp only [Act.put, List.setIfInBounds_toArray, List.set_cons_zero, List.set_cons_succ, i64_w, i32_w]
        rfl
      refine pure_ (i := 3) (N := some 31) (v := ?_) (a' := ?_) #[true, true, true, true, false, false, false, false, false, false, false, false, false, false, false, false, false, false, false, false, false, false] rfl rfl (any_of HT_.out (by kernel_rfl)) (fun _ _ _ h => h) (Or.inl ⟨by rfl, ?_⟩) ?_ ?_
      rotate_left
      · intro w'
        go_simp
        with_reducible rfl
      rotate_left
      · simp only [Act.put, List.setIfInBounds_toArray, List.set_cons_zero, List.set_cons_succ, i64_w, i32_w]
        rfl
      refine pure_ (i := 4) (N := some 32) (v := ?_) (a' := ?_) #[true, true, true, true, true, false, false, false, false, false, false, false, false, false, false, false, false, false, false, false, false, false] rfl rfl (any_of HT_.out (by kernel_rfl)) (fun _ _ _ h => h) (Or.inl ⟨by rfl, ?_⟩) ?_ ?_
      rotate_left
      · intro w'
        go_simp
        with_reducible rfl
      rotate_left
      · simp only [Act.put, List.setIfInBounds_toArray, List.set_cons_zero, List.set_cons_succ, i64_w, i32_w]
        rfl
      refine take_ (i := 5) (N := some 33) (v := ?_) (a' := ?_) #[true, true, true, true, true, true, false, false, false, false, false, false, false, false, false, false, false, false, false, false, false, false] rfl rfl (take_ofW HT_.out HW_.out (by kernel_rfl)) (fun _ _ _ h => h) (Or.inl ⟨by rfl, ?_⟩) hHeld ?_ ?_
      rotate_left
      · rintro w' s0
        go_simp
        with_reducible rfl
      rotate_left
      · simp only [Act.put, List.setIfInBounds_toArray, List.set_cons_zero, List.set_cons_succ, i64_w, i32_w]
        rfl
      refine pure_ (i := 6) (N := some 34) (v := ?_) (a' := ?_) #[true, true, true, true, true, true, true, false, false, false, false, false, false, false, false, false, false, false, false, false, false, false] rfl rfl (any_of HT_.out (by kernel_rfl)) (fun _ _ _ h => h) (Or.inl ⟨by rfl, ?_⟩) ?_ ?_
      rotate_left
      · intro w'
        go_simp
        with_reducible rfl
      rotate_left
      · simp only [Act.put, List.setIfInBounds_toArray, List.set_cons_zero, List.set_cons_succ, i64_w, i32_w]
        rfl
      refine pure_ (i := 7) (N := some 35) (v := ?_) (a' := ?_) #[true, true, true, true, true, true, true, true, false, false, false, false, false, false, false, false, false, false, false, false, false, false] rfl rfl (any_of HT_.out (by kernel_rfl)) (fun _ _ _ h => h) (Or.inl ⟨by rfl, ?_⟩) ?_ ?_
      rotate_left
      · intro w'
        go_simp
        with_reducible rfl
      rotate_left
      · simp only [Act.put, List.setIfInBounds_toArray, List.set_cons_zero, List.set_cons_succ, i64_w, i32_w]
        rfl
      refine pure_ (i := 8) (N := some 36) (v := ?_) (a' := ?_) #[true, true, true, true, true, true, true, true, true, false, false, false, false, false, false, false, false, false, false, false, false, false] rfl rfl (any_of HT_.out (by kernel_rfl)) (fun _ _ _ h => h) (Or.inl ⟨by rfl, ?_⟩) ?_ ?_
      rotate_left
      · intro w'
        go_simp
        with_reducible rfl
      rotate_left
      · simp only [Act.put, List.setIfInBounds_toArray, List.set_cons_zero, List.set_cons_succ, i64_w, i32_w]
        rfl
      refine take_ (i := 9) (N := some 37) (v := undef) (a' := ?_) #[true, true, true, true, true, true, true, true, true, true, false, false, false, false, false, false, false, false, false, false, false, false] rfl rfl (take_ofW HT_.out HW_.out (by kernel_rfl)) (fun _ _ _ h => h) (Or.inr ⟨by rfl, rfl⟩) hHeld ?_ ?_
      rotate_left
      · simp only [Act.put, List.setIfInBounds_toArray, List.set_cons_zero, List.set_cons_succ, i64_w, i32_w]
        rfl
      refine take_ (i := 10) (N := some 38) (v := undef) (a' := ?_) #[true, true, true, true, true, true, true, true, true, true, true, false, false, false, false, false, false, false, false, false, false, false] rfl rfl (take_ofW HT_.out HW_.out (by kernel_rfl)) (fun _ _ _ h => h) (Or.inr ⟨by rfl, rfl⟩) hHeld ?_ ?_
      rotate_left
      · simp only [Act.put, List.setIfInBounds_toArray, List.set_cons_zero, List.set_cons_succ, i64_w, i32_w]
        rfl
      refine take_ (i := 11) (N := some 39) (v := undef) (a' := ?_) #[true, true, true, true, true, true, true, true, true, true, true, true, false, false, false, false, false, false, false, false, false, false] rfl rfl (take_ofW HT_.out HW_.out (by kernel_rfl)) (fun _ _ _ h => h) (Or.inr ⟨by rfl, rfl⟩) hHeld ?_ ?_
      rotate_left
      · simp only [Act.put, List.setIfInBounds_toArray, List.set_cons_zero, List.set_cons_succ, i64_w, i32_w]
        rfl
      refine take_ (i := 12) (N := some 40) (v := undef) (a' := ?_) #[true, true, true, true, true, true, true, true, true, true, true, true, true, false, false, false, false, false, false, false, false, false] rfl rfl (take_ofW HT_.out HW_.out (by kernel_rfl)) (fun _ _ _ h => h) (Or.inr ⟨by rfl, rfl⟩) hHeld ?_ ?_
      rotate_left
      · simp only [Act.put, List.setIfInBounds_toArray, List.set_cons_zero, List.set_cons_succ, i64_w, i32_w]
        rfl
      refine take_ (i := 13) (N := some 41) (v := undef) (a' := ?_) #[true, true, true, true, true, true, true, true, true, true, true, true, true, true, false, false, false, false, false, false, false, false] rfl rfl (take_ofW HT_.out HW_.out (by kernel_rfl)) (fun _ _ _ h => h) (Or.inr ⟨by rfl, rfl⟩) hHeld ?_ ?_
      rotate_left
      · simp only [Act.put, List.setIfInBounds_toArray, List.set_cons_zero, List.set_cons_succ, i64_w, i32_w]
        rfl
      refine take_ (i := 14) (N := some 42) (v := undef) (a' := ?_) #[true, true, true, true, true, true, true, true, true, true, true, true, true, true, true, false, false, false, false, false, false, false] rfl rfl (take_ofW HT_.out HW_.out (by kernel_rfl)) (fun _ _ _ h => h) (Or.inr ⟨by rfl, rfl⟩) hHeld ?_ ?_
      rotate_left
      · simp only [Act.put, List.setIfInBounds_toArray, List.set_cons_zero, List.set_cons_succ, i64_w, i32_w]
        rfl
      refine take_ (i := 15) (N := some 43) (v := undef) (a' := ?_) #[true, true, true, true, true, true, true, true, true, true, true, true, true, true, true, true, false, false, false, false, false, false] rfl rfl (take_ofW HT_.out HW_.out (by kernel_rfl)) (fun _ _ _ h => h) (Or.inr ⟨by rfl, rfl⟩) hHeld ?_ ?_
      rotate_left
      · simp only [Act.put, List.setIfInBounds_toArray, List.set_cons_zero, List.set_cons_succ, i64_w, i32_w]
        rfl
      refine take_ (i := 16) (N := some 44) (v := undef) (a' := ?_) #[true, true, true, true, true, true, true, true, true, true, true, true, true, true, true, true, true, false, false, false, false, false] rfl rfl (take_ofW HT_.out HW_.out (by kernel_rfl)) (fun _ _ _ h => h) (Or.inr ⟨by rfl, rfl⟩) hHeld ?_ ?_
      rotate_left
      · simp only [Act.put, List.setIfInBounds_toArray, List.set_cons_zero, List.set_cons_succ, i64_w, i32_w]
        rfl
      refine take_ (i := 17) (N := some 45) (v := undef) (a' := ?_) #[true, true, true, true, true, true, true, true, true, true, true, true, true, true, true, true, true, true, false, false, false, false] rfl rfl (take_ofW HT_.out HW_.out (by kernel_rfl)) (fun _ _ _ h => h) (Or.inr ⟨by rfl, rfl⟩) hHeld ?_ ?_
      rotate_left
      · simp only [Act.put, List.setIfInBounds_toArray, List.set_cons_zero, List.set_cons_succ, i64_w, i32_w]
        rfl
      refine take_ (i := 18) (N := some 46) (v := undef) (a' := ?_) #[true, true, true, true, true, true, true, true, true, true, true, true, true, true, true, true, true, true, true, false, false, false] rfl rfl (take_ofW HT_.out HW_.out (by kernel_rfl)) (fun _ _ _ h => h) (Or.inr ⟨by rfl, rfl⟩) hHeld ?_ ?_
      rotate_left
      · simp only [Act.put, List.setIfInBounds_toArray, List.set_cons_zero, List.set_cons_succ, i64_w, i32_w]
        rfl
      refine pure_ (i := 19) (N := some 47) (v := ?_) (a' := ?_) #[true, true, true, true, true, true, true, true, true, true, true, true, true, true, true, true, true, true, true, true, false, false] rfl rfl (any_of HT_.out (by kernel_rfl)) (fun _ _ _ h => h) (Or.inl ⟨by rfl, ?_⟩) ?_ ?_
      rotate_left
      · intro w'
        go_simp
        with_reducible rfl
      rotate_left
      · simp only [Act.put, List.setIfInBounds_toArray, List.set_cons_zero, List.set_cons_succ, i64_w, i32_w]
        rfl
      refine pure_ (i := 20) (N := some 4) (v := ?_) (a' := ?_) #[true, true, true, true, true, true, true, true, true, true, true, true, true, true, true, true, true, true, true, true, true, false] rfl rfl (any_of HT_.out (by kernel_rfl)) (fun _ _ _ h => h) (Or.inl ⟨by rfl, ?_⟩) ?_ ?_
      rotate_left
      · intro w'
        go_simp
        with_reducible rfl
      rotate_left
      · simp only [Act.put, List.setIfInBounds_toArray, List.set_cons_zero, List.set_cons_succ, i64_w, i32_w]
        rfl
      refine pure_ (i := 21) (N := some 5) (v := ?_) (a' := ?_) #[true, true, true, true, true, true, true, true, true, true, true, true, true, true, true, true, true, true, true, true, true, true] rfl rfl (any_of HT_.out (by kernel_rfl)) (fun _ _ _ h => h) (Or.inl ⟨by rfl, ?_⟩) ?_ ?_
      rotate_left
      · intro w'
        go_simp
        with_reducible rfl
      rotate_left
      · simp only [Act.put, List.setIfInBounds_toArray, List.set_cons_zero, List.set_cons_succ, i64_w, i32_w]
        rfl
      refine done_ (done_of HT_.out (by kernel_rfl)) ?_
      clear hHeld
      go_wp2_with fail
      go_ret2
      refine ⟨?_, (Below.refl _ _).drew⟩
      have e : posF nm.data.toList r.fs = i := by have := HI.out; have := posF_le nm.data.toList r.fs; have := HIE.out; omega
      have e2 : hasF nm.data.toList r.fs = false := by
        unfold hasF
        rw [e, HIE.out]
        simp
      rw [e, e2]
      rfl
set_option maxHeartbeats 4000000 in
set_option maxRecDepth 100000 in
theorem rUsed_calls {w : World} {q : Nat} {r : Rk} (h : IsR X w q r) : Calls Try.prog 50 #[.pointer (some ⟨q, 0, none⟩)] w fun e w' => e = .returned (.int .i64 (total r.fs : Nat)) ∧ w' = w := by
  obtain ⟨A, c, ⟨hc0, hc1, hc2⟩, hcc, _, hcell⟩ := h.cells
  have hn6 := h.small
  have HCELL := Aside0.mk hcell
  have HN6 := Aside0.mk hn6
  clear h hcell hcc hc1 hc2 hn6
  go_enter Try.func50, Try.ntmps50
  go_wp2_with fail
  go_loopg [3, 4] (r.fs.length) (fun kx s3 s4 wr => ∃ i : Nat, s4 = .int .i64 (i : Int) ∧ s3 = .int .i64 (total (r.fs.take i) : Nat) ∧ i ≤ r.fs.length ∧ r.fs.length - i ≤ kx ∧ Aside0 (total (r.fs.take i) ≤ i * 1048576) ∧ wr = w)
  case atStart => exact ⟨0, rfl, by simp [total], Nat.zero_le _, by omega, ⟨by simp [total]⟩, rfl⟩
  case round =>
    obtain ⟨i, rfl, rfl, hi, hk, HI, rfl⟩ := hrel
    by_cases hgo : i < r.fs.length
    · have hlz : (i : Int) < (r.fs.length : Int) := by omega
      have hf : r.fs[i]? = some r.fs[i] := List.getElem?_eq_getElem hgo
      have htk : total (r.fs.take (i + 1)) = total (r.fs.take i) + r.fs[i].b.length := by
        rw [List.take_succ_eq_append_getElem hgo]
        unfold total
        rw [List.map_append, List.sum_append]
        simp
      generalize r.fs[i] = f at hf htk
      obtain ⟨ad, sl, e1, g0, g1, g2, hfc⟩ := HCELL.out i f hf
      cases e1
      obtain ⟨sl', e2, hB, _, _, _, _, hbl⟩ := hfc
      cases e2
      obtain ⟨As, cs, rfl, _⟩ := hB.slice
      have hi3 : total (r.fs.take (i + 1)) ≤ (i + 1) * 1048576 := by have := HI.out; rw [htk]; omega
      have hi4 : total (r.fs.take i) + f.b.length ≤ 9000000000000000000 := by have := HN6.out; rw [htk] at hi3; omega
      have hwt := wrap_add hi4
      rw [← htk] at hwt
      have HI' := Aside0.mk hi3
      clear hi3 hi4
      have hwi := wrap_succ hgo (Nat.le_trans HN6.out (by decide))
      clear hB hbl htk
      go_wp2_with fail
      go_roundg (r.fs.length - (i + 1))
      case measure => exact meas hgo hk
      case rel => exact ⟨i + 1, by first | rfl | rw [hwi], by first | rfl | rw [hwt], hgo, Nat.le_refl _, HI', rfl⟩
    · have hlz : ¬ (i : Int) < (r.fs.length : Int) := by omega
      have HIE := Aside0.mk (show r.fs.take i = r.fs from by rw [List.take_of_length_le (by omega)])
      go_wp2
      go_ret
      rw [HIE.out]
      exact ⟨rfl, rfl⟩
end Go.Proofs.Ytihbgdobicokpaa.D
namespace Go.Proofs.Ytihbgdobicokpaa.D
open Go.RowKit Go.Maps Go.Proofs.Ytihbgdobicokpaa.X Go.Proofs.YtihbgdobicokpaaW.PrintWords Go.Proofs.YtihbgdobicokpaaW.PrintLast Go.Proofs.YtihbgdobicokpaaW.PrintMore
attribute [local go_sem] max2_int min2_int max_two min_two max_three min_three max_four min_four   -- for this text's walks alone
set_option linter.unusedVariables false
set_option linter.unusedSimpArgs false
variable {X : Nat → Prop}
theorem info80 : (Try.prog.info? 80).map (fun i => (i.zero, i.size, i.bytes)) = some (some (.agg #[.string ⟨#[]⟩, .slice none 0 0, .int .i64 0]), 3, 48) := by kernel_rfl
def Src80 (w : World) (v : Value) (m : Nat) (news : List Value) : Prop := (v = .slice none 0 0 ∧ m = 0 ∧ news = []) ∨ ∃ a c, v = .slice (some a) m c ∧ news.length = m * 3 ∧ (∀ j u, news[j]? = some u → w.cell? (a.add j) = some u) ∧ ∀ u ∈ news, u.oneCell' = true
theorem FCs.one_cell {w : World} {fs : List Fl} {cs : List Value} (h : FCs X w fs cs) : ∀ u ∈ cs, u.oneCell' = true := by
  induction h with
  | nil => intro u hu; cases hu
  | cons h _ ih =>
    obtain ⟨sl, rfl, hB, _⟩ := h
    obtain ⟨A, c, rfl, _⟩ := hB.slice
    intro u hu
    simp only [List.cons_append, List.nil_append, List.mem_cons] at hu
    rcases hu with rfl | rfl | rfl | hu
    · rfl
    · rfl
    · rfl
    · exact ih u hu
theorem app80 {w : World} {base : Nat} {v src : Value} {n m : Nat} {xs news : List Value} (ty : TypeId) (ho : w.ownsRow base 80 3 v n xs) (hb : base ≤ w.heap.size) (hs : Src80 w src m news) (hn : n + m ≤ 2000000) :
    ∃ v' w', (Builtin.append_ #[74, 74] ty #[v, src]).run Try.prog w = .ok v' w' ∧ w'.ownsRow base 80 3 v' (n + m) (xs ++ news) ∧ w.grownBy w' v.ownBlock := by
  obtain ⟨i0, hi, hz0, hz1, hz2⟩ := info_parts info80
  rcases hs with ⟨rfl, rfl, rfl⟩ | ⟨a, c, rfl, h1, h2, h3⟩
  · refine ⟨v, w, run_append_owned_none w base 74 ty 80 i0 3 Try.underlying74 hi v n xs ho, ?_, ⟨rfl, rfl, rfl, Nat.le_refl _, fun _ _ _ => rfl⟩⟩
    rw [List.append_nil]
    exact ho
  · obtain ⟨v', w', g1, g2, g3, _⟩ := run_append_own (P := Try.prog) w base 74 ty 80 i0 _ 3 _ Try.underlying74 hi hz0 hz1 hz2 rfl (by decide) v n xs ho a m c news h1 h2 h3 (by unfold maxLen; omega) (by omega) hb
    exact ⟨v', w', g1, g2, g3⟩
theorem src_new (w : World) (a b c : Value) (ha : a.oneCell' = true := by rfl) (hb : b.oneCell' = true := by rfl) (hc : c.oneCell' = true := by rfl) : Src80 (w.alloc (.cells #[a, b, c] 80)) (.slice (some ⟨w.heap.size, 0, none⟩) 1 1) 1 [a, b, c] := by
  refine Or.inr ⟨_, _, rfl, rfl, fun j u hj => ?_, fun u hu => ?_⟩
  · have hadd : ∀ j, ((⟨w.heap.size, 0, none⟩ : Addr).add j) = ⟨w.heap.size, j, none⟩ := fun j => by unfold Addr.add; split <;> simp_all
    rw [hadd]
    exact (blk_cell (heap_alloc_new w _) j).trans (by simpa using hj)
  · simp only [List.mem_cons, List.not_mem_nil, or_false] at hu
    rcases hu with rfl | rfl | rfl <;> assumption
theorem src_grown {w w' : World} {v : Value} {m : Nat} {news : List Value} (h : Src80 w v m news) (hg : w.grownBy w' none) : Src80 w' v m news := by
  rcases h with h | ⟨a, c, h1, h2, h3, h4⟩
  · exact Or.inl h
  · refine Or.inr ⟨a, c, h1, h2, fun j u hj => ?_, h4⟩
    have := h3 j u hj
    exact hg.cell this (by simp)
theorem bapp_ {P : Program} {ops : Array Oper} {Q : Exit → Act → World → Prop} {oi : Oper} {N : Option Tmp} {a : Act} {w w1 : World} {v : Value} {K : Act → World → Prop} {xs : Array Operand} {ts : Array TypeId} (args : Array Value)
    (hop : oi.op = .call { callee := .builtin .append, args := xs, argTypes := ts }) (hargs : xs.map a.eval = args) (hw : Region.wanted oi (yielded ops a.tmps) = true) (hN : oi.dst = N)
    (hrun : (Builtin.append_ ts oi.type args).run P w = .ok v w1) (h : K (a.put N v) w1) : if Region.wanted oi (yielded ops a.tmps) = true then Oper.wp P oi a w K Q else K (a.put N undef) w := by
  refine value_ (v := v) (w1 := w1) hw hN ?_ h
  have e : Array.map (Act.eval a) xs = args := hargs
  unfold execOp
  simp [hop, resolve, invoke, e, builtin, hrun, Result.andThen]
theorem bappL_ {P : Program} {ops : Array Oper} {Q : Exit → Act → World → Prop} {rest : List Oper} {oi : Oper} {a : Act} {w w1 : World} {v : Value} (N : Option Tmp) {xs : Array Operand} {ts : Array TypeId} (args : Array Value) (hd : oi.dst = N)
    (hop : oi.op = .call { callee := .builtin .append, args := xs, argTypes := ts }) (hargs : xs.map a.eval = args) (hg : oi.guard = none)
    (hrun : (Builtin.append_ ts oi.type args).run P w = .ok v w1) (h : wpList P ops Q rest (a.put N v) w1) : wpList P ops Q (oi :: rest) a w := by
  refine wpList_plain hg fun K hK => ?_
  have e : Array.map (Act.eval a) xs = args := hargs
  have hr : (execOp a.eval oi).run P w = .ok (.value v) w1 := by
    unfold execOp
    simp [hop, resolve, invoke, e, builtin, hrun, Result.andThen]
  unfold Oper.wp
  rw [hr]
  subst hd
  exact hK _ _ h
theorem own_sl {w : World} {B n s : Nat} {e : TypeId} {v : Value} {xs : List Value} (h : w.ownsRow B e s v n xs) : ∃ A c, v = .slice A n c := by
  obtain ⟨_, ⟨rfl, rfl⟩ | ⟨g, cap, cur, rfl, _⟩⟩ := h
  · exact ⟨none, 0, rfl⟩
  · exact ⟨_, cap, rfl⟩
theorem own_low {w : World} {B n s : Nat} {e : TypeId} {v : Value} {xs : List Value} (h : w.ownsRow B e s v n xs) : w.ownsRow 0 e s v n xs := own_weaken h (Nat.zero_le _)
theorem slice74t (A : Option Addr) (n c m : Nat) (hm : m ≤ c) (w : World) : (Instr.slice 74 (.slice A n c) none (some (.int .i64 (m : Int))) none).run Try.prog w = .ok (.slice A m c) w := by
  have h1 : (Instr.sliceBounds true n c none (some (.int .i64 (m : Int))) none).run Try.prog w = .ok (0, m, c) w := by
    unfold Instr.sliceBounds
    simp [run_sliceBound, hm, Result.andThen]
  unfold Instr.slice
  simp [run_underlying Try.underlying74, h1, Result.andThen, Try.sizeOf80]
  intro _
  cases A <;> simp [Addr.add]
def slD (A : Option Addr) (n c i : Nat) : Value := .slice (if c = i then A else A.map (·.add (i * 3))) (n - i) (c - i)
theorem slice74d (A : Option Addr) (n c m : Nat) (hm : m ≤ n) (hn : n ≤ c) (w : World) : (Instr.slice 74 (.slice A n c) (some (.int .i64 (m : Int))) none none).run Try.prog w = .ok (slD A n c m) w := by
  have h1 : (Instr.sliceBounds true n c (some (.int .i64 (m : Int))) none none).run Try.prog w = .ok (m, n, c) w := by
    unfold Instr.sliceBounds
    simp [run_sliceBound, hm, hn, Result.andThen]
  unfold Instr.slice slD
  simp [run_underlying Try.underlying74, h1, Result.andThen, Try.sizeOf80]
theorem IsR.src {w : World} {q : Nat} {r : Rk} (h : IsR X w q r) : ∃ A c cs, w.cell? ⟨q, 0, none⟩ = some (.slice A r.fs.length c) ∧ r.fs.length ≤ c ∧ FCs X w r.fs cs ∧ (∀ i, i ≤ r.fs.length → ∀ w', Below w.heap.size w w' → Src80 w' (.slice A i c) i (cs.take (i * 3)) ∧ Src80 w' (slD A r.fs.length c i) (r.fs.length - i) (cs.drop (i * 3))) := by
  obtain ⟨v, cs, h1, h2, h3, _⟩ := h.ex
  have hc0 := (blk_cell h1 0).trans rfl
  have hlen := h3.len
  have hone := h3.one_cell
  obtain ⟨hl, ⟨rfl, h5⟩ | ⟨g, cap, cur, rfl, h5, h6, h7, h8, h9, h10⟩⟩ := h2
  · have hnil : cs = [] := List.eq_nil_of_length_eq_zero (by omega)
    refine ⟨none, 0, cs, by rw [h5]; exact hc0, by omega, h3, fun i hi w' hb => ?_⟩
    have e : i = 0 := by omega
    subst e
    subst hnil
    exact ⟨Or.inl ⟨rfl, rfl, rfl⟩, Or.inl ⟨by simp [slD, h5], by omega, rfl⟩⟩
  · refine ⟨some ⟨g, 0, none⟩, cap, cs, hc0, h7, h3, fun i hi w' hb => ?_⟩
    have hcell : ∀ j u, cs[j]? = some u → w'.cell? ⟨g, j, none⟩ = some u := fun j u hj => by
      have hjl : j < cs.length := (List.getElem?_eq_some_iff.1 hj).1
      rw [← h10, List.getElem?_take, if_pos (by omega)] at hj
      have hg := (hb.block g (lt_of_block h6)).trans h6
      simp only [World.cell?, hg]
      simpa using hj
    have hadd : ∀ k j, ((⟨g, k, none⟩ : Addr).add j) = ⟨g, k + j, none⟩ := fun k j => by unfold Addr.add; split <;> simp_all
    refine ⟨Or.inr ⟨_, _, rfl, by rw [List.length_take]; omega, fun j u hj => ?_, fun u hu => hone u (List.mem_of_mem_take hu)⟩, Or.inr ⟨if cap = i then ⟨g, 0, none⟩ else ⟨g, i * 3, none⟩, cap - i, ?_, by rw [List.length_drop]; omega, fun j u hj => ?_, fun u hu => hone u (List.mem_of_mem_drop hu)⟩⟩
    · rw [hadd, Nat.zero_add]
      rw [List.getElem?_take] at hj
      split at hj
      · exact hcell _ _ hj
      · cases hj
    · unfold slD
      by_cases c : cap = i
      · rw [if_pos c, if_pos c]
      · rw [if_neg c, if_neg c]
        simp [hadd]
    · rw [List.getElem?_drop] at hj
      have hjl := (List.getElem?_eq_some_iff.1 hj).1
      have c : ¬ cap = i := by omega
      rw [if_neg c, hadd]
      exact hcell _ _ hj
def rPut (f : Fl) (fs : List Fl) : List Fl := fs.take (posF f.n fs) ++ [f] ++ fs.drop (if hasF f.n fs = true then posF f.n fs + 1 else posF f.n fs)
def rDrop (n : Nm) (fs : List Fl) : List Fl := if hasF n fs = true then fs.take (posF n fs) ++ fs.drop (posF n fs + 1) else fs
theorem hasF_lt {n : Nm} {fs : List Fl} (h : hasF n fs = true) : posF n fs < fs.length := by
  unfold hasF at h
  cases hc : fs[posF n fs]? with
  | none => rw [hc] at h; cases h
  | some f => exact (List.getElem?_eq_some_iff.1 hc).1
def Drput.T2 : Bool × List (List Nat × List Nat) := (true, [([], []), ([0], [0]), ([1], [1]), ([2], [2]), ([], []), ([3, 4], [3, 4]), ([5], [5]), ([], []), ([7], [7]), ([6, 8, 6], [6, 8]), ([9, 9, 0, 1, 2, 3, 4, 5, 6, 7, 8, 9], [9])])
def Drput.B2 : List Nat := [0, 1, 3, 7, 0, 31, 63, 0, 128, 511, 1023]
theorem Drput.tab2 : rtab .any (opsOf Try.f51 2) = Drput.T2 := by kernel_rfl
theorem Drput.bits2 : waitsOk Drput.T2.2 Drput.B2 = true := by kernel_rfl
set_option maxHeartbeats 4000000 in
set_option maxRecDepth 100000 in
theorem rPut_calls {w : World} {q : Nat} {r : Rk} (h : IsR X w q r) (hX : ∀ k, X k → k < w.heap.size) (hs : r.fs.length < 1000000) {f : Fl} {sl : Value} (hf : FC X w f [.string ⟨f.n.toArray⟩, sl, .int .i64 f.s]) : Calls Try.prog 51 #[.pointer (some ⟨q, 0, none⟩), .agg #[.string ⟨f.n.toArray⟩, sl, .int .i64 f.s]] w fun e w' => e = .returned (.tuple #[]) ∧ IsR X w' q { r with fs := rPut f r.fs } ∧ Fr (fun k => k = q) w w' := by
  have HF := Aside0.mk hf
  have HX := Aside0.mk hX
  clear hX
  have HS := Aside0.mk hs
  have H := Aside0.mk h
  obtain ⟨sl0, esl, hBsl, _⟩ := hf
  injection esl with _ esl
  injection esl with esl _
  subst esl
  obtain ⟨Asl, csl, rfl, _⟩ := hBsl.slice
  clear h hs hBsl
  go_enter Try.func51, Try.ntmps51
  go_wp2_with fail
  have hb0 := (Below.refl w.heap.size w).alloc (Nat.le_refl _) (.cells #[.string ⟨f.n.toArray⟩, .slice Asl f.b.length csl, .int .i64 f.s] 80)
  have H1 := Aside0.mk (H.out.below hb0)
  have HBK := Aside0.mk (heap_alloc_new w (.cells #[.string ⟨f.n.toArray⟩, .slice Asl f.b.length csl, .int .i64 f.s] 80))
  have HB1 := Aside0.mk hb0
  clear hb0
  generalize hw1 : w.alloc (.cells #[.string ⟨f.n.toArray⟩, .slice Asl f.b.length csl, .int .i64 f.s] 80) = w1 at H1 HBK HB1 ⊢
  clear hw1
  refine (rat_calls H1.out ⟨f.n.toArray⟩).mono ?_
  rintro e w2 ⟨rfl, hb2⟩
  have H2 := Aside0.mk (H1.out.below hb2)
  have HB2 := Aside0.mk (HB1.out.trans (hb2.mono HB1.out.size))
  have hbk := (hb2.block w.heap.size (lt_of_block HBK.out)).trans HBK.out
  have HBK2 := Aside0.mk hbk
  obtain ⟨i, hi⟩ : ∃ i, posF f.n r.fs = i := ⟨_, rfl⟩
  obtain ⟨hv, hhv⟩ : ∃ b, hasF f.n r.fs = b := ⟨_, rfl⟩
  have hdat : (⟨f.n.toArray⟩ : ByteArray).data.toList = f.n := rfl
  rw [hdat, hi, hhv]
  have HI := Aside0.mk hi
  have HV := Aside0.mk hhv
  have HIL := Aside0.mk (show i ≤ r.fs.length from by rw [← hi]; exact posF_le _ _)
  obtain ⟨A, c, cs, hc0, hnc, hcs, hsrc⟩ := H2.out.src
  have HCS := Aside0.mk hcs
  have HSRC := Aside0.mk hsrc
  have HNC := Aside0.mk hnc
  have hc0' := hc0
  have HC0 := Aside0.mk (show ∀ w', Below w2.heap.size w2 w' → w'.cell? ⟨q, 0, none⟩ = some (.slice A r.fs.length c) from fun w' hb => (hb.cell (World.block_lt_of_cell? w2 _ hc0')).trans hc0')
  have HKC := Aside0.mk (show ∀ w' j u, Below w2.heap.size w2 w' → (#[Value.string ⟨f.n.toArray⟩, Value.slice Asl f.b.length csl, Value.int .i64 f.s] : Array Value)[j]? = some u → w'.cell? ⟨w.heap.size, j, none⟩ = some u from fun w' j u hb hu => by
    have := (hb.block w.heap.size (lt_of_block hbk)).trans hbk
    exact (blk_cell this j).trans hu)
  have hsl1 := slice74t A r.fs.length c i (Nat.le_trans HIL.out hnc)
  clear hi hhv hcs hsrc hnc hbk HB1 HBK H1 hb2 hdat hc0'
  go_wp2_with fail
  refine start_ (n := 11) (S := fun w' => w'.cell? ⟨q, 0, none⟩ = some (.slice A r.fs.length c) ∧ w'.cell? ⟨w.heap.size, 0, none⟩ = some (.string ⟨f.n.toArray⟩) ∧ w'.cell? ⟨w.heap.size, 1, none⟩ = some (.slice Asl f.b.length csl) ∧ w'.cell? ⟨w.heap.size, 2, none⟩ = some (.int .i64 f.s)) (ds := []) #[false, false, false, false, false, false, false, false, false, false, false] (by kernel_rfl) rfl rfl ⟨HC0.out _ ((Below.refl _ _).drew), HKC.out _ 0 _ ((Below.refl _ _).drew) rfl, HKC.out _ 1 _ ((Below.refl _ _).drew) rfl, HKC.out _ 2 _ ((Below.refl _ _).drew) rfl⟩ (fun hHeld => ?_); refine with_tabW Drput.tab2 Drput.bits2 (fun HT_ HW_ => ?_)
  have HBd := Aside0.mk ((Below.refl w2.heap.size w2).drew)
  generalize World.drew _ = w3 at HBd hHeld ⊢
  refine pure_ (i := 0) (N := some 14) (v := ?_) (a' := ?_) #[true, false, false, false, false, false, false, false, false, false, false] rfl rfl (any_of HT_.out (by kernel_rfl)) (fun _ _ _ h => h) (Or.inl ⟨by rfl, ?_⟩) ?_ ?_
  rotate_left
  · intro w'
    go_simp
    with_reducible rfl
  rotate_left
  · simp only [Act.put, List.setIfInBounds_toArray, List.set_cons_zero, List.set_cons_succ, i64_w, i32_w]
    rfl
  refine pure_ (i := 1) (N := some 15) (v := ?_) (a' := ?_) #[true, true, false, false, false, false, false, false, false, false, false] rfl rfl (any_of HT_.out (by kernel_rfl)) (fun _ _ _ h => h) (Or.inl ⟨by rfl, ?_⟩) ?_ ?_
  rotate_left
  · intro w'
    go_simp
    with_reducible rfl
  rotate_left
  · simp only [Act.put, List.setIfInBounds_toArray, List.set_cons_zero, List.set_cons_succ, i64_w, i32_w]
    rfl
  refine pure_ (i := 2) (N := some 16) (v := ?_) (a' := ?_) #[true, true, true, false, false, false, false, false, false, false, false] rfl rfl (any_of HT_.out (by kernel_rfl)) (fun _ _ _ h => h) (Or.inl ⟨by rfl, ?_⟩) ?_ ?_
  rotate_left
  · intro w'
    go_simp
    with_reducible rfl
  rotate_left
  · simp only [Act.put, List.setIfInBounds_toArray, List.set_cons_zero, List.set_cons_succ, i64_w, i32_w]
    rfl
  refine take_ (i := 3) (N := some 17) (v := ?_) (a' := ?_) #[true, true, true, true, false, false, false, false, false, false, false] rfl rfl (take_ofW HT_.out HW_.out (by kernel_rfl)) (fun _ _ _ h => h) (Or.inl ⟨by rfl, ?_⟩) hHeld ?_ ?_
  rotate_left
  · rintro w' ⟨s0, s1, s2, s3⟩
    go_simp
    with_reducible rfl
  rotate_left
  · simp only [Act.put, List.setIfInBounds_toArray, List.set_cons_zero, List.set_cons_succ, i64_w, i32_w]
    rfl
  refine pure_ (i := 4) (N := some 18) (v := ?_) (a' := ?_) #[true, true, true, true, true, false, false, false, false, false, false] rfl rfl (any_of HT_.out (by kernel_rfl)) (fun _ _ _ h => h) (Or.inl ⟨by rfl, ?_⟩) ?_ ?_
  rotate_left
  · intro w'
    go_simp
    with_reducible rfl
  rotate_left
  · simp only [Act.put, List.setIfInBounds_toArray, List.set_cons_zero, List.set_cons_succ, i64_w, i32_w]
    rfl
  refine pure_ (i := 5) (N := some 19) (v := ?_) (a' := ?_) #[true, true, true, true, true, true, false, false, false, false, false] rfl rfl (any_of HT_.out (by kernel_rfl)) (fun _ _ _ h => h) (Or.inl ⟨by rfl, ?_⟩) ?_ ?_
  rotate_left
  · intro w'
    go_simp
    with_reducible rfl
  rotate_left
  · simp only [Act.put, List.setIfInBounds_toArray, List.set_cons_zero, List.set_cons_succ, i64_w, i32_w]
    rfl
  refine take_ (i := 7) (N := some 21) (v := ?_) (a' := ?_) #[true, true, true, true, true, true, false, true, false, false, false] rfl rfl (take_ofW HT_.out HW_.out (by kernel_rfl)) (fun _ _ _ h => h) (Or.inl ⟨by rfl, ?_⟩) hHeld ?_ ?_
  rotate_left
  · rintro w' ⟨s0, s1, s2, s3⟩
    go_simp
    with_reducible rfl
  rotate_left
  · simp only [Act.put, List.setIfInBounds_toArray, List.set_cons_zero, List.set_cons_succ, i64_w, i32_w]
    rfl
  refine join_ (σ := Value × Value) 2 #[true, true, true, true, true, true, true, true, true, false, false] (fun s => [(20, s.1), (22, s.2)]) (fun s w' => (w'.ownsRow w2.heap.size 80 3 s.1 (0 + i) ([] ++ cs.take (i * 3)) ∧ Src80 w' s.2 1 [.string ⟨f.n.toArray⟩, .slice Asl f.b.length csl, .int .i64 f.s]) ∧ Below w2.heap.size w2 w') ?_ ?_
  rotate_left
  · intro hCont
    refine two_ (i := 6) (j := 8) (Ni := (some 20)) (Nj := (some 22)) #[true, true, true, true, true, true, true, true, false, false, false] #[true, true, true, true, true, true, false, true, true, false, false] rfl rfl rfl rfl (two_of HT_.out (by kernel_rfl)) (by decide) (by decide) (fun K hK => ?_) (fun K hK => ?_)
    · obtain ⟨v20, w4, hrun4, ho4, hg4⟩ := app80 (w := w3) (base := w2.heap.size) 74 (World.ownsRow_nil _ _ _ _) HBd.out.size (HSRC.out i HIL.out w3 HBd.out).1 (by have := HIL.out; have := HS.out; omega)
      have HB4 := Aside0.mk (HBd.out.grown hg4 HBd.out.size (fun k e => by cases e))
      have HO4 := Aside0.mk ho4
      refine bapp_ #[.slice none 0 0, .slice A i c] (by rfl) (by (try simp only [List.map_toArray, List.map_cons, List.map_nil]); first | done | rfl) (by rfl) rfl hrun4 ?_
      clear hrun4 ho4 hg4
      refine hK.out _ _ ⟨HC0.out _ HB4.out, HKC.out _ 0 _ HB4.out rfl, HKC.out _ 1 _ HB4.out rfl, HKC.out _ 2 _ HB4.out rfl⟩ (fun hHeld => ?_)
      clear hK K
      refine norm_ (a' := ?_) ?_ ?_
      rotate_left
      · show Act.put _ (some 20) _ = _
        simp only [Act.put, List.setIfInBounds_toArray, List.set_cons_zero, List.set_cons_succ, i64_w, i32_w]
        rfl
      refine one_ (i := 8) (N := some 22) #[true, true, true, true, true, true, true, true, true, false, false] rfl rfl (one_of HT_.out (by kernel_rfl)) (by decide) (fun K hK => ?_)
      refine value_ (v := .slice (some ⟨w4.heap.size, 0, none⟩) 1 1) (w1 := w4.alloc (.cells #[.string ⟨f.n.toArray⟩, .slice Asl f.b.length csl, .int .i64 f.s] 80)) (by rfl) rfl ?_ ?_
      · go_simp
        first | done | rfl | simp [Result.andThen]
      have HB5 := Aside0.mk (HB4.out.alloc HB4.out.size (.cells #[.string ⟨f.n.toArray⟩, .slice Asl f.b.length csl, .int .i64 f.s] 80))
      refine hK.out _ _ ⟨HC0.out _ HB5.out, HKC.out _ 0 _ HB5.out rfl, HKC.out _ 1 _ HB5.out rfl, HKC.out _ 2 _ HB5.out rfl⟩ (fun hHeld => ?_)
      clear hK K
      refine norm_ (a' := ?_) ?_ ?_
      rotate_left
      · show Act.put _ (some 22) _ = _
        simp only [Act.put, List.setIfInBounds_toArray, List.set_cons_zero, List.set_cons_succ, i64_w, i32_w]
        rfl
      exact norm_ (by simp only [putAll, Act.put, List.setIfInBounds_toArray, List.set_cons_zero, List.set_cons_succ]) (hCont (v20, _) _ ⟨⟨pw_own_below HO4.out ((Below.refl w4.heap.size w4).alloc (Nat.le_refl _) _), src_new w4 _ _ _⟩, HB5.out⟩)
    · skip
      refine value_ (v := .slice (some ⟨w3.heap.size, 0, none⟩) 1 1) (w1 := w3.alloc (.cells #[.string ⟨f.n.toArray⟩, .slice Asl f.b.length csl, .int .i64 f.s] 80)) (by rfl) rfl ?_ ?_
      · go_simp
        first | done | rfl | simp [Result.andThen]
      have HB4 := Aside0.mk (HBd.out.alloc HBd.out.size (.cells #[.string ⟨f.n.toArray⟩, .slice Asl f.b.length csl, .int .i64 f.s] 80))
      refine hK.out _ _ ⟨HC0.out _ HB4.out, HKC.out _ 0 _ HB4.out rfl, HKC.out _ 1 _ HB4.out rfl, HKC.out _ 2 _ HB4.out rfl⟩ (fun hHeld => ?_)
      clear hK K
      refine norm_ (a' := ?_) ?_ ?_
      rotate_left
      · show Act.put _ (some 22) _ = _
        simp only [Act.put, List.setIfInBounds_toArray, List.set_cons_zero, List.set_cons_succ, i64_w, i32_w]
        rfl
      refine one_ (i := 6) (N := some 20) #[true, true, true, true, true, true, true, true, true, false, false] rfl rfl (one_of HT_.out (by kernel_rfl)) (by decide) (fun K hK => ?_)
      obtain ⟨v20, w5, hrun5, ho5, hg5⟩ := app80 (w := w3.alloc (.cells #[.string ⟨f.n.toArray⟩, .slice Asl f.b.length csl, .int .i64 f.s] 80)) (base := w2.heap.size) 74 (World.ownsRow_nil _ _ _ _) HB4.out.size (HSRC.out i HIL.out _ HB4.out).1 (by have := HIL.out; have := HS.out; omega)
      have HB5 := Aside0.mk (HB4.out.grown hg5 HB4.out.size (fun k e => by cases e))
      have HO5 := Aside0.mk ho5
      have HN5 := Aside0.mk (src_grown (src_new w3 _ _ _) hg5)
      refine bapp_ #[.slice none 0 0, .slice A i c] (by rfl) (by (try simp only [List.map_toArray, List.map_cons, List.map_nil]); first | done | rfl) (by rfl) rfl hrun5 ?_
      clear hrun5 ho5 hg5
      refine hK.out _ _ ⟨HC0.out _ HB5.out, HKC.out _ 0 _ HB5.out rfl, HKC.out _ 1 _ HB5.out rfl, HKC.out _ 2 _ HB5.out rfl⟩ (fun hHeld => ?_)
      clear hK K
      refine norm_ (a' := ?_) ?_ ?_
      rotate_left
      · show Act.put _ (some 20) _ = _
        simp only [Act.put, List.setIfInBounds_toArray, List.set_cons_zero, List.set_cons_succ, i64_w, i32_w]
        rfl
      exact norm_ (by simp only [putAll, Act.put, List.setIfInBounds_toArray, List.set_cons_zero, List.set_cons_succ]) (hCont (v20, _) _ ⟨⟨HO5.out, HN5.out⟩, HB5.out⟩)
  rintro ⟨v20, v22⟩ w6 ⟨⟨ho6, hs6⟩, hb6⟩
  have HB6 := Aside0.mk hb6
  have HO6 := Aside0.mk ho6
  have HS6 := Aside0.mk hs6
  clear ho6 hs6 hb6
  refine norm_ (a' := ?_) ?_ ?_
  rotate_left
  · simp only [putAll, Act.put, List.setIfInBounds_toArray, List.set_cons_zero, List.set_cons_succ]
    rfl
  refine one_ (i := 9) (N := some 23) #[true, true, true, true, true, true, true, true, true, true, false] rfl rfl (one_of HT_.out (by kernel_rfl)) (by decide) (fun K hK => ?_)
  obtain ⟨v23, w7, hrun7, ho7, hg7⟩ := app80 (w := w6) (base := w2.heap.size) 74 HO6.out HB6.out.size HS6.out (by have := HIL.out; have := HS.out; omega)
  have HB7 := Aside0.mk (HB6.out.grown hg7 HB6.out.size (fun k e => (HO6.out.lt k e).1))
  have HO7 := Aside0.mk ho7
  refine bapp_ #[v20, v22] (by rfl) (by (try simp only [List.map_toArray, List.map_cons, List.map_nil]); first | done | rfl) (by rfl) rfl hrun7 ?_
  clear hrun7 ho7 hg7 HO6 HS6
  refine hK.out _ _ ⟨HC0.out _ HB7.out, HKC.out _ 0 _ HB7.out rfl, HKC.out _ 1 _ HB7.out rfl, HKC.out _ 2 _ HB7.out rfl⟩ (fun hHeld => ?_)
  clear hK K
  refine norm_ (a' := ?_) ?_ ?_
  rotate_left
  · show Act.put _ (some 23) _ = _
    simp only [Act.put, List.setIfInBounds_toArray, List.set_cons_zero, List.set_cons_succ, i64_w, i32_w]
    rfl
  refine pure_ (i := 10) (N := some 6) (v := ?_) (a' := ?_) #[true, true, true, true, true, true, true, true, true, true, true] rfl rfl (any_of HT_.out (by kernel_rfl)) (fun _ _ _ h => h) (Or.inl ⟨by rfl, ?_⟩) ?_ ?_
  rotate_left
  · intro w'
    go_simp
    with_reducible rfl
  rotate_left
  · simp only [Act.put, List.setIfInBounds_toArray, List.set_cons_zero, List.set_cons_succ, i64_w, i32_w]
    rfl
  refine done_ (done_of HT_.out (by kernel_rfl)) ?_
  clear hHeld HB6 HBd
  cases hv with
  | true =>
    have hil : i + 1 ≤ r.fs.length := by have h := hasF_lt HV.out; rw [HI.out] at h; exact h
    have hw1 : wrap64 ((i : Int) + 1) = ((i + 1 : Nat) : Int) := wrap_succ hil (Nat.le_trans (Nat.le_of_lt HS.out) (by decide))
    have hsl2 : ∀ W, (Instr.slice 74 (.slice A r.fs.length c) (some (.int .i64 (wrap64 ((i : Int) + 1)))) none none).run Try.prog W = .ok (slD A r.fs.length c (i + 1)) W := by rw [hw1]; exact slice74d A r.fs.length c (i + 1) hil HNC.out
    clear hw1
    have HIL1 := Aside0.mk hil
    have hc7 := HC0.out _ HB7.out
    obtain ⟨v35, w8, hrun8, ho8, hg8⟩ := app80 (w := w7) (base := w2.heap.size) 74 HO7.out HB7.out.size (HSRC.out (i + 1) hil w7 HB7.out).2 (by have := HIL.out; have := HS.out; omega)
    clear hil
    have HR8 := Aside0.mk hrun8
    obtain ⟨A8, c8, e8⟩ := own_sl ho8
    have HO8 := Aside0.mk ho8
    have HB8 := Aside0.mk (HB7.out.grown hg8 HB7.out.size (fun k e => (HO7.out.lt k e).1))
    clear hrun8 ho8 hg8
    subst e8
    generalize hm8 : 0 + i + 1 + (r.fs.length - (i + 1)) = m8 at HR8 HO8
    have HM8 := Aside0.mk hm8
    clear hm8
    generalize slD A r.fs.length c (i + 1) = vD at hsl2 HR8
    have H8 := Aside0.mk (H2.out.below HB8.out)
    have hc8 := HC0.out _ HB8.out
    have hf8 := H8.out.frozen 0
    go_wp2_with (first
      | (refine bappL_ (some 35) #[v23, vD] rfl rfl (by (try simp only [List.map_toArray, List.map_cons, List.map_nil]); first | done | rfl) rfl HR8.out ?_)
      | fail)
    first | go_end0 | ((try simp only [Exit.inBlock, Exit.then]); refine bodyPost_ret (results_none rfl _ _ _) rfl ?_)
    have hfs : rPut f r.fs = r.fs.take i ++ [f] ++ r.fs.drop (i + 1) := by unfold rPut; rw [HI.out, HV.out]; simp
    have hle : (rPut f r.fs).length = m8 := by rw [hfs, ← HM8.out]; have := HIL.out; simp; omega
    have hB := HB8.out
    have hF8 := HCS.out.fr (M := fun _ => False) (Fr.of_below hB) (fun _ _ h => h.elim)
    have hN8 := HF.out.fr (M := fun _ => False) (Fr.of_below (HB2.out.trans (hB.mono HB2.out.size))) (fun _ _ h => h.elim)
    have hfin := H8.out.setL (fs := rPut f r.fs) (v := .slice A8 m8 c8) (cs := ([] ++ cs.take (i * 3)) ++ [.string ⟨f.n.toArray⟩, .slice Asl f.b.length csl, .int .i64 f.s] ++ cs.drop ((i + 1) * 3)) (by rw [hle]; exact own_low HO8.out) (by rw [hfs]; exact ((hF8.take i).append (FCs.one hN8)).append (hF8.drop _)) (Av.of_row HO8.out (fun k hk => Nat.lt_of_lt_of_le (HX.out k hk) HB2.out.size)) (by rw [hle, ← HM8.out]; have := HIL.out; have := HS.out; omega)
    exact ⟨rfl, hfin.1, (Fr.of_below (HB2.out.trans (HB8.out.mono HB2.out.size))).trans hfin.2⟩
  | false =>
    have hsl2 := slice74d A r.fs.length c i HIL.out HNC.out
    have hc7 := HC0.out _ HB7.out
    obtain ⟨v35, w8, hrun8, ho8, hg8⟩ := app80 (w := w7) (base := w2.heap.size) 74 HO7.out HB7.out.size (HSRC.out i HIL.out w7 HB7.out).2 (by have := HIL.out; have := HS.out; omega)
    have HR8 := Aside0.mk hrun8
    obtain ⟨A8, c8, e8⟩ := own_sl ho8
    have HO8 := Aside0.mk ho8
    have HB8 := Aside0.mk (HB7.out.grown hg8 HB7.out.size (fun k e => (HO7.out.lt k e).1))
    clear hrun8 ho8 hg8
    subst e8
    generalize hm8 : 0 + i + 1 + (r.fs.length - i) = m8 at HR8 HO8
    have HM8 := Aside0.mk hm8
    clear hm8
    generalize slD A r.fs.length c i = vD at hsl2 HR8
    have H8 := Aside0.mk (H2.out.below HB8.out)
    have hc8 := HC0.out _ HB8.out
    have hf8 := H8.out.frozen 0
    go_wp2_with (first
      | (refine bappL_ (some 35) #[v23, vD] rfl rfl (by (try simp only [List.map_toArray, List.map_cons, List.map_nil]); first | done | rfl) rfl HR8.out ?_)
      | fail)
    first | go_end0 | ((try simp only [Exit.inBlock, Exit.then]); refine bodyPost_ret (results_none rfl _ _ _) rfl ?_)
    have hfs : rPut f r.fs = r.fs.take i ++ [f] ++ r.fs.drop i := by unfold rPut; rw [HI.out, HV.out]; simp
    have hle : (rPut f r.fs).length = m8 := by rw [hfs, ← HM8.out]; have := HIL.out; simp; omega
    have hB := HB8.out
    have hF8 := HCS.out.fr (M := fun _ => False) (Fr.of_below hB) (fun _ _ h => h.elim)
    have hN8 := HF.out.fr (M := fun _ => False) (Fr.of_below (HB2.out.trans (hB.mono HB2.out.size))) (fun _ _ h => h.elim)
    have hfin := H8.out.setL (fs := rPut f r.fs) (v := .slice A8 m8 c8) (cs := ([] ++ cs.take (i * 3)) ++ [.string ⟨f.n.toArray⟩, .slice Asl f.b.length csl, .int .i64 f.s] ++ cs.drop (i * 3)) (by rw [hle]; exact own_low HO8.out) (by rw [hfs]; exact ((hF8.take i).append (FCs.one hN8)).append (hF8.drop _)) (Av.of_row HO8.out (fun k hk => Nat.lt_of_lt_of_le (HX.out k hk) HB2.out.size)) (by rw [hle, ← HM8.out]; have := HIL.out; have := HS.out; omega)
    exact ⟨rfl, hfin.1, (Fr.of_below (HB2.out.trans (HB8.out.mono HB2.out.size))).trans hfin.2⟩
end Go.Proofs.Ytihbgdobicokpaa.D
namespace Go.Proofs.Ytihbgdobicokpaa.D
open Go.RowKit Go.Maps Go.Proofs.Ytihbgdobicokpaa.X Go.Proofs.YtihbgdobicokpaaW.PrintWords Go.Proofs.YtihbgdobicokpaaW.PrintLast Go.Proofs.YtihbgdobicokpaaW.PrintMore
attribute [local go_sem] max2_int min2_int max_two min_two max_three min_three max_four min_four   -- for this text's walks alone
set_option linter.unusedVariables false
set_option linter.unusedSimpArgs false
variable {X : Nat → Prop}
def Drdrop.T2 : Bool × List (List Nat × List Nat) := (true, [([], []), ([], []), ([1], [1]), ([2], [2]), ([3], [3]), ([], []), ([4, 5], [4, 5]), ([6], [6]), ([], []), ([8], [8]), ([9], [9]), ([10], [10]), ([], []), ([12], [12]), ([11, 13], [11, 13]), ([7, 14, 7], [7, 14]), ([0, 0, 1, 2, 3, 4, 5, 6, 7, 8, 9, 10, 11, 12, 13, 14, 15], [0]), ([16, 0, 1, 2, 3, 4, 5, 6, 7, 8, 9, 10, 11, 12, 13, 14, 15], [16]), ([17, 15, 15, 0, 1, 2, 3, 4, 5, 6, 7, 8, 9, 10, 11, 12, 13, 14, 15], [15, 17])])
def Drdrop.B2 : List Nat := [0, 0, 2, 6, 14, 0, 62, 126, 0, 256, 768, 1792, 0, 4096, 16128, 32766, 65535, 131071, 262143]
theorem Drdrop.tab2 : rtab .any (opsOf Try.f53 2) = Drdrop.T2 := by kernel_rfl
theorem Drdrop.bits2 : waitsOk Drdrop.T2.2 Drdrop.B2 = true := by kernel_rfl
set_option maxHeartbeats 4000000 in
set_option maxRecDepth 100000 in
theorem rDrop_calls {w : World} {q : Nat} {r : Rk} (h : IsR X w q r) (hX : ∀ k, X k → k < w.heap.size) (nm : ByteArray) : Calls Try.prog 53 #[.pointer (some ⟨q, 0, none⟩), .string nm] w fun e w' => e = .returned (.tuple #[]) ∧ IsR X w' q { r with fs := rDrop nm.data.toList r.fs } ∧ Fr (fun k => k = q) w w' := by
  have HS := Aside0.mk h.small
  have HX := Aside0.mk hX
  clear hX
  have H := Aside0.mk h
  clear h
  go_enter Try.func53, Try.ntmps53
  go_wp2_with fail
  refine (rat_calls H.out nm).mono ?_
  rintro e w2 ⟨rfl, hb2⟩
  have H2 := Aside0.mk (H.out.below hb2)
  have HB2 := Aside0.mk hb2
  obtain ⟨i, hi⟩ : ∃ i, posF nm.data.toList r.fs = i := ⟨_, rfl⟩
  obtain ⟨hv, hhv⟩ : ∃ b, hasF nm.data.toList r.fs = b := ⟨_, rfl⟩
  rw [hi, hhv]
  have HI := Aside0.mk hi
  have HV := Aside0.mk hhv
  have HIL := Aside0.mk (show i ≤ r.fs.length from by rw [← hi]; exact posF_le _ _)
  obtain ⟨A, c, cs, hc0, hnc, hcs, hsrc⟩ := H2.out.src
  have HCS := Aside0.mk hcs
  have HSRC := Aside0.mk hsrc
  have HNC := Aside0.mk hnc
  have hc0' := hc0
  have HC0 := Aside0.mk (show ∀ w', Below w2.heap.size w2 w' → w'.cell? ⟨q, 0, none⟩ = some (.slice A r.fs.length c) from fun w' hb => (hb.cell (World.block_lt_of_cell? w2 _ hc0')).trans hc0')
  clear hi hhv hcs hsrc hnc hb2 hc0'
  cases hv with
  | false =>
    go_wp2_with fail
    first | go_end0 | ((try simp only [Exit.inBlock, Exit.then]); refine bodyPost_ret (results_none rfl _ _ _) rfl ?_)
    have e : rDrop nm.data.toList r.fs = r.fs := by unfold rDrop; rw [HV.out]; simp
    rw [e]
    exact ⟨rfl, H2.out, Fr.of_below HB2.out⟩
  | true =>
    have hil : i + 1 ≤ r.fs.length := by have h := hasF_lt HV.out; rw [HI.out] at h; exact h
    have hw1 : wrap64 ((i : Int) + 1) = ((i + 1 : Nat) : Int) := wrap_succ hil (Nat.le_trans HS.out (by decide))
    have hsl1 := slice74t A r.fs.length c i (Nat.le_trans HIL.out HNC.out)
    have hsl2 : ∀ W, (Instr.slice 74 (.slice A r.fs.length c) (some (.int .i64 (wrap64 ((i : Int) + 1)))) none none).run Try.prog W = .ok (slD A r.fs.length c (i + 1)) W := by rw [hw1]; exact slice74d A r.fs.length c (i + 1) hil HNC.out
    have HSD := Aside0.mk (show ∀ w', Below w2.heap.size w2 w' → Src80 w' (slD A r.fs.length c (i + 1)) (r.fs.length - (i + 1)) (cs.drop ((i + 1) * 3)) from fun w' hb => (HSRC.out (i + 1) hil w' hb).2)
    have HILT := Aside0.mk hil
    clear hw1 hil
    generalize slD A r.fs.length c (i + 1) = vD at hsl2 HSD
    go_wp2_with fail
    refine start_ (n := 19) (S := fun w' => w'.cell? ⟨q, 0, none⟩ = some (.slice A r.fs.length c)) (ds := [18]) #[false, false, false, false, false, false, false, false, false, false, false, false, false, false, false, false, false, false, false] (by kernel_rfl) rfl rfl (HC0.out _ ((Below.refl _ _).drew)) (fun hHeld => ?_); refine with_tabW Drdrop.tab2 Drdrop.bits2 (fun HT_ HW_ => ?_)
    have HBd := Aside0.mk ((Below.refl w2.heap.size w2).drew)
    generalize World.drew _ = w3 at HBd hHeld ⊢
    refine pure_ (i := 0) (N := some 13) (v := ?_) (a' := ?_) #[true, false, false, false, false, false, false, false, false, false, false, false, false, false, false, false, false, false, false] rfl rfl (any_of HT_.out (by kernel_rfl)) (fun _ _ _ h => h) (Or.inl ⟨by rfl, ?_⟩) ?_ ?_
    rotate_left
    · intro w'
      go_simp
      with_reducible rfl
    rotate_left
    · simp only [Act.put, List.setIfInBounds_toArray, List.set_cons_zero, List.set_cons_succ, i64_w, i32_w]
      rfl
    refine pure_ (i := 1) (N := some 14) (v := ?_) (a' := ?_) #[true, true, false, false, false, false, false, false, false, false, false, false, false, false, false, false, false, false, false] rfl rfl (any_of HT_.out (by kernel_rfl)) (fun _ _ _ h => h) (Or.inl ⟨by rfl, ?_⟩) ?_ ?_
    rotate_left
    · intro w'
      go_simp
      with_reducible rfl
    rotate_left
    · simp only [Act.put, List.setIfInBounds_toArray, List.set_cons_zero, List.set_cons_succ, i64_w, i32_w]
      rfl
    refine pure_ (i := 2) (N := some 15) (v := ?_) (a' := ?_) #[true, true, true, false, false, false, false, false, false, false, false, false, false, false, false, false, false, false, false] rfl rfl (any_of HT_.out (by kernel_rfl)) (fun _ _ _ h => h) (Or.inl ⟨by rfl, ?_⟩) ?_ ?_
    rotate_left
    · intro w'
      go_simp
      with_reducible rfl
    rotate_left
    · simp only [Act.put, List.setIfInBounds_toArray, List.set_cons_zero, List.set_cons_succ, i64_w, i32_w]
      rfl
    refine pure_ (i := 3) (N := some 16) (v := ?_) (a' := ?_) #[true, true, true, true, false, false, false, false, false, false, false, false, false, false, false, false, false, false, false] rfl rfl (any_of HT_.out (by kernel_rfl)) (fun _ _ _ h => h) (Or.inl ⟨by rfl, ?_⟩) ?_ ?_
    rotate_left
    · intro w'
      go_simp
      with_reducible rfl
    rotate_left
    · simp only [Act.put, List.setIfInBounds_toArray, List.set_cons_zero, List.set_cons_succ, i64_w, i32_w]
      rfl
    refine take_ (i := 4) (N := some 17) (v := ?_) (a' := ?_) #[true, true, true, true, true, false, false, false, false, false, false, false, false, false, false, false, false, false, false] rfl rfl (take_ofW HT_.out HW_.out (by kernel_rfl)) (fun _ _ _ h => h) (Or.inl ⟨by rfl, ?_⟩) hHeld ?_ ?_
    rotate_left
    · rintro w' s0
      go_simp
      with_reducible rfl
    rotate_left
    · simp only [Act.put, List.setIfInBounds_toArray, List.set_cons_zero, List.set_cons_succ, i64_w, i32_w]
      rfl
    refine pure_ (i := 5) (N := some 18) (v := ?_) (a' := ?_) #[true, true, true, true, true, true, false, false, false, false, false, false, false, false, false, false, false, false, false] rfl rfl (any_of HT_.out (by kernel_rfl)) (fun _ _ _ h => h) (Or.inl ⟨by rfl, ?_⟩) ?_ ?_
    rotate_left
    · intro w'
      go_simp
      with_reducible rfl
    rotate_left
    · simp only [Act.put, List.setIfInBounds_toArray, List.set_cons_zero, List.set_cons_succ, i64_w, i32_w]
      rfl
    refine pure_ (i := 6) (N := some 19) (v := ?_) (a' := ?_) #[true, true, true, true, true, true, true, false, false, false, false, false, false, false, false, false, false, false, false] rfl rfl (any_of HT_.out (by kernel_rfl)) (fun _ _ _ h => h) (Or.inl ⟨by rfl, ?_⟩) ?_ ?_
    rotate_left
    · intro w'
      go_simp
      with_reducible rfl
    rotate_left
    · simp only [Act.put, List.setIfInBounds_toArray, List.set_cons_zero, List.set_cons_succ, i64_w, i32_w]
      rfl
    refine pure_ (i := 8) (N := some 21) (v := ?_) (a' := ?_) #[true, true, true, true, true, true, true, false, true, false, false, false, false, false, false, false, false, false, false] rfl rfl (any_of HT_.out (by kernel_rfl)) (fun _ _ _ h => h) (Or.inl ⟨by rfl, ?_⟩) ?_ ?_
    rotate_left
    · intro w'
      go_simp
      with_reducible rfl
    rotate_left
    · simp only [Act.put, List.setIfInBounds_toArray, List.set_cons_zero, List.set_cons_succ, i64_w, i32_w]
      rfl
    refine pure_ (i := 9) (N := some 22) (v := ?_) (a' := ?_) #[true, true, true, true, true, true, true, false, true, true, false, false, false, false, false, false, false, false, false] rfl rfl (any_of HT_.out (by kernel_rfl)) (fun _ _ _ h => h) (Or.inl ⟨by rfl, ?_⟩) ?_ ?_
    rotate_left
    · intro w'
      go_simp
      with_reducible rfl
    rotate_left
    · simp only [Act.put, List.setIfInBounds_toArray, List.set_cons_zero, List.set_cons_succ, i64_w, i32_w]
      rfl
    refine pure_ (i := 10) (N := some 23) (v := ?_) (a' := ?_) #[true, true, true, true, true, true, true, false, true, true, true, false, false, false, false, false, false, false, false] rfl rfl (any_of HT_.out (by kernel_rfl)) (fun _ _ _ h => h) (Or.inl ⟨by rfl, ?_⟩) ?_ ?_
    rotate_left
    · intro w'
      go_simp
      with_reducible rfl
    rotate_left
    · simp only [Act.put, List.setIfInBounds_toArray, List.set_cons_zero, List.set_cons_succ, i64_w, i32_w]
      rfl
    refine take_ (i := 11) (N := some 24) (v := ?_) (a' := ?_) #[true, true, true, true, true, true, true, false, true, true, true, true, false, false, false, false, false, false, false] rfl rfl (take_ofW HT_.out HW_.out (by kernel_rfl)) (fun _ _ _ h => h) (Or.inl ⟨by rfl, ?_⟩) hHeld ?_ ?_
    rotate_left
    · rintro w' s0
      go_simp
      with_reducible rfl
    rotate_left
    · simp only [Act.put, List.setIfInBounds_toArray, List.set_cons_zero, List.set_cons_succ, i64_w, i32_w]
      rfl
    refine pure_ (i := 12) (N := some 25) (v := ?_) (a' := ?_) #[true, true, true, true, true, true, true, false, true, true, true, true, true, false, false, false, false, false, false] rfl rfl (any_of HT_.out (by kernel_rfl)) (fun _ _ _ h => h) (Or.inl ⟨by rfl, ?_⟩) ?_ ?_
    rotate_left
    · intro w'
      go_simp
      with_reducible rfl
    rotate_left
    · simp only [Act.put, List.setIfInBounds_toArray, List.set_cons_zero, List.set_cons_succ, i64_w, i32_w]
      rfl
    refine pure_ (i := 13) (N := some 26) (v := ?_) (a' := ?_) #[true, true, true, true, true, true, true, false, true, true, true, true, true, true, false, false, false, false, false] rfl rfl (any_of HT_.out (by kernel_rfl)) (fun _ _ _ h => h) (Or.inl ⟨by rfl, ?_⟩) ?_ ?_
    rotate_left
    · intro w'
      go_simp
      with_reducible rfl
    rotate_left
    · simp only [Act.put, List.setIfInBounds_toArray, List.set_cons_zero, List.set_cons_succ, i64_w, i32_w]
      rfl
    refine pure_ (i := 14) (N := some 27) (v := ?_) (a' := ?_) #[true, true, true, true, true, true, true, false, true, true, true, true, true, true, true, false, false, false, false] rfl rfl (any_of HT_.out (by kernel_rfl)) (fun _ _ _ h => h) (Or.inl ⟨by rfl, ?_⟩) ?_ ?_
    rotate_left
    · intro w'
      go_simp
      with_reducible rfl
    rotate_left
    · simp only [Act.put, List.setIfInBounds_toArray, List.set_cons_zero, List.set_cons_succ, i64_w, i32_w]
      rfl
    refine one_ (i := 7) (N := some 20) #[true, true, true, true, true, true, true, true, true, true, true, true, true, true, true, false, false, false, false] rfl rfl (one_of HT_.out (by kernel_rfl)) (by decide) (fun K hK => ?_)
    obtain ⟨v20, w4, hrun4, ho4, hg4⟩ := app80 (w := w3) (base := w2.heap.size) 74 (World.ownsRow_nil _ _ _ _) HBd.out.size (HSRC.out i HIL.out w3 HBd.out).1 (by have := HIL.out; have := HS.out; omega)
    have HB4 := Aside0.mk (HBd.out.grown hg4 HBd.out.size (fun k e => by cases e))
    have HO4 := Aside0.mk ho4
    refine bapp_ #[.slice none 0 0, .slice A i c] (by rfl) (by (try simp only [List.map_toArray, List.map_cons, List.map_nil]); first | done | rfl) (by rfl) rfl hrun4 ?_
    clear hrun4 ho4 hg4
    refine hK.out _ _ (HC0.out _ HB4.out) (fun hHeld => ?_)
    clear hK K
    refine norm_ (a' := ?_) ?_ ?_
    rotate_left
    · show Act.put _ (some 20) _ = _
      simp only [Act.put, List.setIfInBounds_toArray, List.set_cons_zero, List.set_cons_succ, i64_w, i32_w]
      rfl
    refine one_ (i := 15) (N := some 28) #[true, true, true, true, true, true, true, true, true, true, true, true, true, true, true, true, false, false, false] rfl rfl (one_of HT_.out (by kernel_rfl)) (by decide) (fun K hK => ?_)
    obtain ⟨v35, w8, hrun8, ho8, hg8⟩ := app80 (w := w4) (base := w2.heap.size) 74 HO4.out HB4.out.size (HSD.out w4 HB4.out) (by have := HIL.out; have := HS.out; omega)
    have HR8 := Aside0.mk hrun8
    obtain ⟨A8, c8, e8⟩ := own_sl ho8
    have HO8 := Aside0.mk ho8
    have HB8 := Aside0.mk (HB4.out.grown hg8 HB4.out.size (fun k e => (HO4.out.lt k e).1))
    clear hrun8 ho8 hg8
    subst e8
    generalize hm8 : 0 + i + (r.fs.length - (i + 1)) = m8 at HR8 HO8
    have HM8 := Aside0.mk hm8
    clear hm8
    refine bapp_ #[v20, vD] (by rfl) (by (try simp only [List.map_toArray, List.map_cons, List.map_nil]); first | done | rfl) (by rfl) rfl HR8.out ?_
    refine hK.out _ _ (HC0.out _ HB8.out) (fun hHeld => ?_)
    clear hK K
    refine norm_ (a' := ?_) ?_ ?_
    rotate_left
    · show Act.put _ (some 28) _ = _
      simp only [Act.put, List.setIfInBounds_toArray, List.set_cons_zero, List.set_cons_succ, i64_w, i32_w]
      rfl
    refine pure_ (i := 16) (N := some 29) (v := ?_) (a' := ?_) #[true, true, true, true, true, true, true, true, true, true, true, true, true, true, true, true, true, false, false] rfl rfl (any_of HT_.out (by kernel_rfl)) (fun _ _ _ h => h) (Or.inl ⟨by rfl, ?_⟩) ?_ ?_
    rotate_left
    · intro w'
      go_simp
      with_reducible rfl
    rotate_left
    · simp only [Act.put, List.setIfInBounds_toArray, List.set_cons_zero, List.set_cons_succ, i64_w, i32_w]
      rfl
    refine pure_ (i := 17) (N := some 30) (v := ?_) (a' := ?_) #[true, true, true, true, true, true, true, true, true, true, true, true, true, true, true, true, true, true, false] rfl rfl (any_of HT_.out (by kernel_rfl)) (fun _ _ _ h => h) (Or.inl ⟨by rfl, ?_⟩) ?_ ?_
    rotate_left
    · intro w'
      go_simp
      with_reducible rfl
    rotate_left
    · simp only [Act.put, List.setIfInBounds_toArray, List.set_cons_zero, List.set_cons_succ, i64_w, i32_w]
      rfl
    have H8 := Aside0.mk (H2.out.below HB8.out)
    have hc8 := HC0.out _ HB8.out
    have hf8 := H8.out.frozen 0
    refine last_ (i := 18) (N := none) #[true, true, true, true, true, true, true, true, true, true, true, true, true, true, true, true, true, true, true] rfl rfl (one_of HT_.out (by kernel_rfl)) (by decide) (fun K hK => ?_)
    refine skip_ (w1 := w8.setCell ⟨q, 0, none⟩ (.slice A8 m8 c8)) (by rfl) rfl ?_ ?_
    · go_simp
      first | done | rfl | simp [Result.andThen]
    refine hK.out _ _ ?_
    clear hK K
    refine done_ (done_of HT_.out (by kernel_rfl)) ?_
    first | go_end0 | ((try simp only [Exit.inBlock, Exit.then]); refine bodyPost_ret (results_none rfl _ _ _) rfl ?_)
    have hfs : rDrop nm.data.toList r.fs = r.fs.take i ++ r.fs.drop (i + 1) := by unfold rDrop; rw [HI.out, HV.out]; simp
    have hle : (rDrop nm.data.toList r.fs).length = m8 := by rw [hfs, ← HM8.out]; have := HIL.out; simp; omega
    have hB := HB8.out
    have hF8 := HCS.out.fr (M := fun _ => False) (Fr.of_below hB) (fun _ _ h => h.elim)
    have hfin := H8.out.setL (fs := rDrop nm.data.toList r.fs) (v := .slice A8 m8 c8) (cs := ([] ++ cs.take (i * 3)) ++ cs.drop ((i + 1) * 3)) (by rw [hle]; exact own_low HO8.out) (by rw [hfs]; exact (hF8.take i).append (hF8.drop _)) (Av.of_row HO8.out (fun k hk => Nat.lt_of_lt_of_le (HX.out k hk) HB2.out.size)) (by rw [hle, ← HM8.out]; have := HIL.out; have := HS.out; omega)
    exact ⟨rfl, hfin.1, (Fr.of_below (HB2.out.trans (HB8.out.mono HB2.out.size))).trans hfin.2⟩
def Drcopy.T1 : Bool × List (List Nat × List Nat) := (true, [([], []), ([0], [0]), ([1], [1]), ([2], [2]), ([3], [3]), ([], []), ([5], [5]), ([6], [6]), ([7], [7]), ([], []), ([9], [9]), ([10], [10]), ([11], [11]), ([4, 8, 12], [4, 8, 12]), ([13], [13]), ([14, 4, 0, 1, 2, 3, 4, 5, 6, 7, 8, 9, 10, 11, 12, 13, 14], [14])])
def Drcopy.B1 : List Nat := [0, 1, 3, 7, 15, 0, 32, 96, 224, 0, 512, 1536, 3584, 8191, 16383, 32767]
theorem Drcopy.tab1 : rtab .any (opsOf Try.f38 1) = Drcopy.T1 := by kernel_rfl
theorem Drcopy.bits1 : waitsOk Drcopy.T1.2 Drcopy.B1 = true := by kernel_rfl
set_option maxHeartbeats 4000000 in
set_option maxRecDepth 100000 in
theorem rCopy_calls {w : World} {q : Nat} {r : Rk} (h : IsR X w q r) (hX : ∀ k, X k → k < w.heap.size) : Calls Try.prog 38 #[.pointer (some ⟨q, 0, none⟩)] w fun e w' => ∃ q', e = .returned (.pointer (some ⟨q', 0, none⟩)) ∧ IsR X w' q' r ∧ Below w.heap.size w w' ∧ w.heap.size ≤ q' := by
  have HS := Aside0.mk h.small
  have HX := Aside0.mk hX
  clear hX
  have H := Aside0.mk h
  obtain ⟨A0, c0, ⟨_, hc1, hc2⟩, _⟩ := h.cells
  obtain ⟨A, c, cs, hc0, hnc, hcs, hsrc⟩ := h.src
  have HCS := Aside0.mk hcs
  have HSRC := Aside0.mk hsrc
  have HNC := Aside0.mk hnc
  have HC := Aside0.mk (show ∀ w', Below w.heap.size w w' → w'.cell? ⟨q, 0, none⟩ = some (.slice A r.fs.length c) ∧ w'.cell? ⟨q, 1, none⟩ = some (.int .i64 r.room) ∧ w'.cell? ⟨q, 2, none⟩ = some (.int .i64 r.left) from fun w' hb => ⟨(hb.cell (World.block_lt_of_cell? w _ hc0)).trans hc0, (hb.cell (World.block_lt_of_cell? w _ hc1)).trans hc1, (hb.cell (World.block_lt_of_cell? w _ hc2)).trans hc2⟩)
  clear h hcs hsrc hnc hc0 hc1 hc2
  go_enter Try.func38, Try.ntmps38
  go_wp2_with fail
  refine start_ (n := 16) (S := fun w' => w'.cell? ⟨q, 0, none⟩ = some (.slice A r.fs.length c) ∧ w'.cell? ⟨q, 1, none⟩ = some (.int .i64 r.room) ∧ w'.cell? ⟨q, 2, none⟩ = some (.int .i64 r.left)) (ds := []) #[false, false, false, false, false, false, false, false, false, false, false, false, false, false, false, false] (by kernel_rfl) rfl rfl (HC.out _ ((Below.refl _ _).drew)) (fun hHeld => ?_); refine with_tabW Drcopy.tab1 Drcopy.bits1 (fun HT_ HW_ => ?_)
  have HBd := Aside0.mk ((Below.refl w.heap.size w).drew)
  generalize World.drew _ = w3 at HBd hHeld ⊢
  refine pure_ (i := 0) (N := some 3) (v := ?_) (a' := ?_) #[true, false, false, false, false, false, false, false, false, false, false, false, false, false, false, false] rfl rfl (any_of HT_.out (by kernel_rfl)) (fun _ _ _ h => h) (Or.inl ⟨by rfl, ?_⟩) ?_ ?_
  rotate_left
  · intro w'
    go_simp
    with_reducible rfl
  rotate_left
  · simp only [Act.put, List.setIfInBounds_toArray, List.set_cons_zero, List.set_cons_succ, i64_w, i32_w]
    rfl
  refine pure_ (i := 1) (N := some 4) (v := ?_) (a' := ?_) #[true, true, false, false, false, false, false, false, false, false, false, false, false, false, false, false] rfl rfl (any_of HT_.out (by kernel_rfl)) (fun _ _ _ h => h) (Or.inl ⟨by rfl, ?_⟩) ?_ ?_
  rotate_left
  · intro w'
    go_simp
    with_reducible rfl
  rotate_left
  · simp only [Act.put, List.setIfInBounds_toArray, List.set_cons_zero, List.set_cons_succ, i64_w, i32_w]
    rfl
  refine pure_ (i := 2) (N := some 5) (v := ?_) (a' := ?_) #[true, true, true, false, false, false, false, false, false, false, false, false, false, false, false, false] rfl rfl (any_of HT_.out (by kernel_rfl)) (fun _ _ _ h => h) (Or.inl ⟨by rfl, ?_⟩) ?_ ?_
  rotate_left
  · intro w'
    go_simp
    with_reducible rfl
  rotate_left
  · simp only [Act.put, List.setIfInBounds_toArray, List.set_cons_zero, List.set_cons_succ, i64_w, i32_w]
    rfl
  refine take_ (i := 3) (N := some 6) (v := ?_) (a' := ?_) #[true, true, true, true, false, false, false, false, false, false, false, false, false, false, false, false] rfl rfl (take_ofW HT_.out HW_.out (by kernel_rfl)) (fun _ _ _ h => h) (Or.inl ⟨by rfl, ?_⟩) hHeld ?_ ?_
  rotate_left
  · rintro w' ⟨s0, s1, s2⟩
    go_simp
    with_reducible rfl
  rotate_left
  · simp only [Act.put, List.setIfInBounds_toArray, List.set_cons_zero, List.set_cons_succ, i64_w, i32_w]
    rfl
  refine pure_ (i := 5) (N := some 8) (v := ?_) (a' := ?_) #[true, true, true, true, false, true, false, false, false, false, false, false, false, false, false, false] rfl rfl (any_of HT_.out (by kernel_rfl)) (fun _ _ _ h => h) (Or.inl ⟨by rfl, ?_⟩) ?_ ?_
  rotate_left
  · intro w'
    go_simp
    with_reducible rfl
  rotate_left
  · simp only [Act.put, List.setIfInBounds_toArray, List.set_cons_zero, List.set_cons_succ, i64_w, i32_w]
    rfl
  refine pure_ (i := 6) (N := some 9) (v := ?_) (a' := ?_) #[true, true, true, true, false, true, true, false, false, false, false, false, false, false, false, false] rfl rfl (any_of HT_.out (by kernel_rfl)) (fun _ _ _ h => h) (Or.inl ⟨by rfl, ?_⟩) ?_ ?_
  rotate_left
  · intro w'
    go_simp
    with_reducible rfl
  rotate_left
  · simp only [Act.put, List.setIfInBounds_toArray, List.set_cons_zero, List.set_cons_succ, i64_w, i32_w]
    rfl
  refine pure_ (i := 7) (N := some 10) (v := ?_) (a' := ?_) #[true, true, true, true, false, true, true, true, false, false, false, false, false, false, false, false] rfl rfl (any_of HT_.out (by kernel_rfl)) (fun _ _ _ h => h) (Or.inl ⟨by rfl, ?_⟩) ?_ ?_
  rotate_left
  · intro w'
    go_simp
    with_reducible rfl
  rotate_left
  · simp only [Act.put, List.setIfInBounds_toArray, List.set_cons_zero, List.set_cons_succ, i64_w, i32_w]
    rfl
  refine take_ (i := 8) (N := some 11) (v := ?_) (a' := ?_) #[true, true, true, true, false, true, true, true, true, false, false, false, false, false, false, false] rfl rfl (take_ofW HT_.out HW_.out (by kernel_rfl)) (fun _ _ _ h => h) (Or.inl ⟨by rfl, ?_⟩) hHeld ?_ ?_
  rotate_left
  · rintro w' ⟨s0, s1, s2⟩
    go_simp
    with_reducible rfl
  rotate_left
  · simp only [Act.put, List.setIfInBounds_toArray, List.set_cons_zero, List.set_cons_succ, i64_w, i32_w]
    rfl
  refine pure_ (i := 9) (N := some 12) (v := ?_) (a' := ?_) #[true, true, true, true, false, true, true, true, true, true, false, false, false, false, false, false] rfl rfl (any_of HT_.out (by kernel_rfl)) (fun _ _ _ h => h) (Or.inl ⟨by rfl, ?_⟩) ?_ ?_
  rotate_left
  · intro w'
    go_simp
    with_reducible rfl
  rotate_left
  · simp only [Act.put, List.setIfInBounds_toArray, List.set_cons_zero, List.set_cons_succ, i64_w, i32_w]
    rfl
  refine pure_ (i := 10) (N := some 13) (v := ?_) (a' := ?_) #[true, true, true, true, false, true, true, true, true, true, true, false, false, false, false, false] rfl rfl (any_of HT_.out (by kernel_rfl)) (fun _ _ _ h => h) (Or.inl ⟨by rfl, ?_⟩) ?_ ?_
  rotate_left
  · intro w'
    go_simp
    with_reducible rfl
  rotate_left
  · simp only [Act.put, List.setIfInBounds_toArray, List.set_cons_zero, List.set_cons_succ, i64_w, i32_w]
    rfl
  refine pure_ (i := 11) (N := some 14) (v := ?_) (a' := ?_) #[true, true, true, true, false, true, true, true, true, true, true, true, false, false, false, false] rfl rfl (any_of HT_.out (by kernel_rfl)) (fun _ _ _ h => h) (Or.inl ⟨by rfl, ?_⟩) ?_ ?_
  rotate_left
  · intro w'
    go_simp
    with_reducible rfl
  rotate_left
  · simp only [Act.put, List.setIfInBounds_toArray, List.set_cons_zero, List.set_cons_succ, i64_w, i32_w]
    rfl
  refine take_ (i := 12) (N := some 15) (v := ?_) (a' := ?_) #[true, true, true, true, false, true, true, true, true, true, true, true, true, false, false, false] rfl rfl (take_ofW HT_.out HW_.out (by kernel_rfl)) (fun _ _ _ h => h) (Or.inl ⟨by rfl, ?_⟩) hHeld ?_ ?_
  rotate_left
  · rintro w' ⟨s0, s1, s2⟩
    go_simp
    with_reducible rfl
  rotate_left
  · simp only [Act.put, List.setIfInBounds_toArray, List.set_cons_zero, List.set_cons_succ, i64_w, i32_w]
    rfl
  refine one_ (i := 4) (N := some 7) #[true, true, true, true, true, true, true, true, true, true, true, true, true, false, false, false] rfl rfl (one_of HT_.out (by kernel_rfl)) (by decide) (fun K hK => ?_)
  obtain ⟨v7, w4, hrun4, ho4, hg4⟩ := app80 (w := w3) (base := w.heap.size) 74 (World.ownsRow_nil _ _ _ _) HBd.out.size (HSRC.out r.fs.length (Nat.le_refl _) w3 HBd.out).1 (by have := HS.out; omega)
  have HB4 := Aside0.mk (HBd.out.grown hg4 HBd.out.size (fun k e => by cases e))
  have HR4 := Aside0.mk hrun4
  obtain ⟨A8, c8, e8⟩ := own_sl ho4
  rw [Nat.zero_add] at ho4 e8
  have HO4 := Aside0.mk ho4
  subst e8
  refine bapp_ #[.slice none 0 0, .slice A r.fs.length c] (by rfl) (by (try simp only [List.map_toArray, List.map_cons, List.map_nil]); first | done | rfl) (by rfl) rfl HR4.out ?_
  clear hrun4 ho4 hg4
  refine hK.out _ _ (HC.out _ HB4.out) (fun hHeld => ?_)
  clear hK K
  refine norm_ (a' := ?_) ?_ ?_
  rotate_left
  · show Act.put _ (some 7) _ = _
    simp only [Act.put, List.setIfInBounds_toArray, List.set_cons_zero, List.set_cons_succ, i64_w, i32_w]
    rfl
  refine pure_ (i := 13) (N := some 16) (v := ?_) (a' := ?_) #[true, true, true, true, true, true, true, true, true, true, true, true, true, true, false, false] rfl rfl (any_of HT_.out (by kernel_rfl)) (fun _ _ _ h => h) (Or.inl ⟨by rfl, ?_⟩) ?_ ?_
  rotate_left
  · intro w'
    go_simp
    with_reducible rfl
  rotate_left
  · simp only [Act.put, List.setIfInBounds_toArray, List.set_cons_zero, List.set_cons_succ, i64_w, i32_w]
    rfl
  refine one_ (i := 14) (N := some 17) #[true, true, true, true, true, true, true, true, true, true, true, true, true, true, true, false] rfl rfl (one_of HT_.out (by kernel_rfl)) (by decide) (fun K hK => ?_)
  refine value_ (v := .pointer (some ⟨w4.heap.size, 0, none⟩)) (w1 := w4.alloc (.cells #[.slice A8 r.fs.length c8, .int .i64 r.room, .int .i64 r.left] 76)) (by rfl) rfl ?_ ?_
  · go_simp
    first | done | rfl | simp [Result.andThen]
  have HB5 := Aside0.mk (HB4.out.alloc HB4.out.size (.cells #[.slice A8 r.fs.length c8, .int .i64 r.room, .int .i64 r.left] 76))
  refine hK.out _ _ (HC.out _ HB5.out) (fun hHeld => ?_)
  clear hK K
  refine norm_ (a' := ?_) ?_ ?_
  rotate_left
  · show Act.put _ (some 17) _ = _
    simp only [Act.put, List.setIfInBounds_toArray, List.set_cons_zero, List.set_cons_succ, i64_w, i32_w]
    rfl
  refine pure_ (i := 15) (N := some 2) (v := ?_) (a' := ?_) #[true, true, true, true, true, true, true, true, true, true, true, true, true, true, true, true] rfl rfl (any_of HT_.out (by kernel_rfl)) (fun _ _ _ h => h) (Or.inl ⟨by rfl, ?_⟩) ?_ ?_
  rotate_left
  · intro w'
    go_simp
    with_reducible rfl
  rotate_left
  · simp only [Act.put, List.setIfInBounds_toArray, List.set_cons_zero, List.set_cons_succ, i64_w, i32_w]
    rfl
  refine done_ (done_of HT_.out (by kernel_rfl)) ?_
  clear hHeld
  go_wp2_with fail
  go_ret
  have h := H.out
  have hF := HCS.out.fr (M := fun _ => False) (Fr.of_below HB5.out) (fun _ _ h => h.elim)
  refine ⟨w4.heap.size, rfl, ⟨⟨.slice A8 r.fs.length c8, [] ++ cs.take (r.fs.length * 3), heap_alloc_new w4 _, own_low (HO4.out.alloc _), ?_, Av.of_row HO4.out HX.out⟩, h.small, h.room0, h.room1, h.left0, h.left1⟩, HB5.out, HB4.out.size⟩
  have := hF.take r.fs.length
  rw [List.take_length] at this
  exact this
end Go.Proofs.Ytihbgdobicokpaa.D
namespace Go.Proofs.Ytihbgdobicokpaa.D
open Go.RowKit Go.Maps Go.Proofs.Ytihbgdobicokpaa.X Go.Proofs.YtihbgdobicokpaaW.PrintWords Go.Proofs.YtihbgdobicokpaaW.PrintLast Go.Proofs.YtihbgdobicokpaaW.PrintMore
attribute [local go_sem] max2_int min2_int max_two min_two max_three min_three max_four min_four   -- for this text's walks alone
set_option linter.unusedVariables false
set_option linter.unusedSimpArgs false
variable {X : Nat → Prop}
theorem named_f (nm : ByteArray) : leatref2_named.f nm = some (nmOk nm.data.toList) := by
  unfold leatref2_named.f nmOk
  have e : nm.size = nm.data.toList.length := by rw [Array.length_toList]; rfl
  rw [e]
  by_cases c : 1 ≤ nm.data.toList.length
  · rw [if_pos (by omega), decide_eq_true c, Bool.true_and]
    congr 1
    rw [decide_eq_decide]
    omega
  · rw [if_neg (by omega), decide_eq_false c, Bool.false_and]
def atF (n : Nm) (fs : List Fl) : Fl := (fs[posF n fs]?).getD ⟨[], [], 0⟩
theorem atF_is {n : Nm} {fs : List Fl} (h : hasF n fs = true) : fs[posF n fs]? = some (atF n fs) ∧ (atF n fs).n = n := by
  unfold hasF at h
  unfold atF
  cases hc : fs[posF n fs]? with
  | none => rw [hc] at h; cases h
  | some f => rw [hc] at h; exact ⟨rfl, by simpa using h⟩
def rrd (r : Rk) (n : Nm) : List Int × Int := if r.left = 0 then ([], 23) else if hasF n r.fs = true then ((atF n r.fs).b, 0) else ([], 20)
theorem IsR.found {w : World} {q : Nat} {r : Rk} (h : IsR X w q r) {n : Nm} (hh : hasF n r.fs = true) : ∃ ad sl c, posF n r.fs < r.fs.length ∧ FC X w (atF n r.fs) [.string ⟨(atF n r.fs).n.toArray⟩, sl, .int .i64 (atF n r.fs).s] ∧ ∀ w', Below w.heap.size w w' → w'.cell? ⟨q, 0, none⟩ = some (.slice (some ad) r.fs.length c) ∧ w'.cell? (ad.add (posF n r.fs * 3)) = some (.string ⟨(atF n r.fs).n.toArray⟩) ∧ w'.cell? ⟨(ad.add (posF n r.fs * 3)).block, (ad.add (posF n r.fs * 3)).off + 1, none⟩ = some sl ∧ w'.cell? ⟨(ad.add (posF n r.fs * 3)).block, (ad.add (posF n r.fs * 3)).off + 2, none⟩ = some (.int .i64 (atF n r.fs).s) := by
  obtain ⟨A, c, ⟨hc0, _⟩, _, _, hcell⟩ := h.cells
  obtain ⟨ad, sl, rfl, g0, g1, g2, hf⟩ := hcell _ _ (atF_is hh).1
  exact ⟨ad, sl, c, hasF_lt hh, hf, fun w' hb => ⟨(hb.cell (World.block_lt_of_cell? w _ hc0)).trans hc0, (hb.cell (World.block_lt_of_cell? w _ g0)).trans g0, (hb.cell (World.block_lt_of_cell? w _ g1)).trans g1, (hb.cell (World.block_lt_of_cell? w _ g2)).trans g2⟩⟩
set_option maxHeartbeats 4000000 in
set_option maxRecDepth 100000 in
theorem rRead_calls {w : World} {q : Nat} {r : Rk} (h : IsR X w q r) (nm : ByteArray) : Calls Try.prog 33 #[.pointer (some ⟨q, 0, none⟩), .string nm] w fun e w' => ∃ v, e = .returned (.tuple #[v, .int .i64 (rrd r nm.data.toList).2]) ∧ IsB w' v (rrd r nm.data.toList).1 ∧ Below w.heap.size w w' := by
  have K1 := rDead_calls h
  have H := Aside0.mk h
  unfold rrd
  by_cases c0 : r.left = 0
  · rw [decide_eq_true c0] at K1
    rw [if_pos c0]
    clear h
    go_enter Try.func33, Try.ntmps33
    go_wp2_with (go_at_call 47; refine K1.mono ?_; rintro e w1 ⟨rfl, rfl⟩)
    go_ret2
    exact ⟨_, rfl, Or.inl ⟨rfl, rfl⟩, Below.refl _ _⟩
  · rw [decide_eq_false c0] at K1
    rw [if_neg c0]
    by_cases hh : hasF nm.data.toList r.fs = true
    · rw [if_pos hh]
      obtain ⟨ad, sl, c, hlt, hfc, hcells⟩ := h.found hh
      have HFC := Aside0.mk hfc
      have HCE := Aside0.mk hcells
      obtain ⟨sl0, esl, hBsl, _⟩ := hfc
      injection esl with _ esl
      injection esl with esl _
      subst esl
      obtain ⟨Asl, csl, rfl, _⟩ := hBsl.slice
      have K2 := rat_calls h nm
      rw [hh] at K2
      clear h hcells hBsl
      generalize posF nm.data.toList r.fs = i at hlt HCE K2
      have hlz : (i : Int) < (r.fs.length : Int) := by omega
      go_enter Try.func33, Try.ntmps33
      go_wp2_with (first
        | (go_at_call 47; refine K1.mono ?_; rintro e w1 ⟨rfl, rfl⟩)
        | (go_at_call 49; refine K2.mono ?_; rintro e w2 ⟨rfl, hb2⟩; have HB2 := Aside0.mk hb2; obtain ⟨g0, g1, g2, g3⟩ := HCE.out w2 hb2; clear hb2))
      go_ret2
      obtain ⟨sl1, esl1, hB1, _⟩ := HFC.out
      injection esl1 with _ esl1
      injection esl1 with esl1 _
      rw [← esl1] at hB1
      exact ⟨_, rfl, hB1.below HB2.out, HB2.out⟩
    · have hh' : hasF nm.data.toList r.fs = false := by simpa using hh
      rw [if_neg hh]
      have K2 := rat_calls h nm
      rw [hh'] at K2
      clear h
      go_enter Try.func33, Try.ntmps33
      go_wp2_with (first
        | (go_at_call 47; refine K1.mono ?_; rintro e w1 ⟨rfl, rfl⟩)
        | (go_at_call 49; refine K2.mono ?_; rintro e w2 ⟨rfl, hb2⟩; have HB2 := Aside0.mk hb2; clear hb2))
      go_ret2
      exact ⟨_, rfl, Or.inl ⟨rfl, rfl⟩, HB2.out⟩
def rdl (r : Rk) (n : Nm) : Int × Rk := if r.left = 0 then (23, r) else if hasF n r.fs = true then (0, rdone { r with fs := rDrop n r.fs }) else (20, r)
set_option maxHeartbeats 4000000 in
set_option maxRecDepth 100000 in
theorem rDelete_calls {w : World} {q : Nat} {r : Rk} (h : IsR X w q r) (hX : ∀ k, X k → k < w.heap.size) (nm : ByteArray) : Calls Try.prog 32 #[.pointer (some ⟨q, 0, none⟩), .string nm] w fun e w' => e = .returned (.int .i64 (rdl r nm.data.toList).1) ∧ IsR X w' q (rdl r nm.data.toList).2 ∧ Fr (fun k => k = q) w w' := by
  have K1 := rDead_calls h
  have HX := Aside0.mk hX
  clear hX
  have H := Aside0.mk h
  unfold rdl
  by_cases c0 : r.left = 0
  · rw [decide_eq_true c0] at K1
    rw [if_pos c0]
    clear h
    go_enter Try.func32, Try.ntmps32
    go_wp2_with (go_at_call 47; refine K1.mono ?_; rintro e w1 ⟨rfl, rfl⟩)
    go_ret
    exact ⟨rfl, H.out, Fr.refl _ _⟩
  · rw [decide_eq_false c0] at K1
    rw [if_neg c0]
    have K2 := rat_calls h nm
    by_cases hh : hasF nm.data.toList r.fs = true
    · rw [if_pos hh]
      rw [hh] at K2
      clear h
      go_enter Try.func32, Try.ntmps32
      go_wp2_with (first
        | (go_at_call 47; refine K1.mono ?_; rintro e w1 ⟨rfl, rfl⟩)
        | (go_at_call 49; refine K2.mono ?_; rintro e w2 ⟨rfl, hb2⟩; have HB2 := Aside0.mk hb2; clear hb2)
        | (go_at_call 53; refine (rDrop_calls (H.out.below HB2.out) (fun k hk => Nat.lt_of_lt_of_le (HX.out k hk) HB2.out.size) nm).mono ?_; rintro e w3 ⟨rfl, h3, hf3⟩; have H3 := Aside0.mk h3; have HF3 := Aside0.mk hf3; clear h3 hf3)
        | (go_at_call 52; refine (rdone_calls H3.out).mono ?_; rintro e w4 ⟨rfl, h4, hf4⟩; have H4 := Aside0.mk h4; have HF4 := Aside0.mk hf4; clear h4 hf4))
      go_ret
      exact ⟨rfl, H4.out, (Fr.of_below HB2.out).trans (HF3.out.trans HF4.out)⟩
    · have hh' : hasF nm.data.toList r.fs = false := by simpa using hh
      rw [if_neg hh]
      rw [hh'] at K2
      clear h
      go_enter Try.func32, Try.ntmps32
      go_wp2_with (first
        | (go_at_call 47; refine K1.mono ?_; rintro e w1 ⟨rfl, rfl⟩)
        | (go_at_call 49; refine K2.mono ?_; rintro e w2 ⟨rfl, hb2⟩; have HB2 := Aside0.mk hb2; clear hb2))
      go_ret
      exact ⟨rfl, H.out.below HB2.out, Fr.of_below HB2.out⟩
theorem name_back (nm : ByteArray) : (⟨nm.data.toList.toArray⟩ : ByteArray) = nm := by cases nm; simp
theorem nmOk_le {nm : ByteArray} (h : nmOk nm.data.toList = true) : nm.data.toList.length ≤ maxLen := by
  unfold nmOk at h
  rw [Bool.and_eq_true, decide_eq_true_eq, decide_eq_true_eq] at h
  unfold maxLen
  omega
def rsy (r : Rk) (n : Nm) : Int × Rk := if r.left = 0 then (23, r) else if hasF n r.fs = true then (0, rdone { r with fs := rPut ⟨n, (atF n r.fs).b, (atF n r.fs).b.length⟩ r.fs }) else (20, r)
def Drsync.T6 : Bool × List (List Nat × List Nat) := (true, [([], []), ([], []), ([], []), ([2], [2]), ([3], [3]), ([4], [4]), ([], []), ([5, 6], [5, 6]), ([7], [7]), ([8], [8]), ([], []), ([10], [10]), ([11], [11]), ([12], [12]), ([], []), ([13, 14], [13, 14]), ([15], [15]), ([16], [16]), ([17], [17]), ([1, 9, 18], [1, 9, 18]), ([0, 19], [0, 19])])
def Drsync.B6 : List Nat := [0, 0, 0, 4, 12, 28, 0, 124, 252, 508, 0, 1024, 3072, 7168, 0, 31744, 64512, 130048, 261120, 524286, 1048575]
theorem Drsync.tab6 : rtab .any (opsOf Try.f30 6) = Drsync.T6 := by kernel_rfl
theorem Drsync.bits6 : waitsOk Drsync.T6.2 Drsync.B6 = true := by kernel_rfl
set_option maxHeartbeats 4000000 in
set_option maxRecDepth 100000 in
theorem rSync_calls {w : World} {q : Nat} {r : Rk} (h : IsR X w q r) (hX : ∀ k, X k → k < w.heap.size) (hs : r.fs.length < 1000000) (nm : ByteArray) : Calls Try.prog 30 #[.pointer (some ⟨q, 0, none⟩), .string nm] w fun e w' => e = .returned (.int .i64 (rsy r nm.data.toList).1) ∧ IsR X w' q (rsy r nm.data.toList).2 ∧ Fr (fun k => k = q) w w' := by
  have K1 := rDead_calls h
  have HX := Aside0.mk hX
  clear hX
  have H := Aside0.mk h
  have HS := Aside0.mk hs
  clear hs
  unfold rsy
  by_cases c0 : r.left = 0
  · rw [decide_eq_true c0] at K1
    rw [if_pos c0]
    clear h
    go_enter Try.func30, Try.ntmps30
    go_wp2_with (go_at_call 47; refine K1.mono ?_; rintro e w1 ⟨rfl, rfl⟩)
    go_ret
    exact ⟨rfl, H.out, Fr.refl _ _⟩
  · rw [decide_eq_false c0] at K1
    rw [if_neg c0]
    have K2 := rat_calls h nm
    by_cases hh : hasF nm.data.toList r.fs = true
    · rw [if_pos hh]
      rw [hh] at K2
      obtain ⟨ad, sl, c, hlt, hfc, hcells⟩ := h.found hh
      have HFC := Aside0.mk hfc
      have HCE := Aside0.mk hcells
      have HAT := Aside0.mk (atF_is hh).2
      obtain ⟨sl0, esl, hBsl, _⟩ := hfc
      injection esl with _ esl
      injection esl with esl _
      subst esl
      obtain ⟨Asl, csl, rfl, _⟩ := hBsl.slice
      clear h hcells hBsl
      generalize posF nm.data.toList r.fs = i at hlt HCE K2
      generalize atF nm.data.toList r.fs = f at HCE HFC HAT
      have hlz : (i : Int) < (r.fs.length : Int) := by omega
      go_enter Try.func30, Try.ntmps30
      go_wp2_with (first
        | (go_at_call 47; refine K1.mono ?_; rintro e w1 ⟨rfl, rfl⟩)
        | (go_at_call 49; refine K2.mono ?_; rintro e w2 ⟨rfl, hb2⟩; have HB2 := Aside0.mk hb2; clear hb2))
      refine start_ (n := 21) (S := fun w' => w'.cell? ⟨q, 0, none⟩ = some (.slice (some ad) r.fs.length c) ∧ w'.cell? ⟨(ad.add (i * 3)).block, (ad.add (i * 3)).off + 1, none⟩ = some (.slice Asl f.b.length csl)) (ds := [20]) #[false, false, false, false, false, false, false, false, false, false, false, false, false, false, false, false, false, false, false, false, false] (by kernel_rfl) rfl rfl ⟨(HCE.out _ HB2.out.drew).1, (HCE.out _ HB2.out.drew).2.2.1⟩ (fun hHeld => ?_); refine with_tabW Drsync.tab6 Drsync.bits6 (fun HT_ HW_ => ?_)
      have HBd := Aside0.mk (HB2.out.drew)
      clear HB2
      generalize World.drew _ = w3 at HBd hHeld ⊢
      refine pure_ (i := 0) (N := some 17) (v := ?_) (a' := ?_) #[true, false, false, false, false, false, false, false, false, false, false, false, false, false, false, false, false, false, false, false, false] rfl rfl (any_of HT_.out (by kernel_rfl)) (fun _ _ _ h => h) (Or.inl ⟨by rfl, ?_⟩) ?_ ?_
      rotate_left
      · intro w'
        go_simp
        with_reducible rfl
      rotate_left
      · simp only [Act.put, List.setIfInBounds_toArray, List.set_cons_zero, List.set_cons_succ, i64_w, i32_w]
        rfl
      refine pure_ (i := 1) (N := some 18) (v := ?_) (a' := ?_) #[true, true, false, false, false, false, false, false, false, false, false, false, false, false, false, false, false, false, false, false, false] rfl rfl (any_of HT_.out (by kernel_rfl)) (fun _ _ _ h => h) (Or.inl ⟨by rfl, ?_⟩) ?_ ?_
      rotate_left
      · intro w'
        go_simp
        with_reducible rfl
      rotate_left
      · simp only [Act.put, List.setIfInBounds_toArray, List.set_cons_zero, List.set_cons_succ, i64_w, i32_w]
        rfl
      refine pure_ (i := 2) (N := some 19) (v := ?_) (a' := ?_) #[true, true, true, false, false, false, false, false, false, false, false, false, false, false, false, false, false, false, false, false, false] rfl rfl (any_of HT_.out (by kernel_rfl)) (fun _ _ _ h => h) (Or.inl ⟨by rfl, ?_⟩) ?_ ?_
      rotate_left
      · intro w'
        go_simp
        with_reducible rfl
      rotate_left
      · simp only [Act.put, List.setIfInBounds_toArray, List.set_cons_zero, List.set_cons_succ, i64_w, i32_w]
        rfl
      refine pure_ (i := 3) (N := some 20) (v := ?_) (a' := ?_) #[true, true, true, true, false, false, false, false, false, false, false, false, false, false, false, false, false, false, false, false, false] rfl rfl (any_of HT_.out (by kernel_rfl)) (fun _ _ _ h => h) (Or.inl ⟨by rfl, ?_⟩) ?_ ?_
      rotate_left
      · intro w'
        go_simp
        with_reducible rfl
      rotate_left
      · simp only [Act.put, List.setIfInBounds_toArray, List.set_cons_zero, List.set_cons_succ, i64_w, i32_w]
        rfl
      refine pure_ (i := 4) (N := some 21) (v := ?_) (a' := ?_) #[true, true, true, true, true, false, false, false, false, false, false, false, false, false, false, false, false, false, false, false, false] rfl rfl (any_of HT_.out (by kernel_rfl)) (fun _ _ _ h => h) (Or.inl ⟨by rfl, ?_⟩) ?_ ?_
      rotate_left
      · intro w'
        go_simp
        with_reducible rfl
      rotate_left
      · simp only [Act.put, List.setIfInBounds_toArray, List.set_cons_zero, List.set_cons_succ, i64_w, i32_w]
        rfl
      refine take_ (i := 5) (N := some 22) (v := ?_) (a' := ?_) #[true, true, true, true, true, true, false, false, false, false, false, false, false, false, false, false, false, false, false, false, false] rfl rfl (take_ofW HT_.out HW_.out (by kernel_rfl)) (fun _ _ _ h => h) (Or.inl ⟨by rfl, ?_⟩) hHeld ?_ ?_
      rotate_left
      · rintro w' ⟨s0, s1⟩
        go_simp
        with_reducible rfl
      rotate_left
      · simp only [Act.put, List.setIfInBounds_toArray, List.set_cons_zero, List.set_cons_succ, i64_w, i32_w]
        rfl
      refine pure_ (i := 6) (N := some 23) (v := ?_) (a' := ?_) #[true, true, true, true, true, true, true, false, false, false, false, false, false, false, false, false, false, false, false, false, false] rfl rfl (any_of HT_.out (by kernel_rfl)) (fun _ _ _ h => h) (Or.inl ⟨by rfl, ?_⟩) ?_ ?_
      rotate_left
      · intro w'
        go_simp
        with_reducible rfl
      rotate_left
      · simp only [Act.put, List.setIfInBounds_toArray, List.set_cons_zero, List.set_cons_succ, i64_w, i32_w]
        rfl
      refine pure_ (i := 7) (N := some 24) (v := ?_) (a' := ?_) #[true, true, true, true, true, true, true, true, false, false, false, false, false, false, false, false, false, false, false, false, false] rfl rfl (any_of HT_.out (by kernel_rfl)) (fun _ _ _ h => h) (Or.inl ⟨by rfl, ?_⟩) ?_ ?_
      rotate_left
      · intro w'
        go_simp
        with_reducible rfl
      rotate_left
      · simp only [Act.put, List.setIfInBounds_toArray, List.set_cons_zero, List.set_cons_succ, i64_w, i32_w]
        rfl
      refine pure_ (i := 8) (N := some 25) (v := ?_) (a' := ?_) #[true, true, true, true, true, true, true, true, true, false, false, false, false, false, false, false, false, false, false, false, false] rfl rfl (any_of HT_.out (by kernel_rfl)) (fun _ _ _ h => h) (Or.inl ⟨by rfl, ?_⟩) ?_ ?_
      rotate_left
      · intro w'
        go_simp
        with_reducible rfl
      rotate_left
      · simp only [Act.put, List.setIfInBounds_toArray, List.set_cons_zero, List.set_cons_succ, i64_w, i32_w]
        rfl
      refine take_ (i := 9) (N := some 26) (v := ?_) (a' := ?_) #[true, true, true, true, true, true, true, true, true, true, false, false, false, false, false, false, false, false, false, false, false] rfl rfl (take_ofW HT_.out HW_.out (by kernel_rfl)) (fun _ _ _ h => h) (Or.inl ⟨by rfl, ?_⟩) hHeld ?_ ?_
      rotate_left
      · rintro w' ⟨s0, s1⟩
        go_simp
        with_reducible rfl
      rotate_left
      · simp only [Act.put, List.setIfInBounds_toArray, List.set_cons_zero, List.set_cons_succ, i64_w, i32_w]
        rfl
      refine pure_ (i := 10) (N := some 27) (v := ?_) (a' := ?_) #[true, true, true, true, true, true, true, true, true, true, true, false, false, false, false, false, false, false, false, false, false] rfl rfl (any_of HT_.out (by kernel_rfl)) (fun _ _ _ h => h) (Or.inl ⟨by rfl, ?_⟩) ?_ ?_
      rotate_left
      · intro w'
        go_simp
        with_reducible rfl
      rotate_left
      · simp only [Act.put, List.setIfInBounds_toArray, List.set_cons_zero, List.set_cons_succ, i64_w, i32_w]
        rfl
      refine pure_ (i := 11) (N := some 28) (v := ?_) (a' := ?_) #[true, true, true, true, true, true, true, true, true, true, true, true, false, false, false, false, false, false, false, false, false] rfl rfl (any_of HT_.out (by kernel_rfl)) (fun _ _ _ h => h) (Or.inl ⟨by rfl, ?_⟩) ?_ ?_
      rotate_left
      · intro w'
        go_simp
        with_reducible rfl
      rotate_left
      · simp only [Act.put, List.setIfInBounds_toArray, List.set_cons_zero, List.set_cons_succ, i64_w, i32_w]
        rfl
      refine pure_ (i := 12) (N := some 29) (v := ?_) (a' := ?_) #[true, true, true, true, true, true, true, true, true, true, true, true, true, false, false, false, false, false, false, false, false] rfl rfl (any_of HT_.out (by kernel_rfl)) (fun _ _ _ h => h) (Or.inl ⟨by rfl, ?_⟩) ?_ ?_
      rotate_left
      · intro w'
        go_simp
        with_reducible rfl
      rotate_left
      · simp only [Act.put, List.setIfInBounds_toArray, List.set_cons_zero, List.set_cons_succ, i64_w, i32_w]
        rfl
      refine take_ (i := 13) (N := some 30) (v := ?_) (a' := ?_) #[true, true, true, true, true, true, true, true, true, true, true, true, true, true, false, false, false, false, false, false, false] rfl rfl (take_ofW HT_.out HW_.out (by kernel_rfl)) (fun _ _ _ h => h) (Or.inl ⟨by rfl, ?_⟩) hHeld ?_ ?_
      rotate_left
      · rintro w' ⟨s0, s1⟩
        go_simp
        with_reducible rfl
      rotate_left
      · simp only [Act.put, List.setIfInBounds_toArray, List.set_cons_zero, List.set_cons_succ, i64_w, i32_w]
        rfl
      refine pure_ (i := 14) (N := some 31) (v := ?_) (a' := ?_) #[true, true, true, true, true, true, true, true, true, true, true, true, true, true, true, false, false, false, false, false, false] rfl rfl (any_of HT_.out (by kernel_rfl)) (fun _ _ _ h => h) (Or.inl ⟨by rfl, ?_⟩) ?_ ?_
      rotate_left
      · intro w'
        go_simp
        with_reducible rfl
      rotate_left
      · simp only [Act.put, List.setIfInBounds_toArray, List.set_cons_zero, List.set_cons_succ, i64_w, i32_w]
        rfl
      refine pure_ (i := 15) (N := some 32) (v := ?_) (a' := ?_) #[true, true, true, true, true, true, true, true, true, true, true, true, true, true, true, true, false, false, false, false, false] rfl rfl (any_of HT_.out (by kernel_rfl)) (fun _ _ _ h => h) (Or.inl ⟨by rfl, ?_⟩) ?_ ?_
      rotate_left
      · intro w'
        go_simp
        with_reducible rfl
      rotate_left
      · simp only [Act.put, List.setIfInBounds_toArray, List.set_cons_zero, List.set_cons_succ, i64_w, i32_w]
        rfl
      refine pure_ (i := 16) (N := some 33) (v := ?_) (a' := ?_) #[true, true, true, true, true, true, true, true, true, true, true, true, true, true, true, true, true, false, false, false, false] rfl rfl (any_of HT_.out (by kernel_rfl)) (fun _ _ _ h => h) (Or.inl ⟨by rfl, ?_⟩) ?_ ?_
      rotate_left
      · intro w'
        go_simp
        with_reducible rfl
      rotate_left
      · simp only [Act.put, List.setIfInBounds_toArray, List.set_cons_zero, List.set_cons_succ, i64_w, i32_w]
        rfl
      refine take_ (i := 17) (N := some 34) (v := ?_) (a' := ?_) #[true, true, true, true, true, true, true, true, true, true, true, true, true, true, true, true, true, true, false, false, false] rfl rfl (take_ofW HT_.out HW_.out (by kernel_rfl)) (fun _ _ _ h => h) (Or.inl ⟨by rfl, ?_⟩) hHeld ?_ ?_
      rotate_left
      · rintro w' ⟨s0, s1⟩
        go_simp
        with_reducible rfl
      rotate_left
      · simp only [Act.put, List.setIfInBounds_toArray, List.set_cons_zero, List.set_cons_succ, i64_w, i32_w]
        rfl
      refine pure_ (i := 18) (N := some 35) (v := ?_) (a' := ?_) #[true, true, true, true, true, true, true, true, true, true, true, true, true, true, true, true, true, true, true, false, false] rfl rfl (any_of HT_.out (by kernel_rfl)) (fun _ _ _ h => h) (Or.inl ⟨by rfl, ?_⟩) ?_ ?_
      rotate_left
      · intro w'
        go_simp
        with_reducible rfl
      rotate_left
      · simp only [Act.put, List.setIfInBounds_toArray, List.set_cons_zero, List.set_cons_succ, i64_w, i32_w]
        rfl
      refine pure_ (i := 19) (N := some 36) (v := ?_) (a' := ?_) #[true, true, true, true, true, true, true, true, true, true, true, true, true, true, true, true, true, true, true, true, false] rfl rfl (any_of HT_.out (by kernel_rfl)) (fun _ _ _ h => h) (Or.inl ⟨by rfl, ?_⟩) ?_ ?_
      rotate_left
      · intro w'
        go_simp
        with_reducible rfl
      rotate_left
      · simp only [Act.put, List.setIfInBounds_toArray, List.set_cons_zero, List.set_cons_succ, i64_w, i32_w]
        rfl
      have HN := Aside0.mk (show FC X w3 ⟨nm.data.toList, f.b, f.b.length⟩ [.string ⟨nm.data.toList.toArray⟩, .slice Asl f.b.length csl, .int .i64 (f.b.length : Int)] from by
        obtain ⟨sl1, esl1, h1, h2, h3, h4, h5, h6⟩ := HFC.out.fr (M := fun _ => False) (Fr.of_below HBd.out) (fun _ _ h => h.elim)
        injection esl1 with _ esl1
        injection esl1 with esl1 _
        subst esl1
        exact ⟨_, rfl, h1, h2, by rw [← HAT.out]; exact h3, Int.natCast_nonneg _, Int.le_refl _, h6⟩)
      have KP := rPut_calls (H.out.below HBd.out) (fun k hk => Nat.lt_of_lt_of_le (HX.out k hk) HBd.out.size) HS.out HN.out
      simp only [name_back] at KP
      refine last_ (i := 20) (N := some 37) #[true, true, true, true, true, true, true, true, true, true, true, true, true, true, true, true, true, true, true, true, true] rfl rfl (one_of HT_.out (by kernel_rfl)) (by decide) (fun K hK => ?_)
      refine goes_ Try.func51 (by kernel_rfl) rfl #[.pointer (some ⟨q, 0, none⟩), .agg #[.string nm, .slice Asl f.b.length csl, .int .i64 (f.b.length : Int)]] (by rfl) rfl rfl (by (try simp only [List.map_toArray, List.map_cons, List.map_nil]); first | done | rfl) ?_
      refine (KP).mono ?_
      rintro e w4 ⟨rfl, h4, hf4⟩
      refine ⟨_, rfl, ?_⟩
      have H4 := Aside0.mk h4
      have HF4 := Aside0.mk ((Fr.of_below HBd.out).trans hf4)
      clear h4 hf4
      refine hK.out _ _ ?_
      clear hK K
      refine norm_ (a' := ?_) ?_ ?_
      rotate_left
      · show Act.put _ (some 37) _ = _
        simp only [Act.put, List.setIfInBounds_toArray, List.set_cons_zero, List.set_cons_succ, i64_w, i32_w]
        rfl
      refine done_ (done_of HT_.out (by kernel_rfl)) ?_
      clear hHeld
      go_wp2_with (go_at_call 52; refine (rdone_calls H4.out).mono ?_; rintro e w5 ⟨rfl, h5, hf5⟩; have H5 := Aside0.mk h5; have HF5 := Aside0.mk (HF4.out.trans hf5); clear h5 hf5)
      go_ret
      exact ⟨rfl, H5.out, HF5.out⟩
    · have hh' : hasF nm.data.toList r.fs = false := by simpa using hh
      rw [if_neg hh]
      rw [hh'] at K2
      clear h
      go_enter Try.func30, Try.ntmps30
      go_wp2_with (first
        | (go_at_call 47; refine K1.mono ?_; rintro e w1 ⟨rfl, rfl⟩)
        | (go_at_call 49; refine K2.mono ?_; rintro e w2 ⟨rfl, hb2⟩; have HB2 := Aside0.mk hb2; clear hb2))
      go_ret
      exact ⟨rfl, H.out.below HB2.out, Fr.of_below HB2.out⟩
end Go.Proofs.Ytihbgdobicokpaa.D
namespace Go.Proofs.Ytihbgdobicokpaa.D
open Go.RowKit Go.Maps Go.Proofs.Ytihbgdobicokpaa.X Go.Proofs.YtihbgdobicokpaaW.PrintWords Go.Proofs.YtihbgdobicokpaaW.PrintLast Go.Proofs.YtihbgdobicokpaaW.PrintMore
attribute [local go_sem] max2_int min2_int max_two min_two max_three min_three max_four min_four   -- for this text's walks alone
set_option linter.unusedVariables false
set_option linter.unusedSimpArgs false
variable {X : Nat → Prop}
theorem app5 {w : World} {A : Option Addr} {c : Nat} {bs : List Int} (ty : TypeId) (hC : Kd.C (Kd.int .u8) w A bs.length bs) (hc : bs.length ≤ c) (hl : bs.length ≤ 1048576) :
    ∃ v' w', (Builtin.append_ #[23, 23] ty #[.slice none 0 0, .slice A bs.length c]).run Try.prog w = .ok v' w' ∧ w'.ownsRow w.heap.size 5 1 v' bs.length (bs.map (Value.int .u8)) ∧ w.grownBy w' none := by
  obtain ⟨i0, hi, hz0, hz1, hz2⟩ := info_parts X.info5
  cases A with
  | none =>
    have h0 : bs = [] := by
      cases bs with
      | nil => rfl
      | cons x r => obtain ⟨ad, e, _⟩ := hC.2.2 (by simp); cases e
    subst h0
    refine ⟨.slice none 0 0, w, ?_, World.ownsRow_nil _ _ _ _, ⟨rfl, rfl, rfl, Nat.le_refl _, fun _ _ _ => rfl⟩⟩
    simp [Builtin.append_, run_underlying Try.underlying23, sizeOf, typeInfo, hi, Builtin.lenOf, Builtin.firstCells]
  | some a =>
    have hcell : ∀ j u, (bs.map (Value.int .u8))[j]? = some u → w.cell? (a.add j) = some u := fun j u hj => by
      rw [List.getElem?_map] at hj
      cases hx : bs[j]? with
      | none => rw [hx] at hj; cases hj
      | some x =>
        rw [hx] at hj
        cases hj
        obtain ⟨ad, e, h⟩ := hC.2.2 (by have := (List.getElem?_eq_some_iff.1 hx).1; omega)
        cases e
        obtain ⟨cs, h1, h2, h3⟩ := h j x hx
        have h2 : cs = [.int .u8 x] := h2
        subst h2
        have := h3 0 _ rfl
        simp only [Kd.int, Kd.scalar, Nat.mul_one, Nat.add_zero] at this
        exact this
    obtain ⟨v', w', g1, g2, g3, _⟩ := run_append_own (P := Try.prog) w w.heap.size 23 ty 5 i0 _ 1 _ Try.underlying23 hi hz0 hz1 hz2 rfl (by decide) (.slice none 0 0) 0 [] (World.ownsRow_nil _ _ _ _) a bs.length c (bs.map (Value.int .u8)) (by simp) hcell (by intro u hu; obtain ⟨x, _, rfl⟩ := List.mem_map.1 hu; rfl) (by unfold maxLen; omega) (by omega) (Nat.le_refl _)
    rw [Nat.zero_add, List.nil_append] at g2
    exact ⟨v', w', g1, g2, g3⟩
def wasF (n : Nm) (fs : List Fl) : Nat := if hasF n fs = true then (atF n fs).b.length else 0
def rwr (r : Rk) (n : Nm) (bs : List Int) : Int × Rk :=
  if r.left = 0 then (23, r) else if nmOk n = true then (if 1048576 < bs.length ∨ r.room < (total r.fs : Int) - wasF n r.fs + bs.length then (22, r) else (0, rdone { r with fs := rPut ⟨n, bs, 0⟩ r.fs })) else (21, r)
theorem rtotal_le {X : Nat → Prop} {w : World} {q : Nat} {r : Rk} (h : IsR X w q r) : total r.fs ≤ 1048576000000 := by
  obtain ⟨v, cs, _, _, h3, _⟩ := h.ex
  have hall : ∀ f ∈ r.fs, f.b.length ≤ 1048576 := by
    have key : ∀ {fs : List Fl} {cs : List Value}, FCs X w fs cs → ∀ f ∈ fs, f.b.length ≤ 1048576 := by
      intro fs cs hh
      induction hh with
      | nil => simp
      | cons hh _ ih =>
        intro f hf
        rcases List.mem_cons.1 hf with rfl | hf
        · obtain ⟨sl, _, _, _, _, _, _, h⟩ := hh; exact h
        · exact ih f hf
    exact key h3
  have hs : ∀ l : List Fl, (∀ f ∈ l, f.b.length ≤ 1048576) → total l ≤ l.length * 1048576 := by
    intro l
    induction l with
    | nil => intro _; simp [total]
    | cons f l ih => intro hh; have h1 := ih (fun g hg => hh g (by simp [hg])); have h2 := hh f (by simp); rw [total_cons]; simp only [List.length_cons]; omega
  have := hs r.fs hall
  have := h.small
  omega
def Drwr.T9 : Bool × List (List Nat × List Nat) := (true, [([], []), ([0], [0]), ([1], [1]), ([2], [2]), ([3], [3]), ([4, 3, 3], [3, 4]), ([3], [3]), ([5, 6, 3], [3, 5, 6]), ([3], [3]), ([8, 3], [3, 8]), ([7, 9, 3], [3, 7, 9]), ([3], [3]), ([11, 3], [3, 11]), ([12, 3], [3, 12]), ([13, 3], [3, 13]), ([10, 14, 3], [3, 10, 14]), ([3, 15], [3, 15])])
def Drwr.B9 : List Nat := [0, 1, 3, 7, 15, 31, 15, 127, 15, 271, 1023, 15, 2063, 6159, 14351, 32767, 65535]
theorem Drwr.tab9 : rtab .any (opsOf Try.f28 9) = Drwr.T9 := by kernel_rfl
theorem Drwr.bits9 : waitsOk Drwr.T9.2 Drwr.B9 = true := by kernel_rfl
set_option maxHeartbeats 4000000 in
set_option maxRecDepth 100000 in
theorem rWrite_calls {w : World} {q : Nat} {r : Rk} (h : IsR X w q r) (hX : ∀ k, X k → k < w.heap.size) (hs : r.fs.length < 1000000) (nm : ByteArray) {A : Option Addr} {cp : Nat} {bs : List Int} (hC : Kd.C (Kd.int .u8) w A bs.length bs) (hcp : bs.length ≤ cp) (hbl : bs.length ≤ 1000000000) :
    Calls Try.prog 28 #[.pointer (some ⟨q, 0, none⟩), .string nm, .slice A bs.length cp] w fun e w' => e = .returned (.int .i64 (rwr r nm.data.toList bs).1) ∧ IsR X w' q (rwr r nm.data.toList bs).2 ∧ Fr (fun k => k = q) w w' := by
  have K1 := rDead_calls h
  have KN := fun W => leatref2_named.calls nm _ W (named_f nm)
  have H := Aside0.mk h
  have HS := Aside0.mk hs
  have HX := Aside0.mk hX
  have HC := Aside0.mk hC
  have HCP := Aside0.mk hcp
  clear hs hX hC hcp
  obtain ⟨E, r', hRW⟩ : ∃ E r', rwr r nm.data.toList bs = (E, r') := ⟨_, _, rfl⟩
  rw [hRW]
  have HRW := Aside0.mk hRW
  clear hRW
  by_cases c0 : r.left = 0
  · rw [decide_eq_true c0] at K1
    have e : rwr r nm.data.toList bs = (23, r) := by unfold rwr; rw [if_pos c0]
    rw [HRW.out] at e
    cases e
    clear h
    go_enter Try.func28, Try.ntmps28
    go_wp2_with (go_at_call 47; refine K1.mono ?_; rintro e w1 ⟨rfl, rfl⟩)
    go_ret
    exact ⟨rfl, H.out, Fr.refl _ _⟩
  rw [decide_eq_false c0] at K1
  have C0 := Aside0.mk c0
  cases c1 : nmOk nm.data.toList with
  | false =>
    rw [c1] at KN
    have e : rwr r nm.data.toList bs = (21, r) := by unfold rwr; rw [if_neg c0, c1, if_neg (by decide)]
    rw [HRW.out] at e
    cases e
    clear h
    go_enter Try.func28, Try.ntmps28
    go_wp2_with (first
      | (go_at_call 47; refine K1.mono ?_; rintro e w1 ⟨rfl, rfl⟩)
      | (go_at_call 48; refine (KN _).mono ?_; rintro e w2 ⟨rfl, hb2⟩; have HB2 := Aside0.mk (drawn_below hb2); clear hb2))
    go_ret
    exact ⟨rfl, H.out.below HB2.out, Fr.of_below HB2.out⟩
  | true =>
    rw [c1] at KN
    have C1 := Aside0.mk c1
    have HN1 := Aside0.mk (nmOk_le c1)
    obtain ⟨hv, hhv⟩ : ∃ b, hasF nm.data.toList r.fs = b := ⟨_, rfl⟩
    obtain ⟨ws, hws⟩ : ∃ n, wasF nm.data.toList r.fs = n := ⟨_, rfl⟩
    have hwl : ws ≤ 1048576 := by
      rw [← hws]; unfold wasF
      split
      · rename_i hh
        obtain ⟨ad, sl, c, hlt, hfc, _⟩ := h.found hh
        obtain ⟨_, _, _, _, _, _, _, h8⟩ := hfc
        exact h8
      · omega
    have htl := rtotal_le h
    have e1 : wrap64 ((total r.fs : Int) - (ws : Int)) = (total r.fs : Int) - ws := by unfold wrap64; omega
    have e2 : wrap64 ((total r.fs : Int) - ws + (bs.length : Int)) = (total r.fs : Int) - ws + bs.length := by unfold wrap64; omega
    obtain ⟨U1, hUU⟩ : ∃ u, (total r.fs : Int) - ws = u := ⟨_, rfl⟩
    obtain ⟨U2, hVV⟩ : ∃ u, U1 + (bs.length : Int) = u := ⟨_, rfl⟩
    have HU1 := Aside0.mk (e1.trans hUU)
    have hU2 : wrap64 (U1 + (bs.length : Int)) = U2 := by rw [← hVV, ← hUU]; exact e2
    have HUU := Aside0.mk hUU
    have HVV := Aside0.mk hVV
    clear hUU hVV
    have HWS := Aside0.mk hws
    have HHV := Aside0.mk hhv
    have HWL := Aside0.mk hwl
    have HBL := Aside0.mk hbl
    clear e1 e2 hwl htl hws hhv
    have hfound := fun hh => h.found (n := nm.data.toList) hh
    have HFOUND := Aside0.mk hfound
    clear h hfound hbl
    go_enter Try.func28, Try.ntmps28
    go_wp2_with fail
    refine K1.mono ?_
    rintro e w1 ⟨rfl, rfl⟩
    go_wp2_with fail
    refine (KN _).mono ?_
    rintro e w2 ⟨rfl, hb2⟩
    have HB2 := Aside0.mk (drawn_below hb2)
    have H2 := Aside0.mk (H.out.drawn hb2)
    clear hb2
    go_wp2_with fail
    refine (rat_calls H2.out nm).mono ?_
    rintro e w3 ⟨rfl, hb3⟩
    have HB3 := Aside0.mk (HB2.out.trans (hb3.mono HB2.out.size))
    have H3 := Aside0.mk (H2.out.below hb3)
    clear hb3 H2 HB2
    rw [HHV.out]
    cases hv
    case' false =>
      have hw0 : ws = 0 := by rw [← HWS.out]; unfold wasF; rw [HHV.out]; rfl
      subst hw0
      have hU1 : wrap64 (total r.fs : Int) = U1 := by have := HU1.out; simpa using this
      go_wp2_with fail
    case' true =>
      obtain ⟨ad, sl, c, hlt, hfc, hcells⟩ := HFOUND.out HHV.out
      have hw0 : (atF nm.data.toList r.fs).b.length = ws := by rw [← HWS.out]; unfold wasF; rw [if_pos HHV.out]
      obtain ⟨sl0, esl, hBsl, _⟩ := hfc
      injection esl with _ esl
      injection esl with esl _
      subst esl
      obtain ⟨Asl, csl, rfl, _⟩ := hBsl.slice
      obtain ⟨g0, g1, g2, g3⟩ := hcells w3 HB3.out
      rw [hw0] at g2
      clear hcells hBsl
      generalize posF nm.data.toList r.fs = i at hlt g0 g1 g2 g3 ⊢
      have hlz : (i : Int) < (r.fs.length : Int) := by omega
      have hU1 : wrap64 ((total r.fs : Int) - (ws : Int)) = U1 := HU1.out
      go_wp2_with fail
      clear hlz g0 g1 g2 g3 hlt
    all_goals (
      by_cases c2 : 1048576 < (bs.length : Int)
      · have k2 : decide (1048576 < (bs.length : Int)) = true := decide_eq_true c2
        have k2n : decide (1048576 < bs.length) = true := decide_eq_true (by omega)
        have e : rwr r nm.data.toList bs = (22, r) := by unfold rwr; rw [if_neg C0.out, if_pos C1.out, if_pos (Or.inl (by omega))]
        rw [HRW.out] at e
        cases e
        clear hU1 hU2 c2
        refine start_ (n := 17) (S := fun w' => True) (ds := []) #[false, false, false, false, false, false, false, false, false, false, false, false, false, false, false, false, false] (by kernel_rfl) rfl rfl trivial (fun hHeld => ?_); refine with_tabW Drwr.tab9 Drwr.bits9 (fun HT_ HW_ => ?_)
        have H4 := Aside0.mk (H3.out.below ((Below.refl w3.heap.size w3).drew))
        have HB4 := Aside0.mk (HB3.out.drew)
        generalize World.drew _ = w4 at H4 HB4 hHeld ⊢
        refine pure_ (i := 0) (N := some 31) (v := ?_) (a' := ?_) #[true, false, false, false, false, false, false, false, false, false, false, false, false, false, false, false, false] rfl rfl (any_of HT_.out (by kernel_rfl)) (fun _ _ _ h => h) (Or.inl ⟨by rfl, ?_⟩) ?_ ?_
        rotate_left
        · intro w'
          go_simp
          with_reducible rfl
        rotate_left
        · simp only [Act.put, List.setIfInBounds_toArray, List.set_cons_zero, List.set_cons_succ, i64_w, i32_w]
          rfl
        refine pure_ (i := 1) (N := some 32) (v := ?_) (a' := ?_) #[true, true, false, false, false, false, false, false, false, false, false, false, false, false, false, false, false] rfl rfl (any_of HT_.out (by kernel_rfl)) (fun _ _ _ h => h) (Or.inl ⟨by rfl, ?_⟩) ?_ ?_
        rotate_left
        · intro w'
          go_simp
          with_reducible rfl
        rotate_left
        · simp only [Act.put, List.setIfInBounds_toArray, List.set_cons_zero, List.set_cons_succ, i64_w, i32_w]
          rfl
        refine pure_ (i := 2) (N := some 33) (v := ?_) (a' := ?_) #[true, true, true, false, false, false, false, false, false, false, false, false, false, false, false, false, false] rfl rfl (any_of HT_.out (by kernel_rfl)) (fun _ _ _ h => h) (Or.inl ⟨by rfl, ?_⟩) ?_ ?_
        rotate_left
        · intro w'
          go_simp
          with_reducible rfl
        rotate_left
        · simp only [Act.put, List.setIfInBounds_toArray, List.set_cons_zero, List.set_cons_succ, i64_w, i32_w]
          rfl
        refine pure_ (i := 3) (N := some 34) (v := ?_) (a' := ?_) #[true, true, true, true, false, false, false, false, false, false, false, false, false, false, false, false, false] rfl rfl (any_of HT_.out (by kernel_rfl)) (fun _ _ _ h => h) (Or.inl ⟨by rfl, ?_⟩) ?_ ?_
        rotate_left
        · intro w'
          go_simp
          with_reducible rfl
        rotate_left
        · simp only [Act.put, List.setIfInBounds_toArray, List.set_cons_zero, List.set_cons_succ, i64_w, i32_w]
          rfl
        refine take_ (i := 4) (N := some 35) (v := undef) (a' := ?_) #[true, true, true, true, true, false, false, false, false, false, false, false, false, false, false, false, false] rfl rfl (take_ofW HT_.out HW_.out (by kernel_rfl)) (fun _ _ _ h => h) (Or.inr ⟨by rfl, rfl⟩) hHeld ?_ ?_
        rotate_left
        · simp only [Act.put, List.setIfInBounds_toArray, List.set_cons_zero, List.set_cons_succ, i64_w, i32_w]
          rfl
        refine take_ (i := 6) (N := some 37) (v := undef) (a' := ?_) #[true, true, true, true, true, false, true, false, false, false, false, false, false, false, false, false, false] rfl rfl (take_ofW HT_.out HW_.out (by kernel_rfl)) (fun _ _ _ h => h) (Or.inr ⟨by rfl, rfl⟩) hHeld ?_ ?_
        rotate_left
        · simp only [Act.put, List.setIfInBounds_toArray, List.set_cons_zero, List.set_cons_succ, i64_w, i32_w]
          rfl
        refine take_ (i := 8) (N := some 39) (v := undef) (a' := ?_) #[true, true, true, true, true, false, true, false, true, false, false, false, false, false, false, false, false] rfl rfl (take_ofW HT_.out HW_.out (by kernel_rfl)) (fun _ _ _ h => h) (Or.inr ⟨by rfl, rfl⟩) hHeld ?_ ?_
        rotate_left
        · simp only [Act.put, List.setIfInBounds_toArray, List.set_cons_zero, List.set_cons_succ, i64_w, i32_w]
          rfl
        refine take_ (i := 9) (N := some 40) (v := undef) (a' := ?_) #[true, true, true, true, true, false, true, false, true, true, false, false, false, false, false, false, false] rfl rfl (take_ofW HT_.out HW_.out (by kernel_rfl)) (fun _ _ _ h => h) (Or.inr ⟨by rfl, rfl⟩) hHeld ?_ ?_
        rotate_left
        · simp only [Act.put, List.setIfInBounds_toArray, List.set_cons_zero, List.set_cons_succ, i64_w, i32_w]
          rfl
        refine take_ (i := 11) (N := some 42) (v := undef) (a' := ?_) #[true, true, true, true, true, false, true, false, true, true, false, true, false, false, false, false, false] rfl rfl (take_ofW HT_.out HW_.out (by kernel_rfl)) (fun _ _ _ h => h) (Or.inr ⟨by rfl, rfl⟩) hHeld ?_ ?_
        rotate_left
        · simp only [Act.put, List.setIfInBounds_toArray, List.set_cons_zero, List.set_cons_succ, i64_w, i32_w]
          rfl
        refine take_ (i := 12) (N := some 43) (v := undef) (a' := ?_) #[true, true, true, true, true, false, true, false, true, true, false, true, true, false, false, false, false] rfl rfl (take_ofW HT_.out HW_.out (by kernel_rfl)) (fun _ _ _ h => h) (Or.inr ⟨by rfl, rfl⟩) hHeld ?_ ?_
        rotate_left
        · simp only [Act.put, List.setIfInBounds_toArray, List.set_cons_zero, List.set_cons_succ, i64_w, i32_w]
          rfl
        refine take_ (i := 13) (N := some 44) (v := undef) (a' := ?_) #[true, true, true, true, true, false, true, false, true, true, false, true, true, true, false, false, false] rfl rfl (take_ofW HT_.out HW_.out (by kernel_rfl)) (fun _ _ _ h => h) (Or.inr ⟨by rfl, rfl⟩) hHeld ?_ ?_
        rotate_left
        · simp only [Act.put, List.setIfInBounds_toArray, List.set_cons_zero, List.set_cons_succ, i64_w, i32_w]
          rfl
        refine take_ (i := 14) (N := some 45) (v := undef) (a' := ?_) #[true, true, true, true, true, false, true, false, true, true, false, true, true, true, true, false, false] rfl rfl (take_ofW HT_.out HW_.out (by kernel_rfl)) (fun _ _ _ h => h) (Or.inr ⟨by rfl, rfl⟩) hHeld ?_ ?_
        rotate_left
        · simp only [Act.put, List.setIfInBounds_toArray, List.set_cons_zero, List.set_cons_succ, i64_w, i32_w]
          rfl
        refine one_ (i := 5) (N := some 36) #[true, true, true, true, true, true, true, false, true, true, false, true, true, true, true, false, false] rfl rfl (one_of HT_.out (by kernel_rfl)) (by decide) (fun K hK => ?_)
        refine off_ (by rfl) ?_
        refine hK.out _ _ hHeld (fun hHeld => ?_)
        clear hK K
        refine norm_ (a' := ?_) ?_ ?_
        rotate_left
        · show Act.put _ (some 36) _ = _
          simp only [Act.put, List.setIfInBounds_toArray, List.set_cons_zero, List.set_cons_succ, i64_w, i32_w]
          rfl
        refine take_ (i := 7) (N := some 38) (v := undef) (a' := ?_) #[true, true, true, true, true, true, true, true, true, true, false, true, true, true, true, false, false] rfl rfl (take_ofW HT_.out HW_.out (by kernel_rfl)) (fun _ _ _ h => h) (Or.inr ⟨by rfl, rfl⟩) hHeld ?_ ?_
        rotate_left
        · simp only [Act.put, List.setIfInBounds_toArray, List.set_cons_zero, List.set_cons_succ, i64_w, i32_w]
          rfl
        refine take_ (i := 10) (N := some 41) (v := undef) (a' := ?_) #[true, true, true, true, true, true, true, true, true, true, true, true, true, true, true, false, false] rfl rfl (take_ofW HT_.out HW_.out (by kernel_rfl)) (fun _ _ _ h => h) (Or.inr ⟨by rfl, rfl⟩) hHeld ?_ ?_
        rotate_left
        · simp only [Act.put, List.setIfInBounds_toArray, List.set_cons_zero, List.set_cons_succ, i64_w, i32_w]
          rfl
        refine take_ (i := 15) (N := some 46) (v := undef) (a' := ?_) #[true, true, true, true, true, true, true, true, true, true, true, true, true, true, true, true, false] rfl rfl (take_ofW HT_.out HW_.out (by kernel_rfl)) (fun _ _ _ h => h) (Or.inr ⟨by rfl, rfl⟩) hHeld ?_ ?_
        rotate_left
        · simp only [Act.put, List.setIfInBounds_toArray, List.set_cons_zero, List.set_cons_succ, i64_w, i32_w]
          rfl
        refine pure_ (i := 16) (N := some 47) (v := ?_) (a' := ?_) #[true, true, true, true, true, true, true, true, true, true, true, true, true, true, true, true, true] rfl rfl (any_of HT_.out (by kernel_rfl)) (fun _ _ _ h => h) (Or.inl ⟨by rfl, ?_⟩) ?_ ?_
        rotate_left
        · intro w'
          go_simp
          with_reducible rfl
        rotate_left
        · simp only [Act.put, List.setIfInBounds_toArray, List.set_cons_zero, List.set_cons_succ, i64_w, i32_w]
          rfl
        refine done_ (done_of HT_.out (by kernel_rfl)) ?_
        clear hHeld
        go_wp2_with fail
        go_ret
        exact ⟨rfl, H4.out, Fr.of_below HB4.out⟩
      · have k2 : decide (1048576 < (bs.length : Int)) = false := decide_eq_false c2
        have k2n : decide (1048576 < bs.length) = false := decide_eq_false (by omega)
        have HL5 := Aside0.mk (show bs.length ≤ 1048576 from by omega)
        clear c2
        have hrm : ∀ w', Below w3.heap.size w3 w' → w'.cell? ⟨q, 1, none⟩ = some (.int .i64 r.room) := fun w' hb => by
          obtain ⟨A0, c0, ⟨_, hc1, _⟩, _⟩ := (H3.out.below hb).cells
          exact hc1
        have HRM := Aside0.mk hrm
        clear hrm
        by_cases c3 : r.room < U2
        · have k3 : decide (r.room < U2) = true := decide_eq_true c3
          have e : rwr r nm.data.toList bs = (22, r) := by unfold rwr; rw [if_neg C0.out, if_pos C1.out, if_pos (Or.inr (by rw [HWS.out]; have h1 := HUU.out; have h2 := HVV.out; omega))]
          rw [HRW.out] at e
          cases e
          clear c3
          refine start_ (n := 17) (S := fun w' => w'.cell? ⟨q, 1, none⟩ = some (.int .i64 r.room)) (ds := []) #[false, false, false, false, false, false, false, false, false, false, false, false, false, false, false, false, false] (by kernel_rfl) rfl rfl (HRM.out _ ((Below.refl w3.heap.size w3).drew)) (fun hHeld => ?_); refine with_tabW Drwr.tab9 Drwr.bits9 (fun HT_ HW_ => ?_)
          have H4 := Aside0.mk (H3.out.below ((Below.refl w3.heap.size w3).drew))
          have HB4 := Aside0.mk (HB3.out.drew)
          generalize World.drew _ = w4 at H4 HB4 hHeld ⊢
          refine pure_ (i := 0) (N := some 31) (v := ?_) (a' := ?_) #[true, false, false, false, false, false, false, false, false, false, false, false, false, false, false, false, false] rfl rfl (any_of HT_.out (by kernel_rfl)) (fun _ _ _ h => h) (Or.inl ⟨by rfl, ?_⟩) ?_ ?_
          rotate_left
          · intro w'
            go_simp
            with_reducible rfl
          rotate_left
          · simp only [Act.put, List.setIfInBounds_toArray, List.set_cons_zero, List.set_cons_succ, i64_w, i32_w]
            rfl
          refine pure_ (i := 1) (N := some 32) (v := ?_) (a' := ?_) #[true, true, false, false, false, false, false, false, false, false, false, false, false, false, false, false, false] rfl rfl (any_of HT_.out (by kernel_rfl)) (fun _ _ _ h => h) (Or.inl ⟨by rfl, ?_⟩) ?_ ?_
          rotate_left
          · intro w'
            go_simp
            with_reducible rfl
          rotate_left
          · simp only [Act.put, List.setIfInBounds_toArray, List.set_cons_zero, List.set_cons_succ, i64_w, i32_w]
            rfl
          refine pure_ (i := 2) (N := some 33) (v := ?_) (a' := ?_) #[true, true, true, false, false, false, false, false, false, false, false, false, false, false, false, false, false] rfl rfl (any_of HT_.out (by kernel_rfl)) (fun _ _ _ h => h) (Or.inl ⟨by rfl, ?_⟩) ?_ ?_
          rotate_left
          · intro w'
            go_simp
            with_reducible rfl
          rotate_left
          · simp only [Act.put, List.setIfInBounds_toArray, List.set_cons_zero, List.set_cons_succ, i64_w, i32_w]
            rfl
          refine pure_ (i := 3) (N := some 34) (v := ?_) (a' := ?_) #[true, true, true, true, false, false, false, false, false, false, false, false, false, false, false, false, false] rfl rfl (any_of HT_.out (by kernel_rfl)) (fun _ _ _ h => h) (Or.inl ⟨by rfl, ?_⟩) ?_ ?_
          rotate_left
          · intro w'
            go_simp
            with_reducible rfl
          rotate_left
          · simp only [Act.put, List.setIfInBounds_toArray, List.set_cons_zero, List.set_cons_succ, i64_w, i32_w]
            rfl
          refine pure_ (i := 4) (N := some 35) (v := ?_) (a' := ?_) #[true, true, true, true, true, false, false, false, false, false, false, false, false, false, false, false, false] rfl rfl (any_of HT_.out (by kernel_rfl)) (fun _ _ _ h => h) (Or.inl ⟨by rfl, ?_⟩) ?_ ?_
          rotate_left
          · intro w'
            go_simp
            with_reducible rfl
          rotate_left
          · simp only [Act.put, List.setIfInBounds_toArray, List.set_cons_zero, List.set_cons_succ, i64_w, i32_w]
            rfl
          refine pure_ (i := 6) (N := some 37) (v := ?_) (a' := ?_) #[true, true, true, true, true, false, true, false, false, false, false, false, false, false, false, false, false] rfl rfl (any_of HT_.out (by kernel_rfl)) (fun _ _ _ h => h) (Or.inl ⟨by rfl, ?_⟩) ?_ ?_
          rotate_left
          · intro w'
            go_simp
            with_reducible rfl
          rotate_left
          · simp only [Act.put, List.setIfInBounds_toArray, List.set_cons_zero, List.set_cons_succ, i64_w, i32_w]
            rfl
          refine pure_ (i := 8) (N := some 39) (v := ?_) (a' := ?_) #[true, true, true, true, true, false, true, false, true, false, false, false, false, false, false, false, false] rfl rfl (any_of HT_.out (by kernel_rfl)) (fun _ _ _ h => h) (Or.inl ⟨by rfl, ?_⟩) ?_ ?_
          rotate_left
          · intro w'
            go_simp
            with_reducible rfl
          rotate_left
          · simp only [Act.put, List.setIfInBounds_toArray, List.set_cons_zero, List.set_cons_succ, i64_w, i32_w]
            rfl
          refine pure_ (i := 9) (N := some 40) (v := ?_) (a' := ?_) #[true, true, true, true, true, false, true, false, true, true, false, false, false, false, false, false, false] rfl rfl (any_of HT_.out (by kernel_rfl)) (fun _ _ _ h => h) (Or.inl ⟨by rfl, ?_⟩) ?_ ?_
          rotate_left
          · intro w'
            go_simp
            with_reducible rfl
          rotate_left
          · simp only [Act.put, List.setIfInBounds_toArray, List.set_cons_zero, List.set_cons_succ, i64_w, i32_w]
            rfl
          refine pure_ (i := 11) (N := some 42) (v := ?_) (a' := ?_) #[true, true, true, true, true, false, true, false, true, true, false, true, false, false, false, false, false] rfl rfl (any_of HT_.out (by kernel_rfl)) (fun _ _ _ h => h) (Or.inl ⟨by rfl, ?_⟩) ?_ ?_
          rotate_left
          · intro w'
            go_simp
            with_reducible rfl
          rotate_left
          · simp only [Act.put, List.setIfInBounds_toArray, List.set_cons_zero, List.set_cons_succ, i64_w, i32_w]
            rfl
          refine pure_ (i := 12) (N := some 43) (v := ?_) (a' := ?_) #[true, true, true, true, true, false, true, false, true, true, false, true, true, false, false, false, false] rfl rfl (any_of HT_.out (by kernel_rfl)) (fun _ _ _ h => h) (Or.inl ⟨by rfl, ?_⟩) ?_ ?_
          rotate_left
          · intro w'
            go_simp
            with_reducible rfl
          rotate_left
          · simp only [Act.put, List.setIfInBounds_toArray, List.set_cons_zero, List.set_cons_succ, i64_w, i32_w]
            rfl
          refine pure_ (i := 13) (N := some 44) (v := ?_) (a' := ?_) #[true, true, true, true, true, false, true, false, true, true, false, true, true, true, false, false, false] rfl rfl (any_of HT_.out (by kernel_rfl)) (fun _ _ _ h => h) (Or.inl ⟨by rfl, ?_⟩) ?_ ?_
          rotate_left
          · intro w'
            go_simp
            with_reducible rfl
          rotate_left
          · simp only [Act.put, List.setIfInBounds_toArray, List.set_cons_zero, List.set_cons_succ, i64_w, i32_w]
            rfl
          refine take_ (i := 14) (N := some 45) (v := ?_) (a' := ?_) #[true, true, true, true, true, false, true, false, true, true, false, true, true, true, true, false, false] rfl rfl (take_ofW HT_.out HW_.out (by kernel_rfl)) (fun _ _ _ h => h) (Or.inl ⟨by rfl, ?_⟩) hHeld ?_ ?_
          rotate_left
          · rintro w' s0
            go_simp
            with_reducible rfl
          rotate_left
          · simp only [Act.put, List.setIfInBounds_toArray, List.set_cons_zero, List.set_cons_succ, i64_w, i32_w]
            rfl
          refine one_ (i := 5) (N := some 36) #[true, true, true, true, true, true, true, false, true, true, false, true, true, true, true, false, false] rfl rfl (one_of HT_.out (by kernel_rfl)) (by decide) (fun K hK => ?_)
          refine goes_ Try.func50 (by kernel_rfl) rfl #[.pointer (some ⟨q, 0, none⟩)] (by rfl) rfl rfl (by (try simp only [List.map_toArray, List.map_cons, List.map_nil]); first | done | rfl) ?_
          refine (rUsed_calls H4.out).mono ?_
          rintro e w5 ⟨rfl, rfl⟩
          refine ⟨_, rfl, ?_⟩
          refine hK.out _ _ hHeld (fun hHeld => ?_)
          clear hK K
          refine norm_ (a' := ?_) ?_ ?_
          rotate_left
          · show Act.put _ (some 36) _ = _
            simp only [Act.put, List.setIfInBounds_toArray, List.set_cons_zero, List.set_cons_succ, i64_w, i32_w]
            rfl
          refine pure_ (i := 7) (N := some 38) (v := ?_) (a' := ?_) #[true, true, true, true, true, true, true, true, true, true, false, true, true, true, true, false, false] rfl rfl (any_of HT_.out (by kernel_rfl)) (fun _ _ _ h => h) (Or.inl ⟨by rfl, ?_⟩) ?_ ?_
          rotate_left
          · intro w'
            go_simp
            with_reducible rfl
          rotate_left
          · simp only [Act.put, List.setIfInBounds_toArray, List.set_cons_zero, List.set_cons_succ, i64_w, i32_w]
            rfl
          refine pure_ (i := 10) (N := some 41) (v := ?_) (a' := ?_) #[true, true, true, true, true, true, true, true, true, true, true, true, true, true, true, false, false] rfl rfl (any_of HT_.out (by kernel_rfl)) (fun _ _ _ h => h) (Or.inl ⟨by rfl, ?_⟩) ?_ ?_
          rotate_left
          · intro w'
            go_simp
            with_reducible rfl
          rotate_left
          · simp only [Act.put, List.setIfInBounds_toArray, List.set_cons_zero, List.set_cons_succ, i64_w, i32_w]
            rfl
          refine pure_ (i := 15) (N := some 46) (v := ?_) (a' := ?_) #[true, true, true, true, true, true, true, true, true, true, true, true, true, true, true, true, false] rfl rfl (any_of HT_.out (by kernel_rfl)) (fun _ _ _ h => h) (Or.inl ⟨by rfl, ?_⟩) ?_ ?_
          rotate_left
          · intro w'
            go_simp
            with_reducible rfl
          rotate_left
          · simp only [Act.put, List.setIfInBounds_toArray, List.set_cons_zero, List.set_cons_succ, i64_w, i32_w]
            rfl
          refine pure_ (i := 16) (N := some 47) (v := ?_) (a' := ?_) #[true, true, true, true, true, true, true, true, true, true, true, true, true, true, true, true, true] rfl rfl (any_of HT_.out (by kernel_rfl)) (fun _ _ _ h => h) (Or.inl ⟨by rfl, ?_⟩) ?_ ?_
          rotate_left
          · intro w'
            go_simp
            with_reducible rfl
          rotate_left
          · simp only [Act.put, List.setIfInBounds_toArray, List.set_cons_zero, List.set_cons_succ, i64_w, i32_w]
            rfl
          refine done_ (done_of HT_.out (by kernel_rfl)) ?_
          clear hHeld
          go_wp2_with fail
          go_ret
          exact ⟨rfl, H4.out, Fr.of_below HB4.out⟩
        · have k3 : decide (r.room < U2) = false := decide_eq_false c3
          have e : rwr r nm.data.toList bs = (0, rdone { r with fs := rPut ⟨nm.data.toList, bs, 0⟩ r.fs }) := by unfold rwr; rw [if_neg C0.out, if_pos C1.out, if_neg (by rw [HWS.out]; have h1 := HUU.out; have h2 := HVV.out; have h3 := HL5.out; rintro (h | h) <;> omega)]
          rw [HRW.out] at e
          cases e
          clear c3
          refine start_ (n := 17) (S := fun w' => w'.cell? ⟨q, 1, none⟩ = some (.int .i64 r.room)) (ds := []) #[false, false, false, false, false, false, false, false, false, false, false, false, false, false, false, false, false] (by kernel_rfl) rfl rfl (HRM.out _ ((Below.refl w3.heap.size w3).drew)) (fun hHeld => ?_); refine with_tabW Drwr.tab9 Drwr.bits9 (fun HT_ HW_ => ?_)
          have H4 := Aside0.mk (H3.out.below ((Below.refl w3.heap.size w3).drew))
          have HB4 := Aside0.mk (HB3.out.drew)
          generalize World.drew _ = w4 at H4 HB4 hHeld ⊢
          refine pure_ (i := 0) (N := some 31) (v := ?_) (a' := ?_) #[true, false, false, false, false, false, false, false, false, false, false, false, false, false, false, false, false] rfl rfl (any_of HT_.out (by kernel_rfl)) (fun _ _ _ h => h) (Or.inl ⟨by rfl, ?_⟩) ?_ ?_
          rotate_left
          · intro w'
            go_simp
            with_reducible rfl
          rotate_left
          · simp only [Act.put, List.setIfInBounds_toArray, List.set_cons_zero, List.set_cons_succ, i64_w, i32_w]
            rfl
          refine pure_ (i := 1) (N := some 32) (v := ?_) (a' := ?_) #[true, true, false, false, false, false, false, false, false, false, false, false, false, false, false, false, false] rfl rfl (any_of HT_.out (by kernel_rfl)) (fun _ _ _ h => h) (Or.inl ⟨by rfl, ?_⟩) ?_ ?_
          rotate_left
          · intro w'
            go_simp
            with_reducible rfl
          rotate_left
          · simp only [Act.put, List.setIfInBounds_toArray, List.set_cons_zero, List.set_cons_succ, i64_w, i32_w]
            rfl
          refine pure_ (i := 2) (N := some 33) (v := ?_) (a' := ?_) #[true, true, true, false, false, false, false, false, false, false, false, false, false, false, false, false, false] rfl rfl (any_of HT_.out (by kernel_rfl)) (fun _ _ _ h => h) (Or.inl ⟨by rfl, ?_⟩) ?_ ?_
          rotate_left
          · intro w'
            go_simp
            with_reducible rfl
          rotate_left
          · simp only [Act.put, List.setIfInBounds_toArray, List.set_cons_zero, List.set_cons_succ, i64_w, i32_w]
            rfl
          refine pure_ (i := 3) (N := some 34) (v := ?_) (a' := ?_) #[true, true, true, true, false, false, false, false, false, false, false, false, false, false, false, false, false] rfl rfl (any_of HT_.out (by kernel_rfl)) (fun _ _ _ h => h) (Or.inl ⟨by rfl, ?_⟩) ?_ ?_
          rotate_left
          · intro w'
            go_simp
            with_reducible rfl
          rotate_left
          · simp only [Act.put, List.setIfInBounds_toArray, List.set_cons_zero, List.set_cons_succ, i64_w, i32_w]
            rfl
          refine pure_ (i := 4) (N := some 35) (v := ?_) (a' := ?_) #[true, true, true, true, true, false, false, false, false, false, false, false, false, false, false, false, false] rfl rfl (any_of HT_.out (by kernel_rfl)) (fun _ _ _ h => h) (Or.inl ⟨by rfl, ?_⟩) ?_ ?_
          rotate_left
          · intro w'
            go_simp
            with_reducible rfl
          rotate_left
          · simp only [Act.put, List.setIfInBounds_toArray, List.set_cons_zero, List.set_cons_succ, i64_w, i32_w]
            rfl
          refine pure_ (i := 6) (N := some 37) (v := ?_) (a' := ?_) #[true, true, true, true, true, false, true, false, false, false, false, false, false, false, false, false, false] rfl rfl (any_of HT_.out (by kernel_rfl)) (fun _ _ _ h => h) (Or.inl ⟨by rfl, ?_⟩) ?_ ?_
          rotate_left
          · intro w'
            go_simp
            with_reducible rfl
          rotate_left
          · simp only [Act.put, List.setIfInBounds_toArray, List.set_cons_zero, List.set_cons_succ, i64_w, i32_w]
            rfl
          refine pure_ (i := 8) (N := some 39) (v := ?_) (a' := ?_) #[true, true, true, true, true, false, true, false, true, false, false, false, false, false, false, false, false] rfl rfl (any_of HT_.out (by kernel_rfl)) (fun _ _ _ h => h) (Or.inl ⟨by rfl, ?_⟩) ?_ ?_
          rotate_left
          · intro w'
            go_simp
            with_reducible rfl
          rotate_left
          · simp only [Act.put, List.setIfInBounds_toArray, List.set_cons_zero, List.set_cons_succ, i64_w, i32_w]
            rfl
          refine pure_ (i := 9) (N := some 40) (v := ?_) (a' := ?_) #[true, true, true, true, true, false, true, false, true, true, false, false, false, false, false, false, false] rfl rfl (any_of HT_.out (by kernel_rfl)) (fun _ _ _ h => h) (Or.inl ⟨by rfl, ?_⟩) ?_ ?_
          rotate_left
          · intro w'
            go_simp
            with_reducible rfl
          rotate_left
          · simp only [Act.put, List.setIfInBounds_toArray, List.set_cons_zero, List.set_cons_succ, i64_w, i32_w]
            rfl
          refine pure_ (i := 11) (N := some 42) (v := ?_) (a' := ?_) #[true, true, true, true, true, false, true, false, true, true, false, true, false, false, false, false, false] rfl rfl (any_of HT_.out (by kernel_rfl)) (fun _ _ _ h => h) (Or.inl ⟨by rfl, ?_⟩) ?_ ?_
          rotate_left
          · intro w'
            go_simp
            with_reducible rfl
          rotate_left
          · simp only [Act.put, List.setIfInBounds_toArray, List.set_cons_zero, List.set_cons_succ, i64_w, i32_w]
            rfl
          refine pure_ (i := 12) (N := some 43) (v := ?_) (a' := ?_) #[true, true, true, true, true, false, true, false, true, true, false, true, true, false, false, false, false] rfl rfl (any_of HT_.out (by kernel_rfl)) (fun _ _ _ h => h) (Or.inl ⟨by rfl, ?_⟩) ?_ ?_
          rotate_left
          · intro w'
            go_simp
            with_reducible rfl
          rotate_left
          · simp only [Act.put, List.setIfInBounds_toArray, List.set_cons_zero, List.set_cons_succ, i64_w, i32_w]
            rfl
          refine pure_ (i := 13) (N := some 44) (v := ?_) (a' := ?_) #[true, true, true, true, true, false, true, false, true, true, false, true, true, true, false, false, false] rfl rfl (any_of HT_.out (by kernel_rfl)) (fun _ _ _ h => h) (Or.inl ⟨by rfl, ?_⟩) ?_ ?_
          rotate_left
          · intro w'
            go_simp
            with_reducible rfl
          rotate_left
          · simp only [Act.put, List.setIfInBounds_toArray, List.set_cons_zero, List.set_cons_succ, i64_w, i32_w]
            rfl
          refine take_ (i := 14) (N := some 45) (v := ?_) (a' := ?_) #[true, true, true, true, true, false, true, false, true, true, false, true, true, true, true, false, false] rfl rfl (take_ofW HT_.out HW_.out (by kernel_rfl)) (fun _ _ _ h => h) (Or.inl ⟨by rfl, ?_⟩) hHeld ?_ ?_
          rotate_left
          · rintro w' s0
            go_simp
            with_reducible rfl
          rotate_left
          · simp only [Act.put, List.setIfInBounds_toArray, List.set_cons_zero, List.set_cons_succ, i64_w, i32_w]
            rfl
          refine one_ (i := 5) (N := some 36) #[true, true, true, true, true, true, true, false, true, true, false, true, true, true, true, false, false] rfl rfl (one_of HT_.out (by kernel_rfl)) (by decide) (fun K hK => ?_)
          refine goes_ Try.func50 (by kernel_rfl) rfl #[.pointer (some ⟨q, 0, none⟩)] (by rfl) rfl rfl (by (try simp only [List.map_toArray, List.map_cons, List.map_nil]); first | done | rfl) ?_
          refine (rUsed_calls H4.out).mono ?_
          rintro e w5 ⟨rfl, rfl⟩
          refine ⟨_, rfl, ?_⟩
          refine hK.out _ _ hHeld (fun hHeld => ?_)
          clear hK K
          refine norm_ (a' := ?_) ?_ ?_
          rotate_left
          · show Act.put _ (some 36) _ = _
            simp only [Act.put, List.setIfInBounds_toArray, List.set_cons_zero, List.set_cons_succ, i64_w, i32_w]
            rfl
          refine pure_ (i := 7) (N := some 38) (v := ?_) (a' := ?_) #[true, true, true, true, true, true, true, true, true, true, false, true, true, true, true, false, false] rfl rfl (any_of HT_.out (by kernel_rfl)) (fun _ _ _ h => h) (Or.inl ⟨by rfl, ?_⟩) ?_ ?_
          rotate_left
          · intro w'
            go_simp
            with_reducible rfl
          rotate_left
          · simp only [Act.put, List.setIfInBounds_toArray, List.set_cons_zero, List.set_cons_succ, i64_w, i32_w]
            rfl
          refine pure_ (i := 10) (N := some 41) (v := ?_) (a' := ?_) #[true, true, true, true, true, true, true, true, true, true, true, true, true, true, true, false, false] rfl rfl (any_of HT_.out (by kernel_rfl)) (fun _ _ _ h => h) (Or.inl ⟨by rfl, ?_⟩) ?_ ?_
          rotate_left
          · intro w'
            go_simp
            with_reducible rfl
          rotate_left
          · simp only [Act.put, List.setIfInBounds_toArray, List.set_cons_zero, List.set_cons_succ, i64_w, i32_w]
            rfl
          refine pure_ (i := 15) (N := some 46) (v := ?_) (a' := ?_) #[true, true, true, true, true, true, true, true, true, true, true, true, true, true, true, true, false] rfl rfl (any_of HT_.out (by kernel_rfl)) (fun _ _ _ h => h) (Or.inl ⟨by rfl, ?_⟩) ?_ ?_
          rotate_left
          · intro w'
            go_simp
            with_reducible rfl
          rotate_left
          · simp only [Act.put, List.setIfInBounds_toArray, List.set_cons_zero, List.set_cons_succ, i64_w, i32_w]
            rfl
          refine pure_ (i := 16) (N := some 47) (v := ?_) (a' := ?_) #[true, true, true, true, true, true, true, true, true, true, true, true, true, true, true, true, true] rfl rfl (any_of HT_.out (by kernel_rfl)) (fun _ _ _ h => h) (Or.inl ⟨by rfl, ?_⟩) ?_ ?_
          rotate_left
          · intro w'
            go_simp
            with_reducible rfl
          rotate_left
          · simp only [Act.put, List.setIfInBounds_toArray, List.set_cons_zero, List.set_cons_succ, i64_w, i32_w]
            rfl
          refine done_ (done_of HT_.out (by kernel_rfl)) ?_
          clear hHeld
          clear hU1 hU2 k2 k2n k3
          obtain ⟨v51, w6, hrun6, ho6, hg6⟩ := app5 (w := w5) (A := A) (c := cp) 23 (Kd.C_below HC.out HB4.out) HCP.out HL5.out
          have HB6 := Aside0.mk (HB4.out.grown hg6 HB4.out.size (fun k e => by cases e))
          have H6 := Aside0.mk (H4.out.below ((Below.refl w5.heap.size w5).grown hg6 (Nat.le_refl _) (fun k e => by cases e)))
          have hB6 := IsB.of_own ho6 (by simp) (by have := HL5.out; omega)
          have HAV := Aside0.mk (Av.of_own ho6 (fun k hk => Nat.lt_of_lt_of_le (HX.out k hk) HB4.out.size))
          obtain ⟨A6, c6, rfl⟩ := own_sl ho6
          have HR6 := Aside0.mk hrun6
          have HN6 := Aside0.mk (show FC X w6 ⟨nm.data.toList, bs, 0⟩ [.string ⟨nm.data.toList.toArray⟩, .slice A6 bs.length c6, .int .i64 0] from ⟨_, rfl, hB6, HAV.out, HN1.out, Int.le_refl _, Int.natCast_nonneg _, HL5.out⟩)
          have KP := rPut_calls H6.out (fun k hk => Nat.lt_of_lt_of_le (HX.out k hk) HB6.out.size) HS.out HN6.out
          simp only [name_back] at KP
          have KPA := Aside0.mk KP
          clear hrun6 ho6 hg6 hB6 KP
          go_wp2_with (first
            | (refine bappL_ (some 51) #[.slice none 0 0, .slice A bs.length cp] rfl rfl (by (try simp only [List.map_toArray, List.map_cons, List.map_nil]); first | done | rfl) rfl HR6.out ?_)
            | (go_at_call 51; refine KPA.out.mono ?_; rintro e w7 ⟨rfl, h7, hf7⟩; have H7 := Aside0.mk h7; have HF7 := Aside0.mk ((Fr.of_below HB6.out).trans hf7); clear h7 hf7)
            | (go_at_call 52; refine (rdone_calls H7.out).mono ?_; rintro e w8 ⟨rfl, h8, hf8⟩; have H8 := Aside0.mk h8; have HF8 := Aside0.mk (HF7.out.trans hf8); clear h8 hf8)
            | fail)
          go_ret
          exact ⟨rfl, H8.out, HF8.out⟩)
end Go.Proofs.Ytihbgdobicokpaa.D
namespace Go.Proofs.Ytihbgdobicokpaa.D
open Go.RowKit Go.Maps Go.Proofs.Ytihbgdobicokpaa.X Go.Proofs.YtihbgdobicokpaaW.PrintWords Go.Proofs.YtihbgdobicokpaaW.PrintLast Go.Proofs.YtihbgdobicokpaaW.PrintMore
attribute [local go_sem] max2_int min2_int max_two min_two max_three min_three max_four min_four   -- for this text's walks alone
set_option linter.unusedVariables false
set_option linter.unusedSimpArgs false
variable {X : Nat → Prop}
def rrn (r : Rk) (a b : Nm) : Int × Rk :=
  if r.left = 0 then (23, r) else if hasF a r.fs = true then (if nmOk b = true then (0, rdone { r with fs := rPut ⟨b, (atF a r.fs).b, (atF a r.fs).s⟩ (rDrop a r.fs) }) else (21, r)) else (20, r)
theorem rDrop_len (n : Nm) (fs : List Fl) : (rDrop n fs).length + (if hasF n fs = true then 1 else 0) = fs.length := by
  unfold rDrop
  split
  · rename_i h
    have := hasF_lt h
    simp
    omega
  · simp
set_option maxHeartbeats 4000000 in
set_option maxRecDepth 100000 in
theorem rRename_calls {w : World} {q : Nat} {r : Rk} (h : IsR X w q r) (hX : ∀ k, X k → k < w.heap.size) (nm tm : ByteArray) : Calls Try.prog 31 #[.pointer (some ⟨q, 0, none⟩), .string nm, .string tm] w fun e w' => e = .returned (.int .i64 (rrn r nm.data.toList tm.data.toList).1) ∧ IsR X w' q (rrn r nm.data.toList tm.data.toList).2 ∧ Fr (fun k => k = q) w w' := by
  have K1 := rDead_calls h
  have HX := Aside0.mk hX
  clear hX
  have KN := fun W => leatref2_named.calls tm _ W (named_f tm)
  have K2 := rat_calls h nm
  have H := Aside0.mk h
  obtain ⟨E, r', hRW⟩ : ∃ E r', rrn r nm.data.toList tm.data.toList = (E, r') := ⟨_, _, rfl⟩
  rw [hRW]
  have HRW := Aside0.mk hRW
  clear hRW
  by_cases c0 : r.left = 0
  · rw [decide_eq_true c0] at K1
    have e : rrn r nm.data.toList tm.data.toList = (23, r) := by unfold rrn; rw [if_pos c0]
    rw [HRW.out] at e
    cases e
    clear h
    go_enter Try.func31, Try.ntmps31
    go_wp2_with (go_at_call 47; refine K1.mono ?_; rintro e w1 ⟨rfl, rfl⟩)
    go_ret
    exact ⟨rfl, H.out, Fr.refl _ _⟩
  rw [decide_eq_false c0] at K1
  have C0 := Aside0.mk c0
  cases hh : hasF nm.data.toList r.fs with
  | false =>
    rw [hh] at K2
    have e : rrn r nm.data.toList tm.data.toList = (20, r) := by unfold rrn; rw [if_neg c0, hh, if_neg (by decide)]
    rw [HRW.out] at e
    cases e
    clear h
    go_enter Try.func31, Try.ntmps31
    go_wp2_with (first
      | (go_at_call 47; refine K1.mono ?_; rintro e w1 ⟨rfl, rfl⟩)
      | (go_at_call 49; refine K2.mono ?_; rintro e w2 ⟨rfl, hb2⟩; have HB2 := Aside0.mk hb2; clear hb2))
    go_ret
    exact ⟨rfl, H.out.below HB2.out, Fr.of_below HB2.out⟩
  | true =>
    rw [hh] at K2
    cases c1 : nmOk tm.data.toList with
    | false =>
      rw [c1] at KN
      have e : rrn r nm.data.toList tm.data.toList = (21, r) := by unfold rrn; rw [if_neg c0, if_pos hh, c1, if_neg (by decide)]
      rw [HRW.out] at e
      cases e
      clear h
      go_enter Try.func31, Try.ntmps31
      go_wp2_with (first
        | (go_at_call 47; refine K1.mono ?_; rintro e w1 ⟨rfl, rfl⟩)
        | (go_at_call 49; refine K2.mono ?_; rintro e w2 ⟨rfl, hb2⟩; have HB2 := Aside0.mk hb2; clear hb2)
        | (go_at_call 48; refine (KN _).mono ?_; rintro e w3 ⟨rfl, hb3⟩; have HB3 := Aside0.mk (below_drawn HB2.out hb3); clear hb3))
      go_ret
      exact ⟨rfl, H.out.below HB3.out, Fr.of_below HB3.out⟩
    | true =>
      rw [c1] at KN
      have e : rrn r nm.data.toList tm.data.toList = (0, rdone { r with fs := rPut ⟨tm.data.toList, (atF nm.data.toList r.fs).b, (atF nm.data.toList r.fs).s⟩ (rDrop nm.data.toList r.fs) }) := by unfold rrn; rw [if_neg c0, if_pos hh, if_pos c1]
      rw [HRW.out] at e
      cases e
      have HN1 := Aside0.mk (nmOk_le c1)
      have HDL := Aside0.mk (show (rDrop nm.data.toList r.fs).length < 1000000 from by have := rDrop_len nm.data.toList r.fs; rw [if_pos hh] at this; have := h.small; omega)
      obtain ⟨ad, sl, c, hlt, hfc, hcells⟩ := h.found hh
      have HFC := Aside0.mk hfc
      have HCE := Aside0.mk hcells
      obtain ⟨sl0, esl, hBsl, _⟩ := hfc
      injection esl with _ esl
      injection esl with esl _
      subst esl
      obtain ⟨Asl, csl, rfl, _⟩ := hBsl.slice
      clear h hcells hBsl
      generalize posF nm.data.toList r.fs = i at hlt HCE K2
      generalize atF nm.data.toList r.fs = f at HCE HFC ⊢
      have hlz : (i : Int) < (r.fs.length : Int) := by omega
      go_enter Try.func31, Try.ntmps31
      go_wp2_with (first
        | (go_at_call 47; refine K1.mono ?_; rintro e w1 ⟨rfl, rfl⟩)
        | (go_at_call 49; refine K2.mono ?_; rintro e w2 ⟨rfl, hb2⟩; have HB2 := Aside0.mk hb2; clear hb2)
        | (go_at_call 48; refine (KN _).mono ?_; rintro e w3 ⟨rfl, hb3⟩; have HB3 := Aside0.mk (below_drawn HB2.out hb3); clear hb3; obtain ⟨g0, g1, g2, g3⟩ := HCE.out w3 HB3.out)
        | fail)
      have HB4 := Aside0.mk (HB3.out.alloc HB3.out.size (.cells #[.string ⟨f.n.toArray⟩, .slice Asl f.b.length csl, .int .i64 f.s] 80))
      have HBK := Aside0.mk (heap_alloc_new w3 (.cells #[.string ⟨f.n.toArray⟩, .slice Asl f.b.length csl, .int .i64 f.s] 80))
      have HQ := Aside0.mk (show w3.heap.size ≠ q from by have := (H.out.below HB3.out).lt; omega)
      have H4 := Aside0.mk (((H.out.below HB3.out).avoid (Y := fun k => X k ∨ k = w3.heap.size) (fun k hk hy => by rcases hy with hy | hy; exact hy; omega)).below ((Below.refl w3.heap.size w3).alloc (Nat.le_refl _) (.cells #[.string ⟨f.n.toArray⟩, .slice Asl f.b.length csl, .int .i64 f.s] 80)))
      have HX4 := Aside0.mk (show ∀ k, (X k ∨ k = w3.heap.size) → k < (w3.alloc (.cells #[.string ⟨f.n.toArray⟩, .slice Asl f.b.length csl, .int .i64 f.s] 80)).heap.size from fun k hk => by rcases hk with hk | hk; exact Nat.lt_of_lt_of_le (HX.out k hk) HB4.out.size; simp; omega)
      clear g0 g1 g2 g3 HB2
      refine (rDrop_calls H4.out HX4.out nm).mono ?_
      rintro e w5 ⟨rfl, h5, hf5⟩
      have H5 := Aside0.mk h5
      have HF5 := Aside0.mk ((Fr.of_below (M := fun k => k = q) HB4.out).trans hf5)
      have hbk := (hf5.block w3.heap.size (lt_of_block HBK.out) HQ.out).trans HBK.out
      have HBK5 := Aside0.mk hbk
      have q0 := (blk_cell hbk 0).trans rfl
      have qf := blk_frozen hbk 0
      clear h5 hf5
      have hbk' := blk_set hbk 0 (.string tm)
      have q0' := (blk_cell hbk' 0).trans rfl
      have q1' := (blk_cell hbk' 1).trans rfl
      have q2' := (blk_cell hbk' 2).trans rfl
      have HFS := Aside0.mk (show Fr (fun k => k = w3.heap.size) w5 (w5.setCell ⟨w3.heap.size, 0, none⟩ (.string tm)) from Fr.setCell (M := fun k => k = w3.heap.size) (Fr.refl _ w5) (p := ⟨w3.heap.size, 0, none⟩) rfl _)
      have H6 := Aside0.mk ((H5.out.spoil HFS.out (fun k e => Or.inr e) (fun e => HQ.out e.symm)).avoid (Y := X) (fun k _ hk => Or.inl hk))
      have HN6 := Aside0.mk (show FC X (w5.setCell ⟨w3.heap.size, 0, none⟩ (.string tm)) ⟨tm.data.toList, f.b, f.s⟩ [.string ⟨tm.data.toList.toArray⟩, .slice Asl f.b.length csl, .int .i64 f.s] from by
        have h5 := HFC.out.fr HF5.out (fun k hk e => (H.out.nr k hk e).nb)
        obtain ⟨sl1, esl1, h1, h2, h3, h4⟩ := h5.fr HFS.out (fun k hk e cur hc => by rw [e, HBK5.out] at hc; exact absurd (cells_ty hc) (by decide))
        injection esl1 with _ esl1
        injection esl1 with esl1 _
        subst esl1
        exact ⟨_, rfl, h1, h2, HN1.out, h4⟩)
      have HSZ := Aside0.mk (show ∀ k, X k → k < (w5.setCell ⟨w3.heap.size, 0, none⟩ (.string tm)).heap.size from fun k hk => Nat.lt_of_lt_of_le (HX.out k hk) (Nat.le_trans HF5.out.size HFS.out.size))
      have KP := rPut_calls H6.out HSZ.out HDL.out HN6.out
      simp only [name_back] at KP
      have KPA := Aside0.mk KP
      clear hbk hbk' KP
      go_wp2_with (first
        | (go_at_call 51; refine KPA.out.mono ?_; rintro e w7 ⟨rfl, h7, hf7⟩; have H7 := Aside0.mk h7; have HF7 := Aside0.mk hf7; clear h7 hf7)
        | (go_at_call 52; refine (rdone_calls H7.out).mono ?_; rintro e w8 ⟨rfl, h8, hf8⟩; have H8 := Aside0.mk h8; have HF8 := Aside0.mk (HF7.out.trans hf8); clear h8 hf8)
        | fail)
      go_ret
      refine ⟨rfl, H8.out, ?_⟩
      have hlow : Fr (fun k => k = q) w1 (w5.setCell ⟨w3.heap.size, 0, none⟩ (.string tm)) :=
        ⟨HFS.out.os.trans HF5.out.os, HFS.out.tape.trans HF5.out.tape, HFS.out.output.trans HF5.out.output, Nat.le_trans HF5.out.size HFS.out.size, fun k hk hn => (HFS.out.block k (Nat.lt_of_lt_of_le hk HF5.out.size) (by have := HB3.out.size; intro e; omega)).trans (HF5.out.block k hk hn)⟩
      exact hlow.trans HF8.out
end Go.Proofs.Ytihbgdobicokpaa.D
namespace Go.Proofs.Ytihbgdobicokpaa.D
open Go.RowKit Go.Maps Go.Proofs.Ytihbgdobicokpaa.X Go.Proofs.YtihbgdobicokpaaW.PrintWords Go.Proofs.YtihbgdobicokpaaW.PrintLast Go.Proofs.YtihbgdobicokpaaW.PrintMore
attribute [local go_sem] max2_int min2_int max_two min_two max_three min_three max_four min_four   -- for this text's walks alone
set_option linter.unusedVariables false
set_option linter.unusedSimpArgs false
variable {X : Nat → Prop}
def rcr (r : Rk) (keep : List Int) : Rk := { r with fs := crL keep 0 r.fs, left := -1 }
theorem slice23n (A : Option Addr) (n c m : Nat) (hm : m ≤ c) (w : World) : (Instr.slice 23 (.slice A n c) none (some (.int .i64 (m : Int))) none).run Try.prog w = .ok (.slice A m c) w := by
  have h1 : (Instr.sliceBounds true n c none (some (.int .i64 (m : Int))) none).run Try.prog w = .ok (0, m, c) w := by
    unfold Instr.sliceBounds
    simp [run_sliceBound, hm, Result.andThen]
  unfold Instr.slice
  simp [run_underlying Try.underlying23, h1, Result.andThen, Try.sizeOf5]
  intro _
  cases A <;> simp [Addr.add]
theorem IsB.cut2 {W : World} {A : Option Addr} {c e : Nat} {bs : List Int} (h : IsB W (.slice A bs.length c) bs) (he : e ≤ bs.length) : IsB W (.slice A e c) (bs.take e) := by
  have hl : (bs.take e).length = e := by rw [List.length_take]; omega
  rcases h with ⟨h1, rfl⟩ | ⟨g, cap, cur, h1, h2, h3, h4, h5⟩
  · cases h1
    have : e = 0 := by simpa using he
    subst this
    exact Or.inl ⟨rfl, rfl⟩
  · cases h1
    refine Or.inr ⟨g, c, cur, by rw [hl], by rw [hl]; omega, by rw [hl]; omega, h4, ?_⟩
    rw [hl, List.map_take, ← h5, List.take_take, Nat.min_eq_left he]
theorem endOf_le {keep : List Int} {i : Nat} {f : Fl} (h0 : 0 ≤ f.s) (h1 : f.s ≤ f.b.length) : endOf keep i f ≤ f.b.length := by
  unfold endOf
  split <;> omega
theorem FC.crash {w : World} {keep : List Int} {i : Nat} {f : Fl} {A : Option Addr} {c : Nat} (h : FC X w f [.string ⟨f.n.toArray⟩, .slice A f.b.length c, .int .i64 f.s]) : FC X w (crF keep i f) [.string ⟨f.n.toArray⟩, .slice A (endOf keep i f) c, .int .i64 (endOf keep i f : Nat)] := by
  obtain ⟨sl, e, h1, h2, h3, h4, h5, h6⟩ := h
  injection e with _ e
  injection e with e _
  subst e
  have hl := endOf_le (keep := keep) (i := i) h4 h5
  have e2 : (f.b.take (endOf keep i f)).length = endOf keep i f := by rw [List.length_take]; omega
  refine ⟨_, rfl, h1.cut2 hl, fun a m k e => ?_, h3, Int.natCast_nonneg _, ?_, ?_⟩
  · cases e
    exact h2 _ _ _ rfl
  · show ((endOf keep i f : Nat) : Int) ≤ ((f.b.take (endOf keep i f)).length : Nat); rw [e2]; exact Int.le_refl _
  · show (f.b.take (endOf keep i f)).length ≤ _; rw [e2]; omega
theorem crL_snoc (keep : List Int) {fs : List Fl} {i : Nat} {f : Fl} (hf : fs[i]? = some f) : crL keep 0 (fs.take (i + 1)) = crL keep 0 (fs.take i) ++ [crF keep i f] := by
  obtain ⟨hi, rfl⟩ := List.getElem?_eq_some_iff.1 hf
  rw [List.take_succ_eq_append_getElem hi, crL_append]
  have : (fs.take i).length = i := by simp; omega
  rw [Nat.zero_add, this]
  rfl
theorem crL_len (keep : List Int) (k : Nat) (l : List Fl) : (crL keep k l).length = l.length := by
  have h := congrArg List.length (names_crL keep k l)
  simpa [names] using h
theorem src_new' (w : World) (B : Nat) (hB : B = w.heap.size) (a b c : Value) (ha : a.oneCell' = true := by rfl) (hb : b.oneCell' = true := by rfl) (hc : c.oneCell' = true := by rfl) : Src80 (w.alloc (.cells #[a, b, c] 80)) (.slice (some ⟨B, 0, none⟩) 1 1) 1 [a, b, c] := by
  subst hB
  exact src_new w a b c ha hb hc
theorem own_set {w : World} {B n s B0 i : Nat} {e : TypeId} {v u : Value} {xs : List Value} (h : w.ownsRow B0 e s v n xs) (hB : ∀ k, v.ownBlock = some k → k ≠ B) : (w.setCell ⟨B, i, none⟩ u).ownsRow B0 e s v n xs := by
  refine h.kept (row := some B) ⟨rfl, rfl, rfl, by simp [World.setCell], fun k _ hn => Below.heap_setCell _ _ _ _ (fun e => hn (by rw [e]))⟩ ?_
  cases hv : v.ownBlock with
  | none => exact Or.inl rfl
  | some k => exact Or.inr (fun e => hB k hv (Option.some.inj e))
def Drcr.T7 : Bool × List (List Nat × List Nat) := (true, [([], []), ([], []), ([0, 1], [0, 1]), ([2], [2]), ([3], [3]), ([], []), ([5], [5]), ([6], [6]), ([], []), ([8], [8]), ([7, 9], [7, 9]), ([4, 10], [4, 10]), ([11, 0, 1, 2, 3, 4, 5, 6, 7, 8, 9, 10, 11], [11])])
def Drcr.B7 : List Nat := [0, 0, 3, 7, 15, 0, 32, 96, 0, 256, 992, 2047, 4095]
theorem Drcr.tab7 : rtab .any (opsOf Try.f37 7) = Drcr.T7 := by kernel_rfl
theorem Drcr.bits7 : waitsOk Drcr.T7.2 Drcr.B7 = true := by kernel_rfl
set_option maxHeartbeats 4000000 in
set_option maxRecDepth 100000 in
theorem rCrash_calls {w : World} {q : Nat} {r : Rk} (h : IsR X w q r) (hX : ∀ k, X k → k < w.heap.size) {A : Option Addr} {cp : Nat} {keep : List Int} (hK : Kd.C (Kd.int .i64) w A keep.length keep) :
    Calls Try.prog 37 #[.pointer (some ⟨q, 0, none⟩), .slice A keep.length cp] w fun e w' => e = .returned (.tuple #[]) ∧ IsR X w' q (rcr r keep) ∧ Fr (fun k => k = q) w w' := by
  have HS := Aside0.mk h.small
  have HX := Aside0.mk hX
  have HK := Aside0.mk hK
  obtain ⟨A0, c0, ⟨hc0, hc1, hc2⟩, hcc, _, hcell⟩ := h.cells
  have HC0 := Aside0.mk (show ∀ w', Below w.heap.size w w' → w'.cell? ⟨q, 0, none⟩ = some (.slice A0 r.fs.length c0) from fun w' hb => (hb.cell (World.block_lt_of_cell? w _ hc0)).trans hc0)
  have HCELL := Aside0.mk hcell
  have H := Aside0.mk h
  clear h hX hK hcell hc1 hc2 hcc
  go_enter Try.func37, Try.ntmps37
  go_wp2_with fail
  go_loopg [4, 5] (r.fs.length) (fun kx s4 s5 wr => ∃ (i : Nat) (v : Value) (cs : List Value), s4 = v ∧ s5 = .int .i64 (i : Int) ∧ i ≤ r.fs.length ∧ r.fs.length - i ≤ kx ∧ Aside0 (wr.ownsRow w.heap.size 80 3 v i cs) ∧ Aside0 (FCs X w (crL keep 0 (r.fs.take i)) cs) ∧ Aside0 (Below w.heap.size w wr))
  case atStart => exact ⟨0, _, [], rfl, rfl, Nat.zero_le _, by omega, ⟨World.ownsRow_nil _ _ _ _⟩, ⟨by simp [crL]; exact .nil⟩, ⟨Below.refl _ _⟩⟩
  case round =>
    obtain ⟨i, v, cs, rfl, rfl, hi, hk, HO, HFs, HB⟩ := hrel
    obtain ⟨Av0, cv0, rfl⟩ := own_sl HO.out
    have hc0r := HC0.out wr HB.out
    by_cases hgo : i < r.fs.length
    · have hlz : (i : Int) < (r.fs.length : Int) := by omega
      obtain ⟨f, hf⟩ : ∃ f, r.fs[i]? = some f := ⟨_, List.getElem?_eq_getElem hgo⟩
      obtain ⟨ad, sl, e1, g0, g1, g2, hfc⟩ := HCELL.out i f hf
      cases e1
      obtain ⟨sl0, esl, hBsl, _, _, hs0, hs1, hbl⟩ := id hfc
      injection esl with _ esl
      injection esl with esl _
      subst esl
      obtain ⟨Asl, csl, rfl, hcsl⟩ := hBsl.slice
      have HSN := Aside0.mk (crL_snoc keep hf)
      have HFC := Aside0.mk (FC.crash (keep := keep) (i := i) hfc)
      obtain ⟨en, hen⟩ : ∃ e, endOf keep i f = e := ⟨_, rfl⟩
      have henl : en ≤ f.b.length := by rw [← hen]; exact endOf_le hs0 hs1
      rw [hen] at HFC
      obtain ⟨mo, hmo⟩ : ∃ m : Nat, (if i < keep.length then (min (max (keep.getD i 0) 0) (f.b.length - f.s)).toNat else 0) = m := ⟨_, rfl⟩
      have hen1 : f.s.toNat + mo = en := by rw [← hen, ← hmo]; rfl
      have hw : wrap64 (f.s + (mo : Int)) = (en : Int) := by unfold wrap64; omega
      have hsl23 := slice23n Asl f.b.length csl en (by omega)
      have g0r := (HB.out.cell (World.block_lt_of_cell? w _ g0)).trans g0
      have g1r := (HB.out.cell (World.block_lt_of_cell? w _ g1)).trans g1
      have g2r := (HB.out.cell (World.block_lt_of_cell? w _ g2)).trans g2
      have HWI := Aside0.mk (wrap_succ hgo (Nat.le_trans HS.out (by decide)))
      have HBa := Aside0.mk (HB.out.alloc HB.out.size (.cells #[.string ⟨f.n.toArray⟩, .slice Asl f.b.length csl, .int .i64 f.s] 80))
      have HBK := Aside0.mk (heap_alloc_new wr (.cells #[.string ⟨f.n.toArray⟩, .slice Asl f.b.length csl, .int .i64 f.s] 80))
      have HOa := Aside0.mk (HO.out.alloc (.cells #[.string ⟨f.n.toArray⟩, .slice Asl f.b.length csl, .int .i64 f.s] 80))
      have HII := Aside0.mk hi
      have HLO := Aside0.mk HB.out.size
      have HLOW := Aside0.mk (show ∀ k, (Value.slice Av0 i cv0).ownBlock = some k → k < wr.heap.size from fun k hk => (HO.out.lt k hk).2)
      by_cases hkl : i < keep.length
      · have hklz : (i : Int) < (keep.length : Int) := by omega
        obtain ⟨kv, hkv⟩ : ∃ x, keep.getD i 0 = x := ⟨_, rfl⟩
        obtain ⟨m1, hm1⟩ : ∃ m, (if kv < 0 then 0 else kv) = m := ⟨_, rfl⟩
        obtain ⟨lim, hlim⟩ : ∃ l, wrap64 ((f.b.length : Int) - f.s) = l := ⟨_, rfl⟩
        have hlim1 : lim = f.b.length - f.s := by clear hmo hm1 hw hen hen1; rw [← hlim]; unfold wrap64; omega
        have hmn : (if lim < m1 then lim else m1) = (mo : Int) := by
          rw [← hmo, if_pos hkl, hkv, hlim1, ← hm1]
          clear hm1 hw hen hen1 hmo hlim hlim1 HFC
          (repeat' split) <;> omega
        obtain ⟨ad2, e2, hkc0⟩ := HK.out.2.2 (by omega)
        obtain ⟨cs2, h1, h2, h3⟩ := hkc0 i (keep[i]'hkl) (List.getElem?_eq_getElem hkl)
        have h2 : cs2 = [.int .i64 (keep[i]'hkl)] := h2
        subst h2
        have hkc : w.cell? (Addr.add ad2 i) = some (.int .i64 kv) := by
          have := h3 0 _ rfl
          simp only [Kd.int, Kd.scalar, Nat.mul_one, Nat.add_zero] at this
          rw [this, ← hkv]
          simp [List.getD, List.getElem?_eq_getElem hkl]
        cases e2
        have HKC := Aside0.mk (show ∀ w', Below w.heap.size w w' → w'.cell? (Addr.add ad2 i) = some (.int .i64 kv) from fun w' hb => (hb.cell (World.block_lt_of_cell? w _ hkc)).trans hkc)
        clear hkc0 h1 h3 hBsl hs0 hs1 hbl hmo hen hen1 hkv hlim1 hf HB HO g0 g1 g2 hkc hfc hcsl henl
        go_wp2_with fail
        refine start_ (n := 13) (S := fun w' => w'.cell? (Addr.add ad2 i) = some (.int .i64 kv) ∧ w'.cell? ⟨wr.heap.size, 1, none⟩ = some (.slice Asl f.b.length csl) ∧ w'.cell? ⟨wr.heap.size, 2, none⟩ = some (.int .i64 f.s)) (ds := []) #[false, false, false, false, false, false, false, false, false, false, false, false, false] (by kernel_rfl) rfl rfl ⟨HKC.out _ HBa.out.drew, (blk_cell (blk_drew HBK.out) 1).trans rfl, (blk_cell (blk_drew HBK.out) 2).trans rfl⟩ (fun hHeld => ?_); refine with_tabW Drcr.tab7 Drcr.bits7 (fun HT_ HW_ => ?_)
        have HBd := Aside0.mk (HBa.out.drew)
        have HBKd := Aside0.mk (blk_drew HBK.out)
        have HOd := Aside0.mk (pw_own_below HOa.out ((Below.refl _ _).drew))
        clear HBa HBK HOa g0r g1r g2r hc0r
        generalize World.drew _ = wx at HBd HBKd HOd hHeld ⊢
        refine pure_ (i := 0) (N := some 28) (v := ?_) (a' := ?_) #[true, false, false, false, false, false, false, false, false, false, false, false, false] rfl rfl (any_of HT_.out (by kernel_rfl)) (fun _ _ _ h => h) (Or.inl ⟨by rfl, ?_⟩) ?_ ?_
        rotate_left
        · intro w'
          go_simp
          with_reducible rfl
        rotate_left
        · simp only [Act.put, List.setIfInBounds_toArray, List.set_cons_zero, List.set_cons_succ, i64_w, i32_w]
          rfl
        refine pure_ (i := 1) (N := some 29) (v := ?_) (a' := ?_) #[true, true, false, false, false, false, false, false, false, false, false, false, false] rfl rfl (any_of HT_.out (by kernel_rfl)) (fun _ _ _ h => h) (Or.inl ⟨by rfl, ?_⟩) ?_ ?_
        rotate_left
        · intro w'
          go_simp
          with_reducible rfl
        rotate_left
        · simp only [Act.put, List.setIfInBounds_toArray, List.set_cons_zero, List.set_cons_succ, i64_w, i32_w]
          rfl
        refine pure_ (i := 2) (N := some 30) (v := ?_) (a' := ?_) #[true, true, true, false, false, false, false, false, false, false, false, false, false] rfl rfl (any_of HT_.out (by kernel_rfl)) (fun _ _ _ h => h) (Or.inl ⟨by rfl, ?_⟩) ?_ ?_
        rotate_left
        · intro w'
          go_simp
          with_reducible rfl
        rotate_left
        · simp only [Act.put, List.setIfInBounds_toArray, List.set_cons_zero, List.set_cons_succ, i64_w, i32_w]
          rfl
        refine take_ (i := 3) (N := some 31) (v := ?_) (a' := ?_) #[true, true, true, true, false, false, false, false, false, false, false, false, false] rfl rfl (take_ofW HT_.out HW_.out (by kernel_rfl)) (fun _ _ _ h => h) (Or.inl ⟨by rfl, ?_⟩) hHeld ?_ ?_
        rotate_left
        · rintro w' ⟨s0, s1, s2⟩
          go_simp
          with_reducible rfl
        rotate_left
        · simp only [Act.put, List.setIfInBounds_toArray, List.set_cons_zero, List.set_cons_succ, i64_w, i32_w]
          rfl
        refine pure_ (i := 4) (N := some 32) (v := ?_) (a' := ?_) #[true, true, true, true, true, false, false, false, false, false, false, false, false] rfl rfl (any_of HT_.out (by kernel_rfl)) (fun _ _ _ h => h) (Or.inl ⟨by rfl, ?_⟩) ?_ ?_
        rotate_left
        · intro w'
          go_simp
          with_reducible rfl
        rotate_left
        · simp only [Act.put, List.setIfInBounds_toArray, List.set_cons_zero, List.set_cons_succ, i64_w, i32_w]
          rfl
        refine pure_ (i := 5) (N := some 33) (v := ?_) (a' := ?_) #[true, true, true, true, true, true, false, false, false, false, false, false, false] rfl rfl (any_of HT_.out (by kernel_rfl)) (fun _ _ _ h => h) (Or.inl ⟨by rfl, ?_⟩) ?_ ?_
        rotate_left
        · intro w'
          go_simp
          with_reducible rfl
        rotate_left
        · simp only [Act.put, List.setIfInBounds_toArray, List.set_cons_zero, List.set_cons_succ, i64_w, i32_w]
          rfl
        refine take_ (i := 6) (N := some 34) (v := ?_) (a' := ?_) #[true, true, true, true, true, true, true, false, false, false, false, false, false] rfl rfl (take_ofW HT_.out HW_.out (by kernel_rfl)) (fun _ _ _ h => h) (Or.inl ⟨by rfl, ?_⟩) hHeld ?_ ?_
        rotate_left
        · rintro w' ⟨s0, s1, s2⟩
          go_simp
          with_reducible rfl
        rotate_left
        · simp only [Act.put, List.setIfInBounds_toArray, List.set_cons_zero, List.set_cons_succ, i64_w, i32_w]
          rfl
        refine pure_ (i := 7) (N := some 35) (v := ?_) (a' := ?_) #[true, true, true, true, true, true, true, true, false, false, false, false, false] rfl rfl (any_of HT_.out (by kernel_rfl)) (fun _ _ _ h => h) (Or.inl ⟨by rfl, ?_⟩) ?_ ?_
        rotate_left
        · intro w'
          go_simp
          with_reducible rfl
        rotate_left
        · simp only [Act.put, List.setIfInBounds_toArray, List.set_cons_zero, List.set_cons_succ, i64_w, i32_w]
          rfl
        refine pure_ (i := 8) (N := some 36) (v := ?_) (a' := ?_) #[true, true, true, true, true, true, true, true, true, false, false, false, false] rfl rfl (any_of HT_.out (by kernel_rfl)) (fun _ _ _ h => h) (Or.inl ⟨by rfl, ?_⟩) ?_ ?_
        rotate_left
        · intro w'
          go_simp
          with_reducible rfl
        rotate_left
        · simp only [Act.put, List.setIfInBounds_toArray, List.set_cons_zero, List.set_cons_succ, i64_w, i32_w]
          rfl
        refine take_ (i := 9) (N := some 37) (v := ?_) (a' := ?_) #[true, true, true, true, true, true, true, true, true, true, false, false, false] rfl rfl (take_ofW HT_.out HW_.out (by kernel_rfl)) (fun _ _ _ h => h) (Or.inl ⟨by rfl, ?_⟩) hHeld ?_ ?_
        rotate_left
        · rintro w' ⟨s0, s1, s2⟩
          go_simp
          with_reducible rfl
        rotate_left
        · simp only [Act.put, List.setIfInBounds_toArray, List.set_cons_zero, List.set_cons_succ, i64_w, i32_w]
          rfl
        refine pure_ (i := 10) (N := some 38) (v := ?_) (a' := ?_) #[true, true, true, true, true, true, true, true, true, true, true, false, false] rfl rfl (any_of HT_.out (by kernel_rfl)) (fun _ _ _ h => h) (Or.inl ⟨by rfl, ?_⟩) ?_ ?_
        rotate_left
        · intro w'
          go_simp
          with_reducible rfl
        rotate_left
        · simp only [Act.put, List.setIfInBounds_toArray, List.set_cons_zero, List.set_cons_succ, i64_w, i32_w]
          rfl
        refine pure_ (i := 11) (N := some 39) (v := ?_) (a' := ?_) #[true, true, true, true, true, true, true, true, true, true, true, true, false] rfl rfl (any_of HT_.out (by kernel_rfl)) (fun _ _ _ h => h) (Or.inl ⟨by rfl, ?_⟩) ?_ ?_
        rotate_left
        · intro w'
          go_simp
          with_reducible rfl
        rotate_left
        · simp only [Act.put, List.setIfInBounds_toArray, List.set_cons_zero, List.set_cons_succ, i64_w, i32_w]
          rfl
        refine pure_ (i := 12) (N := some 7) (v := ?_) (a' := ?_) #[true, true, true, true, true, true, true, true, true, true, true, true, true] rfl rfl (any_of HT_.out (by kernel_rfl)) (fun _ _ _ h => h) (Or.inl ⟨by rfl, ?_⟩) ?_ ?_
        rotate_left
        · intro w'
          go_simp
          with_reducible rfl
        rotate_left
        · simp only [Act.put, List.setIfInBounds_toArray, List.set_cons_zero, List.set_cons_succ, i64_w, i32_w]
          rfl
        refine done_ (done_of HT_.out (by kernel_rfl)) ?_
        clear hHeld
        have x1 := (blk_cell HBKd.out 1).trans rfl
        have x2 := (blk_cell HBKd.out 2).trans rfl
        have xf1 := blk_frozen HBKd.out 1
        have hb1 := blk_set HBKd.out 1 (.slice Asl en csl)
        have y1 := (blk_cell hb1 1).trans rfl
        have y2 := (blk_cell hb1 2).trans rfl
        have yf2 := blk_frozen hb1 2
        have hb2 := blk_set hb1 2 (.int .i64 (en : Int))
        have z0 := (blk_cell hb2 0).trans rfl
        have z1 := (blk_cell hb2 1).trans rfl
        have z2 := (blk_cell hb2 2).trans rfl
        have HBz := Aside0.mk (((HBd.out.setCell (p := ⟨wr.heap.size, 1, none⟩) HLO.out (.slice Asl en csl)).setCell (p := ⟨wr.heap.size, 2, none⟩) HLO.out (.int .i64 (en : Int))).alloc (Nat.le_trans HBd.out.size (by simp [World.setCell])) (.cells #[.string ⟨f.n.toArray⟩, .slice Asl en csl, .int .i64 (en : Int)] 80))
        have HOz := Aside0.mk ((own_set (i := 2) (u := .int .i64 (en : Int)) (own_set (i := 1) (u := .slice Asl en csl) HOd.out (fun k hk e => Nat.ne_of_lt (HLOW.out k hk) e)) (fun k hk e => Nat.ne_of_lt (HLOW.out k hk) e)).alloc (.cells #[.string ⟨f.n.toArray⟩, .slice Asl en csl, .int .i64 (en : Int)] 80))
        clear hb1 hb2
        obtain ⟨v55, w9, hrun9, ho9, hg9⟩ := app80 74 HOz.out HBz.out.size (src_new' ((wx.setCell ⟨wr.heap.size, 1, none⟩ (.slice Asl en csl)).setCell ⟨wr.heap.size, 2, none⟩ (.int .i64 (en : Int))) wx.heap.size (by simp [World.setCell]) (.string ⟨f.n.toArray⟩) (.slice Asl en csl) (.int .i64 (en : Int))) (by have := HS.out; have := HII.out; omega)
        have HB9 := Aside0.mk (HBz.out.grown hg9 HBz.out.size (fun k e => (HOz.out.lt k e).1))
        have HO9 := Aside0.mk ho9
        have HR9 := Aside0.mk hrun9
        clear hrun9 ho9 hg9
        go_wp2_with (first
          | (refine bappL_ (some 55) #[.slice Av0 i cv0, .slice (some ⟨wx.heap.size, 0, none⟩) 1 1] rfl rfl (by (try simp only [List.map_toArray, List.map_cons, List.map_nil]); first | done | rfl) rfl HR9.out ?_)
          | fail)
        have hwi := HWI.out
        go_roundg (r.fs.length - (i + 1))
        case measure => exact meas hgo hk
        case rel => exact ⟨i + 1, v55, cs ++ [.string ⟨f.n.toArray⟩, .slice Asl en csl, .int .i64 (en : Int)], rfl, by first | rfl | rw [hwi], hgo, Nat.le_refl _, HO9, ⟨by rw [HSN.out]; exact HFs.out.append (FCs.one HFC.out)⟩, HB9⟩
      · have hklz : ¬ (i : Int) < (keep.length : Int) := by omega
        have hm0 : mo = 0 := by rw [← hmo, if_neg hkl]
        have hw0 : wrap64 f.s = (en : Int) := by rw [← hw, hm0]; simp
        clear hBsl hs0 hs1 hbl hmo hen hen1 hf g0 g1 g2 hfc hcsl henl hw hm0
        have HBz := Aside0.mk ((HB.out.alloc HB.out.size (.cells #[.string ⟨f.n.toArray⟩, .slice Asl en csl, .int .i64 (en : Int)] 80)).alloc (HB.out.alloc HB.out.size (.cells #[.string ⟨f.n.toArray⟩, .slice Asl en csl, .int .i64 (en : Int)] 80)).size (.cells #[.string ⟨f.n.toArray⟩, .slice Asl en csl, .int .i64 (en : Int)] 80))
        have HOz := Aside0.mk ((HO.out.alloc (.cells #[.string ⟨f.n.toArray⟩, .slice Asl en csl, .int .i64 (en : Int)] 80)).alloc (.cells #[.string ⟨f.n.toArray⟩, .slice Asl en csl, .int .i64 (en : Int)] 80))
        obtain ⟨v55, w9, hrun9, ho9, hg9⟩ := app80 74 HOz.out HBz.out.size (src_new' (wr.alloc (.cells #[.string ⟨f.n.toArray⟩, .slice Asl en csl, .int .i64 (en : Int)] 80)) (wr.heap.size + 1) (by simp) (.string ⟨f.n.toArray⟩) (.slice Asl en csl) (.int .i64 (en : Int))) (by have := HS.out; have := HII.out; omega)
        have HB9 := Aside0.mk (HBz.out.grown hg9 HBz.out.size (fun k e => (HOz.out.lt k e).1))
        have HO9 := Aside0.mk ho9
        have HR9 := Aside0.mk hrun9
        clear hrun9 ho9 hg9
        go_wp2_with (first
          | (refine bappL_ (some 55) #[.slice Av0 i cv0, .slice (some ⟨wr.heap.size + 1, 0, none⟩) 1 1] rfl rfl (by (try simp only [List.map_toArray, List.map_cons, List.map_nil]); first | done | rfl) rfl HR9.out ?_)
          | fail)
        have hwi := HWI.out
        go_roundg (r.fs.length - (i + 1))
        case measure => exact meas hgo hk
        case rel => exact ⟨i + 1, v55, cs ++ [.string ⟨f.n.toArray⟩, .slice Asl en csl, .int .i64 (en : Int)], rfl, by first | rfl | rw [hwi], hgo, Nat.le_refl _, HO9, ⟨by rw [HSN.out]; exact HFs.out.append (FCs.one HFC.out)⟩, HB9⟩
    · have hlz : ¬ (i : Int) < (r.fs.length : Int) := by omega
      have hie : i = r.fs.length := by omega
      have HIE := Aside0.mk hie
      clear hie
      have Hr := Aside0.mk (H.out.below HB.out)
      obtain ⟨A1, c1, ⟨k0, k1, k2⟩, _⟩ := Hr.out.cells
      have f0 := Hr.out.frozen 0
      have f2 := Hr.out.frozen 2
      go_wp2
      first | go_end0 | ((try simp only [Exit.inBlock, Exit.then]); refine bodyPost_ret (results_none rfl _ _ _) rfl ?_)
      have h := Hr.out
      have hl0 : (crL keep 0 r.fs).length = i := by rw [crL_len, HIE.out]
      have hF := HFs.out.fr (M := fun _ => False) (Fr.of_below HB.out) (fun _ _ h => h.elim)
      rw [HIE.out, List.take_length] at hF
      have s1 := h.setL (fs := crL keep 0 r.fs) (v := .slice Av0 i cv0) (cs := cs) (by rw [hl0]; exact own_low HO.out) hF (Av.of_row HO.out HX.out) (by rw [hl0, HIE.out]; exact HS.out)
      have s2 := s1.1.set 2 (Or.inr rfl) (-1) (rcr r keep) rfl (by rw [if_neg (by decide)]; rfl) h.room0 h.room1 (by show (-1 : Int) ≤ -1; omega) (by show (-1 : Int) ≤ _; omega)
      exact ⟨rfl, s2.1, ((Fr.of_below HB.out).trans s1.2).trans s2.2⟩
end Go.Proofs.Ytihbgdobicokpaa.D
namespace Go.Proofs.Ytihbgdobicokpaa.D
open Go.RowKit Go.Maps Go.Proofs.Ytihbgdobicokpaa.X Go.Proofs.YtihbgdobicokpaaW.PrintWords Go.Proofs.YtihbgdobicokpaaW.PrintLast Go.Proofs.YtihbgdobicokpaaW.PrintMore
attribute [local go_sem] max2_int min2_int max_two min_two max_three min_three max_four min_four   -- for this text's walks alone
set_option linter.unusedVariables false
set_option linter.unusedSimpArgs false
variable {X : Nat → Prop}
theorem Spoil_loop : ∀ (m i : Nat) (l : List Int), l.length - i = m → l.length ≤ 140737488355328 → ∃ r, leathelp_Spoil.l0 (m + 1) l (i : Int) = some r
  | 0, i, l, hm, hl => by
    unfold leathelp_Spoil.l0
    rw [if_neg (by omega)]
    exact ⟨_, rfl⟩
  | m + 1, i, l, hm, hl => by
    unfold leathelp_Spoil.l0
    rw [if_pos (by omega), if_pos (by omega), wrap_succ (n := l.length) (by omega) (by omega)]
    exact Spoil_loop m (i + 1) _ (by rw [List.length_set]; omega) (by rw [List.length_set]; exact hl)
theorem Spoil_own {w0 w : World} {v : Value} {xs : List Int} (hB : Below w0.heap.size w0 w) (ho : w.ownsRow w0.heap.size 5 1 v xs.length (xs.map (Value.int .u8))) (hl : xs.length ≤ 140737488355328) :
    Calls Try.prog 29 #[v] w fun e w' => e = .returned (.tuple #[]) ∧ Below w0.heap.size w0 w' ∧ Fr (fun k => v.ownBlock = some k) w w' := by
  obtain ⟨r, hr⟩ := Spoil_loop xs.length 0 xs (by omega) hl
  refine (leathelp_Spoil.calls (xs.length + 1) (fun k => v.ownBlock = some k) v xs r w0 w hB (Kd.R_of_own ho (fun k hk => hk)) hr).mono ?_
  rintro e w' ⟨rfl, _, hb, hk⟩
  exact ⟨rfl, hb, hb.os.trans hB.os.symm, hb.tape.trans hB.tape.symm, hb.output.trans hB.output.symm, hk.1, fun k hkl hn => hk.2 k hkl hn⟩
theorem got_only' {f : Fl} {fs : List Fl} (h : f ∈ fs) (hu : ∀ g ∈ fs, g.n = f.n → g = f) : got f.n fs = (f.b, f.s) := by
  have h1 := look_names (fs := fs) (n := f.n) (List.mem_map_of_mem h)
  obtain ⟨g, hg⟩ := Option.isSome_iff_exists.1 h1
  have h2 : g ∈ fs ∧ g.n = f.n := by
    unfold look at hg
    exact ⟨List.mem_of_find?_eq_some hg, by simpa using List.find?_some (p := fun x : Fl => x.n == f.n) hg⟩
  have h3 := hu g h2.1 h2.2
  subst h3
  simp [got, hg]
theorem nodup_uniq : ∀ {fs : List Fl}, (fs.map Fl.n).Nodup → ∀ {f g : Fl}, f ∈ fs → g ∈ fs → g.n = f.n → g = f
  | [], _, _, _, h, _, _ => by cases h
  | x :: l, hn, f, g, hf, hg, e => by
    rw [List.map_cons, List.nodup_cons] at hn
    rcases List.mem_cons.1 hf with h1 | h1 <;> rcases List.mem_cons.1 hg with h2 | h2
    · rw [h1, h2]
    · exact absurd (show x.n ∈ l.map Fl.n by rw [← h1, ← e]; exact List.mem_map_of_mem h2) hn.1
    · exact absurd (show x.n ∈ l.map Fl.n by rw [← h2, e]; exact List.mem_map_of_mem h1) hn.1
    · exact nodup_uniq hn.2 h1 h2 e
theorem got_idx {fs : List Fl} (hn : (fs.map Fl.n).Nodup) {i : Nat} {f : Fl} (hf : fs[i]? = some f) : got f.n fs = (f.b, f.s) :=
  got_only' (List.mem_of_getElem? hf) fun g hg e => nodup_uniq hn (List.mem_of_getElem? hf) hg e
def Dral.T8 : Bool × List (List Nat × List Nat) := (true, [([], []), ([], []), ([0, 1], [0, 1]), ([2], [2]), ([], []), ([4], [4]), ([5], [5]), ([6], [6]), ([], []), ([7, 8], [7, 8]), ([9], [9]), ([10], [10]), ([3, 11], [3, 11]), ([12], [12]), ([13], [13]), ([14, 13], [13, 14]), ([13, 15], [13, 15]), ([16, 13], [16]), ([17], [17]), ([17], [17]), ([19, 17], [17, 19]), ([20, 17], [17, 20]), ([21, 17], [17, 21]), ([17], [17]), ([22, 23, 17], [17, 22, 23]), ([24, 17], [17, 24]), ([25, 17], [17, 25]), ([18, 26, 17, 17], [17, 18, 26]), ([27, 17], [17, 27]), ([17, 28], [17, 28])])
def Dral.B8 : List Nat := [0, 0, 3, 7, 0, 16, 48, 112, 0, 496, 1008, 2032, 4095, 8191, 16383, 32767, 65535, 131071, 262143, 262143, 786431, 1835007, 3932159, 262143, 16515071, 33292287, 66846719, 134217727, 268435455, 536870911]
theorem Dral.tab8 : rtab .any (opsOf Try.f39 8) = Dral.T8 := by kernel_rfl
theorem Dral.bits8 : waitsOk Dral.T8.2 Dral.B8 = true := by kernel_rfl
set_option maxHeartbeats 8000000 in
set_option maxRecDepth 100000 in
theorem alike_calls {N : Nat} {w : World} {p b q : Nat} {d : Dk} {r : Rk} (h : IsD N w p b d) (hr : IsR (fun _ => False) w q r) (hfs : d.fs = r.fs) (hdd : d.dead = decide (r.left = 0)) :
    Calls Try.prog 39 #[.pointer (some ⟨p, 0, none⟩), .pointer (some ⟨q, 0, none⟩)] w fun e w' => e = .returned (.bool true) ∧ Below w.heap.size w w' := by
  have HLEN := Aside0.mk (show (lsD d).length ≤ 1000000 from by unfold lsD names; have := names_len h; have := h.small; split <;> simp <;> omega)
  have HMX := Aside0.mk h.nmle
  have H := Aside0.mk h
  have HR := Aside0.mk hr
  have HFS := Aside0.mk hfs
  have HDD := Aside0.mk hdd
  obtain ⟨A0, c0, ⟨hc0, _, _⟩, _, _, hcell⟩ := hr.cells
  have HC0 := Aside0.mk (show ∀ w', Below w.heap.size w w' → w'.cell? ⟨q, 0, none⟩ = some (.slice A0 r.fs.length c0) from fun w' hb => (hb.cell (World.block_lt_of_cell? w _ hc0)).trans hc0)
  have HCELL := Aside0.mk hcell
  clear h hr hc0 hcell hfs hdd
  go_enter Try.func39, Try.ntmps39
  go_wp2_with fail
  refine (List_calls H.out).mono ?_
  rintro e w1 ⟨v1, rfl, ho1, hb1⟩
  obtain ⟨A1, c1, rfl⟩ := own_slice ho1
  have HB1 := Aside0.mk hb1
  have HO1 := Aside0.mk ho1
  clear ho1 hb1
  cases hdd : d.dead with
  | true =>
    have hleft : r.left = 0 := by have := HDD.out; rw [hdd] at this; simpa using this
    have hls : lsD d = [] := by unfold lsD; rw [if_pos hdd]
    have K2 := Dead_calls (H.out.below HB1.out)
    have K3 := rDead_calls (HR.out.below HB1.out)
    have K4 := Used_calls (H.out.below HB1.out)
    rw [hdd] at K2
    rw [decide_eq_true hleft] at K3
    rw [hls] at HO1 ⊢
    rw [HFS.out] at K4
    go_wp2_with (first
      | (go_at_call 23; refine K2.mono ?_; rintro e w2 ⟨rfl, rfl⟩)
      | (go_at_call 47; refine K3.mono ?_; rintro e w2 ⟨rfl, rfl⟩)
      | (go_at_call 19; refine K4.mono ?_; rintro e w4 ⟨rfl, hb4⟩; have HB4 := Aside0.mk (HB1.out.trans (hb4.mono HB1.out.size)); have K5 := rUsed_calls (HR.out.below HB4.out); have K6 := rDead_calls (HR.out.below HB4.out); rw [decide_eq_true hleft] at K6; clear hb4 K3 K4)
      | (go_at_call 50; refine K5.mono ?_; rintro e w5 ⟨rfl, rfl⟩)
      | (go_at_call 47; refine K6.mono ?_; rintro e w2 ⟨rfl, rfl⟩)
      | fail)
    go_loopg [6] (0) (fun kx s6 wr => s6 = .int .i64 0 ∧ Aside0 (Below w.heap.size w wr))
    case atStart => exact ⟨rfl, HB4⟩
    case round =>
      obtain ⟨rfl, HB⟩ := hrel
      go_wp2
      go_ret
      exact ⟨rfl, HB.out⟩
  | false =>
    have hleft : ¬ r.left = 0 := by have := HDD.out; rw [hdd] at this; simpa using this
    have hls : lsD d = names d.fs := by unfold lsD; rw [if_neg (by rw [hdd]; decide)]
    have hnl : (lsD d).length = r.fs.length := by rw [hls, HFS.out]; simp [names]
    have K2 := Dead_calls (H.out.below HB1.out)
    have K3 := rDead_calls (HR.out.below HB1.out)
    have K4 := Used_calls (H.out.below HB1.out)
    rw [hdd] at K2
    rw [decide_eq_false hleft] at K3
    rw [hnl] at HO1 ⊢
    rw [HFS.out] at K4
    have HRD := Aside0.mk (show ∀ n, n ∈ names d.fs → rdD d n = ((got n d.fs).1, 0) from fun n hn => rd_names hdd hn)
    have HLS := Aside0.mk hls
    have HHL := Aside0.mk hleft
    have hz0 := HC0.out w1 HB1.out
    go_wp2_with (first
      | (go_at_call 23; refine K2.mono ?_; rintro e w2 ⟨rfl, rfl⟩)
      | (go_at_call 47; refine K3.mono ?_; rintro e w2 ⟨rfl, rfl⟩)
      | (go_at_call 19; refine K4.mono ?_; rintro e w4 ⟨rfl, hb4⟩; have HB4 := Aside0.mk (HB1.out.trans (hb4.mono HB1.out.size)); have HO4 := Aside0.mk (pw_own_below HO1.out (hb4.mono (Nat.le_refl _))); have K5 := rUsed_calls (HR.out.below HB4.out); have K6 := rDead_calls (HR.out.below HB4.out); rw [decide_eq_false HHL.out] at K6; have hz4 := HC0.out w4 HB4.out; clear hb4 K3 K4 hz0 HO1 HB1)
      | (go_at_call 50; refine K5.mono ?_; rintro e w5 ⟨rfl, rfl⟩)
      | (go_at_call 47; refine K6.mono ?_; rintro e w2 ⟨rfl, rfl⟩)
      | fail)
    go_loopg [6] (r.fs.length) (fun kx s6 wr => ∃ i : Nat, s6 = .int .i64 (i : Int) ∧ i ≤ r.fs.length ∧ r.fs.length - i ≤ kx ∧ Aside0 (Below w.heap.size w wr) ∧ Aside0 (Below w2.heap.size w2 wr))
    case atStart => exact ⟨0, rfl, Nat.zero_le _, by omega, HB4, ⟨Below.refl _ _⟩⟩
    case round =>
      obtain ⟨i, rfl, hi, hk, HB, HBr⟩ := hrel
      by_cases hgo : i < r.fs.length
      · have hlz : (i : Int) < (r.fs.length : Int) := by omega
        obtain ⟨f, hf⟩ : ∃ f, r.fs[i]? = some f := ⟨_, List.getElem?_eq_getElem hgo⟩
        obtain ⟨ad, sl, e1, g0, g1, _, hfc⟩ := HCELL.out i f hf
        cases e1
        obtain ⟨sl0, esl, hBsl, _⟩ := hfc
        injection esl with _ esl
        injection esl with esl _
        subst esl
        obtain ⟨Asl, csl, rfl, _⟩ := hBsl.slice
        have HBSL := Aside0.mk hBsl
        have hln : (lsD d)[i]? = some f.n := by rw [HLS.out]; unfold names; rw [List.getElem?_map, HFS.out, hf]; rfl
        have hmem : f.n ∈ names d.fs := by rw [← HLS.out]; exact List.mem_of_getElem? hln
        have hgot : got f.n d.fs = (f.b, f.s) := by have hn := H.out.nodup; rw [HFS.out] at hn ⊢; exact got_idx hn hf
        have HRD2 := Aside0.mk (show rdD d f.n = (f.b, 0) from by rw [HRD.out _ hmem, hgot])
        have HNB := Aside0.mk (show (⟨f.n.toArray⟩ : ByteArray).size ≤ maxLen from HMX.out f.n hmem)
        obtain ⟨ad1, e2, hcell1⟩ := row_cells HO4.out i (v := .string ⟨f.n.toArray⟩) (by rw [List.getElem?_map, hln]; rfl)
        cases e2
        have HC1 := Aside0.mk (show ∀ w', Below w2.heap.size w2 w' → w'.cell? (ad1.add i) = some (.string ⟨f.n.toArray⟩) from fun w' hb => (hb.cell (World.block_lt_of_cell? w2 _ hcell1)).trans hcell1)
        have HCQ := Aside0.mk (show ∀ w', Below w.heap.size w w' → w'.cell? ⟨q, 0, none⟩ = some (.slice (some ad) r.fs.length c0) ∧ w'.cell? (ad.add (i * 3)) = some (.string ⟨f.n.toArray⟩) ∧ w'.cell? ⟨(ad.add (i * 3)).block, (ad.add (i * 3)).off + 1, none⟩ = some (.slice Asl f.b.length csl) from fun w' hb => ⟨HC0.out w' hb, (hb.cell (World.block_lt_of_cell? w _ g0)).trans g0, (hb.cell (World.block_lt_of_cell? w _ g1)).trans g1⟩)
        have HFL := Aside0.mk hBsl.len
        have HWI := Aside0.mk (wrap_succ hgo (Nat.le_trans HR.out.small (by decide)))
        clear hf g0 g1 hBsl hln hmem hgot hcell1
        have hc1 := HC1.out wr HBr.out
        go_wp2_with fail
        refine (Read_is (H.out.below HB.out) HNB.out HRD2.out).mono ?_
        rintro e w6 ⟨v6, rfl, ho6, hb6⟩
        have HO6 := Aside0.mk ho6
        have hB6 := IsB.of_own ho6 (by simp) HFL.out
        obtain ⟨B6, k6, rfl⟩ := hB6.agg
        have HB6 := Aside0.mk (HB.out.trans (hb6.mono HB.out.size))
        have HBr6 := Aside0.mk (HBr.out.trans (hb6.mono HBr.out.size))
        have HV6 := Aside0.mk hB6
        have HOW := Aside0.mk (show ∀ k, (Value.slice B6 f.b.length k6).ownBlock = some k → wr.heap.size ≤ k from fun k hk => (ho6.lt k hk).1)
        have HWS := Aside0.mk (And.intro HB.out.size HBr.out.size)
        clear hb6 ho6 hB6 HB HBr hc1
        go_wp2_with fail
        refine start_ (n := 30) (S := fun w' => w'.cell? (ad1.add i) = some (.string ⟨f.n.toArray⟩) ∧ w'.cell? ⟨q, 0, none⟩ = some (.slice (some ad) r.fs.length c0) ∧ w'.cell? (ad.add (i * 3)) = some (.string ⟨f.n.toArray⟩) ∧ w'.cell? ⟨(ad.add (i * 3)).block, (ad.add (i * 3)).off + 1, none⟩ = some (.slice Asl f.b.length csl)) (ds := []) #[false, false, false, false, false, false, false, false, false, false, false, false, false, false, false, false, false, false, false, false, false, false, false, false, false, false, false, false, false, false] (by kernel_rfl) rfl rfl ⟨HC1.out _ HBr6.out.drew, (HCQ.out _ HB6.out.drew).1, (HCQ.out _ HB6.out.drew).2.1, (HCQ.out _ HB6.out.drew).2.2⟩ (fun hHeld => ?_); refine with_tabW Dral.tab8 Dral.bits8 (fun HT_ HW_ => ?_)
        have HBd := Aside0.mk (HB6.out.drew)
        have HBrd := Aside0.mk (HBr6.out.drew)
        have HVd := Aside0.mk (HV6.out.below ((Below.refl w6.heap.size w6).drew))
        have HOd := Aside0.mk (pw_own_below HO6.out ((Below.refl _ _).drew))
        clear HB6 HBr6 HV6 HO6
        generalize World.drew _ = w8 at HBd HBrd HVd HOd hHeld ⊢
        refine pure_ (i := 0) (N := some 62) (v := ?_) (a' := ?_) #[true, false, false, false, false, false, false, false, false, false, false, false, false, false, false, false, false, false, false, false, false, false, false, false, false, false, false, false, false, false] rfl rfl (any_of HT_.out (by kernel_rfl)) (fun _ _ _ h => h) (Or.inl ⟨by rfl, ?_⟩) ?_ ?_
        rotate_left
        · intro w'
          go_simp
          with_reducible rfl
        rotate_left
        · simp only [Act.put, List.setIfInBounds_toArray, List.set_cons_zero, List.set_cons_succ, i64_w, i32_w]
          rfl
        refine pure_ (i := 1) (N := some 63) (v := ?_) (a' := ?_) #[true, true, false, false, false, false, false, false, false, false, false, false, false, false, false, false, false, false, false, false, false, false, false, false, false, false, false, false, false, false] rfl rfl (any_of HT_.out (by kernel_rfl)) (fun _ _ _ h => h) (Or.inl ⟨by rfl, ?_⟩) ?_ ?_
        rotate_left
        · intro w'
          go_simp
          with_reducible rfl
        rotate_left
        · simp only [Act.put, List.setIfInBounds_toArray, List.set_cons_zero, List.set_cons_succ, i64_w, i32_w]
          rfl
        refine pure_ (i := 2) (N := some 64) (v := ?_) (a' := ?_) #[true, true, true, false, false, false, false, false, false, false, false, false, false, false, false, false, false, false, false, false, false, false, false, false, false, false, false, false, false, false] rfl rfl (any_of HT_.out (by kernel_rfl)) (fun _ _ _ h => h) (Or.inl ⟨by rfl, ?_⟩) ?_ ?_
        rotate_left
        · intro w'
          go_simp
          with_reducible rfl
        rotate_left
        · simp only [Act.put, List.setIfInBounds_toArray, List.set_cons_zero, List.set_cons_succ, i64_w, i32_w]
          rfl
        refine take_ (i := 3) (N := some 65) (v := ?_) (a' := ?_) #[true, true, true, true, false, false, false, false, false, false, false, false, false, false, false, false, false, false, false, false, false, false, false, false, false, false, false, false, false, false] rfl rfl (take_ofW HT_.out HW_.out (by kernel_rfl)) (fun _ _ _ h => h) (Or.inl ⟨by rfl, ?_⟩) hHeld ?_ ?_
        rotate_left
        · rintro w' ⟨s0, s1, s2, s3⟩
          go_simp
          with_reducible rfl
        rotate_left
        · simp only [Act.put, List.setIfInBounds_toArray, List.set_cons_zero, List.set_cons_succ, i64_w, i32_w]
          rfl
        refine pure_ (i := 4) (N := some 66) (v := ?_) (a' := ?_) #[true, true, true, true, true, false, false, false, false, false, false, false, false, false, false, false, false, false, false, false, false, false, false, false, false, false, false, false, false, false] rfl rfl (any_of HT_.out (by kernel_rfl)) (fun _ _ _ h => h) (Or.inl ⟨by rfl, ?_⟩) ?_ ?_
        rotate_left
        · intro w'
          go_simp
          with_reducible rfl
        rotate_left
        · simp only [Act.put, List.setIfInBounds_toArray, List.set_cons_zero, List.set_cons_succ, i64_w, i32_w]
          rfl
        refine pure_ (i := 5) (N := some 67) (v := ?_) (a' := ?_) #[true, true, true, true, true, true, false, false, false, false, false, false, false, false, false, false, false, false, false, false, false, false, false, false, false, false, false, false, false, false] rfl rfl (any_of HT_.out (by kernel_rfl)) (fun _ _ _ h => h) (Or.inl ⟨by rfl, ?_⟩) ?_ ?_
        rotate_left
        · intro w'
          go_simp
          with_reducible rfl
        rotate_left
        · simp only [Act.put, List.setIfInBounds_toArray, List.set_cons_zero, List.set_cons_succ, i64_w, i32_w]
          rfl
        refine pure_ (i := 6) (N := some 68) (v := ?_) (a' := ?_) #[true, true, true, true, true, true, true, false, false, false, false, false, false, false, false, false, false, false, false, false, false, false, false, false, false, false, false, false, false, false] rfl rfl (any_of HT_.out (by kernel_rfl)) (fun _ _ _ h => h) (Or.inl ⟨by rfl, ?_⟩) ?_ ?_
        rotate_left
        · intro w'
          go_simp
          with_reducible rfl
        rotate_left
        · simp only [Act.put, List.setIfInBounds_toArray, List.set_cons_zero, List.set_cons_succ, i64_w, i32_w]
          rfl
        refine take_ (i := 7) (N := some 69) (v := ?_) (a' := ?_) #[true, true, true, true, true, true, true, true, false, false, false, false, false, false, false, false, false, false, false, false, false, false, false, false, false, false, false, false, false, false] rfl rfl (take_ofW HT_.out HW_.out (by kernel_rfl)) (fun _ _ _ h => h) (Or.inl ⟨by rfl, ?_⟩) hHeld ?_ ?_
        rotate_left
        · rintro w' ⟨s0, s1, s2, s3⟩
          go_simp
          with_reducible rfl
        rotate_left
        · simp only [Act.put, List.setIfInBounds_toArray, List.set_cons_zero, List.set_cons_succ, i64_w, i32_w]
          rfl
        refine pure_ (i := 8) (N := some 70) (v := ?_) (a' := ?_) #[true, true, true, true, true, true, true, true, true, false, false, false, false, false, false, false, false, false, false, false, false, false, false, false, false, false, false, false, false, false] rfl rfl (any_of HT_.out (by kernel_rfl)) (fun _ _ _ h => h) (Or.inl ⟨by rfl, ?_⟩) ?_ ?_
        rotate_left
        · intro w'
          go_simp
          with_reducible rfl
        rotate_left
        · simp only [Act.put, List.setIfInBounds_toArray, List.set_cons_zero, List.set_cons_succ, i64_w, i32_w]
          rfl
        refine pure_ (i := 9) (N := some 71) (v := ?_) (a' := ?_) #[true, true, true, true, true, true, true, true, true, true, false, false, false, false, false, false, false, false, false, false, false, false, false, false, false, false, false, false, false, false] rfl rfl (any_of HT_.out (by kernel_rfl)) (fun _ _ _ h => h) (Or.inl ⟨by rfl, ?_⟩) ?_ ?_
        rotate_left
        · intro w'
          go_simp
          with_reducible rfl
        rotate_left
        · simp only [Act.put, List.setIfInBounds_toArray, List.set_cons_zero, List.set_cons_succ, i64_w, i32_w]
          rfl
        refine pure_ (i := 10) (N := some 72) (v := ?_) (a' := ?_) #[true, true, true, true, true, true, true, true, true, true, true, false, false, false, false, false, false, false, false, false, false, false, false, false, false, false, false, false, false, false] rfl rfl (any_of HT_.out (by kernel_rfl)) (fun _ _ _ h => h) (Or.inl ⟨by rfl, ?_⟩) ?_ ?_
        rotate_left
        · intro w'
          go_simp
          with_reducible rfl
        rotate_left
        · simp only [Act.put, List.setIfInBounds_toArray, List.set_cons_zero, List.set_cons_succ, i64_w, i32_w]
          rfl
        refine take_ (i := 11) (N := some 73) (v := ?_) (a' := ?_) #[true, true, true, true, true, true, true, true, true, true, true, true, false, false, false, false, false, false, false, false, false, false, false, false, false, false, false, false, false, false] rfl rfl (take_ofW HT_.out HW_.out (by kernel_rfl)) (fun _ _ _ h => h) (Or.inl ⟨by rfl, ?_⟩) hHeld ?_ ?_
        rotate_left
        · rintro w' ⟨s0, s1, s2, s3⟩
          go_simp
          with_reducible rfl
        rotate_left
        · simp only [Act.put, List.setIfInBounds_toArray, List.set_cons_zero, List.set_cons_succ, i64_w, i32_w]
          rfl
        refine pure_ (i := 12) (N := some 74) (v := ?_) (a' := ?_) #[true, true, true, true, true, true, true, true, true, true, true, true, true, false, false, false, false, false, false, false, false, false, false, false, false, false, false, false, false, false] rfl rfl (any_of HT_.out (by kernel_rfl)) (fun _ _ _ h => h) (Or.inl ⟨by rfl, ?_⟩) ?_ ?_
        rotate_left
        · intro w'
          go_simp
          with_reducible rfl
        rotate_left
        · simp only [Act.put, List.setIfInBounds_toArray, List.set_cons_zero, List.set_cons_succ, i64_w, i32_w]
          rfl
        refine pure_ (i := 13) (N := some 75) (v := ?_) (a' := ?_) #[true, true, true, true, true, true, true, true, true, true, true, true, true, true, false, false, false, false, false, false, false, false, false, false, false, false, false, false, false, false] rfl rfl (any_of HT_.out (by kernel_rfl)) (fun _ _ _ h => h) (Or.inl ⟨by rfl, ?_⟩) ?_ ?_
        rotate_left
        · intro w'
          go_simp
          with_reducible rfl
        rotate_left
        · simp only [Act.put, List.setIfInBounds_toArray, List.set_cons_zero, List.set_cons_succ, i64_w, i32_w]
          rfl
        refine pure_ (i := 14) (N := some 76) (v := ?_) (a' := ?_) #[true, true, true, true, true, true, true, true, true, true, true, true, true, true, true, false, false, false, false, false, false, false, false, false, false, false, false, false, false, false] rfl rfl (any_of HT_.out (by kernel_rfl)) (fun _ _ _ h => h) (Or.inl ⟨by rfl, ?_⟩) ?_ ?_
        rotate_left
        · intro w'
          go_simp
          with_reducible rfl
        rotate_left
        · simp only [Act.put, List.setIfInBounds_toArray, List.set_cons_zero, List.set_cons_succ, i64_w, i32_w]
          rfl
        refine pure_ (i := 15) (N := some 77) (v := ?_) (a' := ?_) #[true, true, true, true, true, true, true, true, true, true, true, true, true, true, true, true, false, false, false, false, false, false, false, false, false, false, false, false, false, false] rfl rfl (any_of HT_.out (by kernel_rfl)) (fun _ _ _ h => h) (Or.inl ⟨by rfl, ?_⟩) ?_ ?_
        rotate_left
        · intro w'
          go_simp
          with_reducible rfl
        rotate_left
        · simp only [Act.put, List.setIfInBounds_toArray, List.set_cons_zero, List.set_cons_succ, i64_w, i32_w]
          rfl
        refine pure_ (i := 16) (N := some 78) (v := ?_) (a' := ?_) #[true, true, true, true, true, true, true, true, true, true, true, true, true, true, true, true, true, false, false, false, false, false, false, false, false, false, false, false, false, false] rfl rfl (any_of HT_.out (by kernel_rfl)) (fun _ _ _ h => h) (Or.inl ⟨by rfl, ?_⟩) ?_ ?_
        rotate_left
        · intro w'
          go_simp
          with_reducible rfl
        rotate_left
        · simp only [Act.put, List.setIfInBounds_toArray, List.set_cons_zero, List.set_cons_succ, i64_w, i32_w]
          rfl
        refine pure_ (i := 17) (N := some 79) (v := ?_) (a' := ?_) #[true, true, true, true, true, true, true, true, true, true, true, true, true, true, true, true, true, true, false, false, false, false, false, false, false, false, false, false, false, false] rfl rfl (any_of HT_.out (by kernel_rfl)) (fun _ _ _ h => h) (Or.inl ⟨by rfl, ?_⟩) ?_ ?_
        rotate_left
        · intro w'
          go_simp
          with_reducible rfl
        rotate_left
        · simp only [Act.put, List.setIfInBounds_toArray, List.set_cons_zero, List.set_cons_succ, i64_w, i32_w]
          rfl
        refine pure_ (i := 18) (N := some 80) (v := ?_) (a' := ?_) #[true, true, true, true, true, true, true, true, true, true, true, true, true, true, true, true, true, true, true, false, false, false, false, false, false, false, false, false, false, false] rfl rfl (any_of HT_.out (by kernel_rfl)) (fun _ _ _ h => h) (Or.inl ⟨by rfl, ?_⟩) ?_ ?_
        rotate_left
        · intro w'
          go_simp
          with_reducible rfl
        rotate_left
        · simp only [Act.put, List.setIfInBounds_toArray, List.set_cons_zero, List.set_cons_succ, i64_w, i32_w]
          rfl
        refine pure_ (i := 19) (N := some 81) (v := ?_) (a' := ?_) #[true, true, true, true, true, true, true, true, true, true, true, true, true, true, true, true, true, true, true, true, false, false, false, false, false, false, false, false, false, false] rfl rfl (any_of HT_.out (by kernel_rfl)) (fun _ _ _ h => h) (Or.inl ⟨by rfl, ?_⟩) ?_ ?_
        rotate_left
        · intro w'
          go_simp
          with_reducible rfl
        rotate_left
        · simp only [Act.put, List.setIfInBounds_toArray, List.set_cons_zero, List.set_cons_succ, i64_w, i32_w]
          rfl
        refine pure_ (i := 20) (N := some 82) (v := ?_) (a' := ?_) #[true, true, true, true, true, true, true, true, true, true, true, true, true, true, true, true, true, true, true, true, true, false, false, false, false, false, false, false, false, false] rfl rfl (any_of HT_.out (by kernel_rfl)) (fun _ _ _ h => h) (Or.inl ⟨by rfl, ?_⟩) ?_ ?_
        rotate_left
        · intro w'
          go_simp
          with_reducible rfl
        rotate_left
        · simp only [Act.put, List.setIfInBounds_toArray, List.set_cons_zero, List.set_cons_succ, i64_w, i32_w]
          rfl
        refine pure_ (i := 21) (N := some 83) (v := ?_) (a' := ?_) #[true, true, true, true, true, true, true, true, true, true, true, true, true, true, true, true, true, true, true, true, true, true, false, false, false, false, false, false, false, false] rfl rfl (any_of HT_.out (by kernel_rfl)) (fun _ _ _ h => h) (Or.inl ⟨by rfl, ?_⟩) ?_ ?_
        rotate_left
        · intro w'
          go_simp
          with_reducible rfl
        rotate_left
        · simp only [Act.put, List.setIfInBounds_toArray, List.set_cons_zero, List.set_cons_succ, i64_w, i32_w]
          rfl
        refine take_ (i := 22) (N := some 84) (v := ?_) (a' := ?_) #[true, true, true, true, true, true, true, true, true, true, true, true, true, true, true, true, true, true, true, true, true, true, true, false, false, false, false, false, false, false] rfl rfl (take_ofW HT_.out HW_.out (by kernel_rfl)) (fun _ _ _ h => h) (Or.inl ⟨by rfl, ?_⟩) hHeld ?_ ?_
        rotate_left
        · rintro w' ⟨s0, s1, s2, s3⟩
          go_simp
          with_reducible rfl
        rotate_left
        · simp only [Act.put, List.setIfInBounds_toArray, List.set_cons_zero, List.set_cons_succ, i64_w, i32_w]
          rfl
        refine pure_ (i := 23) (N := some 85) (v := ?_) (a' := ?_) #[true, true, true, true, true, true, true, true, true, true, true, true, true, true, true, true, true, true, true, true, true, true, true, true, false, false, false, false, false, false] rfl rfl (any_of HT_.out (by kernel_rfl)) (fun _ _ _ h => h) (Or.inl ⟨by rfl, ?_⟩) ?_ ?_
        rotate_left
        · intro w'
          go_simp
          with_reducible rfl
        rotate_left
        · simp only [Act.put, List.setIfInBounds_toArray, List.set_cons_zero, List.set_cons_succ, i64_w, i32_w]
          rfl
        refine pure_ (i := 24) (N := some 86) (v := ?_) (a' := ?_) #[true, true, true, true, true, true, true, true, true, true, true, true, true, true, true, true, true, true, true, true, true, true, true, true, true, false, false, false, false, false] rfl rfl (any_of HT_.out (by kernel_rfl)) (fun _ _ _ h => h) (Or.inl ⟨by rfl, ?_⟩) ?_ ?_
        rotate_left
        · intro w'
          go_simp
          with_reducible rfl
        rotate_left
        · simp only [Act.put, List.setIfInBounds_toArray, List.set_cons_zero, List.set_cons_succ, i64_w, i32_w]
          rfl
        refine pure_ (i := 25) (N := some 87) (v := ?_) (a' := ?_) #[true, true, true, true, true, true, true, true, true, true, true, true, true, true, true, true, true, true, true, true, true, true, true, true, true, true, false, false, false, false] rfl rfl (any_of HT_.out (by kernel_rfl)) (fun _ _ _ h => h) (Or.inl ⟨by rfl, ?_⟩) ?_ ?_
        rotate_left
        · intro w'
          go_simp
          with_reducible rfl
        rotate_left
        · simp only [Act.put, List.setIfInBounds_toArray, List.set_cons_zero, List.set_cons_succ, i64_w, i32_w]
          rfl
        refine take_ (i := 26) (N := some 88) (v := ?_) (a' := ?_) #[true, true, true, true, true, true, true, true, true, true, true, true, true, true, true, true, true, true, true, true, true, true, true, true, true, true, true, false, false, false] rfl rfl (take_ofW HT_.out HW_.out (by kernel_rfl)) (fun _ _ _ h => h) (Or.inl ⟨by rfl, ?_⟩) hHeld ?_ ?_
        rotate_left
        · rintro w' ⟨s0, s1, s2, s3⟩
          go_simp
          with_reducible rfl
        rotate_left
        · simp only [Act.put, List.setIfInBounds_toArray, List.set_cons_zero, List.set_cons_succ, i64_w, i32_w]
          rfl
        refine one_ (i := 27) (N := some 89) #[true, true, true, true, true, true, true, true, true, true, true, true, true, true, true, true, true, true, true, true, true, true, true, true, true, true, true, true, false, false] rfl rfl (one_of HT_.out (by kernel_rfl)) (by decide) (fun K hK => ?_)
        refine goes_ Try.func16 (by kernel_rfl) rfl #[.slice B6 _ k6, .slice Asl _ csl] (by rfl) rfl rfl (by (try simp only [List.map_toArray, List.map_cons, List.map_nil]); first | done | rfl) ?_
        refine (Bytes_calls HVd.out (HBSL.out.fr (M := fun _ => False) (Fr.of_below HBd.out) (fun _ _ h => h.elim))).mono ?_
        rintro e w9 ⟨rfl, hdr9⟩
        refine ⟨_, rfl, ?_⟩
        have HB9 := Aside0.mk (below_drawn HBd.out hdr9)
        have HBr9 := Aside0.mk (below_drawn HBrd.out hdr9)
        have HO9 := Aside0.mk (pw_own_below HOd.out ((drawn_below hdr9).mono (Nat.le_refl _)))
        clear hdr9 HBd HBrd HVd HOd
        refine hK.out _ _ ⟨HC1.out _ HBr9.out, (HCQ.out _ HB9.out).1, (HCQ.out _ HB9.out).2.1, (HCQ.out _ HB9.out).2.2⟩ (fun hHeld => ?_)
        clear hK K
        refine norm_ (a' := ?_) ?_ ?_
        rotate_left
        · show Act.put _ (some 89) _ = _
          simp only [Act.put, List.setIfInBounds_toArray, List.set_cons_zero, List.set_cons_succ, i64_w, i32_w]
          rfl
        refine pure_ (i := 28) (N := some 90) (v := ?_) (a' := ?_) #[true, true, true, true, true, true, true, true, true, true, true, true, true, true, true, true, true, true, true, true, true, true, true, true, true, true, true, true, true, false] rfl rfl (any_of HT_.out (by kernel_rfl)) (fun _ _ _ h => h) (Or.inl ⟨by rfl, ?_⟩) ?_ ?_
        rotate_left
        · intro w'
          go_simp
          with_reducible rfl
        rotate_left
        · simp only [Act.put, List.setIfInBounds_toArray, List.set_cons_zero, List.set_cons_succ, i64_w, i32_w]
          rfl
        refine pure_ (i := 29) (N := some 91) (v := ?_) (a' := ?_) #[true, true, true, true, true, true, true, true, true, true, true, true, true, true, true, true, true, true, true, true, true, true, true, true, true, true, true, true, true, true] rfl rfl (any_of HT_.out (by kernel_rfl)) (fun _ _ _ h => h) (Or.inl ⟨by rfl, ?_⟩) ?_ ?_
        rotate_left
        · intro w'
          go_simp
          with_reducible rfl
        rotate_left
        · simp only [Act.put, List.setIfInBounds_toArray, List.set_cons_zero, List.set_cons_succ, i64_w, i32_w]
          rfl
        refine done_ (done_of HT_.out (by kernel_rfl)) ?_
        clear hHeld
        go_wp2_with (go_at_call 29; refine (Spoil_own HB9.out (own_weaken HO9.out HWS.out.1) HFL.out).mono ?_; rintro e w10 ⟨rfl, hb10, hf10⟩; have HB10 := Aside0.mk hb10; have HBr10 := Aside0.mk (HBr9.out.trans (hf10.toBelow HBr9.out.size (fun k _ hk => Nat.le_trans HWS.out.2 (HOW.out k hk)))); clear hb10 hf10)
        have hwi := HWI.out
        go_roundg (r.fs.length - (i + 1))
        case measure => exact meas hgo hk
        case rel => exact ⟨i + 1, by first | rfl | rw [hwi], hgo, Nat.le_refl _, HB10, HBr10⟩
      · have hlz : ¬ (i : Int) < (r.fs.length : Int) := by omega
        go_wp2
        go_ret
        exact ⟨rfl, HB.out⟩
end Go.Proofs.Ytihbgdobicokpaa.D
namespace Go.Proofs.Ytihbgdobicokpaa.D
open Go.RowKit
set_option linter.unusedVariables false
set_option linter.unusedSimpArgs false
theorem bytes_tot : ∀ {a b : List UInt8}, a ≠ b → bytesBefore a b = true ∨ bytesBefore b a = true
  | [], [], h => absurd rfl h
  | [], _ :: _, _ => Or.inl rfl
  | _ :: _, [], _ => Or.inr rfl
  | x :: r, y :: s, h => by
    by_cases e : x = y
    · subst e
      have h2 : r ≠ s := fun e => h (by rw [e])
      rcases bytes_tot h2 with h3 | h3
      · left; simp [bytesBefore, h3]
      · right; simp [bytesBefore, h3]
    · by_cases c : x < y
      · left; simp [bytesBefore, c]
      · right
        have : y < x := by
          have h1 : ¬ x.toNat < y.toNat := fun h => c (UInt8.lt_iff_toNat_lt.2 h)
          have h2 : x.toNat ≠ y.toNat := fun h => e (UInt8.toNat_inj.1 h)
          exact UInt8.lt_iff_toNat_lt.2 (by omega)
        simp [bytesBefore, this]
theorem bytes_asym {a b : List UInt8} (h : bytesBefore a b = true) : bytesBefore b a = false := by
  cases hb : bytesBefore b a with
  | false => rfl
  | true => have := WideShapes.bytes_trans _ _ _ h hb; rw [WideAt.bytes_irrefl] at this; cases this
def Srt (fs : List Fl) : Prop := (names fs).Pairwise (fun a c => bytesBefore a c = true)
theorem Srt.cons {f : Fl} {l : List Fl} (h : Srt (f :: l)) : (∀ g ∈ l, bytesBefore f.n g.n = true) ∧ Srt l := by
  unfold Srt names at h
  rw [List.map_cons, List.pairwise_cons] at h
  exact ⟨fun g hg => h.1 g.n (List.mem_map_of_mem hg), h.2⟩
theorem hasF_cons (n : Nm) (f : Fl) (l : List Fl) : hasF n (f :: l) = if bytesBefore f.n n = true then hasF n l else f.n == n := by
  unfold hasF
  rw [show posF n (f :: l) = if bytesBefore f.n n then posF n l + 1 else 0 from rfl]
  by_cases c : bytesBefore f.n n = true
  · rw [if_pos c, if_pos c]; simp
  · rw [if_neg c, if_neg c]; simp
theorem atF_cons (n : Nm) (f : Fl) (l : List Fl) : atF n (f :: l) = if bytesBefore f.n n = true then atF n l else f := by
  unfold atF
  rw [show posF n (f :: l) = if bytesBefore f.n n then posF n l + 1 else 0 from rfl]
  by_cases c : bytesBefore f.n n = true
  · rw [if_pos c, if_pos c]; simp
  · rw [if_neg c, if_neg c]; simp
theorem posF_cons (n : Nm) (f : Fl) (l : List Fl) : posF n (f :: l) = if bytesBefore f.n n = true then posF n l + 1 else 0 := rfl
theorem look_cons (n : Nm) (f : Fl) (l : List Fl) : look n (f :: l) = if f.n = n then some f else look n l := by
  unfold look
  by_cases c : f.n = n <;> simp [c]
theorem look_at (n : Nm) : ∀ {fs : List Fl}, Srt fs → look n fs = if hasF n fs = true then some (atF n fs) else none
  | [], _ => rfl
  | f :: l, h => by
    have hc := h.cons
    rw [look_cons, hasF_cons, atF_cons]
    by_cases c : f.n = n
    · have hb : bytesBefore f.n n = false := by rw [c]; exact WideAt.bytes_irrefl n
      rw [if_pos c, hb]
      simp [c]
    · rw [if_neg c]
      by_cases hb : bytesBefore f.n n = true
      · rw [if_pos hb, if_pos hb, look_at n hc.2]
      · rw [if_neg hb, if_neg hb, if_neg (by simpa using c)]
        have hb2 : bytesBefore n f.n = true := by rcases bytes_tot c with h1 | h1; exact absurd h1 hb; exact h1
        unfold look
        rw [List.find?_eq_none]
        intro g hg
        have h1 := WideShapes.bytes_trans _ _ _ hb2 (hc.1 g hg)
        have : g.n ≠ n := fun e => by rw [e, WideAt.bytes_irrefl] at h1; cases h1
        simpa using this
theorem out_cons (n : Nm) (f : Fl) (l : List Fl) : out Fl.n n (f :: l) = if f.n = n then out Fl.n n l else f :: out Fl.n n l := by
  unfold out
  by_cases c : f.n = n <;> simp [c]
theorem behind_ne {n : Nm} {f : Fl} {l : List Fl} (h : ∀ g ∈ l, bytesBefore f.n g.n = true) (hb : f.n = n ∨ bytesBefore n f.n = true) : ∀ g ∈ l, bytesBefore n g.n = true ∧ g.n ≠ n := fun g hg => by
  have h1 : bytesBefore n g.n = true := by
    rcases hb with rfl | hb
    · exact h g hg
    · exact WideShapes.bytes_trans _ _ _ hb (h g hg)
  exact ⟨h1, fun e => by rw [e, WideAt.bytes_irrefl] at h1; cases h1⟩
theorem rDrop_is (n : Nm) : ∀ {fs : List Fl}, Srt fs → rDrop n fs = out Fl.n n fs
  | [], _ => rfl
  | f :: l, h => by
    have hc := h.cons
    have ih := rDrop_is n hc.2
    unfold rDrop at ih ⊢
    rw [hasF_cons, posF_cons, out_cons]
    by_cases hb : bytesBefore f.n n = true
    · have c : ¬ f.n = n := fun e => by rw [e, WideAt.bytes_irrefl] at hb; cases hb
      rw [if_pos hb, if_pos hb, if_neg c, ← ih]
      split <;> simp
    · rw [if_neg hb, if_neg hb]
      by_cases c : f.n = n
      · rw [if_pos c, if_pos (by simpa using c)]
        rw [out_none (fun g hg => (behind_ne hc.1 (Or.inl c) g hg).2)]
        simp
      · have hb2 : bytesBefore n f.n = true := by rcases bytes_tot c with h1 | h1; exact absurd h1 hb; exact h1
        rw [if_neg c, if_neg (by simpa using c), out_none (fun g hg => (behind_ne hc.1 (Or.inr hb2) g hg).2)]
theorem ins_front {f : Fl} : ∀ {l : List Fl}, (∀ g ∈ l, bytesBefore f.n g.n = true) → ins Fl.n f l = f :: l
  | [], _ => rfl
  | g :: r, h => by unfold ins; rw [if_pos (h g (by simp))]
theorem rPut_is (f : Fl) : ∀ {fs : List Fl}, Srt fs → rPut f fs = put Fl.n f fs
  | [], _ => rfl
  | g :: l, h => by
    have hc := h.cons
    have ih := rPut_is f hc.2
    unfold rPut put at ih ⊢
    rw [hasF_cons, posF_cons, out_cons]
    by_cases hb : bytesBefore g.n f.n = true
    · have c : ¬ g.n = f.n := fun e => by rw [e, WideAt.bytes_irrefl] at hb; cases hb
      rw [if_pos hb, if_pos hb, if_neg c]
      show _ = ins Fl.n f (g :: out Fl.n f.n l)
      rw [show ins Fl.n f (g :: out Fl.n f.n l) = g :: ins Fl.n f (out Fl.n f.n l) from by
        show (if bytesBefore f.n g.n = true then _ else _) = _
        rw [if_neg (by rw [bytes_asym hb]; decide)], ← ih]
      split <;> simp
    · rw [if_neg hb, if_neg hb]
      by_cases c : g.n = f.n
      · have hbe := behind_ne hc.1 (Or.inl c)
        rw [if_pos c, if_pos (by simpa using c), out_none (fun x hx => (hbe x hx).2), ins_front (fun x hx => (hbe x hx).1)]
        simp
      · have hb2 : bytesBefore f.n g.n = true := by rcases bytes_tot c with h1 | h1; exact absurd h1 hb; exact h1
        have hbe := behind_ne hc.1 (Or.inr hb2)
        rw [if_neg c, if_neg (by simpa using c), out_none (fun x hx => (hbe x hx).2), ins_front (fun x hx => by
          rcases List.mem_cons.1 hx with rfl | hx
          · exact hb2
          · exact (hbe x hx).1)]
        simp
structure Same (d : Dk) (r : Rk) : Prop where
  fs : d.fs = r.fs
  room_ : d.room = r.room
  pw : (d.dead = true ∧ r.left = 0) ∨ (d.dead = false ∧ d.cut = r.left ∧ r.left ≠ 0)
theorem Same.dead {d : Dk} {r : Rk} (h : Same d r) : d.dead = decide (r.left = 0) := by
  rcases h.pw with ⟨h1, h2⟩ | ⟨h1, _, h2⟩
  · rw [h1, decide_eq_true h2]
  · rw [h1, decide_eq_false h2]
theorem Same.new (n : Int) : Same (newD n) (rnew n) := ⟨rfl, rfl, Or.inr ⟨rfl, rfl, by show (-1 : Int) ≠ 0; omega⟩⟩
theorem Same.done_ {d : Dk} {r : Rk} (hd : d.dead = false) (h : Same d r) : Same (doneD d) (rdone r) := by
  rcases h.pw with ⟨h1, _⟩ | ⟨_, h2, h3⟩
  · rw [hd] at h1; cases h1
  · unfold doneD rdone
    rw [← h2]
    by_cases c : 0 < d.cut
    · rw [if_pos c, if_pos c]
      refine ⟨h.fs, h.room_, ?_⟩
      by_cases c2 : d.cut - 1 = 0
      · exact Or.inl ⟨decide_eq_true c2, c2⟩
      · exact Or.inr ⟨decide_eq_false c2, rfl, c2⟩
    · rw [if_neg c, if_neg c]
      exact h
theorem Same.put_ {d : Dk} {r : Rk} (hd : d.dead = false) (hs : Srt d.fs) (h : Same d r) (f : Fl) : Same (doneD { d with fs := put Fl.n f d.fs }) (rdone { r with fs := rPut f r.fs }) := by
  refine Same.done_ hd ⟨?_, h.room_, h.pw⟩
  show put Fl.n f d.fs = rPut f r.fs
  rw [rPut_is f (by rw [← h.fs]; exact hs), h.fs]
theorem found_is {d : Dk} {r : Rk} (hs : Srt d.fs) (h : Same d r) (n : Nm) : (look n d.fs).isSome = hasF n r.fs ∧ (hasF n r.fs = true → got n d.fs = ((atF n r.fs).b, (atF n r.fs).s)) ∧ (hasF n r.fs = false → got n d.fs = ([], 0)) := by
  have hl := look_at n (by rw [← h.fs]; exact hs : Srt r.fs)
  unfold got
  rw [h.fs, hl]
  cases hasF n r.fs <;> simp
theorem was_is {d : Dk} {r : Rk} (hs : Srt d.fs) (h : Same d r) (n : Nm) : (got n d.fs).1.length = wasF n r.fs := by
  obtain ⟨_, h1, h2⟩ := found_is hs h n
  unfold wasF
  cases hh : hasF n r.fs with
  | true => rw [h1 hh]; rfl
  | false => rw [h2 hh]; rfl
theorem same_write {d : Dk} {r : Rk} (hs : Srt d.fs) (h : Same d r) (n : Nm) (bs : List Int) : (wrD d n bs).1 = (rwr r n bs).1 ∧ Same (wrD d n bs).2 (rwr r n bs).2 := by
  unfold wrD rwr
  rw [was_is hs h n]
  rcases h.pw with ⟨h1, h2⟩ | ⟨h1, h2, h3⟩
  · rw [if_pos h1, if_pos h2]; exact ⟨rfl, h⟩
  · rw [if_neg (by rw [h1]; decide), if_neg h3]
    by_cases c : nmOk n = true
    · rw [if_pos c, if_pos c, h.room_, ← h.fs]
      split
      · exact ⟨rfl, h⟩
      · have := Same.put_ h1 hs h ⟨n, bs, 0⟩
        rw [← h.fs] at this
        exact ⟨rfl, by rw [h.room_] at this; exact this⟩
    · rw [if_neg c, if_neg c]; exact ⟨rfl, h⟩
theorem isE_is {d : Dk} {r : Rk} (hs : Srt d.fs) (h : Same d r) (n : Nm) : isE d n = if r.left = 0 then 23 else if hasF n r.fs = true then 0 else 20 := by
  unfold isE
  rw [(found_is hs h n).1, h.dead]
  by_cases c : r.left = 0
  · simp [c]
  · simp [c]
theorem same_sync {d : Dk} {r : Rk} (hs : Srt d.fs) (h : Same d r) (n : Nm) : (syD d n).1 = (rsy r n).1 ∧ Same (syD d n).2 (rsy r n).2 := by
  unfold syD rsy
  rw [isE_is hs h n]
  by_cases c : r.left = 0
  · rw [if_pos c, if_neg (by decide), if_pos c]; exact ⟨rfl, h⟩
  · rw [if_neg c, if_neg c]
    have hd : d.dead = false := by rw [h.dead, decide_eq_false c]
    by_cases hh : hasF n r.fs = true
    · rw [if_pos hh, if_pos rfl, if_pos hh, ((found_is hs h n).2.1 hh)]
      exact ⟨rfl, Same.put_ hd hs h _⟩
    · rw [if_neg hh, if_neg (by decide), if_neg hh]; exact ⟨rfl, h⟩
theorem srt_out {n : Nm} {fs : List Fl} (h : Srt fs) : Srt (out Fl.n n fs) := by
  unfold Srt names out at *
  exact h.sublist (List.Sublist.map _ List.filter_sublist)
theorem same_delete {d : Dk} {r : Rk} (hs : Srt d.fs) (h : Same d r) (n : Nm) : (delD d n).1 = (rdl r n).1 ∧ Same (delD d n).2 (rdl r n).2 := by
  unfold delD rdl
  rw [isE_is hs h n]
  by_cases c : r.left = 0
  · rw [if_pos c, if_neg (by decide), if_pos c]; exact ⟨rfl, h⟩
  · rw [if_neg c, if_neg c]
    have hd : d.dead = false := by rw [h.dead, decide_eq_false c]
    by_cases hh : hasF n r.fs = true
    · rw [if_pos hh, if_pos rfl, if_pos hh]
      refine ⟨rfl, Same.done_ hd ⟨?_, h.room_, h.pw⟩⟩
      show out Fl.n n d.fs = rDrop n r.fs
      rw [rDrop_is n (by rw [← h.fs]; exact hs), h.fs]
    · rw [if_neg hh, if_neg (by decide), if_neg hh]; exact ⟨rfl, h⟩
theorem same_rename {d : Dk} {r : Rk} (hs : Srt d.fs) (h : Same d r) (a b : Nm) : (rnD d a b).1 = (rrn r a b).1 ∧ Same (rnD d a b).2 (rrn r a b).2 := by
  unfold rnD rrn
  rw [isE_is hs h a]
  by_cases c : r.left = 0
  · rw [if_pos c, if_neg (by decide), if_pos c]; exact ⟨rfl, h⟩
  · rw [if_neg c, if_neg c]
    have hd : d.dead = false := by rw [h.dead, decide_eq_false c]
    by_cases hh : hasF a r.fs = true
    · rw [if_pos hh, if_pos rfl, if_pos hh]
      by_cases hb : nmOk b = true
      · rw [if_pos hb, if_pos hb, ((found_is hs h a).2.1 hh)]
        have h2 : Same { d with fs := out Fl.n a d.fs } { r with fs := rDrop a r.fs } := ⟨by show out Fl.n a d.fs = rDrop a r.fs; rw [rDrop_is a (by rw [← h.fs]; exact hs), h.fs], h.room_, h.pw⟩
        exact ⟨rfl, Same.put_ (d := { d with fs := out Fl.n a d.fs }) hd (srt_out hs) h2 _⟩
      · rw [if_neg hb, if_neg hb]; exact ⟨rfl, h⟩
    · rw [if_neg hh, if_neg (by decide), if_neg hh]; exact ⟨rfl, h⟩
theorem same_read {d : Dk} {r : Rk} (hs : Srt d.fs) (h : Same d r) (n : Nm) : rdD d n = rrd r n := by
  unfold rdD rrd
  rw [isE_is hs h n]
  by_cases c : r.left = 0
  · rw [if_pos c, if_neg (by decide), if_pos c]
  · rw [if_neg c, if_neg c]
    by_cases hh : hasF n r.fs = true
    · rw [if_pos hh, if_pos rfl, if_pos hh, ((found_is hs h n).2.1 hh)]
    · rw [if_neg hh, if_neg (by decide), if_neg hh]
theorem same_room {d : Dk} {r : Rk} (h : Same d r) (n : Int) : Same (roomD d n) (rroom r n) := ⟨h.fs, rfl, h.pw⟩
theorem same_cut {d : Dk} {r : Rk} (h : Same d r) (n : Int) : Same (cutD d n) (rcut r n) := by
  unfold cutD rcut
  rcases h.pw with ⟨h1, h2⟩ | ⟨h1, h2, h3⟩
  · rw [if_pos h2]
    exact ⟨h.fs, h.room_, Or.inl ⟨by simp [h1], h2⟩⟩
  · rw [if_neg h3]
    refine ⟨h.fs, h.room_, ?_⟩
    by_cases c : n = 0
    · subst c
      exact Or.inl ⟨by simp, rfl⟩
    · refine Or.inr ⟨by simp [h1, c], rfl, ?_⟩
      show (if n < -1 then -1 else n) ≠ 0
      split <;> omega
theorem same_crash {d : Dk} {r : Rk} (h : Same d r) (keep : List Int) : Same (crD d keep) (rcr r keep) :=
  ⟨by show crL keep 0 d.fs = crL keep 0 r.fs; rw [h.fs], h.room_, Or.inr ⟨rfl, rfl, by show (-1 : Int) ≠ 0; omega⟩⟩
end Go.Proofs.Ytihbgdobicokpaa.D
