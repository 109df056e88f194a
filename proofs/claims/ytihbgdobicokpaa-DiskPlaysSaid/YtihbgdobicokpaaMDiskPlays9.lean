/- Proofs towards the law DiskPlays, joined into one text. No conditions beyond those typed. -/
import Derived.Test.YtihbgdobicokpaaMDiskPlays8
namespace Go.Proofs.Ytihbgdobicokpaa.D
open Go.RowKit Go.Maps Go.Proofs.Ytihbgdobicokpaa.X Go.Proofs.YtihbgdobicokpaaW.PrintWords Go.Proofs.YtihbgdobicokpaaW.PrintLast Go.Proofs.YtihbgdobicokpaaW.PrintMore
attribute [local go_sem] max2_int min2_int max_two min_two max_three min_three max_four min_four   -- for this text's walks alone
set_option linter.unusedVariables false
set_option linter.unusedSimpArgs false
theorem Fr.baseq {w0 w w' : World} {q : Nat} (h : Below w0.heap.size w0 w) (hq : w0.heap.size ≤ q) (hf : Fr (fun k => k = q) w w') : Below w0.heap.size w0 w' :=
  h.trans (hf.toBelow h.size (fun k _ hk => by rw [hk]; exact hq))
set_option maxHeartbeats 1000000 in
set_option maxRecDepth 100000 in
theorem Copy5_calls {w : World} {A : Option Addr} {c : Nat} {bs : List Int} (hC : Kd.C (Kd.int .u8) w A bs.length bs) (hc : bs.length ≤ c) (hl : bs.length ≤ 1048576) :
    Calls Try.prog 27 #[.slice A bs.length c] w fun e w' => ∃ A' c', e = .returned (.slice A' bs.length c') ∧ w'.ownsRow w.heap.size 5 1 (.slice A' bs.length c') bs.length (bs.map (Value.int .u8)) ∧ Below w.heap.size w w' := by
  obtain ⟨v, w1, hrun, ho, hg⟩ := app5 (w := w) 23 hC hc hl
  obtain ⟨A1, c1, rfl⟩ := own_sl ho
  have HR := Aside0.mk hrun
  have HO := Aside0.mk ho
  have HB := Aside0.mk ((Below.refl w.heap.size w).grown hg (Nat.le_refl _) (fun k e => by cases e))
  clear hC hc hl hrun ho hg
  go_enter Try.func27, Try.ntmps27
  go_wp2_with (first
    | (refine bappL_ (some 4) #[.slice none 0 0, .slice A bs.length c] rfl rfl (by (try simp only [List.map_toArray, List.map_cons, List.map_nil]); first | done | rfl) rfl HR.out ?_)
    | fail)
  go_ret
  exact ⟨A1, c1, rfl, HO.out, HB.out⟩
theorem wt_parts {l : List S30} (h : (l.map wt).sum ≤ 50000) {x : S30} (hx : x ∈ l) : x.f4.length ≤ 50000 ∧ x.f5.length ≤ 50000 := by
  have h1 : wt x ≤ (l.map wt).sum := by
    obtain ⟨a, b, rfl⟩ := List.append_of_mem hx
    simp
    omega
  have h2 : wt x = x.f4.length + x.f2.size + x.f3.size + x.f5.length := rfl
  omega
def GoodN (l : List S30) : Prop := ∀ x ∈ l, x.f1 ≤ 9223372036854775807
theorem step_cells2' {w0 : World} {A : Option Addr} {l : List S30} (hC : Kd.C k30 w0 A l.length l) {i : Nat} (hi : i < l.length) : ∃ ad A4 c4, A = some ad ∧ l[i].f4.length ≤ c4 ∧ True ∧ ∀ w', Below w0.heap.size w0 w' → w'.cell? (ad.add (i * 6)) = some (.int .i64 l[i].f0) ∧ w'.cell? ⟨(ad.add (i * 6)).block, (ad.add (i * 6)).off + 2, none⟩ = some (.string l[i].f2) ∧ w'.cell? ⟨(ad.add (i * 6)).block, (ad.add (i * 6)).off + 4, none⟩ = some (.slice A4 l[i].f4.length c4) := by
  obtain ⟨ad, A4, c4, A5, c5, e, g0, g1, g2, g3, g4, g5, b4, k4, _, k5⟩ := at_T30 hC (i : Int) (by omega) (by omega)
  have hx : rd_T30 l (i : Int) = l[i] := by simp [rd_T30, List.getD, List.getElem?_eq_getElem hi]
  rw [hx] at g0 g2 g4 k4 b4
  simp only [Int.toNat_natCast] at g0 g2 g4
  exact ⟨ad, A4, c4, e, b4, trivial, fun w' hb => ⟨(hb.cell (World.block_lt_of_cell? w0 _ g0)).trans g0, (hb.cell (World.block_lt_of_cell? w0 _ g2)).trans g2, (hb.cell (World.block_lt_of_cell? w0 _ g4)).trans g4⟩⟩
def Dpl.T16 : Bool × List (List Nat × List Nat) := (true, [([], []), ([], []), ([1], [1]), ([], []), ([0, 2, 3], [0, 2, 3]), ([], []), ([], []), ([6], [6]), ([], []), ([8], [8]), ([5, 7, 9, 4], [5, 7, 9]), ([4, 10, 0, 1, 2, 3, 4], [4]), ([10, 11, 0, 1, 2, 3, 4, 5, 6, 7, 8, 9, 10, 11], [10])])
def Dpl.B16 : List Nat := [0, 0, 2, 0, 15, 0, 0, 64, 0, 256, 1023, 2047, 4095]
theorem Dpl.tab16 : rtab .any (opsOf Try.f7 16) = Dpl.T16 := by kernel_rfl
theorem Dpl.bits16 : waitsOk Dpl.T16.2 Dpl.B16 = true := by kernel_rfl
def Dpl.T19 : Bool × List (List Nat × List Nat) := (true, [([], []), ([], []), ([1], [1]), ([0, 2], [0, 2]), ([], []), ([], []), ([5], [5]), ([4, 6, 3], [4, 6]), ([3, 7, 0, 1, 2, 3], [3]), ([7, 8, 0, 1, 2, 3, 4, 5, 6, 7, 8], [7])])
def Dpl.B19 : List Nat := [0, 0, 2, 7, 0, 0, 32, 127, 255, 511]
theorem Dpl.tab19 : rtab .any (opsOf Try.f7 19) = Dpl.T19 := by kernel_rfl
theorem Dpl.bits19 : waitsOk Dpl.T19.2 Dpl.B19 = true := by kernel_rfl
def Dpl.T21 : Bool × List (List Nat × List Nat) := (true, [([], []), ([], []), ([1], [1]), ([], []), ([3], [3]), ([0, 2, 4], [0, 2, 4]), ([], []), ([], []), ([7], [7]), ([], []), ([9], [9]), ([6, 8, 10, 5], [6, 8, 10]), ([5, 11, 0, 1, 2, 3, 4, 5], [5]), ([11, 12, 0, 1, 2, 3, 4, 5, 6, 7, 8, 9, 10, 11, 12], [11])])
def Dpl.B21 : List Nat := [0, 0, 2, 0, 8, 31, 0, 0, 128, 0, 512, 2047, 4095, 8191]
theorem Dpl.tab21 : rtab .any (opsOf Try.f7 21) = Dpl.T21 := by kernel_rfl
theorem Dpl.bits21 : waitsOk Dpl.T21.2 Dpl.B21 = true := by kernel_rfl
def Dpl.T23 : Bool × List (List Nat × List Nat) := (true, [([], []), ([], []), ([1], [1]), ([0, 2], [0, 2]), ([], []), ([], []), ([5], [5]), ([4, 6, 3], [4, 6]), ([3, 7, 0, 1, 2, 3], [3]), ([7, 8, 0, 1, 2, 3, 4, 5, 6, 7, 8], [7])])
def Dpl.B23 : List Nat := [0, 0, 2, 7, 0, 0, 32, 127, 255, 511]
theorem Dpl.tab23 : rtab .any (opsOf Try.f7 23) = Dpl.T23 := by kernel_rfl
theorem Dpl.bits23 : waitsOk Dpl.T23.2 Dpl.B23 = true := by kernel_rfl
set_option maxHeartbeats 16000000 in
set_option maxRecDepth 100000 in
theorem DiskPlays_calls {w : World} {A : Option Addr} {c : Nat} {l : List S30} {n : Int} (hn : n ≤ 9223372036854775807) (hC : Kd.C k30 w A l.length l) (hc : l.length ≤ c) (hl : l.length ≤ 140737488351232) (hs : Small l) (hg : GoodL l) (hgn : GoodN l) :
    Calls Try.prog 7 #[.int .i64 n, .slice A l.length c] w fun e w' => e = .returned (.bool true) ∧ Below w.heap.size w w' := by
  obtain ⟨k, r, hr, hr2⟩ := light_f hl hs
  have HC := Aside0.mk hC
  have HCc := Aside0.mk hc
  have HG := Aside0.mk hg
  have HGN := Aside0.mk hgn
  have HR0 := Aside0.mk hr
  have HNN := Aside0.mk hn
  have HL3 : Aside0 (r = true → l.length ≤ 300 ∧ ∀ x ∈ l, x.f4.length ≤ 50000 ∧ x.f5.length ≤ 50000) := ⟨fun e => ⟨(hr2 e).1, fun x hx => wt_parts (hr2 e).2 hx⟩⟩
  clear hC hc hl hs hg hr hr2 hn hgn
  go_enter Try.func7, Try.ntmps7
  go_wp2_with fail
  refine (known_calls w).mono ?_
  rintro e w1 ⟨rfl, hb1⟩
  have HB1 := Aside0.mk hb1
  clear hb1
  go_wp2_with fail
  refine (leatlaw2_light.calls k A c l r w1 (Kd.C_below HC.out HB1.out) HCc.out HR0.out).mono ?_
  rintro e w2 ⟨rfl, hb2⟩
  have HB2 := Aside0.mk (below_drawn HB1.out hb2)
  clear hb2
  cases r with
  | false =>
    go_wp2_with fail
    go_ret
    exact ⟨rfl, HB2.out⟩
  | true =>
    have hL : l.length ≤ 300 ∧ ∀ x ∈ l, x.f4.length ≤ 50000 ∧ x.f5.length ≤ 50000 := by simpa using HL3.out
    have HL := Aside0.mk hL
    clear hL HL3
    go_wp2_with fail
    refine (New_calls w2 n HNN.out).mono ?_
    rintro e w3 ⟨p, b, rfl, hd3, hb3, hp, hb⟩
    have HD3 := Aside0.mk hd3
    have HB3 := Aside0.mk (HB2.out.trans (hb3.mono HB2.out.size))
    have HP := Aside0.mk ((Bh.mk hp hb).mono HB2.out.size)
    clear hd3 hb3 hp hb
    go_wp2_with fail
    refine (rNew_calls (X := fun _ => False) w3 n HNN.out).mono ?_
    rintro e w4 ⟨q, rfl, hr4, hb4, hq⟩
    have HD4 := Aside0.mk (HD3.out.below hb4)
    have HR4 := Aside0.mk hr4
    have HB4 := Aside0.mk (HB3.out.trans (hb4.mono HB3.out.size))
    have HQ := Aside0.mk (Nat.le_trans HB3.out.size hq)
    clear hr4 hb4 hq HD3 HB3
    go_wp2_with fail
    go_loopg [5, 6, 7] (l.length) (fun kx s5 s6 s7 wr => ∃ (i p b q : Nat) (d : Dk) (r : Rk), s5 = .pointer (some ⟨p, 0, none⟩) ∧ s6 = .pointer (some ⟨q, 0, none⟩) ∧ s7 = .int .i64 (i : Int) ∧ i ≤ l.length ∧ l.length - i ≤ kx ∧ Aside0 (IsD i wr p b d) ∧ Aside0 (IsR (fun _ => False) wr q r) ∧ Aside0 (Same d r) ∧ Aside0 (Below w.heap.size w wr) ∧ Aside0 (Bh w.heap.size p b) ∧ Aside0 (w.heap.size ≤ q))
    case atStart => exact ⟨0, p, b, q, newD n, rnew n, rfl, rfl, rfl, Nat.zero_le _, by omega, HD4, HR4, ⟨Same.new n⟩, HB4, HP, HQ⟩
    case round =>
      clear HP HQ HD4 HR4 HB4
      obtain ⟨i, p, b, q, d, r, rfl, rfl, rfl, hi, hk, HD, HR, HS, HB, HP, HQ⟩ := hrel
      by_cases hgo : i < l.length
      · have hlz : (i : Int) < (l.length : Int) := by omega
        have HNI := Aside0.mk (show i < 1000000 from by have := HL.out.1; omega)
        have HNI' := Aside0.mk (show i + 1 ≤ 1000000 from by have := HL.out.1; omega)
        have HWI := Aside0.mk (wrap_succ hgo (Nat.le_trans HL.out.1 (by decide)))
        have HRL := Aside0.mk (show r.fs.length < 1000000 from by have h1 := names_len HD.out; have h2 := HS.out.fs; have h3 := HNI.out; rw [← h2]; omega)
        have HSR := Aside0.mk (show Srt d.fs from HD.out.sorted)
        obtain ⟨ad, A4, c4, A5, c5, e1, k4, k5, hcells⟩ := step_cells HC.out hgo
        obtain ⟨_, A4', c4', e1', hc4', _, hcells'⟩ := step_cells2' HC.out hgo
        cases e1
        have hgx := HG.out l[i] (List.getElem_mem hgo)
        have hgn := HGN.out l[i] (List.getElem_mem hgo)
        have hbs := HL.out.2 l[i] (List.getElem_mem hgo)
        have hcc4 : l[i].f4.length ≤ c4 := by
          cases e1'
          have h1 := ((hcells w (Below.refl _ _)).2.2.2.2.1).symm.trans (hcells' w (Below.refl _ _)).2.2
          injection h1 with h1
          injection h1 with _ _ h1
          rw [h1]; exact hc4'
        clear hcells' hc4' e1'
        generalize hx : l[i] = x at hcells k4 k5 hgx hbs hgn hcc4
        clear hx
        obtain ⟨x0, x1, nm, tm, bs, ks⟩ := x
        simp only at hcells k4 k5 hgx hbs hgn hcc4
        obtain ⟨hnm, htm⟩ := hgx
        have HNM := Aside0.mk hnm
        have HTM := Aside0.mk htm
        have HX1 := Aside0.mk hgn
        have HBS := Aside0.mk hbs
        have HCC4 := Aside0.mk hcc4
        have HC4 := Aside0.mk k4
        have HC5 := Aside0.mk k5
        obtain ⟨g0, g1, g2, g3, g4, g5⟩ := hcells wr HB.out
        clear hcells htm hnm hbs hgn hcc4 k4 k5
        have HBa := Aside0.mk (HB.out.alloc HB.out.size (.cells #[.int .i64 x0, .int .i64 x1, .string nm, .string tm, .slice A4 bs.length c4, .slice A5 ks.length c5] 30))
        have HDa := Aside0.mk (HD.out.below ((Below.refl wr.heap.size wr).alloc (Nat.le_refl _) (.cells #[.int .i64 x0, .int .i64 x1, .string nm, .string tm, .slice A4 bs.length c4, .slice A5 ks.length c5] 30)))
        have HRa := Aside0.mk (HR.out.below ((Below.refl wr.heap.size wr).alloc (Nat.le_refl _) (.cells #[.int .i64 x0, .int .i64 x1, .string nm, .string tm, .slice A4 bs.length c4, .slice A5 ks.length c5] 30)))
        have HBK := Aside0.mk (heap_alloc_new wr (.cells #[.int .i64 x0, .int .i64 x1, .string nm, .string tm, .slice A4 bs.length c4, .slice A5 ks.length c5] 30))
        have HNE := Aside0.mk (show ¬ Two p b wr.heap.size from by rintro (e | e); (have := HD.out.lt; omega); (have := HD.out.ltb; omega))
        have HLT := Aside0.mk (And.intro HD.out.lt (And.intro HD.out.ltb HR.out.lt))
        have HNQ := Aside0.mk (show ¬ wr.heap.size = q from by have := HR.out.lt; omega)
        have KBX := Aside0.mk (show ∀ (w' : World) (j : Nat) (u : Value), w'.heap[wr.heap.size]? = some (.cells #[.int .i64 x0, .int .i64 x1, .string nm, .string tm, .slice A4 bs.length c4, .slice A5 ks.length c5] 30) → (#[.int .i64 x0, .int .i64 x1, .string nm, .string tm, .slice A4 bs.length c4, .slice A5 ks.length c5] : Array Value)[j]? = some u → w'.cell? ⟨wr.heap.size, j, none⟩ = some u from fun w' j u hw hu => (blk_cell hw j).trans hu)
        have HBWA := Aside0.mk (show w.heap.size ≤ (wr.alloc (.cells #[.int .i64 x0, .int .i64 x1, .string nm, .string tm, .slice A4 bs.length c4, .slice A5 ks.length c5] 30)).heap.size from HBa.out.size)
        clear HD HR HB
        by_cases c012 : x0 = 0 ∨ x0 = 1 ∨ x0 = 2
        · rcases c012 with rfl | rfl | rfl
          all_goals (
            go_wp2_with fail
            refine (Copy5_calls (Kd.C_below HC4.out HBa.out) HCC4.out (by have := HBS.out; omega)).mono ?_
            rintro e wi ⟨Ai, ci, rfl, hoi, hbi⟩
            have HOI := Aside0.mk hoi
            have HXI := Aside0.mk (show ∀ k, (Value.slice Ai bs.length ci).ownBlock = some k → wr.heap.size + 1 ≤ k ∧ k < wi.heap.size from fun k hk => by have h := hoi.lt k hk; simp at h; exact h)
            have HDi := Aside0.mk ((HDa.out.avoid (Y := fun k => (Value.slice Ai bs.length ci).ownBlock = some k) (fun k hk e => by have h1 := (HXI.out k e).1; simp at hk; omega)).below hbi)
            have HRi := Aside0.mk ((HRa.out.avoid (Y := fun k => (Value.slice Ai bs.length ci).ownBlock = some k) (fun k hk e => by have h1 := (HXI.out k e).1; simp at hk; omega)).below hbi)
            have HBi := Aside0.mk (HBa.out.trans (hbi.mono HBa.out.size))
            have HBKi := Aside0.mk ((hbi.block wr.heap.size (lt_of_block HBK.out)).trans HBK.out)
            have HNPI := Aside0.mk (show (∀ k, (Value.slice Ai bs.length ci).ownBlock = some k → k ≠ p ∧ k ≠ b ∧ k ≠ q) from fun k hk => by have h1 := (HXI.out k hk).1; have h2 := HLT.out; exact ⟨by omega, by omega, by omega⟩)
            have HCI := Aside0.mk (IsB.of_own hoi (by simp) (by have := HBS.out; omega))
            have HOIi := Aside0.mk (own_weaken hoi HBWA.out)
            clear hoi hbi HDa HRa HBa HBK g0 g1 g2 g3 g4 g5
            obtain ⟨E, d2, HE⟩ : ∃ e d', Aside0 (wrD d nm.data.toList bs = (e, d')) := ⟨_, _, ⟨rfl⟩⟩
            obtain ⟨E2, r2, HE2⟩ : ∃ e r', Aside0 (rwr r nm.data.toList bs = (e, r')) := ⟨_, _, ⟨rfl⟩⟩
            have hsame := same_write HSR.out HS.out nm.data.toList bs
            rw [HE.out, HE2.out] at hsame
            have hEE : E2 = E := hsame.1.symm
            subst hEE
            have HSz := Aside0.mk (show Same d2 r2 from hsame.2)
            clear hsame
            have q2 := KBX.out _ 2 _ HBKi.out rfl
            have q4 := KBX.out _ 4 _ HBKi.out rfl
            go_wp2_with fail
            refine start_ (n := 13) (S := fun w' => w'.cell? ⟨wr.heap.size, 2, none⟩ = some (.string nm) ∧ w'.cell? ⟨wr.heap.size, 4, none⟩ = some (.slice A4 bs.length c4)) (ds := []) #[false, false, false, false, false, false, false, false, false, false, false, false, false] (by kernel_rfl) rfl rfl ⟨KBX.out _ 2 _ (blk_drew HBKi.out) rfl, KBX.out _ 4 _ (blk_drew HBKi.out) rfl⟩ (fun hHeld => ?_); refine with_tabW Dpl.tab16 Dpl.bits16 (fun HT_ HW_ => ?_)
            have HDb := Aside0.mk (HDi.out.below ((Below.refl _ _).drew))
            have HRb := Aside0.mk (HRi.out.below ((Below.refl _ _).drew))
            have HBb := Aside0.mk (HBi.out.drew)
            have HBKb := Aside0.mk (blk_drew HBKi.out)
            have HCb := Aside0.mk (HCI.out.below ((Below.refl _ _).drew))
            have HOIb := Aside0.mk (pw_own_below HOIi.out ((Below.refl _ _).drew))
            have HSZb := Aside0.mk (show ∀ k, (Value.slice Ai bs.length ci).ownBlock = some k → k < wi.drew.heap.size from fun k hk => (HXI.out k hk).2)
            clear HDi HRi HBi HBKi HCI HOIi HOI q2 q4
            generalize World.drew _ = wb at HDb HRb HBb HBKb HCb HSZb HOIb hHeld ⊢
            refine pure_ (i := 0) (N := some 45) (v := ?_) (a' := ?_) #[true, false, false, false, false, false, false, false, false, false, false, false, false] rfl rfl (any_of HT_.out (by kernel_rfl)) (fun _ _ _ h => h) (Or.inl ⟨by rfl, ?_⟩) ?_ ?_
            rotate_left
            · intro w'
              go_simp
              with_reducible rfl
            rotate_left
            · simp only [Act.put, List.setIfInBounds_toArray, List.set_cons_zero, List.set_cons_succ, i64_w, i32_w]
              rfl
            refine pure_ (i := 1) (N := some 46) (v := ?_) (a' := ?_) #[true, true, false, false, false, false, false, false, false, false, false, false, false] rfl rfl (any_of HT_.out (by kernel_rfl)) (fun _ _ _ h => h) (Or.inl ⟨by rfl, ?_⟩) ?_ ?_
            rotate_left
            · intro w'
              go_simp
              with_reducible rfl
            rotate_left
            · simp only [Act.put, List.setIfInBounds_toArray, List.set_cons_zero, List.set_cons_succ, i64_w, i32_w]
              rfl
            refine take_ (i := 2) (N := some 47) (v := ?_) (a' := ?_) #[true, true, true, false, false, false, false, false, false, false, false, false, false] rfl rfl (take_ofW HT_.out HW_.out (by kernel_rfl)) (fun _ _ _ h => h) (Or.inl ⟨by rfl, ?_⟩) hHeld ?_ ?_
            rotate_left
            · rintro w' ⟨s0, s1⟩
              go_simp
              with_reducible rfl
            rotate_left
            · simp only [Act.put, List.setIfInBounds_toArray, List.set_cons_zero, List.set_cons_succ, i64_w, i32_w]
              rfl
            refine pure_ (i := 3) (N := some 48) (v := ?_) (a' := ?_) #[true, true, true, true, false, false, false, false, false, false, false, false, false] rfl rfl (any_of HT_.out (by kernel_rfl)) (fun _ _ _ h => h) (Or.inl ⟨by rfl, ?_⟩) ?_ ?_
            rotate_left
            · intro w'
              go_simp
              with_reducible rfl
            rotate_left
            · simp only [Act.put, List.setIfInBounds_toArray, List.set_cons_zero, List.set_cons_succ, i64_w, i32_w]
              rfl
            refine pure_ (i := 5) (N := some 50) (v := ?_) (a' := ?_) #[true, true, true, true, false, true, false, false, false, false, false, false, false] rfl rfl (any_of HT_.out (by kernel_rfl)) (fun _ _ _ h => h) (Or.inl ⟨by rfl, ?_⟩) ?_ ?_
            rotate_left
            · intro w'
              go_simp
              with_reducible rfl
            rotate_left
            · simp only [Act.put, List.setIfInBounds_toArray, List.set_cons_zero, List.set_cons_succ, i64_w, i32_w]
              rfl
            refine pure_ (i := 6) (N := some 51) (v := ?_) (a' := ?_) #[true, true, true, true, false, true, true, false, false, false, false, false, false] rfl rfl (any_of HT_.out (by kernel_rfl)) (fun _ _ _ h => h) (Or.inl ⟨by rfl, ?_⟩) ?_ ?_
            rotate_left
            · intro w'
              go_simp
              with_reducible rfl
            rotate_left
            · simp only [Act.put, List.setIfInBounds_toArray, List.set_cons_zero, List.set_cons_succ, i64_w, i32_w]
              rfl
            refine take_ (i := 7) (N := some 52) (v := ?_) (a' := ?_) #[true, true, true, true, false, true, true, true, false, false, false, false, false] rfl rfl (take_ofW HT_.out HW_.out (by kernel_rfl)) (fun _ _ _ h => h) (Or.inl ⟨by rfl, ?_⟩) hHeld ?_ ?_
            rotate_left
            · rintro w' ⟨s0, s1⟩
              go_simp
              with_reducible rfl
            rotate_left
            · simp only [Act.put, List.setIfInBounds_toArray, List.set_cons_zero, List.set_cons_succ, i64_w, i32_w]
              rfl
            refine pure_ (i := 8) (N := some 53) (v := ?_) (a' := ?_) #[true, true, true, true, false, true, true, true, true, false, false, false, false] rfl rfl (any_of HT_.out (by kernel_rfl)) (fun _ _ _ h => h) (Or.inl ⟨by rfl, ?_⟩) ?_ ?_
            rotate_left
            · intro w'
              go_simp
              with_reducible rfl
            rotate_left
            · simp only [Act.put, List.setIfInBounds_toArray, List.set_cons_zero, List.set_cons_succ, i64_w, i32_w]
              rfl
            refine take_ (i := 9) (N := some 54) (v := ?_) (a' := ?_) #[true, true, true, true, false, true, true, true, true, true, false, false, false] rfl rfl (take_ofW HT_.out HW_.out (by kernel_rfl)) (fun _ _ _ h => h) (Or.inl ⟨by rfl, ?_⟩) hHeld ?_ ?_
            rotate_left
            · rintro w' ⟨s0, s1⟩
              go_simp
              with_reducible rfl
            rotate_left
            · simp only [Act.put, List.setIfInBounds_toArray, List.set_cons_zero, List.set_cons_succ, i64_w, i32_w]
              rfl
            have KD := Write_callsX (cp := ci) HDb.out HSZb.out HNI.out HNM.out HCb.out.C
            rw [HE.out] at KD
            refine one_ (i := 4) (N := some 49) #[true, true, true, true, true, true, true, true, true, true, false, false, false] rfl rfl (one_of HT_.out (by kernel_rfl)) (by decide) (fun K hK => ?_)
            refine goes_ Try.func11 (by kernel_rfl) rfl #[.pointer (some ⟨p, 0, none⟩), .string nm, .slice Ai bs.length ci] (by rfl) rfl rfl (by (try simp only [List.map_toArray, List.map_cons, List.map_nil]); first | done | rfl) ?_
            refine (KD).mono ?_
            rintro e wc ⟨rfl, hd, hf⟩
            refine ⟨_, rfl, ?_⟩
            have HDc := Aside0.mk hd
            have HRc := Aside0.mk (HRb.out.disk HDb.out hf)
            have HBc := Aside0.mk (Fr.base' HBb.out HP.out hf)
            have HBKc := Aside0.mk ((hf.block wr.heap.size (lt_of_block HBKb.out) HNE.out).trans HBKb.out)
            have HSZc := Aside0.mk (show ∀ k, (Value.slice Ai bs.length ci).ownBlock = some k → k < wc.heap.size from fun k hk => Nat.lt_of_lt_of_le (HSZb.out k hk) hf.size)
            have HOIc := Aside0.mk (own_fr HOIb.out hf HDb.out.two)
            clear hd hf KD HDb HRb HBb HBKb HSZb HCb HOIb
            refine hK.out _ _ ⟨KBX.out _ 2 _ HBKc.out rfl, KBX.out _ 4 _ HBKc.out rfl⟩ (fun hHeld => ?_)
            clear hK K
            refine norm_ (a' := ?_) ?_ ?_
            rotate_left
            · show Act.put _ (some 49) _ = _
              simp only [Act.put, List.setIfInBounds_toArray, List.set_cons_zero, List.set_cons_succ, i64_w, i32_w]
              rfl
            have KR := rWrite_calls HRc.out HSZc.out HRL.out nm (Kd.C_below HC4.out HBc.out) HCC4.out (by have := HBS.out; omega)
            rw [HE2.out] at KR
            refine one_ (i := 10) (N := some 55) #[true, true, true, true, true, true, true, true, true, true, true, false, false] rfl rfl (one_of HT_.out (by kernel_rfl)) (by decide) (fun K hK => ?_)
            refine goes_ Try.func28 (by kernel_rfl) rfl #[.pointer (some ⟨q, 0, none⟩), .string nm, .slice A4 bs.length c4] (by rfl) rfl rfl (by (try simp only [List.map_toArray, List.map_cons, List.map_nil]); first | done | rfl) ?_
            refine (KR).mono ?_
            rintro e wd ⟨rfl, hr, hf⟩
            refine ⟨_, rfl, ?_⟩
            have HRd := Aside0.mk hr
            have HDd := Aside0.mk (HDc.out.ref HRc.out hf)
            have HBd := Aside0.mk (Fr.baseq HBc.out HQ.out hf)
            have HBKd := Aside0.mk ((hf.block wr.heap.size (lt_of_block HBKc.out) HNQ.out).trans HBKc.out)
            have HOId := Aside0.mk (own_fr HOIc.out hf (fun k hk e => (HRc.out.nr k hk e).nb))
            clear hr hf KR HRc HDc HBc HBKc HOIc HSZc
            refine hK.out _ _ ⟨KBX.out _ 2 _ HBKd.out rfl, KBX.out _ 4 _ HBKd.out rfl⟩ (fun hHeld => ?_)
            clear hK K
            refine norm_ (a' := ?_) ?_ ?_
            rotate_left
            · show Act.put _ (some 55) _ = _
              simp only [Act.put, List.setIfInBounds_toArray, List.set_cons_zero, List.set_cons_succ, i64_w, i32_w]
              rfl
            refine pure_ (i := 11) (N := some 9) (v := ?_) (a' := ?_) #[true, true, true, true, true, true, true, true, true, true, true, true, false] rfl rfl (any_of HT_.out (by kernel_rfl)) (fun _ _ _ h => h) (Or.inl ⟨by rfl, ?_⟩) ?_ ?_
            rotate_left
            · intro w'
              go_simp
              with_reducible rfl
            rotate_left
            · simp only [Act.put, List.setIfInBounds_toArray, List.set_cons_zero, List.set_cons_succ, i64_w, i32_w]
              rfl
            refine pure_ (i := 12) (N := some 10) (v := ?_) (a' := ?_) #[true, true, true, true, true, true, true, true, true, true, true, true, true] rfl rfl (any_of HT_.out (by kernel_rfl)) (fun _ _ _ h => h) (Or.inl ⟨by rfl, ?_⟩) ?_ ?_
            rotate_left
            · intro w'
              go_simp
              with_reducible rfl
            rotate_left
            · simp only [Act.put, List.setIfInBounds_toArray, List.set_cons_zero, List.set_cons_succ, i64_w, i32_w]
              rfl
            refine done_ (done_of HT_.out (by kernel_rfl)) ?_
            clear hHeld
            have HPz := HP
            have HQz := HQ
            go_wp2_with (go_at_call 29; refine (Spoil_own (w0 := w) HBd.out HOId.out (by have := HBS.out; omega)).mono ?_; rintro e ws ⟨rfl, hbs, hfs⟩; have HDz := Aside0.mk (show IsD (i + 1) ws p b d2 from (HDd.out.spoil hfs (fun k hk => hk) (fun hk => (HNPI.out _ hk).1 rfl) (fun hk => (HNPI.out _ hk).2.1 rfl)).avoid (fun _ _ h => h.elim)); have HRz := Aside0.mk (show IsR (fun _ => False) ws q r2 from (HRd.out.spoil hfs (fun k hk => hk) (fun hk => (HNPI.out _ hk).2.2 rfl)).avoid (fun _ _ h => h.elim)); have HBz := Aside0.mk hbs; clear hbs hfs)
            go_wp2_with (go_at_call 39; refine (alike_calls HDz.out HRz.out HSz.out.fs HSz.out.dead).mono ?_; rintro e wA ⟨rfl, hbA⟩; have HDA := Aside0.mk (show IsD (i + 1) wA _ _ _ from (HDz.out.below hbA).mono (by omega) HNI'.out); have HRA := Aside0.mk (HRz.out.below hbA); have HBA := Aside0.mk (HBz.out.trans (hbA.mono HBz.out.size)); clear hbA)
            have hwi := HWI.out
            go_roundg (l.length - (i + 1))
            case measure => exact meas hgo hk
            case rel => exact ⟨i + 1, _, _, _, _, _, rfl, rfl, by first | rfl | rw [hwi], hgo, Nat.le_refl _, HDA, HRA, HSz, HBA, HPz, HQz⟩)
        have n0 : (x0 == 0) = false := by simp; omega
        have n1 : (x0 == 1) = false := by simp; omega
        have n2 : (x0 == 2) = false := by simp; omega
        by_cases c3 : x0 = 3
        · subst c3
          obtain ⟨E, d2, HE⟩ : ∃ e d', Aside0 (syD d nm.data.toList = (e, d')) := ⟨_, _, ⟨rfl⟩⟩
          obtain ⟨E2, r2, HE2⟩ : ∃ e r', Aside0 (rsy r nm.data.toList = (e, r')) := ⟨_, _, ⟨rfl⟩⟩
          have hsame := same_sync HSR.out HS.out nm.data.toList
          rw [HE.out, HE2.out] at hsame
          have hEE : E2 = E := hsame.1.symm
          subst hEE
          have HSz := Aside0.mk (show Same d2 r2 from hsame.2)
          clear hsame
          go_wp2_with fail
          refine start_ (n := 10) (S := fun w' => w'.cell? ⟨wr.heap.size, 2, none⟩ = some (.string nm)) (ds := []) #[false, false, false, false, false, false, false, false, false, false] (by kernel_rfl) rfl rfl (KBX.out _ 2 _ (blk_drew HBK.out) rfl) (fun hHeld => ?_); refine with_tabW Dpl.tab19 Dpl.bits19 (fun HT_ HW_ => ?_)
          have HDb := Aside0.mk (HDa.out.below ((Below.refl _ _).drew))
          have HRb := Aside0.mk (HRa.out.below ((Below.refl _ _).drew))
          have HBb := Aside0.mk (HBa.out.drew)
          have HBKb := Aside0.mk (blk_drew HBK.out)
          clear HDa HRa HBa HBK g0 g1 g2 g3 g4 g5
          generalize World.drew _ = wb at HDb HRb HBb HBKb hHeld ⊢
          refine pure_ (i := 0) (N := some 60) (v := ?_) (a' := ?_) #[true, false, false, false, false, false, false, false, false, false] rfl rfl (any_of HT_.out (by kernel_rfl)) (fun _ _ _ h => h) (Or.inl ⟨by rfl, ?_⟩) ?_ ?_
          rotate_left
          · intro w'
            go_simp
            with_reducible rfl
          rotate_left
          · simp only [Act.put, List.setIfInBounds_toArray, List.set_cons_zero, List.set_cons_succ, i64_w, i32_w]
            rfl
          refine pure_ (i := 1) (N := some 61) (v := ?_) (a' := ?_) #[true, true, false, false, false, false, false, false, false, false] rfl rfl (any_of HT_.out (by kernel_rfl)) (fun _ _ _ h => h) (Or.inl ⟨by rfl, ?_⟩) ?_ ?_
          rotate_left
          · intro w'
            go_simp
            with_reducible rfl
          rotate_left
          · simp only [Act.put, List.setIfInBounds_toArray, List.set_cons_zero, List.set_cons_succ, i64_w, i32_w]
            rfl
          refine take_ (i := 2) (N := some 62) (v := ?_) (a' := ?_) #[true, true, true, false, false, false, false, false, false, false] rfl rfl (take_ofW HT_.out HW_.out (by kernel_rfl)) (fun _ _ _ h => h) (Or.inl ⟨by rfl, ?_⟩) hHeld ?_ ?_
          rotate_left
          · rintro w' s0
            go_simp
            with_reducible rfl
          rotate_left
          · simp only [Act.put, List.setIfInBounds_toArray, List.set_cons_zero, List.set_cons_succ, i64_w, i32_w]
            rfl
          refine pure_ (i := 4) (N := some 64) (v := ?_) (a' := ?_) #[true, true, true, false, true, false, false, false, false, false] rfl rfl (any_of HT_.out (by kernel_rfl)) (fun _ _ _ h => h) (Or.inl ⟨by rfl, ?_⟩) ?_ ?_
          rotate_left
          · intro w'
            go_simp
            with_reducible rfl
          rotate_left
          · simp only [Act.put, List.setIfInBounds_toArray, List.set_cons_zero, List.set_cons_succ, i64_w, i32_w]
            rfl
          refine pure_ (i := 5) (N := some 65) (v := ?_) (a' := ?_) #[true, true, true, false, true, true, false, false, false, false] rfl rfl (any_of HT_.out (by kernel_rfl)) (fun _ _ _ h => h) (Or.inl ⟨by rfl, ?_⟩) ?_ ?_
          rotate_left
          · intro w'
            go_simp
            with_reducible rfl
          rotate_left
          · simp only [Act.put, List.setIfInBounds_toArray, List.set_cons_zero, List.set_cons_succ, i64_w, i32_w]
            rfl
          refine take_ (i := 6) (N := some 66) (v := ?_) (a' := ?_) #[true, true, true, false, true, true, true, false, false, false] rfl rfl (take_ofW HT_.out HW_.out (by kernel_rfl)) (fun _ _ _ h => h) (Or.inl ⟨by rfl, ?_⟩) hHeld ?_ ?_
          rotate_left
          · rintro w' s0
            go_simp
            with_reducible rfl
          rotate_left
          · simp only [Act.put, List.setIfInBounds_toArray, List.set_cons_zero, List.set_cons_succ, i64_w, i32_w]
            rfl
          have KD := Sync_calls HDb.out HNI.out HNM.out
          rw [HE.out] at KD
          refine one_ (i := 3) (N := some 63) #[true, true, true, true, true, true, true, false, false, false] rfl rfl (one_of HT_.out (by kernel_rfl)) (by decide) (fun K hK => ?_)
          refine goes_ Try.func12 (by kernel_rfl) rfl #[.pointer (some ⟨p, 0, none⟩), .string nm] (by rfl) rfl rfl (by (try simp only [List.map_toArray, List.map_cons, List.map_nil]); first | done | rfl) ?_
          refine (KD).mono ?_
          rintro e wc ⟨rfl, hd, hf⟩
          refine ⟨_, rfl, ?_⟩
          have HDc := Aside0.mk hd
          have HRc := Aside0.mk (HRb.out.disk HDb.out hf)
          have HBc := Aside0.mk (Fr.base' HBb.out HP.out hf)
          have HBKc := Aside0.mk ((hf.block wr.heap.size (lt_of_block HBKb.out) HNE.out).trans HBKb.out)
          clear hd hf KD HDb HRb HBb HBKb
          refine hK.out _ _ (KBX.out _ 2 _ HBKc.out rfl) (fun hHeld => ?_)
          clear hK K
          refine norm_ (a' := ?_) ?_ ?_
          rotate_left
          · show Act.put _ (some 63) _ = _
            simp only [Act.put, List.setIfInBounds_toArray, List.set_cons_zero, List.set_cons_succ, i64_w, i32_w]
            rfl
          have KR := rSync_calls HRc.out (fun _ h => h.elim) HRL.out nm
          rw [HE2.out] at KR
          refine one_ (i := 7) (N := some 67) #[true, true, true, true, true, true, true, true, false, false] rfl rfl (one_of HT_.out (by kernel_rfl)) (by decide) (fun K hK => ?_)
          refine goes_ Try.func30 (by kernel_rfl) rfl #[.pointer (some ⟨q, 0, none⟩), .string nm] (by rfl) rfl rfl (by (try simp only [List.map_toArray, List.map_cons, List.map_nil]); first | done | rfl) ?_
          refine (KR).mono ?_
          rintro e wd ⟨rfl, hr, hf⟩
          refine ⟨_, rfl, ?_⟩
          have HRz := Aside0.mk hr
          have HDz := Aside0.mk (HDc.out.ref HRc.out hf)
          have HBz := Aside0.mk (Fr.baseq HBc.out HQ.out hf)
          have HBKz := Aside0.mk ((hf.block wr.heap.size (lt_of_block HBKc.out) HNQ.out).trans HBKc.out)
          clear hr hf KR HRc HDc HBc HBKc
          refine hK.out _ _ (KBX.out _ 2 _ HBKz.out rfl) (fun hHeld => ?_)
          clear hK K
          refine norm_ (a' := ?_) ?_ ?_
          rotate_left
          · show Act.put _ (some 67) _ = _
            simp only [Act.put, List.setIfInBounds_toArray, List.set_cons_zero, List.set_cons_succ, i64_w, i32_w]
            rfl
          refine pure_ (i := 8) (N := some 9) (v := ?_) (a' := ?_) #[true, true, true, true, true, true, true, true, true, false] rfl rfl (any_of HT_.out (by kernel_rfl)) (fun _ _ _ h => h) (Or.inl ⟨by rfl, ?_⟩) ?_ ?_
          rotate_left
          · intro w'
            go_simp
            with_reducible rfl
          rotate_left
          · simp only [Act.put, List.setIfInBounds_toArray, List.set_cons_zero, List.set_cons_succ, i64_w, i32_w]
            rfl
          refine pure_ (i := 9) (N := some 10) (v := ?_) (a' := ?_) #[true, true, true, true, true, true, true, true, true, true] rfl rfl (any_of HT_.out (by kernel_rfl)) (fun _ _ _ h => h) (Or.inl ⟨by rfl, ?_⟩) ?_ ?_
          rotate_left
          · intro w'
            go_simp
            with_reducible rfl
          rotate_left
          · simp only [Act.put, List.setIfInBounds_toArray, List.set_cons_zero, List.set_cons_succ, i64_w, i32_w]
            rfl
          refine done_ (done_of HT_.out (by kernel_rfl)) ?_
          clear hHeld
          have HPz := HP
          have HQz := HQ
          go_wp2_with (go_at_call 39; refine (alike_calls HDz.out HRz.out HSz.out.fs HSz.out.dead).mono ?_; rintro e wA ⟨rfl, hbA⟩; have HDA := Aside0.mk (show IsD (i + 1) wA _ _ _ from (HDz.out.below hbA).mono (by omega) HNI'.out); have HRA := Aside0.mk (HRz.out.below hbA); have HBA := Aside0.mk (HBz.out.trans (hbA.mono HBz.out.size)); clear hbA)
          have hwi := HWI.out
          go_roundg (l.length - (i + 1))
          case measure => exact meas hgo hk
          case rel => exact ⟨i + 1, _, _, _, _, _, rfl, rfl, by first | rfl | rw [hwi], hgo, Nat.le_refl _, HDA, HRA, HSz, HBA, HPz, HQz⟩
        have n3 : (x0 == 3) = false := by simpa using c3
        by_cases c4_ : x0 = 4
        · subst c4_
          obtain ⟨E, d2, HE⟩ : ∃ e d', Aside0 (rnD d nm.data.toList tm.data.toList = (e, d')) := ⟨_, _, ⟨rfl⟩⟩
          obtain ⟨E2, r2, HE2⟩ : ∃ e r', Aside0 (rrn r nm.data.toList tm.data.toList = (e, r')) := ⟨_, _, ⟨rfl⟩⟩
          have hsame := same_rename HSR.out HS.out nm.data.toList tm.data.toList
          rw [HE.out, HE2.out] at hsame
          have hEE : E2 = E := hsame.1.symm
          subst hEE
          have HSz := Aside0.mk (show Same d2 r2 from hsame.2)
          clear hsame
          go_wp2_with fail
          refine start_ (n := 14) (S := fun w' => w'.cell? ⟨wr.heap.size, 2, none⟩ = some (.string nm) ∧ w'.cell? ⟨wr.heap.size, 3, none⟩ = some (.string tm)) (ds := []) #[false, false, false, false, false, false, false, false, false, false, false, false, false, false] (by kernel_rfl) rfl rfl ⟨KBX.out _ 2 _ (blk_drew HBK.out) rfl, KBX.out _ 3 _ (blk_drew HBK.out) rfl⟩ (fun hHeld => ?_); refine with_tabW Dpl.tab21 Dpl.bits21 (fun HT_ HW_ => ?_)
          have HDb := Aside0.mk (HDa.out.below ((Below.refl _ _).drew))
          have HRb := Aside0.mk (HRa.out.below ((Below.refl _ _).drew))
          have HBb := Aside0.mk (HBa.out.drew)
          have HBKb := Aside0.mk (blk_drew HBK.out)
          clear HDa HRa HBa HBK g0 g1 g2 g3 g4 g5
          generalize World.drew _ = wb at HDb HRb HBb HBKb hHeld ⊢
          refine pure_ (i := 0) (N := some 70) (v := ?_) (a' := ?_) #[true, false, false, false, false, false, false, false, false, false, false, false, false, false] rfl rfl (any_of HT_.out (by kernel_rfl)) (fun _ _ _ h => h) (Or.inl ⟨by rfl, ?_⟩) ?_ ?_
          rotate_left
          · intro w'
            go_simp
            with_reducible rfl
          rotate_left
          · simp only [Act.put, List.setIfInBounds_toArray, List.set_cons_zero, List.set_cons_succ, i64_w, i32_w]
            rfl
          refine pure_ (i := 1) (N := some 71) (v := ?_) (a' := ?_) #[true, true, false, false, false, false, false, false, false, false, false, false, false, false] rfl rfl (any_of HT_.out (by kernel_rfl)) (fun _ _ _ h => h) (Or.inl ⟨by rfl, ?_⟩) ?_ ?_
          rotate_left
          · intro w'
            go_simp
            with_reducible rfl
          rotate_left
          · simp only [Act.put, List.setIfInBounds_toArray, List.set_cons_zero, List.set_cons_succ, i64_w, i32_w]
            rfl
          refine take_ (i := 2) (N := some 72) (v := ?_) (a' := ?_) #[true, true, true, false, false, false, false, false, false, false, false, false, false, false] rfl rfl (take_ofW HT_.out HW_.out (by kernel_rfl)) (fun _ _ _ h => h) (Or.inl ⟨by rfl, ?_⟩) hHeld ?_ ?_
          rotate_left
          · rintro w' ⟨s0, s1⟩
            go_simp
            with_reducible rfl
          rotate_left
          · simp only [Act.put, List.setIfInBounds_toArray, List.set_cons_zero, List.set_cons_succ, i64_w, i32_w]
            rfl
          refine pure_ (i := 3) (N := some 73) (v := ?_) (a' := ?_) #[true, true, true, true, false, false, false, false, false, false, false, false, false, false] rfl rfl (any_of HT_.out (by kernel_rfl)) (fun _ _ _ h => h) (Or.inl ⟨by rfl, ?_⟩) ?_ ?_
          rotate_left
          · intro w'
            go_simp
            with_reducible rfl
          rotate_left
          · simp only [Act.put, List.setIfInBounds_toArray, List.set_cons_zero, List.set_cons_succ, i64_w, i32_w]
            rfl
          refine take_ (i := 4) (N := some 74) (v := ?_) (a' := ?_) #[true, true, true, true, true, false, false, false, false, false, false, false, false, false] rfl rfl (take_ofW HT_.out HW_.out (by kernel_rfl)) (fun _ _ _ h => h) (Or.inl ⟨by rfl, ?_⟩) hHeld ?_ ?_
          rotate_left
          · rintro w' ⟨s0, s1⟩
            go_simp
            with_reducible rfl
          rotate_left
          · simp only [Act.put, List.setIfInBounds_toArray, List.set_cons_zero, List.set_cons_succ, i64_w, i32_w]
            rfl
          refine pure_ (i := 6) (N := some 76) (v := ?_) (a' := ?_) #[true, true, true, true, true, false, true, false, false, false, false, false, false, false] rfl rfl (any_of HT_.out (by kernel_rfl)) (fun _ _ _ h => h) (Or.inl ⟨by rfl, ?_⟩) ?_ ?_
          rotate_left
          · intro w'
            go_simp
            with_reducible rfl
          rotate_left
          · simp only [Act.put, List.setIfInBounds_toArray, List.set_cons_zero, List.set_cons_succ, i64_w, i32_w]
            rfl
          refine pure_ (i := 7) (N := some 77) (v := ?_) (a' := ?_) #[true, true, true, true, true, false, true, true, false, false, false, false, false, false] rfl rfl (any_of HT_.out (by kernel_rfl)) (fun _ _ _ h => h) (Or.inl ⟨by rfl, ?_⟩) ?_ ?_
          rotate_left
          · intro w'
            go_simp
            with_reducible rfl
          rotate_left
          · simp only [Act.put, List.setIfInBounds_toArray, List.set_cons_zero, List.set_cons_succ, i64_w, i32_w]
            rfl
          refine take_ (i := 8) (N := some 78) (v := ?_) (a' := ?_) #[true, true, true, true, true, false, true, true, true, false, false, false, false, false] rfl rfl (take_ofW HT_.out HW_.out (by kernel_rfl)) (fun _ _ _ h => h) (Or.inl ⟨by rfl, ?_⟩) hHeld ?_ ?_
          rotate_left
          · rintro w' ⟨s0, s1⟩
            go_simp
            with_reducible rfl
          rotate_left
          · simp only [Act.put, List.setIfInBounds_toArray, List.set_cons_zero, List.set_cons_succ, i64_w, i32_w]
            rfl
          refine pure_ (i := 9) (N := some 79) (v := ?_) (a' := ?_) #[true, true, true, true, true, false, true, true, true, true, false, false, false, false] rfl rfl (any_of HT_.out (by kernel_rfl)) (fun _ _ _ h => h) (Or.inl ⟨by rfl, ?_⟩) ?_ ?_
          rotate_left
          · intro w'
            go_simp
            with_reducible rfl
          rotate_left
          · simp only [Act.put, List.setIfInBounds_toArray, List.set_cons_zero, List.set_cons_succ, i64_w, i32_w]
            rfl
          refine take_ (i := 10) (N := some 80) (v := ?_) (a' := ?_) #[true, true, true, true, true, false, true, true, true, true, true, false, false, false] rfl rfl (take_ofW HT_.out HW_.out (by kernel_rfl)) (fun _ _ _ h => h) (Or.inl ⟨by rfl, ?_⟩) hHeld ?_ ?_
          rotate_left
          · rintro w' ⟨s0, s1⟩
            go_simp
            with_reducible rfl
          rotate_left
          · simp only [Act.put, List.setIfInBounds_toArray, List.set_cons_zero, List.set_cons_succ, i64_w, i32_w]
            rfl
          have KD := Rename_calls HDb.out HNI.out HNM.out HTM.out
          rw [HE.out] at KD
          refine one_ (i := 5) (N := some 75) #[true, true, true, true, true, true, true, true, true, true, true, false, false, false] rfl rfl (one_of HT_.out (by kernel_rfl)) (by decide) (fun K hK => ?_)
          refine goes_ Try.func13 (by kernel_rfl) rfl #[.pointer (some ⟨p, 0, none⟩), .string nm, .string tm] (by rfl) rfl rfl (by (try simp only [List.map_toArray, List.map_cons, List.map_nil]); first | done | rfl) ?_
          refine (KD).mono ?_
          rintro e wc ⟨rfl, hd, hf⟩
          refine ⟨_, rfl, ?_⟩
          have HDc := Aside0.mk hd
          have HRc := Aside0.mk (HRb.out.disk HDb.out hf)
          have HBc := Aside0.mk (Fr.base' HBb.out HP.out hf)
          have HBKc := Aside0.mk ((hf.block wr.heap.size (lt_of_block HBKb.out) HNE.out).trans HBKb.out)
          clear hd hf KD HDb HRb HBb HBKb
          refine hK.out _ _ ⟨KBX.out _ 2 _ HBKc.out rfl, KBX.out _ 3 _ HBKc.out rfl⟩ (fun hHeld => ?_)
          clear hK K
          refine norm_ (a' := ?_) ?_ ?_
          rotate_left
          · show Act.put _ (some 75) _ = _
            simp only [Act.put, List.setIfInBounds_toArray, List.set_cons_zero, List.set_cons_succ, i64_w, i32_w]
            rfl
          have KR := rRename_calls HRc.out (fun _ h => h.elim) nm tm
          rw [HE2.out] at KR
          refine one_ (i := 11) (N := some 81) #[true, true, true, true, true, true, true, true, true, true, true, true, false, false] rfl rfl (one_of HT_.out (by kernel_rfl)) (by decide) (fun K hK => ?_)
          refine goes_ Try.func31 (by kernel_rfl) rfl #[.pointer (some ⟨q, 0, none⟩), .string nm, .string tm] (by rfl) rfl rfl (by (try simp only [List.map_toArray, List.map_cons, List.map_nil]); first | done | rfl) ?_
          refine (KR).mono ?_
          rintro e wd ⟨rfl, hr, hf⟩
          refine ⟨_, rfl, ?_⟩
          have HRz := Aside0.mk hr
          have HDz := Aside0.mk (HDc.out.ref HRc.out hf)
          have HBz := Aside0.mk (Fr.baseq HBc.out HQ.out hf)
          have HBKz := Aside0.mk ((hf.block wr.heap.size (lt_of_block HBKc.out) HNQ.out).trans HBKc.out)
          clear hr hf KR HRc HDc HBc HBKc
          refine hK.out _ _ ⟨KBX.out _ 2 _ HBKz.out rfl, KBX.out _ 3 _ HBKz.out rfl⟩ (fun hHeld => ?_)
          clear hK K
          refine norm_ (a' := ?_) ?_ ?_
          rotate_left
          · show Act.put _ (some 81) _ = _
            simp only [Act.put, List.setIfInBounds_toArray, List.set_cons_zero, List.set_cons_succ, i64_w, i32_w]
            rfl
          refine pure_ (i := 12) (N := some 9) (v := ?_) (a' := ?_) #[true, true, true, true, true, true, true, true, true, true, true, true, true, false] rfl rfl (any_of HT_.out (by kernel_rfl)) (fun _ _ _ h => h) (Or.inl ⟨by rfl, ?_⟩) ?_ ?_
          rotate_left
          · intro w'
            go_simp
            with_reducible rfl
          rotate_left
          · simp only [Act.put, List.setIfInBounds_toArray, List.set_cons_zero, List.set_cons_succ, i64_w, i32_w]
            rfl
          refine pure_ (i := 13) (N := some 10) (v := ?_) (a' := ?_) #[true, true, true, true, true, true, true, true, true, true, true, true, true, true] rfl rfl (any_of HT_.out (by kernel_rfl)) (fun _ _ _ h => h) (Or.inl ⟨by rfl, ?_⟩) ?_ ?_
          rotate_left
          · intro w'
            go_simp
            with_reducible rfl
          rotate_left
          · simp only [Act.put, List.setIfInBounds_toArray, List.set_cons_zero, List.set_cons_succ, i64_w, i32_w]
            rfl
          refine done_ (done_of HT_.out (by kernel_rfl)) ?_
          clear hHeld
          have HPz := HP
          have HQz := HQ
          go_wp2_with (go_at_call 39; refine (alike_calls HDz.out HRz.out HSz.out.fs HSz.out.dead).mono ?_; rintro e wA ⟨rfl, hbA⟩; have HDA := Aside0.mk (show IsD (i + 1) wA _ _ _ from (HDz.out.below hbA).mono (by omega) HNI'.out); have HRA := Aside0.mk (HRz.out.below hbA); have HBA := Aside0.mk (HBz.out.trans (hbA.mono HBz.out.size)); clear hbA)
          have hwi := HWI.out
          go_roundg (l.length - (i + 1))
          case measure => exact meas hgo hk
          case rel => exact ⟨i + 1, _, _, _, _, _, rfl, rfl, by first | rfl | rw [hwi], hgo, Nat.le_refl _, HDA, HRA, HSz, HBA, HPz, HQz⟩
        have n4 : (x0 == 4) = false := by simpa using c4_
        by_cases c5_ : x0 = 5
        · subst c5_
          obtain ⟨E, d2, HE⟩ : ∃ e d', Aside0 (delD d nm.data.toList = (e, d')) := ⟨_, _, ⟨rfl⟩⟩
          obtain ⟨E2, r2, HE2⟩ : ∃ e r', Aside0 (rdl r nm.data.toList = (e, r')) := ⟨_, _, ⟨rfl⟩⟩
          have hsame := same_delete HSR.out HS.out nm.data.toList
          rw [HE.out, HE2.out] at hsame
          have hEE : E2 = E := hsame.1.symm
          subst hEE
          have HSz := Aside0.mk (show Same d2 r2 from hsame.2)
          clear hsame
          go_wp2_with fail
          refine start_ (n := 10) (S := fun w' => w'.cell? ⟨wr.heap.size, 2, none⟩ = some (.string nm)) (ds := []) #[false, false, false, false, false, false, false, false, false, false] (by kernel_rfl) rfl rfl (KBX.out _ 2 _ (blk_drew HBK.out) rfl) (fun hHeld => ?_); refine with_tabW Dpl.tab23 Dpl.bits23 (fun HT_ HW_ => ?_)
          have HDb := Aside0.mk (HDa.out.below ((Below.refl _ _).drew))
          have HRb := Aside0.mk (HRa.out.below ((Below.refl _ _).drew))
          have HBb := Aside0.mk (HBa.out.drew)
          have HBKb := Aside0.mk (blk_drew HBK.out)
          clear HDa HRa HBa HBK g0 g1 g2 g3 g4 g5
          generalize World.drew _ = wb at HDb HRb HBb HBKb hHeld ⊢
          refine pure_ (i := 0) (N := some 84) (v := ?_) (a' := ?_) #[true, false, false, false, false, false, false, false, false, false] rfl rfl (any_of HT_.out (by kernel_rfl)) (fun _ _ _ h => h) (Or.inl ⟨by rfl, ?_⟩) ?_ ?_
          rotate_left
          · intro w'
            go_simp
            with_reducible rfl
          rotate_left
          · simp only [Act.put, List.setIfInBounds_toArray, List.set_cons_zero, List.set_cons_succ, i64_w, i32_w]
            rfl
          refine pure_ (i := 1) (N := some 85) (v := ?_) (a' := ?_) #[true, true, false, false, false, false, false, false, false, false] rfl rfl (any_of HT_.out (by kernel_rfl)) (fun _ _ _ h => h) (Or.inl ⟨by rfl, ?_⟩) ?_ ?_
          rotate_left
          · intro w'
            go_simp
            with_reducible rfl
          rotate_left
          · simp only [Act.put, List.setIfInBounds_toArray, List.set_cons_zero, List.set_cons_succ, i64_w, i32_w]
            rfl
          refine take_ (i := 2) (N := some 86) (v := ?_) (a' := ?_) #[true, true, true, false, false, false, false, false, false, false] rfl rfl (take_ofW HT_.out HW_.out (by kernel_rfl)) (fun _ _ _ h => h) (Or.inl ⟨by rfl, ?_⟩) hHeld ?_ ?_
          rotate_left
          · rintro w' s0
            go_simp
            with_reducible rfl
          rotate_left
          · simp only [Act.put, List.setIfInBounds_toArray, List.set_cons_zero, List.set_cons_succ, i64_w, i32_w]
            rfl
          refine pure_ (i := 4) (N := some 88) (v := ?_) (a' := ?_) #[true, true, true, false, true, false, false, false, false, false] rfl rfl (any_of HT_.out (by kernel_rfl)) (fun _ _ _ h => h) (Or.inl ⟨by rfl, ?_⟩) ?_ ?_
          rotate_left
          · intro w'
            go_simp
            with_reducible rfl
          rotate_left
          · simp only [Act.put, List.setIfInBounds_toArray, List.set_cons_zero, List.set_cons_succ, i64_w, i32_w]
            rfl
          refine pure_ (i := 5) (N := some 89) (v := ?_) (a' := ?_) #[true, true, true, false, true, true, false, false, false, false] rfl rfl (any_of HT_.out (by kernel_rfl)) (fun _ _ _ h => h) (Or.inl ⟨by rfl, ?_⟩) ?_ ?_
          rotate_left
          · intro w'
            go_simp
            with_reducible rfl
          rotate_left
          · simp only [Act.put, List.setIfInBounds_toArray, List.set_cons_zero, List.set_cons_succ, i64_w, i32_w]
            rfl
          refine take_ (i := 6) (N := some 90) (v := ?_) (a' := ?_) #[true, true, true, false, true, true, true, false, false, false] rfl rfl (take_ofW HT_.out HW_.out (by kernel_rfl)) (fun _ _ _ h => h) (Or.inl ⟨by rfl, ?_⟩) hHeld ?_ ?_
          rotate_left
          · rintro w' s0
            go_simp
            with_reducible rfl
          rotate_left
          · simp only [Act.put, List.setIfInBounds_toArray, List.set_cons_zero, List.set_cons_succ, i64_w, i32_w]
            rfl
          have KD := Delete_calls HDb.out HNM.out
          rw [HE.out] at KD
          refine one_ (i := 3) (N := some 87) #[true, true, true, true, true, true, true, false, false, false] rfl rfl (one_of HT_.out (by kernel_rfl)) (by decide) (fun K hK => ?_)
          refine goes_ Try.func20 (by kernel_rfl) rfl #[.pointer (some ⟨p, 0, none⟩), .string nm] (by rfl) rfl rfl (by (try simp only [List.map_toArray, List.map_cons, List.map_nil]); first | done | rfl) ?_
          refine (KD).mono ?_
          rintro e wc ⟨rfl, hd, hf⟩
          refine ⟨_, rfl, ?_⟩
          have HDc := Aside0.mk hd
          have HRc := Aside0.mk (HRb.out.disk HDb.out hf)
          have HBc := Aside0.mk (Fr.base' HBb.out HP.out hf)
          have HBKc := Aside0.mk ((hf.block wr.heap.size (lt_of_block HBKb.out) HNE.out).trans HBKb.out)
          clear hd hf KD HDb HRb HBb HBKb
          refine hK.out _ _ (KBX.out _ 2 _ HBKc.out rfl) (fun hHeld => ?_)
          clear hK K
          refine norm_ (a' := ?_) ?_ ?_
          rotate_left
          · show Act.put _ (some 87) _ = _
            simp only [Act.put, List.setIfInBounds_toArray, List.set_cons_zero, List.set_cons_succ, i64_w, i32_w]
            rfl
          have KR := rDelete_calls HRc.out (fun _ h => h.elim) nm
          rw [HE2.out] at KR
          refine one_ (i := 7) (N := some 91) #[true, true, true, true, true, true, true, true, false, false] rfl rfl (one_of HT_.out (by kernel_rfl)) (by decide) (fun K hK => ?_)
          refine goes_ Try.func32 (by kernel_rfl) rfl #[.pointer (some ⟨q, 0, none⟩), .string nm] (by rfl) rfl rfl (by (try simp only [List.map_toArray, List.map_cons, List.map_nil]); first | done | rfl) ?_
          refine (KR).mono ?_
          rintro e wd ⟨rfl, hr, hf⟩
          refine ⟨_, rfl, ?_⟩
          have HRz := Aside0.mk hr
          have HDz := Aside0.mk (HDc.out.ref HRc.out hf)
          have HBz := Aside0.mk (Fr.baseq HBc.out HQ.out hf)
          have HBKz := Aside0.mk ((hf.block wr.heap.size (lt_of_block HBKc.out) HNQ.out).trans HBKc.out)
          clear hr hf KR HRc HDc HBc HBKc
          refine hK.out _ _ (KBX.out _ 2 _ HBKz.out rfl) (fun hHeld => ?_)
          clear hK K
          refine norm_ (a' := ?_) ?_ ?_
          rotate_left
          · show Act.put _ (some 91) _ = _
            simp only [Act.put, List.setIfInBounds_toArray, List.set_cons_zero, List.set_cons_succ, i64_w, i32_w]
            rfl
          refine pure_ (i := 8) (N := some 9) (v := ?_) (a' := ?_) #[true, true, true, true, true, true, true, true, true, false] rfl rfl (any_of HT_.out (by kernel_rfl)) (fun _ _ _ h => h) (Or.inl ⟨by rfl, ?_⟩) ?_ ?_
          rotate_left
          · intro w'
            go_simp
            with_reducible rfl
          rotate_left
          · simp only [Act.put, List.setIfInBounds_toArray, List.set_cons_zero, List.set_cons_succ, i64_w, i32_w]
            rfl
          refine pure_ (i := 9) (N := some 10) (v := ?_) (a' := ?_) #[true, true, true, true, true, true, true, true, true, true] rfl rfl (any_of HT_.out (by kernel_rfl)) (fun _ _ _ h => h) (Or.inl ⟨by rfl, ?_⟩) ?_ ?_
          rotate_left
          · intro w'
            go_simp
            with_reducible rfl
          rotate_left
          · simp only [Act.put, List.setIfInBounds_toArray, List.set_cons_zero, List.set_cons_succ, i64_w, i32_w]
            rfl
          refine done_ (done_of HT_.out (by kernel_rfl)) ?_
          clear hHeld
          have HPz := HP
          have HQz := HQ
          go_wp2_with (go_at_call 39; refine (alike_calls HDz.out HRz.out HSz.out.fs HSz.out.dead).mono ?_; rintro e wA ⟨rfl, hbA⟩; have HDA := Aside0.mk (show IsD (i + 1) wA _ _ _ from (HDz.out.below hbA).mono (by omega) HNI'.out); have HRA := Aside0.mk (HRz.out.below hbA); have HBA := Aside0.mk (HBz.out.trans (hbA.mono HBz.out.size)); clear hbA)
          have hwi := HWI.out
          go_roundg (l.length - (i + 1))
          case measure => exact meas hgo hk
          case rel => exact ⟨i + 1, _, _, _, _, _, rfl, rfl, by first | rfl | rw [hwi], hgo, Nat.le_refl _, HDA, HRA, HSz, HBA, HPz, HQz⟩
        have n5 : (x0 == 5) = false := by simpa using c5_
        by_cases c6 : x0 = 6
        · subst c6
          have hsame := same_read HSR.out HS.out nm.data.toList
          obtain ⟨b1, E, HE⟩ : ∃ a e, Aside0 (rdD d nm.data.toList = (a, e)) := ⟨_, _, ⟨rfl⟩⟩
          have HE2 := Aside0.mk (show rrd r nm.data.toList = (b1, E) from by rw [← hsame, HE.out])
          have HLB := Aside0.mk (show b1.length ≤ 1048576 from by have h := HE.out; unfold rdD at h; split at h <;> injection h with h _ <;> rw [← h]; exact HDa.out.got_len _; simp)
          clear hsame
          go_wp2_with fail
          refine (Read_is HDa.out HNM.out HE.out).mono ?_
          rintro e wb ⟨vb, rfl, hob, hbb⟩
          have hBb := IsB.of_own hob rfl (by have := HLB.out; omega)
          obtain ⟨Bb, kb, rfl⟩ := hBb.agg
          have HVb := Aside0.mk hBb
          have HDb := Aside0.mk (HDa.out.below hbb)
          have HRb := Aside0.mk (HRa.out.below hbb)
          have HBb := Aside0.mk (HBa.out.trans (hbb.mono HBa.out.size))
          have q2 := KBX.out wb 2 _ ((hbb.block wr.heap.size (lt_of_block HBK.out)).trans HBK.out) rfl
          clear hob hbb hBb HDa HRa HBa HBK g0 g1 g2 g3 g4 g5
          go_wp2_with fail
          have KR := rRead_calls HRb.out nm
          rw [HE2.out] at KR
          refine KR.mono ?_
          clear KR
          rintro e wc ⟨vc, rfl, hvc, hbc⟩
          obtain ⟨Bc, kc, rfl⟩ := hvc.agg
          have HWc := Aside0.mk hvc
          have HVc := Aside0.mk (HVb.out.below hbc)
          have HDc := Aside0.mk (HDb.out.below hbc)
          have HRc := Aside0.mk (HRb.out.below hbc)
          have HBc := Aside0.mk (HBb.out.trans (hbc.mono HBb.out.size))
          clear hvc hbc HDb HRb HBb HVb q2
          have HSz := HS
          have HPz := HP
          have HQz := HQ
          go_wp2_with (go_at_call 16; refine (Bytes_calls HVc.out HWc.out).mono ?_; rintro e wd ⟨rfl, hdr⟩; rw [decide_eq_true rfl]; have HDz := Aside0.mk (HDc.out.drawn hdr); have HRz := Aside0.mk (HRc.out.drawn hdr); have HBz := Aside0.mk (below_drawn HBc.out hdr); clear hdr)
          go_wp2_with (go_at_call 39; refine (alike_calls HDz.out HRz.out HSz.out.fs HSz.out.dead).mono ?_; rintro e wA ⟨rfl, hbA⟩; have HDA := Aside0.mk (show IsD (i + 1) wA _ _ _ from (HDz.out.below hbA).mono (by omega) HNI'.out); have HRA := Aside0.mk (HRz.out.below hbA); have HBA := Aside0.mk (HBz.out.trans (hbA.mono HBz.out.size)); clear hbA)
          have hwi := HWI.out
          go_roundg (l.length - (i + 1))
          case measure => exact meas hgo hk
          case rel => exact ⟨i + 1, _, _, _, _, _, rfl, rfl, by first | rfl | rw [hwi], hgo, Nat.le_refl _, HDA, HRA, HSz, HBA, HPz, HQz⟩
        have n6 : (x0 == 6) = false := by simpa using c6
        by_cases c7 : x0 = 7
        · subst c7
          go_wp2_with fail
          refine (Room_calls HDa.out x1 HX1.out).mono ?_
          rintro e wb ⟨rfl, hd, hf⟩
          have HDb := Aside0.mk hd
          have HRb := Aside0.mk (HRa.out.disk HDa.out hf)
          have HBb := Aside0.mk (Fr.base' HBa.out HP.out hf)
          have qk := KBX.out wb 1 _ ((hf.block wr.heap.size (lt_of_block HBK.out) HNE.out).trans HBK.out) rfl
          clear hd hf HDa HRa HBa HBK g0 g1 g2 g3 g4 g5
          go_wp2_with fail
          refine (rRoom_calls HRb.out x1 HX1.out).mono ?_
          rintro e wc ⟨rfl, hr, hf⟩
          have HRz := Aside0.mk hr
          have HDz := Aside0.mk (HDb.out.ref HRb.out hf)
          have HBz := Aside0.mk (Fr.baseq HBb.out HQ.out hf)
          have HSz := Aside0.mk (same_room HS.out x1)
          have HPz := HP
          have HQz := HQ
          clear hr hf HRb HDb HBb qk
          go_wp2_with (go_at_call 39; refine (alike_calls HDz.out HRz.out HSz.out.fs HSz.out.dead).mono ?_; rintro e wA ⟨rfl, hbA⟩; have HDA := Aside0.mk (show IsD (i + 1) wA _ _ _ from (HDz.out.below hbA).mono (by omega) HNI'.out); have HRA := Aside0.mk (HRz.out.below hbA); have HBA := Aside0.mk (HBz.out.trans (hbA.mono HBz.out.size)); clear hbA)
          have hwi := HWI.out
          go_roundg (l.length - (i + 1))
          case measure => exact meas hgo hk
          case rel => exact ⟨i + 1, _, _, _, _, _, rfl, rfl, by first | rfl | rw [hwi], hgo, Nat.le_refl _, HDA, HRA, HSz, HBA, HPz, HQz⟩
        have n7 : (x0 == 7) = false := by simpa using c7
        by_cases c8 : x0 = 8
        · subst c8
          go_wp2_with fail
          refine (Cut_calls HDa.out x1 HX1.out).mono ?_
          rintro e wb ⟨rfl, hd, hf⟩
          have HDb := Aside0.mk hd
          have HRb := Aside0.mk (HRa.out.disk HDa.out hf)
          have HBb := Aside0.mk (Fr.base' HBa.out HP.out hf)
          have qk := KBX.out wb 1 _ ((hf.block wr.heap.size (lt_of_block HBK.out) HNE.out).trans HBK.out) rfl
          clear hd hf HDa HRa HBa HBK g0 g1 g2 g3 g4 g5
          go_wp2_with fail
          refine (rCut_calls HRb.out x1 HX1.out).mono ?_
          rintro e wc ⟨rfl, hr, hf⟩
          have HRz := Aside0.mk hr
          have HDz := Aside0.mk (HDb.out.ref HRb.out hf)
          have HBz := Aside0.mk (Fr.baseq HBb.out HQ.out hf)
          have HSz := Aside0.mk (same_cut HS.out x1)
          have HPz := HP
          have HQz := HQ
          clear hr hf HRb HDb HBb qk
          go_wp2_with (go_at_call 39; refine (alike_calls HDz.out HRz.out HSz.out.fs HSz.out.dead).mono ?_; rintro e wA ⟨rfl, hbA⟩; have HDA := Aside0.mk (show IsD (i + 1) wA _ _ _ from (HDz.out.below hbA).mono (by omega) HNI'.out); have HRA := Aside0.mk (HRz.out.below hbA); have HBA := Aside0.mk (HBz.out.trans (hbA.mono HBz.out.size)); clear hbA)
          have hwi := HWI.out
          go_roundg (l.length - (i + 1))
          case measure => exact meas hgo hk
          case rel => exact ⟨i + 1, _, _, _, _, _, rfl, rfl, by first | rfl | rw [hwi], hgo, Nat.le_refl _, HDA, HRA, HSz, HBA, HPz, HQz⟩
        have n8 : (x0 == 8) = false := by simpa using c8
        by_cases c9 : x0 = 9
        · subst c9
          go_wp2_with fail
          refine (Crash_calls (cp := c5) (keep := ks) HDa.out HNI.out (fun w' hf => Kd.C_below HC5.out (Fr.base' HBa.out HP.out hf))).mono ?_
          rintro e wb ⟨rfl, hd, hf⟩
          have HDb := Aside0.mk hd
          have HRb := Aside0.mk (HRa.out.disk HDa.out hf)
          have HBb := Aside0.mk (Fr.base' HBa.out HP.out hf)
          have qk := KBX.out wb 5 _ ((hf.block wr.heap.size (lt_of_block HBK.out) HNE.out).trans HBK.out) rfl
          clear hd hf HDa HRa HBa HBK g0 g1 g2 g3 g4 g5
          go_wp2_with fail
          refine (rCrash_calls (cp := c5) HRb.out (fun _ h => h.elim) (Kd.C_below HC5.out HBb.out)).mono ?_
          rintro e wc ⟨rfl, hr, hf⟩
          have HRz := Aside0.mk hr
          have HDz := Aside0.mk (HDb.out.ref HRb.out hf)
          have HBz := Aside0.mk (Fr.baseq HBb.out HQ.out hf)
          have HSz := Aside0.mk (same_crash HS.out ks)
          have HPz := HP
          have HQz := HQ
          clear hr hf HRb HDb HBb qk
          go_wp2_with (go_at_call 39; refine (alike_calls HDz.out HRz.out HSz.out.fs HSz.out.dead).mono ?_; rintro e wA ⟨rfl, hbA⟩; have HDA := Aside0.mk (show IsD (i + 1) wA _ _ _ from (HDz.out.below hbA).mono (by omega) HNI'.out); have HRA := Aside0.mk (HRz.out.below hbA); have HBA := Aside0.mk (HBz.out.trans (hbA.mono HBz.out.size)); clear hbA)
          have hwi := HWI.out
          go_roundg (l.length - (i + 1))
          case measure => exact meas hgo hk
          case rel => exact ⟨i + 1, _, _, _, _, _, rfl, rfl, by first | rfl | rw [hwi], hgo, Nat.le_refl _, HDA, HRA, HSz, HBA, HPz, HQz⟩
        have n9 : (x0 == 9) = false := by simpa using c9
        by_cases c10 : x0 = 10
        · subst c10
          have HM := Aside0.mk (show (⟨#[111, 116, 104, 101, 114]⟩ : ByteArray).size ≤ maxLen from by decide)
          go_wp2_with fail
          refine (Copy_calls HDa.out).mono ?_
          rintro e wb ⟨p2, b2, rfl, hd2, hbb, hp2, hb2⟩
          have HD2 := Aside0.mk hd2
          have HDb := Aside0.mk (HDa.out.below hbb)
          have HRb := Aside0.mk (HRa.out.below hbb)
          have HBb := Aside0.mk (HBa.out.trans (hbb.mono HBa.out.size))
          have HPz := Aside0.mk ((Bh.mk hp2 hb2).mono HBa.out.size)
          have HFAR := Aside0.mk (far_new HDa.out ⟨hp2, hb2⟩)
          clear hd2 hbb hp2 hb2 HDa HRa HBa HBK g0 g1 g2 g3 g4 g5
          go_wp2_with fail
          have KW := Write_calls (cp := 1) (HDb.out.below ((Below.refl wb.heap.size wb).alloc (Nat.le_refl _) (.cells #[.int .u8 1] 5 (0, 0)))) HNI.out HM.out (litC wb [1] (0, 0) (by decide))
          refine KW.mono ?_
          clear KW
          rintro e wc ⟨rfl, hd, hf⟩
          have HBn := Aside0.mk (HBb.out.alloc HBb.out.size (.cells #[.int .u8 1] 5 (0, 0)))
          have HDn := Aside0.mk (HDb.out.below ((Below.refl wb.heap.size wb).alloc (Nat.le_refl _) (.cells #[.int .u8 1] 5 (0, 0))))
          have HD2n := Aside0.mk (HD2.out.below ((Below.refl wb.heap.size wb).alloc (Nat.le_refl _) (.cells #[.int .u8 1] 5 (0, 0))))
          have HRn := Aside0.mk (HRb.out.below ((Below.refl wb.heap.size wb).alloc (Nat.le_refl _) (.cells #[.int .u8 1] 5 (0, 0))))
          have HD2c := Aside0.mk (HD2n.out.other HDn.out hf HFAR.out.symm)
          have HRc := Aside0.mk (HRn.out.disk HDn.out hf)
          have HBc := Aside0.mk (Fr.base' HBn.out HP.out hf)
          clear hd hf HDb HD2 HRb HBb HBn HDn HD2n HRn
          go_wp2_with fail
          refine (rCopy_calls HRc.out (fun _ h => h.elim)).mono ?_
          rintro e wd ⟨q2, rfl, hr2, hbd, hq2⟩
          have HDz := Aside0.mk (HD2c.out.below hbd)
          have HRz := Aside0.mk hr2
          have HBz := Aside0.mk (HBc.out.trans (hbd.mono HBc.out.size))
          have HQz := Aside0.mk (Nat.le_trans HBc.out.size hq2)
          have HSz := HS
          clear hr2 hbd hq2 HD2c HRc HBc
          go_wp2_with (go_at_call 39; refine (alike_calls HDz.out HRz.out HSz.out.fs HSz.out.dead).mono ?_; rintro e wA ⟨rfl, hbA⟩; have HDA := Aside0.mk (show IsD (i + 1) wA _ _ _ from (HDz.out.below hbA).mono (by omega) HNI'.out); have HRA := Aside0.mk (HRz.out.below hbA); have HBA := Aside0.mk (HBz.out.trans (hbA.mono HBz.out.size)); clear hbA)
          have hwi := HWI.out
          go_roundg (l.length - (i + 1))
          case measure => exact meas hgo hk
          case rel => exact ⟨i + 1, _, _, _, _, _, rfl, rfl, by first | rfl | rw [hwi], hgo, Nat.le_refl _, HDA, HRA, HSz, HBA, HPz, HQz⟩
        have n10 : (x0 == 10) = false := by simpa using c10
        have HDz := HDa
        have HRz := HRa
        have HBz := HBa
        have HSz := HS
        have HPz := HP
        have HQz := HQ
        clear HDa HRa HBa
        go_wp2_with (go_at_call 39; refine (alike_calls HDz.out HRz.out HSz.out.fs HSz.out.dead).mono ?_; rintro e wA ⟨rfl, hbA⟩; have HDA := Aside0.mk (show IsD (i + 1) wA _ _ _ from (HDz.out.below hbA).mono (by omega) HNI'.out); have HRA := Aside0.mk (HRz.out.below hbA); have HBA := Aside0.mk (HBz.out.trans (hbA.mono HBz.out.size)); clear hbA)
        have hwi := HWI.out
        go_roundg (l.length - (i + 1))
        case measure => exact meas hgo hk
        case rel => exact ⟨i + 1, _, _, _, _, _, rfl, rfl, by first | rfl | rw [hwi], hgo, Nat.le_refl _, HDA, HRA, HSz, HBA, HPz, HQz⟩
      · have hlz : ¬ (i : Int) < (l.length : Int) := by omega
        go_wp2_with (go_at_call 39; refine (alike_calls HD.out HR.out HS.out.fs HS.out.dead).mono ?_; rintro e wA ⟨rfl, hbA⟩; have HBA := Aside0.mk (HB.out.trans (hbA.mono HB.out.size)); clear hbA)
        go_ret
        exact ⟨rfl, HBA.out⟩
end Go.Proofs.Ytihbgdobicokpaa.D
namespace Go.Proofs.Ytihbgdobicokpaa.X
open Go.RowKit Go.Maps Go.Proofs.YtihbgdobicokpaaW.PrintWords Go.Proofs.Ytihbgdobicokpaa.D
set_option linter.unusedVariables false
open Classical in
noncomputable def leatlaw2_DiskPlays.f (a0 : Int) (l1 : List S30) : Option Bool := if a0 ≤ 9223372036854775807 ∧ l1.length ≤ 140737488351232 ∧ Small l1 ∧ GoodL l1 ∧ GoodN l1 then some true else none
theorem leatlaw2_DiskPlays.calls (a0 : Int) (A1 : Option Addr) (c1 : Nat) (l1 : List S30) (r : Bool) (w : World) (hr1 : Kd.C k30 w A1 l1.length l1) (hc1 : l1.length ≤ c1) (h : leatlaw2_DiskPlays.f a0 l1 = some r) :
    Calls Try.prog 7 #[.int .i64 a0, .slice A1 l1.length c1] w fun e w' => e = .returned (.bool r) ∧ Below w.heap.size w w' := by
  unfold leatlaw2_DiskPlays.f at h
  split at h
  · rename_i hc
    cases h
    exact DiskPlays_calls hc.1 hr1 hc1 hc.2.1 hc.2.2.1 hc.2.2.2.1 hc.2.2.2.2
  · cases h
end Go.Proofs.Ytihbgdobicokpaa.X
