/- Proofs towards the laws of this seat, joined. No conditions beyond those typed. -/
import Derived.Test.YtihbgdobicokpaaDPr
import Derived.Test.YtihbgdobicokpaaB8
namespace Go.Proofs.Ytihbgdobicokpaa.D
open Go.RowKit Go.Maps Go.Proofs.Ytihbgdobicokpaa.X Go.Proofs.YtihbgdobicokpaaW.PrintWords Go.Proofs.YtihbgdobicokpaaW.PrintLast Go.Proofs.YtihbgdobicokpaaW.PrintMore
attribute [local go_sem] max2_int min2_int max_two min_two max_three min_three max_four min_four   -- for this text's walks alone
set_option linter.unusedVariables false
set_option linter.unusedSimpArgs false
theorem room_round {rm : Int} {di : Dk} {nm : ByteArray} {bs : List Int} (hI : Ok rm di) (hd : (di.fs.map Fl.n).Nodup) (hr : rm < 200) (hb : bs.length ≤ 50000) (hg : (got nm.data.toList di.fs).1.length ≤ 1048576) :
    ∃ was E f d' now E2 U1 U2 bF b1 b2, rdD di nm.data.toList = (was, E) ∧ wrD di nm.data.toList bs = (f, d') ∧ rdD d' nm.data.toList = (now, E2) ∧ Ok rm d' ∧ wrap64 ((total di.fs : Int) - (was.length : Int)) = U1 ∧ wrap64 (U1 + (bs.length : Int)) = U2 ∧
      decide (rm < U2) = bF ∧ decide ((0 : Int) < (nm.size : Int)) = b1 ∧ decide ((nm.size : Int) ≤ 32) = b2 ∧
      ((f = 21 ∧ d' = di ∧ now = was ∧ E2 = E ∧ bF = false) ∨ (f = 21 ∧ d' = di ∧ now = was ∧ E2 = E ∧ bF = true ∧ b1 = false) ∨ (f = 21 ∧ d' = di ∧ now = was ∧ E2 = E ∧ bF = true ∧ b1 = true ∧ b2 = false) ∨
       (f = 22 ∧ d' = di ∧ now = was ∧ E2 = E ∧ bF = true ∧ b1 = true ∧ b2 = true) ∨ (f = 0 ∧ bF = false)) := by
  have hw := rd_fst hI.dead nm.data.toList
  obtain ⟨was, E, hE⟩ : ∃ a b, rdD di nm.data.toList = (a, b) := ⟨_, _, rfl⟩
  rw [hE] at hw
  simp only at hw
  rw [← hw] at hg
  have hin := hI.in_
  have e1 : wrap64 ((total di.fs : Int) - (was.length : Int)) = (total di.fs : Int) - was.length := by unfold wrap64; omega
  have e2 : wrap64 ((total di.fs : Int) - was.length + (bs.length : Int)) = (total di.fs : Int) - was.length + bs.length := by unfold wrap64; omega
  have hsz : nm.data.toList.length = nm.size := rfl
  by_cases hn : nmOk nm.data.toList = true
  · have hn2 := hn
    unfold nmOk at hn2
    rw [hsz, Bool.and_eq_true, decide_eq_true_eq, decide_eq_true_eq] at hn2
    by_cases hf : rm < (total di.fs : Int) - was.length + bs.length
    · have h := wr_full hI hn (bs := bs) (by rw [← hw]; exact hf)
      exact ⟨was, E, 22, di, was, E, _, _, _, _, _, hE, h, hE, hI, e1, e2, rfl, rfl, rfl, Or.inr (Or.inr (Or.inr (Or.inl ⟨rfl, rfl, rfl, rfl, decide_eq_true hf, decide_eq_true (by omega), decide_eq_true (by omega)⟩)))⟩
    · obtain ⟨d', h, h2⟩ := wr_done hI hd hn (bs := bs) (by omega) (by rw [← hw]; exact hf)
      exact ⟨was, E, 0, d', _, _, _, _, _, _, _, hE, h, rfl, h2, e1, e2, rfl, rfl, rfl, Or.inr (Or.inr (Or.inr (Or.inr ⟨rfl, decide_eq_false hf⟩)))⟩
  · have hn' : nmOk nm.data.toList = false := by simpa using hn
    have h := wr_name hI hn' bs
    refine ⟨was, E, 21, di, was, E, _, _, _, _, _, hE, h, hE, hI, e1, e2, rfl, rfl, rfl, ?_⟩
    unfold nmOk at hn
    rw [hsz, Bool.and_eq_true, decide_eq_true_eq, decide_eq_true_eq] at hn
    by_cases hf : rm < (total di.fs : Int) - was.length + bs.length
    · by_cases h1 : 0 < nm.size
      · exact Or.inr (Or.inr (Or.inl ⟨rfl, rfl, rfl, rfl, decide_eq_true hf, decide_eq_true (by omega), decide_eq_false (by omega)⟩))
      · exact Or.inr (Or.inl ⟨rfl, rfl, rfl, rfl, decide_eq_true hf, decide_eq_false (by omega)⟩)
    · exact Or.inl ⟨rfl, rfl, rfl, rfl, decide_eq_false hf⟩
theorem IsB.fr2 {N : Nat} {w w' : World} {p b : Nat} {d : Dk} (h : IsD N w p b d) {v : Value} {xs : List Int} (hv : IsB w v xs) (hF : Fr (Two p b) w w') : IsB w' v xs := hv.fr hF h.two
set_option maxHeartbeats 8000000 in
set_option maxRecDepth 100000 in
theorem DiskRoom_calls {w : World} {A : Option Addr} {c : Nat} {l : List S30} {n : Int} (hC : Kd.C k30 w A l.length l) (hc : l.length ≤ c) (hl : l.length ≤ 140737488351232) (hs : Small l) (hg : GoodL l) :
  Calls Try.prog 4 #[.int .i64 n, .slice A l.length c] w fun e w' => e = .returned (.bool true) ∧ Below w.heap.size w w' := by
 obtain ⟨k, r, hr, hr2⟩ := light_f hl hs
 obtain ⟨rm, hn1, hn2, hn3⟩ := place_f n 200 (by omega) (by omega)
 have HC := Aside0.mk hC
 have HCc := Aside0.mk hc
 have HG := Aside0.mk hg
 have HR := Aside0.mk hr
 have HN1 := Aside0.mk hn1
 have HN := Aside0.mk (show 0 ≤ rm ∧ rm < 200 from ⟨hn2, hn3⟩)
 have HL3 : Aside0 (r = true → l.length ≤ 300 ∧ ∀ x ∈ l, x.f4.length ≤ 50000) := ⟨fun e => ⟨(hr2 e).1, fun x hx => wt_le (hr2 e).2 hx⟩⟩
 clear hC hc hl hs hg hr hn1 hn2 hn3 hr2
 go_enter Try.func4, Try.ntmps4
 go_wp2_with fail
 refine (known_calls w).mono ?_
 rintro e w1 ⟨rfl, hb1⟩
 have HB1 := Aside0.mk hb1
 clear hb1
 go_wp2_with fail
 refine (leatlaw2_light.calls k A c l r w1 (Kd.C_below HC.out HB1.out) HCc.out HR.out).mono ?_
 rintro e w2 ⟨rfl, hb2⟩
 have HB2 := Aside0.mk (below_drawn HB1.out hb2)
 clear hb2
 cases r with
 | false =>
  go_wp2_with fail
  go_ret
  exact ⟨rfl, HB2.out⟩
 | true =>
  have hL : l.length ≤ 300 ∧ ∀ x ∈ l, x.f4.length ≤ 50000 := by simpa using HL3.out
  have HL := Aside0.mk hL
  clear hL HL3
  go_wp2_with fail
  refine (leathelp_Place.calls n 200 rm w2 HN1.out).mono ?_
  rintro e w3 ⟨rfl, hb3⟩
  have HB3 := Aside0.mk (below_drawn HB2.out hb3)
  clear hb3
  go_wp2_with fail
  refine (New_calls w3 rm (by have := HN.out; omega)).mono ?_
  rintro e w4 ⟨p, b, rfl, hd4, hb4, hp, hb⟩
  have HD4 := Aside0.mk hd4
  have HB4 := Aside0.mk (HB3.out.trans (hb4.mono HB3.out.size))
  have HP := Aside0.mk ((Bh.mk hp hb).mono HB3.out.size)
  clear hd4 hb4 hp hb
  go_wp2_with fail
  go_loopg [6] (l.length) (fun kx s6 wr => ∃ (i : Nat) (di : Dk), s6 = .int .i64 (i : Int) ∧ i ≤ l.length ∧ l.length - i ≤ kx ∧ Aside0 (Ok rm di) ∧ Aside0 (IsD i wr p b di) ∧ Aside0 (Below w.heap.size w wr))
  case atStart => exact ⟨0, newD rm, rfl, Nat.zero_le _, by omega, ⟨new_ok HN.out.1⟩, HD4, HB4⟩
  case round =>
   obtain ⟨i, di, rfl, hi, hk, HI, HD, HB⟩ := hrel
   by_cases hgo : i < l.length
   ·have hlz : (i : Int) < (l.length : Int) := by omega
    have hl64 : l.length ≤ 300 := HL.out.1
    have hwi : wrap64 ((i : Int) + 1) = ((i + 1 : Nat) : Int) := by unfold wrap64; omega
    have HNI := Aside0.mk (show i < 1000000 from by omega)
    have HNI' := Aside0.mk (show i + 1 ≤ 1000000 from by omega)
    obtain ⟨ad, A4, c4, A5, c5, e1, k4, k5, hcells⟩ := step_cells HC.out hgo
    cases e1
    have hgx := HG.out l[i] (List.getElem_mem hgo)
    have hbs := HL.out.2 l[i] (List.getElem_mem hgo)
    generalize hx : l[i] = x at hcells k4 k5 hgx hbs
    clear hx hl64
    obtain ⟨x0, x1, nm, tm, bs, ks⟩ := x
    simp only at hcells k4 k5 hgx hbs
    obtain ⟨hnm, htm⟩ := hgx
    have HNM := Aside0.mk hnm
    have HBS := Aside0.mk hbs
    obtain ⟨g0, g1, g2, g3, g4, g5⟩ := hcells wr HB.out
    clear hcells htm hnm hbs
    have HC4 := Aside0.mk k4
    clear k4 k5
    have HBA := Aside0.mk (HB.out.alloc HB.out.size (.cells #[.int .i64 x0, .int .i64 x1, .string nm, .string tm, .slice A4 bs.length c4, .slice A5 ks.length c5] 30))
    have HDA := Aside0.mk (HD.out.below ((Below.refl wr.heap.size wr).alloc (Nat.le_refl _) (.cells #[.int .i64 x0, .int .i64 x1, .string nm, .string tm, .slice A4 bs.length c4, .slice A5 ks.length c5] 30)))
    have HBK := Aside0.mk (heap_alloc_new wr (.cells #[.int .i64 x0, .int .i64 x1, .string nm, .string tm, .slice A4 bs.length c4, .slice A5 ks.length c5] 30))
    have HNE := Aside0.mk (show ¬ Two p b wr.heap.size from by rintro (e | e); (have := HD.out.lt; omega); (have := HD.out.ltb; omega))
    obtain ⟨was, E, f, d', now, E2, U1, U2, bF, b1, b2, hE, hW, hE2, hI', hU1, hU2, hF, h1, h2, hcase⟩ := room_round (nm := nm) HI.out HD.out.nodup HN.out.2 HBS.out (HD.out.got_len _)
    have HE := Aside0.mk hE
    have HW := Aside0.mk hW
    have HE2 := Aside0.mk hE2
    have HI' := Aside0.mk hI'
    have HWL := Aside0.mk (show was.length ≤ 1048576 from by have := HD.out.got_len nm.data.toList; have e := rd_fst HI.out.dead nm.data.toList; rw [hE] at e; simp only at e; rw [e]; exact this)
    clear hE hW hE2 hI' HBS
    by_cases c012 : x0 = 0 ∨ x0 = 1 ∨ x0 = 2
    ·rcases c012 with rfl | rfl | rfl
     all_goals (
       go_wp2_with fail
       refine (Read_is HDA.out HNM.out HE.out).mono ?_
       clear g0 g1 g2 g3 g4 g5 HD HB
       rintro e w5 ⟨v5, rfl, ho5, hb5⟩
       have hB5 := IsB.of_own ho5 rfl (by have := HWL.out; omega)
       obtain ⟨B5, k5, rfl⟩ := hB5.agg
       have HD5 := Aside0.mk (HDA.out.below hb5)
       have HB5 := Aside0.mk (HBA.out.trans (hb5.mono HBA.out.size))
       have HV5 := Aside0.mk hB5
       have HK5 := Aside0.mk ((hb5.block wr.heap.size (by simp)).trans HBK.out)
       clear hb5 ho5 hB5 HDA HBA HBK
       go_wp2_with fail
       refine (Used_calls HD5.out).mono ?_
       rintro e w6 ⟨rfl, hb6⟩
       have HD6 := Aside0.mk (HD5.out.below hb6)
       have HB6 := Aside0.mk (HB5.out.trans (hb6.mono HB5.out.size))
       have HV6 := Aside0.mk (HV5.out.below hb6)
       have hk6 := (hb6.block wr.heap.size (lt_of_block HK5.out)).trans HK5.out
       have HK6 := Aside0.mk hk6
       have q2 := (blk_cell hk6 2).trans rfl
       have q4 := (blk_cell hk6 4).trans rfl
       clear hb6 hk6 HD5 HB5 HV5 HK5
       go_wp2_with fail
       refine (Write_is HD6.out HNI.out HNM.out (Kd.C_below HC4.out HB6.out) HW.out).mono ?_
       rintro e w7 ⟨rfl, hd7, hf7⟩
       have HD7 := Aside0.mk hd7
       have HB7 := Aside0.mk (Fr.base' HB6.out HP.out hf7)
       have HV7 := Aside0.mk (IsB.fr2 HD6.out HV6.out hf7)
       have hk7 := (hf7.block wr.heap.size (lt_of_block HK6.out) HNE.out).trans HK6.out
       have HK7 := Aside0.mk hk7
       have p2 := (blk_cell hk7 2).trans rfl
       have p4 := (blk_cell hk7 4).trans rfl
       clear hd7 hf7 hk7 q2 q4 HD6 HB6 HV6 HK6
       go_wp2_with fail
       refine (Read_is HD7.out HNM.out HE2.out).mono ?_
       rintro e w8 ⟨v8, rfl, ho8, hb8⟩
       have hB8 := IsB.of_own ho8 rfl (by have := HD7.out.got_len nm.data.toList; have e := rd_fst HI'.out.dead nm.data.toList; rw [HE2.out] at e; simp only at e; rw [e]; omega)
       obtain ⟨B8, k8, rfl⟩ := hB8.agg
       have HD8 := Aside0.mk (HD7.out.below hb8)
       have HB8 := Aside0.mk (HB7.out.trans (hb8.mono HB7.out.size))
       have HV8 := Aside0.mk (HV7.out.below hb8)
       have HW8 := Aside0.mk hB8
       have hk8 := (hb8.block wr.heap.size (lt_of_block HK7.out)).trans HK7.out
       have HK8 := Aside0.mk hk8
       have q2 := (blk_cell hk8 2).trans rfl
       have q4 := (blk_cell hk8 4).trans rfl
       clear hb8 ho8 hB8 hk8 p2 p4 HD7 HB7 HV7 HK7
       have hin : ¬ rm < (total d'.fs : Int) := by have := HI'.out.in_; omega
       have h1n : decide (0 < nm.size) = b1 := by rw [← h1]; simp
       have h2n : decide (nm.size ≤ 32) = b2 := by rw [← h2]; simp; omega
       rcases hcase with ⟨rfl, rfl, rfl, rfl, rfl⟩ | ⟨rfl, rfl, rfl, rfl, rfl, rfl⟩ | ⟨rfl, rfl, rfl, rfl, rfl, rfl, rfl⟩ | ⟨rfl, rfl, rfl, rfl, rfl, rfl, rfl⟩ | ⟨rfl, rfl⟩
       all_goals (
        go_wp2_with (first
         | (go_at_call 16; refine (Bytes_calls HV8.out HW8.out).mono ?_; rintro e w9 ⟨rfl, hdr9⟩; rw [decide_eq_true rfl]; have HD9 := Aside0.mk (HD8.out.drawn hdr9); have HB9 := Aside0.mk (below_drawn HB8.out hdr9); clear hdr9 HV8 HW8)
         | (go_at_call 19; refine (Used_calls HD10.out).mono ?_; rintro e wF ⟨rfl, hbF⟩; have HDF := Aside0.mk (HD10.out.below hbF); have HBF := Aside0.mk (HB10.out.trans (hbF.mono HB10.out.size)); clear hbF)
         | (go_at_call 19; refine (Used_calls HD9.out).mono ?_; rintro e w10 ⟨rfl, hb10⟩; have HD10 := Aside0.mk (HD9.out.below hb10); have HB10 := Aside0.mk (HB9.out.trans (hb10.mono HB9.out.size)); clear hb10 HD9 HB9)
         | (go_at_call 19; refine (Used_calls HD8.out).mono ?_; rintro e wF ⟨rfl, hbF⟩; have HDF := Aside0.mk (HD8.out.below hbF); have HBF := Aside0.mk (HB8.out.trans (hbF.mono HB8.out.size)); clear hbF)
         | fail)
        go_roundg (l.length - (i + 1))
        case measure => omega
        case rel => exact ⟨i + 1, _, by first | rfl | rw [hwi], by omega, Nat.le_refl _, HI', HDF, HBF⟩))
    ·have n0 : (x0 == 0) = false := by simp; omega
     have n1 : (x0 == 1) = false := by simp; omega
     have n2 : (x0 == 2) = false := by simp; omega
     clear hcase hU1 hU2 hF h1 h2 HE HW HE2 HI' HWL c012
     by_cases c5 : x0 = 5
     ·subst c5
      have HOK := Aside0.mk (del_ok HI.out HD.out.nodup nm.data.toList)
      have hin : ¬ rm < (total (delD di nm.data.toList).2.fs : Int) := by have := HOK.out.in_; omega
      clear HD HB
      go_wp2_with (first
       | (go_at_call 20; refine (Delete_calls HDA.out HNM.out).mono ?_; rintro e w6 ⟨rfl, hd6, hf6⟩; have HD6 := Aside0.mk (show IsD (i + 1) w6 p b (delD di nm.data.toList).2 from hd6.mono (by omega) HNI'.out); have HB6 := Aside0.mk (Fr.base' HBA.out HP.out hf6); clear hd6 hf6 HBA HDA)
       | (go_at_call 19; refine (Used_calls HD6.out).mono ?_; rintro e wF ⟨rfl, hbF⟩; have HDF := Aside0.mk (HD6.out.below hbF); have HBF := Aside0.mk (HB6.out.trans (hbF.mono HB6.out.size)); clear hbF)
       | fail)
      go_roundg (l.length - (i + 1))
      case measure => omega
      case rel => exact ⟨i + 1, _, by first | rfl | rw [hwi], by omega, Nat.le_refl _, HOK, HDF, HBF⟩
     ·have n5 : (x0 == 5) = false := by simpa using c5
      have hin : ¬ rm < (total di.fs : Int) := by have := HI.out.in_; omega
      clear HD HB c5
      go_wp2_with (first
       | (go_at_call 19; refine (Used_calls HDA.out).mono ?_; rintro e wF ⟨rfl, hbF⟩; have HDF := Aside0.mk (HDA.out.below hbF); have HBF := Aside0.mk (HBA.out.trans (hbF.mono HBA.out.size)); clear hbF)
       | fail)
      go_roundg (l.length - (i + 1))
      case measure => omega
      case rel => exact ⟨i + 1, _, by first | rfl | rw [hwi], by omega, Nat.le_refl _, HI, ⟨HDF.out.mono (by omega) HNI'.out⟩, HBF⟩
   ·have hlz : ¬ (i : Int) < (l.length : Int) := by omega
    go_wp2
    go_ret
    exact ⟨rfl, HB.out⟩
end Go.Proofs.Ytihbgdobicokpaa.D
namespace Go.Proofs.Ytihbgdobicokpaa.X
open Go.RowKit Go.Maps Go.Proofs.YtihbgdobicokpaaW.PrintWords Go.Proofs.Ytihbgdobicokpaa.D
set_option linter.unusedVariables false
open Classical in
noncomputable def leatlaw2_DiskRoom.f (a0 : Int) (l1 : List S30) : Option Bool := if l1.length ≤ 140737488351232 ∧ Small l1 ∧ GoodL l1 then some true else none
theorem leatlaw2_DiskRoom.calls (a0 : Int) (A1 : Option Addr) (c1 : Nat) (l1 : List S30) (r : Bool) (w : World) (hr1 : Kd.C k30 w A1 l1.length l1) (hc1 : l1.length ≤ c1) (h : leatlaw2_DiskRoom.f a0 l1 = some r) :
  Calls Try.prog 4 #[.int .i64 a0, .slice A1 l1.length c1] w fun e w' => e = .returned (.bool r) ∧ Below w.heap.size w w' := by
 unfold leatlaw2_DiskRoom.f at h
 split at h
 ·rename_i hc
  cases h
  exact DiskRoom_calls hr1 hc1 hc.1 hc.2.1 hc.2.2
 ·cases h
end Go.Proofs.Ytihbgdobicokpaa.X
