/- Proofs towards the law WindowFires, joined into one text. No conditions beyond those typed. -/
import Derived.Test.YtdinbnbogdadgaaMWindowFires10
import Derived.Test.YtdinbnbogdadgaaMWindowFires13
import Derived.Test.YtdinbnbogdadgaaMWindowFires15
namespace Go.Proofs.Ytdinbnbogdadgaa.X
open Go.RowKit Go.Proofs.YtdinbnbogdadgaaW.PrintWords Go.Proofs.YtdinbnbogdadgaaW.PrintLast Go.Proofs.YtdinbnbogdadgaaW.PrintMore
attribute [local go_sem] max2_int min2_int max_two min_two max_three min_three max_four min_four   -- for this text's walks alone
set_option linter.unusedVariables false
set_option linter.unusedSimpArgs false
mutual
def leatlaw11_WindowFires.j0 : Nat -> List (S46) -> List Int -> Bool -> Option (Bool)
 | 0, _, _, _ => none
 | k + 1, x0, x1, x25 => if x25 = true then (some true) else (leatlaw11_WindowFires.l0 k x0 x1 ([] : List (S37)) x0 (-9223372036854775808) 0)
def leatlaw11_WindowFires.l0 : Nat -> List (S46) -> List Int -> List (S37) -> List (S46) -> Int -> Int -> Option (Bool)
 | 0, _, _, _, _, _, _ => none
 | k + 1, x0, x1, x5, x6, x7, x8 => if x8 < (x1.length : Int) then (if 0 <= x8 then ((window_Fire.f k x6 (rd x1 x8)).bind fun bt195 => (if x5.length + bt195.1.length < 5864062014805 then (leatlaw11_WindowFires.l0 k x0 x1 (x5 ++ bt195.1) bt195.2 (mx x7 (rd x1 x8)) (wrap64 (x8 + 1))) else (none))) else (none)) else ((window_Fire.f k x0 x7).bind fun bt205 => (if (x1.length : Int) = 0 then (if (bt205.1.length : Int) = 0 then (some ((bt205.2.length : Int) == (x0.length : Int))) else (some false)) else (if (x5.length : Int) = (bt205.1.length : Int) then ((window_Sort.f x6).bind fun t211 => ((leathelp_Panes.f k bt205.2 t211).bind fun t214 => (leatlaw11_WindowFires.j2 k x5 x7 bt205.1 bt205.2 (!t214)))) else (leatlaw11_WindowFires.j2 k x5 x7 bt205.1 bt205.2 true))))
def leatlaw11_WindowFires.j2 : Nat -> List (S37) -> Int -> List (S37) -> List (S46) -> Bool -> Option (Bool)
 | 0, _, _, _, _, _ => none
 | k + 1, x5, x7, x11, x12, x82 => if x82 = true then (some false) else (leatlaw11_WindowFires.l1 k x5 x7 x11 x12 0 0)
def leatlaw11_WindowFires.l1 : Nat -> List (S37) -> Int -> List (S37) -> List (S46) -> Int -> Int -> Option (Bool)
 | 0, _, _, _, _, _, _ => none
 | k + 1, x5, x7, x11, x12, x13, x14 => if x14 < (x11.length : Int) then (if 0 <= x14 then (if x14 < (x5.length : Int) then (if ((rd_T37 x5 x14).f1) > x7 then (some false) else (leatlaw11_WindowFires.l1 k x5 x7 x11 x12 (wrap64 ((wrap64 ((wrap64 ((wrap64 ((wrap64 ((wrap64 (x13 + (wrap64 (((rd_T37 x11 x14).f2) * 7)))) + (wrap64 (((rd_T37 x11 x14).f1) * 3)))) + ((rd_T37 x11 x14).f0))) - (wrap64 (((rd_T37 x5 x14).f2) * 7)))) - (wrap64 (((rd_T37 x5 x14).f1) * 3)))) - ((rd_T37 x5 x14).f0))) (wrap64 (x14 + 1)))) else (none)) else (none)) else (leatlaw11_WindowFires.l2 k x7 x12 x13 0)
def leatlaw11_WindowFires.l2 : Nat -> Int -> List (S46) -> Int -> Int -> Option (Bool)
 | 0, _, _, _, _ => none
 | k + 1, x7, x12, x13, x15 => if x15 < (x12.length : Int) then (if 0 <= x15 then (if (wrap64 (((rd_T46 x12 x15).f1.f1) - 1)) <= x7 then (some false) else (leatlaw11_WindowFires.l2 k x7 x12 x13 (wrap64 (x15 + 1)))) else (none)) else (some (x13 == 0))
end
def leatlaw11_WindowFires.f (k : Nat) (l0 : List (S46)) (l1 : List Int) : Option (Bool) := (leatlaw11_known.f k).bind fun t192 => (if t192 = true then ((leatlaw11_panes.f k l0).bind fun t193 => (if t193 = true then (leatlaw11_WindowFires.j0 k l0 l1 (decide ((l1.length : Int) > 40))) else (leatlaw11_WindowFires.j0 k l0 l1 true))) else (some false))
def leatlaw11_WindowFires.T12 : Bool × List (List Nat × List Nat) := (true, [([], []), ([], []), ([0, 1], [0, 1]), ([], []), ([], []), ([], []), ([], []), ([5, 6], [5, 6]), ([7], [7]), ([4, 8], [4, 8]), ([2, 2, 0, 1, 2], [0, 2]), ([3, 10, 0, 1, 2, 3, 10], [3]), ([9, 11, 0, 1, 2, 3, 4, 5, 6, 7, 8, 9, 10, 11], [4, 9])])
def leatlaw11_WindowFires.B12 : List Nat := [0, 0, 3, 0, 0, 0, 0, 96, 224, 496, 7, 1039, 4095]
theorem leatlaw11_WindowFires.tab12 : rtab .any (opsOf Try.f7 12) = leatlaw11_WindowFires.T12 := by kernel_rfl
theorem leatlaw11_WindowFires.bits12 : waitsOk leatlaw11_WindowFires.T12.2 leatlaw11_WindowFires.B12 = true := by kernel_rfl
def leatlaw11_WindowFires.T22 : Bool × List (List Nat × List Nat) := (true, [([], []), ([], []), ([], []), ([1, 2], [1, 2]), ([3], [3]), ([4], [4]), ([5], [5]), ([0, 6], [0, 6]), ([], []), ([], []), ([8, 9], [8, 9]), ([10], [10]), ([11], [11]), ([12], [12]), ([7, 13], [7, 13]), ([], []), ([], []), ([15, 16], [15, 16]), ([17], [17]), ([18], [18]), ([14, 19], [14, 19]), ([20, 0, 1, 2, 3, 4, 5, 6, 7, 8, 9, 10, 11, 12, 13, 14, 15, 16, 17, 18, 19, 20], [0, 20])])
def leatlaw11_WindowFires.B22 : List Nat := [0, 0, 0, 6, 14, 30, 62, 127, 0, 0, 768, 1792, 3840, 7936, 16383, 0, 0, 98304, 229376, 491520, 1048575, 2097151]
theorem leatlaw11_WindowFires.tab22 : rtab .any (opsOf Try.f7 22) = leatlaw11_WindowFires.T22 := by kernel_rfl
theorem leatlaw11_WindowFires.bits22 : waitsOk leatlaw11_WindowFires.T22.2 leatlaw11_WindowFires.B22 = true := by kernel_rfl
def leatlaw11_WindowFires.T23 : Bool × List (List Nat × List Nat) := (true, [([], []), ([], []), ([], []), ([1, 2], [1, 2]), ([3], [3]), ([4], [4]), ([5], [5]), ([0, 6], [0, 6]), ([], []), ([], []), ([8, 9], [8, 9]), ([10], [10]), ([11], [11]), ([12], [12]), ([7, 13], [7, 13]), ([], []), ([], []), ([15, 16], [15, 16]), ([17], [17]), ([18], [18]), ([14, 19], [14, 19]), ([20, 0, 1, 2, 3, 4, 5, 6, 7, 8, 9, 10, 11, 12, 13, 14, 15, 16, 17, 18, 19, 20], [0, 20])])
def leatlaw11_WindowFires.B23 : List Nat := [0, 0, 0, 6, 14, 30, 62, 127, 0, 0, 768, 1792, 3840, 7936, 16383, 0, 0, 98304, 229376, 491520, 1048575, 2097151]
theorem leatlaw11_WindowFires.tab23 : rtab .any (opsOf Try.f7 23) = leatlaw11_WindowFires.T23 := by kernel_rfl
theorem leatlaw11_WindowFires.bits23 : waitsOk leatlaw11_WindowFires.T23.2 leatlaw11_WindowFires.B23 = true := by kernel_rfl
set_option maxHeartbeats 8000000 in
set_option maxRecDepth 100000 in
theorem leatlaw11_WindowFires.calls (k : Nat) (P0_ : Nat -> Prop) (A0 : Option Addr) (c0 : Nat) (l0 : List (S46)) (A1 : Option Addr) (c1 : Nat) (l1 : List Int) (r : Bool) (w : World) (hs0 : Kd.V k46 46 w w.heap.size (fun k_ => P0_ k_) (.slice A0 l0.length c0) l0) (hr1 : Kd.C (Kd.int .i64) w A1 l1.length l1) (hc1 : l1.length <= c1) (h : leatlaw11_WindowFires.f k l0 l1 = some r) :
  Calls Try.prog 7 #[.slice A0 l0.length c0, .slice A1 l1.length c1] w fun e w' => e = .returned (.bool r) /\ Below w.heap.size w w' := by
 have HO0 := zd (show Kd.V k46 46 w w.heap.size (fun k_ => (P0_ k_ ∨ w.heap.size <= k_)) (.slice A0 l0.length c0) l0 from Kd.V_mono hs0 (fun k_ hk => .inl hk))
 have HR1 := zd hr1
 have HC1 := zd hc1
 clear hr1 hc1
 have HB := zd (Below.refl w.heap.size w)
 have H : ((leatlaw11_known.f k).bind fun t192 => (if t192 = true then ((leatlaw11_panes.f k l0).bind fun t193 => (if t193 = true then (leatlaw11_WindowFires.j0 k l0 l1 (decide ((l1.length : Int) > 40))) else (leatlaw11_WindowFires.j0 k l0 l1 true))) else (some false))) = some r := h
 clear h
 replace H := Option.bind_eq_some_iff.mp H
 obtain ⟨t192, A30, H⟩ := H
 replace H : (if t192 = true then ((leatlaw11_panes.f k l0).bind fun t193 => (if t193 = true then (leatlaw11_WindowFires.j0 k l0 l1 (decide ((l1.length : Int) > 40))) else (leatlaw11_WindowFires.j0 k l0 l1 true))) else (some false)) = some r := H
 have A3 := zd A30
 clear A30
 by_cases c4 : t192 = true
 ·subst c4
  have H1 : ((leatlaw11_panes.f k l0).bind fun t193 => (if t193 = true then (leatlaw11_WindowFires.j0 k l0 l1 (decide ((l1.length : Int) > 40))) else (leatlaw11_WindowFires.j0 k l0 l1 true))) = some r := by rw [if_pos rfl] at H; exact H
  clear H
  have H := H1
  clear H1
  have HC5 := zd H
  clear H
  go_enter Try.func7, Try.ntmps7
  go_upto_region 3 with (first | ((with_reducible refine gate_callee (f := 12) rfl ?_); refine goesL_ (some 16) rfl rfl Try.func12 (by kernel_rfl) rfl #[] rfl (by (try simp only [List.map_toArray, List.map_cons, List.map_nil]); first | done | rfl | (simp only [List.length_drop, List.length_take]; rfl)) ?_; (with_reducible refine (leatlaw11_known.calls k  true _ A3.out).mono ?_); rintro e w6 ⟨rfl, hb⟩; refine ⟨_, rfl, ?_⟩; have n0_ := zd (Kd.V_below (by (with_reducible repeat (first | apply Kd.V_alloc | apply Kd.V_drewN | apply Kd.V_drew)); exact HO0.out) hb); have n1_ := zd (zs (by repeat (first | (with_reducible first | exact HB.out | apply zh | apply zi | apply zj) | exact HB.out)) hb); clear HO0; clear HB; have HO0 := n0_; have HB := n1_; clear n0_ n1_; (try clear hb); (try clear hb2); (try clear hk); (try clear hi)))
  (try simp only [Act.put, za, zb, zc])
  go_cut [25] (fun v25 wc => ∃ (kq : Nat) (x25_4 : Bool), v25 = .bool x25_4 /\ Aside0 (leatlaw11_WindowFires.j0 kq l0 l1 x25_4 = some r) /\ Aside0 (kq <= k) /\ Aside0 (Kd.V k46 46 wc w.heap.size (fun k_ => (P0_ k_ ∨ w.heap.size <= k_)) (.slice A0 l0.length c0) l0) /\ Aside0 (Below w.heap.size w wc))
  case first =>
   have H := HC5.out
   clear HC5
   replace H := Option.bind_eq_some_iff.mp H
   obtain ⟨t193, A70, H⟩ := H
   replace H : (if t193 = true then (leatlaw11_WindowFires.j0 k l0 l1 (decide ((l1.length : Int) > 40))) else (leatlaw11_WindowFires.j0 k l0 l1 true)) = some r := H
   have A7 := zd A70
   clear A70
   by_cases c8 : t193 = true
   ·subst c8
    have H1 : (leatlaw11_WindowFires.j0 k l0 l1 (decide ((l1.length : Int) > 40))) = some r := by rw [if_pos rfl] at H; exact H
    clear H
    have H := H1
    clear H1
    have H' := zd H
    clear H
    go_wp2_with (first | ((with_reducible refine gate_callee (f := 25) rfl ?_); refine goesL_ (some 19) rfl rfl Try.func25 (by kernel_rfl) rfl #[.slice A0 l0.length c0] rfl (by (try simp only [List.map_toArray, List.map_cons, List.map_nil]); first | done | rfl | (simp only [List.length_drop, List.length_take]; rfl)) ?_; (with_reducible refine (leatlaw11_panes.calls k _ _ l0 true _ ?side1 ?side2 A7.out).mono ?_); (case side1 => repeat (first | exact (Kd.V_reads' HO0.out).2.2 | (with_reducible refine Kd.C_alloc ?_ _) | (with_reducible refine Kd.C_drewN ?_ _) | (with_reducible refine Kd.C_drew ?_))); (case side2 => exact (Kd.V_reads' HO0.out).2.1); rintro e w9 ⟨rfl, hb⟩; refine ⟨_, rfl, ?_⟩; have n0_ := zd (Kd.V_below (by (with_reducible repeat (first | apply Kd.V_alloc | apply Kd.V_drewN | apply Kd.V_drew)); exact HO0.out) hb); have n1_ := zd (zs (by repeat (first | (with_reducible first | exact HB.out | apply zh | apply zi | apply zj) | exact HB.out)) hb); clear HO0; clear HB; have HO0 := n0_; have HB := n1_; clear n0_ n1_; (try clear hb); (try clear hb2); (try clear hk); (try clear hi)))
    go_meet
    case rel => exact ⟨_, (decide ((l1.length : Int) > 40)), (by first | rfl | (simp; done) | (simp [*]; done)), H', ⟨by first | omega | exact Nat.le_refl _⟩, ⟨by (with_reducible repeat (first | apply Kd.V_alloc | apply Kd.V_drewN | apply Kd.V_drew)); exact HO0.out⟩, ⟨by repeat (first | (with_reducible first | exact HB.out | apply zh | apply zi | apply zj) | exact HB.out)⟩⟩
   ·replace c8 := Bool.eq_false_iff.mpr c8
    subst c8
    have H1 : (leatlaw11_WindowFires.j0 k l0 l1 true) = some r := by rw [if_neg (show ¬ (false = true) by decide)] at H; exact H
    clear H
    have H := H1
    clear H1
    have H' := zd H
    clear H
    go_wp2_with (first | ((with_reducible refine gate_callee (f := 25) rfl ?_); refine goesL_ (some 19) rfl rfl Try.func25 (by kernel_rfl) rfl #[.slice A0 l0.length c0] rfl (by (try simp only [List.map_toArray, List.map_cons, List.map_nil]); first | done | rfl | (simp only [List.length_drop, List.length_take]; rfl)) ?_; (with_reducible refine (leatlaw11_panes.calls k _ _ l0 false _ ?side1 ?side2 A7.out).mono ?_); (case side1 => repeat (first | exact (Kd.V_reads' HO0.out).2.2 | (with_reducible refine Kd.C_alloc ?_ _) | (with_reducible refine Kd.C_drewN ?_ _) | (with_reducible refine Kd.C_drew ?_))); (case side2 => exact (Kd.V_reads' HO0.out).2.1); rintro e w10 ⟨rfl, hb⟩; refine ⟨_, rfl, ?_⟩; have n0_ := zd (Kd.V_below (by (with_reducible repeat (first | apply Kd.V_alloc | apply Kd.V_drewN | apply Kd.V_drew)); exact HO0.out) hb); have n1_ := zd (zs (by repeat (first | (with_reducible first | exact HB.out | apply zh | apply zi | apply zj) | exact HB.out)) hb); clear HO0; clear HB; have HO0 := n0_; have HB := n1_; clear n0_ n1_; (try clear hb); (try clear hb2); (try clear hk); (try clear hi)))
    go_meet
    case rel => exact ⟨_, (true), (by first | rfl | (simp; done) | (simp [*]; done)), H', ⟨by first | omega | exact Nat.le_refl _⟩, ⟨by (with_reducible repeat (first | apply Kd.V_alloc | apply Kd.V_drewN | apply Kd.V_drew)); exact HO0.out⟩, ⟨by repeat (first | (with_reducible first | exact HB.out | apply zh | apply zi | apply zj) | exact HB.out)⟩⟩
  case rest =>
   clear HC5
   try clear c1; try clear c2; try clear p2; try clear c4; try clear c7; try clear c8
   obtain ⟨kq, x25_4, rfl, HA, HJ4, HO_0, HB⟩ := hcut
   cases kq with
   | zero => exact absurd HA.out (by simp [leatlaw11_WindowFires.j0])
   | succ kj4 =>
    have H := HA.out
    clear HA
    simp only [leatlaw11_WindowFires.j0] at H
    by_cases c11 : x25_4 = true
    ·subst c11
     have H1 : (some true) = some r := by rw [if_pos rfl] at H; exact H
     clear H
     have H := H1
     clear H1
     obtain rfl := Option.some.inj H
     go_wp2
     go_ret
     exact ⟨by first | rfl | (simp [errW_none, errW_some] <;> rfl) | (simp [*, errW_none, errW_some] <;> rfl), by repeat (first | (with_reducible first | exact HB.out | apply zh | apply zi | apply zj) | exact HB.out)⟩
    ·replace c11 := Bool.eq_false_iff.mpr c11
     subst c11
     have H1 : (leatlaw11_WindowFires.l0 kj4 l0 l1 ([] : List (S37)) l0 (-9223372036854775808) 0) = some r := by rw [if_neg (show ¬ (false = true) by decide)] at H; exact H
     clear H
     have H := H1
     clear H1
     have H' := zd H
     clear H
     go_wp2
     go_loopg [5, 6, 7, 8] kj4 (fun kq v5 v6 v7 v8 w' => ∃ (x5_2 : List (S37)) (x6_2 : List (S46)) (x7_2 : Int) (x8_2 : Int), v7 = .int .i64 x7_2 /\ v8 = .int .i64 x8_2 /\ Aside0 (leatlaw11_WindowFires.l0 kq l0 l1 x5_2 x6_2 x7_2 x8_2 = some r) /\ Aside0 (kq <= kj4) /\ Aside0 (Kd.V k46 46 w' w.heap.size (fun k_ => (P0_ k_ ∨ w.heap.size <= k_) /\ some k_ ≠ (v5 : Value).ownBlock) (.slice A0 l0.length c0) l0) /\ Aside0 (Kd.R k37 37 w' w.heap.size (fun k_ => (w.heap.size <= k_)) v5 x5_2) /\ Aside0 (Kd.V k46 46 w' w.heap.size (fun k_ => (P0_ k_ ∨ w.heap.size <= k_) /\ some k_ ≠ (v5 : Value).ownBlock) v6 x6_2) /\ Aside0 (Below w.heap.size w w'))
     case atStart => exact ⟨(([] : List (S37))), (l0), ((-9223372036854775808)), (0), (by first | rfl | (simp; done) | (simp [*]; done)), (by first | rfl | (simp; done) | (simp [*]; done)), H', ⟨Nat.le_refl _⟩, ⟨by (with_reducible repeat (first | apply Kd.V_alloc | apply Kd.V_drewN | apply Kd.V_drew)); exact Kd.V_mono HO_0.out (fun _ hk => ⟨hk, (by simp [Value.ownBlock])⟩)⟩, ⟨by first | exact Kd.R_nil _ _ _ _ _ | exact Kd.N_nil _ _ _ _ _ | exact Kd.V_nil _ _ _ _ _ | exact Kd.Q_nil _ _ _ _ _ | exact Kd.S_nil _ _ _ _ _⟩, ⟨by (with_reducible repeat (first | apply Kd.V_alloc | apply Kd.V_drewN | apply Kd.V_drew)); exact Kd.V_mono HO_0.out (fun _ hk => ⟨hk, (by simp [Value.ownBlock])⟩)⟩, ⟨by repeat (first | (with_reducible first | exact HB.out | apply zh | apply zi | apply zj) | exact HB.out)⟩⟩
     case round =>
      clear H'
      try clear c1; try clear c2; try clear p2; try clear c4; try clear c7; try clear c8; try clear c11; try clear p2
      obtain ⟨x5_2, x6_2, x7_2, x8_2, rfl, rfl, HA, HK2, HO_0, HO_5, HO_6, HB⟩ := hrel
      cases gk with
      | zero => exact absurd HA.out (by simp [leatlaw11_WindowFires.l0])
      | succ k2 =>
       have H := HA.out
       clear HA
       simp only [leatlaw11_WindowFires.l0] at H
       by_cases c12 : x8_2 < (l1.length : Int)
       ·rw [if_pos c12] at H
        have c12b0 : decide (x8_2 < (l1.length : Int)) = true := decide_eq_true c12
        clear c12
        by_cases c13 : 0 <= x8_2
        ·rw [if_pos c13] at H
         have c13b0 : decide (0 <= x8_2) = true := decide_eq_true c13
         clear c13
         replace H := Option.bind_eq_some_iff.mp H
         obtain ⟨⟨t195, t196⟩, A140, H⟩ := H
         replace H : (if x5_2.length + t195.length < 5864062014805 then (leatlaw11_WindowFires.l0 k2 l0 l1 (x5_2 ++ t195) t196 (mx x7_2 (rd l1 x8_2)) (wrap64 (x8_2 + 1))) else (none)) = some r := H
         have A14 := zd A140
         clear A140
         by_cases c15 : x5_2.length + t195.length < 5864062014805
         ·rw [if_pos c15] at H
          have LMc15 := zd c15
          clear c15
          obtain ⟨y201, hy201⟩ : ∃ y_ : List (S37), y_ = (x5_2 ++ t195) := ⟨_, rfl⟩
          replace H : (leatlaw11_WindowFires.l0 k2 l0 l1 y201 t196 (mx x7_2 (rd l1 x8_2)) (wrap64 (x8_2 + 1))) = some r := by first | (rw [hy201]; with_reducible exact H) | (have H2_ := (Option.bind_some _ _).symm.trans H; rw [hy201]; with_reducible exact H2_) | (have H2_ := (Option.bind_some _ _).symm.trans H; with_reducible exact H2_) | with_reducible exact H | (rw [hy201]; exact H) | exact H
          have Ny201 := zd hy201
          clear hy201
          obtain ⟨ji16, hji16⟩ : ∃ j_ : Int, (mx x7_2 (rd l1 x8_2)) = j_ := ⟨_, rfl⟩
          replace H : (leatlaw11_WindowFires.l0 k2 l0 l1 y201 t196 ji16 (wrap64 (x8_2 + 1))) = some r := by first | (rw [hji16] at H; exact H) | (simp only [hji16] at H ⊢; exact H)
          (try rw [hji16] at A14)
          have hji16_ : (if x7_2 < (rd l1 x8_2) then (rd l1 x8_2) else x7_2) = ji16 := hji16
          have H' := zd H
          clear H
          have p194 : 0 <= (x8_2 : Int) := of_decide_eq_true (by first | (with_reducible assumption) | assumption)
          have q194 : x8_2 < (l1.length : Int) := of_decide_eq_true (by first | (with_reducible assumption) | assumption)
          obtain ⟨ad194, e194, hx194_0⟩ := Kd.at_int HR1.out x8_2 p194 q194
          cases e194
          replace hx194_0 := (HB.out.cell (World.block_lt_of_cell? w _ hx194_0)).trans hx194_0
          replace p194 := eq_true p194
          replace q194 := eq_true q194
          obtain ⟨Ao17, co17, eo17⟩ := Kd.V_slice HO_6.out
          subst eo17
          try go_wp2_with (first | ((with_reducible refine gate_callee (f := 21) rfl ?_); refine goesL_ (some 39) rfl rfl Try.func21 (by kernel_rfl) rfl #[.slice Ao17 x6_2.length co17, .int .i64 (rd l1 x8_2)] rfl (by (try simp only [List.map_toArray, List.map_cons, List.map_nil]); first | done | rfl | (simp only [List.length_drop, List.length_take]; rfl)) ?_; (with_reducible refine (window_Fire.calls k2 _ _ x6_2 (rd l1 x8_2) t195 t196 _ ?side1 ?side2 A14.out).mono ?_); (case side1 => repeat (first | exact (Kd.V_reads' HO_6.out).2.2 | (with_reducible refine Kd.C_alloc ?_ _) | (with_reducible refine Kd.C_drewN ?_ _) | (with_reducible refine Kd.C_drew ?_))); (case side2 => exact (Kd.V_reads' HO_6.out).2.1); rintro e w18 ⟨v197, v199, rfl, ho0, ho1, hb⟩; refine ⟨_, rfl, ?_⟩; have n0_ := zd (Kd.V_mono (Kd.V_told (Kd.V_told (Kd.V_old (by (with_reducible repeat (first | apply Kd.V_alloc | apply Kd.V_drewN | apply Kd.V_drew)); exact HO_0.out) hb) (Kd.R_base ho0)) (Kd.R_base ho1)) (fun _ h_ => h_.1)); have n1_ := zd (Kd.R_elder' (by (with_reducible repeat (first | apply ze | apply zf | apply zg)); exact HO_5.out) (Kd.R_base ho0) hb); have n2_ := zd (Kd.V_mono (Kd.V_told (Kd.V_told (Kd.V_old (by (with_reducible repeat (first | apply Kd.V_alloc | apply Kd.V_drewN | apply Kd.V_drew)); exact HO_6.out) hb) (Kd.R_base ho0)) (Kd.R_base ho1)) (fun _ h_ => h_.1)); have n3_ := zd (Kd.R_lower (Kd.R_new' (Kd.R_newM (M := fun k_ => (w.heap.size <= k_)) ho0 (below_size (by repeat (first | (with_reducible first | exact HB.out | apply zh | apply zi | apply zj) | exact HB.out))) (fun k_ h_ => h_)) (Kd.R_lt (by (with_reducible repeat (first | apply ze | apply zf | apply zg)); exact HO_5.out))) (below_size (by repeat (first | (with_reducible first | exact HB.out | apply zh | apply zi | apply zj) | exact HB.out)))); have n4_ := zd (Kd.R_lower (Kd.R_newM (M := fun k_ => (w.heap.size <= k_)) ho1 (below_size (by repeat (first | (with_reducible first | exact HB.out | apply zh | apply zi | apply zj) | exact HB.out))) (fun k_ h_ => h_)) (below_size (by repeat (first | (with_reducible first | exact HB.out | apply zh | apply zi | apply zj) | exact HB.out)))); have n5_ := zd (zs (by repeat (first | (with_reducible first | exact HB.out | apply zh | apply zi | apply zj) | exact HB.out)) hb); clear HO_0; clear HO_5; clear HO_6; clear HB; have HO_0 := n0_; have HO_5 := n1_; have HO_6 := n2_; have HO198 := n3_; have HO200 := n4_; have HB := n5_; clear n0_ n1_ n2_ n3_ n4_ n5_; (try clear hb); (try clear hb2); (try clear hk); (try clear hi); (try clear ho0); (try clear ho1)))
          have n0_ := zd (Kd.V_drew HO_0.out)
          have n1_ := zd (zg HO_5.out)
          have n2_ := zd (Kd.V_drew HO_6.out)
          have n3_ := zd (zg HO198.out)
          have n4_ := zd (zg HO200.out)
          have n5_ := zd (zj HB.out)
          clear HO_0
          clear HO_5
          clear HO_6
          clear HO198
          clear HO200
          clear HB
          have HO_0 := n0_
          have HO_5 := n1_
          have HO_6 := n2_
          have HO198 := n3_
          have HO200 := n4_
          have HB := n5_
          clear n0_ n1_ n2_ n3_ n4_ n5_
          have p204 : 0 <= (x8_2 : Int) := of_decide_eq_true (by first | (with_reducible assumption) | assumption)
          have q204 : x8_2 < (l1.length : Int) := of_decide_eq_true (by first | (with_reducible assumption) | assumption)
          obtain ⟨ad204, e204, hx204_0⟩ := Kd.at_int HR1.out x8_2 p204 q204
          have hw204_0 := hx204_0
          obtain rfl : ad194 = ad204 := (by injection e204)
          replace hx204_0 := (HB.out.cell (World.block_lt_of_cell? w _ hx204_0)).trans hx204_0
          replace p204 := eq_true p204
          replace q204 := eq_true q204
          obtain ⟨Ao21, co21, eo21⟩ := Kd.R_slice HO198.out
          (first | subst eo21 | (injection eo21 with f1_ f2_ f3_; have f4_ := f1_.symm; have f5_ := f3_.symm; clear f1_ f2_ f3_; subst f4_; subst f5_))
          refine start_ (n := 13) (S := fun w' => w'.cell? (ad194.add (x8_2).toNat) = some (.int .i64 (rd l1 x8_2))) (ds := []) #[f_, f_, f_, f_, f_, f_, f_, f_, f_, f_, f_, f_, f_] (by kernel_rfl) rfl rfl (((HB.out.cell (World.block_lt_of_cell? w _ hw204_0)).trans hw204_0)) (fun hHeld => ?_); refine with_tabW leatlaw11_WindowFires.tab12 leatlaw11_WindowFires.bits12 (fun HT_ HW_ => ?_)
          generalize w18.drew = w19 at HO_0 HO_5 HO_6 HO198 HO200 HB hx204_0 hHeld ⊢
          refine pure_ (i := 0) (N := some 42) (v := ?_) (a' := ?_) #[t_, f_, f_, f_, f_, f_, f_, f_, f_, f_, f_, f_, f_] rfl rfl (any_of HT_.out (by kernel_rfl)) (fun _ _ _ h => h) (Or.inl ⟨by rfl, ?_⟩) ?_ ?_
          rotate_left
          ·intro w'
           go_simp
           with_reducible rfl
          rotate_left
          ·simp only [Act.put, za, zb, zc, i64_w, i32_w]
           rfl
          refine pure_ (i := 1) (N := some 43) (v := ?_) (a' := ?_) #[t_, t_, f_, f_, f_, f_, f_, f_, f_, f_, f_, f_, f_] rfl rfl (any_of HT_.out (by kernel_rfl)) (fun _ _ _ h => h) (Or.inl ⟨by rfl, ?_⟩) ?_ ?_
          rotate_left
          ·intro w'
           go_simp
           with_reducible rfl
          rotate_left
          ·simp only [Act.put, za, zb, zc, i64_w, i32_w]
           rfl
          refine pure_ (i := 3) (N := some 45) (v := ?_) (a' := ?_) #[t_, t_, f_, t_, f_, f_, f_, f_, f_, f_, f_, f_, f_] rfl rfl (any_of HT_.out (by kernel_rfl)) (fun _ _ _ h => h) (Or.inl ⟨by rfl, ?_⟩) ?_ ?_
          rotate_left
          ·intro w'
           go_simp
           with_reducible rfl
          rotate_left
          ·simp only [Act.put, za, zb, zc, i64_w, i32_w]
           rfl
          refine pure_ (i := 4) (N := some 46) (v := ?_) (a' := ?_) #[t_, t_, f_, t_, t_, f_, f_, f_, f_, f_, f_, f_, f_] rfl rfl (any_of HT_.out (by kernel_rfl)) (fun _ _ _ h => h) (Or.inl ⟨by rfl, ?_⟩) ?_ ?_
          rotate_left
          ·intro w'
           go_simp
           with_reducible rfl
          rotate_left
          ·simp only [Act.put, za, zb, zc, i64_w, i32_w]
           rfl
          refine pure_ (i := 5) (N := some 47) (v := ?_) (a' := ?_) #[t_, t_, f_, t_, t_, t_, f_, f_, f_, f_, f_, f_, f_] rfl rfl (any_of HT_.out (by kernel_rfl)) (fun _ _ _ h => h) (Or.inl ⟨by rfl, ?_⟩) ?_ ?_
          rotate_left
          ·intro w'
           go_simp
           with_reducible rfl
          rotate_left
          ·simp only [Act.put, za, zb, zc, i64_w, i32_w]
           rfl
          refine pure_ (i := 6) (N := some 48) (v := ?_) (a' := ?_) #[t_, t_, f_, t_, t_, t_, t_, f_, f_, f_, f_, f_, f_] rfl rfl (any_of HT_.out (by kernel_rfl)) (fun _ _ _ h => h) (Or.inl ⟨by rfl, ?_⟩) ?_ ?_
          rotate_left
          ·intro w'
           go_simp
           with_reducible rfl
          rotate_left
          ·simp only [Act.put, za, zb, zc, i64_w, i32_w]
           rfl
          refine pure_ (i := 7) (N := some 49) (v := ?_) (a' := ?_) #[t_, t_, f_, t_, t_, t_, t_, t_, f_, f_, f_, f_, f_] rfl rfl (any_of HT_.out (by kernel_rfl)) (fun _ _ _ h => h) (Or.inl ⟨by rfl, ?_⟩) ?_ ?_
          rotate_left
          ·intro w'
           go_simp
           with_reducible rfl
          rotate_left
          ·simp only [Act.put, za, zb, zc, i64_w, i32_w]
           rfl
          refine take_ (i := 8) (N := some 50) (v := ?_) (a' := ?_) #[t_, t_, f_, t_, t_, t_, t_, t_, t_, f_, f_, f_, f_] rfl rfl (take_ofW HT_.out HW_.out (by kernel_rfl)) (fun _ _ _ h => h) (Or.inl ⟨by rfl, ?_⟩) hHeld ?_ ?_
          rotate_left
          ·intro w' s0
           go_simp
           with_reducible rfl
          rotate_left
          ·simp only [Act.put, za, zb, zc, i64_w, i32_w]
           rfl
          refine pure_ (i := 9) (N := some 51) (v := ?_) (a' := ?_) #[t_, t_, f_, t_, t_, t_, t_, t_, t_, t_, f_, f_, f_] rfl rfl (any_of HT_.out (by kernel_rfl)) (fun _ _ _ h => h) (Or.inl ⟨by rfl, ?_⟩) ?_ ?_
          rotate_left
          ·intro w'
           go_simp
           with_reducible rfl
          rotate_left
          ·simp only [Act.put, za, zb, zc, i64_w, i32_w]
           rfl
          refine one_ (i := 2) (N := some 44) #[t_, t_, t_, t_, t_, t_, t_, t_, t_, t_, f_, f_, f_] rfl rfl (one_of HT_.out (by kernel_rfl)) (by decide) (fun K hK => ?_)
          refine Kd.R_append_rows_step k37 (w0 := w) w.heap.size (by rfl) (.tmp 42) (.tmp 43) 33 37 (.agg #[(.int .i64 0), (.int .i64 0), (.int .i64 0)]) 24 rfl Try.underlying33 info37 rfl (by decide) (by omega) u5 x5_2 t195 _ _ _ (fun k_ => (w.heap.size <= k_) /\ some k_ ≠ (.slice Ao21 t195.length co21 : Value).ownBlock) (fun _ => False) rfl rfl ?aO ?aR (fun _ _ h => h) (fun _ h => h.elim) ?aF ?aB ?aS ?aL ?_
          (case aR => repeat (first | exact (Kd.R_reads' HO198.out).2.2 | (with_reducible refine Kd.C_alloc ?_ _) | (with_reducible refine Kd.C_drewN ?_ _) | (with_reducible refine Kd.C_drew ?_)))
          (case aB => exact (by repeat (first | (with_reducible first | exact HB.out | apply zh | apply zi | apply zj) | exact HB.out)))
          (case aF => exact (fun k_ hk => ⟨(Nat.le_trans (below_size (by repeat (first | (with_reducible first | exact HB.out | apply zh | apply zi | apply zj) | exact HB.out))) hk), Kd.fresh' (Kd.R_lt (by (with_reducible repeat (first | apply ze | apply zf | apply zg)); exact HO198.out)) k_ hk⟩))
          (case aO => exact (by (with_reducible repeat (first | apply ze | apply zf | apply zg)); exact HO_5.out))
          (case aS => exact (below_size (by repeat (first | (with_reducible first | exact HB.out | apply zh | apply zi | apply zj) | exact HB.out))))
          (case aL => have := LMc15.out; omega)
          intro v202 w20 ho hb hg hat
          rw [← Ny201.out] at ho
          have n0_ := zd (Kd.V_afterv (ok := (fun k_ => (P0_ k_ ∨ w.heap.size <= k_) /\ some k_ ≠ (.slice Ao21 t195.length co21 : Value).ownBlock /\ some k_ ≠ (v199 : Value).ownBlock)) (by (with_reducible repeat (first | apply Kd.V_alloc | apply Kd.V_drewN | apply Kd.V_drew)); exact Kd.V_mono HO_0.out (fun _ hk => ⟨⟨hk.1.1.1, ⟨hk.1.2, hk.2⟩⟩, hk.1.1.2⟩)) hg hat)
          have n1_ := zd (Kd.V_afterv (ok := (fun k_ => (P0_ k_ ∨ w.heap.size <= k_) /\ some k_ ≠ (.slice Ao21 t195.length co21 : Value).ownBlock /\ some k_ ≠ (v199 : Value).ownBlock)) (by (with_reducible repeat (first | apply Kd.V_alloc | apply Kd.V_drewN | apply Kd.V_drew)); exact Kd.V_mono HO_6.out (fun _ hk => ⟨⟨hk.1.1.1, ⟨hk.1.2, hk.2⟩⟩, hk.1.1.2⟩)) hg hat)
          have n2_ := zd (Kd.R_after (ok := (fun k_ => (w.heap.size <= k_))) (by (with_reducible repeat (first | apply ze | apply zf | apply zg)); exact zq HO198.out (fun _ hk => ⟨hk.1.1, hk.2⟩)) hg hat)
          have n3_ := zd (Kd.R_over' (by (with_reducible repeat (first | apply ze | apply zf | apply zg)); exact HO200.out) (Kd.R_typed (by (with_reducible repeat (first | apply ze | apply zf | apply zg)); exact HO_5.out)) (by decide) hg)
          have n4_ := zd (hb)
          have n5_ := zd (ho)
          clear HO_0
          clear HO_6
          clear HO198
          clear HO200
          clear HB
          clear HO_5
          have HO_0 := n0_
          have HO_6 := n1_
          have HO198 := n2_
          have HO200 := n3_
          have HB := n4_
          have HO203 := n5_
          clear n0_ n1_ n2_ n3_ n4_ n5_
          clear ho hb hg hat
          refine hK.out _ _ (((HB.out.cell (World.block_lt_of_cell? w _ hw204_0)).trans hw204_0)) (fun hHeld => ?_)
          clear hK K
          refine norm_ (a' := ?_) ?_ ?_
          rotate_left
          ·show Act.put _ (some 44) _ = _
           simp only [Act.put, za, zb, zc, i64_w, i32_w]
           rfl
          refine pure_ (i := 10) (N := some 5) (v := ?_) (a' := ?_) #[t_, t_, t_, t_, t_, t_, t_, t_, t_, t_, t_, f_, f_] rfl rfl (any_of HT_.out (by kernel_rfl)) (fun _ _ _ h => h) (Or.inl ⟨by rfl, ?_⟩) ?_ ?_
          rotate_left
          ·intro w'
           go_simp
           with_reducible rfl
          rotate_left
          ·simp only [Act.put, za, zb, zc, i64_w, i32_w]
           rfl
          refine pure_ (i := 11) (N := some 6) (v := ?_) (a' := ?_) #[t_, t_, t_, t_, t_, t_, t_, t_, t_, t_, t_, t_, f_] rfl rfl (any_of HT_.out (by kernel_rfl)) (fun _ _ _ h => h) (Or.inl ⟨by rfl, ?_⟩) ?_ ?_
          rotate_left
          ·intro w'
           go_simp
           with_reducible rfl
          rotate_left
          ·simp only [Act.put, za, zb, zc, i64_w, i32_w]
           rfl
          refine pure_ (i := 12) (N := some 7) (v := ?_) (a' := ?_) #[t_, t_, t_, t_, t_, t_, t_, t_, t_, t_, t_, t_, t_] rfl rfl (any_of HT_.out (by kernel_rfl)) (fun _ _ _ h => h) (Or.inl ⟨by rfl, ?_⟩) ?_ ?_
          rotate_left
          ·intro w'
           go_simp
           with_reducible rfl
          rotate_left
          ·simp only [Act.put, za, zb, zc, i64_w, i32_w]
           rfl
          refine done_ (done_of HT_.out (by kernel_rfl)) ?_
          try go_wp2
          go_roundg k2
          case measure => have := HJ4.out; have := HK2.out; omega
          case rel => exact ⟨(y201), (t196), (ji16), (wrap64 (x8_2 + 1)), (by first | rfl | (simp; done) | (simp only [← hji16] <;> (first | rfl | simp)) | (simp [*]; done)), (by first | rfl | (simp; done) | (simp [*]; done)), H', ⟨by have := HJ4.out; have := HK2.out; omega⟩, ⟨by (with_reducible repeat (first | apply Kd.V_alloc | apply Kd.V_drewN | apply Kd.V_drew)); exact Kd.V_mono HO_0.out (fun _ hk => ⟨hk.1.1, hk.2⟩)⟩, ⟨by (with_reducible repeat (first | apply ze | apply zf | apply zg)); exact zq HO203.out (fun _ hk => hk.1)⟩, ⟨Kd.V_mono (Kd.R_V (Kd.R_apart' HO200.out (Kd.R_typed HO203.out) (by decide))) (fun k_ hk => ⟨.inr hk.1.1, hk.2⟩)⟩, ⟨by repeat (first | (with_reducible first | exact HB.out | apply zh | apply zi | apply zj) | exact HB.out)⟩⟩
         ·rw [if_neg c15] at H
          exact absurd H (by simp)
        ·rw [if_neg c13] at H
         exact absurd H (by simp)
       ·rw [if_neg c12] at H
        have c12b0 : decide (x8_2 < (l1.length : Int)) = false := decide_eq_false c12
        clear c12
        replace H := Option.bind_eq_some_iff.mp H
        obtain ⟨⟨t205, t206⟩, A220, H⟩ := H
        replace H : (if (l1.length : Int) = 0 then (if (t205.length : Int) = 0 then (some ((t206.length : Int) == (l0.length : Int))) else (some false)) else (if (x5_2.length : Int) = (t205.length : Int) then ((window_Sort.f x6_2).bind fun t211 => ((leathelp_Panes.f k2 t206 t211).bind fun t214 => (leatlaw11_WindowFires.j2 k2 x5_2 x7_2 t205 t206 (!t214)))) else (leatlaw11_WindowFires.j2 k2 x5_2 x7_2 t205 t206 true))) = some r := H
        have A22 := zd A220
        clear A220
        by_cases c23 : (l1.length : Int) = 0
        ·rw [if_pos c23] at H
         have c23b0 : ((l1.length : Int) == 0) = true := beq_iff_eq.mpr c23
         have c23b1 : ((l1.length : Int) != 0) = false := bne_eq_false_iff_eq.mpr c23
         clear c23
         by_cases c24 : (t205.length : Int) = 0
         ·rw [if_pos c24] at H
          have c24b0 : ((t205.length : Int) == 0) = true := beq_iff_eq.mpr c24
          have c24b1 : ((t205.length : Int) != 0) = false := bne_eq_false_iff_eq.mpr c24
          clear c24
          obtain rfl := Option.some.inj H
          go_wp2_with (first | ((with_reducible refine gate_callee (f := 21) rfl ?_); refine goesL_ (some 55) rfl rfl Try.func21 (by kernel_rfl) rfl #[.slice A0 l0.length c0, .int .i64 x7_2] rfl (by (try simp only [List.map_toArray, List.map_cons, List.map_nil]); first | done | rfl | (simp only [List.length_drop, List.length_take]; rfl)) ?_; (with_reducible refine (window_Fire.calls k2 _ _ l0 x7_2 t205 t206 _ ?side1 ?side2 A22.out).mono ?_); (case side1 => repeat (first | exact (Kd.V_reads' HO_0.out).2.2 | (with_reducible refine Kd.C_alloc ?_ _) | (with_reducible refine Kd.C_drewN ?_ _) | (with_reducible refine Kd.C_drew ?_))); (case side2 => exact (Kd.V_reads' HO_0.out).2.1); rintro e w25 ⟨v207, v209, rfl, ho0, ho1, hb⟩; refine ⟨_, rfl, ?_⟩; have n0_ := zd (Kd.V_mono (Kd.V_told (Kd.V_told (Kd.V_old (by (with_reducible repeat (first | apply Kd.V_alloc | apply Kd.V_drewN | apply Kd.V_drew)); exact HO_0.out) hb) (Kd.R_base ho0)) (Kd.R_base ho1)) (fun _ h_ => h_.1)); have n1_ := zd (Kd.R_elder' (by (with_reducible repeat (first | apply ze | apply zf | apply zg)); exact HO_5.out) (Kd.R_base ho0) hb); have n2_ := zd (Kd.V_mono (Kd.V_told (Kd.V_told (Kd.V_old (by (with_reducible repeat (first | apply Kd.V_alloc | apply Kd.V_drewN | apply Kd.V_drew)); exact HO_6.out) hb) (Kd.R_base ho0)) (Kd.R_base ho1)) (fun _ h_ => h_.1)); have n3_ := zd (Kd.R_lower (Kd.R_new' (Kd.R_newM (M := fun k_ => (w.heap.size <= k_)) ho0 (below_size (by repeat (first | (with_reducible first | exact HB.out | apply zh | apply zi | apply zj) | exact HB.out))) (fun k_ h_ => h_)) (Kd.R_lt (by (with_reducible repeat (first | apply ze | apply zf | apply zg)); exact HO_5.out))) (below_size (by repeat (first | (with_reducible first | exact HB.out | apply zh | apply zi | apply zj) | exact HB.out)))); have n4_ := zd (Kd.R_lower (Kd.R_newM (M := fun k_ => (w.heap.size <= k_)) ho1 (below_size (by repeat (first | (with_reducible first | exact HB.out | apply zh | apply zi | apply zj) | exact HB.out))) (fun k_ h_ => h_)) (below_size (by repeat (first | (with_reducible first | exact HB.out | apply zh | apply zi | apply zj) | exact HB.out)))); have n5_ := zd (zs (by repeat (first | (with_reducible first | exact HB.out | apply zh | apply zi | apply zj) | exact HB.out)) hb); clear HO_0; clear HO_5; clear HO_6; clear HB; have HO_0 := n0_; have HO_5 := n1_; have HO_6 := n2_; have HO208 := n3_; have HO210 := n4_; have HB := n5_; clear n0_ n1_ n2_ n3_ n4_ n5_; (try clear hb); (try clear hb2); (try clear hk); (try clear hi); (try clear ho0); (try clear ho1); obtain ⟨Ao26, co26, eo26⟩ := Kd.R_slice HO208.out; subst eo26; obtain ⟨Ao27, co27, eo27⟩ := Kd.R_slice HO210.out; subst eo27))
          go_ret
          exact ⟨by first | rfl | (simp [errW_none, errW_some] <;> rfl) | (simp [*, errW_none, errW_some] <;> rfl), by repeat (first | (with_reducible first | exact HB.out | apply zh | apply zi | apply zj) | exact HB.out)⟩
         ·rw [if_neg c24] at H
          have c24b0 : ((t205.length : Int) == 0) = false := beq_eq_false_iff_ne.mpr c24
          have c24b1 : ((t205.length : Int) != 0) = true := bne_iff_ne.mpr c24
          have c24b2 : ¬ (t205 = []) := fun h_ => c24 (by rw [h_]; rfl)
          obtain rfl := Option.some.inj H
          go_wp2_with (first | ((with_reducible refine gate_callee (f := 21) rfl ?_); refine goesL_ (some 55) rfl rfl Try.func21 (by kernel_rfl) rfl #[.slice A0 l0.length c0, .int .i64 x7_2] rfl (by (try simp only [List.map_toArray, List.map_cons, List.map_nil]); first | done | rfl | (simp only [List.length_drop, List.length_take]; rfl)) ?_; (with_reducible refine (window_Fire.calls k2 _ _ l0 x7_2 t205 t206 _ ?side1 ?side2 A22.out).mono ?_); (case side1 => repeat (first | exact (Kd.V_reads' HO_0.out).2.2 | (with_reducible refine Kd.C_alloc ?_ _) | (with_reducible refine Kd.C_drewN ?_ _) | (with_reducible refine Kd.C_drew ?_))); (case side2 => exact (Kd.V_reads' HO_0.out).2.1); rintro e w28 ⟨v207, v209, rfl, ho0, ho1, hb⟩; refine ⟨_, rfl, ?_⟩; have n0_ := zd (Kd.V_mono (Kd.V_told (Kd.V_told (Kd.V_old (by (with_reducible repeat (first | apply Kd.V_alloc | apply Kd.V_drewN | apply Kd.V_drew)); exact HO_0.out) hb) (Kd.R_base ho0)) (Kd.R_base ho1)) (fun _ h_ => h_.1)); have n1_ := zd (Kd.R_elder' (by (with_reducible repeat (first | apply ze | apply zf | apply zg)); exact HO_5.out) (Kd.R_base ho0) hb); have n2_ := zd (Kd.V_mono (Kd.V_told (Kd.V_told (Kd.V_old (by (with_reducible repeat (first | apply Kd.V_alloc | apply Kd.V_drewN | apply Kd.V_drew)); exact HO_6.out) hb) (Kd.R_base ho0)) (Kd.R_base ho1)) (fun _ h_ => h_.1)); have n3_ := zd (Kd.R_lower (Kd.R_new' (Kd.R_newM (M := fun k_ => (w.heap.size <= k_)) ho0 (below_size (by repeat (first | (with_reducible first | exact HB.out | apply zh | apply zi | apply zj) | exact HB.out))) (fun k_ h_ => h_)) (Kd.R_lt (by (with_reducible repeat (first | apply ze | apply zf | apply zg)); exact HO_5.out))) (below_size (by repeat (first | (with_reducible first | exact HB.out | apply zh | apply zi | apply zj) | exact HB.out)))); have n4_ := zd (Kd.R_lower (Kd.R_newM (M := fun k_ => (w.heap.size <= k_)) ho1 (below_size (by repeat (first | (with_reducible first | exact HB.out | apply zh | apply zi | apply zj) | exact HB.out))) (fun k_ h_ => h_)) (below_size (by repeat (first | (with_reducible first | exact HB.out | apply zh | apply zi | apply zj) | exact HB.out)))); have n5_ := zd (zs (by repeat (first | (with_reducible first | exact HB.out | apply zh | apply zi | apply zj) | exact HB.out)) hb); clear HO_0; clear HO_5; clear HO_6; clear HB; have HO_0 := n0_; have HO_5 := n1_; have HO_6 := n2_; have HO208 := n3_; have HO210 := n4_; have HB := n5_; clear n0_ n1_ n2_ n3_ n4_ n5_; (try clear hb); (try clear hb2); (try clear hk); (try clear hi); (try clear ho0); (try clear ho1); obtain ⟨Ao29, co29, eo29⟩ := Kd.R_slice HO208.out; subst eo29))
          go_ret
          exact ⟨by first | rfl | (simp [errW_none, errW_some] <;> rfl) | (simp [*, errW_none, errW_some] <;> rfl), by repeat (first | (with_reducible first | exact HB.out | apply zh | apply zi | apply zj) | exact HB.out)⟩
        ·rw [if_neg c23] at H
         have c23b0 : ((l1.length : Int) == 0) = false := beq_eq_false_iff_ne.mpr c23
         have c23b1 : ((l1.length : Int) != 0) = true := bne_iff_ne.mpr c23
         have c23b2 : ¬ (l1 = []) := fun h_ => c23 (by rw [h_]; rfl)
         have HC30 := zd H
         clear H
         go_upto_region 16 with (first | ((with_reducible refine gate_callee (f := 21) rfl ?_); refine goesL_ (some 55) rfl rfl Try.func21 (by kernel_rfl) rfl #[.slice A0 l0.length c0, .int .i64 x7_2] rfl (by (try simp only [List.map_toArray, List.map_cons, List.map_nil]); first | done | rfl | (simp only [List.length_drop, List.length_take]; rfl)) ?_; (with_reducible refine (window_Fire.calls k2 _ _ l0 x7_2 t205 t206 _ ?side1 ?side2 A22.out).mono ?_); (case side1 => repeat (first | exact (Kd.V_reads' HO_0.out).2.2 | (with_reducible refine Kd.C_alloc ?_ _) | (with_reducible refine Kd.C_drewN ?_ _) | (with_reducible refine Kd.C_drew ?_))); (case side2 => exact (Kd.V_reads' HO_0.out).2.1); rintro e w31 ⟨v207, v209, rfl, ho0, ho1, hb⟩; refine ⟨_, rfl, ?_⟩; have n0_ := zd (Kd.V_mono (Kd.V_told (Kd.V_told (Kd.V_old (by (with_reducible repeat (first | apply Kd.V_alloc | apply Kd.V_drewN | apply Kd.V_drew)); exact HO_0.out) hb) (Kd.R_base ho0)) (Kd.R_base ho1)) (fun _ h_ => h_.1)); have n1_ := zd (Kd.R_elder' (by (with_reducible repeat (first | apply ze | apply zf | apply zg)); exact HO_5.out) (Kd.R_base ho0) hb); have n2_ := zd (Kd.V_mono (Kd.V_told (Kd.V_told (Kd.V_old (by (with_reducible repeat (first | apply Kd.V_alloc | apply Kd.V_drewN | apply Kd.V_drew)); exact HO_6.out) hb) (Kd.R_base ho0)) (Kd.R_base ho1)) (fun _ h_ => h_.1)); have n3_ := zd (Kd.R_lower (Kd.R_new' (Kd.R_newM (M := fun k_ => (w.heap.size <= k_)) ho0 (below_size (by repeat (first | (with_reducible first | exact HB.out | apply zh | apply zi | apply zj) | exact HB.out))) (fun k_ h_ => h_)) (Kd.R_lt (by (with_reducible repeat (first | apply ze | apply zf | apply zg)); exact HO_5.out))) (below_size (by repeat (first | (with_reducible first | exact HB.out | apply zh | apply zi | apply zj) | exact HB.out)))); have n4_ := zd (Kd.R_lower (Kd.R_newM (M := fun k_ => (w.heap.size <= k_)) ho1 (below_size (by repeat (first | (with_reducible first | exact HB.out | apply zh | apply zi | apply zj) | exact HB.out))) (fun k_ h_ => h_)) (below_size (by repeat (first | (with_reducible first | exact HB.out | apply zh | apply zi | apply zj) | exact HB.out)))); have n5_ := zd (zs (by repeat (first | (with_reducible first | exact HB.out | apply zh | apply zi | apply zj) | exact HB.out)) hb); clear HO_0; clear HO_5; clear HO_6; clear HB; have HO_0 := n0_; have HO_5 := n1_; have HO_6 := n2_; have HO208 := n3_; have HO210 := n4_; have HB := n5_; clear n0_ n1_ n2_ n3_ n4_ n5_; (try clear hb); (try clear hb2); (try clear hk); (try clear hi); (try clear ho0); (try clear ho1)))
         (try simp only [Act.put, za, zb, zc])
         go_cut [82] (fun v82 wc => ∃ (kq : Nat) (x82_29 : Bool), v82 = .bool x82_29 /\ Aside0 (leatlaw11_WindowFires.j2 kq x5_2 x7_2 t205 t206 x82_29 = some r) /\ Aside0 (kq <= k2) /\ Aside0 (Kd.R k37 37 wc w.heap.size (fun k_ => (w.heap.size <= k_) /\ some k_ ≠ (v207 : Value).ownBlock) u5 x5_2) /\ Aside0 (Kd.R k37 37 wc w.heap.size (fun k_ => (w.heap.size <= k_) /\ some k_ ≠ (u5 : Value).ownBlock) v207 t205) /\ Aside0 (Kd.R k46 46 wc w.heap.size (fun k_ => (w.heap.size <= k_)) v209 t206) /\ Aside0 (Below w.heap.size w wc))
         case first =>
          have H := HC30.out
          clear HC30
          by_cases c32 : (x5_2.length : Int) = (t205.length : Int)
          ·rw [if_pos c32] at H
           have c32b0 : ((x5_2.length : Int) == (t205.length : Int)) = true := beq_iff_eq.mpr c32
           have c32b1 : ((x5_2.length : Int) != (t205.length : Int)) = false := bne_eq_false_iff_eq.mpr c32
           have c32b2 : (x5_2.length == t205.length) = true := by first | simpa using c32 | (simp at c32 ⊢; omega)
           clear c32
           (first | rw [c32b0] | (simp only [i64_w, i32_w]; rw [c32b0]) | skip)
           replace H := Option.bind_eq_some_iff.mp H
           obtain ⟨t211, A330, H⟩ := H
           replace H : ((leathelp_Panes.f k2 t206 t211).bind fun t214 => (leatlaw11_WindowFires.j2 k2 x5_2 x7_2 t205 t206 (!t214))) = some r := H
           have A33 := zd A330
           clear A330
           replace H := Option.bind_eq_some_iff.mp H
           obtain ⟨t214, A340, H⟩ := H
           replace H : (leatlaw11_WindowFires.j2 k2 x5_2 x7_2 t205 t206 (!t214)) = some r := H
           have A34 := zd A340
           clear A340
           have H' := zd H
           clear H
           obtain ⟨Ao35, co35, eo35⟩ := Kd.R_slice HO_5.out
           subst eo35
           obtain ⟨Ao36, co36, eo36⟩ := Kd.R_slice HO208.out
           subst eo36
           obtain ⟨Ao37, co37, eo37⟩ := Kd.V_slice HO_6.out
           subst eo37
           go_wp2_with (first | (go_at_call 26; (with_reducible refine (window_Sort.calls _ _ x6_2 t211 _ ?side1 ?side2 A33.out).mono ?_); (case side1 => repeat (first | exact (Kd.V_reads' HO_6.out).2.2 | (with_reducible refine Kd.C_alloc ?_ _) | (with_reducible refine Kd.C_drewN ?_ _) | (with_reducible refine Kd.C_drew ?_))); (case side2 => exact (Kd.V_reads' HO_6.out).2.1); rintro e w38 ⟨v212, rfl, ho0, hb⟩; have n0_ := zd (Kd.V_elder' (by (with_reducible repeat (first | apply Kd.V_alloc | apply Kd.V_drewN | apply Kd.V_drew)); exact HO_0.out) (Kd.R_base ho0) hb); have n1_ := zd (zr (by (with_reducible repeat (first | apply ze | apply zf | apply zg)); exact HO_5.out) hb); have n2_ := zd (Kd.V_elder' (by (with_reducible repeat (first | apply Kd.V_alloc | apply Kd.V_drewN | apply Kd.V_drew)); exact HO_6.out) (Kd.R_base ho0) hb); have n3_ := zd (zr (by (with_reducible repeat (first | apply ze | apply zf | apply zg)); exact HO208.out) hb); have n4_ := zd (Kd.R_elder' (by (with_reducible repeat (first | apply ze | apply zf | apply zg)); exact HO210.out) (Kd.R_base ho0) hb); have n5_ := zd (Kd.R_lower (Kd.R_new' (Kd.R_newM (M := fun k_ => (w.heap.size <= k_)) ho0 (below_size (by repeat (first | (with_reducible first | exact HB.out | apply zh | apply zi | apply zj) | exact HB.out))) (fun k_ h_ => h_)) (Kd.R_lt (by (with_reducible repeat (first | apply ze | apply zf | apply zg)); exact HO210.out))) (below_size (by repeat (first | (with_reducible first | exact HB.out | apply zh | apply zi | apply zj) | exact HB.out)))); have n6_ := zd (zs (by repeat (first | (with_reducible first | exact HB.out | apply zh | apply zi | apply zj) | exact HB.out)) hb); clear HO_0; clear HO_5; clear HO_6; clear HO208; clear HO210; clear HB; have HO_0 := n0_; have HO_5 := n1_; have HO_6 := n2_; have HO208 := n3_; have HO210 := n4_; have HO213 := n5_; have HB := n6_; clear n0_ n1_ n2_ n3_ n4_ n5_ n6_; (try clear hb); (try clear hb2); (try clear hk); (try clear hi); (try clear ho0); obtain ⟨Ao39, co39, eo39⟩ := Kd.R_slice HO210.out; subst eo39; obtain ⟨Ao40, co40, eo40⟩ := Kd.R_slice HO213.out; subst eo40) | (go_at_call 19; (with_reducible refine (leathelp_Panes.calls k2 _ _ t206 _ _ t211 t214 _ ?side1 ?side2 ?side3 ?side4 A34.out).mono ?_); (case side1 => repeat (first | exact (Kd.R_reads' HO210.out).2.2 | (with_reducible refine Kd.C_alloc ?_ _) | (with_reducible refine Kd.C_drewN ?_ _) | (with_reducible refine Kd.C_drew ?_))); (case side2 => exact (Kd.R_reads' HO210.out).2.1); (case side3 => repeat (first | exact (Kd.R_reads' HO213.out).2.2 | (with_reducible refine Kd.C_alloc ?_ _) | (with_reducible refine Kd.C_drewN ?_ _) | (with_reducible refine Kd.C_drew ?_))); (case side4 => exact (Kd.R_reads' HO213.out).2.1); rintro e w' ⟨rfl, ⟨nd, rfl⟩⟩))
           go_meet
           case rel => exact ⟨_, (!t214), (by first | rfl | (simp; done) | (simp [*]; done)), H', ⟨by have := HJ4.out; have := HK2.out; first | omega | exact Nat.le_refl _⟩, ⟨by (with_reducible repeat (first | apply ze | apply zf | apply zg)); exact HO_5.out⟩, ⟨by (with_reducible repeat (first | apply ze | apply zf | apply zg)); exact zq HO208.out (fun _ hk => ⟨hk.1.1, hk.2⟩)⟩, ⟨by (with_reducible repeat (first | apply ze | apply zf | apply zg)); exact zq HO210.out (fun _ hk => hk.1.1)⟩, ⟨by repeat (first | (with_reducible first | exact HB.out | apply zh | apply zi | apply zj) | exact HB.out)⟩⟩
          ·rw [if_neg c32] at H
           have c32b0 : ((x5_2.length : Int) == (t205.length : Int)) = false := beq_eq_false_iff_ne.mpr c32
           have c32b1 : ((x5_2.length : Int) != (t205.length : Int)) = true := bne_iff_ne.mpr c32
           have c32b2 : (x5_2.length == t205.length) = false := by first | simpa using c32 | (simp at c32 ⊢; omega)
           (first | rw [c32b0] | (simp only [i64_w, i32_w]; rw [c32b0]) | skip)
           have H' := zd H
           clear H
           obtain ⟨Ao41, co41, eo41⟩ := Kd.R_slice HO_5.out
           subst eo41
           obtain ⟨Ao42, co42, eo42⟩ := Kd.R_slice HO208.out
           subst eo42
           go_wp2
           go_meet
           case rel => exact ⟨_, (true), (by first | rfl | (simp; done) | (simp [*]; done)), H', ⟨by have := HJ4.out; have := HK2.out; first | omega | exact Nat.le_refl _⟩, ⟨by (with_reducible repeat (first | apply ze | apply zf | apply zg)); exact HO_5.out⟩, ⟨by (with_reducible repeat (first | apply ze | apply zf | apply zg)); exact zq HO208.out (fun _ hk => ⟨hk.1.1, hk.2⟩)⟩, ⟨by (with_reducible repeat (first | apply ze | apply zf | apply zg)); exact zq HO210.out (fun _ hk => hk.1)⟩, ⟨by repeat (first | (with_reducible first | exact HB.out | apply zh | apply zi | apply zj) | exact HB.out)⟩⟩
         case rest =>
          clear HC30
          try clear c1; try clear p1; try clear q1; try clear hx1; try clear c2; try clear p2; try clear q2; try clear hx2; try clear c3; try clear c4; try clear p6; try clear c7; try clear c8; try clear c11; try clear c12; try clear c12b0; try clear c13; try clear c13b0; try clear c15; try clear p19; try clear q19; try clear hx19; try clear p20; try clear q20; try clear hx20; try clear c21; try clear c23; try clear c23b0; try clear c23b1; try clear c23b2; try clear c24; try clear c24b0; try clear c24b1; try clear c24b2; try clear c25; try clear c32; try clear c32b0; try clear c32b1; try clear c32b2; try clear hx194_0; try clear hx204_0; try clear p194; try clear p2; try clear p204; try clear q194; try clear q204
          obtain ⟨kq, x82_29, rfl, HA, HJ29, HO_5, HO_11, HO_12, HB⟩ := hcut
          cases kq with
          | zero => exact absurd HA.out (by simp [leatlaw11_WindowFires.j2])
          | succ kj29 =>
           have H := HA.out
           clear HA
           simp only [leatlaw11_WindowFires.j2] at H
           by_cases c43 : x82_29 = true
           ·subst c43
            have H1 : (some false) = some r := by rw [if_pos rfl] at H; exact H
            clear H
            have H := H1
            clear H1
            obtain rfl := Option.some.inj H
            go_wp2
            go_ret
            exact ⟨by first | rfl | (simp [errW_none, errW_some] <;> rfl) | (simp [*, errW_none, errW_some] <;> rfl), by repeat (first | (with_reducible first | exact HB.out | apply zh | apply zi | apply zj) | exact HB.out)⟩
           ·replace c43 := Bool.eq_false_iff.mpr c43
            subst c43
            have H1 : (leatlaw11_WindowFires.l1 kj29 x5_2 x7_2 t205 t206 0 0) = some r := by rw [if_neg (show ¬ (false = true) by decide)] at H; exact H
            clear H
            have H := H1
            clear H1
            have H' := zd H
            clear H
            go_wp2
            go_loopg [13, 14] kj29 (fun kq v13 v14 w' => ∃ (x13_4 : Int) (x14_4 : Int), v13 = .int .i64 x13_4 /\ v14 = .int .i64 x14_4 /\ Aside0 (leatlaw11_WindowFires.l1 kq x5_2 x7_2 t205 t206 x13_4 x14_4 = some r) /\ Aside0 (kq <= kj29) /\ Aside0 (Kd.R k37 37 w' w.heap.size (fun k_ => (w.heap.size <= k_) /\ some k_ ≠ (v207 : Value).ownBlock) u5 x5_2) /\ Aside0 (Kd.R k37 37 w' w.heap.size (fun k_ => (w.heap.size <= k_) /\ some k_ ≠ (u5 : Value).ownBlock) v207 t205) /\ Aside0 (Kd.R k46 46 w' w.heap.size (fun k_ => (w.heap.size <= k_)) v209 t206) /\ Aside0 (Below w.heap.size w w'))
            case atStart => exact ⟨(0), (0), (by first | rfl | (simp; done) | (simp [*]; done)), (by first | rfl | (simp; done) | (simp [*]; done)), H', ⟨Nat.le_refl _⟩, ⟨by (with_reducible repeat (first | apply ze | apply zf | apply zg)); exact HO_5.out⟩, ⟨by (with_reducible repeat (first | apply ze | apply zf | apply zg)); exact HO_11.out⟩, ⟨by (with_reducible repeat (first | apply ze | apply zf | apply zg)); exact HO_12.out⟩, ⟨by repeat (first | (with_reducible first | exact HB.out | apply zh | apply zi | apply zj) | exact HB.out)⟩⟩
            case round =>
             clear H'
             try clear c1; try clear p1; try clear q1; try clear hx1; try clear c2; try clear p2; try clear q2; try clear hx2; try clear c3; try clear c4; try clear p6; try clear c7; try clear c8; try clear c11; try clear c12; try clear c12b0; try clear c13; try clear c13b0; try clear c15; try clear p19; try clear q19; try clear hx19; try clear p20; try clear q20; try clear hx20; try clear c21; try clear c23; try clear c23b0; try clear c23b1; try clear c23b2; try clear c24; try clear c24b0; try clear c24b1; try clear c24b2; try clear c25; try clear c32; try clear c32b0; try clear c32b1; try clear c32b2; try clear c43; try clear hx194_0; try clear hx204_0; try clear p1; try clear p19; try clear p194; try clear p2; try clear p20; try clear p204; try clear p6; try clear q1; try clear q19; try clear q194; try clear q2; try clear q20; try clear q204
             obtain ⟨x13_4, x14_4, rfl, rfl, HA, HK4, HO_5, HO_11, HO_12, HB⟩ := hrel
             cases gk with
             | zero => exact absurd HA.out (by simp [leatlaw11_WindowFires.l1])
             | succ k4 =>
              have H := HA.out
              clear HA
              simp only [leatlaw11_WindowFires.l1] at H
              by_cases c44 : x14_4 < (t205.length : Int)
              ·rw [if_pos c44] at H
               have c44b0 : decide (x14_4 < (t205.length : Int)) = true := decide_eq_true c44
               clear c44
               by_cases c45 : 0 <= x14_4
               ·rw [if_pos c45] at H
                have c45b0 : decide (0 <= x14_4) = true := decide_eq_true c45
                clear c45
                by_cases c46 : x14_4 < (x5_2.length : Int)
                ·rw [if_pos c46] at H
                 have c46b0 : decide (x14_4 < (x5_2.length : Int)) = true := decide_eq_true c46
                 clear c46
                 by_cases c47 : ((rd_T37 x5_2 x14_4).f1) > x7_2
                 ·rw [if_pos c47] at H
                  have c47b0 : decide (x7_2 < ((rd_T37 x5_2 x14_4).f1)) = true := decide_eq_true c47
                  clear c47
                  obtain rfl := Option.some.inj H
                  obtain ⟨Ao48, co48, eo48⟩ := Kd.R_slice HO_11.out
                  subst eo48
                  try go_wp2
                  have n0_ := zd (zg HO_5.out)
                  have n1_ := zd (zg HO_11.out)
                  have n2_ := zd (zg HO_12.out)
                  have n3_ := zd (zj HB.out)
                  clear HO_5
                  clear HO_11
                  clear HO_12
                  clear HB
                  have HO_5 := n0_
                  have HO_11 := n1_
                  have HO_12 := n2_
                  have HB := n3_
                  clear n0_ n1_ n2_ n3_
                  have p215 : 0 <= (x14_4 : Int) := of_decide_eq_true (by first | (with_reducible assumption) | assumption)
                  have q215 : x14_4 < (t205.length : Int) := of_decide_eq_true (by first | (with_reducible assumption) | assumption)
                  obtain ⟨ad215, e215, hx215_0, hx215_1, hx215_2⟩ := at_T37 (Kd.R_reads' HO_11.out).2.2 x14_4 p215 q215
                  cases e215
                  replace p215 := eq_true p215
                  replace q215 := eq_true q215
                  have p216 : 0 <= (x14_4 : Int) := of_decide_eq_true (by first | (with_reducible assumption) | assumption)
                  have q216 : x14_4 < (t205.length : Int) := of_decide_eq_true (by first | (with_reducible assumption) | assumption)
                  obtain ⟨ad216, e216, hx216_0, hx216_1, hx216_2⟩ := at_T37 (Kd.R_reads' HO_11.out).2.2 x14_4 p216 q216
                  obtain rfl : ad215 = ad216 := (by injection e216)
                  replace p216 := eq_true p216
                  replace q216 := eq_true q216
                  have p217 : 0 <= (x14_4 : Int) := of_decide_eq_true (by first | (with_reducible assumption) | assumption)
                  have q217 : x14_4 < (t205.length : Int) := of_decide_eq_true (by first | (with_reducible assumption) | assumption)
                  obtain ⟨ad217, e217, hx217_0, hx217_1, hx217_2⟩ := at_T37 (Kd.R_reads' HO_11.out).2.2 x14_4 p217 q217
                  obtain rfl : ad215 = ad217 := (by injection e217)
                  replace p217 := eq_true p217
                  replace q217 := eq_true q217
                  refine start_ (n := 22) (S := fun w' => w'.cell? (ad215.add ((x14_4).toNat * 3)) = some (.int .i64 ((rd_T37 t205 x14_4).f0)) /\ w'.cell? ⟨(ad215.add ((x14_4).toNat * 3)).block, (ad215.add ((x14_4).toNat * 3)).off + 1, none⟩ = some (.int .i64 ((rd_T37 t205 x14_4).f1)) /\ w'.cell? ⟨(ad215.add ((x14_4).toNat * 3)).block, (ad215.add ((x14_4).toNat * 3)).off + 2, none⟩ = some (.int .i64 ((rd_T37 t205 x14_4).f2)) /\ w'.cell? (ad215.add ((x14_4).toNat * 3)) = some (.int .i64 ((rd_T37 t205 x14_4).f0)) /\ w'.cell? ⟨(ad215.add ((x14_4).toNat * 3)).block, (ad215.add ((x14_4).toNat * 3)).off + 1, none⟩ = some (.int .i64 ((rd_T37 t205 x14_4).f1)) /\ w'.cell? ⟨(ad215.add ((x14_4).toNat * 3)).block, (ad215.add ((x14_4).toNat * 3)).off + 2, none⟩ = some (.int .i64 ((rd_T37 t205 x14_4).f2)) /\ w'.cell? (ad215.add ((x14_4).toNat * 3)) = some (.int .i64 ((rd_T37 t205 x14_4).f0)) /\ w'.cell? ⟨(ad215.add ((x14_4).toNat * 3)).block, (ad215.add ((x14_4).toNat * 3)).off + 1, none⟩ = some (.int .i64 ((rd_T37 t205 x14_4).f1)) /\ w'.cell? ⟨(ad215.add ((x14_4).toNat * 3)).block, (ad215.add ((x14_4).toNat * 3)).off + 2, none⟩ = some (.int .i64 ((rd_T37 t205 x14_4).f2))) (ds := []) #[f_, f_, f_, f_, f_, f_, f_, f_, f_, f_, f_, f_, f_, f_, f_, f_, f_, f_, f_, f_, f_, f_] (by kernel_rfl) rfl rfl ⟨hx215_0, hx215_1, hx215_2, hx216_0, hx216_1, hx216_2, hx217_0, hx217_1, hx217_2⟩ (fun hHeld => ?_); refine with_tabW leatlaw11_WindowFires.tab22 leatlaw11_WindowFires.bits22 (fun HT_ HW_ => ?_)
                  generalize wr.drew = w49 at HO_5 HO_11 HO_12 HB hx215_0 hx215_1 hx215_2 hx216_0 hx216_1 hx216_2 hx217_0 hx217_1 hx217_2 hHeld ⊢
                  refine pure_ (i := 0) (N := some 89) (v := ?_) (a' := ?_) #[t_, f_, f_, f_, f_, f_, f_, f_, f_, f_, f_, f_, f_, f_, f_, f_, f_, f_, f_, f_, f_, f_] rfl rfl (any_of HT_.out (by kernel_rfl)) (fun _ _ _ h => h) (Or.inl ⟨by rfl, ?_⟩) ?_ ?_
                  rotate_left
                  ·intro w'
                   go_simp
                   with_reducible rfl
                  rotate_left
                  ·simp only [Act.put, za, zb, zc, i64_w, i32_w]
                   rfl
                  refine pure_ (i := 1) (N := some 90) (v := ?_) (a' := ?_) #[t_, t_, f_, f_, f_, f_, f_, f_, f_, f_, f_, f_, f_, f_, f_, f_, f_, f_, f_, f_, f_, f_] rfl rfl (any_of HT_.out (by kernel_rfl)) (fun _ _ _ h => h) (Or.inl ⟨by rfl, ?_⟩) ?_ ?_
                  rotate_left
                  ·intro w'
                   go_simp
                   with_reducible rfl
                  rotate_left
                  ·simp only [Act.put, za, zb, zc, i64_w, i32_w]
                   rfl
                  refine pure_ (i := 2) (N := some 91) (v := ?_) (a' := ?_) #[t_, t_, t_, f_, f_, f_, f_, f_, f_, f_, f_, f_, f_, f_, f_, f_, f_, f_, f_, f_, f_, f_] rfl rfl (any_of HT_.out (by kernel_rfl)) (fun _ _ _ h => h) (Or.inl ⟨by rfl, ?_⟩) ?_ ?_
                  rotate_left
                  ·intro w'
                   go_simp
                   with_reducible rfl
                  rotate_left
                  ·simp only [Act.put, za, zb, zc, i64_w, i32_w]
                   rfl
                  refine pure_ (i := 3) (N := some 92) (v := ?_) (a' := ?_) #[t_, t_, t_, t_, f_, f_, f_, f_, f_, f_, f_, f_, f_, f_, f_, f_, f_, f_, f_, f_, f_, f_] rfl rfl (any_of HT_.out (by kernel_rfl)) (fun _ _ _ h => h) (Or.inl ⟨by rfl, ?_⟩) ?_ ?_
                  rotate_left
                  ·intro w'
                   go_simp
                   with_reducible rfl
                  rotate_left
                  ·simp only [Act.put, za, zb, zc, i64_w, i32_w]
                   rfl
                  refine pure_ (i := 4) (N := some 93) (v := ?_) (a' := ?_) #[t_, t_, t_, t_, t_, f_, f_, f_, f_, f_, f_, f_, f_, f_, f_, f_, f_, f_, f_, f_, f_, f_] rfl rfl (any_of HT_.out (by kernel_rfl)) (fun _ _ _ h => h) (Or.inl ⟨by rfl, ?_⟩) ?_ ?_
                  rotate_left
                  ·intro w'
                   go_simp
                   with_reducible rfl
                  rotate_left
                  ·simp only [Act.put, za, zb, zc, i64_w, i32_w]
                   rfl
                  refine pure_ (i := 8) (N := some 97) (v := ?_) (a' := ?_) #[t_, t_, t_, t_, t_, f_, f_, f_, t_, f_, f_, f_, f_, f_, f_, f_, f_, f_, f_, f_, f_, f_] rfl rfl (any_of HT_.out (by kernel_rfl)) (fun _ _ _ h => h) (Or.inl ⟨by rfl, ?_⟩) ?_ ?_
                  rotate_left
                  ·intro w'
                   go_simp
                   with_reducible rfl
                  rotate_left
                  ·simp only [Act.put, za, zb, zc, i64_w, i32_w]
                   rfl
                  refine pure_ (i := 9) (N := some 98) (v := ?_) (a' := ?_) #[t_, t_, t_, t_, t_, f_, f_, f_, t_, t_, f_, f_, f_, f_, f_, f_, f_, f_, f_, f_, f_, f_] rfl rfl (any_of HT_.out (by kernel_rfl)) (fun _ _ _ h => h) (Or.inl ⟨by rfl, ?_⟩) ?_ ?_
                  rotate_left
                  ·intro w'
                   go_simp
                   with_reducible rfl
                  rotate_left
                  ·simp only [Act.put, za, zb, zc, i64_w, i32_w]
                   rfl
                  refine pure_ (i := 10) (N := some 99) (v := ?_) (a' := ?_) #[t_, t_, t_, t_, t_, f_, f_, f_, t_, t_, t_, f_, f_, f_, f_, f_, f_, f_, f_, f_, f_, f_] rfl rfl (any_of HT_.out (by kernel_rfl)) (fun _ _ _ h => h) (Or.inl ⟨by rfl, ?_⟩) ?_ ?_
                  rotate_left
                  ·intro w'
                   go_simp
                   with_reducible rfl
                  rotate_left
                  ·simp only [Act.put, za, zb, zc, i64_w, i32_w]
                   rfl
                  refine pure_ (i := 11) (N := some 100) (v := ?_) (a' := ?_) #[t_, t_, t_, t_, t_, f_, f_, f_, t_, t_, t_, t_, f_, f_, f_, f_, f_, f_, f_, f_, f_, f_] rfl rfl (any_of HT_.out (by kernel_rfl)) (fun _ _ _ h => h) (Or.inl ⟨by rfl, ?_⟩) ?_ ?_
                  rotate_left
                  ·intro w'
                   go_simp
                   with_reducible rfl
                  rotate_left
                  ·simp only [Act.put, za, zb, zc, i64_w, i32_w]
                   rfl
                  refine pure_ (i := 15) (N := some 104) (v := ?_) (a' := ?_) #[t_, t_, t_, t_, t_, f_, f_, f_, t_, t_, t_, t_, f_, f_, f_, t_, f_, f_, f_, f_, f_, f_] rfl rfl (any_of HT_.out (by kernel_rfl)) (fun _ _ _ h => h) (Or.inl ⟨by rfl, ?_⟩) ?_ ?_
                  rotate_left
                  ·intro w'
                   go_simp
                   with_reducible rfl
                  rotate_left
                  ·simp only [Act.put, za, zb, zc, i64_w, i32_w]
                   rfl
                  refine pure_ (i := 16) (N := some 105) (v := ?_) (a' := ?_) #[t_, t_, t_, t_, t_, f_, f_, f_, t_, t_, t_, t_, f_, f_, f_, t_, t_, f_, f_, f_, f_, f_] rfl rfl (any_of HT_.out (by kernel_rfl)) (fun _ _ _ h => h) (Or.inl ⟨by rfl, ?_⟩) ?_ ?_
                  rotate_left
                  ·intro w'
                   go_simp
                   with_reducible rfl
                  rotate_left
                  ·simp only [Act.put, za, zb, zc, i64_w, i32_w]
                   rfl
                  refine pure_ (i := 17) (N := some 106) (v := ?_) (a' := ?_) #[t_, t_, t_, t_, t_, f_, f_, f_, t_, t_, t_, t_, f_, f_, f_, t_, t_, t_, f_, f_, f_, f_] rfl rfl (any_of HT_.out (by kernel_rfl)) (fun _ _ _ h => h) (Or.inl ⟨by rfl, ?_⟩) ?_ ?_
                  rotate_left
                  ·intro w'
                   go_simp
                   with_reducible rfl
                  rotate_left
                  ·simp only [Act.put, za, zb, zc, i64_w, i32_w]
                   rfl
                  refine pure_ (i := 18) (N := some 107) (v := ?_) (a' := ?_) #[t_, t_, t_, t_, t_, f_, f_, f_, t_, t_, t_, t_, f_, f_, f_, t_, t_, t_, t_, f_, f_, f_] rfl rfl (any_of HT_.out (by kernel_rfl)) (fun _ _ _ h => h) (Or.inl ⟨by rfl, ?_⟩) ?_ ?_
                  rotate_left
                  ·intro w'
                   go_simp
                   with_reducible rfl
                  rotate_left
                  ·simp only [Act.put, za, zb, zc, i64_w, i32_w]
                   rfl
                  refine take_ (i := 5) (N := some 94) (v := ?_) (a' := ?_) #[t_, t_, t_, t_, t_, t_, f_, f_, t_, t_, t_, t_, f_, f_, f_, t_, t_, t_, t_, f_, f_, f_] rfl rfl (take_ofW HT_.out HW_.out (by kernel_rfl)) (fun _ _ _ h => h) (Or.inl ⟨by rfl, ?_⟩) hHeld ?_ ?_
                  rotate_left
                  ·rintro w' ⟨s0, s1, s2, s3, s4, s5, s6, s7, s8⟩
                   go_simp
                   with_reducible rfl
                  rotate_left
                  ·simp only [Act.put, za, zb, zc, i64_w, i32_w]
                   rfl
                  refine pure_ (i := 6) (N := some 95) (v := ?_) (a' := ?_) #[t_, t_, t_, t_, t_, t_, t_, f_, t_, t_, t_, t_, f_, f_, f_, t_, t_, t_, t_, f_, f_, f_] rfl rfl (any_of HT_.out (by kernel_rfl)) (fun _ _ _ h => h) (Or.inl ⟨by rfl, ?_⟩) ?_ ?_
                  rotate_left
                  ·intro w'
                   go_simp
                   with_reducible rfl
                  rotate_left
                  ·simp only [Act.put, za, zb, zc, i64_w, i32_w]
                   rfl
                  refine pure_ (i := 7) (N := some 96) (v := ?_) (a' := ?_) #[t_, t_, t_, t_, t_, t_, t_, t_, t_, t_, t_, t_, f_, f_, f_, t_, t_, t_, t_, f_, f_, f_] rfl rfl (any_of HT_.out (by kernel_rfl)) (fun _ _ _ h => h) (Or.inl ⟨by rfl, ?_⟩) ?_ ?_
                  rotate_left
                  ·intro w'
                   go_simp
                   with_reducible rfl
                  rotate_left
                  ·simp only [Act.put, za, zb, zc, i64_w, i32_w]
                   rfl
                  refine take_ (i := 12) (N := some 101) (v := ?_) (a' := ?_) #[t_, t_, t_, t_, t_, t_, t_, t_, t_, t_, t_, t_, t_, f_, f_, t_, t_, t_, t_, f_, f_, f_] rfl rfl (take_ofW HT_.out HW_.out (by kernel_rfl)) (fun _ _ _ h => h) (Or.inl ⟨by rfl, ?_⟩) hHeld ?_ ?_
                  rotate_left
                  ·rintro w' ⟨s0, s1, s2, s3, s4, s5, s6, s7, s8⟩
                   go_simp
                   with_reducible rfl
                  rotate_left
                  ·simp only [Act.put, za, zb, zc, i64_w, i32_w]
                   rfl
                  refine pure_ (i := 13) (N := some 102) (v := ?_) (a' := ?_) #[t_, t_, t_, t_, t_, t_, t_, t_, t_, t_, t_, t_, t_, t_, f_, t_, t_, t_, t_, f_, f_, f_] rfl rfl (any_of HT_.out (by kernel_rfl)) (fun _ _ _ h => h) (Or.inl ⟨by rfl, ?_⟩) ?_ ?_
                  rotate_left
                  ·intro w'
                   go_simp
                   with_reducible rfl
                  rotate_left
                  ·simp only [Act.put, za, zb, zc, i64_w, i32_w]
                   rfl
                  refine pure_ (i := 14) (N := some 103) (v := ?_) (a' := ?_) #[t_, t_, t_, t_, t_, t_, t_, t_, t_, t_, t_, t_, t_, t_, t_, t_, t_, t_, t_, f_, f_, f_] rfl rfl (any_of HT_.out (by kernel_rfl)) (fun _ _ _ h => h) (Or.inl ⟨by rfl, ?_⟩) ?_ ?_
                  rotate_left
                  ·intro w'
                   go_simp
                   with_reducible rfl
                  rotate_left
                  ·simp only [Act.put, za, zb, zc, i64_w, i32_w]
                   rfl
                  refine take_ (i := 19) (N := some 108) (v := ?_) (a' := ?_) #[t_, t_, t_, t_, t_, t_, t_, t_, t_, t_, t_, t_, t_, t_, t_, t_, t_, t_, t_, t_, f_, f_] rfl rfl (take_ofW HT_.out HW_.out (by kernel_rfl)) (fun _ _ _ h => h) (Or.inl ⟨by rfl, ?_⟩) hHeld ?_ ?_
                  rotate_left
                  ·rintro w' ⟨s0, s1, s2, s3, s4, s5, s6, s7, s8⟩
                   go_simp
                   with_reducible rfl
                  rotate_left
                  ·simp only [Act.put, za, zb, zc, i64_w, i32_w]
                   rfl
                  refine pure_ (i := 20) (N := some 109) (v := ?_) (a' := ?_) #[t_, t_, t_, t_, t_, t_, t_, t_, t_, t_, t_, t_, t_, t_, t_, t_, t_, t_, t_, t_, t_, f_] rfl rfl (any_of HT_.out (by kernel_rfl)) (fun _ _ _ h => h) (Or.inl ⟨by rfl, ?_⟩) ?_ ?_
                  rotate_left
                  ·intro w'
                   go_simp
                   with_reducible rfl
                  rotate_left
                  ·simp only [Act.put, za, zb, zc, i64_w, i32_w]
                   rfl
                  refine pure_ (i := 21) (N := some 13) (v := ?_) (a' := ?_) #[t_, t_, t_, t_, t_, t_, t_, t_, t_, t_, t_, t_, t_, t_, t_, t_, t_, t_, t_, t_, t_, t_] rfl rfl (any_of HT_.out (by kernel_rfl)) (fun _ _ _ h => h) (Or.inl ⟨by rfl, ?_⟩) ?_ ?_
                  rotate_left
                  ·intro w'
                   go_simp
                   with_reducible rfl
                  rotate_left
                  ·simp only [Act.put, za, zb, zc, i64_w, i32_w]
                   rfl
                  refine done_ (done_of HT_.out (by kernel_rfl)) ?_
                  try go_wp2
                  have n0_ := zd (zg HO_5.out)
                  have n1_ := zd (zg HO_11.out)
                  have n2_ := zd (zg HO_12.out)
                  have n3_ := zd (zj HB.out)
                  clear HO_5
                  clear HO_11
                  clear HO_12
                  clear HB
                  have HO_5 := n0_
                  have HO_11 := n1_
                  have HO_12 := n2_
                  have HB := n3_
                  clear n0_ n1_ n2_ n3_
                  obtain ⟨Ao51, co51, eo51⟩ := Kd.R_slice HO_5.out
                  (first | subst eo51 | (injection eo51 with f1_ f2_ f3_; have f4_ := f1_.symm; have f5_ := f3_.symm; clear f1_ f2_ f3_; subst f4_; subst f5_))
                  have p218 : 0 <= (x14_4 : Int) := of_decide_eq_true (by first | (with_reducible assumption) | assumption)
                  have q218 : x14_4 < (x5_2.length : Int) := of_decide_eq_true (by first | (with_reducible assumption) | assumption)
                  obtain ⟨ad218, e218, hx218_0, hx218_1, hx218_2⟩ := at_T37 (Kd.R_reads' HO_5.out).2.2 x14_4 p218 q218
                  cases e218
                  replace p218 := eq_true p218
                  replace q218 := eq_true q218
                  have p219 : 0 <= (x14_4 : Int) := of_decide_eq_true (by first | (with_reducible assumption) | assumption)
                  have q219 : x14_4 < (x5_2.length : Int) := of_decide_eq_true (by first | (with_reducible assumption) | assumption)
                  obtain ⟨ad219, e219, hx219_0, hx219_1, hx219_2⟩ := at_T37 (Kd.R_reads' HO_5.out).2.2 x14_4 p219 q219
                  obtain rfl : ad218 = ad219 := (by injection e219)
                  replace p219 := eq_true p219
                  replace q219 := eq_true q219
                  have p220 : 0 <= (x14_4 : Int) := of_decide_eq_true (by first | (with_reducible assumption) | assumption)
                  have q220 : x14_4 < (x5_2.length : Int) := of_decide_eq_true (by first | (with_reducible assumption) | assumption)
                  obtain ⟨ad220, e220, hx220_0, hx220_1, hx220_2⟩ := at_T37 (Kd.R_reads' HO_5.out).2.2 x14_4 p220 q220
                  obtain rfl : ad218 = ad220 := (by injection e220)
                  replace p220 := eq_true p220
                  replace q220 := eq_true q220
                  refine start_ (n := 22) (S := fun w' => w'.cell? (ad218.add ((x14_4).toNat * 3)) = some (.int .i64 ((rd_T37 x5_2 x14_4).f0)) /\ w'.cell? ⟨(ad218.add ((x14_4).toNat * 3)).block, (ad218.add ((x14_4).toNat * 3)).off + 1, none⟩ = some (.int .i64 ((rd_T37 x5_2 x14_4).f1)) /\ w'.cell? ⟨(ad218.add ((x14_4).toNat * 3)).block, (ad218.add ((x14_4).toNat * 3)).off + 2, none⟩ = some (.int .i64 ((rd_T37 x5_2 x14_4).f2)) /\ w'.cell? (ad218.add ((x14_4).toNat * 3)) = some (.int .i64 ((rd_T37 x5_2 x14_4).f0)) /\ w'.cell? ⟨(ad218.add ((x14_4).toNat * 3)).block, (ad218.add ((x14_4).toNat * 3)).off + 1, none⟩ = some (.int .i64 ((rd_T37 x5_2 x14_4).f1)) /\ w'.cell? ⟨(ad218.add ((x14_4).toNat * 3)).block, (ad218.add ((x14_4).toNat * 3)).off + 2, none⟩ = some (.int .i64 ((rd_T37 x5_2 x14_4).f2)) /\ w'.cell? (ad218.add ((x14_4).toNat * 3)) = some (.int .i64 ((rd_T37 x5_2 x14_4).f0)) /\ w'.cell? ⟨(ad218.add ((x14_4).toNat * 3)).block, (ad218.add ((x14_4).toNat * 3)).off + 1, none⟩ = some (.int .i64 ((rd_T37 x5_2 x14_4).f1)) /\ w'.cell? ⟨(ad218.add ((x14_4).toNat * 3)).block, (ad218.add ((x14_4).toNat * 3)).off + 2, none⟩ = some (.int .i64 ((rd_T37 x5_2 x14_4).f2))) (ds := []) #[f_, f_, f_, f_, f_, f_, f_, f_, f_, f_, f_, f_, f_, f_, f_, f_, f_, f_, f_, f_, f_, f_] (by kernel_rfl) rfl rfl ⟨hx218_0, hx218_1, hx218_2, hx219_0, hx219_1, hx219_2, hx220_0, hx220_1, hx220_2⟩ (fun hHeld => ?_); refine with_tabW leatlaw11_WindowFires.tab23 leatlaw11_WindowFires.bits23 (fun HT_ HW_ => ?_)
                  generalize w49.drew = w50 at HO_5 HO_11 HO_12 HB hx218_0 hx218_1 hx218_2 hx219_0 hx219_1 hx219_2 hx220_0 hx220_1 hx220_2 hHeld ⊢
                  refine pure_ (i := 0) (N := some 110) (v := ?_) (a' := ?_) #[t_, f_, f_, f_, f_, f_, f_, f_, f_, f_, f_, f_, f_, f_, f_, f_, f_, f_, f_, f_, f_, f_] rfl rfl (any_of HT_.out (by kernel_rfl)) (fun _ _ _ h => h) (Or.inl ⟨by rfl, ?_⟩) ?_ ?_
                  rotate_left
                  ·intro w'
                   go_simp
                   with_reducible rfl
                  rotate_left
                  ·simp only [Act.put, za, zb, zc, i64_w, i32_w]
                   rfl
                  refine pure_ (i := 1) (N := some 111) (v := ?_) (a' := ?_) #[t_, t_, f_, f_, f_, f_, f_, f_, f_, f_, f_, f_, f_, f_, f_, f_, f_, f_, f_, f_, f_, f_] rfl rfl (any_of HT_.out (by kernel_rfl)) (fun _ _ _ h => h) (Or.inl ⟨by rfl, ?_⟩) ?_ ?_
                  rotate_left
                  ·intro w'
                   go_simp
                   with_reducible rfl
                  rotate_left
                  ·simp only [Act.put, za, zb, zc, i64_w, i32_w]
                   rfl
                  refine pure_ (i := 2) (N := some 112) (v := ?_) (a' := ?_) #[t_, t_, t_, f_, f_, f_, f_, f_, f_, f_, f_, f_, f_, f_, f_, f_, f_, f_, f_, f_, f_, f_] rfl rfl (any_of HT_.out (by kernel_rfl)) (fun _ _ _ h => h) (Or.inl ⟨by rfl, ?_⟩) ?_ ?_
                  rotate_left
                  ·intro w'
                   go_simp
                   with_reducible rfl
                  rotate_left
                  ·simp only [Act.put, za, zb, zc, i64_w, i32_w]
                   rfl
                  refine pure_ (i := 3) (N := some 113) (v := ?_) (a' := ?_) #[t_, t_, t_, t_, f_, f_, f_, f_, f_, f_, f_, f_, f_, f_, f_, f_, f_, f_, f_, f_, f_, f_] rfl rfl (any_of HT_.out (by kernel_rfl)) (fun _ _ _ h => h) (Or.inl ⟨by rfl, ?_⟩) ?_ ?_
                  rotate_left
                  ·intro w'
                   go_simp
                   with_reducible rfl
                  rotate_left
                  ·simp only [Act.put, za, zb, zc, i64_w, i32_w]
                   rfl
                  refine pure_ (i := 4) (N := some 114) (v := ?_) (a' := ?_) #[t_, t_, t_, t_, t_, f_, f_, f_, f_, f_, f_, f_, f_, f_, f_, f_, f_, f_, f_, f_, f_, f_] rfl rfl (any_of HT_.out (by kernel_rfl)) (fun _ _ _ h => h) (Or.inl ⟨by rfl, ?_⟩) ?_ ?_
                  rotate_left
                  ·intro w'
                   go_simp
                   with_reducible rfl
                  rotate_left
                  ·simp only [Act.put, za, zb, zc, i64_w, i32_w]
                   rfl
                  refine pure_ (i := 8) (N := some 118) (v := ?_) (a' := ?_) #[t_, t_, t_, t_, t_, f_, f_, f_, t_, f_, f_, f_, f_, f_, f_, f_, f_, f_, f_, f_, f_, f_] rfl rfl (any_of HT_.out (by kernel_rfl)) (fun _ _ _ h => h) (Or.inl ⟨by rfl, ?_⟩) ?_ ?_
                  rotate_left
                  ·intro w'
                   go_simp
                   with_reducible rfl
                  rotate_left
                  ·simp only [Act.put, za, zb, zc, i64_w, i32_w]
                   rfl
                  refine pure_ (i := 9) (N := some 119) (v := ?_) (a' := ?_) #[t_, t_, t_, t_, t_, f_, f_, f_, t_, t_, f_, f_, f_, f_, f_, f_, f_, f_, f_, f_, f_, f_] rfl rfl (any_of HT_.out (by kernel_rfl)) (fun _ _ _ h => h) (Or.inl ⟨by rfl, ?_⟩) ?_ ?_
                  rotate_left
                  ·intro w'
                   go_simp
                   with_reducible rfl
                  rotate_left
                  ·simp only [Act.put, za, zb, zc, i64_w, i32_w]
                   rfl
                  refine pure_ (i := 10) (N := some 120) (v := ?_) (a' := ?_) #[t_, t_, t_, t_, t_, f_, f_, f_, t_, t_, t_, f_, f_, f_, f_, f_, f_, f_, f_, f_, f_, f_] rfl rfl (any_of HT_.out (by kernel_rfl)) (fun _ _ _ h => h) (Or.inl ⟨by rfl, ?_⟩) ?_ ?_
                  rotate_left
                  ·intro w'
                   go_simp
                   with_reducible rfl
                  rotate_left
                  ·simp only [Act.put, za, zb, zc, i64_w, i32_w]
                   rfl
                  refine pure_ (i := 11) (N := some 121) (v := ?_) (a' := ?_) #[t_, t_, t_, t_, t_, f_, f_, f_, t_, t_, t_, t_, f_, f_, f_, f_, f_, f_, f_, f_, f_, f_] rfl rfl (any_of HT_.out (by kernel_rfl)) (fun _ _ _ h => h) (Or.inl ⟨by rfl, ?_⟩) ?_ ?_
                  rotate_left
                  ·intro w'
                   go_simp
                   with_reducible rfl
                  rotate_left
                  ·simp only [Act.put, za, zb, zc, i64_w, i32_w]
                   rfl
                  refine pure_ (i := 15) (N := some 125) (v := ?_) (a' := ?_) #[t_, t_, t_, t_, t_, f_, f_, f_, t_, t_, t_, t_, f_, f_, f_, t_, f_, f_, f_, f_, f_, f_] rfl rfl (any_of HT_.out (by kernel_rfl)) (fun _ _ _ h => h) (Or.inl ⟨by rfl, ?_⟩) ?_ ?_
                  rotate_left
                  ·intro w'
                   go_simp
                   with_reducible rfl
                  rotate_left
                  ·simp only [Act.put, za, zb, zc, i64_w, i32_w]
                   rfl
                  refine pure_ (i := 16) (N := some 126) (v := ?_) (a' := ?_) #[t_, t_, t_, t_, t_, f_, f_, f_, t_, t_, t_, t_, f_, f_, f_, t_, t_, f_, f_, f_, f_, f_] rfl rfl (any_of HT_.out (by kernel_rfl)) (fun _ _ _ h => h) (Or.inl ⟨by rfl, ?_⟩) ?_ ?_
                  rotate_left
                  ·intro w'
                   go_simp
                   with_reducible rfl
                  rotate_left
                  ·simp only [Act.put, za, zb, zc, i64_w, i32_w]
                   rfl
                  refine pure_ (i := 17) (N := some 127) (v := ?_) (a' := ?_) #[t_, t_, t_, t_, t_, f_, f_, f_, t_, t_, t_, t_, f_, f_, f_, t_, t_, t_, f_, f_, f_, f_] rfl rfl (any_of HT_.out (by kernel_rfl)) (fun _ _ _ h => h) (Or.inl ⟨by rfl, ?_⟩) ?_ ?_
                  rotate_left
                  ·intro w'
                   go_simp
                   with_reducible rfl
                  rotate_left
                  ·simp only [Act.put, za, zb, zc, i64_w, i32_w]
                   rfl
                  refine pure_ (i := 18) (N := some 128) (v := ?_) (a' := ?_) #[t_, t_, t_, t_, t_, f_, f_, f_, t_, t_, t_, t_, f_, f_, f_, t_, t_, t_, t_, f_, f_, f_] rfl rfl (any_of HT_.out (by kernel_rfl)) (fun _ _ _ h => h) (Or.inl ⟨by rfl, ?_⟩) ?_ ?_
                  rotate_left
                  ·intro w'
                   go_simp
                   with_reducible rfl
                  rotate_left
                  ·simp only [Act.put, za, zb, zc, i64_w, i32_w]
                   rfl
                  refine take_ (i := 5) (N := some 115) (v := ?_) (a' := ?_) #[t_, t_, t_, t_, t_, t_, f_, f_, t_, t_, t_, t_, f_, f_, f_, t_, t_, t_, t_, f_, f_, f_] rfl rfl (take_ofW HT_.out HW_.out (by kernel_rfl)) (fun _ _ _ h => h) (Or.inl ⟨by rfl, ?_⟩) hHeld ?_ ?_
                  rotate_left
                  ·rintro w' ⟨s0, s1, s2, s3, s4, s5, s6, s7, s8⟩
                   go_simp
                   with_reducible rfl
                  rotate_left
                  ·simp only [Act.put, za, zb, zc, i64_w, i32_w]
                   rfl
                  refine pure_ (i := 6) (N := some 116) (v := ?_) (a' := ?_) #[t_, t_, t_, t_, t_, t_, t_, f_, t_, t_, t_, t_, f_, f_, f_, t_, t_, t_, t_, f_, f_, f_] rfl rfl (any_of HT_.out (by kernel_rfl)) (fun _ _ _ h => h) (Or.inl ⟨by rfl, ?_⟩) ?_ ?_
                  rotate_left
                  ·intro w'
                   go_simp
                   with_reducible rfl
                  rotate_left
                  ·simp only [Act.put, za, zb, zc, i64_w, i32_w]
                   rfl
                  refine pure_ (i := 7) (N := some 117) (v := ?_) (a' := ?_) #[t_, t_, t_, t_, t_, t_, t_, t_, t_, t_, t_, t_, f_, f_, f_, t_, t_, t_, t_, f_, f_, f_] rfl rfl (any_of HT_.out (by kernel_rfl)) (fun _ _ _ h => h) (Or.inl ⟨by rfl, ?_⟩) ?_ ?_
                  rotate_left
                  ·intro w'
                   go_simp
                   with_reducible rfl
                  rotate_left
                  ·simp only [Act.put, za, zb, zc, i64_w, i32_w]
                   rfl
                  refine take_ (i := 12) (N := some 122) (v := ?_) (a' := ?_) #[t_, t_, t_, t_, t_, t_, t_, t_, t_, t_, t_, t_, t_, f_, f_, t_, t_, t_, t_, f_, f_, f_] rfl rfl (take_ofW HT_.out HW_.out (by kernel_rfl)) (fun _ _ _ h => h) (Or.inl ⟨by rfl, ?_⟩) hHeld ?_ ?_
                  rotate_left
                  ·rintro w' ⟨s0, s1, s2, s3, s4, s5, s6, s7, s8⟩
                   go_simp
                   with_reducible rfl
                  rotate_left
                  ·simp only [Act.put, za, zb, zc, i64_w, i32_w]
                   rfl
                  refine pure_ (i := 13) (N := some 123) (v := ?_) (a' := ?_) #[t_, t_, t_, t_, t_, t_, t_, t_, t_, t_, t_, t_, t_, t_, f_, t_, t_, t_, t_, f_, f_, f_] rfl rfl (any_of HT_.out (by kernel_rfl)) (fun _ _ _ h => h) (Or.inl ⟨by rfl, ?_⟩) ?_ ?_
                  rotate_left
                  ·intro w'
                   go_simp
                   with_reducible rfl
                  rotate_left
                  ·simp only [Act.put, za, zb, zc, i64_w, i32_w]
                   rfl
                  refine pure_ (i := 14) (N := some 124) (v := ?_) (a' := ?_) #[t_, t_, t_, t_, t_, t_, t_, t_, t_, t_, t_, t_, t_, t_, t_, t_, t_, t_, t_, f_, f_, f_] rfl rfl (any_of HT_.out (by kernel_rfl)) (fun _ _ _ h => h) (Or.inl ⟨by rfl, ?_⟩) ?_ ?_
                  rotate_left
                  ·intro w'
                   go_simp
                   with_reducible rfl
                  rotate_left
                  ·simp only [Act.put, za, zb, zc, i64_w, i32_w]
                   rfl
                  refine take_ (i := 19) (N := some 129) (v := ?_) (a' := ?_) #[t_, t_, t_, t_, t_, t_, t_, t_, t_, t_, t_, t_, t_, t_, t_, t_, t_, t_, t_, t_, f_, f_] rfl rfl (take_ofW HT_.out HW_.out (by kernel_rfl)) (fun _ _ _ h => h) (Or.inl ⟨by rfl, ?_⟩) hHeld ?_ ?_
                  rotate_left
                  ·rintro w' ⟨s0, s1, s2, s3, s4, s5, s6, s7, s8⟩
                   go_simp
                   with_reducible rfl
                  rotate_left
                  ·simp only [Act.put, za, zb, zc, i64_w, i32_w]
                   rfl
                  refine pure_ (i := 20) (N := some 130) (v := ?_) (a' := ?_) #[t_, t_, t_, t_, t_, t_, t_, t_, t_, t_, t_, t_, t_, t_, t_, t_, t_, t_, t_, t_, t_, f_] rfl rfl (any_of HT_.out (by kernel_rfl)) (fun _ _ _ h => h) (Or.inl ⟨by rfl, ?_⟩) ?_ ?_
                  rotate_left
                  ·intro w'
                   go_simp
                   with_reducible rfl
                  rotate_left
                  ·simp only [Act.put, za, zb, zc, i64_w, i32_w]
                   rfl
                  refine pure_ (i := 21) (N := some 13) (v := ?_) (a' := ?_) #[t_, t_, t_, t_, t_, t_, t_, t_, t_, t_, t_, t_, t_, t_, t_, t_, t_, t_, t_, t_, t_, t_] rfl rfl (any_of HT_.out (by kernel_rfl)) (fun _ _ _ h => h) (Or.inl ⟨by rfl, ?_⟩) ?_ ?_
                  rotate_left
                  ·intro w'
                   go_simp
                   with_reducible rfl
                  rotate_left
                  ·simp only [Act.put, za, zb, zc, i64_w, i32_w]
                   rfl
                  refine done_ (done_of HT_.out (by kernel_rfl)) ?_
                  have p221 : 0 <= (x14_4 : Int) := of_decide_eq_true (by first | (with_reducible assumption) | assumption)
                  have q221 : x14_4 < (x5_2.length : Int) := of_decide_eq_true (by first | (with_reducible assumption) | assumption)
                  obtain ⟨ad221, e221, hx221_0, hx221_1, hx221_2⟩ := at_T37 (Kd.R_reads' HO_5.out).2.2 x14_4 p221 q221
                  obtain rfl : ad218 = ad221 := (by injection e221)
                  replace p221 := eq_true p221
                  replace q221 := eq_true q221
                  try go_wp2
                  go_ret
                  exact ⟨by first | rfl | (simp [errW_none, errW_some] <;> rfl) | (simp [*, errW_none, errW_some] <;> rfl), by repeat (first | (with_reducible first | exact HB.out | apply zh | apply zi | apply zj) | exact HB.out)⟩
                 ·rw [if_neg c47] at H
                  have c47b0 : decide (x7_2 < ((rd_T37 x5_2 x14_4).f1)) = false := decide_eq_false c47
                  clear c47
                  have H' := zd H
                  clear H
                  obtain ⟨Ao52, co52, eo52⟩ := Kd.R_slice HO_11.out
                  subst eo52
                  try go_wp2
                  have n0_ := zd (zg HO_5.out)
                  have n1_ := zd (zg HO_11.out)
                  have n2_ := zd (zg HO_12.out)
                  have n3_ := zd (zj HB.out)
                  clear HO_5
                  clear HO_11
                  clear HO_12
                  clear HB
                  have HO_5 := n0_
                  have HO_11 := n1_
                  have HO_12 := n2_
                  have HB := n3_
                  clear n0_ n1_ n2_ n3_
                  have p215 : 0 <= (x14_4 : Int) := of_decide_eq_true (by first | (with_reducible assumption) | assumption)
                  have q215 : x14_4 < (t205.length : Int) := of_decide_eq_true (by first | (with_reducible assumption) | assumption)
                  obtain ⟨ad215, e215, hx215_0, hx215_1, hx215_2⟩ := at_T37 (Kd.R_reads' HO_11.out).2.2 x14_4 p215 q215
                  cases e215
                  replace p215 := eq_true p215
                  replace q215 := eq_true q215
                  have p216 : 0 <= (x14_4 : Int) := of_decide_eq_true (by first | (with_reducible assumption) | assumption)
                  have q216 : x14_4 < (t205.length : Int) := of_decide_eq_true (by first | (with_reducible assumption) | assumption)
                  obtain ⟨ad216, e216, hx216_0, hx216_1, hx216_2⟩ := at_T37 (Kd.R_reads' HO_11.out).2.2 x14_4 p216 q216
                  obtain rfl : ad215 = ad216 := (by injection e216)
                  replace p216 := eq_true p216
                  replace q216 := eq_true q216
                  have p217 : 0 <= (x14_4 : Int) := of_decide_eq_true (by first | (with_reducible assumption) | assumption)
                  have q217 : x14_4 < (t205.length : Int) := of_decide_eq_true (by first | (with_reducible assumption) | assumption)
                  obtain ⟨ad217, e217, hx217_0, hx217_1, hx217_2⟩ := at_T37 (Kd.R_reads' HO_11.out).2.2 x14_4 p217 q217
                  obtain rfl : ad215 = ad217 := (by injection e217)
                  replace p217 := eq_true p217
                  replace q217 := eq_true q217
                  refine start_ (n := 22) (S := fun w' => w'.cell? (ad215.add ((x14_4).toNat * 3)) = some (.int .i64 ((rd_T37 t205 x14_4).f0)) /\ w'.cell? ⟨(ad215.add ((x14_4).toNat * 3)).block, (ad215.add ((x14_4).toNat * 3)).off + 1, none⟩ = some (.int .i64 ((rd_T37 t205 x14_4).f1)) /\ w'.cell? ⟨(ad215.add ((x14_4).toNat * 3)).block, (ad215.add ((x14_4).toNat * 3)).off + 2, none⟩ = some (.int .i64 ((rd_T37 t205 x14_4).f2)) /\ w'.cell? (ad215.add ((x14_4).toNat * 3)) = some (.int .i64 ((rd_T37 t205 x14_4).f0)) /\ w'.cell? ⟨(ad215.add ((x14_4).toNat * 3)).block, (ad215.add ((x14_4).toNat * 3)).off + 1, none⟩ = some (.int .i64 ((rd_T37 t205 x14_4).f1)) /\ w'.cell? ⟨(ad215.add ((x14_4).toNat * 3)).block, (ad215.add ((x14_4).toNat * 3)).off + 2, none⟩ = some (.int .i64 ((rd_T37 t205 x14_4).f2)) /\ w'.cell? (ad215.add ((x14_4).toNat * 3)) = some (.int .i64 ((rd_T37 t205 x14_4).f0)) /\ w'.cell? ⟨(ad215.add ((x14_4).toNat * 3)).block, (ad215.add ((x14_4).toNat * 3)).off + 1, none⟩ = some (.int .i64 ((rd_T37 t205 x14_4).f1)) /\ w'.cell? ⟨(ad215.add ((x14_4).toNat * 3)).block, (ad215.add ((x14_4).toNat * 3)).off + 2, none⟩ = some (.int .i64 ((rd_T37 t205 x14_4).f2))) (ds := []) #[f_, f_, f_, f_, f_, f_, f_, f_, f_, f_, f_, f_, f_, f_, f_, f_, f_, f_, f_, f_, f_, f_] (by kernel_rfl) rfl rfl ⟨hx215_0, hx215_1, hx215_2, hx216_0, hx216_1, hx216_2, hx217_0, hx217_1, hx217_2⟩ (fun hHeld => ?_); refine with_tabW leatlaw11_WindowFires.tab22 leatlaw11_WindowFires.bits22 (fun HT_ HW_ => ?_)
                  generalize wr.drew = w53 at HO_5 HO_11 HO_12 HB hx215_0 hx215_1 hx215_2 hx216_0 hx216_1 hx216_2 hx217_0 hx217_1 hx217_2 hHeld ⊢
                  refine pure_ (i := 0) (N := some 89) (v := ?_) (a' := ?_) #[t_, f_, f_, f_, f_, f_, f_, f_, f_, f_, f_, f_, f_, f_, f_, f_, f_, f_, f_, f_, f_, f_] rfl rfl (any_of HT_.out (by kernel_rfl)) (fun _ _ _ h => h) (Or.inl ⟨by rfl, ?_⟩) ?_ ?_
                  rotate_left
                  ·intro w'
                   go_simp
                   with_reducible rfl
                  rotate_left
                  ·simp only [Act.put, za, zb, zc, i64_w, i32_w]
                   rfl
                  refine pure_ (i := 1) (N := some 90) (v := ?_) (a' := ?_) #[t_, t_, f_, f_, f_, f_, f_, f_, f_, f_, f_, f_, f_, f_, f_, f_, f_, f_, f_, f_, f_, f_] rfl rfl (any_of HT_.out (by kernel_rfl)) (fun _ _ _ h => h) (Or.inl ⟨by rfl, ?_⟩) ?_ ?_
                  rotate_left
                  ·intro w'
                   go_simp
                   with_reducible rfl
                  rotate_left
                  ·simp only [Act.put, za, zb, zc, i64_w, i32_w]
                   rfl
                  refine pure_ (i := 2) (N := some 91) (v := ?_) (a' := ?_) #[t_, t_, t_, f_, f_, f_, f_, f_, f_, f_, f_, f_, f_, f_, f_, f_, f_, f_, f_, f_, f_, f_] rfl rfl (any_of HT_.out (by kernel_rfl)) (fun _ _ _ h => h) (Or.inl ⟨by rfl, ?_⟩) ?_ ?_
                  rotate_left
                  ·intro w'
                   go_simp
                   with_reducible rfl
                  rotate_left
                  ·simp only [Act.put, za, zb, zc, i64_w, i32_w]
                   rfl
                  refine pure_ (i := 3) (N := some 92) (v := ?_) (a' := ?_) #[t_, t_, t_, t_, f_, f_, f_, f_, f_, f_, f_, f_, f_, f_, f_, f_, f_, f_, f_, f_, f_, f_] rfl rfl (any_of HT_.out (by kernel_rfl)) (fun _ _ _ h => h) (Or.inl ⟨by rfl, ?_⟩) ?_ ?_
                  rotate_left
                  ·intro w'
                   go_simp
                   with_reducible rfl
                  rotate_left
                  ·simp only [Act.put, za, zb, zc, i64_w, i32_w]
                   rfl
                  refine pure_ (i := 4) (N := some 93) (v := ?_) (a' := ?_) #[t_, t_, t_, t_, t_, f_, f_, f_, f_, f_, f_, f_, f_, f_, f_, f_, f_, f_, f_, f_, f_, f_] rfl rfl (any_of HT_.out (by kernel_rfl)) (fun _ _ _ h => h) (Or.inl ⟨by rfl, ?_⟩) ?_ ?_
                  rotate_left
                  ·intro w'
                   go_simp
                   with_reducible rfl
                  rotate_left
                  ·simp only [Act.put, za, zb, zc, i64_w, i32_w]
                   rfl
                  refine pure_ (i := 8) (N := some 97) (v := ?_) (a' := ?_) #[t_, t_, t_, t_, t_, f_, f_, f_, t_, f_, f_, f_, f_, f_, f_, f_, f_, f_, f_, f_, f_, f_] rfl rfl (any_of HT_.out (by kernel_rfl)) (fun _ _ _ h => h) (Or.inl ⟨by rfl, ?_⟩) ?_ ?_
                  rotate_left
                  ·intro w'
                   go_simp
                   with_reducible rfl
                  rotate_left
                  ·simp only [Act.put, za, zb, zc, i64_w, i32_w]
                   rfl
                  refine pure_ (i := 9) (N := some 98) (v := ?_) (a' := ?_) #[t_, t_, t_, t_, t_, f_, f_, f_, t_, t_, f_, f_, f_, f_, f_, f_, f_, f_, f_, f_, f_, f_] rfl rfl (any_of HT_.out (by kernel_rfl)) (fun _ _ _ h => h) (Or.inl ⟨by rfl, ?_⟩) ?_ ?_
                  rotate_left
                  ·intro w'
                   go_simp
                   with_reducible rfl
                  rotate_left
                  ·simp only [Act.put, za, zb, zc, i64_w, i32_w]
                   rfl
                  refine pure_ (i := 10) (N := some 99) (v := ?_) (a' := ?_) #[t_, t_, t_, t_, t_, f_, f_, f_, t_, t_, t_, f_, f_, f_, f_, f_, f_, f_, f_, f_, f_, f_] rfl rfl (any_of HT_.out (by kernel_rfl)) (fun _ _ _ h => h) (Or.inl ⟨by rfl, ?_⟩) ?_ ?_
                  rotate_left
                  ·intro w'
                   go_simp
                   with_reducible rfl
                  rotate_left
                  ·simp only [Act.put, za, zb, zc, i64_w, i32_w]
                   rfl
                  refine pure_ (i := 11) (N := some 100) (v := ?_) (a' := ?_) #[t_, t_, t_, t_, t_, f_, f_, f_, t_, t_, t_, t_, f_, f_, f_, f_, f_, f_, f_, f_, f_, f_] rfl rfl (any_of HT_.out (by kernel_rfl)) (fun _ _ _ h => h) (Or.inl ⟨by rfl, ?_⟩) ?_ ?_
                  rotate_left
                  ·intro w'
                   go_simp
                   with_reducible rfl
                  rotate_left
                  ·simp only [Act.put, za, zb, zc, i64_w, i32_w]
                   rfl
                  refine pure_ (i := 15) (N := some 104) (v := ?_) (a' := ?_) #[t_, t_, t_, t_, t_, f_, f_, f_, t_, t_, t_, t_, f_, f_, f_, t_, f_, f_, f_, f_, f_, f_] rfl rfl (any_of HT_.out (by kernel_rfl)) (fun _ _ _ h => h) (Or.inl ⟨by rfl, ?_⟩) ?_ ?_
                  rotate_left
                  ·intro w'
                   go_simp
                   with_reducible rfl
                  rotate_left
                  ·simp only [Act.put, za, zb, zc, i64_w, i32_w]
                   rfl
                  refine pure_ (i := 16) (N := some 105) (v := ?_) (a' := ?_) #[t_, t_, t_, t_, t_, f_, f_, f_, t_, t_, t_, t_, f_, f_, f_, t_, t_, f_, f_, f_, f_, f_] rfl rfl (any_of HT_.out (by kernel_rfl)) (fun _ _ _ h => h) (Or.inl ⟨by rfl, ?_⟩) ?_ ?_
                  rotate_left
                  ·intro w'
                   go_simp
                   with_reducible rfl
                  rotate_left
                  ·simp only [Act.put, za, zb, zc, i64_w, i32_w]
                   rfl
                  refine pure_ (i := 17) (N := some 106) (v := ?_) (a' := ?_) #[t_, t_, t_, t_, t_, f_, f_, f_, t_, t_, t_, t_, f_, f_, f_, t_, t_, t_, f_, f_, f_, f_] rfl rfl (any_of HT_.out (by kernel_rfl)) (fun _ _ _ h => h) (Or.inl ⟨by rfl, ?_⟩) ?_ ?_
                  rotate_left
                  ·intro w'
                   go_simp
                   with_reducible rfl
                  rotate_left
                  ·simp only [Act.put, za, zb, zc, i64_w, i32_w]
                   rfl
                  refine pure_ (i := 18) (N := some 107) (v := ?_) (a' := ?_) #[t_, t_, t_, t_, t_, f_, f_, f_, t_, t_, t_, t_, f_, f_, f_, t_, t_, t_, t_, f_, f_, f_] rfl rfl (any_of HT_.out (by kernel_rfl)) (fun _ _ _ h => h) (Or.inl ⟨by rfl, ?_⟩) ?_ ?_
                  rotate_left
                  ·intro w'
                   go_simp
                   with_reducible rfl
                  rotate_left
                  ·simp only [Act.put, za, zb, zc, i64_w, i32_w]
                   rfl
                  refine take_ (i := 5) (N := some 94) (v := ?_) (a' := ?_) #[t_, t_, t_, t_, t_, t_, f_, f_, t_, t_, t_, t_, f_, f_, f_, t_, t_, t_, t_, f_, f_, f_] rfl rfl (take_ofW HT_.out HW_.out (by kernel_rfl)) (fun _ _ _ h => h) (Or.inl ⟨by rfl, ?_⟩) hHeld ?_ ?_
                  rotate_left
                  ·rintro w' ⟨s0, s1, s2, s3, s4, s5, s6, s7, s8⟩
                   go_simp
                   with_reducible rfl
                  rotate_left
                  ·simp only [Act.put, za, zb, zc, i64_w, i32_w]
                   rfl
                  refine pure_ (i := 6) (N := some 95) (v := ?_) (a' := ?_) #[t_, t_, t_, t_, t_, t_, t_, f_, t_, t_, t_, t_, f_, f_, f_, t_, t_, t_, t_, f_, f_, f_] rfl rfl (any_of HT_.out (by kernel_rfl)) (fun _ _ _ h => h) (Or.inl ⟨by rfl, ?_⟩) ?_ ?_
                  rotate_left
                  ·intro w'
                   go_simp
                   with_reducible rfl
                  rotate_left
                  ·simp only [Act.put, za, zb, zc, i64_w, i32_w]
                   rfl
                  refine pure_ (i := 7) (N := some 96) (v := ?_) (a' := ?_) #[t_, t_, t_, t_, t_, t_, t_, t_, t_, t_, t_, t_, f_, f_, f_, t_, t_, t_, t_, f_, f_, f_] rfl rfl (any_of HT_.out (by kernel_rfl)) (fun _ _ _ h => h) (Or.inl ⟨by rfl, ?_⟩) ?_ ?_
                  rotate_left
                  ·intro w'
                   go_simp
                   with_reducible rfl
                  rotate_left
                  ·simp only [Act.put, za, zb, zc, i64_w, i32_w]
                   rfl
                  refine take_ (i := 12) (N := some 101) (v := ?_) (a' := ?_) #[t_, t_, t_, t_, t_, t_, t_, t_, t_, t_, t_, t_, t_, f_, f_, t_, t_, t_, t_, f_, f_, f_] rfl rfl (take_ofW HT_.out HW_.out (by kernel_rfl)) (fun _ _ _ h => h) (Or.inl ⟨by rfl, ?_⟩) hHeld ?_ ?_
                  rotate_left
                  ·rintro w' ⟨s0, s1, s2, s3, s4, s5, s6, s7, s8⟩
                   go_simp
                   with_reducible rfl
                  rotate_left
                  ·simp only [Act.put, za, zb, zc, i64_w, i32_w]
                   rfl
                  refine pure_ (i := 13) (N := some 102) (v := ?_) (a' := ?_) #[t_, t_, t_, t_, t_, t_, t_, t_, t_, t_, t_, t_, t_, t_, f_, t_, t_, t_, t_, f_, f_, f_] rfl rfl (any_of HT_.out (by kernel_rfl)) (fun _ _ _ h => h) (Or.inl ⟨by rfl, ?_⟩) ?_ ?_
                  rotate_left
                  ·intro w'
                   go_simp
                   with_reducible rfl
                  rotate_left
                  ·simp only [Act.put, za, zb, zc, i64_w, i32_w]
                   rfl
                  refine pure_ (i := 14) (N := some 103) (v := ?_) (a' := ?_) #[t_, t_, t_, t_, t_, t_, t_, t_, t_, t_, t_, t_, t_, t_, t_, t_, t_, t_, t_, f_, f_, f_] rfl rfl (any_of HT_.out (by kernel_rfl)) (fun _ _ _ h => h) (Or.inl ⟨by rfl, ?_⟩) ?_ ?_
                  rotate_left
                  ·intro w'
                   go_simp
                   with_reducible rfl
                  rotate_left
                  ·simp only [Act.put, za, zb, zc, i64_w, i32_w]
                   rfl
                  refine take_ (i := 19) (N := some 108) (v := ?_) (a' := ?_) #[t_, t_, t_, t_, t_, t_, t_, t_, t_, t_, t_, t_, t_, t_, t_, t_, t_, t_, t_, t_, f_, f_] rfl rfl (take_ofW HT_.out HW_.out (by kernel_rfl)) (fun _ _ _ h => h) (Or.inl ⟨by rfl, ?_⟩) hHeld ?_ ?_
                  rotate_left
                  ·rintro w' ⟨s0, s1, s2, s3, s4, s5, s6, s7, s8⟩
                   go_simp
                   with_reducible rfl
                  rotate_left
                  ·simp only [Act.put, za, zb, zc, i64_w, i32_w]
                   rfl
                  refine pure_ (i := 20) (N := some 109) (v := ?_) (a' := ?_) #[t_, t_, t_, t_, t_, t_, t_, t_, t_, t_, t_, t_, t_, t_, t_, t_, t_, t_, t_, t_, t_, f_] rfl rfl (any_of HT_.out (by kernel_rfl)) (fun _ _ _ h => h) (Or.inl ⟨by rfl, ?_⟩) ?_ ?_
                  rotate_left
                  ·intro w'
                   go_simp
                   with_reducible rfl
                  rotate_left
                  ·simp only [Act.put, za, zb, zc, i64_w, i32_w]
                   rfl
                  refine pure_ (i := 21) (N := some 13) (v := ?_) (a' := ?_) #[t_, t_, t_, t_, t_, t_, t_, t_, t_, t_, t_, t_, t_, t_, t_, t_, t_, t_, t_, t_, t_, t_] rfl rfl (any_of HT_.out (by kernel_rfl)) (fun _ _ _ h => h) (Or.inl ⟨by rfl, ?_⟩) ?_ ?_
                  rotate_left
                  ·intro w'
                   go_simp
                   with_reducible rfl
                  rotate_left
                  ·simp only [Act.put, za, zb, zc, i64_w, i32_w]
                   rfl
                  refine done_ (done_of HT_.out (by kernel_rfl)) ?_
                  try go_wp2
                  have n0_ := zd (zg HO_5.out)
                  have n1_ := zd (zg HO_11.out)
                  have n2_ := zd (zg HO_12.out)
                  have n3_ := zd (zj HB.out)
                  clear HO_5
                  clear HO_11
                  clear HO_12
                  clear HB
                  have HO_5 := n0_
                  have HO_11 := n1_
                  have HO_12 := n2_
                  have HB := n3_
                  clear n0_ n1_ n2_ n3_
                  obtain ⟨Ao55, co55, eo55⟩ := Kd.R_slice HO_5.out
                  (first | subst eo55 | (injection eo55 with f1_ f2_ f3_; have f4_ := f1_.symm; have f5_ := f3_.symm; clear f1_ f2_ f3_; subst f4_; subst f5_))
                  have p218 : 0 <= (x14_4 : Int) := of_decide_eq_true (by first | (with_reducible assumption) | assumption)
                  have q218 : x14_4 < (x5_2.length : Int) := of_decide_eq_true (by first | (with_reducible assumption) | assumption)
                  obtain ⟨ad218, e218, hx218_0, hx218_1, hx218_2⟩ := at_T37 (Kd.R_reads' HO_5.out).2.2 x14_4 p218 q218
                  cases e218
                  replace p218 := eq_true p218
                  replace q218 := eq_true q218
                  have p219 : 0 <= (x14_4 : Int) := of_decide_eq_true (by first | (with_reducible assumption) | assumption)
                  have q219 : x14_4 < (x5_2.length : Int) := of_decide_eq_true (by first | (with_reducible assumption) | assumption)
                  obtain ⟨ad219, e219, hx219_0, hx219_1, hx219_2⟩ := at_T37 (Kd.R_reads' HO_5.out).2.2 x14_4 p219 q219
                  obtain rfl : ad218 = ad219 := (by injection e219)
                  replace p219 := eq_true p219
                  replace q219 := eq_true q219
                  have p220 : 0 <= (x14_4 : Int) := of_decide_eq_true (by first | (with_reducible assumption) | assumption)
                  have q220 : x14_4 < (x5_2.length : Int) := of_decide_eq_true (by first | (with_reducible assumption) | assumption)
                  obtain ⟨ad220, e220, hx220_0, hx220_1, hx220_2⟩ := at_T37 (Kd.R_reads' HO_5.out).2.2 x14_4 p220 q220
                  obtain rfl : ad218 = ad220 := (by injection e220)
                  replace p220 := eq_true p220
                  replace q220 := eq_true q220
                  refine start_ (n := 22) (S := fun w' => w'.cell? (ad218.add ((x14_4).toNat * 3)) = some (.int .i64 ((rd_T37 x5_2 x14_4).f0)) /\ w'.cell? ⟨(ad218.add ((x14_4).toNat * 3)).block, (ad218.add ((x14_4).toNat * 3)).off + 1, none⟩ = some (.int .i64 ((rd_T37 x5_2 x14_4).f1)) /\ w'.cell? ⟨(ad218.add ((x14_4).toNat * 3)).block, (ad218.add ((x14_4).toNat * 3)).off + 2, none⟩ = some (.int .i64 ((rd_T37 x5_2 x14_4).f2)) /\ w'.cell? (ad218.add ((x14_4).toNat * 3)) = some (.int .i64 ((rd_T37 x5_2 x14_4).f0)) /\ w'.cell? ⟨(ad218.add ((x14_4).toNat * 3)).block, (ad218.add ((x14_4).toNat * 3)).off + 1, none⟩ = some (.int .i64 ((rd_T37 x5_2 x14_4).f1)) /\ w'.cell? ⟨(ad218.add ((x14_4).toNat * 3)).block, (ad218.add ((x14_4).toNat * 3)).off + 2, none⟩ = some (.int .i64 ((rd_T37 x5_2 x14_4).f2)) /\ w'.cell? (ad218.add ((x14_4).toNat * 3)) = some (.int .i64 ((rd_T37 x5_2 x14_4).f0)) /\ w'.cell? ⟨(ad218.add ((x14_4).toNat * 3)).block, (ad218.add ((x14_4).toNat * 3)).off + 1, none⟩ = some (.int .i64 ((rd_T37 x5_2 x14_4).f1)) /\ w'.cell? ⟨(ad218.add ((x14_4).toNat * 3)).block, (ad218.add ((x14_4).toNat * 3)).off + 2, none⟩ = some (.int .i64 ((rd_T37 x5_2 x14_4).f2))) (ds := []) #[f_, f_, f_, f_, f_, f_, f_, f_, f_, f_, f_, f_, f_, f_, f_, f_, f_, f_, f_, f_, f_, f_] (by kernel_rfl) rfl rfl ⟨hx218_0, hx218_1, hx218_2, hx219_0, hx219_1, hx219_2, hx220_0, hx220_1, hx220_2⟩ (fun hHeld => ?_); refine with_tabW leatlaw11_WindowFires.tab23 leatlaw11_WindowFires.bits23 (fun HT_ HW_ => ?_)
                  generalize w53.drew = w54 at HO_5 HO_11 HO_12 HB hx218_0 hx218_1 hx218_2 hx219_0 hx219_1 hx219_2 hx220_0 hx220_1 hx220_2 hHeld ⊢
                  refine pure_ (i := 0) (N := some 110) (v := ?_) (a' := ?_) #[t_, f_, f_, f_, f_, f_, f_, f_, f_, f_, f_, f_, f_, f_, f_, f_, f_, f_, f_, f_, f_, f_] rfl rfl (any_of HT_.out (by kernel_rfl)) (fun _ _ _ h => h) (Or.inl ⟨by rfl, ?_⟩) ?_ ?_
                  rotate_left
                  ·intro w'
                   go_simp
                   with_reducible rfl
                  rotate_left
                  ·simp only [Act.put, za, zb, zc, i64_w, i32_w]
                   rfl
                  refine pure_ (i := 1) (N := some 111) (v := ?_) (a' := ?_) #[t_, t_, f_, f_, f_, f_, f_, f_, f_, f_, f_, f_, f_, f_, f_, f_, f_, f_, f_, f_, f_, f_] rfl rfl (any_of HT_.out (by kernel_rfl)) (fun _ _ _ h => h) (Or.inl ⟨by rfl, ?_⟩) ?_ ?_
                  rotate_left
                  ·intro w'
                   go_simp
                   with_reducible rfl
                  rotate_left
                  ·simp only [Act.put, za, zb, zc, i64_w, i32_w]
                   rfl
                  refine pure_ (i := 2) (N := some 112) (v := ?_) (a' := ?_) #[t_, t_, t_, f_, f_, f_, f_, f_, f_, f_, f_, f_, f_, f_, f_, f_, f_, f_, f_, f_, f_, f_] rfl rfl (any_of HT_.out (by kernel_rfl)) (fun _ _ _ h => h) (Or.inl ⟨by rfl, ?_⟩) ?_ ?_
                  rotate_left
                  ·intro w'
                   go_simp
                   with_reducible rfl
                  rotate_left
                  ·simp only [Act.put, za, zb, zc, i64_w, i32_w]
                   rfl
                  refine pure_ (i := 3) (N := some 113) (v := ?_) (a' := ?_) #[t_, t_, t_, t_, f_, f_, f_, f_, f_, f_, f_, f_, f_, f_, f_, f_, f_, f_, f_, f_, f_, f_] rfl rfl (any_of HT_.out (by kernel_rfl)) (fun _ _ _ h => h) (Or.inl ⟨by rfl, ?_⟩) ?_ ?_
                  rotate_left
                  ·intro w'
                   go_simp
                   with_reducible rfl
                  rotate_left
                  ·simp only [Act.put, za, zb, zc, i64_w, i32_w]
                   rfl
                  refine pure_ (i := 4) (N := some 114) (v := ?_) (a' := ?_) #[t_, t_, t_, t_, t_, f_, f_, f_, f_, f_, f_, f_, f_, f_, f_, f_, f_, f_, f_, f_, f_, f_] rfl rfl (any_of HT_.out (by kernel_rfl)) (fun _ _ _ h => h) (Or.inl ⟨by rfl, ?_⟩) ?_ ?_
                  rotate_left
                  ·intro w'
                   go_simp
                   with_reducible rfl
                  rotate_left
                  ·simp only [Act.put, za, zb, zc, i64_w, i32_w]
                   rfl
                  refine pure_ (i := 8) (N := some 118) (v := ?_) (a' := ?_) #[t_, t_, t_, t_, t_, f_, f_, f_, t_, f_, f_, f_, f_, f_, f_, f_, f_, f_, f_, f_, f_, f_] rfl rfl (any_of HT_.out (by kernel_rfl)) (fun _ _ _ h => h) (Or.inl ⟨by rfl, ?_⟩) ?_ ?_
                  rotate_left
                  ·intro w'
                   go_simp
                   with_reducible rfl
                  rotate_left
                  ·simp only [Act.put, za, zb, zc, i64_w, i32_w]
                   rfl
                  refine pure_ (i := 9) (N := some 119) (v := ?_) (a' := ?_) #[t_, t_, t_, t_, t_, f_, f_, f_, t_, t_, f_, f_, f_, f_, f_, f_, f_, f_, f_, f_, f_, f_] rfl rfl (any_of HT_.out (by kernel_rfl)) (fun _ _ _ h => h) (Or.inl ⟨by rfl, ?_⟩) ?_ ?_
                  rotate_left
                  ·intro w'
                   go_simp
                   with_reducible rfl
                  rotate_left
                  ·simp only [Act.put, za, zb, zc, i64_w, i32_w]
                   rfl
                  refine pure_ (i := 10) (N := some 120) (v := ?_) (a' := ?_) #[t_, t_, t_, t_, t_, f_, f_, f_, t_, t_, t_, f_, f_, f_, f_, f_, f_, f_, f_, f_, f_, f_] rfl rfl (any_of HT_.out (by kernel_rfl)) (fun _ _ _ h => h) (Or.inl ⟨by rfl, ?_⟩) ?_ ?_
                  rotate_left
                  ·intro w'
                   go_simp
                   with_reducible rfl
                  rotate_left
                  ·simp only [Act.put, za, zb, zc, i64_w, i32_w]
                   rfl
                  refine pure_ (i := 11) (N := some 121) (v := ?_) (a' := ?_) #[t_, t_, t_, t_, t_, f_, f_, f_, t_, t_, t_, t_, f_, f_, f_, f_, f_, f_, f_, f_, f_, f_] rfl rfl (any_of HT_.out (by kernel_rfl)) (fun _ _ _ h => h) (Or.inl ⟨by rfl, ?_⟩) ?_ ?_
                  rotate_left
                  ·intro w'
                   go_simp
                   with_reducible rfl
                  rotate_left
                  ·simp only [Act.put, za, zb, zc, i64_w, i32_w]
                   rfl
                  refine pure_ (i := 15) (N := some 125) (v := ?_) (a' := ?_) #[t_, t_, t_, t_, t_, f_, f_, f_, t_, t_, t_, t_, f_, f_, f_, t_, f_, f_, f_, f_, f_, f_] rfl rfl (any_of HT_.out (by kernel_rfl)) (fun _ _ _ h => h) (Or.inl ⟨by rfl, ?_⟩) ?_ ?_
                  rotate_left
                  ·intro w'
                   go_simp
                   with_reducible rfl
                  rotate_left
                  ·simp only [Act.put, za, zb, zc, i64_w, i32_w]
                   rfl
                  refine pure_ (i := 16) (N := some 126) (v := ?_) (a' := ?_) #[t_, t_, t_, t_, t_, f_, f_, f_, t_, t_, t_, t_, f_, f_, f_, t_, t_, f_, f_, f_, f_, f_] rfl rfl (any_of HT_.out (by kernel_rfl)) (fun _ _ _ h => h) (Or.inl ⟨by rfl, ?_⟩) ?_ ?_
                  rotate_left
                  ·intro w'
                   go_simp
                   with_reducible rfl
                  rotate_left
                  ·simp only [Act.put, za, zb, zc, i64_w, i32_w]
                   rfl
                  refine pure_ (i := 17) (N := some 127) (v := ?_) (a' := ?_) #[t_, t_, t_, t_, t_, f_, f_, f_, t_, t_, t_, t_, f_, f_, f_, t_, t_, t_, f_, f_, f_, f_] rfl rfl (any_of HT_.out (by kernel_rfl)) (fun _ _ _ h => h) (Or.inl ⟨by rfl, ?_⟩) ?_ ?_
                  rotate_left
                  ·intro w'
                   go_simp
                   with_reducible rfl
                  rotate_left
                  ·simp only [Act.put, za, zb, zc, i64_w, i32_w]
                   rfl
                  refine pure_ (i := 18) (N := some 128) (v := ?_) (a' := ?_) #[t_, t_, t_, t_, t_, f_, f_, f_, t_, t_, t_, t_, f_, f_, f_, t_, t_, t_, t_, f_, f_, f_] rfl rfl (any_of HT_.out (by kernel_rfl)) (fun _ _ _ h => h) (Or.inl ⟨by rfl, ?_⟩) ?_ ?_
                  rotate_left
                  ·intro w'
                   go_simp
                   with_reducible rfl
                  rotate_left
                  ·simp only [Act.put, za, zb, zc, i64_w, i32_w]
                   rfl
                  refine take_ (i := 5) (N := some 115) (v := ?_) (a' := ?_) #[t_, t_, t_, t_, t_, t_, f_, f_, t_, t_, t_, t_, f_, f_, f_, t_, t_, t_, t_, f_, f_, f_] rfl rfl (take_ofW HT_.out HW_.out (by kernel_rfl)) (fun _ _ _ h => h) (Or.inl ⟨by rfl, ?_⟩) hHeld ?_ ?_
                  rotate_left
                  ·rintro w' ⟨s0, s1, s2, s3, s4, s5, s6, s7, s8⟩
                   go_simp
                   with_reducible rfl
                  rotate_left
                  ·simp only [Act.put, za, zb, zc, i64_w, i32_w]
                   rfl
                  refine pure_ (i := 6) (N := some 116) (v := ?_) (a' := ?_) #[t_, t_, t_, t_, t_, t_, t_, f_, t_, t_, t_, t_, f_, f_, f_, t_, t_, t_, t_, f_, f_, f_] rfl rfl (any_of HT_.out (by kernel_rfl)) (fun _ _ _ h => h) (Or.inl ⟨by rfl, ?_⟩) ?_ ?_
                  rotate_left
                  ·intro w'
                   go_simp
                   with_reducible rfl
                  rotate_left
                  ·simp only [Act.put, za, zb, zc, i64_w, i32_w]
                   rfl
                  refine pure_ (i := 7) (N := some 117) (v := ?_) (a' := ?_) #[t_, t_, t_, t_, t_, t_, t_, t_, t_, t_, t_, t_, f_, f_, f_, t_, t_, t_, t_, f_, f_, f_] rfl rfl (any_of HT_.out (by kernel_rfl)) (fun _ _ _ h => h) (Or.inl ⟨by rfl, ?_⟩) ?_ ?_
                  rotate_left
                  ·intro w'
                   go_simp
                   with_reducible rfl
                  rotate_left
                  ·simp only [Act.put, za, zb, zc, i64_w, i32_w]
                   rfl
                  refine take_ (i := 12) (N := some 122) (v := ?_) (a' := ?_) #[t_, t_, t_, t_, t_, t_, t_, t_, t_, t_, t_, t_, t_, f_, f_, t_, t_, t_, t_, f_, f_, f_] rfl rfl (take_ofW HT_.out HW_.out (by kernel_rfl)) (fun _ _ _ h => h) (Or.inl ⟨by rfl, ?_⟩) hHeld ?_ ?_
                  rotate_left
                  ·rintro w' ⟨s0, s1, s2, s3, s4, s5, s6, s7, s8⟩
                   go_simp
                   with_reducible rfl
                  rotate_left
                  ·simp only [Act.put, za, zb, zc, i64_w, i32_w]
                   rfl
                  refine pure_ (i := 13) (N := some 123) (v := ?_) (a' := ?_) #[t_, t_, t_, t_, t_, t_, t_, t_, t_, t_, t_, t_, t_, t_, f_, t_, t_, t_, t_, f_, f_, f_] rfl rfl (any_of HT_.out (by kernel_rfl)) (fun _ _ _ h => h) (Or.inl ⟨by rfl, ?_⟩) ?_ ?_
                  rotate_left
                  ·intro w'
                   go_simp
                   with_reducible rfl
                  rotate_left
                  ·simp only [Act.put, za, zb, zc, i64_w, i32_w]
                   rfl
                  refine pure_ (i := 14) (N := some 124) (v := ?_) (a' := ?_) #[t_, t_, t_, t_, t_, t_, t_, t_, t_, t_, t_, t_, t_, t_, t_, t_, t_, t_, t_, f_, f_, f_] rfl rfl (any_of HT_.out (by kernel_rfl)) (fun _ _ _ h => h) (Or.inl ⟨by rfl, ?_⟩) ?_ ?_
                  rotate_left
                  ·intro w'
                   go_simp
                   with_reducible rfl
                  rotate_left
                  ·simp only [Act.put, za, zb, zc, i64_w, i32_w]
                   rfl
                  refine take_ (i := 19) (N := some 129) (v := ?_) (a' := ?_) #[t_, t_, t_, t_, t_, t_, t_, t_, t_, t_, t_, t_, t_, t_, t_, t_, t_, t_, t_, t_, f_, f_] rfl rfl (take_ofW HT_.out HW_.out (by kernel_rfl)) (fun _ _ _ h => h) (Or.inl ⟨by rfl, ?_⟩) hHeld ?_ ?_
                  rotate_left
                  ·rintro w' ⟨s0, s1, s2, s3, s4, s5, s6, s7, s8⟩
                   go_simp
                   with_reducible rfl
                  rotate_left
                  ·simp only [Act.put, za, zb, zc, i64_w, i32_w]
                   rfl
                  refine pure_ (i := 20) (N := some 130) (v := ?_) (a' := ?_) #[t_, t_, t_, t_, t_, t_, t_, t_, t_, t_, t_, t_, t_, t_, t_, t_, t_, t_, t_, t_, t_, f_] rfl rfl (any_of HT_.out (by kernel_rfl)) (fun _ _ _ h => h) (Or.inl ⟨by rfl, ?_⟩) ?_ ?_
                  rotate_left
                  ·intro w'
                   go_simp
                   with_reducible rfl
                  rotate_left
                  ·simp only [Act.put, za, zb, zc, i64_w, i32_w]
                   rfl
                  refine pure_ (i := 21) (N := some 13) (v := ?_) (a' := ?_) #[t_, t_, t_, t_, t_, t_, t_, t_, t_, t_, t_, t_, t_, t_, t_, t_, t_, t_, t_, t_, t_, t_] rfl rfl (any_of HT_.out (by kernel_rfl)) (fun _ _ _ h => h) (Or.inl ⟨by rfl, ?_⟩) ?_ ?_
                  rotate_left
                  ·intro w'
                   go_simp
                   with_reducible rfl
                  rotate_left
                  ·simp only [Act.put, za, zb, zc, i64_w, i32_w]
                   rfl
                  refine done_ (done_of HT_.out (by kernel_rfl)) ?_
                  have p221 : 0 <= (x14_4 : Int) := of_decide_eq_true (by first | (with_reducible assumption) | assumption)
                  have q221 : x14_4 < (x5_2.length : Int) := of_decide_eq_true (by first | (with_reducible assumption) | assumption)
                  obtain ⟨ad221, e221, hx221_0, hx221_1, hx221_2⟩ := at_T37 (Kd.R_reads' HO_5.out).2.2 x14_4 p221 q221
                  obtain rfl : ad218 = ad221 := (by injection e221)
                  replace p221 := eq_true p221
                  replace q221 := eq_true q221
                  try go_wp2
                  go_roundg k4
                  case measure => have := HJ4.out; have := HK2.out; have := HJ29.out; have := HK4.out; omega
                  case rel => exact ⟨(wrap64 ((wrap64 ((wrap64 ((wrap64 ((wrap64 ((wrap64 (x13_4 + (wrap64 (((rd_T37 t205 x14_4).f2) * 7)))) + (wrap64 (((rd_T37 t205 x14_4).f1) * 3)))) + ((rd_T37 t205 x14_4).f0))) - (wrap64 (((rd_T37 x5_2 x14_4).f2) * 7)))) - (wrap64 (((rd_T37 x5_2 x14_4).f1) * 3)))) - ((rd_T37 x5_2 x14_4).f0))), (wrap64 (x14_4 + 1)), (by first | rfl | (simp; done) | (simp [*]; done)), (by first | rfl | (simp; done) | (simp [*]; done)), H', ⟨by have := HJ4.out; have := HK2.out; have := HJ29.out; have := HK4.out; omega⟩, ⟨by (with_reducible repeat (first | apply ze | apply zf | apply zg)); exact HO_5.out⟩, ⟨by (with_reducible repeat (first | apply ze | apply zf | apply zg)); exact HO_11.out⟩, ⟨by (with_reducible repeat (first | apply ze | apply zf | apply zg)); exact HO_12.out⟩, ⟨by repeat (first | (with_reducible first | exact HB.out | apply zh | apply zi | apply zj) | exact HB.out)⟩⟩
                ·rw [if_neg c46] at H
                 exact absurd H (by simp)
               ·rw [if_neg c45] at H
                exact absurd H (by simp)
              ·rw [if_neg c44] at H
               have c44b0 : decide (x14_4 < (t205.length : Int)) = false := decide_eq_false c44
               clear c44
               have H' := zd H
               clear H
               obtain ⟨Ao56, co56, eo56⟩ := Kd.R_slice HO_11.out
               subst eo56
               go_wp2
               go_loopg [15] k4 (fun kq v15 w' => ∃ (x15_5 : Int), v15 = .int .i64 x15_5 /\ Aside0 (leatlaw11_WindowFires.l2 kq x7_2 t206 x13_4 x15_5 = some r) /\ Aside0 (kq <= k4) /\ Aside0 (Kd.R k46 46 w' w.heap.size (fun k_ => (w.heap.size <= k_)) v209 t206) /\ Aside0 (Below w.heap.size w w'))
               case atStart => exact ⟨(0), (by first | rfl | (simp; done) | (simp [*]; done)), H', ⟨Nat.le_refl _⟩, ⟨by (with_reducible repeat (first | apply ze | apply zf | apply zg)); exact HO_12.out⟩, ⟨by repeat (first | (with_reducible first | exact HB.out | apply zh | apply zi | apply zj) | exact HB.out)⟩⟩
               case round =>
                clear H'
                try clear p2; try clear q2; try clear hx2; try clear c4; try clear p6; try clear p21; try clear q21; try clear hx21; try clear p22; try clear q22; try clear hx22; try clear c44; try clear c44b0; try clear c45; try clear c46; try clear c47; try clear c47b0; try clear hx215_0; try clear hx215_1; try clear hx215_2; try clear hx216_0; try clear hx216_1; try clear hx216_2; try clear hx217_0; try clear hx217_1; try clear hx217_2; try clear hx218_0; try clear hx218_1; try clear hx218_2; try clear hx219_0; try clear hx219_1; try clear hx219_2; try clear hx220_0; try clear hx220_1; try clear hx220_2; try clear hx221_0; try clear hx221_1; try clear hx221_2; try clear p215; try clear p216; try clear p217; try clear p218; try clear p219; try clear p220; try clear p221; try clear q215; try clear q216; try clear q217; try clear q218; try clear q219; try clear q220; try clear q221
                obtain ⟨x15_5, rfl, HA, HK5, HO_12, HB⟩ := hrel
                cases gk with
                | zero => exact absurd HA.out (by simp [leatlaw11_WindowFires.l2])
                | succ k5 =>
                 have H := HA.out
                 clear HA
                 simp only [leatlaw11_WindowFires.l2] at H
                 by_cases c57 : x15_5 < (t206.length : Int)
                 ·rw [if_pos c57] at H
                  have c57b0 : decide (x15_5 < (t206.length : Int)) = true := decide_eq_true c57
                  clear c57
                  by_cases c58 : 0 <= x15_5
                  ·rw [if_pos c58] at H
                   have c58b0 : decide (0 <= x15_5) = true := decide_eq_true c58
                   clear c58
                   by_cases c59 : (wrap64 (((rd_T46 t206 x15_5).f1.f1) - 1)) <= x7_2
                   ·rw [if_pos c59] at H
                    have c59b0 : decide ((wrap64 (((rd_T46 t206 x15_5).f1.f1) - 1)) <= x7_2) = true := decide_eq_true c59
                    clear c59
                    obtain rfl := Option.some.inj H
                    obtain ⟨Ao60, co60, eo60⟩ := Kd.R_slice HO_12.out
                    subst eo60
                    have p222 : 0 <= (x15_5 : Int) := of_decide_eq_true (by first | (with_reducible assumption) | assumption)
                    have q222 : x15_5 < (t206.length : Int) := of_decide_eq_true (by first | (with_reducible assumption) | assumption)
                    obtain ⟨ad222, e222, hx222_0, hx222_1, hx222_2, hx222_3⟩ := at_T46 (Kd.R_reads' HO_12.out).2.2 x15_5 p222 q222
                    cases e222
                    replace p222 := eq_true p222
                    replace q222 := eq_true q222
                    go_wp2
                    go_ret
                    exact ⟨by first | rfl | (simp [errW_none, errW_some] <;> rfl) | (simp [*, errW_none, errW_some] <;> rfl), by repeat (first | (with_reducible first | exact HB.out | apply zh | apply zi | apply zj) | exact HB.out)⟩
                   ·rw [if_neg c59] at H
                    have c59b0 : decide ((wrap64 (((rd_T46 t206 x15_5).f1.f1) - 1)) <= x7_2) = false := decide_eq_false c59
                    clear c59
                    have H' := zd H
                    clear H
                    obtain ⟨Ao61, co61, eo61⟩ := Kd.R_slice HO_12.out
                    subst eo61
                    have p222 : 0 <= (x15_5 : Int) := of_decide_eq_true (by first | (with_reducible assumption) | assumption)
                    have q222 : x15_5 < (t206.length : Int) := of_decide_eq_true (by first | (with_reducible assumption) | assumption)
                    obtain ⟨ad222, e222, hx222_0, hx222_1, hx222_2, hx222_3⟩ := at_T46 (Kd.R_reads' HO_12.out).2.2 x15_5 p222 q222
                    cases e222
                    replace p222 := eq_true p222
                    replace q222 := eq_true q222
                    go_wp2
                    go_roundg k5
                    case measure => have := HJ4.out; have := HK2.out; have := HJ29.out; have := HK4.out; have := HK5.out; omega
                    case rel => exact ⟨(wrap64 (x15_5 + 1)), (by first | rfl | (simp; done) | (simp [*]; done)), H', ⟨by have := HJ4.out; have := HK2.out; have := HJ29.out; have := HK4.out; have := HK5.out; omega⟩, ⟨by (with_reducible repeat (first | apply ze | apply zf | apply zg)); exact HO_12.out⟩, ⟨by repeat (first | (with_reducible first | exact HB.out | apply zh | apply zi | apply zj) | exact HB.out)⟩⟩
                  ·rw [if_neg c58] at H
                   exact absurd H (by simp)
                 ·rw [if_neg c57] at H
                  have c57b0 : decide (x15_5 < (t206.length : Int)) = false := decide_eq_false c57
                  clear c57
                  obtain rfl := Option.some.inj H
                  obtain ⟨Ao62, co62, eo62⟩ := Kd.R_slice HO_12.out
                  subst eo62
                  go_wp2
                  go_ret
                  exact ⟨by first | rfl | (simp [errW_none, errW_some] <;> rfl) | (simp [*, errW_none, errW_some] <;> rfl), by repeat (first | (with_reducible first | exact HB.out | apply zh | apply zi | apply zj) | exact HB.out)⟩
 ·replace c4 := Bool.eq_false_iff.mpr c4
  subst c4
  have H1 : (some false) = some r := by rw [if_neg (show ¬ (false = true) by decide)] at H; exact H
  clear H
  have H := H1
  clear H1
  obtain rfl := Option.some.inj H
  go_enter Try.func7, Try.ntmps7
  go_wp2_with (first | ((with_reducible refine gate_callee (f := 12) rfl ?_); refine goesL_ (some 16) rfl rfl Try.func12 (by kernel_rfl) rfl #[] rfl (by (try simp only [List.map_toArray, List.map_cons, List.map_nil]); first | done | rfl | (simp only [List.length_drop, List.length_take]; rfl)) ?_; (with_reducible refine (leatlaw11_known.calls k  false _ A3.out).mono ?_); rintro e w63 ⟨rfl, hb⟩; refine ⟨_, rfl, ?_⟩; have n0_ := zd (Kd.V_below (by (with_reducible repeat (first | apply Kd.V_alloc | apply Kd.V_drewN | apply Kd.V_drew)); exact HO0.out) hb); have n1_ := zd (zs (by repeat (first | (with_reducible first | exact HB.out | apply zh | apply zi | apply zj) | exact HB.out)) hb); clear HO0; clear HB; have HO0 := n0_; have HB := n1_; clear n0_ n1_; (try clear hb); (try clear hb2); (try clear hk); (try clear hi)))
  go_ret
  exact ⟨by first | rfl | (simp [errW_none, errW_some] <;> rfl) | (simp [*, errW_none, errW_some] <;> rfl), by repeat (first | (with_reducible first | exact HB.out | apply zh | apply zi | apply zj) | exact HB.out)⟩
end Go.Proofs.Ytdinbnbogdadgaa.X
