/- Proofs towards the law WindowPlays, joined into one text. No conditions beyond those typed. -/
import Derived.Test.YtdinbnbogdadgaaMWindowPlays10
import Derived.Test.YtdinbnbogdadgaaMWindowPlays15
import Derived.Test.YtdinbnbogdadgaaMWindowPlays17
import Derived.Test.YtdinbnbogdadgaaMWindowPlays12
import Derived.Test.YtdinbnbogdadgaaMWindowPlays11
namespace Go.Proofs.Ytdinbnbogdadgaa.X
open Go.RowKit Go.Proofs.YtdinbnbogdadgaaW.PrintWords Go.Proofs.YtdinbnbogdadgaaW.PrintLast Go.Proofs.YtdinbnbogdadgaaW.PrintMore
attribute [local go_sem] max2_int min2_int max_two min_two max_three min_three max_four min_four   -- for this text's walks alone
set_option linter.unusedVariables false
set_option linter.unusedSimpArgs false
mutual
def leatlaw11_WindowPlays.j0 : Nat -> Int -> List (S37) -> List Int -> Bool -> Int -> Int -> Int -> Option (Bool)
 | 0, _, _, _, _, _, _, _ => none
 | k + 1, x1, x2, x3, x40, x311000, x311001, x311002 => if x40 = true then (some true) else (leatlaw11_WindowPlays.l0 k x1 x2 x3 ([] : List (S46)) ([] : List (S46)) 0 x311000 x311001 x311002)
def leatlaw11_WindowPlays.l0 : Nat -> Int -> List (S37) -> List Int -> List (S46) -> List (S46) -> Int -> Int -> Int -> Int -> Option (Bool)
 | 0, _, _, _, _, _, _, _, _, _ => none
 | k + 1, x1, x2, x3, x9, x10, x11, x311000, x311001, x311002 => if x11 < (x2.length : Int) then (if 0 <= x11 then ((leatlaw11_time.f ((rd_T37 x2 x11).f1)).bind fun t314 => (if t314 = true then (if ([] : List (S46)).length + x9.length < 4398046511104 then ((window_Put.f k x311000 x311001 x311002 x1 x9 ((rd_T37 x2 x11).f0) ((rd_T37 x2 x11).f1) ((rd_T37 x2 x11).f2)).bind fun t319 => ((leathelp_Panes.f k x9 (([] : List (S46)) ++ x9)).bind fun t322 => (if t322 = true then ((leatref11_Put.f k x311000 x311001 x311002 x1 x10 ((rd_T37 x2 x11).f0) ((rd_T37 x2 x11).f1) ((rd_T37 x2 x11).f2)).bind fun t324 => ((leathelp_Panes.f k t319 t324).bind fun t327 => (if t327 = true then (if x11 < (x3.length : Int) then ((window_Fire.f k t319 (rd x3 x11)).bind fun bt329 => ((leatref11_Fire.f k t324 (rd x3 x11)).bind fun bt336 => ((leathelp_Records.f k bt329.1 bt336.1).bind fun t342 => (if t342 = true then ((leathelp_Panes.f k bt329.2 bt336.2).bind fun t343 => (if t343 = true then (leatlaw11_WindowPlays.l0 k x1 x2 x3 bt329.2 bt336.2 (wrap64 (x11 + 1)) x311000 x311001 x311002) else (none))) else (none))))) else (leatlaw11_WindowPlays.l0 k x1 x2 x3 t319 t324 (wrap64 (x11 + 1)) x311000 x311001 x311002)) else (none)))) else (none)))) else (none)) else (some true))) else (none)) else (some true)
end
def leatlaw11_WindowPlays.f (k : Nat) (a0_0 : Int) (a0_1 : Int) (a0_2 : Int) (a1 : Int) (l2 : List (S37)) (l3 : List Int) : Option (Bool) := (leatlaw11_known.f k).bind fun t311 => (if t311 = true then ((leatlaw11_fit.f k a0_0 a0_1 a0_2).bind fun t312 => (if t312 = true then (if (l2.length : Int) > 60 then (leatlaw11_WindowPlays.j0 k a1 l2 l3 true a0_0 a0_1 a0_2) else (if (l3.length : Int) > 60 then (leatlaw11_WindowPlays.j0 k a1 l2 l3 true a0_0 a0_1 a0_2) else (if a1 < 1 then (leatlaw11_WindowPlays.j0 k a1 l2 l3 true a0_0 a0_1 a0_2) else (leatlaw11_WindowPlays.j0 k a1 l2 l3 (decide (a1 > 5)) a0_0 a0_1 a0_2)))) else (leatlaw11_WindowPlays.j0 k a1 l2 l3 true a0_0 a0_1 a0_2))) else (none))
def leatlaw11_WindowPlays.T12 : Bool × List (List Nat × List Nat) := (true, [([], []), ([], []), ([], []), ([], []), ([], []), ([3, 4], [3, 4]), ([5], [5]), ([0, 1, 2, 6], [0, 1, 2, 6]), ([7, 7, 0, 1, 2, 3, 4, 5, 6, 7], [7])])
def leatlaw11_WindowPlays.B12 : List Nat := [0, 0, 0, 0, 0, 24, 56, 127, 255]
theorem leatlaw11_WindowPlays.tab12 : rtab .any (opsOf Try.f4 12) = leatlaw11_WindowPlays.T12 := by kernel_rfl
theorem leatlaw11_WindowPlays.bits12 : waitsOk leatlaw11_WindowPlays.T12.2 leatlaw11_WindowPlays.B12 = true := by kernel_rfl
def leatlaw11_WindowPlays.T15 : Bool × List (List Nat × List Nat) := (true, [([], []), ([], []), ([], []), ([], []), ([], []), ([], []), ([4, 5], [4, 5]), ([6], [6]), ([1, 2, 3, 7], [1, 2, 3, 7]), ([0, 8, 0], [0]), ([8, 9, 0, 1, 2, 3, 4, 5, 6, 7, 8, 9], [3, 8])])
def leatlaw11_WindowPlays.B15 : List Nat := [0, 0, 0, 0, 0, 0, 48, 112, 254, 511, 1023]
theorem leatlaw11_WindowPlays.tab15 : rtab .any (opsOf Try.f4 15) = leatlaw11_WindowPlays.T15 := by kernel_rfl
theorem leatlaw11_WindowPlays.bits15 : waitsOk leatlaw11_WindowPlays.T15.2 leatlaw11_WindowPlays.B15 = true := by kernel_rfl
set_option maxHeartbeats 8000000 in
set_option maxRecDepth 100000 in
theorem leatlaw11_WindowPlays.calls (k : Nat) (a0_0 : Int) (a0_1 : Int) (a0_2 : Int) (a1 : Int) (A2 : Option Addr) (c2 : Nat) (l2 : List (S37)) (A3 : Option Addr) (c3 : Nat) (l3 : List Int) (r : Bool) (w : World) (hr2 : Kd.C k37 w A2 l2.length l2) (hc2 : l2.length <= c2) (hr3 : Kd.C (Kd.int .i64) w A3 l3.length l3) (hc3 : l3.length <= c3) (h : leatlaw11_WindowPlays.f k a0_0 a0_1 a0_2 a1 l2 l3 = some r) :
  Calls Try.prog 4 #[.agg #[.int .i64 a0_0, .int .i64 a0_1, .int .i64 a0_2], .int .i64 a1, .slice A2 l2.length c2, .slice A3 l3.length c3] w fun e w' => e = .returned (.bool r) /\ Below w.heap.size w w' := by
 have hu23 := Try.underlying23
 have hu37 := Try.underlying37
 have HR2 := zd hr2
 have HC2 := zd hc2
 clear hr2 hc2
 have HR3 := zd hr3
 have HC3 := zd hc3
 clear hr3 hc3
 have HB := zd (Below.refl w.heap.size w)
 have H : ((leatlaw11_known.f k).bind fun t311 => (if t311 = true then ((leatlaw11_fit.f k a0_0 a0_1 a0_2).bind fun t312 => (if t312 = true then (if (l2.length : Int) > 60 then (leatlaw11_WindowPlays.j0 k a1 l2 l3 true a0_0 a0_1 a0_2) else (if (l3.length : Int) > 60 then (leatlaw11_WindowPlays.j0 k a1 l2 l3 true a0_0 a0_1 a0_2) else (if a1 < 1 then (leatlaw11_WindowPlays.j0 k a1 l2 l3 true a0_0 a0_1 a0_2) else (leatlaw11_WindowPlays.j0 k a1 l2 l3 (decide (a1 > 5)) a0_0 a0_1 a0_2)))) else (leatlaw11_WindowPlays.j0 k a1 l2 l3 true a0_0 a0_1 a0_2))) else (none))) = some r := h
 clear h
 replace H := Option.bind_eq_some_iff.mp H
 obtain ⟨t311, A50, H⟩ := H
 replace H : (if t311 = true then ((leatlaw11_fit.f k a0_0 a0_1 a0_2).bind fun t312 => (if t312 = true then (if (l2.length : Int) > 60 then (leatlaw11_WindowPlays.j0 k a1 l2 l3 true a0_0 a0_1 a0_2) else (if (l3.length : Int) > 60 then (leatlaw11_WindowPlays.j0 k a1 l2 l3 true a0_0 a0_1 a0_2) else (if a1 < 1 then (leatlaw11_WindowPlays.j0 k a1 l2 l3 true a0_0 a0_1 a0_2) else (leatlaw11_WindowPlays.j0 k a1 l2 l3 (decide (a1 > 5)) a0_0 a0_1 a0_2)))) else (leatlaw11_WindowPlays.j0 k a1 l2 l3 true a0_0 a0_1 a0_2))) else (none)) = some r := H
 have A5 := zd A50
 clear A50
 by_cases c6 : t311 = true
 ·subst c6
  have H1 : ((leatlaw11_fit.f k a0_0 a0_1 a0_2).bind fun t312 => (if t312 = true then (if (l2.length : Int) > 60 then (leatlaw11_WindowPlays.j0 k a1 l2 l3 true a0_0 a0_1 a0_2) else (if (l3.length : Int) > 60 then (leatlaw11_WindowPlays.j0 k a1 l2 l3 true a0_0 a0_1 a0_2) else (if a1 < 1 then (leatlaw11_WindowPlays.j0 k a1 l2 l3 true a0_0 a0_1 a0_2) else (leatlaw11_WindowPlays.j0 k a1 l2 l3 (decide (a1 > 5)) a0_0 a0_1 a0_2)))) else (leatlaw11_WindowPlays.j0 k a1 l2 l3 true a0_0 a0_1 a0_2))) = some r := by rw [if_pos rfl] at H; exact H
  clear H
  have H := H1
  clear H1
  have HC7 := zd H
  clear H
  go_enter Try.func4, Try.ntmps4
  go_upto_region 3 with (first | ((with_reducible refine gate_dst (N := 4) rfl ?_); (try (refine gate_guard (by rfl) ?_; dsimp only)); refine box_event ?hg (N := 4) ?hd (cs := #[.int .i64 a0_0, .int .i64 a0_1, .int .i64 a0_2]) (t := 23) ?hr ?_; (case hd => rfl); (case hg => rfl); (case hr => first | (go_simp; done) | (go_simp; rfl)); intro gb310 hg w8 hbox hb; have n0_ := zd (zs (by repeat (first | (with_reducible first | exact HB.out | apply zh | apply zi | apply zj) | exact HB.out)) hb); have n1_ := zd (hbox); have n2_ := zd ((by rw [hg]; exact (below_size (by repeat (first | (with_reducible first | exact HB.out | apply zh | apply zi | apply zj) | exact HB.out))) : w.heap.size <= gb310)); have n3_ := zd ((by rw [hg]; exact (below_size (by repeat (first | (with_reducible first | exact HB.out | apply zh | apply zi | apply zj) | exact HB.out))) : w.heap.size <= gb310)); clear HB; have HB := n0_; have BK310 := n1_; have GW310 := n2_; have GE310 := n3_; clear n0_ n1_ n2_ n3_; clear hb hbox hg) | ((with_reducible refine gate_callee (f := 12) rfl ?_); refine goesL_ (some 18) rfl rfl Try.func12 (by kernel_rfl) rfl #[] rfl (by (try simp only [List.map_toArray, List.map_cons, List.map_nil]); first | done | rfl | (simp only [List.length_drop, List.length_take]; rfl)) ?_; (with_reducible refine (leatlaw11_known.calls k  true _ A5.out).mono ?_); rintro e w9 ⟨rfl, hb⟩; refine ⟨_, rfl, ?_⟩; have n0_ := zd (zp (g := gb310) (o := .cells #[.int .i64 a0_0, .int .i64 a0_1, .int .i64 a0_2] 23 (0, 0)) (by (with_reducible repeat (first | refine zk ?_ _ | refine zl ?_ | refine zm ?_ _)); exact BK310.out) hb); have n1_ := zd (zs (by repeat (first | (with_reducible first | exact HB.out | apply zh | apply zi | apply zj | refine zn ?_ GE310.out) | exact HB.out)) hb); clear BK310; clear HB; have BK310 := n0_; have HB := n1_; clear n0_ n1_; (try clear hb); (try clear hb2); (try clear hk); (try clear hi)))
  (try simp only [Act.put, za, zb, zc])
  go_cut [40] (fun v40 wc => ∃ (kq : Nat) (x40_6 : Bool), v40 = .bool x40_6 /\ Aside0 (leatlaw11_WindowPlays.j0 kq a1 l2 l3 x40_6 a0_0 a0_1 a0_2 = some r) /\ Aside0 (kq <= k) /\ Aside0 (wc.heap[gb310]? = some (.cells #[.int .i64 a0_0, .int .i64 a0_1, .int .i64 a0_2] 23 (0, 0))) /\ Aside0 (Below w.heap.size w wc))
  case first =>
   have H := HC7.out
   clear HC7
   replace H := Option.bind_eq_some_iff.mp H
   obtain ⟨t312, A100, H⟩ := H
   replace H : (if t312 = true then (if (l2.length : Int) > 60 then (leatlaw11_WindowPlays.j0 k a1 l2 l3 true a0_0 a0_1 a0_2) else (if (l3.length : Int) > 60 then (leatlaw11_WindowPlays.j0 k a1 l2 l3 true a0_0 a0_1 a0_2) else (if a1 < 1 then (leatlaw11_WindowPlays.j0 k a1 l2 l3 true a0_0 a0_1 a0_2) else (leatlaw11_WindowPlays.j0 k a1 l2 l3 (decide (a1 > 5)) a0_0 a0_1 a0_2)))) else (leatlaw11_WindowPlays.j0 k a1 l2 l3 true a0_0 a0_1 a0_2)) = some r := H
   have A10 := zd A100
   clear A100
   by_cases c11 : t312 = true
   ·subst c11
    have H1 : (if (l2.length : Int) > 60 then (leatlaw11_WindowPlays.j0 k a1 l2 l3 true a0_0 a0_1 a0_2) else (if (l3.length : Int) > 60 then (leatlaw11_WindowPlays.j0 k a1 l2 l3 true a0_0 a0_1 a0_2) else (if a1 < 1 then (leatlaw11_WindowPlays.j0 k a1 l2 l3 true a0_0 a0_1 a0_2) else (leatlaw11_WindowPlays.j0 k a1 l2 l3 (decide (a1 > 5)) a0_0 a0_1 a0_2)))) = some r := by rw [if_pos rfl] at H; exact H
    clear H
    have H := H1
    clear H1
    by_cases c12 : (l2.length : Int) > 60
    ·rw [if_pos c12] at H
     have c12b0 : decide (60 < (l2.length : Int)) = true := decide_eq_true c12
     have c12b1 : decide (60 < l2.length) = true := decide_eq_true (by omega)
     clear c12
     (first | rw [c12b0] | (simp only [i64_w, i32_w]; rw [c12b0]) | skip)
     have H' := zd H
     clear H
     have hcz13_0 : w9.cell? ⟨gb310, 0, none⟩ = some (.int .i64 a0_0) := (zo BK310.out 0).trans rfl
     have hcz13_1 : w9.cell? ⟨gb310, 1, none⟩ = some (.int .i64 a0_1) := (zo BK310.out 1).trans rfl
     have hcz13_2 : w9.cell? ⟨gb310, 2, none⟩ = some (.int .i64 a0_2) := (zo BK310.out 2).trans rfl
     have hfz13_0 := blk_frozen BK310.out 0
     have hfz13_1 := blk_frozen BK310.out 1
     have hfz13_2 := blk_frozen BK310.out 2
     go_wp2_with (first | ((with_reducible refine gate_callee (f := 13) rfl ?_); refine goesL_ (some 21) rfl rfl Try.func13 (by kernel_rfl) rfl #[.agg #[.int .i64 a0_0, .int .i64 a0_1, .int .i64 a0_2]] rfl (by (try simp only [List.map_toArray, List.map_cons, List.map_nil]); first | done | rfl | (simp only [List.length_drop, List.length_take]; rfl)) ?_; (with_reducible refine (leatlaw11_fit.calls k a0_0 a0_1 a0_2 true _ A10.out).mono ?_); rintro e w14 ⟨rfl, hb⟩; refine ⟨_, rfl, ?_⟩; have n0_ := zd (zp (g := gb310) (o := .cells #[.int .i64 a0_0, .int .i64 a0_1, .int .i64 a0_2] 23 (0, 0)) (by (with_reducible repeat (first | refine zk ?_ _ | refine zl ?_ | refine zm ?_ _)); exact BK310.out) hb); have n1_ := zd (zs (by repeat (first | (with_reducible first | exact HB.out | apply zh | apply zi | apply zj | refine zn ?_ GE310.out) | exact HB.out)) hb); clear BK310; clear HB; have BK310 := n0_; have HB := n1_; clear n0_ n1_; (try clear hb); (try clear hb2); (try clear hk); (try clear hi)))
     go_meet
     case rel => exact ⟨_, (true), (by first | rfl | (simp; done) | (simp [*]; done)), H', ⟨by first | omega | exact Nat.le_refl _⟩, ⟨by (with_reducible repeat (first | refine zk ?_ _ | refine zl ?_ | refine zm ?_ _)); exact BK310.out⟩, ⟨by repeat (first | (with_reducible first | exact HB.out | apply zh | apply zi | apply zj | refine zn ?_ GE310.out) | exact HB.out)⟩⟩
    ·rw [if_neg c12] at H
     have c12b0 : decide (60 < (l2.length : Int)) = false := decide_eq_false c12
     have c12b1 : decide (60 < l2.length) = false := decide_eq_false (by omega)
     clear c12
     (first | rw [c12b0] | (simp only [i64_w, i32_w]; rw [c12b0]) | skip)
     by_cases c15 : (l3.length : Int) > 60
     ·rw [if_pos c15] at H
      have c15b0 : decide (60 < (l3.length : Int)) = true := decide_eq_true c15
      have c15b1 : decide (60 < l3.length) = true := decide_eq_true (by omega)
      clear c15
      have H' := zd H
      clear H
      have hcz16_0 : w9.cell? ⟨gb310, 0, none⟩ = some (.int .i64 a0_0) := (zo BK310.out 0).trans rfl
      have hcz16_1 : w9.cell? ⟨gb310, 1, none⟩ = some (.int .i64 a0_1) := (zo BK310.out 1).trans rfl
      have hcz16_2 : w9.cell? ⟨gb310, 2, none⟩ = some (.int .i64 a0_2) := (zo BK310.out 2).trans rfl
      have hfz16_0 := blk_frozen BK310.out 0
      have hfz16_1 := blk_frozen BK310.out 1
      have hfz16_2 := blk_frozen BK310.out 2
      go_wp2_with (first | ((with_reducible refine gate_callee (f := 13) rfl ?_); refine goesL_ (some 21) rfl rfl Try.func13 (by kernel_rfl) rfl #[.agg #[.int .i64 a0_0, .int .i64 a0_1, .int .i64 a0_2]] rfl (by (try simp only [List.map_toArray, List.map_cons, List.map_nil]); first | done | rfl | (simp only [List.length_drop, List.length_take]; rfl)) ?_; (with_reducible refine (leatlaw11_fit.calls k a0_0 a0_1 a0_2 true _ A10.out).mono ?_); rintro e w17 ⟨rfl, hb⟩; refine ⟨_, rfl, ?_⟩; have n0_ := zd (zp (g := gb310) (o := .cells #[.int .i64 a0_0, .int .i64 a0_1, .int .i64 a0_2] 23 (0, 0)) (by (with_reducible repeat (first | refine zk ?_ _ | refine zl ?_ | refine zm ?_ _)); exact BK310.out) hb); have n1_ := zd (zs (by repeat (first | (with_reducible first | exact HB.out | apply zh | apply zi | apply zj | refine zn ?_ GE310.out) | exact HB.out)) hb); clear BK310; clear HB; have BK310 := n0_; have HB := n1_; clear n0_ n1_; (try clear hb); (try clear hb2); (try clear hk); (try clear hi)))
      go_meet
      case rel => exact ⟨_, (true), (by first | rfl | (simp; done) | (simp [*]; done)), H', ⟨by first | omega | exact Nat.le_refl _⟩, ⟨by (with_reducible repeat (first | refine zk ?_ _ | refine zl ?_ | refine zm ?_ _)); exact BK310.out⟩, ⟨by repeat (first | (with_reducible first | exact HB.out | apply zh | apply zi | apply zj | refine zn ?_ GE310.out) | exact HB.out)⟩⟩
     ·rw [if_neg c15] at H
      have c15b0 : decide (60 < (l3.length : Int)) = false := decide_eq_false c15
      have c15b1 : decide (60 < l3.length) = false := decide_eq_false (by omega)
      clear c15
      by_cases c18 : a1 < 1
      ·rw [if_pos c18] at H
       have c18b0 : decide (a1 < 1) = true := decide_eq_true c18
       clear c18
       have H' := zd H
       clear H
       have hcz19_0 : w9.cell? ⟨gb310, 0, none⟩ = some (.int .i64 a0_0) := (zo BK310.out 0).trans rfl
       have hcz19_1 : w9.cell? ⟨gb310, 1, none⟩ = some (.int .i64 a0_1) := (zo BK310.out 1).trans rfl
       have hcz19_2 : w9.cell? ⟨gb310, 2, none⟩ = some (.int .i64 a0_2) := (zo BK310.out 2).trans rfl
       have hfz19_0 := blk_frozen BK310.out 0
       have hfz19_1 := blk_frozen BK310.out 1
       have hfz19_2 := blk_frozen BK310.out 2
       go_wp2_with (first | ((with_reducible refine gate_callee (f := 13) rfl ?_); refine goesL_ (some 21) rfl rfl Try.func13 (by kernel_rfl) rfl #[.agg #[.int .i64 a0_0, .int .i64 a0_1, .int .i64 a0_2]] rfl (by (try simp only [List.map_toArray, List.map_cons, List.map_nil]); first | done | rfl | (simp only [List.length_drop, List.length_take]; rfl)) ?_; (with_reducible refine (leatlaw11_fit.calls k a0_0 a0_1 a0_2 true _ A10.out).mono ?_); rintro e w20 ⟨rfl, hb⟩; refine ⟨_, rfl, ?_⟩; have n0_ := zd (zp (g := gb310) (o := .cells #[.int .i64 a0_0, .int .i64 a0_1, .int .i64 a0_2] 23 (0, 0)) (by (with_reducible repeat (first | refine zk ?_ _ | refine zl ?_ | refine zm ?_ _)); exact BK310.out) hb); have n1_ := zd (zs (by repeat (first | (with_reducible first | exact HB.out | apply zh | apply zi | apply zj | refine zn ?_ GE310.out) | exact HB.out)) hb); clear BK310; clear HB; have BK310 := n0_; have HB := n1_; clear n0_ n1_; (try clear hb); (try clear hb2); (try clear hk); (try clear hi)))
       go_meet
       case rel => exact ⟨_, (true), (by first | rfl | (simp; done) | (simp [*]; done)), H', ⟨by first | omega | exact Nat.le_refl _⟩, ⟨by (with_reducible repeat (first | refine zk ?_ _ | refine zl ?_ | refine zm ?_ _)); exact BK310.out⟩, ⟨by repeat (first | (with_reducible first | exact HB.out | apply zh | apply zi | apply zj | refine zn ?_ GE310.out) | exact HB.out)⟩⟩
      ·rw [if_neg c18] at H
       have c18b0 : decide (a1 < 1) = false := decide_eq_false c18
       clear c18
       have H' := zd H
       clear H
       have hcz21_0 : w9.cell? ⟨gb310, 0, none⟩ = some (.int .i64 a0_0) := (zo BK310.out 0).trans rfl
       have hcz21_1 : w9.cell? ⟨gb310, 1, none⟩ = some (.int .i64 a0_1) := (zo BK310.out 1).trans rfl
       have hcz21_2 : w9.cell? ⟨gb310, 2, none⟩ = some (.int .i64 a0_2) := (zo BK310.out 2).trans rfl
       have hfz21_0 := blk_frozen BK310.out 0
       have hfz21_1 := blk_frozen BK310.out 1
       have hfz21_2 := blk_frozen BK310.out 2
       go_wp2_with (first | ((with_reducible refine gate_callee (f := 13) rfl ?_); refine goesL_ (some 21) rfl rfl Try.func13 (by kernel_rfl) rfl #[.agg #[.int .i64 a0_0, .int .i64 a0_1, .int .i64 a0_2]] rfl (by (try simp only [List.map_toArray, List.map_cons, List.map_nil]); first | done | rfl | (simp only [List.length_drop, List.length_take]; rfl)) ?_; (with_reducible refine (leatlaw11_fit.calls k a0_0 a0_1 a0_2 true _ A10.out).mono ?_); rintro e w22 ⟨rfl, hb⟩; refine ⟨_, rfl, ?_⟩; have n0_ := zd (zp (g := gb310) (o := .cells #[.int .i64 a0_0, .int .i64 a0_1, .int .i64 a0_2] 23 (0, 0)) (by (with_reducible repeat (first | refine zk ?_ _ | refine zl ?_ | refine zm ?_ _)); exact BK310.out) hb); have n1_ := zd (zs (by repeat (first | (with_reducible first | exact HB.out | apply zh | apply zi | apply zj | refine zn ?_ GE310.out) | exact HB.out)) hb); clear BK310; clear HB; have BK310 := n0_; have HB := n1_; clear n0_ n1_; (try clear hb); (try clear hb2); (try clear hk); (try clear hi)))
       go_meet
       case rel => exact ⟨_, (decide (a1 > 5)), (by first | rfl | (simp; done) | (simp [*]; done)), H', ⟨by first | omega | exact Nat.le_refl _⟩, ⟨by (with_reducible repeat (first | refine zk ?_ _ | refine zl ?_ | refine zm ?_ _)); exact BK310.out⟩, ⟨by repeat (first | (with_reducible first | exact HB.out | apply zh | apply zi | apply zj | refine zn ?_ GE310.out) | exact HB.out)⟩⟩
   ·replace c11 := Bool.eq_false_iff.mpr c11
    subst c11
    have H1 : (leatlaw11_WindowPlays.j0 k a1 l2 l3 true a0_0 a0_1 a0_2) = some r := by rw [if_neg (show ¬ (false = true) by decide)] at H; exact H
    clear H
    have H := H1
    clear H1
    have H' := zd H
    clear H
    have hcz23_0 : w9.cell? ⟨gb310, 0, none⟩ = some (.int .i64 a0_0) := (zo BK310.out 0).trans rfl
    have hcz23_1 : w9.cell? ⟨gb310, 1, none⟩ = some (.int .i64 a0_1) := (zo BK310.out 1).trans rfl
    have hcz23_2 : w9.cell? ⟨gb310, 2, none⟩ = some (.int .i64 a0_2) := (zo BK310.out 2).trans rfl
    have hfz23_0 := blk_frozen BK310.out 0
    have hfz23_1 := blk_frozen BK310.out 1
    have hfz23_2 := blk_frozen BK310.out 2
    go_wp2_with (first | ((with_reducible refine gate_callee (f := 13) rfl ?_); refine goesL_ (some 21) rfl rfl Try.func13 (by kernel_rfl) rfl #[.agg #[.int .i64 a0_0, .int .i64 a0_1, .int .i64 a0_2]] rfl (by (try simp only [List.map_toArray, List.map_cons, List.map_nil]); first | done | rfl | (simp only [List.length_drop, List.length_take]; rfl)) ?_; (with_reducible refine (leatlaw11_fit.calls k a0_0 a0_1 a0_2 false _ A10.out).mono ?_); rintro e w24 ⟨rfl, hb⟩; refine ⟨_, rfl, ?_⟩; have n0_ := zd (zp (g := gb310) (o := .cells #[.int .i64 a0_0, .int .i64 a0_1, .int .i64 a0_2] 23 (0, 0)) (by (with_reducible repeat (first | refine zk ?_ _ | refine zl ?_ | refine zm ?_ _)); exact BK310.out) hb); have n1_ := zd (zs (by repeat (first | (with_reducible first | exact HB.out | apply zh | apply zi | apply zj | refine zn ?_ GE310.out) | exact HB.out)) hb); clear BK310; clear HB; have BK310 := n0_; have HB := n1_; clear n0_ n1_; (try clear hb); (try clear hb2); (try clear hk); (try clear hi)))
    go_meet
    case rel => exact ⟨_, (true), (by first | rfl | (simp; done) | (simp [*]; done)), H', ⟨by first | omega | exact Nat.le_refl _⟩, ⟨by (with_reducible repeat (first | refine zk ?_ _ | refine zl ?_ | refine zm ?_ _)); exact BK310.out⟩, ⟨by repeat (first | (with_reducible first | exact HB.out | apply zh | apply zi | apply zj | refine zn ?_ GE310.out) | exact HB.out)⟩⟩
  case rest =>
   clear HC7
   try clear c1; try clear c2; try clear p2; try clear c3; try clear c4; try clear c6; try clear c11; try clear c12; try clear c12b0; try clear c12b1; try clear c13; try clear c15; try clear c15b0; try clear c15b1; try clear c18; try clear c18b0; try clear hcz13_0; try clear hcz13_1; try clear hcz13_2; try clear hcz16_0; try clear hcz16_1; try clear hcz16_2; try clear hcz19_0; try clear hcz19_1; try clear hcz19_2; try clear hcz21_0; try clear hcz21_1; try clear hcz21_2; try clear hcz23_0; try clear hcz23_1; try clear hcz23_2; try clear hfz13_0; try clear hfz13_1; try clear hfz13_2; try clear hfz16_0; try clear hfz16_1; try clear hfz16_2; try clear hfz19_0; try clear hfz19_1; try clear hfz19_2; try clear hfz21_0; try clear hfz21_1; try clear hfz21_2; try clear hfz23_0; try clear hfz23_1; try clear hfz23_2
   obtain ⟨kq, x40_6, rfl, HA, HJ6, BK310, HB⟩ := hcut
   cases kq with
   | zero => exact absurd HA.out (by simp [leatlaw11_WindowPlays.j0])
   | succ kj6 =>
    have H := HA.out
    clear HA
    simp only [leatlaw11_WindowPlays.j0] at H
    by_cases c25 : x40_6 = true
    ·subst c25
     have H1 : (some true) = some r := by rw [if_pos rfl] at H; exact H
     clear H
     have H := H1
     clear H1
     obtain rfl := Option.some.inj H
     go_wp2
     go_ret
     exact ⟨by first | rfl | (simp [errW_none, errW_some] <;> rfl) | (simp [*, errW_none, errW_some] <;> rfl), by repeat (first | (with_reducible first | exact HB.out | apply zh | apply zi | apply zj | refine zn ?_ GE310.out) | exact HB.out)⟩
    ·replace c25 := Bool.eq_false_iff.mpr c25
     subst c25
     have H1 : (leatlaw11_WindowPlays.l0 kj6 a1 l2 l3 ([] : List (S46)) ([] : List (S46)) 0 a0_0 a0_1 a0_2) = some r := by rw [if_neg (show ¬ (false = true) by decide)] at H; exact H
     clear H
     have H := H1
     clear H1
     have H' := zd H
     clear H
     go_wp2
     go_loopg [9, 10, 11] kj6 (fun kq v9 v10 v11 w' => ∃ (x9_2 : List (S46)) (x10_2 : List (S46)) (x11_2 : Int), v11 = .int .i64 x11_2 /\ Aside0 (leatlaw11_WindowPlays.l0 kq a1 l2 l3 x9_2 x10_2 x11_2 a0_0 a0_1 a0_2 = some r) /\ Aside0 (kq <= kj6) /\ Aside0 (Kd.R k46 46 w' w.heap.size (fun k_ => some k_ ≠ (v10 : Value).ownBlock) v9 x9_2) /\ Aside0 (Kd.R k46 46 w' w.heap.size (fun k_ => some k_ ≠ (v9 : Value).ownBlock) v10 x10_2) /\ Aside0 (w'.heap[gb310]? = some (.cells #[.int .i64 a0_0, .int .i64 a0_1, .int .i64 a0_2] 23 (0, 0))) /\ Aside0 (Below w.heap.size w w'))
     case atStart => exact ⟨(([] : List (S46))), (([] : List (S46))), (0), (by first | rfl | (simp; done) | (simp [*]; done)), H', ⟨Nat.le_refl _⟩, ⟨by first | exact Kd.R_nil _ _ _ _ _ | exact Kd.N_nil _ _ _ _ _ | exact Kd.V_nil _ _ _ _ _ | exact Kd.Q_nil _ _ _ _ _ | exact Kd.S_nil _ _ _ _ _⟩, ⟨by first | exact Kd.R_nil _ _ _ _ _ | exact Kd.N_nil _ _ _ _ _ | exact Kd.V_nil _ _ _ _ _ | exact Kd.Q_nil _ _ _ _ _ | exact Kd.S_nil _ _ _ _ _⟩, ⟨by (with_reducible repeat (first | refine zk ?_ _ | refine zl ?_ | refine zm ?_ _)); exact BK310.out⟩, ⟨by repeat (first | (with_reducible first | exact HB.out | apply zh | apply zi | apply zj | refine zn ?_ GE310.out) | exact HB.out)⟩⟩
     case round =>
      clear H'
      try clear c1; try clear c2; try clear p2; try clear c3; try clear c4; try clear c6; try clear c11; try clear c12; try clear c12b0; try clear c12b1; try clear c13; try clear c15; try clear c15b0; try clear c15b1; try clear c18; try clear c18b0; try clear c25; try clear hcz13_0; try clear hcz13_1; try clear hcz13_2; try clear hcz16_0; try clear hcz16_1; try clear hcz16_2; try clear hcz19_0; try clear hcz19_1; try clear hcz19_2; try clear hcz21_0; try clear hcz21_1; try clear hcz21_2; try clear hcz23_0; try clear hcz23_1; try clear hcz23_2; try clear hfz13_0; try clear hfz13_1; try clear hfz13_2; try clear hfz16_0; try clear hfz16_1; try clear hfz16_2; try clear hfz19_0; try clear hfz19_1; try clear hfz19_2; try clear hfz21_0; try clear hfz21_1; try clear hfz21_2; try clear hfz23_0; try clear hfz23_1; try clear hfz23_2; try clear p2
      obtain ⟨x9_2, x10_2, x11_2, rfl, HA, HK2, HO_9, HO_10, BK310, HB⟩ := hrel
      cases gk with
      | zero => exact absurd HA.out (by simp [leatlaw11_WindowPlays.l0])
      | succ k2 =>
       have H := HA.out
       clear HA
       simp only [leatlaw11_WindowPlays.l0] at H
       by_cases c26 : x11_2 < (l2.length : Int)
       ·rw [if_pos c26] at H
        have c26b0 : decide (x11_2 < (l2.length : Int)) = true := decide_eq_true c26
        clear c26
        by_cases c27 : 0 <= x11_2
        ·rw [if_pos c27] at H
         have c27b0 : decide (0 <= x11_2) = true := decide_eq_true c27
         clear c27
         replace H := Option.bind_eq_some_iff.mp H
         obtain ⟨t314, A280, H⟩ := H
         replace H : (if t314 = true then (if ([] : List (S46)).length + x9_2.length < 4398046511104 then ((window_Put.f k2 a0_0 a0_1 a0_2 a1 x9_2 ((rd_T37 l2 x11_2).f0) ((rd_T37 l2 x11_2).f1) ((rd_T37 l2 x11_2).f2)).bind fun t319 => ((leathelp_Panes.f k2 x9_2 (([] : List (S46)) ++ x9_2)).bind fun t322 => (if t322 = true then ((leatref11_Put.f k2 a0_0 a0_1 a0_2 a1 x10_2 ((rd_T37 l2 x11_2).f0) ((rd_T37 l2 x11_2).f1) ((rd_T37 l2 x11_2).f2)).bind fun t324 => ((leathelp_Panes.f k2 t319 t324).bind fun t327 => (if t327 = true then (if x11_2 < (l3.length : Int) then ((window_Fire.f k2 t319 (rd l3 x11_2)).bind fun bt329 => ((leatref11_Fire.f k2 t324 (rd l3 x11_2)).bind fun bt336 => ((leathelp_Records.f k2 bt329.1 bt336.1).bind fun t342 => (if t342 = true then ((leathelp_Panes.f k2 bt329.2 bt336.2).bind fun t343 => (if t343 = true then (leatlaw11_WindowPlays.l0 k2 a1 l2 l3 bt329.2 bt336.2 (wrap64 (x11_2 + 1)) a0_0 a0_1 a0_2) else (none))) else (none))))) else (leatlaw11_WindowPlays.l0 k2 a1 l2 l3 t319 t324 (wrap64 (x11_2 + 1)) a0_0 a0_1 a0_2)) else (none)))) else (none)))) else (none)) else (some true)) = some r := H
         have A28 := zd A280
         clear A280
         by_cases c29 : t314 = true
         ·subst c29
          have H1 : (if ([] : List (S46)).length + x9_2.length < 4398046511104 then ((window_Put.f k2 a0_0 a0_1 a0_2 a1 x9_2 ((rd_T37 l2 x11_2).f0) ((rd_T37 l2 x11_2).f1) ((rd_T37 l2 x11_2).f2)).bind fun t319 => ((leathelp_Panes.f k2 x9_2 (([] : List (S46)) ++ x9_2)).bind fun t322 => (if t322 = true then ((leatref11_Put.f k2 a0_0 a0_1 a0_2 a1 x10_2 ((rd_T37 l2 x11_2).f0) ((rd_T37 l2 x11_2).f1) ((rd_T37 l2 x11_2).f2)).bind fun t324 => ((leathelp_Panes.f k2 t319 t324).bind fun t327 => (if t327 = true then (if x11_2 < (l3.length : Int) then ((window_Fire.f k2 t319 (rd l3 x11_2)).bind fun bt329 => ((leatref11_Fire.f k2 t324 (rd l3 x11_2)).bind fun bt336 => ((leathelp_Records.f k2 bt329.1 bt336.1).bind fun t342 => (if t342 = true then ((leathelp_Panes.f k2 bt329.2 bt336.2).bind fun t343 => (if t343 = true then (leatlaw11_WindowPlays.l0 k2 a1 l2 l3 bt329.2 bt336.2 (wrap64 (x11_2 + 1)) a0_0 a0_1 a0_2) else (none))) else (none))))) else (leatlaw11_WindowPlays.l0 k2 a1 l2 l3 t319 t324 (wrap64 (x11_2 + 1)) a0_0 a0_1 a0_2)) else (none)))) else (none)))) else (none)) = some r := by rw [if_pos rfl] at H; exact H
          clear H
          have H := H1
          clear H1
          by_cases c30 : ([] : List (S46)).length + x9_2.length < 4398046511104
          ·rw [if_pos c30] at H
           have LMc30 := zd c30
           clear c30
           obtain ⟨y315, hy315⟩ : ∃ y_ : List (S46), y_ = (([] : List (S46)) ++ x9_2) := ⟨_, rfl⟩
           replace H : ((window_Put.f k2 a0_0 a0_1 a0_2 a1 x9_2 ((rd_T37 l2 x11_2).f0) ((rd_T37 l2 x11_2).f1) ((rd_T37 l2 x11_2).f2)).bind fun t319 => ((leathelp_Panes.f k2 x9_2 y315).bind fun t322 => (if t322 = true then ((leatref11_Put.f k2 a0_0 a0_1 a0_2 a1 x10_2 ((rd_T37 l2 x11_2).f0) ((rd_T37 l2 x11_2).f1) ((rd_T37 l2 x11_2).f2)).bind fun t324 => ((leathelp_Panes.f k2 t319 t324).bind fun t327 => (if t327 = true then (if x11_2 < (l3.length : Int) then ((window_Fire.f k2 t319 (rd l3 x11_2)).bind fun bt329 => ((leatref11_Fire.f k2 t324 (rd l3 x11_2)).bind fun bt336 => ((leathelp_Records.f k2 bt329.1 bt336.1).bind fun t342 => (if t342 = true then ((leathelp_Panes.f k2 bt329.2 bt336.2).bind fun t343 => (if t343 = true then (leatlaw11_WindowPlays.l0 k2 a1 l2 l3 bt329.2 bt336.2 (wrap64 (x11_2 + 1)) a0_0 a0_1 a0_2) else (none))) else (none))))) else (leatlaw11_WindowPlays.l0 k2 a1 l2 l3 t319 t324 (wrap64 (x11_2 + 1)) a0_0 a0_1 a0_2)) else (none)))) else (none)))) = some r := by first | (rw [hy315]; with_reducible exact H) | (have H2_ := (Option.bind_some _ _).symm.trans H; rw [hy315]; with_reducible exact H2_) | (have H2_ := (Option.bind_some _ _).symm.trans H; with_reducible exact H2_) | with_reducible exact H | (rw [hy315]; exact H) | exact H
           have Ny315 := zd hy315
           clear hy315
           replace H := Option.bind_eq_some_iff.mp H
           obtain ⟨t319, A310, H⟩ := H
           replace H : ((leathelp_Panes.f k2 x9_2 y315).bind fun t322 => (if t322 = true then ((leatref11_Put.f k2 a0_0 a0_1 a0_2 a1 x10_2 ((rd_T37 l2 x11_2).f0) ((rd_T37 l2 x11_2).f1) ((rd_T37 l2 x11_2).f2)).bind fun t324 => ((leathelp_Panes.f k2 t319 t324).bind fun t327 => (if t327 = true then (if x11_2 < (l3.length : Int) then ((window_Fire.f k2 t319 (rd l3 x11_2)).bind fun bt329 => ((leatref11_Fire.f k2 t324 (rd l3 x11_2)).bind fun bt336 => ((leathelp_Records.f k2 bt329.1 bt336.1).bind fun t342 => (if t342 = true then ((leathelp_Panes.f k2 bt329.2 bt336.2).bind fun t343 => (if t343 = true then (leatlaw11_WindowPlays.l0 k2 a1 l2 l3 bt329.2 bt336.2 (wrap64 (x11_2 + 1)) a0_0 a0_1 a0_2) else (none))) else (none))))) else (leatlaw11_WindowPlays.l0 k2 a1 l2 l3 t319 t324 (wrap64 (x11_2 + 1)) a0_0 a0_1 a0_2)) else (none)))) else (none))) = some r := H
           have A31 := zd A310
           clear A310
           replace H := Option.bind_eq_some_iff.mp H
           obtain ⟨t322, A320, H⟩ := H
           replace H : (if t322 = true then ((leatref11_Put.f k2 a0_0 a0_1 a0_2 a1 x10_2 ((rd_T37 l2 x11_2).f0) ((rd_T37 l2 x11_2).f1) ((rd_T37 l2 x11_2).f2)).bind fun t324 => ((leathelp_Panes.f k2 t319 t324).bind fun t327 => (if t327 = true then (if x11_2 < (l3.length : Int) then ((window_Fire.f k2 t319 (rd l3 x11_2)).bind fun bt329 => ((leatref11_Fire.f k2 t324 (rd l3 x11_2)).bind fun bt336 => ((leathelp_Records.f k2 bt329.1 bt336.1).bind fun t342 => (if t342 = true then ((leathelp_Panes.f k2 bt329.2 bt336.2).bind fun t343 => (if t343 = true then (leatlaw11_WindowPlays.l0 k2 a1 l2 l3 bt329.2 bt336.2 (wrap64 (x11_2 + 1)) a0_0 a0_1 a0_2) else (none))) else (none))))) else (leatlaw11_WindowPlays.l0 k2 a1 l2 l3 t319 t324 (wrap64 (x11_2 + 1)) a0_0 a0_1 a0_2)) else (none)))) else (none)) = some r := H
           have A32 := zd A320
           clear A320
           by_cases c33 : t322 = true
           ·subst c33
            have H1 : ((leatref11_Put.f k2 a0_0 a0_1 a0_2 a1 x10_2 ((rd_T37 l2 x11_2).f0) ((rd_T37 l2 x11_2).f1) ((rd_T37 l2 x11_2).f2)).bind fun t324 => ((leathelp_Panes.f k2 t319 t324).bind fun t327 => (if t327 = true then (if x11_2 < (l3.length : Int) then ((window_Fire.f k2 t319 (rd l3 x11_2)).bind fun bt329 => ((leatref11_Fire.f k2 t324 (rd l3 x11_2)).bind fun bt336 => ((leathelp_Records.f k2 bt329.1 bt336.1).bind fun t342 => (if t342 = true then ((leathelp_Panes.f k2 bt329.2 bt336.2).bind fun t343 => (if t343 = true then (leatlaw11_WindowPlays.l0 k2 a1 l2 l3 bt329.2 bt336.2 (wrap64 (x11_2 + 1)) a0_0 a0_1 a0_2) else (none))) else (none))))) else (leatlaw11_WindowPlays.l0 k2 a1 l2 l3 t319 t324 (wrap64 (x11_2 + 1)) a0_0 a0_1 a0_2)) else (none)))) = some r := by rw [if_pos rfl] at H; exact H
            clear H
            have H := H1
            clear H1
            replace H := Option.bind_eq_some_iff.mp H
            obtain ⟨t324, A340, H⟩ := H
            replace H : ((leathelp_Panes.f k2 t319 t324).bind fun t327 => (if t327 = true then (if x11_2 < (l3.length : Int) then ((window_Fire.f k2 t319 (rd l3 x11_2)).bind fun bt329 => ((leatref11_Fire.f k2 t324 (rd l3 x11_2)).bind fun bt336 => ((leathelp_Records.f k2 bt329.1 bt336.1).bind fun t342 => (if t342 = true then ((leathelp_Panes.f k2 bt329.2 bt336.2).bind fun t343 => (if t343 = true then (leatlaw11_WindowPlays.l0 k2 a1 l2 l3 bt329.2 bt336.2 (wrap64 (x11_2 + 1)) a0_0 a0_1 a0_2) else (none))) else (none))))) else (leatlaw11_WindowPlays.l0 k2 a1 l2 l3 t319 t324 (wrap64 (x11_2 + 1)) a0_0 a0_1 a0_2)) else (none))) = some r := H
            have A34 := zd A340
            clear A340
            replace H := Option.bind_eq_some_iff.mp H
            obtain ⟨t327, A350, H⟩ := H
            replace H : (if t327 = true then (if x11_2 < (l3.length : Int) then ((window_Fire.f k2 t319 (rd l3 x11_2)).bind fun bt329 => ((leatref11_Fire.f k2 t324 (rd l3 x11_2)).bind fun bt336 => ((leathelp_Records.f k2 bt329.1 bt336.1).bind fun t342 => (if t342 = true then ((leathelp_Panes.f k2 bt329.2 bt336.2).bind fun t343 => (if t343 = true then (leatlaw11_WindowPlays.l0 k2 a1 l2 l3 bt329.2 bt336.2 (wrap64 (x11_2 + 1)) a0_0 a0_1 a0_2) else (none))) else (none))))) else (leatlaw11_WindowPlays.l0 k2 a1 l2 l3 t319 t324 (wrap64 (x11_2 + 1)) a0_0 a0_1 a0_2)) else (none)) = some r := H
            have A35 := zd A350
            clear A350
            by_cases c36 : t327 = true
            ·subst c36
             have H1 : (if x11_2 < (l3.length : Int) then ((window_Fire.f k2 t319 (rd l3 x11_2)).bind fun bt329 => ((leatref11_Fire.f k2 t324 (rd l3 x11_2)).bind fun bt336 => ((leathelp_Records.f k2 bt329.1 bt336.1).bind fun t342 => (if t342 = true then ((leathelp_Panes.f k2 bt329.2 bt336.2).bind fun t343 => (if t343 = true then (leatlaw11_WindowPlays.l0 k2 a1 l2 l3 bt329.2 bt336.2 (wrap64 (x11_2 + 1)) a0_0 a0_1 a0_2) else (none))) else (none))))) else (leatlaw11_WindowPlays.l0 k2 a1 l2 l3 t319 t324 (wrap64 (x11_2 + 1)) a0_0 a0_1 a0_2)) = some r := by rw [if_pos rfl] at H; exact H
             clear H
             have H := H1
             clear H1
             by_cases c37 : x11_2 < (l3.length : Int)
             ·rw [if_pos c37] at H
              have c37b0 : decide (x11_2 < (l3.length : Int)) = true := decide_eq_true c37
              clear c37
              replace H := Option.bind_eq_some_iff.mp H
              obtain ⟨⟨t329, t330⟩, A380, H⟩ := H
              replace H : ((leatref11_Fire.f k2 t324 (rd l3 x11_2)).bind fun bt336 => ((leathelp_Records.f k2 t329 bt336.1).bind fun t342 => (if t342 = true then ((leathelp_Panes.f k2 t330 bt336.2).bind fun t343 => (if t343 = true then (leatlaw11_WindowPlays.l0 k2 a1 l2 l3 t330 bt336.2 (wrap64 (x11_2 + 1)) a0_0 a0_1 a0_2) else (none))) else (none)))) = some r := H
              have A38 := zd A380
              clear A380
              replace H := Option.bind_eq_some_iff.mp H
              obtain ⟨⟨t336, t337⟩, A390, H⟩ := H
              replace H : ((leathelp_Records.f k2 t329 t336).bind fun t342 => (if t342 = true then ((leathelp_Panes.f k2 t330 t337).bind fun t343 => (if t343 = true then (leatlaw11_WindowPlays.l0 k2 a1 l2 l3 t330 t337 (wrap64 (x11_2 + 1)) a0_0 a0_1 a0_2) else (none))) else (none))) = some r := H
              have A39 := zd A390
              clear A390
              replace H := Option.bind_eq_some_iff.mp H
              obtain ⟨t342, A400, H⟩ := H
              replace H : (if t342 = true then ((leathelp_Panes.f k2 t330 t337).bind fun t343 => (if t343 = true then (leatlaw11_WindowPlays.l0 k2 a1 l2 l3 t330 t337 (wrap64 (x11_2 + 1)) a0_0 a0_1 a0_2) else (none))) else (none)) = some r := H
              have A40 := zd A400
              clear A400
              by_cases c41 : t342 = true
              ·subst c41
               have H1 : ((leathelp_Panes.f k2 t330 t337).bind fun t343 => (if t343 = true then (leatlaw11_WindowPlays.l0 k2 a1 l2 l3 t330 t337 (wrap64 (x11_2 + 1)) a0_0 a0_1 a0_2) else (none))) = some r := by rw [if_pos rfl] at H; exact H
               clear H
               have H := H1
               clear H1
               replace H := Option.bind_eq_some_iff.mp H
               obtain ⟨t343, A420, H⟩ := H
               replace H : (if t343 = true then (leatlaw11_WindowPlays.l0 k2 a1 l2 l3 t330 t337 (wrap64 (x11_2 + 1)) a0_0 a0_1 a0_2) else (none)) = some r := H
               have A42 := zd A420
               clear A420
               by_cases c43 : t343 = true
               ·subst c43
                have H1 : (leatlaw11_WindowPlays.l0 k2 a1 l2 l3 t330 t337 (wrap64 (x11_2 + 1)) a0_0 a0_1 a0_2) = some r := by rw [if_pos rfl] at H; exact H
                clear H
                have H := H1
                clear H1
                have H' := zd H
                clear H
                have p313 : 0 <= (x11_2 : Int) := of_decide_eq_true (by first | (with_reducible assumption) | assumption)
                have q313 : x11_2 < (l2.length : Int) := of_decide_eq_true (by first | (with_reducible assumption) | assumption)
                obtain ⟨ad313, e313, hx313_0, hx313_1, hx313_2⟩ := at_T37 HR2.out x11_2 p313 q313
                cases e313
                replace hx313_0 := (HB.out.cell (World.block_lt_of_cell? w _ hx313_0)).trans hx313_0
                replace hx313_1 := (HB.out.cell (World.block_lt_of_cell? w _ hx313_1)).trans hx313_1
                replace hx313_2 := (HB.out.cell (World.block_lt_of_cell? w _ hx313_2)).trans hx313_2
                replace p313 := eq_true p313
                replace q313 := eq_true q313
                try go_wp2_with (first | ((with_reducible refine gate_callee (f := 14) rfl ?_); refine goesL_ (some 52) rfl rfl Try.func14 (by kernel_rfl) rfl #[.int .i64 ((rd_T37 l2 x11_2).f1)] rfl (by (try simp only [List.map_toArray, List.map_cons, List.map_nil]); first | done | rfl | (simp only [List.length_drop, List.length_take]; rfl)) ?_; (with_reducible refine (leatlaw11_time.calls ((rd_T37 l2 x11_2).f1) true _ A28.out).mono ?_); rintro e w' ⟨rfl, ⟨nd, rfl⟩⟩; refine ⟨_, rfl, ?_⟩; obtain ⟨Ao45, co45, eo45⟩ := Kd.R_slice HO_9.out; subst eo45) | ((with_reducible refine gate_builtin (b := .append) (xs := #[.const (.slice none 0 0), .tmp 54]) rfl ?_); (try (refine gate_guard (by rfl) ?_; dsimp only)); at_builtin; refine Kd.R_append_rows k46 (w0 := w) w.heap.size rfl (.const (.slice none 0 0)) (.tmp 54) 35 46 (.agg #[(.int .i64 0), (.int .i64 0), (.int .i64 0), (.int .i64 0)]) 32 rfl Try.underlying35 info46 rfl (by decide) (by omega) (.slice none 0 0) ([] : List (S46)) x9_2 _ _ _ (fun k_ => some k_ ≠ (.slice Ao45 x9_2.length co45 : Value).ownBlock /\ some k_ ≠ (u10 : Value).ownBlock) (fun _ => False) rfl rfl ?aO ?aR (fun _ _ h => h) (fun _ h => h.elim) ?aF ?aB ?aS ?aL ?_; (case aR => repeat (first | exact (Kd.R_reads' HO_9.out).2.2 | (with_reducible refine Kd.C_alloc ?_ _) | (with_reducible refine Kd.C_drewN ?_ _) | (with_reducible refine Kd.C_drew ?_))); (case aB => exact (by repeat (first | (with_reducible first | exact HB.out | apply zh | apply zi | apply zj | refine zn ?_ GE310.out) | exact HB.out))); (case aF => exact (fun k_ hk => ⟨Kd.fresh' (Kd.R_lt (by (with_reducible repeat (first | apply ze | apply zf | apply zg)); exact HO_9.out)) k_ hk, Kd.fresh' (Kd.R_lt (by (with_reducible repeat (first | apply ze | apply zf | apply zg)); exact HO_10.out)) k_ hk⟩)); (case aO => exact ((Kd.R_nil _ _ _ _ (fun k_ => some k_ ≠ (.slice Ao45 x9_2.length co45 : Value).ownBlock /\ some k_ ≠ (u10 : Value).ownBlock)))); (case aS => exact (below_size (by repeat (first | (with_reducible first | exact HB.out | apply zh | apply zi | apply zj | refine zn ?_ GE310.out) | exact HB.out)))); (case aL => have := LMc30.out; omega); intro v316 w44 ho hb hg hat; rw [← Ny315.out] at ho; have n0_ := zd (Kd.R_after (Kd.R_apart_nil (by (with_reducible repeat (first | apply ze | apply zf | apply zg)); exact HO_9.out)) hg hat); have n1_ := zd (Kd.R_after (Kd.R_apart_nil (by (with_reducible repeat (first | apply ze | apply zf | apply zg)); exact HO_10.out)) hg hat); have n2_ := zd (blk_grown (g := gb310) (o := .cells #[.int .i64 a0_0, .int .i64 a0_1, .int .i64 a0_2] 23 (0, 0)) (by (with_reducible repeat (first | refine zk ?_ _ | refine zl ?_ | refine zm ?_ _)); exact BK310.out) hg (by simp [Value.ownBlock])); have n3_ := zd (hb); have n4_ := zd (ho); clear HO_9; clear HO_10; clear BK310; clear HB; have HO_9 := n0_; have HO_10 := n1_; have BK310 := n2_; have HB := n3_; have HO317 := n4_; clear n0_ n1_ n2_ n3_ n4_; clear ho hb hg hat))
                have n0_ := zd (zg HO_9.out)
                have n1_ := zd (zg HO_10.out)
                have n2_ := zd (zg HO317.out)
                have n3_ := zd (zl BK310.out)
                have n4_ := zd (zj HB.out)
                clear HO_9
                clear HO_10
                clear HO317
                clear BK310
                clear HB
                have HO_9 := n0_
                have HO_10 := n1_
                have HO317 := n2_
                have BK310 := n3_
                have HB := n4_
                clear n0_ n1_ n2_ n3_ n4_
                have p318 : 0 <= (x11_2 : Int) := of_decide_eq_true (by first | (with_reducible assumption) | assumption)
                have q318 : x11_2 < (l2.length : Int) := of_decide_eq_true (by first | (with_reducible assumption) | assumption)
                obtain ⟨ad318, e318, hx318_0, hx318_1, hx318_2⟩ := at_T37 HR2.out x11_2 p318 q318
                have hw318_2 := hx318_2
                have hw318_1 := hx318_1
                have hw318_0 := hx318_0
                obtain rfl : ad313 = ad318 := (by injection e318)
                replace hx318_0 := (HB.out.cell (World.block_lt_of_cell? w _ hx318_0)).trans hx318_0
                replace hx318_1 := (HB.out.cell (World.block_lt_of_cell? w _ hx318_1)).trans hx318_1
                replace hx318_2 := (HB.out.cell (World.block_lt_of_cell? w _ hx318_2)).trans hx318_2
                replace p318 := eq_true p318
                replace q318 := eq_true q318
                refine start_ (n := 9) (S := fun w' => w'.cell? ⟨gb310, 0, none⟩ = some (.int .i64 a0_0) /\ w'.cell? ⟨gb310, 1, none⟩ = some (.int .i64 a0_1) /\ w'.cell? ⟨gb310, 2, none⟩ = some (.int .i64 a0_2) /\ w'.cell? (ad313.add ((x11_2).toNat * 3)) = some (.int .i64 ((rd_T37 l2 x11_2).f0)) /\ w'.cell? ⟨(ad313.add ((x11_2).toNat * 3)).block, (ad313.add ((x11_2).toNat * 3)).off + 1, none⟩ = some (.int .i64 ((rd_T37 l2 x11_2).f1)) /\ w'.cell? ⟨(ad313.add ((x11_2).toNat * 3)).block, (ad313.add ((x11_2).toNat * 3)).off + 2, none⟩ = some (.int .i64 ((rd_T37 l2 x11_2).f2))) (ds := []) #[f_, f_, f_, f_, f_, f_, f_, f_, f_] (by kernel_rfl) rfl rfl ⟨(zo BK310.out 0).trans rfl, (zo BK310.out 1).trans rfl, (zo BK310.out 2).trans rfl, ((HB.out.cell (World.block_lt_of_cell? w _ hw318_0)).trans hw318_0), ((HB.out.cell (World.block_lt_of_cell? w _ hw318_1)).trans hw318_1), ((HB.out.cell (World.block_lt_of_cell? w _ hw318_2)).trans hw318_2)⟩ (fun hHeld => ?_); refine with_tabW leatlaw11_WindowPlays.tab12 leatlaw11_WindowPlays.bits12 (fun HT_ HW_ => ?_)
                generalize w44.drew = w46 at HO_9 HO_10 HO317 BK310 HB hx318_0 hx318_1 hx318_2 hHeld ⊢
                refine pure_ (i := 1) (N := some 57) (v := ?_) (a' := ?_) #[f_, t_, f_, f_, f_, f_, f_, f_, f_] rfl rfl (any_of HT_.out (by kernel_rfl)) (fun _ _ _ h => h) (Or.inl ⟨by rfl, ?_⟩) ?_ ?_
                rotate_left
                ·intro w'
                 go_simp
                 with_reducible rfl
                rotate_left
                ·simp only [Act.put, za, zb, zc, i64_w, i32_w]
                 rfl
                refine pure_ (i := 2) (N := some 58) (v := ?_) (a' := ?_) #[f_, t_, t_, f_, f_, f_, f_, f_, f_] rfl rfl (any_of HT_.out (by kernel_rfl)) (fun _ _ _ h => h) (Or.inl ⟨by rfl, ?_⟩) ?_ ?_
                rotate_left
                ·intro w'
                 go_simp
                 with_reducible rfl
                rotate_left
                ·simp only [Act.put, za, zb, zc, i64_w, i32_w]
                 rfl
                refine pure_ (i := 3) (N := some 59) (v := ?_) (a' := ?_) #[f_, t_, t_, t_, f_, f_, f_, f_, f_] rfl rfl (any_of HT_.out (by kernel_rfl)) (fun _ _ _ h => h) (Or.inl ⟨by rfl, ?_⟩) ?_ ?_
                rotate_left
                ·intro w'
                 go_simp
                 with_reducible rfl
                rotate_left
                ·simp only [Act.put, za, zb, zc, i64_w, i32_w]
                 rfl
                refine pure_ (i := 4) (N := some 60) (v := ?_) (a' := ?_) #[f_, t_, t_, t_, t_, f_, f_, f_, f_] rfl rfl (any_of HT_.out (by kernel_rfl)) (fun _ _ _ h => h) (Or.inl ⟨by rfl, ?_⟩) ?_ ?_
                rotate_left
                ·intro w'
                 go_simp
                 with_reducible rfl
                rotate_left
                ·simp only [Act.put, za, zb, zc, i64_w, i32_w]
                 rfl
                refine pure_ (i := 5) (N := some 61) (v := ?_) (a' := ?_) #[f_, t_, t_, t_, t_, t_, f_, f_, f_] rfl rfl (any_of HT_.out (by kernel_rfl)) (fun _ _ _ h => h) (Or.inl ⟨by rfl, ?_⟩) ?_ ?_
                rotate_left
                ·intro w'
                 go_simp
                 with_reducible rfl
                rotate_left
                ·simp only [Act.put, za, zb, zc, i64_w, i32_w]
                 rfl
                refine take_ (i := 0) (N := some 56) (v := ?_) (a' := ?_) #[t_, t_, t_, t_, t_, t_, f_, f_, f_] rfl rfl (take_ofW HT_.out HW_.out (by kernel_rfl)) (fun _ _ _ h => h) (Or.inl ⟨by rfl, ?_⟩) hHeld ?_ ?_
                rotate_left
                ·rintro w' ⟨s0, s1, s2, s3, s4, s5⟩
                 go_simp
                 with_reducible rfl
                rotate_left
                ·simp only [Act.put, za, zb, zc, i64_w, i32_w]
                 rfl
                refine take_ (i := 6) (N := some 62) (v := ?_) (a' := ?_) #[t_, t_, t_, t_, t_, t_, t_, f_, f_] rfl rfl (take_ofW HT_.out HW_.out (by kernel_rfl)) (fun _ _ _ h => h) (Or.inl ⟨by rfl, ?_⟩) hHeld ?_ ?_
                rotate_left
                ·rintro w' ⟨s0, s1, s2, s3, s4, s5⟩
                 go_simp
                 with_reducible rfl
                rotate_left
                ·simp only [Act.put, za, zb, zc, i64_w, i32_w]
                 rfl
                refine one_ (i := 7) (N := some 63) #[t_, t_, t_, t_, t_, t_, t_, t_, f_] rfl rfl (one_of HT_.out (by kernel_rfl)) (by decide) (fun K hK => ?_)
                refine goes_ Try.func18 (by kernel_rfl) rfl #[.agg #[.int .i64 a0_0, .int .i64 a0_1, .int .i64 a0_2], .int .i64 a1, .slice Ao45 x9_2.length co45, .agg #[.int .i64 ((rd_T37 l2 x11_2).f0), .int .i64 ((rd_T37 l2 x11_2).f1), .int .i64 ((rd_T37 l2 x11_2).f2)]] (by rfl) rfl rfl (by (try simp only [List.map_toArray, List.map_cons, List.map_nil]); first | done | rfl | (simp only [List.length_drop, List.length_take]; rfl)) ?_
                with_reducible refine (window_Put.calls k2 a0_0 a0_1 a0_2 a1 _ _ x9_2 ((rd_T37 l2 x11_2).f0) ((rd_T37 l2 x11_2).f1) ((rd_T37 l2 x11_2).f2) t319 _ ?side1 ?side2 A31.out).mono ?_
                (case side1 => repeat (first | exact (Kd.R_reads' HO_9.out).2.2 | (with_reducible refine Kd.C_alloc ?_ _) | (with_reducible refine Kd.C_drewN ?_ _) | (with_reducible refine Kd.C_drew ?_)))
                (case side2 => exact (Kd.R_reads' HO_9.out).2.1)
                rintro e w47 ⟨v320, rfl, ho0, hb⟩
                refine ⟨_, rfl, ?_⟩
                have n0_ := zd (Kd.R_elder' (by (with_reducible repeat (first | apply ze | apply zf | apply zg)); exact HO_9.out) (Kd.R_base ho0) hb)
                have n1_ := zd (Kd.R_elder' (by (with_reducible repeat (first | apply ze | apply zf | apply zg)); exact HO_10.out) (Kd.R_base ho0) hb)
                have n2_ := zd (Kd.R_elder' (by (with_reducible repeat (first | apply ze | apply zf | apply zg)); exact HO317.out) (Kd.R_base ho0) hb)
                have n3_ := zd (Kd.R_lower (Kd.R_new' (Kd.R_new' (Kd.R_new' ho0 (Kd.R_lt (by (with_reducible repeat (first | apply ze | apply zf | apply zg)); exact HO_9.out))) (Kd.R_lt (by (with_reducible repeat (first | apply ze | apply zf | apply zg)); exact HO_10.out))) (Kd.R_lt (by (with_reducible repeat (first | apply ze | apply zf | apply zg)); exact HO317.out))) (below_size (by repeat (first | (with_reducible first | exact HB.out | apply zh | apply zi | apply zj | refine zn ?_ GE310.out) | exact HB.out))))
                have n4_ := zd (zp (g := gb310) (o := .cells #[.int .i64 a0_0, .int .i64 a0_1, .int .i64 a0_2] 23 (0, 0)) (by (with_reducible repeat (first | refine zk ?_ _ | refine zl ?_ | refine zm ?_ _)); exact BK310.out) hb)
                have n5_ := zd (zs (by repeat (first | (with_reducible first | exact HB.out | apply zh | apply zi | apply zj | refine zn ?_ GE310.out) | exact HB.out)) hb)
                clear HO_9
                clear HO_10
                clear HO317
                clear BK310
                clear HB
                have HO_9 := n0_
                have HO_10 := n1_
                have HO317 := n2_
                have HO321 := n3_
                have BK310 := n4_
                have HB := n5_
                clear n0_ n1_ n2_ n3_ n4_ n5_
                (try clear hb)
                (try clear hb2)
                (try clear hk)
                (try clear hi)
                (try clear ho0)
                refine hK.out _ _ ⟨(zo BK310.out 0).trans rfl, (zo BK310.out 1).trans rfl, (zo BK310.out 2).trans rfl, ((HB.out.cell (World.block_lt_of_cell? w _ hw318_0)).trans hw318_0), ((HB.out.cell (World.block_lt_of_cell? w _ hw318_1)).trans hw318_1), ((HB.out.cell (World.block_lt_of_cell? w _ hw318_2)).trans hw318_2)⟩ (fun hHeld => ?_)
                clear hK K
                refine norm_ (a' := ?_) ?_ ?_
                rotate_left
                ·show Act.put _ (some 63) _ = _
                 simp only [Act.put, za, zb, zc, i64_w, i32_w]
                 rfl
                refine pure_ (i := 8) (N := some 13) (v := ?_) (a' := ?_) #[t_, t_, t_, t_, t_, t_, t_, t_, t_] rfl rfl (any_of HT_.out (by kernel_rfl)) (fun _ _ _ h => h) (Or.inl ⟨by rfl, ?_⟩) ?_ ?_
                rotate_left
                ·intro w'
                 go_simp
                 with_reducible rfl
                rotate_left
                ·simp only [Act.put, za, zb, zc, i64_w, i32_w]
                 rfl
                refine done_ (done_of HT_.out (by kernel_rfl)) ?_
                obtain ⟨Ao48, co48, eo48⟩ := Kd.R_slice HO317.out
                subst eo48
                try go_wp2_with (first | ((with_reducible refine gate_callee (f := 19) rfl ?_); refine goesL_ (some 66) rfl rfl Try.func19 (by kernel_rfl) rfl #[.slice Ao45 x9_2.length co45, .slice Ao48 y315.length co48] rfl (by (try simp only [List.map_toArray, List.map_cons, List.map_nil]); first | done | rfl | (simp only [List.length_drop, List.length_take]; rfl)) ?_; (with_reducible refine (leathelp_Panes.calls k2 _ _ x9_2 _ _ y315 true _ ?side1 ?side2 ?side3 ?side4 A32.out).mono ?_); (case side1 => repeat (first | exact (Kd.R_reads' HO_9.out).2.2 | (with_reducible refine Kd.C_alloc ?_ _) | (with_reducible refine Kd.C_drewN ?_ _) | (with_reducible refine Kd.C_drew ?_))); (case side2 => exact (Kd.R_reads' HO_9.out).2.1); (case side3 => repeat (first | exact (Kd.R_reads' HO317.out).2.2 | (with_reducible refine Kd.C_alloc ?_ _) | (with_reducible refine Kd.C_drewN ?_ _) | (with_reducible refine Kd.C_drew ?_))); (case side4 => exact (Kd.R_reads' HO317.out).2.1); rintro e w' ⟨rfl, ⟨nd, rfl⟩⟩; refine ⟨_, rfl, ?_⟩))
                (try (rw [drewN_self w47]; generalize hq_ : World.drewN w47 _ = w47; have n0_ : Aside0 (Kd.R k46 46 w47 w.heap.size (fun k_ => some k_ ≠ (v320 : Value).ownBlock /\ some k_ ≠ (u10 : Value).ownBlock /\ some k_ ≠ (.slice Ao45 x9_2.length co45 : Value).ownBlock) (.slice Ao48 y315.length co48) y315) := ⟨by rw [← hq_]; exact (by (with_reducible repeat (first | apply ze | apply zf | apply zg)); exact zq HO317.out (fun _ hk => ⟨hk.2, ⟨hk.1.2, hk.1.1⟩⟩))⟩; have n1_ : Aside0 (Kd.R k46 46 w47 w.heap.size (fun k_ => some k_ ≠ (.slice Ao48 y315.length co48 : Value).ownBlock /\ some k_ ≠ (u10 : Value).ownBlock /\ some k_ ≠ (.slice Ao45 x9_2.length co45 : Value).ownBlock) v320 t319) := ⟨by rw [← hq_]; exact (by (with_reducible repeat (first | apply ze | apply zf | apply zg)); exact zq HO321.out (fun _ hk => ⟨hk.2, ⟨hk.1.2, hk.1.1.2⟩⟩))⟩; have n2_ : Aside0 (Kd.R k46 46 w47 w.heap.size (fun k_ => some k_ ≠ (.slice Ao48 y315.length co48 : Value).ownBlock /\ some k_ ≠ (v320 : Value).ownBlock /\ some k_ ≠ (.slice Ao45 x9_2.length co45 : Value).ownBlock) u10 x10_2) := ⟨by rw [← hq_]; exact (by (with_reducible repeat (first | apply ze | apply zf | apply zg)); exact zq HO_10.out (fun _ hk => ⟨hk.1.2, ⟨hk.2, hk.1.1⟩⟩))⟩; have n3_ : Aside0 (Kd.R k46 46 w47 w.heap.size (fun k_ => some k_ ≠ (.slice Ao48 y315.length co48 : Value).ownBlock /\ some k_ ≠ (v320 : Value).ownBlock /\ some k_ ≠ (u10 : Value).ownBlock) (.slice Ao45 x9_2.length co45) x9_2) := ⟨by rw [← hq_]; exact (by (with_reducible repeat (first | apply ze | apply zf | apply zg)); exact zq HO_9.out (fun _ hk => ⟨hk.1.2, ⟨hk.2, hk.1.1⟩⟩))⟩; have n4_ : Aside0 (w47.heap[gb310]? = some (.cells #[.int .i64 a0_0, .int .i64 a0_1, .int .i64 a0_2] 23 (0, 0))) := ⟨by rw [← hq_]; exact (by (with_reducible repeat (first | refine zk ?_ _ | refine zl ?_ | refine zm ?_ _)); exact BK310.out)⟩; have n5_ : Aside0 (Below w.heap.size w w47) := ⟨by rw [← hq_]; exact (by repeat (first | (with_reducible first | exact HB.out | apply zh | apply zi | apply zj | refine zn ?_ GE310.out) | exact HB.out))⟩; clear HO317 HO321 HO_10 HO_9 BK310 HB hq_; have HO317 := n0_; have HO321 := n1_; have HO_10 := n2_; have HO_9 := n3_; have BK310 := n4_; have HB := n5_; clear n0_ n1_ n2_ n3_ n4_ n5_))
                have n0_ := zd (zg HO_9.out)
                have n1_ := zd (zg HO_10.out)
                have n2_ := zd (zg HO317.out)
                have n3_ := zd (zg HO321.out)
                have n4_ := zd (zl BK310.out)
                have n5_ := zd (zj HB.out)
                clear HO_9
                clear HO_10
                clear HO317
                clear HO321
                clear BK310
                clear HB
                have HO_9 := n0_
                have HO_10 := n1_
                have HO317 := n2_
                have HO321 := n3_
                have BK310 := n4_
                have HB := n5_
                clear n0_ n1_ n2_ n3_ n4_ n5_
                have p323 : 0 <= (x11_2 : Int) := of_decide_eq_true (by first | (with_reducible assumption) | assumption)
                have q323 : x11_2 < (l2.length : Int) := of_decide_eq_true (by first | (with_reducible assumption) | assumption)
                obtain ⟨ad323, e323, hx323_0, hx323_1, hx323_2⟩ := at_T37 HR2.out x11_2 p323 q323
                have hw323_2 := hx323_2
                have hw323_1 := hx323_1
                have hw323_0 := hx323_0
                obtain rfl : ad313 = ad323 := (by injection e323)
                replace hx323_0 := (HB.out.cell (World.block_lt_of_cell? w _ hx323_0)).trans hx323_0
                replace hx323_1 := (HB.out.cell (World.block_lt_of_cell? w _ hx323_1)).trans hx323_1
                replace hx323_2 := (HB.out.cell (World.block_lt_of_cell? w _ hx323_2)).trans hx323_2
                replace p323 := eq_true p323
                replace q323 := eq_true q323
                obtain ⟨Ao50, co50, eo50⟩ := Kd.R_slice HO_10.out
                (first | subst eo50 | (injection eo50 with f1_ f2_ f3_; have f4_ := f1_.symm; have f5_ := f3_.symm; clear f1_ f2_ f3_; subst f4_; subst f5_))
                refine start_ (n := 11) (S := fun w' => w'.cell? ⟨gb310, 0, none⟩ = some (.int .i64 a0_0) /\ w'.cell? ⟨gb310, 1, none⟩ = some (.int .i64 a0_1) /\ w'.cell? ⟨gb310, 2, none⟩ = some (.int .i64 a0_2) /\ w'.cell? (ad313.add ((x11_2).toNat * 3)) = some (.int .i64 ((rd_T37 l2 x11_2).f0)) /\ w'.cell? ⟨(ad313.add ((x11_2).toNat * 3)).block, (ad313.add ((x11_2).toNat * 3)).off + 1, none⟩ = some (.int .i64 ((rd_T37 l2 x11_2).f1)) /\ w'.cell? ⟨(ad313.add ((x11_2).toNat * 3)).block, (ad313.add ((x11_2).toNat * 3)).off + 2, none⟩ = some (.int .i64 ((rd_T37 l2 x11_2).f2))) (ds := []) #[f_, f_, f_, f_, f_, f_, f_, f_, f_, f_, f_] (by kernel_rfl) rfl rfl ⟨(zo BK310.out 0).trans rfl, (zo BK310.out 1).trans rfl, (zo BK310.out 2).trans rfl, ((HB.out.cell (World.block_lt_of_cell? w _ hw323_0)).trans hw323_0), ((HB.out.cell (World.block_lt_of_cell? w _ hw323_1)).trans hw323_1), ((HB.out.cell (World.block_lt_of_cell? w _ hw323_2)).trans hw323_2)⟩ (fun hHeld => ?_); refine with_tabW leatlaw11_WindowPlays.tab15 leatlaw11_WindowPlays.bits15 (fun HT_ HW_ => ?_)
                generalize w47.drew = w49 at HO_9 HO_10 HO317 HO321 BK310 HB hx323_0 hx323_1 hx323_2 hHeld ⊢
                refine pure_ (i := 0) (N := some 68) (v := ?_) (a' := ?_) #[t_, f_, f_, f_, f_, f_, f_, f_, f_, f_, f_] rfl rfl (any_of HT_.out (by kernel_rfl)) (fun _ _ _ h => h) (Or.inl ⟨by rfl, ?_⟩) ?_ ?_
                rotate_left
                ·intro w'
                 go_simp
                 with_reducible rfl
                rotate_left
                ·simp only [Act.put, za, zb, zc, i64_w, i32_w]
                 rfl
                refine pure_ (i := 2) (N := some 70) (v := ?_) (a' := ?_) #[t_, f_, t_, f_, f_, f_, f_, f_, f_, f_, f_] rfl rfl (any_of HT_.out (by kernel_rfl)) (fun _ _ _ h => h) (Or.inl ⟨by rfl, ?_⟩) ?_ ?_
                rotate_left
                ·intro w'
                 go_simp
                 with_reducible rfl
                rotate_left
                ·simp only [Act.put, za, zb, zc, i64_w, i32_w]
                 rfl
                refine pure_ (i := 3) (N := some 71) (v := ?_) (a' := ?_) #[t_, f_, t_, t_, f_, f_, f_, f_, f_, f_, f_] rfl rfl (any_of HT_.out (by kernel_rfl)) (fun _ _ _ h => h) (Or.inl ⟨by rfl, ?_⟩) ?_ ?_
                rotate_left
                ·intro w'
                 go_simp
                 with_reducible rfl
                rotate_left
                ·simp only [Act.put, za, zb, zc, i64_w, i32_w]
                 rfl
                refine pure_ (i := 4) (N := some 72) (v := ?_) (a' := ?_) #[t_, f_, t_, t_, t_, f_, f_, f_, f_, f_, f_] rfl rfl (any_of HT_.out (by kernel_rfl)) (fun _ _ _ h => h) (Or.inl ⟨by rfl, ?_⟩) ?_ ?_
                rotate_left
                ·intro w'
                 go_simp
                 with_reducible rfl
                rotate_left
                ·simp only [Act.put, za, zb, zc, i64_w, i32_w]
                 rfl
                refine pure_ (i := 5) (N := some 73) (v := ?_) (a' := ?_) #[t_, f_, t_, t_, t_, t_, f_, f_, f_, f_, f_] rfl rfl (any_of HT_.out (by kernel_rfl)) (fun _ _ _ h => h) (Or.inl ⟨by rfl, ?_⟩) ?_ ?_
                rotate_left
                ·intro w'
                 go_simp
                 with_reducible rfl
                rotate_left
                ·simp only [Act.put, za, zb, zc, i64_w, i32_w]
                 rfl
                refine pure_ (i := 6) (N := some 74) (v := ?_) (a' := ?_) #[t_, f_, t_, t_, t_, t_, t_, f_, f_, f_, f_] rfl rfl (any_of HT_.out (by kernel_rfl)) (fun _ _ _ h => h) (Or.inl ⟨by rfl, ?_⟩) ?_ ?_
                rotate_left
                ·intro w'
                 go_simp
                 with_reducible rfl
                rotate_left
                ·simp only [Act.put, za, zb, zc, i64_w, i32_w]
                 rfl
                refine take_ (i := 1) (N := some 69) (v := ?_) (a' := ?_) #[t_, t_, t_, t_, t_, t_, t_, f_, f_, f_, f_] rfl rfl (take_ofW HT_.out HW_.out (by kernel_rfl)) (fun _ _ _ h => h) (Or.inl ⟨by rfl, ?_⟩) hHeld ?_ ?_
                rotate_left
                ·rintro w' ⟨s0, s1, s2, s3, s4, s5⟩
                 go_simp
                 with_reducible rfl
                rotate_left
                ·simp only [Act.put, za, zb, zc, i64_w, i32_w]
                 rfl
                refine take_ (i := 7) (N := some 75) (v := ?_) (a' := ?_) #[t_, t_, t_, t_, t_, t_, t_, t_, f_, f_, f_] rfl rfl (take_ofW HT_.out HW_.out (by kernel_rfl)) (fun _ _ _ h => h) (Or.inl ⟨by rfl, ?_⟩) hHeld ?_ ?_
                rotate_left
                ·rintro w' ⟨s0, s1, s2, s3, s4, s5⟩
                 go_simp
                 with_reducible rfl
                rotate_left
                ·simp only [Act.put, za, zb, zc, i64_w, i32_w]
                 rfl
                refine one_ (i := 8) (N := some 76) #[t_, t_, t_, t_, t_, t_, t_, t_, t_, f_, f_] rfl rfl (one_of HT_.out (by kernel_rfl)) (by decide) (fun K hK => ?_)
                refine goes_ Try.func20 (by kernel_rfl) rfl #[.agg #[.int .i64 a0_0, .int .i64 a0_1, .int .i64 a0_2], .int .i64 a1, .slice Ao50 x10_2.length co50, .agg #[.int .i64 ((rd_T37 l2 x11_2).f0), .int .i64 ((rd_T37 l2 x11_2).f1), .int .i64 ((rd_T37 l2 x11_2).f2)]] (by rfl) rfl rfl (by (try simp only [List.map_toArray, List.map_cons, List.map_nil]); first | done | rfl | (simp only [List.length_drop, List.length_take]; rfl)) ?_
                with_reducible refine (leatref11_Put.calls k2 a0_0 a0_1 a0_2 a1 _ _ x10_2 ((rd_T37 l2 x11_2).f0) ((rd_T37 l2 x11_2).f1) ((rd_T37 l2 x11_2).f2) t324 _ ?side1 ?side2 A34.out).mono ?_
                (case side1 => repeat (first | exact (Kd.R_reads' HO_10.out).2.2 | (with_reducible refine Kd.C_alloc ?_ _) | (with_reducible refine Kd.C_drewN ?_ _) | (with_reducible refine Kd.C_drew ?_)))
                (case side2 => exact (Kd.R_reads' HO_10.out).2.1)
                rintro e w51 ⟨v325, rfl, ho0, hb⟩
                refine ⟨_, rfl, ?_⟩
                have n0_ := zd (Kd.R_elder' (by (with_reducible repeat (first | apply ze | apply zf | apply zg)); exact HO_9.out) (Kd.R_base ho0) hb)
                have n1_ := zd (Kd.R_elder' (by (with_reducible repeat (first | apply ze | apply zf | apply zg)); exact HO_10.out) (Kd.R_base ho0) hb)
                have n2_ := zd (Kd.R_elder' (by (with_reducible repeat (first | apply ze | apply zf | apply zg)); exact HO317.out) (Kd.R_base ho0) hb)
                have n3_ := zd (Kd.R_elder' (by (with_reducible repeat (first | apply ze | apply zf | apply zg)); exact HO321.out) (Kd.R_base ho0) hb)
                have n4_ := zd (Kd.R_lower (Kd.R_new' (Kd.R_new' (Kd.R_new' (Kd.R_new' ho0 (Kd.R_lt (by (with_reducible repeat (first | apply ze | apply zf | apply zg)); exact HO_9.out))) (Kd.R_lt (by (with_reducible repeat (first | apply ze | apply zf | apply zg)); exact HO_10.out))) (Kd.R_lt (by (with_reducible repeat (first | apply ze | apply zf | apply zg)); exact HO317.out))) (Kd.R_lt (by (with_reducible repeat (first | apply ze | apply zf | apply zg)); exact HO321.out))) (below_size (by repeat (first | (with_reducible first | exact HB.out | apply zh | apply zi | apply zj | refine zn ?_ GE310.out) | exact HB.out))))
                have n5_ := zd (zp (g := gb310) (o := .cells #[.int .i64 a0_0, .int .i64 a0_1, .int .i64 a0_2] 23 (0, 0)) (by (with_reducible repeat (first | refine zk ?_ _ | refine zl ?_ | refine zm ?_ _)); exact BK310.out) hb)
                have n6_ := zd (zs (by repeat (first | (with_reducible first | exact HB.out | apply zh | apply zi | apply zj | refine zn ?_ GE310.out) | exact HB.out)) hb)
                clear HO_9
                clear HO_10
                clear HO317
                clear HO321
                clear BK310
                clear HB
                have HO_9 := n0_
                have HO_10 := n1_
                have HO317 := n2_
                have HO321 := n3_
                have HO326 := n4_
                have BK310 := n5_
                have HB := n6_
                clear n0_ n1_ n2_ n3_ n4_ n5_ n6_
                (try clear hb)
                (try clear hb2)
                (try clear hk)
                (try clear hi)
                (try clear ho0)
                refine hK.out _ _ ⟨(zo BK310.out 0).trans rfl, (zo BK310.out 1).trans rfl, (zo BK310.out 2).trans rfl, ((HB.out.cell (World.block_lt_of_cell? w _ hw323_0)).trans hw323_0), ((HB.out.cell (World.block_lt_of_cell? w _ hw323_1)).trans hw323_1), ((HB.out.cell (World.block_lt_of_cell? w _ hw323_2)).trans hw323_2)⟩ (fun hHeld => ?_)
                clear hK K
                refine norm_ (a' := ?_) ?_ ?_
                rotate_left
                ·show Act.put _ (some 76) _ = _
                 simp only [Act.put, za, zb, zc, i64_w, i32_w]
                 rfl
                refine pure_ (i := 9) (N := some 9) (v := ?_) (a' := ?_) #[t_, t_, t_, t_, t_, t_, t_, t_, t_, t_, f_] rfl rfl (any_of HT_.out (by kernel_rfl)) (fun _ _ _ h => h) (Or.inl ⟨by rfl, ?_⟩) ?_ ?_
                rotate_left
                ·intro w'
                 go_simp
                 with_reducible rfl
                rotate_left
                ·simp only [Act.put, za, zb, zc, i64_w, i32_w]
                 rfl
                refine pure_ (i := 10) (N := some 10) (v := ?_) (a' := ?_) #[t_, t_, t_, t_, t_, t_, t_, t_, t_, t_, t_] rfl rfl (any_of HT_.out (by kernel_rfl)) (fun _ _ _ h => h) (Or.inl ⟨by rfl, ?_⟩) ?_ ?_
                rotate_left
                ·intro w'
                 go_simp
                 with_reducible rfl
                rotate_left
                ·simp only [Act.put, za, zb, zc, i64_w, i32_w]
                 rfl
                refine done_ (done_of HT_.out (by kernel_rfl)) ?_
                obtain ⟨Ao52, co52, eo52⟩ := Kd.R_slice HO321.out
                subst eo52
                obtain ⟨Ao53, co53, eo53⟩ := Kd.R_slice HO326.out
                subst eo53
                try go_wp2_with (first | ((with_reducible refine gate_callee (f := 19) rfl ?_); refine goesL_ (some 79) rfl rfl Try.func19 (by kernel_rfl) rfl #[.slice Ao52 t319.length co52, .slice Ao53 t324.length co53] rfl (by (try simp only [List.map_toArray, List.map_cons, List.map_nil]); first | done | rfl | (simp only [List.length_drop, List.length_take]; rfl)) ?_; (with_reducible refine (leathelp_Panes.calls k2 _ _ t319 _ _ t324 true _ ?side1 ?side2 ?side3 ?side4 A35.out).mono ?_); (case side1 => repeat (first | exact (Kd.R_reads' HO321.out).2.2 | (with_reducible refine Kd.C_alloc ?_ _) | (with_reducible refine Kd.C_drewN ?_ _) | (with_reducible refine Kd.C_drew ?_))); (case side2 => exact (Kd.R_reads' HO321.out).2.1); (case side3 => repeat (first | exact (Kd.R_reads' HO326.out).2.2 | (with_reducible refine Kd.C_alloc ?_ _) | (with_reducible refine Kd.C_drewN ?_ _) | (with_reducible refine Kd.C_drew ?_))); (case side4 => exact (Kd.R_reads' HO326.out).2.1); rintro e w' ⟨rfl, ⟨nd, rfl⟩⟩; refine ⟨_, rfl, ?_⟩; have p328 : 0 <= (x11_2 : Int) := of_decide_eq_true (by first | (with_reducible assumption) | assumption); have q328 : x11_2 < (l3.length : Int) := of_decide_eq_true (by first | (with_reducible assumption) | assumption); obtain ⟨ad328, e328, hx328_0⟩ := Kd.at_int HR3.out x11_2 p328 q328; cases e328; replace hx328_0 := (HB.out.cell (World.block_lt_of_cell? w _ hx328_0)).trans hx328_0; replace p328 := eq_true p328; replace q328 := eq_true q328) | ((with_reducible refine gate_callee (f := 21) rfl ?_); refine goesL_ (some 91) rfl rfl Try.func21 (by kernel_rfl) rfl #[.slice Ao52 t319.length co52, .int .i64 (rd l3 x11_2)] rfl (by (try simp only [List.map_toArray, List.map_cons, List.map_nil]); first | done | rfl | (simp only [List.length_drop, List.length_take]; rfl)) ?_; (with_reducible refine (window_Fire.calls k2 _ _ t319 (rd l3 x11_2) t329 t330 _ ?side1 ?side2 A38.out).mono ?_); (case side1 => repeat (first | exact (Kd.R_reads' HO321.out).2.2 | (with_reducible refine Kd.C_alloc ?_ _) | (with_reducible refine Kd.C_drewN ?_ _) | (with_reducible refine Kd.C_drew ?_))); (case side2 => exact (Kd.R_reads' HO321.out).2.1); rintro e w54 ⟨v331, v333, rfl, ho0, ho1, hb⟩; refine ⟨_, rfl, ?_⟩; have n0_ := zd (Kd.R_elder' (by (with_reducible repeat (first | apply ze | apply zf | apply zg)); exact HO_9.out) (Kd.R_base ho1) hb); have n1_ := zd (Kd.R_elder' (by (with_reducible repeat (first | apply ze | apply zf | apply zg)); exact HO_10.out) (Kd.R_base ho1) hb); have n2_ := zd (Kd.R_elder' (by (with_reducible repeat (first | apply ze | apply zf | apply zg)); exact HO317.out) (Kd.R_base ho1) hb); have n3_ := zd (Kd.R_elder' (by (with_reducible repeat (first | apply ze | apply zf | apply zg)); exact HO321.out) (Kd.R_base ho1) hb); have n4_ := zd (Kd.R_elder' (by (with_reducible repeat (first | apply ze | apply zf | apply zg)); exact HO326.out) (Kd.R_base ho1) hb); have n5_ := zd (Kd.R_lower ho0 (below_size (by repeat (first | (with_reducible first | exact HB.out | apply zh | apply zi | apply zj | refine zn ?_ GE310.out) | exact HB.out)))); have n6_ := zd (Kd.R_lower (Kd.R_new' (Kd.R_new' (Kd.R_new' (Kd.R_new' (Kd.R_new' ho1 (Kd.R_lt (by (with_reducible repeat (first | apply ze | apply zf | apply zg)); exact HO_9.out))) (Kd.R_lt (by (with_reducible repeat (first | apply ze | apply zf | apply zg)); exact HO_10.out))) (Kd.R_lt (by (with_reducible repeat (first | apply ze | apply zf | apply zg)); exact HO317.out))) (Kd.R_lt (by (with_reducible repeat (first | apply ze | apply zf | apply zg)); exact HO321.out))) (Kd.R_lt (by (with_reducible repeat (first | apply ze | apply zf | apply zg)); exact HO326.out))) (below_size (by repeat (first | (with_reducible first | exact HB.out | apply zh | apply zi | apply zj | refine zn ?_ GE310.out) | exact HB.out)))); have n7_ := zd (zp (g := gb310) (o := .cells #[.int .i64 a0_0, .int .i64 a0_1, .int .i64 a0_2] 23 (0, 0)) (by (with_reducible repeat (first | refine zk ?_ _ | refine zl ?_ | refine zm ?_ _)); exact BK310.out) hb); have n8_ := zd (zs (by repeat (first | (with_reducible first | exact HB.out | apply zh | apply zi | apply zj | refine zn ?_ GE310.out) | exact HB.out)) hb); clear HO_9; clear HO_10; clear HO317; clear HO321; clear HO326; clear BK310; clear HB; have HO_9 := n0_; have HO_10 := n1_; have HO317 := n2_; have HO321 := n3_; have HO326 := n4_; have HO332 := n5_; have HO334 := n6_; have BK310 := n7_; have HB := n8_; clear n0_ n1_ n2_ n3_ n4_ n5_ n6_ n7_ n8_; (try clear hb); (try clear hb2); (try clear hk); (try clear hi); (try clear ho0); (try clear ho1); have p335 : 0 <= (x11_2 : Int) := of_decide_eq_true (by first | (with_reducible assumption) | assumption); have q335 : x11_2 < (l3.length : Int) := of_decide_eq_true (by first | (with_reducible assumption) | assumption); obtain ⟨ad335, e335, hx335_0⟩ := Kd.at_int HR3.out x11_2 p335 q335; obtain rfl : ad328 = ad335 := (by injection e335); replace hx335_0 := (HB.out.cell (World.block_lt_of_cell? w _ hx335_0)).trans hx335_0; replace p335 := eq_true p335; replace q335 := eq_true q335) | ((with_reducible refine gate_callee (f := 22) rfl ?_); refine goesL_ (some 100) rfl rfl Try.func22 (by kernel_rfl) rfl #[.slice Ao53 t324.length co53, .int .i64 (rd l3 x11_2)] rfl (by (try simp only [List.map_toArray, List.map_cons, List.map_nil]); first | done | rfl | (simp only [List.length_drop, List.length_take]; rfl)) ?_; (with_reducible refine (leatref11_Fire.calls k2 _ _ t324 (rd l3 x11_2) t336 t337 _ ?side1 ?side2 A39.out).mono ?_); (case side1 => repeat (first | exact (Kd.R_reads' HO326.out).2.2 | (with_reducible refine Kd.C_alloc ?_ _) | (with_reducible refine Kd.C_drewN ?_ _) | (with_reducible refine Kd.C_drew ?_))); (case side2 => exact (Kd.R_reads' HO326.out).2.1); rintro e w55 ⟨v338, v340, rfl, ho0, ho1, hb⟩; refine ⟨_, rfl, ?_⟩; have n0_ := zd (Kd.R_elder' (by (with_reducible repeat (first | apply ze | apply zf | apply zg)); exact HO_9.out) (Kd.R_base ho1) hb); have n1_ := zd (Kd.R_elder' (by (with_reducible repeat (first | apply ze | apply zf | apply zg)); exact HO_10.out) (Kd.R_base ho1) hb); have n2_ := zd (Kd.R_elder' (by (with_reducible repeat (first | apply ze | apply zf | apply zg)); exact HO317.out) (Kd.R_base ho1) hb); have n3_ := zd (Kd.R_elder' (by (with_reducible repeat (first | apply ze | apply zf | apply zg)); exact HO321.out) (Kd.R_base ho1) hb); have n4_ := zd (Kd.R_elder' (by (with_reducible repeat (first | apply ze | apply zf | apply zg)); exact HO326.out) (Kd.R_base ho1) hb); have n5_ := zd (Kd.R_elder' (by (with_reducible repeat (first | apply ze | apply zf | apply zg)); exact HO332.out) (Kd.R_base ho0) hb); have n6_ := zd (Kd.R_elder' (by (with_reducible repeat (first | apply ze | apply zf | apply zg)); exact HO334.out) (Kd.R_base ho1) hb); have n7_ := zd (Kd.R_lower (Kd.R_new' ho0 (Kd.R_lt (by (with_reducible repeat (first | apply ze | apply zf | apply zg)); exact HO332.out))) (below_size (by repeat (first | (with_reducible first | exact HB.out | apply zh | apply zi | apply zj | refine zn ?_ GE310.out) | exact HB.out)))); have n8_ := zd (Kd.R_lower (Kd.R_new' (Kd.R_new' (Kd.R_new' (Kd.R_new' (Kd.R_new' (Kd.R_new' ho1 (Kd.R_lt (by (with_reducible repeat (first | apply ze | apply zf | apply zg)); exact HO_9.out))) (Kd.R_lt (by (with_reducible repeat (first | apply ze | apply zf | apply zg)); exact HO_10.out))) (Kd.R_lt (by (with_reducible repeat (first | apply ze | apply zf | apply zg)); exact HO317.out))) (Kd.R_lt (by (with_reducible repeat (first | apply ze | apply zf | apply zg)); exact HO321.out))) (Kd.R_lt (by (with_reducible repeat (first | apply ze | apply zf | apply zg)); exact HO326.out))) (Kd.R_lt (by (with_reducible repeat (first | apply ze | apply zf | apply zg)); exact HO334.out))) (below_size (by repeat (first | (with_reducible first | exact HB.out | apply zh | apply zi | apply zj | refine zn ?_ GE310.out) | exact HB.out)))); have n9_ := zd (zp (g := gb310) (o := .cells #[.int .i64 a0_0, .int .i64 a0_1, .int .i64 a0_2] 23 (0, 0)) (by (with_reducible repeat (first | refine zk ?_ _ | refine zl ?_ | refine zm ?_ _)); exact BK310.out) hb); have n10_ := zd (zs (by repeat (first | (with_reducible first | exact HB.out | apply zh | apply zi | apply zj | refine zn ?_ GE310.out) | exact HB.out)) hb); clear HO_9; clear HO_10; clear HO317; clear HO321; clear HO326; clear HO332; clear HO334; clear BK310; clear HB; have HO_9 := n0_; have HO_10 := n1_; have HO317 := n2_; have HO321 := n3_; have HO326 := n4_; have HO332 := n5_; have HO334 := n6_; have HO339 := n7_; have HO341 := n8_; have BK310 := n9_; have HB := n10_; clear n0_ n1_ n2_ n3_ n4_ n5_ n6_ n7_ n8_ n9_ n10_; (try clear hb); (try clear hb2); (try clear hk); (try clear hi); (try clear ho0); (try clear ho1); obtain ⟨Ao56, co56, eo56⟩ := Kd.R_slice HO332.out; subst eo56; obtain ⟨Ao57, co57, eo57⟩ := Kd.R_slice HO339.out; subst eo57) | ((with_reducible refine gate_callee (f := 23) rfl ?_); refine goesL_ (some 105) rfl rfl Try.func23 (by kernel_rfl) rfl #[.slice Ao56 t329.length co56, .slice Ao57 t336.length co57] rfl (by (try simp only [List.map_toArray, List.map_cons, List.map_nil]); first | done | rfl | (simp only [List.length_drop, List.length_take]; rfl)) ?_; (with_reducible refine (leathelp_Records.calls k2 _ _ t329 _ _ t336 true _ ?side1 ?side2 ?side3 ?side4 A40.out).mono ?_); (case side1 => repeat (first | exact (Kd.R_reads' HO332.out).2.2 | (with_reducible refine Kd.C_alloc ?_ _) | (with_reducible refine Kd.C_drewN ?_ _) | (with_reducible refine Kd.C_drew ?_))); (case side2 => exact (Kd.R_reads' HO332.out).2.1); (case side3 => repeat (first | exact (Kd.R_reads' HO339.out).2.2 | (with_reducible refine Kd.C_alloc ?_ _) | (with_reducible refine Kd.C_drewN ?_ _) | (with_reducible refine Kd.C_drew ?_))); (case side4 => exact (Kd.R_reads' HO339.out).2.1); rintro e w' ⟨rfl, ⟨nd, rfl⟩⟩; refine ⟨_, rfl, ?_⟩; obtain ⟨Ao58, co58, eo58⟩ := Kd.R_slice HO334.out; subst eo58; obtain ⟨Ao59, co59, eo59⟩ := Kd.R_slice HO341.out; subst eo59) | (go_at_call 19; (with_reducible refine (leathelp_Panes.calls k2 _ _ t330 _ _ t337 true _ ?side1 ?side2 ?side3 ?side4 A42.out).mono ?_); (case side1 => repeat (first | exact (Kd.R_reads' HO334.out).2.2 | (with_reducible refine Kd.C_alloc ?_ _) | (with_reducible refine Kd.C_drewN ?_ _) | (with_reducible refine Kd.C_drew ?_))); (case side2 => exact (Kd.R_reads' HO334.out).2.1); (case side3 => repeat (first | exact (Kd.R_reads' HO341.out).2.2 | (with_reducible refine Kd.C_alloc ?_ _) | (with_reducible refine Kd.C_drewN ?_ _) | (with_reducible refine Kd.C_drew ?_))); (case side4 => exact (Kd.R_reads' HO341.out).2.1); rintro e w' ⟨rfl, ⟨nd, rfl⟩⟩))
                go_roundg k2
                case measure => have := HJ6.out; have := HK2.out; omega
                case rel => exact ⟨(t330), (t337), (wrap64 (x11_2 + 1)), (by first | rfl | (simp; done) | (simp [*]; done)), H', ⟨by have := HJ6.out; have := HK2.out; omega⟩, ⟨by (with_reducible repeat (first | apply ze | apply zf | apply zg)); exact zq HO334.out (fun _ hk => hk.2)⟩, ⟨by (with_reducible repeat (first | apply ze | apply zf | apply zg)); exact zq HO341.out (fun _ hk => hk.2)⟩, ⟨by (with_reducible repeat (first | refine zk ?_ _ | refine zl ?_ | refine zm ?_ _)); exact BK310.out⟩, ⟨by repeat (first | (with_reducible first | exact HB.out | apply zh | apply zi | apply zj | refine zn ?_ GE310.out) | exact HB.out)⟩⟩
               ·replace c43 := Bool.eq_false_iff.mpr c43
                subst c43
                have H1 : (none) = some r := by rw [if_neg (show ¬ (false = true) by decide)] at H; exact H
                clear H
                have H := H1
                clear H1
                exact absurd H (by simp)
              ·replace c41 := Bool.eq_false_iff.mpr c41
               subst c41
               have H1 : (none) = some r := by rw [if_neg (show ¬ (false = true) by decide)] at H; exact H
               clear H
               have H := H1
               clear H1
               exact absurd H (by simp)
             ·rw [if_neg c37] at H
              have c37b0 : decide (x11_2 < (l3.length : Int)) = false := decide_eq_false c37
              clear c37
              have H' := zd H
              clear H
              have p313 : 0 <= (x11_2 : Int) := of_decide_eq_true (by first | (with_reducible assumption) | assumption)
              have q313 : x11_2 < (l2.length : Int) := of_decide_eq_true (by first | (with_reducible assumption) | assumption)
              obtain ⟨ad313, e313, hx313_0, hx313_1, hx313_2⟩ := at_T37 HR2.out x11_2 p313 q313
              cases e313
              replace hx313_0 := (HB.out.cell (World.block_lt_of_cell? w _ hx313_0)).trans hx313_0
              replace hx313_1 := (HB.out.cell (World.block_lt_of_cell? w _ hx313_1)).trans hx313_1
              replace hx313_2 := (HB.out.cell (World.block_lt_of_cell? w _ hx313_2)).trans hx313_2
              replace p313 := eq_true p313
              replace q313 := eq_true q313
              try go_wp2_with (first | ((with_reducible refine gate_callee (f := 14) rfl ?_); refine goesL_ (some 52) rfl rfl Try.func14 (by kernel_rfl) rfl #[.int .i64 ((rd_T37 l2 x11_2).f1)] rfl (by (try simp only [List.map_toArray, List.map_cons, List.map_nil]); first | done | rfl | (simp only [List.length_drop, List.length_take]; rfl)) ?_; (with_reducible refine (leatlaw11_time.calls ((rd_T37 l2 x11_2).f1) true _ A28.out).mono ?_); rintro e w' ⟨rfl, ⟨nd, rfl⟩⟩; refine ⟨_, rfl, ?_⟩; obtain ⟨Ao61, co61, eo61⟩ := Kd.R_slice HO_9.out; subst eo61) | ((with_reducible refine gate_builtin (b := .append) (xs := #[.const (.slice none 0 0), .tmp 54]) rfl ?_); (try (refine gate_guard (by rfl) ?_; dsimp only)); at_builtin; refine Kd.R_append_rows k46 (w0 := w) w.heap.size rfl (.const (.slice none 0 0)) (.tmp 54) 35 46 (.agg #[(.int .i64 0), (.int .i64 0), (.int .i64 0), (.int .i64 0)]) 32 rfl Try.underlying35 info46 rfl (by decide) (by omega) (.slice none 0 0) ([] : List (S46)) x9_2 _ _ _ (fun k_ => some k_ ≠ (.slice Ao61 x9_2.length co61 : Value).ownBlock /\ some k_ ≠ (u10 : Value).ownBlock) (fun _ => False) rfl rfl ?aO ?aR (fun _ _ h => h) (fun _ h => h.elim) ?aF ?aB ?aS ?aL ?_; (case aR => repeat (first | exact (Kd.R_reads' HO_9.out).2.2 | (with_reducible refine Kd.C_alloc ?_ _) | (with_reducible refine Kd.C_drewN ?_ _) | (with_reducible refine Kd.C_drew ?_))); (case aB => exact (by repeat (first | (with_reducible first | exact HB.out | apply zh | apply zi | apply zj | refine zn ?_ GE310.out) | exact HB.out))); (case aF => exact (fun k_ hk => ⟨Kd.fresh' (Kd.R_lt (by (with_reducible repeat (first | apply ze | apply zf | apply zg)); exact HO_9.out)) k_ hk, Kd.fresh' (Kd.R_lt (by (with_reducible repeat (first | apply ze | apply zf | apply zg)); exact HO_10.out)) k_ hk⟩)); (case aO => exact ((Kd.R_nil _ _ _ _ (fun k_ => some k_ ≠ (.slice Ao61 x9_2.length co61 : Value).ownBlock /\ some k_ ≠ (u10 : Value).ownBlock)))); (case aS => exact (below_size (by repeat (first | (with_reducible first | exact HB.out | apply zh | apply zi | apply zj | refine zn ?_ GE310.out) | exact HB.out)))); (case aL => have := LMc30.out; omega); intro v316 w60 ho hb hg hat; rw [← Ny315.out] at ho; have n0_ := zd (Kd.R_after (Kd.R_apart_nil (by (with_reducible repeat (first | apply ze | apply zf | apply zg)); exact HO_9.out)) hg hat); have n1_ := zd (Kd.R_after (Kd.R_apart_nil (by (with_reducible repeat (first | apply ze | apply zf | apply zg)); exact HO_10.out)) hg hat); have n2_ := zd (blk_grown (g := gb310) (o := .cells #[.int .i64 a0_0, .int .i64 a0_1, .int .i64 a0_2] 23 (0, 0)) (by (with_reducible repeat (first | refine zk ?_ _ | refine zl ?_ | refine zm ?_ _)); exact BK310.out) hg (by simp [Value.ownBlock])); have n3_ := zd (hb); have n4_ := zd (ho); clear HO_9; clear HO_10; clear BK310; clear HB; have HO_9 := n0_; have HO_10 := n1_; have BK310 := n2_; have HB := n3_; have HO317 := n4_; clear n0_ n1_ n2_ n3_ n4_; clear ho hb hg hat))
              have n0_ := zd (zg HO_9.out)
              have n1_ := zd (zg HO_10.out)
              have n2_ := zd (zg HO317.out)
              have n3_ := zd (zl BK310.out)
              have n4_ := zd (zj HB.out)
              clear HO_9
              clear HO_10
              clear HO317
              clear BK310
              clear HB
              have HO_9 := n0_
              have HO_10 := n1_
              have HO317 := n2_
              have BK310 := n3_
              have HB := n4_
              clear n0_ n1_ n2_ n3_ n4_
              have p318 : 0 <= (x11_2 : Int) := of_decide_eq_true (by first | (with_reducible assumption) | assumption)
              have q318 : x11_2 < (l2.length : Int) := of_decide_eq_true (by first | (with_reducible assumption) | assumption)
              obtain ⟨ad318, e318, hx318_0, hx318_1, hx318_2⟩ := at_T37 HR2.out x11_2 p318 q318
              have hw318_2 := hx318_2
              have hw318_1 := hx318_1
              have hw318_0 := hx318_0
              obtain rfl : ad313 = ad318 := (by injection e318)
              replace hx318_0 := (HB.out.cell (World.block_lt_of_cell? w _ hx318_0)).trans hx318_0
              replace hx318_1 := (HB.out.cell (World.block_lt_of_cell? w _ hx318_1)).trans hx318_1
              replace hx318_2 := (HB.out.cell (World.block_lt_of_cell? w _ hx318_2)).trans hx318_2
              replace p318 := eq_true p318
              replace q318 := eq_true q318
              refine start_ (n := 9) (S := fun w' => w'.cell? ⟨gb310, 0, none⟩ = some (.int .i64 a0_0) /\ w'.cell? ⟨gb310, 1, none⟩ = some (.int .i64 a0_1) /\ w'.cell? ⟨gb310, 2, none⟩ = some (.int .i64 a0_2) /\ w'.cell? (ad313.add ((x11_2).toNat * 3)) = some (.int .i64 ((rd_T37 l2 x11_2).f0)) /\ w'.cell? ⟨(ad313.add ((x11_2).toNat * 3)).block, (ad313.add ((x11_2).toNat * 3)).off + 1, none⟩ = some (.int .i64 ((rd_T37 l2 x11_2).f1)) /\ w'.cell? ⟨(ad313.add ((x11_2).toNat * 3)).block, (ad313.add ((x11_2).toNat * 3)).off + 2, none⟩ = some (.int .i64 ((rd_T37 l2 x11_2).f2))) (ds := []) #[f_, f_, f_, f_, f_, f_, f_, f_, f_] (by kernel_rfl) rfl rfl ⟨(zo BK310.out 0).trans rfl, (zo BK310.out 1).trans rfl, (zo BK310.out 2).trans rfl, ((HB.out.cell (World.block_lt_of_cell? w _ hw318_0)).trans hw318_0), ((HB.out.cell (World.block_lt_of_cell? w _ hw318_1)).trans hw318_1), ((HB.out.cell (World.block_lt_of_cell? w _ hw318_2)).trans hw318_2)⟩ (fun hHeld => ?_); refine with_tabW leatlaw11_WindowPlays.tab12 leatlaw11_WindowPlays.bits12 (fun HT_ HW_ => ?_)
              generalize w60.drew = w62 at HO_9 HO_10 HO317 BK310 HB hx318_0 hx318_1 hx318_2 hHeld ⊢
              refine pure_ (i := 1) (N := some 57) (v := ?_) (a' := ?_) #[f_, t_, f_, f_, f_, f_, f_, f_, f_] rfl rfl (any_of HT_.out (by kernel_rfl)) (fun _ _ _ h => h) (Or.inl ⟨by rfl, ?_⟩) ?_ ?_
              rotate_left
              ·intro w'
               go_simp
               with_reducible rfl
              rotate_left
              ·simp only [Act.put, za, zb, zc, i64_w, i32_w]
               rfl
              refine pure_ (i := 2) (N := some 58) (v := ?_) (a' := ?_) #[f_, t_, t_, f_, f_, f_, f_, f_, f_] rfl rfl (any_of HT_.out (by kernel_rfl)) (fun _ _ _ h => h) (Or.inl ⟨by rfl, ?_⟩) ?_ ?_
              rotate_left
              ·intro w'
               go_simp
               with_reducible rfl
              rotate_left
              ·simp only [Act.put, za, zb, zc, i64_w, i32_w]
               rfl
              refine pure_ (i := 3) (N := some 59) (v := ?_) (a' := ?_) #[f_, t_, t_, t_, f_, f_, f_, f_, f_] rfl rfl (any_of HT_.out (by kernel_rfl)) (fun _ _ _ h => h) (Or.inl ⟨by rfl, ?_⟩) ?_ ?_
              rotate_left
              ·intro w'
               go_simp
               with_reducible rfl
              rotate_left
              ·simp only [Act.put, za, zb, zc, i64_w, i32_w]
               rfl
              refine pure_ (i := 4) (N := some 60) (v := ?_) (a' := ?_) #[f_, t_, t_, t_, t_, f_, f_, f_, f_] rfl rfl (any_of HT_.out (by kernel_rfl)) (fun _ _ _ h => h) (Or.inl ⟨by rfl, ?_⟩) ?_ ?_
              rotate_left
              ·intro w'
               go_simp
               with_reducible rfl
              rotate_left
              ·simp only [Act.put, za, zb, zc, i64_w, i32_w]
               rfl
              refine pure_ (i := 5) (N := some 61) (v := ?_) (a' := ?_) #[f_, t_, t_, t_, t_, t_, f_, f_, f_] rfl rfl (any_of HT_.out (by kernel_rfl)) (fun _ _ _ h => h) (Or.inl ⟨by rfl, ?_⟩) ?_ ?_
              rotate_left
              ·intro w'
               go_simp
               with_reducible rfl
              rotate_left
              ·simp only [Act.put, za, zb, zc, i64_w, i32_w]
               rfl
              refine take_ (i := 0) (N := some 56) (v := ?_) (a' := ?_) #[t_, t_, t_, t_, t_, t_, f_, f_, f_] rfl rfl (take_ofW HT_.out HW_.out (by kernel_rfl)) (fun _ _ _ h => h) (Or.inl ⟨by rfl, ?_⟩) hHeld ?_ ?_
              rotate_left
              ·rintro w' ⟨s0, s1, s2, s3, s4, s5⟩
               go_simp
               with_reducible rfl
              rotate_left
              ·simp only [Act.put, za, zb, zc, i64_w, i32_w]
               rfl
              refine take_ (i := 6) (N := some 62) (v := ?_) (a' := ?_) #[t_, t_, t_, t_, t_, t_, t_, f_, f_] rfl rfl (take_ofW HT_.out HW_.out (by kernel_rfl)) (fun _ _ _ h => h) (Or.inl ⟨by rfl, ?_⟩) hHeld ?_ ?_
              rotate_left
              ·rintro w' ⟨s0, s1, s2, s3, s4, s5⟩
               go_simp
               with_reducible rfl
              rotate_left
              ·simp only [Act.put, za, zb, zc, i64_w, i32_w]
               rfl
              refine one_ (i := 7) (N := some 63) #[t_, t_, t_, t_, t_, t_, t_, t_, f_] rfl rfl (one_of HT_.out (by kernel_rfl)) (by decide) (fun K hK => ?_)
              refine goes_ Try.func18 (by kernel_rfl) rfl #[.agg #[.int .i64 a0_0, .int .i64 a0_1, .int .i64 a0_2], .int .i64 a1, .slice Ao61 x9_2.length co61, .agg #[.int .i64 ((rd_T37 l2 x11_2).f0), .int .i64 ((rd_T37 l2 x11_2).f1), .int .i64 ((rd_T37 l2 x11_2).f2)]] (by rfl) rfl rfl (by (try simp only [List.map_toArray, List.map_cons, List.map_nil]); first | done | rfl | (simp only [List.length_drop, List.length_take]; rfl)) ?_
              with_reducible refine (window_Put.calls k2 a0_0 a0_1 a0_2 a1 _ _ x9_2 ((rd_T37 l2 x11_2).f0) ((rd_T37 l2 x11_2).f1) ((rd_T37 l2 x11_2).f2) t319 _ ?side1 ?side2 A31.out).mono ?_
              (case side1 => repeat (first | exact (Kd.R_reads' HO_9.out).2.2 | (with_reducible refine Kd.C_alloc ?_ _) | (with_reducible refine Kd.C_drewN ?_ _) | (with_reducible refine Kd.C_drew ?_)))
              (case side2 => exact (Kd.R_reads' HO_9.out).2.1)
              rintro e w63 ⟨v320, rfl, ho0, hb⟩
              refine ⟨_, rfl, ?_⟩
              have n0_ := zd (Kd.R_elder' (by (with_reducible repeat (first | apply ze | apply zf | apply zg)); exact HO_9.out) (Kd.R_base ho0) hb)
              have n1_ := zd (Kd.R_elder' (by (with_reducible repeat (first | apply ze | apply zf | apply zg)); exact HO_10.out) (Kd.R_base ho0) hb)
              have n2_ := zd (Kd.R_elder' (by (with_reducible repeat (first | apply ze | apply zf | apply zg)); exact HO317.out) (Kd.R_base ho0) hb)
              have n3_ := zd (Kd.R_lower (Kd.R_new' (Kd.R_new' (Kd.R_new' ho0 (Kd.R_lt (by (with_reducible repeat (first | apply ze | apply zf | apply zg)); exact HO_9.out))) (Kd.R_lt (by (with_reducible repeat (first | apply ze | apply zf | apply zg)); exact HO_10.out))) (Kd.R_lt (by (with_reducible repeat (first | apply ze | apply zf | apply zg)); exact HO317.out))) (below_size (by repeat (first | (with_reducible first | exact HB.out | apply zh | apply zi | apply zj | refine zn ?_ GE310.out) | exact HB.out))))
              have n4_ := zd (zp (g := gb310) (o := .cells #[.int .i64 a0_0, .int .i64 a0_1, .int .i64 a0_2] 23 (0, 0)) (by (with_reducible repeat (first | refine zk ?_ _ | refine zl ?_ | refine zm ?_ _)); exact BK310.out) hb)
              have n5_ := zd (zs (by repeat (first | (with_reducible first | exact HB.out | apply zh | apply zi | apply zj | refine zn ?_ GE310.out) | exact HB.out)) hb)
              clear HO_9
              clear HO_10
              clear HO317
              clear BK310
              clear HB
              have HO_9 := n0_
              have HO_10 := n1_
              have HO317 := n2_
              have HO321 := n3_
              have BK310 := n4_
              have HB := n5_
              clear n0_ n1_ n2_ n3_ n4_ n5_
              (try clear hb)
              (try clear hb2)
              (try clear hk)
              (try clear hi)
              (try clear ho0)
              refine hK.out _ _ ⟨(zo BK310.out 0).trans rfl, (zo BK310.out 1).trans rfl, (zo BK310.out 2).trans rfl, ((HB.out.cell (World.block_lt_of_cell? w _ hw318_0)).trans hw318_0), ((HB.out.cell (World.block_lt_of_cell? w _ hw318_1)).trans hw318_1), ((HB.out.cell (World.block_lt_of_cell? w _ hw318_2)).trans hw318_2)⟩ (fun hHeld => ?_)
              clear hK K
              refine norm_ (a' := ?_) ?_ ?_
              rotate_left
              ·show Act.put _ (some 63) _ = _
               simp only [Act.put, za, zb, zc, i64_w, i32_w]
               rfl
              refine pure_ (i := 8) (N := some 13) (v := ?_) (a' := ?_) #[t_, t_, t_, t_, t_, t_, t_, t_, t_] rfl rfl (any_of HT_.out (by kernel_rfl)) (fun _ _ _ h => h) (Or.inl ⟨by rfl, ?_⟩) ?_ ?_
              rotate_left
              ·intro w'
               go_simp
               with_reducible rfl
              rotate_left
              ·simp only [Act.put, za, zb, zc, i64_w, i32_w]
               rfl
              refine done_ (done_of HT_.out (by kernel_rfl)) ?_
              obtain ⟨Ao64, co64, eo64⟩ := Kd.R_slice HO317.out
              subst eo64
              try go_wp2_with (first | ((with_reducible refine gate_callee (f := 19) rfl ?_); refine goesL_ (some 66) rfl rfl Try.func19 (by kernel_rfl) rfl #[.slice Ao61 x9_2.length co61, .slice Ao64 y315.length co64] rfl (by (try simp only [List.map_toArray, List.map_cons, List.map_nil]); first | done | rfl | (simp only [List.length_drop, List.length_take]; rfl)) ?_; (with_reducible refine (leathelp_Panes.calls k2 _ _ x9_2 _ _ y315 true _ ?side1 ?side2 ?side3 ?side4 A32.out).mono ?_); (case side1 => repeat (first | exact (Kd.R_reads' HO_9.out).2.2 | (with_reducible refine Kd.C_alloc ?_ _) | (with_reducible refine Kd.C_drewN ?_ _) | (with_reducible refine Kd.C_drew ?_))); (case side2 => exact (Kd.R_reads' HO_9.out).2.1); (case side3 => repeat (first | exact (Kd.R_reads' HO317.out).2.2 | (with_reducible refine Kd.C_alloc ?_ _) | (with_reducible refine Kd.C_drewN ?_ _) | (with_reducible refine Kd.C_drew ?_))); (case side4 => exact (Kd.R_reads' HO317.out).2.1); rintro e w' ⟨rfl, ⟨nd, rfl⟩⟩; refine ⟨_, rfl, ?_⟩))
              (try (rw [drewN_self w63]; generalize hq_ : World.drewN w63 _ = w63; have n0_ : Aside0 (Kd.R k46 46 w63 w.heap.size (fun k_ => some k_ ≠ (v320 : Value).ownBlock /\ some k_ ≠ (u10 : Value).ownBlock /\ some k_ ≠ (.slice Ao61 x9_2.length co61 : Value).ownBlock) (.slice Ao64 y315.length co64) y315) := ⟨by rw [← hq_]; exact (by (with_reducible repeat (first | apply ze | apply zf | apply zg)); exact zq HO317.out (fun _ hk => ⟨hk.2, ⟨hk.1.2, hk.1.1⟩⟩))⟩; have n1_ : Aside0 (Kd.R k46 46 w63 w.heap.size (fun k_ => some k_ ≠ (.slice Ao64 y315.length co64 : Value).ownBlock /\ some k_ ≠ (u10 : Value).ownBlock /\ some k_ ≠ (.slice Ao61 x9_2.length co61 : Value).ownBlock) v320 t319) := ⟨by rw [← hq_]; exact (by (with_reducible repeat (first | apply ze | apply zf | apply zg)); exact zq HO321.out (fun _ hk => ⟨hk.2, ⟨hk.1.2, hk.1.1.2⟩⟩))⟩; have n2_ : Aside0 (Kd.R k46 46 w63 w.heap.size (fun k_ => some k_ ≠ (.slice Ao64 y315.length co64 : Value).ownBlock /\ some k_ ≠ (v320 : Value).ownBlock /\ some k_ ≠ (.slice Ao61 x9_2.length co61 : Value).ownBlock) u10 x10_2) := ⟨by rw [← hq_]; exact (by (with_reducible repeat (first | apply ze | apply zf | apply zg)); exact zq HO_10.out (fun _ hk => ⟨hk.1.2, ⟨hk.2, hk.1.1⟩⟩))⟩; have n3_ : Aside0 (Kd.R k46 46 w63 w.heap.size (fun k_ => some k_ ≠ (.slice Ao64 y315.length co64 : Value).ownBlock /\ some k_ ≠ (v320 : Value).ownBlock /\ some k_ ≠ (u10 : Value).ownBlock) (.slice Ao61 x9_2.length co61) x9_2) := ⟨by rw [← hq_]; exact (by (with_reducible repeat (first | apply ze | apply zf | apply zg)); exact zq HO_9.out (fun _ hk => ⟨hk.1.2, ⟨hk.2, hk.1.1⟩⟩))⟩; have n4_ : Aside0 (w63.heap[gb310]? = some (.cells #[.int .i64 a0_0, .int .i64 a0_1, .int .i64 a0_2] 23 (0, 0))) := ⟨by rw [← hq_]; exact (by (with_reducible repeat (first | refine zk ?_ _ | refine zl ?_ | refine zm ?_ _)); exact BK310.out)⟩; have n5_ : Aside0 (Below w.heap.size w w63) := ⟨by rw [← hq_]; exact (by repeat (first | (with_reducible first | exact HB.out | apply zh | apply zi | apply zj | refine zn ?_ GE310.out) | exact HB.out))⟩; clear HO317 HO321 HO_10 HO_9 BK310 HB hq_; have HO317 := n0_; have HO321 := n1_; have HO_10 := n2_; have HO_9 := n3_; have BK310 := n4_; have HB := n5_; clear n0_ n1_ n2_ n3_ n4_ n5_))
              have n0_ := zd (zg HO_9.out)
              have n1_ := zd (zg HO_10.out)
              have n2_ := zd (zg HO317.out)
              have n3_ := zd (zg HO321.out)
              have n4_ := zd (zl BK310.out)
              have n5_ := zd (zj HB.out)
              clear HO_9
              clear HO_10
              clear HO317
              clear HO321
              clear BK310
              clear HB
              have HO_9 := n0_
              have HO_10 := n1_
              have HO317 := n2_
              have HO321 := n3_
              have BK310 := n4_
              have HB := n5_
              clear n0_ n1_ n2_ n3_ n4_ n5_
              have p323 : 0 <= (x11_2 : Int) := of_decide_eq_true (by first | (with_reducible assumption) | assumption)
              have q323 : x11_2 < (l2.length : Int) := of_decide_eq_true (by first | (with_reducible assumption) | assumption)
              obtain ⟨ad323, e323, hx323_0, hx323_1, hx323_2⟩ := at_T37 HR2.out x11_2 p323 q323
              have hw323_2 := hx323_2
              have hw323_1 := hx323_1
              have hw323_0 := hx323_0
              obtain rfl : ad313 = ad323 := (by injection e323)
              replace hx323_0 := (HB.out.cell (World.block_lt_of_cell? w _ hx323_0)).trans hx323_0
              replace hx323_1 := (HB.out.cell (World.block_lt_of_cell? w _ hx323_1)).trans hx323_1
              replace hx323_2 := (HB.out.cell (World.block_lt_of_cell? w _ hx323_2)).trans hx323_2
              replace p323 := eq_true p323
              replace q323 := eq_true q323
              obtain ⟨Ao66, co66, eo66⟩ := Kd.R_slice HO_10.out
              (first | subst eo66 | (injection eo66 with f1_ f2_ f3_; have f4_ := f1_.symm; have f5_ := f3_.symm; clear f1_ f2_ f3_; subst f4_; subst f5_))
              refine start_ (n := 11) (S := fun w' => w'.cell? ⟨gb310, 0, none⟩ = some (.int .i64 a0_0) /\ w'.cell? ⟨gb310, 1, none⟩ = some (.int .i64 a0_1) /\ w'.cell? ⟨gb310, 2, none⟩ = some (.int .i64 a0_2) /\ w'.cell? (ad313.add ((x11_2).toNat * 3)) = some (.int .i64 ((rd_T37 l2 x11_2).f0)) /\ w'.cell? ⟨(ad313.add ((x11_2).toNat * 3)).block, (ad313.add ((x11_2).toNat * 3)).off + 1, none⟩ = some (.int .i64 ((rd_T37 l2 x11_2).f1)) /\ w'.cell? ⟨(ad313.add ((x11_2).toNat * 3)).block, (ad313.add ((x11_2).toNat * 3)).off + 2, none⟩ = some (.int .i64 ((rd_T37 l2 x11_2).f2))) (ds := []) #[f_, f_, f_, f_, f_, f_, f_, f_, f_, f_, f_] (by kernel_rfl) rfl rfl ⟨(zo BK310.out 0).trans rfl, (zo BK310.out 1).trans rfl, (zo BK310.out 2).trans rfl, ((HB.out.cell (World.block_lt_of_cell? w _ hw323_0)).trans hw323_0), ((HB.out.cell (World.block_lt_of_cell? w _ hw323_1)).trans hw323_1), ((HB.out.cell (World.block_lt_of_cell? w _ hw323_2)).trans hw323_2)⟩ (fun hHeld => ?_); refine with_tabW leatlaw11_WindowPlays.tab15 leatlaw11_WindowPlays.bits15 (fun HT_ HW_ => ?_)
              generalize w63.drew = w65 at HO_9 HO_10 HO317 HO321 BK310 HB hx323_0 hx323_1 hx323_2 hHeld ⊢
              refine pure_ (i := 0) (N := some 68) (v := ?_) (a' := ?_) #[t_, f_, f_, f_, f_, f_, f_, f_, f_, f_, f_] rfl rfl (any_of HT_.out (by kernel_rfl)) (fun _ _ _ h => h) (Or.inl ⟨by rfl, ?_⟩) ?_ ?_
              rotate_left
              ·intro w'
               go_simp
               with_reducible rfl
              rotate_left
              ·simp only [Act.put, za, zb, zc, i64_w, i32_w]
               rfl
              refine pure_ (i := 2) (N := some 70) (v := ?_) (a' := ?_) #[t_, f_, t_, f_, f_, f_, f_, f_, f_, f_, f_] rfl rfl (any_of HT_.out (by kernel_rfl)) (fun _ _ _ h => h) (Or.inl ⟨by rfl, ?_⟩) ?_ ?_
              rotate_left
              ·intro w'
               go_simp
               with_reducible rfl
              rotate_left
              ·simp only [Act.put, za, zb, zc, i64_w, i32_w]
               rfl
              refine pure_ (i := 3) (N := some 71) (v := ?_) (a' := ?_) #[t_, f_, t_, t_, f_, f_, f_, f_, f_, f_, f_] rfl rfl (any_of HT_.out (by kernel_rfl)) (fun _ _ _ h => h) (Or.inl ⟨by rfl, ?_⟩) ?_ ?_
              rotate_left
              ·intro w'
               go_simp
               with_reducible rfl
              rotate_left
              ·simp only [Act.put, za, zb, zc, i64_w, i32_w]
               rfl
              refine pure_ (i := 4) (N := some 72) (v := ?_) (a' := ?_) #[t_, f_, t_, t_, t_, f_, f_, f_, f_, f_, f_] rfl rfl (any_of HT_.out (by kernel_rfl)) (fun _ _ _ h => h) (Or.inl ⟨by rfl, ?_⟩) ?_ ?_
              rotate_left
              ·intro w'
               go_simp
               with_reducible rfl
              rotate_left
              ·simp only [Act.put, za, zb, zc, i64_w, i32_w]
               rfl
              refine pure_ (i := 5) (N := some 73) (v := ?_) (a' := ?_) #[t_, f_, t_, t_, t_, t_, f_, f_, f_, f_, f_] rfl rfl (any_of HT_.out (by kernel_rfl)) (fun _ _ _ h => h) (Or.inl ⟨by rfl, ?_⟩) ?_ ?_
              rotate_left
              ·intro w'
               go_simp
               with_reducible rfl
              rotate_left
              ·simp only [Act.put, za, zb, zc, i64_w, i32_w]
               rfl
              refine pure_ (i := 6) (N := some 74) (v := ?_) (a' := ?_) #[t_, f_, t_, t_, t_, t_, t_, f_, f_, f_, f_] rfl rfl (any_of HT_.out (by kernel_rfl)) (fun _ _ _ h => h) (Or.inl ⟨by rfl, ?_⟩) ?_ ?_
              rotate_left
              ·intro w'
               go_simp
               with_reducible rfl
              rotate_left
              ·simp only [Act.put, za, zb, zc, i64_w, i32_w]
               rfl
              refine take_ (i := 1) (N := some 69) (v := ?_) (a' := ?_) #[t_, t_, t_, t_, t_, t_, t_, f_, f_, f_, f_] rfl rfl (take_ofW HT_.out HW_.out (by kernel_rfl)) (fun _ _ _ h => h) (Or.inl ⟨by rfl, ?_⟩) hHeld ?_ ?_
              rotate_left
              ·rintro w' ⟨s0, s1, s2, s3, s4, s5⟩
               go_simp
               with_reducible rfl
              rotate_left
              ·simp only [Act.put, za, zb, zc, i64_w, i32_w]
               rfl
              refine take_ (i := 7) (N := some 75) (v := ?_) (a' := ?_) #[t_, t_, t_, t_, t_, t_, t_, t_, f_, f_, f_] rfl rfl (take_ofW HT_.out HW_.out (by kernel_rfl)) (fun _ _ _ h => h) (Or.inl ⟨by rfl, ?_⟩) hHeld ?_ ?_
              rotate_left
              ·rintro w' ⟨s0, s1, s2, s3, s4, s5⟩
               go_simp
               with_reducible rfl
              rotate_left
              ·simp only [Act.put, za, zb, zc, i64_w, i32_w]
               rfl
              refine one_ (i := 8) (N := some 76) #[t_, t_, t_, t_, t_, t_, t_, t_, t_, f_, f_] rfl rfl (one_of HT_.out (by kernel_rfl)) (by decide) (fun K hK => ?_)
              refine goes_ Try.func20 (by kernel_rfl) rfl #[.agg #[.int .i64 a0_0, .int .i64 a0_1, .int .i64 a0_2], .int .i64 a1, .slice Ao66 x10_2.length co66, .agg #[.int .i64 ((rd_T37 l2 x11_2).f0), .int .i64 ((rd_T37 l2 x11_2).f1), .int .i64 ((rd_T37 l2 x11_2).f2)]] (by rfl) rfl rfl (by (try simp only [List.map_toArray, List.map_cons, List.map_nil]); first | done | rfl | (simp only [List.length_drop, List.length_take]; rfl)) ?_
              with_reducible refine (leatref11_Put.calls k2 a0_0 a0_1 a0_2 a1 _ _ x10_2 ((rd_T37 l2 x11_2).f0) ((rd_T37 l2 x11_2).f1) ((rd_T37 l2 x11_2).f2) t324 _ ?side1 ?side2 A34.out).mono ?_
              (case side1 => repeat (first | exact (Kd.R_reads' HO_10.out).2.2 | (with_reducible refine Kd.C_alloc ?_ _) | (with_reducible refine Kd.C_drewN ?_ _) | (with_reducible refine Kd.C_drew ?_)))
              (case side2 => exact (Kd.R_reads' HO_10.out).2.1)
              rintro e w67 ⟨v325, rfl, ho0, hb⟩
              refine ⟨_, rfl, ?_⟩
              have n0_ := zd (Kd.R_elder' (by (with_reducible repeat (first | apply ze | apply zf | apply zg)); exact HO_9.out) (Kd.R_base ho0) hb)
              have n1_ := zd (Kd.R_elder' (by (with_reducible repeat (first | apply ze | apply zf | apply zg)); exact HO_10.out) (Kd.R_base ho0) hb)
              have n2_ := zd (Kd.R_elder' (by (with_reducible repeat (first | apply ze | apply zf | apply zg)); exact HO317.out) (Kd.R_base ho0) hb)
              have n3_ := zd (Kd.R_elder' (by (with_reducible repeat (first | apply ze | apply zf | apply zg)); exact HO321.out) (Kd.R_base ho0) hb)
              have n4_ := zd (Kd.R_lower (Kd.R_new' (Kd.R_new' (Kd.R_new' (Kd.R_new' ho0 (Kd.R_lt (by (with_reducible repeat (first | apply ze | apply zf | apply zg)); exact HO_9.out))) (Kd.R_lt (by (with_reducible repeat (first | apply ze | apply zf | apply zg)); exact HO_10.out))) (Kd.R_lt (by (with_reducible repeat (first | apply ze | apply zf | apply zg)); exact HO317.out))) (Kd.R_lt (by (with_reducible repeat (first | apply ze | apply zf | apply zg)); exact HO321.out))) (below_size (by repeat (first | (with_reducible first | exact HB.out | apply zh | apply zi | apply zj | refine zn ?_ GE310.out) | exact HB.out))))
              have n5_ := zd (zp (g := gb310) (o := .cells #[.int .i64 a0_0, .int .i64 a0_1, .int .i64 a0_2] 23 (0, 0)) (by (with_reducible repeat (first | refine zk ?_ _ | refine zl ?_ | refine zm ?_ _)); exact BK310.out) hb)
              have n6_ := zd (zs (by repeat (first | (with_reducible first | exact HB.out | apply zh | apply zi | apply zj | refine zn ?_ GE310.out) | exact HB.out)) hb)
              clear HO_9
              clear HO_10
              clear HO317
              clear HO321
              clear BK310
              clear HB
              have HO_9 := n0_
              have HO_10 := n1_
              have HO317 := n2_
              have HO321 := n3_
              have HO326 := n4_
              have BK310 := n5_
              have HB := n6_
              clear n0_ n1_ n2_ n3_ n4_ n5_ n6_
              (try clear hb)
              (try clear hb2)
              (try clear hk)
              (try clear hi)
              (try clear ho0)
              refine hK.out _ _ ⟨(zo BK310.out 0).trans rfl, (zo BK310.out 1).trans rfl, (zo BK310.out 2).trans rfl, ((HB.out.cell (World.block_lt_of_cell? w _ hw323_0)).trans hw323_0), ((HB.out.cell (World.block_lt_of_cell? w _ hw323_1)).trans hw323_1), ((HB.out.cell (World.block_lt_of_cell? w _ hw323_2)).trans hw323_2)⟩ (fun hHeld => ?_)
              clear hK K
              refine norm_ (a' := ?_) ?_ ?_
              rotate_left
              ·show Act.put _ (some 76) _ = _
               simp only [Act.put, za, zb, zc, i64_w, i32_w]
               rfl
              refine pure_ (i := 9) (N := some 9) (v := ?_) (a' := ?_) #[t_, t_, t_, t_, t_, t_, t_, t_, t_, t_, f_] rfl rfl (any_of HT_.out (by kernel_rfl)) (fun _ _ _ h => h) (Or.inl ⟨by rfl, ?_⟩) ?_ ?_
              rotate_left
              ·intro w'
               go_simp
               with_reducible rfl
              rotate_left
              ·simp only [Act.put, za, zb, zc, i64_w, i32_w]
               rfl
              refine pure_ (i := 10) (N := some 10) (v := ?_) (a' := ?_) #[t_, t_, t_, t_, t_, t_, t_, t_, t_, t_, t_] rfl rfl (any_of HT_.out (by kernel_rfl)) (fun _ _ _ h => h) (Or.inl ⟨by rfl, ?_⟩) ?_ ?_
              rotate_left
              ·intro w'
               go_simp
               with_reducible rfl
              rotate_left
              ·simp only [Act.put, za, zb, zc, i64_w, i32_w]
               rfl
              refine done_ (done_of HT_.out (by kernel_rfl)) ?_
              obtain ⟨Ao68, co68, eo68⟩ := Kd.R_slice HO321.out
              subst eo68
              obtain ⟨Ao69, co69, eo69⟩ := Kd.R_slice HO326.out
              subst eo69
              try go_wp2_with (first | ((with_reducible refine gate_callee (f := 19) rfl ?_); refine goesL_ (some 79) rfl rfl Try.func19 (by kernel_rfl) rfl #[.slice Ao68 t319.length co68, .slice Ao69 t324.length co69] rfl (by (try simp only [List.map_toArray, List.map_cons, List.map_nil]); first | done | rfl | (simp only [List.length_drop, List.length_take]; rfl)) ?_; (with_reducible refine (leathelp_Panes.calls k2 _ _ t319 _ _ t324 true _ ?side1 ?side2 ?side3 ?side4 A35.out).mono ?_); (case side1 => repeat (first | exact (Kd.R_reads' HO321.out).2.2 | (with_reducible refine Kd.C_alloc ?_ _) | (with_reducible refine Kd.C_drewN ?_ _) | (with_reducible refine Kd.C_drew ?_))); (case side2 => exact (Kd.R_reads' HO321.out).2.1); (case side3 => repeat (first | exact (Kd.R_reads' HO326.out).2.2 | (with_reducible refine Kd.C_alloc ?_ _) | (with_reducible refine Kd.C_drewN ?_ _) | (with_reducible refine Kd.C_drew ?_))); (case side4 => exact (Kd.R_reads' HO326.out).2.1); rintro e w' ⟨rfl, ⟨nd, rfl⟩⟩; refine ⟨_, rfl, ?_⟩))
              go_roundg k2
              case measure => have := HJ6.out; have := HK2.out; omega
              case rel => exact ⟨(t319), (t324), (wrap64 (x11_2 + 1)), (by first | rfl | (simp; done) | (simp [*]; done)), H', ⟨by have := HJ6.out; have := HK2.out; omega⟩, ⟨by (with_reducible repeat (first | apply ze | apply zf | apply zg)); exact zq HO321.out (fun _ hk => hk.2)⟩, ⟨by (with_reducible repeat (first | apply ze | apply zf | apply zg)); exact zq HO326.out (fun _ hk => hk.2)⟩, ⟨by (with_reducible repeat (first | refine zk ?_ _ | refine zl ?_ | refine zm ?_ _)); exact BK310.out⟩, ⟨by repeat (first | (with_reducible first | exact HB.out | apply zh | apply zi | apply zj | refine zn ?_ GE310.out) | exact HB.out)⟩⟩
            ·replace c36 := Bool.eq_false_iff.mpr c36
             subst c36
             have H1 : (none) = some r := by rw [if_neg (show ¬ (false = true) by decide)] at H; exact H
             clear H
             have H := H1
             clear H1
             exact absurd H (by simp)
           ·replace c33 := Bool.eq_false_iff.mpr c33
            subst c33
            have H1 : (none) = some r := by rw [if_neg (show ¬ (false = true) by decide)] at H; exact H
            clear H
            have H := H1
            clear H1
            exact absurd H (by simp)
          ·rw [if_neg c30] at H
           exact absurd H (by simp)
         ·replace c29 := Bool.eq_false_iff.mpr c29
          subst c29
          have H1 : (some true) = some r := by rw [if_neg (show ¬ (false = true) by decide)] at H; exact H
          clear H
          have H := H1
          clear H1
          obtain rfl := Option.some.inj H
          have p313 : 0 <= (x11_2 : Int) := of_decide_eq_true (by first | (with_reducible assumption) | assumption)
          have q313 : x11_2 < (l2.length : Int) := of_decide_eq_true (by first | (with_reducible assumption) | assumption)
          obtain ⟨ad313, e313, hx313_0, hx313_1, hx313_2⟩ := at_T37 HR2.out x11_2 p313 q313
          cases e313
          replace hx313_0 := (HB.out.cell (World.block_lt_of_cell? w _ hx313_0)).trans hx313_0
          replace hx313_1 := (HB.out.cell (World.block_lt_of_cell? w _ hx313_1)).trans hx313_1
          replace hx313_2 := (HB.out.cell (World.block_lt_of_cell? w _ hx313_2)).trans hx313_2
          replace p313 := eq_true p313
          replace q313 := eq_true q313
          go_wp2_with (first | ((with_reducible refine gate_callee (f := 14) rfl ?_); refine goesL_ (some 52) rfl rfl Try.func14 (by kernel_rfl) rfl #[.int .i64 ((rd_T37 l2 x11_2).f1)] rfl (by (try simp only [List.map_toArray, List.map_cons, List.map_nil]); first | done | rfl | (simp only [List.length_drop, List.length_take]; rfl)) ?_; (with_reducible refine (leatlaw11_time.calls ((rd_T37 l2 x11_2).f1) false _ A28.out).mono ?_); rintro e w' ⟨rfl, ⟨nd, rfl⟩⟩; refine ⟨_, rfl, ?_⟩))
          go_ret
          exact ⟨by first | rfl | (simp [errW_none, errW_some] <;> rfl) | (simp [*, errW_none, errW_some] <;> rfl), by repeat (first | (with_reducible first | exact HB.out | apply zh | apply zi | apply zj | refine zn ?_ GE310.out) | exact HB.out)⟩
        ·rw [if_neg c27] at H
         exact absurd H (by simp)
       ·rw [if_neg c26] at H
        have c26b0 : decide (x11_2 < (l2.length : Int)) = false := decide_eq_false c26
        clear c26
        obtain rfl := Option.some.inj H
        go_wp2
        go_ret
        exact ⟨by first | rfl | (simp [errW_none, errW_some] <;> rfl) | (simp [*, errW_none, errW_some] <;> rfl), by repeat (first | (with_reducible first | exact HB.out | apply zh | apply zi | apply zj | refine zn ?_ GE310.out) | exact HB.out)⟩
 ·replace c6 := Bool.eq_false_iff.mpr c6
  subst c6
  have H1 : (none) = some r := by rw [if_neg (show ¬ (false = true) by decide)] at H; exact H
  clear H
  have H := H1
  clear H1
  exact absurd H (by simp)
end Go.Proofs.Ytdinbnbogdadgaa.X
