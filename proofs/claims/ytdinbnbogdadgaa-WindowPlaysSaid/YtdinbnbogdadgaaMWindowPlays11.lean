/- Proofs towards the law WindowPlays, joined into one text. No conditions beyond those typed. -/
import Derived.Test.YtdinbnbogdadgaaMWindowPlays10
namespace Go.Proofs.Ytdinbnbogdadgaa.X
open Go.RowKit Go.Proofs.YtdinbnbogdadgaaW.PrintWords Go.Proofs.YtdinbnbogdadgaaW.PrintLast Go.Proofs.YtdinbnbogdadgaaW.PrintMore
attribute [local go_sem] max2_int min2_int max_two min_two max_three min_three max_four min_four   -- for this text's walks alone
set_option linter.unusedVariables false
set_option linter.unusedSimpArgs false
mutual
def leatref11_merge.l0 : Nat -> Int -> List (S46) -> Int -> Int -> Int -> Int -> Option ((List (S46)))
 | 0, _, _, _, _, _, _ => none
 | k + 1, x0, x1, x235000, x235001, x235002, x235003 => leatref11_merge.l1 k x0 x1 ([] : List (S46)) false 0 x235000 x235001 x235002 x235003
def leatref11_merge.l1 : Nat -> Int -> List (S46) -> List (S46) -> Bool -> Int -> Int -> Int -> Int -> Int -> Option ((List (S46)))
 | 0, _, _, _, _, _, _, _, _, _ => none
 | k + 1, x0, x1, x7, x8, x9, x235000, x235001, x235002, x235003 => if x9 < (x1.length : Int) then (if 0 <= x9 then (if ((rd_T46 x1 x9).f0) = x235000 then ((leatref11_overlap.f ((rd_T46 x1 x9).f1.f0) ((rd_T46 x1 x9).f1.f1) x235001 x235002).bind fun t243 => (if t243 = true then ((leatref10_Merge.f k x0 x235003 ((rd_T46 x1 x9).f2)).bind fun t247 => (leatref11_merge.l1 k x0 x1 x7 true (wrap64 (x9 + 1)) x235000 (mn x235001 ((rd_T46 x1 x9).f1.f0)) (mx x235002 ((rd_T46 x1 x9).f1.f1)) t247)) else (if x7.length < 4398046511104 then (leatref11_merge.l1 k x0 x1 (x7 ++ [(⟨(rd_T46 x1 x9).f0, (⟨(rd_T46 x1 x9).f1.f0, (rd_T46 x1 x9).f1.f1⟩ : S31), (rd_T46 x1 x9).f2⟩ : S46)]) x8 (wrap64 (x9 + 1)) x235000 x235001 x235002 x235003) else (none)))) else (if x7.length < 4398046511104 then (leatref11_merge.l1 k x0 x1 (x7 ++ [(⟨(rd_T46 x1 x9).f0, (⟨(rd_T46 x1 x9).f1.f0, (rd_T46 x1 x9).f1.f1⟩ : S31), (rd_T46 x1 x9).f2⟩ : S46)]) x8 (wrap64 (x9 + 1)) x235000 x235001 x235002 x235003) else (none))) else (none)) else (if x8 = true then (leatref11_merge.l0 k x0 x7 x235000 x235001 x235002 x235003) else (if x7.length < 4398046511104 then ((leatref11_Sort.f k (x7 ++ [(⟨x235000, (⟨x235001, x235002⟩ : S31), x235003⟩ : S46)])).bind fun t238 => (some t238)) else (none)))
end
def leatref11_merge.f (k : Nat) (a0 : Int) (l1 : List (S46)) (a2_0 : Int) (a2_1 : Int) (a2_2 : Int) (a2_3 : Int) : Option ((List (S46))) := leatref11_merge.l0 k a0 l1 a2_0 a2_1 a2_2 a2_3
def leatref11_merge.T6 : Bool × List (List Nat × List Nat) := (true, [([], []), ([], []), ([0, 1], [0, 1]), ([2], [2]), ([3], [3]), ([], []), ([5], [5]), ([4, 6], [4, 6]), ([7], [7]), ([8], [8]), ([8], [8]), ([9, 10, 8], [8, 9, 10]), ([11, 8], [8, 11]), ([12, 8], [8, 12]), ([8], [8]), ([14, 8], [8, 14]), ([13, 15, 8, 8], [8, 13, 15]), ([8, 16], [8, 16])])
def leatref11_merge.B6 : List Nat := [0, 0, 3, 7, 15, 0, 32, 127, 255, 511, 511, 2047, 4095, 8191, 511, 16895, 65535, 131071]
theorem leatref11_merge.tab6 : rtab .any (opsOf Try.f45 6) = leatref11_merge.T6 := by kernel_rfl
theorem leatref11_merge.bits6 : waitsOk leatref11_merge.T6.2 leatref11_merge.B6 = true := by kernel_rfl
def leatref11_merge.T7 : Bool × List (List Nat × List Nat) := (true, [([], []), ([0], [0]), ([], []), ([2], [2]), ([3], [3]), ([], []), ([], []), ([5, 6], [5, 6]), ([7], [7]), ([8], [8]), ([9], [9]), ([4, 10], [4, 10]), ([], []), ([12], [12]), ([13], [13]), ([], []), ([], []), ([15, 16], [15, 16]), ([17], [17]), ([18], [18]), ([19], [19]), ([14, 20], [14, 20]), ([11, 21], [11, 21]), ([], []), ([], []), ([24], [24]), ([], []), ([], []), ([26, 27], [26, 27]), ([28], [28]), ([29], [29]), ([23, 25, 30], [23, 25, 30]), ([1, 22, 31], [1, 22, 31]), ([32, 31, 0, 1, 2, 3, 4, 5, 6, 7, 8, 9, 10, 11, 12, 13, 14, 15, 16, 17, 18, 19, 20, 21, 22, 23, 24, 25, 26, 27, 28, 29, 30, 31, 32], [32])])
def leatref11_merge.B7 : List Nat := [0, 1, 0, 4, 12, 0, 0, 96, 224, 480, 992, 2044, 0, 4096, 12288, 0, 0, 98304, 229376, 491520, 1015808, 2093056, 4194300, 0, 0, 16777216, 0, 0, 201326592, 469762048, 1006632960, 2139095040, 4294967295, 8589934591]
theorem leatref11_merge.tab7 : rtab .any (opsOf Try.f45 7) = leatref11_merge.T7 := by kernel_rfl
theorem leatref11_merge.bits7 : waitsOk leatref11_merge.T7.2 leatref11_merge.B7 = true := by kernel_rfl
set_option maxHeartbeats 8000000 in
set_option maxRecDepth 100000 in
theorem leatref11_merge.calls (k : Nat) (a0 : Int) (P1_ : Nat -> Prop) (u9000_ : Value) (l1 : List (S46)) (a2_0 : Int) (a2_1 : Int) (a2_2 : Int) (a2_3 : Int) (r : List (S46)) (w0 w : World) (hB : Below w0.heap.size w0 w) (ho1 : Kd.R k46 46 w w0.heap.size P1_ u9000_ l1) (h : leatref11_merge.f k a0 l1 a2_0 a2_1 a2_2 a2_3 = some r) :
  Calls Try.prog 45 #[.int .i64 a0, u9000_, .agg #[.int .i64 a2_0, .int .i64 a2_1, .int .i64 a2_2, .int .i64 a2_3]] w fun e w' => ∃ v0_ : Value, e = .returned (v0_) /\ Kd.R k46 46 w' w0.heap.size (fun k_ => (P1_ k_ ∨ w.heap.size <= k_)) v0_ r /\ Below w0.heap.size w0 w' /\ Kept w w' (fun k_ => P1_ k_) := by
 have hu46 := Try.underlying46
 have hu31 := Try.underlying31
 have HO1 := zd (show Kd.R k46 46 w w0.heap.size (fun k_ => (P1_ k_ ∨ w.heap.size <= k_)) u9000_ l1 from zq ho1 (fun k_ hk => (.inl hk)))
 have HK := zd (Kept.refl w (fun k_ => P1_ k_))
 have HW0 := zd hB.size
 have HB := zd hB
 clear hB
 have H : (leatref11_merge.l0 k a0 l1 a2_0 a2_1 a2_2 a2_3) = some r := h
 clear h
 have H' := zd H
 clear H
 go_enter Try.func45, Try.ntmps45
 go_wp2_with (first | ((with_reducible refine gate_dst (N := 5) rfl ?_); refine box_event ?hg (N := 5) ?hd (cs := #[.int .i64 a2_0, .int .i64 a2_1, .int .i64 a2_2, .int .i64 a2_3]) (t := 46) ?hr ?_; (case hd => rfl); (case hg => rfl); (case hr => first | (go_simp; done) | (go_simp; rfl)); intro gb234 hg w4 hbox hb; have n0_ := zd (zr (Kd.R_elderB (by (with_reducible repeat (first | apply ze | apply zf | apply zg)); exact HO1.out) gb234 (Nat.le_of_eq hg.symm)) hb); have n1_ := zd (Kept.below (S := (fun k_ => P1_ k_)) (by repeat (first | (with_reducible first | exact HK.out | apply Kept.alloc | apply Kept.drewN | apply Kept.drew) | exact HK.out)) hb); have n2_ := zd (zs (by repeat (first | (with_reducible first | exact HB.out | apply zh | apply zi | apply zj) | exact HB.out)) hb); have n3_ := zd (hbox); have n4_ := zd ((by rw [hg]; exact (by first | exact HK.out.1 | exact (show Kept w _ (fun k_ => P1_ k_) from by repeat (first | (with_reducible first | exact HK.out | apply Kept.alloc | apply Kept.drewN | apply Kept.drew) | exact HK.out)).1) : w.heap.size <= gb234)); have n5_ := zd ((by rw [hg]; exact (below_size (by repeat (first | (with_reducible first | exact HB.out | apply zh | apply zi | apply zj) | exact HB.out))) : w0.heap.size <= gb234)); clear HO1; clear HK; clear HB; have HO1 := n0_; have HK := n1_; have HB := n2_; have BK234 := n3_; have GW234 := n4_; have GE234 := n5_; clear n0_ n1_ n2_ n3_ n4_ n5_; clear hb hbox hg))
 go_loopg [1] k (fun kq v1 w' => ∃ (x1_1 : List (S46)) (x235000_1 : Int) (x235001_1 : Int) (x235002_1 : Int) (x235003_1 : Int), Aside0 (leatref11_merge.l0 kq a0 x1_1 x235000_1 x235001_1 x235002_1 x235003_1 = some r) /\ Aside0 (kq <= k) /\ Aside0 (Kd.R k46 46 w' w0.heap.size (fun k_ => (P1_ k_ ∨ w.heap.size <= k_) /\ k_ ≠ gb234) v1 x1_1) /\ Aside0 (w'.heap[gb234]? = some (.cells #[.int .i64 x235000_1, .int .i64 x235001_1, .int .i64 x235002_1, .int .i64 x235003_1] 46 (0, 0))) /\ Aside0 (Kept w w' (fun k_ => P1_ k_)) /\ Aside0 (Below w0.heap.size w0 w'))
 case atStart => exact ⟨(l1), (a2_0), (a2_1), (a2_2), (a2_3), H', ⟨Nat.le_refl _⟩, ⟨by (with_reducible repeat (first | apply ze | apply zf | apply zg)); exact HO1.out⟩, ⟨by (with_reducible repeat (first | refine zk ?_ _ | refine zl ?_ | refine zm ?_ _)); exact BK234.out⟩, ⟨by repeat (first | (with_reducible first | exact HK.out | apply Kept.alloc | apply Kept.drewN | apply Kept.drew | refine Kept.setCell ?_ (.inr GW234.out) _) | exact HK.out)⟩, ⟨by repeat (first | (with_reducible first | exact HB.out | apply zh | apply zi | apply zj | refine zn ?_ GE234.out) | exact HB.out)⟩⟩
 case round =>
  clear H'
  try clear p2; try clear c4
  obtain ⟨x1_1, x235000_1, x235001_1, x235002_1, x235003_1, HA, HK1, HO_1, BK234, HK, HB⟩ := hrel
  cases gk with
  | zero => exact absurd HA.out (by simp [leatref11_merge.l0])
  | succ k1 =>
   have H := HA.out
   clear HA
   simp only [leatref11_merge.l0] at H
   have H' := zd H
   clear H
   go_wp2
   go_loopg [7, 8, 9] k1 (fun kq v7 v8 v9 w' => ∃ (x7_2 : List (S46)) (x8_2 : Bool) (x9_2 : Int) (x235000_2 : Int) (x235001_2 : Int) (x235002_2 : Int) (x235003_2 : Int), v8 = .bool x8_2 /\ v9 = .int .i64 x9_2 /\ Aside0 (leatref11_merge.l1 kq a0 x1_1 x7_2 x8_2 x9_2 x235000_2 x235001_2 x235002_2 x235003_2 = some r) /\ Aside0 (kq <= k1) /\ Aside0 (Kd.R k46 46 w' w0.heap.size (fun k_ => (P1_ k_ ∨ w.heap.size <= k_) /\ some k_ ≠ (v7 : Value).ownBlock /\ k_ ≠ gb234) u1 x1_1) /\ Aside0 (Kd.R k46 46 w' w0.heap.size (fun k_ => (P1_ k_ ∨ w.heap.size <= k_) /\ some k_ ≠ (u1 : Value).ownBlock /\ k_ ≠ gb234) v7 x7_2) /\ Aside0 (w'.heap[gb234]? = some (.cells #[.int .i64 x235000_2, .int .i64 x235001_2, .int .i64 x235002_2, .int .i64 x235003_2] 46 (0, 0))) /\ Aside0 (Kept w w' (fun k_ => P1_ k_)) /\ Aside0 (Below w0.heap.size w0 w'))
   case atStart => exact ⟨(([] : List (S46))), (false), (0), (x235000_1), (x235001_1), (x235002_1), (x235003_1), (by first | rfl | (simp; done) | (simp [*]; done)), (by first | rfl | (simp; done) | (simp [*]; done)), H', ⟨Nat.le_refl _⟩, ⟨by (with_reducible repeat (first | apply ze | apply zf | apply zg)); exact zq HO_1.out (fun _ hk => ⟨hk.1, ⟨(by simp [Value.ownBlock]), hk.2⟩⟩)⟩, ⟨by first | exact Kd.R_nil _ _ _ _ _ | exact Kd.N_nil _ _ _ _ _ | exact Kd.V_nil _ _ _ _ _ | exact Kd.Q_nil _ _ _ _ _ | exact Kd.S_nil _ _ _ _ _⟩, ⟨by (with_reducible repeat (first | refine zk ?_ _ | refine zl ?_ | refine zm ?_ _)); exact BK234.out⟩, ⟨by repeat (first | (with_reducible first | exact HK.out | apply Kept.alloc | apply Kept.drewN | apply Kept.drew | refine Kept.setCell ?_ (.inr GW234.out) _) | exact HK.out)⟩, ⟨by repeat (first | (with_reducible first | exact HB.out | apply zh | apply zi | apply zj | refine zn ?_ GE234.out) | exact HB.out)⟩⟩
   case round =>
    clear H'
    try clear p2; try clear c4; try clear p2
    obtain ⟨x7_2, x8_2, x9_2, x235000_2, x235001_2, x235002_2, x235003_2, rfl, rfl, HA, HK2, HO_1, HO_7, BK234, HK, HB⟩ := hrel
    cases gk with
    | zero => exact absurd HA.out (by simp [leatref11_merge.l1])
    | succ k2 =>
     have H := HA.out
     clear HA
     simp only [leatref11_merge.l1] at H
     by_cases c5 : x9_2 < (x1_1.length : Int)
     ·rw [if_pos c5] at H
      have c5b0 : decide (x9_2 < (x1_1.length : Int)) = true := decide_eq_true c5
      clear c5
      by_cases c6 : 0 <= x9_2
      ·rw [if_pos c6] at H
       have c6b0 : decide (0 <= x9_2) = true := decide_eq_true c6
       clear c6
       by_cases c7 : ((rd_T46 x1_1 x9_2).f0) = x235000_2
       ·rw [if_pos c7] at H
        have c7b0 : (((rd_T46 x1_1 x9_2).f0) == x235000_2) = true := beq_iff_eq.mpr c7
        have c7b1 : (((rd_T46 x1_1 x9_2).f0) != x235000_2) = false := bne_eq_false_iff_eq.mpr c7
        clear c7
        replace H := Option.bind_eq_some_iff.mp H
        obtain ⟨t243, A80, H⟩ := H
        replace H : (if t243 = true then ((leatref10_Merge.f k2 a0 x235003_2 ((rd_T46 x1_1 x9_2).f2)).bind fun t247 => (leatref11_merge.l1 k2 a0 x1_1 x7_2 true (wrap64 (x9_2 + 1)) x235000_2 (mn x235001_2 ((rd_T46 x1_1 x9_2).f1.f0)) (mx x235002_2 ((rd_T46 x1_1 x9_2).f1.f1)) t247)) else (if x7_2.length < 4398046511104 then (leatref11_merge.l1 k2 a0 x1_1 (x7_2 ++ [(⟨(rd_T46 x1_1 x9_2).f0, (⟨(rd_T46 x1_1 x9_2).f1.f0, (rd_T46 x1_1 x9_2).f1.f1⟩ : S31), (rd_T46 x1_1 x9_2).f2⟩ : S46)]) x8_2 (wrap64 (x9_2 + 1)) x235000_2 x235001_2 x235002_2 x235003_2) else (none))) = some r := H
        have A8 := zd A80
        clear A80
        by_cases c9 : t243 = true
        ·subst c9
         have H1 : ((leatref10_Merge.f k2 a0 x235003_2 ((rd_T46 x1_1 x9_2).f2)).bind fun t247 => (leatref11_merge.l1 k2 a0 x1_1 x7_2 true (wrap64 (x9_2 + 1)) x235000_2 (mn x235001_2 ((rd_T46 x1_1 x9_2).f1.f0)) (mx x235002_2 ((rd_T46 x1_1 x9_2).f1.f1)) t247)) = some r := by rw [if_pos rfl] at H; exact H
         clear H
         have H := H1
         clear H1
         obtain ⟨ji10, hji10⟩ : ∃ j_ : Int, (mn x235001_2 ((rd_T46 x1_1 x9_2).f1.f0)) = j_ := ⟨_, rfl⟩
         replace H : ((leatref10_Merge.f k2 a0 x235003_2 ((rd_T46 x1_1 x9_2).f2)).bind fun t247 => (leatref11_merge.l1 k2 a0 x1_1 x7_2 true (wrap64 (x9_2 + 1)) x235000_2 ji10 (mx x235002_2 ((rd_T46 x1_1 x9_2).f1.f1)) t247)) = some r := by first | (rw [hji10] at H; exact H) | (simp only [hji10] at H ⊢; exact H)
         (try rw [hji10] at A8)
         have hji10_ : (if ((rd_T46 x1_1 x9_2).f1.f0) < x235001_2 then ((rd_T46 x1_1 x9_2).f1.f0) else x235001_2) = ji10 := hji10
         obtain ⟨ji11, hji11⟩ : ∃ j_ : Int, (mx x235002_2 ((rd_T46 x1_1 x9_2).f1.f1)) = j_ := ⟨_, rfl⟩
         replace H : ((leatref10_Merge.f k2 a0 x235003_2 ((rd_T46 x1_1 x9_2).f2)).bind fun t247 => (leatref11_merge.l1 k2 a0 x1_1 x7_2 true (wrap64 (x9_2 + 1)) x235000_2 ji10 ji11 t247)) = some r := by first | (rw [hji11] at H; exact H) | (simp only [hji11] at H ⊢; exact H)
         (try rw [hji11] at A8)
         have hji11_ : (if x235002_2 < ((rd_T46 x1_1 x9_2).f1.f1) then ((rd_T46 x1_1 x9_2).f1.f1) else x235002_2) = ji11 := hji11
         replace H := Option.bind_eq_some_iff.mp H
         obtain ⟨t247, A120, H⟩ := H
         replace H : (leatref11_merge.l1 k2 a0 x1_1 x7_2 true (wrap64 (x9_2 + 1)) x235000_2 ji10 ji11 t247) = some r := H
         have A12 := zd A120
         clear A120
         have H' := zd H
         clear H
         obtain ⟨Ao13, co13, eo13⟩ := Kd.R_slice HO_1.out
         subst eo13
         try go_wp2
         have n0_ := zd (zg HO_1.out)
         have n1_ := zd (zg HO_7.out)
         have n2_ := zd (zl BK234.out)
         have n3_ := zd (Kept.drew HK.out)
         have n4_ := zd (zj HB.out)
         clear HO_1
         clear HO_7
         clear BK234
         clear HK
         clear HB
         have HO_1 := n0_
         have HO_7 := n1_
         have BK234 := n2_
         have HK := n3_
         have HB := n4_
         clear n0_ n1_ n2_ n3_ n4_
         have p241 : 0 <= (x9_2 : Int) := of_decide_eq_true (by first | (with_reducible assumption) | assumption)
         have q241 : x9_2 < (x1_1.length : Int) := of_decide_eq_true (by first | (with_reducible assumption) | assumption)
         obtain ⟨ad241, e241, hx241_0, hx241_1, hx241_2, hx241_3⟩ := at_T46 (Kd.R_reads' HO_1.out).2.2 x9_2 p241 q241
         cases e241
         replace p241 := eq_true p241
         replace q241 := eq_true q241
         have p242 : 0 <= (x9_2 : Int) := of_decide_eq_true (by first | (with_reducible assumption) | assumption)
         have q242 : x9_2 < (x1_1.length : Int) := of_decide_eq_true (by first | (with_reducible assumption) | assumption)
         obtain ⟨ad242, e242, hx242_0, hx242_1, hx242_2, hx242_3⟩ := at_T46 (Kd.R_reads' HO_1.out).2.2 x9_2 p242 q242
         obtain rfl : ad241 = ad242 := (by injection e242)
         replace p242 := eq_true p242
         replace q242 := eq_true q242
         refine start_ (n := 18) (S := fun w' => w'.cell? ⟨gb234, 0, none⟩ = some (.int .i64 x235000_2) /\ w'.cell? ⟨gb234, 1, none⟩ = some (.int .i64 x235001_2) /\ w'.cell? ⟨gb234, 2, none⟩ = some (.int .i64 x235002_2) /\ w'.cell? ⟨gb234, 3, none⟩ = some (.int .i64 x235003_2) /\ w'.cell? (ad241.add ((x9_2).toNat * 4)) = some (.int .i64 ((rd_T46 x1_1 x9_2).f0)) /\ w'.cell? ⟨(ad241.add ((x9_2).toNat * 4)).block, (ad241.add ((x9_2).toNat * 4)).off + 1, none⟩ = some (.int .i64 ((rd_T46 x1_1 x9_2).f1.f0)) /\ w'.cell? ⟨(ad241.add ((x9_2).toNat * 4)).block, (ad241.add ((x9_2).toNat * 4)).off + 2, none⟩ = some (.int .i64 ((rd_T46 x1_1 x9_2).f1.f1)) /\ w'.cell? ⟨(ad241.add ((x9_2).toNat * 4)).block, (ad241.add ((x9_2).toNat * 4)).off + 3, none⟩ = some (.int .i64 ((rd_T46 x1_1 x9_2).f2)) /\ w'.cell? (ad241.add ((x9_2).toNat * 4)) = some (.int .i64 ((rd_T46 x1_1 x9_2).f0)) /\ w'.cell? ⟨(ad241.add ((x9_2).toNat * 4)).block, (ad241.add ((x9_2).toNat * 4)).off + 1, none⟩ = some (.int .i64 ((rd_T46 x1_1 x9_2).f1.f0)) /\ w'.cell? ⟨(ad241.add ((x9_2).toNat * 4)).block, (ad241.add ((x9_2).toNat * 4)).off + 2, none⟩ = some (.int .i64 ((rd_T46 x1_1 x9_2).f1.f1)) /\ w'.cell? ⟨(ad241.add ((x9_2).toNat * 4)).block, (ad241.add ((x9_2).toNat * 4)).off + 3, none⟩ = some (.int .i64 ((rd_T46 x1_1 x9_2).f2))) (ds := []) #[f_, f_, f_, f_, f_, f_, f_, f_, f_, f_, f_, f_, f_, f_, f_, f_, f_, f_] (by kernel_rfl) rfl rfl ⟨(zo BK234.out 0).trans rfl, (zo BK234.out 1).trans rfl, (zo BK234.out 2).trans rfl, (zo BK234.out 3).trans rfl, hx241_0, hx241_1, hx241_2, hx241_3, hx242_0, hx242_1, hx242_2, hx242_3⟩ (fun hHeld => ?_); refine with_tabW leatref11_merge.tab6 leatref11_merge.bits6 (fun HT_ HW_ => ?_)
         generalize wr.drew = w14 at HO_1 HO_7 BK234 HK HB hx241_0 hx241_1 hx241_2 hx241_3 hx242_0 hx242_1 hx242_2 hx242_3 hHeld ⊢
         refine pure_ (i := 0) (N := some 16) (v := ?_) (a' := ?_) #[t_, f_, f_, f_, f_, f_, f_, f_, f_, f_, f_, f_, f_, f_, f_, f_, f_, f_] rfl rfl (any_of HT_.out (by kernel_rfl)) (fun _ _ _ h => h) (Or.inl ⟨by rfl, ?_⟩) ?_ ?_
         rotate_left
         ·intro w'
          go_simp
          with_reducible rfl
         rotate_left
         ·simp only [Act.put, za, zb, zc, i64_w, i32_w]
          rfl
         refine pure_ (i := 1) (N := some 17) (v := ?_) (a' := ?_) #[t_, t_, f_, f_, f_, f_, f_, f_, f_, f_, f_, f_, f_, f_, f_, f_, f_, f_] rfl rfl (any_of HT_.out (by kernel_rfl)) (fun _ _ _ h => h) (Or.inl ⟨by rfl, ?_⟩) ?_ ?_
         rotate_left
         ·intro w'
          go_simp
          with_reducible rfl
         rotate_left
         ·simp only [Act.put, za, zb, zc, i64_w, i32_w]
          rfl
         refine pure_ (i := 2) (N := some 18) (v := ?_) (a' := ?_) #[t_, t_, t_, f_, f_, f_, f_, f_, f_, f_, f_, f_, f_, f_, f_, f_, f_, f_] rfl rfl (any_of HT_.out (by kernel_rfl)) (fun _ _ _ h => h) (Or.inl ⟨by rfl, ?_⟩) ?_ ?_
         rotate_left
         ·intro w'
          go_simp
          with_reducible rfl
         rotate_left
         ·simp only [Act.put, za, zb, zc, i64_w, i32_w]
          rfl
         refine pure_ (i := 3) (N := some 19) (v := ?_) (a' := ?_) #[t_, t_, t_, t_, f_, f_, f_, f_, f_, f_, f_, f_, f_, f_, f_, f_, f_, f_] rfl rfl (any_of HT_.out (by kernel_rfl)) (fun _ _ _ h => h) (Or.inl ⟨by rfl, ?_⟩) ?_ ?_
         rotate_left
         ·intro w'
          go_simp
          with_reducible rfl
         rotate_left
         ·simp only [Act.put, za, zb, zc, i64_w, i32_w]
          rfl
         refine pure_ (i := 5) (N := some 21) (v := ?_) (a' := ?_) #[t_, t_, t_, t_, f_, t_, f_, f_, f_, f_, f_, f_, f_, f_, f_, f_, f_, f_] rfl rfl (any_of HT_.out (by kernel_rfl)) (fun _ _ _ h => h) (Or.inl ⟨by rfl, ?_⟩) ?_ ?_
         rotate_left
         ·intro w'
          go_simp
          with_reducible rfl
         rotate_left
         ·simp only [Act.put, za, zb, zc, i64_w, i32_w]
          rfl
         refine take_ (i := 4) (N := some 20) (v := ?_) (a' := ?_) #[t_, t_, t_, t_, t_, t_, f_, f_, f_, f_, f_, f_, f_, f_, f_, f_, f_, f_] rfl rfl (take_ofW HT_.out HW_.out (by kernel_rfl)) (fun _ _ _ h => h) (Or.inl ⟨by rfl, ?_⟩) hHeld ?_ ?_
         rotate_left
         ·rintro w' ⟨s0, s1, s2, s3, s4, s5, s6, s7, s8, s9, s10, s11⟩
          go_simp
          with_reducible rfl
         rotate_left
         ·simp only [Act.put, za, zb, zc, i64_w, i32_w]
          rfl
         refine take_ (i := 6) (N := some 22) (v := ?_) (a' := ?_) #[t_, t_, t_, t_, t_, t_, t_, f_, f_, f_, f_, f_, f_, f_, f_, f_, f_, f_] rfl rfl (take_ofW HT_.out HW_.out (by kernel_rfl)) (fun _ _ _ h => h) (Or.inl ⟨by rfl, ?_⟩) hHeld ?_ ?_
         rotate_left
         ·rintro w' ⟨s0, s1, s2, s3, s4, s5, s6, s7, s8, s9, s10, s11⟩
          go_simp
          with_reducible rfl
         rotate_left
         ·simp only [Act.put, za, zb, zc, i64_w, i32_w]
          rfl
         refine pure_ (i := 7) (N := some 23) (v := ?_) (a' := ?_) #[t_, t_, t_, t_, t_, t_, t_, t_, f_, f_, f_, f_, f_, f_, f_, f_, f_, f_] rfl rfl (any_of HT_.out (by kernel_rfl)) (fun _ _ _ h => h) (Or.inl ⟨by rfl, ?_⟩) ?_ ?_
         rotate_left
         ·intro w'
          go_simp
          with_reducible rfl
         rotate_left
         ·simp only [Act.put, za, zb, zc, i64_w, i32_w]
          rfl
         refine pure_ (i := 8) (N := some 24) (v := ?_) (a' := ?_) #[t_, t_, t_, t_, t_, t_, t_, t_, t_, f_, f_, f_, f_, f_, f_, f_, f_, f_] rfl rfl (any_of HT_.out (by kernel_rfl)) (fun _ _ _ h => h) (Or.inl ⟨by rfl, ?_⟩) ?_ ?_
         rotate_left
         ·intro w'
          go_simp
          with_reducible rfl
         rotate_left
         ·simp only [Act.put, za, zb, zc, i64_w, i32_w]
          rfl
         refine pure_ (i := 9) (N := some 25) (v := ?_) (a' := ?_) #[t_, t_, t_, t_, t_, t_, t_, t_, t_, t_, f_, f_, f_, f_, f_, f_, f_, f_] rfl rfl (any_of HT_.out (by kernel_rfl)) (fun _ _ _ h => h) (Or.inl ⟨by rfl, ?_⟩) ?_ ?_
         rotate_left
         ·intro w'
          go_simp
          with_reducible rfl
         rotate_left
         ·simp only [Act.put, za, zb, zc, i64_w, i32_w]
          rfl
         refine pure_ (i := 10) (N := some 26) (v := ?_) (a' := ?_) #[t_, t_, t_, t_, t_, t_, t_, t_, t_, t_, t_, f_, f_, f_, f_, f_, f_, f_] rfl rfl (any_of HT_.out (by kernel_rfl)) (fun _ _ _ h => h) (Or.inl ⟨by rfl, ?_⟩) ?_ ?_
         rotate_left
         ·intro w'
          go_simp
          with_reducible rfl
         rotate_left
         ·simp only [Act.put, za, zb, zc, i64_w, i32_w]
          rfl
         refine pure_ (i := 11) (N := some 27) (v := ?_) (a' := ?_) #[t_, t_, t_, t_, t_, t_, t_, t_, t_, t_, t_, t_, f_, f_, f_, f_, f_, f_] rfl rfl (any_of HT_.out (by kernel_rfl)) (fun _ _ _ h => h) (Or.inl ⟨by rfl, ?_⟩) ?_ ?_
         rotate_left
         ·intro w'
          go_simp
          with_reducible rfl
         rotate_left
         ·simp only [Act.put, za, zb, zc, i64_w, i32_w]
          rfl
         refine pure_ (i := 12) (N := some 28) (v := ?_) (a' := ?_) #[t_, t_, t_, t_, t_, t_, t_, t_, t_, t_, t_, t_, t_, f_, f_, f_, f_, f_] rfl rfl (any_of HT_.out (by kernel_rfl)) (fun _ _ _ h => h) (Or.inl ⟨by rfl, ?_⟩) ?_ ?_
         rotate_left
         ·intro w'
          go_simp
          with_reducible rfl
         rotate_left
         ·simp only [Act.put, za, zb, zc, i64_w, i32_w]
          rfl
         refine pure_ (i := 14) (N := some 30) (v := ?_) (a' := ?_) #[t_, t_, t_, t_, t_, t_, t_, t_, t_, t_, t_, t_, t_, f_, t_, f_, f_, f_] rfl rfl (any_of HT_.out (by kernel_rfl)) (fun _ _ _ h => h) (Or.inl ⟨by rfl, ?_⟩) ?_ ?_
         rotate_left
         ·intro w'
          go_simp
          with_reducible rfl
         rotate_left
         ·simp only [Act.put, za, zb, zc, i64_w, i32_w]
          rfl
         refine take_ (i := 13) (N := some 29) (v := ?_) (a' := ?_) #[t_, t_, t_, t_, t_, t_, t_, t_, t_, t_, t_, t_, t_, t_, t_, f_, f_, f_] rfl rfl (take_ofW HT_.out HW_.out (by kernel_rfl)) (fun _ _ _ h => h) (Or.inl ⟨by rfl, ?_⟩) hHeld ?_ ?_
         rotate_left
         ·rintro w' ⟨s0, s1, s2, s3, s4, s5, s6, s7, s8, s9, s10, s11⟩
          go_simp
          with_reducible rfl
         rotate_left
         ·simp only [Act.put, za, zb, zc, i64_w, i32_w]
          rfl
         refine take_ (i := 15) (N := some 31) (v := ?_) (a' := ?_) #[t_, t_, t_, t_, t_, t_, t_, t_, t_, t_, t_, t_, t_, t_, t_, t_, f_, f_] rfl rfl (take_ofW HT_.out HW_.out (by kernel_rfl)) (fun _ _ _ h => h) (Or.inl ⟨by rfl, ?_⟩) hHeld ?_ ?_
         rotate_left
         ·rintro w' ⟨s0, s1, s2, s3, s4, s5, s6, s7, s8, s9, s10, s11⟩
          go_simp
          with_reducible rfl
         rotate_left
         ·simp only [Act.put, za, zb, zc, i64_w, i32_w]
          rfl
         refine one_ (i := 16) (N := some 32) #[t_, t_, t_, t_, t_, t_, t_, t_, t_, t_, t_, t_, t_, t_, t_, t_, t_, f_] rfl rfl (one_of HT_.out (by kernel_rfl)) (by decide) (fun K hK => ?_)
         refine goes_ Try.func61 (by kernel_rfl) rfl #[.agg #[.int .i64 ((rd_T46 x1_1 x9_2).f1.f0), .int .i64 ((rd_T46 x1_1 x9_2).f1.f1)], .agg #[.int .i64 x235001_2, .int .i64 x235002_2]] (by rfl) rfl rfl (by (try simp only [List.map_toArray, List.map_cons, List.map_nil]); first | done | rfl | (simp only [List.length_drop, List.length_take]; rfl)) ?_
         with_reducible refine (leatref11_overlap.calls ((rd_T46 x1_1 x9_2).f1.f0) ((rd_T46 x1_1 x9_2).f1.f1) x235001_2 x235002_2 true _ A8.out).mono ?_
         rintro e w15 ⟨rfl, hb⟩
         have HS4_ := (hb.cell (World.block_lt_of_cell? _ _ (hHeld.2.2.2.2.1))).trans (hHeld.2.2.2.2.1)
         have HS5_ := (hb.cell (World.block_lt_of_cell? _ _ (hHeld.2.2.2.2.2.1))).trans (hHeld.2.2.2.2.2.1)
         have HS6_ := (hb.cell (World.block_lt_of_cell? _ _ (hHeld.2.2.2.2.2.2.1))).trans (hHeld.2.2.2.2.2.2.1)
         have HS7_ := (hb.cell (World.block_lt_of_cell? _ _ (hHeld.2.2.2.2.2.2.2.1))).trans (hHeld.2.2.2.2.2.2.2.1)
         have HS8_ := (hb.cell (World.block_lt_of_cell? _ _ (hHeld.2.2.2.2.2.2.2.2.1))).trans (hHeld.2.2.2.2.2.2.2.2.1)
         have HS9_ := (hb.cell (World.block_lt_of_cell? _ _ (hHeld.2.2.2.2.2.2.2.2.2.1))).trans (hHeld.2.2.2.2.2.2.2.2.2.1)
         have HS10_ := (hb.cell (World.block_lt_of_cell? _ _ (hHeld.2.2.2.2.2.2.2.2.2.2.1))).trans (hHeld.2.2.2.2.2.2.2.2.2.2.1)
         have HS11_ := (hb.cell (World.block_lt_of_cell? _ _ (hHeld.2.2.2.2.2.2.2.2.2.2.2))).trans (hHeld.2.2.2.2.2.2.2.2.2.2.2)
         refine ⟨_, rfl, ?_⟩
         have n0_ := zd (zr (by (with_reducible repeat (first | apply ze | apply zf | apply zg)); exact HO_1.out) hb)
         have n1_ := zd (zr (by (with_reducible repeat (first | apply ze | apply zf | apply zg)); exact HO_7.out) hb)
         have n2_ := zd (zp (g := gb234) (o := .cells #[.int .i64 x235000_2, .int .i64 x235001_2, .int .i64 x235002_2, .int .i64 x235003_2] 46 (0, 0)) (by (with_reducible repeat (first | refine zk ?_ _ | refine zl ?_ | refine zm ?_ _)); exact BK234.out) hb)
         have n3_ := zd (Kept.below (S := (fun k_ => P1_ k_)) (by repeat (first | (with_reducible first | exact HK.out | apply Kept.alloc | apply Kept.drewN | apply Kept.drew | refine Kept.setCell ?_ (.inr GW234.out) _) | exact HK.out)) hb)
         have n4_ := zd (zs (by repeat (first | (with_reducible first | exact HB.out | apply zh | apply zi | apply zj | refine zn ?_ GE234.out) | exact HB.out)) hb)
         clear HO_1
         clear HO_7
         clear BK234
         clear HK
         clear HB
         have HO_1 := n0_
         have HO_7 := n1_
         have BK234 := n2_
         have HK := n3_
         have HB := n4_
         clear n0_ n1_ n2_ n3_ n4_
         (try clear hb)
         (try clear hb2)
         (try clear hk)
         (try clear hi)
         refine hK.out _ _ ⟨(zo BK234.out 0).trans rfl, (zo BK234.out 1).trans rfl, (zo BK234.out 2).trans rfl, (zo BK234.out 3).trans rfl, HS4_, HS5_, HS6_, HS7_, HS8_, HS9_, HS10_, HS11_⟩ (fun hHeld => ?_)
         clear hK K
         refine norm_ (a' := ?_) ?_ ?_
         rotate_left
         ·show Act.put _ (some 32) _ = _
          simp only [Act.put, za, zb, zc, i64_w, i32_w]
          rfl
         refine pure_ (i := 17) (N := some 33) (v := ?_) (a' := ?_) #[t_, t_, t_, t_, t_, t_, t_, t_, t_, t_, t_, t_, t_, t_, t_, t_, t_, t_] rfl rfl (any_of HT_.out (by kernel_rfl)) (fun _ _ _ h => h) (Or.inl ⟨by rfl, ?_⟩) ?_ ?_
         rotate_left
         ·intro w'
          go_simp
          with_reducible rfl
         rotate_left
         ·simp only [Act.put, za, zb, zc, i64_w, i32_w]
          rfl
         refine done_ (done_of HT_.out (by kernel_rfl)) ?_
         try go_wp2
         have n0_ := zd (zg HO_1.out)
         have n1_ := zd (zg HO_7.out)
         have n2_ := zd (zl BK234.out)
         have n3_ := zd (Kept.drew HK.out)
         have n4_ := zd (zj HB.out)
         clear HO_1
         clear HO_7
         clear BK234
         clear HK
         clear HB
         have HO_1 := n0_
         have HO_7 := n1_
         have BK234 := n2_
         have HK := n3_
         have HB := n4_
         clear n0_ n1_ n2_ n3_ n4_
         have p244 : 0 <= (x9_2 : Int) := of_decide_eq_true (by first | (with_reducible assumption) | assumption)
         have q244 : x9_2 < (x1_1.length : Int) := of_decide_eq_true (by first | (with_reducible assumption) | assumption)
         obtain ⟨ad244, e244, hx244_0, hx244_1, hx244_2, hx244_3⟩ := at_T46 (Kd.R_reads' HO_1.out).2.2 x9_2 p244 q244
         obtain rfl : ad241 = ad244 := (by injection e244)
         replace p244 := eq_true p244
         replace q244 := eq_true q244
         have p245 : 0 <= (x9_2 : Int) := of_decide_eq_true (by first | (with_reducible assumption) | assumption)
         have q245 : x9_2 < (x1_1.length : Int) := of_decide_eq_true (by first | (with_reducible assumption) | assumption)
         obtain ⟨ad245, e245, hx245_0, hx245_1, hx245_2, hx245_3⟩ := at_T46 (Kd.R_reads' HO_1.out).2.2 x9_2 p245 q245
         obtain rfl : ad241 = ad245 := (by injection e245)
         replace p245 := eq_true p245
         replace q245 := eq_true q245
         have p246 : 0 <= (x9_2 : Int) := of_decide_eq_true (by first | (with_reducible assumption) | assumption)
         have q246 : x9_2 < (x1_1.length : Int) := of_decide_eq_true (by first | (with_reducible assumption) | assumption)
         obtain ⟨ad246, e246, hx246_0, hx246_1, hx246_2, hx246_3⟩ := at_T46 (Kd.R_reads' HO_1.out).2.2 x9_2 p246 q246
         obtain rfl : ad241 = ad246 := (by injection e246)
         replace p246 := eq_true p246
         replace q246 := eq_true q246
         refine start_ (n := 34) (S := fun w' => w'.cell? ⟨gb234, 0, none⟩ = some (.int .i64 x235000_2) /\ w'.cell? ⟨gb234, 1, none⟩ = some (.int .i64 x235001_2) /\ w'.cell? ⟨gb234, 2, none⟩ = some (.int .i64 x235002_2) /\ w'.cell? ⟨gb234, 3, none⟩ = some (.int .i64 x235003_2) /\ w'.cell? (ad241.add ((x9_2).toNat * 4)) = some (.int .i64 ((rd_T46 x1_1 x9_2).f0)) /\ w'.cell? ⟨(ad241.add ((x9_2).toNat * 4)).block, (ad241.add ((x9_2).toNat * 4)).off + 1, none⟩ = some (.int .i64 ((rd_T46 x1_1 x9_2).f1.f0)) /\ w'.cell? ⟨(ad241.add ((x9_2).toNat * 4)).block, (ad241.add ((x9_2).toNat * 4)).off + 2, none⟩ = some (.int .i64 ((rd_T46 x1_1 x9_2).f1.f1)) /\ w'.cell? ⟨(ad241.add ((x9_2).toNat * 4)).block, (ad241.add ((x9_2).toNat * 4)).off + 3, none⟩ = some (.int .i64 ((rd_T46 x1_1 x9_2).f2)) /\ w'.cell? (ad241.add ((x9_2).toNat * 4)) = some (.int .i64 ((rd_T46 x1_1 x9_2).f0)) /\ w'.cell? ⟨(ad241.add ((x9_2).toNat * 4)).block, (ad241.add ((x9_2).toNat * 4)).off + 1, none⟩ = some (.int .i64 ((rd_T46 x1_1 x9_2).f1.f0)) /\ w'.cell? ⟨(ad241.add ((x9_2).toNat * 4)).block, (ad241.add ((x9_2).toNat * 4)).off + 2, none⟩ = some (.int .i64 ((rd_T46 x1_1 x9_2).f1.f1)) /\ w'.cell? ⟨(ad241.add ((x9_2).toNat * 4)).block, (ad241.add ((x9_2).toNat * 4)).off + 3, none⟩ = some (.int .i64 ((rd_T46 x1_1 x9_2).f2)) /\ w'.cell? (ad241.add ((x9_2).toNat * 4)) = some (.int .i64 ((rd_T46 x1_1 x9_2).f0)) /\ w'.cell? ⟨(ad241.add ((x9_2).toNat * 4)).block, (ad241.add ((x9_2).toNat * 4)).off + 1, none⟩ = some (.int .i64 ((rd_T46 x1_1 x9_2).f1.f0)) /\ w'.cell? ⟨(ad241.add ((x9_2).toNat * 4)).block, (ad241.add ((x9_2).toNat * 4)).off + 2, none⟩ = some (.int .i64 ((rd_T46 x1_1 x9_2).f1.f1)) /\ w'.cell? ⟨(ad241.add ((x9_2).toNat * 4)).block, (ad241.add ((x9_2).toNat * 4)).off + 3, none⟩ = some (.int .i64 ((rd_T46 x1_1 x9_2).f2))) (ds := [33]) #[f_, f_, f_, f_, f_, f_, f_, f_, f_, f_, f_, f_, f_, f_, f_, f_, f_, f_, f_, f_, f_, f_, f_, f_, f_, f_, f_, f_, f_, f_, f_, f_, f_, f_] (by kernel_rfl) rfl rfl ⟨(zo BK234.out 0).trans rfl, (zo BK234.out 1).trans rfl, (zo BK234.out 2).trans rfl, (zo BK234.out 3).trans rfl, hx244_0, hx244_1, hx244_2, hx244_3, hx245_0, hx245_1, hx245_2, hx245_3, hx246_0, hx246_1, hx246_2, hx246_3⟩ (fun hHeld => ?_); refine with_tabW leatref11_merge.tab7 leatref11_merge.bits7 (fun HT_ HW_ => ?_)
         generalize w15.drew = w16 at HO_1 HO_7 BK234 HK HB hx244_0 hx244_1 hx244_2 hx244_3 hx245_0 hx245_1 hx245_2 hx245_3 hx246_0 hx246_1 hx246_2 hx246_3 hHeld ⊢
         refine pure_ (i := 0) (N := some 34) (v := ?_) (a' := ?_) #[t_, f_, f_, f_, f_, f_, f_, f_, f_, f_, f_, f_, f_, f_, f_, f_, f_, f_, f_, f_, f_, f_, f_, f_, f_, f_, f_, f_, f_, f_, f_, f_, f_, f_] rfl rfl (any_of HT_.out (by kernel_rfl)) (fun _ _ _ h => h) (Or.inl ⟨by rfl, ?_⟩) ?_ ?_
         rotate_left
         ·intro w'
          go_simp
          with_reducible rfl
         rotate_left
         ·simp only [Act.put, za, zb, zc, i64_w, i32_w]
          rfl
         refine pure_ (i := 2) (N := some 36) (v := ?_) (a' := ?_) #[t_, f_, t_, f_, f_, f_, f_, f_, f_, f_, f_, f_, f_, f_, f_, f_, f_, f_, f_, f_, f_, f_, f_, f_, f_, f_, f_, f_, f_, f_, f_, f_, f_, f_] rfl rfl (any_of HT_.out (by kernel_rfl)) (fun _ _ _ h => h) (Or.inl ⟨by rfl, ?_⟩) ?_ ?_
         rotate_left
         ·intro w'
          go_simp
          with_reducible rfl
         rotate_left
         ·simp only [Act.put, za, zb, zc, i64_w, i32_w]
          rfl
         refine pure_ (i := 3) (N := some 37) (v := ?_) (a' := ?_) #[t_, f_, t_, t_, f_, f_, f_, f_, f_, f_, f_, f_, f_, f_, f_, f_, f_, f_, f_, f_, f_, f_, f_, f_, f_, f_, f_, f_, f_, f_, f_, f_, f_, f_] rfl rfl (any_of HT_.out (by kernel_rfl)) (fun _ _ _ h => h) (Or.inl ⟨by rfl, ?_⟩) ?_ ?_
         rotate_left
         ·intro w'
          go_simp
          with_reducible rfl
         rotate_left
         ·simp only [Act.put, za, zb, zc, i64_w, i32_w]
          rfl
         refine pure_ (i := 5) (N := some 39) (v := ?_) (a' := ?_) #[t_, f_, t_, t_, f_, t_, f_, f_, f_, f_, f_, f_, f_, f_, f_, f_, f_, f_, f_, f_, f_, f_, f_, f_, f_, f_, f_, f_, f_, f_, f_, f_, f_, f_] rfl rfl (any_of HT_.out (by kernel_rfl)) (fun _ _ _ h => h) (Or.inl ⟨by rfl, ?_⟩) ?_ ?_
         rotate_left
         ·intro w'
          go_simp
          with_reducible rfl
         rotate_left
         ·simp only [Act.put, za, zb, zc, i64_w, i32_w]
          rfl
         refine pure_ (i := 6) (N := some 40) (v := ?_) (a' := ?_) #[t_, f_, t_, t_, f_, t_, t_, f_, f_, f_, f_, f_, f_, f_, f_, f_, f_, f_, f_, f_, f_, f_, f_, f_, f_, f_, f_, f_, f_, f_, f_, f_, f_, f_] rfl rfl (any_of HT_.out (by kernel_rfl)) (fun _ _ _ h => h) (Or.inl ⟨by rfl, ?_⟩) ?_ ?_
         rotate_left
         ·intro w'
          go_simp
          with_reducible rfl
         rotate_left
         ·simp only [Act.put, za, zb, zc, i64_w, i32_w]
          rfl
         refine pure_ (i := 7) (N := some 41) (v := ?_) (a' := ?_) #[t_, f_, t_, t_, f_, t_, t_, t_, f_, f_, f_, f_, f_, f_, f_, f_, f_, f_, f_, f_, f_, f_, f_, f_, f_, f_, f_, f_, f_, f_, f_, f_, f_, f_] rfl rfl (any_of HT_.out (by kernel_rfl)) (fun _ _ _ h => h) (Or.inl ⟨by rfl, ?_⟩) ?_ ?_
         rotate_left
         ·intro w'
          go_simp
          with_reducible rfl
         rotate_left
         ·simp only [Act.put, za, zb, zc, i64_w, i32_w]
          rfl
         refine pure_ (i := 8) (N := some 42) (v := ?_) (a' := ?_) #[t_, f_, t_, t_, f_, t_, t_, t_, t_, f_, f_, f_, f_, f_, f_, f_, f_, f_, f_, f_, f_, f_, f_, f_, f_, f_, f_, f_, f_, f_, f_, f_, f_, f_] rfl rfl (any_of HT_.out (by kernel_rfl)) (fun _ _ _ h => h) (Or.inl ⟨by rfl, ?_⟩) ?_ ?_
         rotate_left
         ·intro w'
          go_simp
          with_reducible rfl
         rotate_left
         ·simp only [Act.put, za, zb, zc, i64_w, i32_w]
          rfl
         refine pure_ (i := 9) (N := some 43) (v := ?_) (a' := ?_) #[t_, f_, t_, t_, f_, t_, t_, t_, t_, t_, f_, f_, f_, f_, f_, f_, f_, f_, f_, f_, f_, f_, f_, f_, f_, f_, f_, f_, f_, f_, f_, f_, f_, f_] rfl rfl (any_of HT_.out (by kernel_rfl)) (fun _ _ _ h => h) (Or.inl ⟨by rfl, ?_⟩) ?_ ?_
         rotate_left
         ·intro w'
          go_simp
          with_reducible rfl
         rotate_left
         ·simp only [Act.put, za, zb, zc, i64_w, i32_w]
          rfl
         refine pure_ (i := 12) (N := some 46) (v := ?_) (a' := ?_) #[t_, f_, t_, t_, f_, t_, t_, t_, t_, t_, f_, f_, t_, f_, f_, f_, f_, f_, f_, f_, f_, f_, f_, f_, f_, f_, f_, f_, f_, f_, f_, f_, f_, f_] rfl rfl (any_of HT_.out (by kernel_rfl)) (fun _ _ _ h => h) (Or.inl ⟨by rfl, ?_⟩) ?_ ?_
         rotate_left
         ·intro w'
          go_simp
          with_reducible rfl
         rotate_left
         ·simp only [Act.put, za, zb, zc, i64_w, i32_w]
          rfl
         refine pure_ (i := 13) (N := some 47) (v := ?_) (a' := ?_) #[t_, f_, t_, t_, f_, t_, t_, t_, t_, t_, f_, f_, t_, t_, f_, f_, f_, f_, f_, f_, f_, f_, f_, f_, f_, f_, f_, f_, f_, f_, f_, f_, f_, f_] rfl rfl (any_of HT_.out (by kernel_rfl)) (fun _ _ _ h => h) (Or.inl ⟨by rfl, ?_⟩) ?_ ?_
         rotate_left
         ·intro w'
          go_simp
          with_reducible rfl
         rotate_left
         ·simp only [Act.put, za, zb, zc, i64_w, i32_w]
          rfl
         refine pure_ (i := 15) (N := some 49) (v := ?_) (a' := ?_) #[t_, f_, t_, t_, f_, t_, t_, t_, t_, t_, f_, f_, t_, t_, f_, t_, f_, f_, f_, f_, f_, f_, f_, f_, f_, f_, f_, f_, f_, f_, f_, f_, f_, f_] rfl rfl (any_of HT_.out (by kernel_rfl)) (fun _ _ _ h => h) (Or.inl ⟨by rfl, ?_⟩) ?_ ?_
         rotate_left
         ·intro w'
          go_simp
          with_reducible rfl
         rotate_left
         ·simp only [Act.put, za, zb, zc, i64_w, i32_w]
          rfl
         refine pure_ (i := 16) (N := some 50) (v := ?_) (a' := ?_) #[t_, f_, t_, t_, f_, t_, t_, t_, t_, t_, f_, f_, t_, t_, f_, t_, t_, f_, f_, f_, f_, f_, f_, f_, f_, f_, f_, f_, f_, f_, f_, f_, f_, f_] rfl rfl (any_of HT_.out (by kernel_rfl)) (fun _ _ _ h => h) (Or.inl ⟨by rfl, ?_⟩) ?_ ?_
         rotate_left
         ·intro w'
          go_simp
          with_reducible rfl
         rotate_left
         ·simp only [Act.put, za, zb, zc, i64_w, i32_w]
          rfl
         refine pure_ (i := 17) (N := some 51) (v := ?_) (a' := ?_) #[t_, f_, t_, t_, f_, t_, t_, t_, t_, t_, f_, f_, t_, t_, f_, t_, t_, t_, f_, f_, f_, f_, f_, f_, f_, f_, f_, f_, f_, f_, f_, f_, f_, f_] rfl rfl (any_of HT_.out (by kernel_rfl)) (fun _ _ _ h => h) (Or.inl ⟨by rfl, ?_⟩) ?_ ?_
         rotate_left
         ·intro w'
          go_simp
          with_reducible rfl
         rotate_left
         ·simp only [Act.put, za, zb, zc, i64_w, i32_w]
          rfl
         refine pure_ (i := 18) (N := some 52) (v := ?_) (a' := ?_) #[t_, f_, t_, t_, f_, t_, t_, t_, t_, t_, f_, f_, t_, t_, f_, t_, t_, t_, t_, f_, f_, f_, f_, f_, f_, f_, f_, f_, f_, f_, f_, f_, f_, f_] rfl rfl (any_of HT_.out (by kernel_rfl)) (fun _ _ _ h => h) (Or.inl ⟨by rfl, ?_⟩) ?_ ?_
         rotate_left
         ·intro w'
          go_simp
          with_reducible rfl
         rotate_left
         ·simp only [Act.put, za, zb, zc, i64_w, i32_w]
          rfl
         refine pure_ (i := 19) (N := some 53) (v := ?_) (a' := ?_) #[t_, f_, t_, t_, f_, t_, t_, t_, t_, t_, f_, f_, t_, t_, f_, t_, t_, t_, t_, t_, f_, f_, f_, f_, f_, f_, f_, f_, f_, f_, f_, f_, f_, f_] rfl rfl (any_of HT_.out (by kernel_rfl)) (fun _ _ _ h => h) (Or.inl ⟨by rfl, ?_⟩) ?_ ?_
         rotate_left
         ·intro w'
          go_simp
          with_reducible rfl
         rotate_left
         ·simp only [Act.put, za, zb, zc, i64_w, i32_w]
          rfl
         refine pure_ (i := 23) (N := some 57) (v := ?_) (a' := ?_) #[t_, f_, t_, t_, f_, t_, t_, t_, t_, t_, f_, f_, t_, t_, f_, t_, t_, t_, t_, t_, f_, f_, f_, t_, f_, f_, f_, f_, f_, f_, f_, f_, f_, f_] rfl rfl (any_of HT_.out (by kernel_rfl)) (fun _ _ _ h => h) (Or.inl ⟨by rfl, ?_⟩) ?_ ?_
         rotate_left
         ·intro w'
          go_simp
          with_reducible rfl
         rotate_left
         ·simp only [Act.put, za, zb, zc, i64_w, i32_w]
          rfl
         refine pure_ (i := 24) (N := some 58) (v := ?_) (a' := ?_) #[t_, f_, t_, t_, f_, t_, t_, t_, t_, t_, f_, f_, t_, t_, f_, t_, t_, t_, t_, t_, f_, f_, f_, t_, t_, f_, f_, f_, f_, f_, f_, f_, f_, f_] rfl rfl (any_of HT_.out (by kernel_rfl)) (fun _ _ _ h => h) (Or.inl ⟨by rfl, ?_⟩) ?_ ?_
         rotate_left
         ·intro w'
          go_simp
          with_reducible rfl
         rotate_left
         ·simp only [Act.put, za, zb, zc, i64_w, i32_w]
          rfl
         refine pure_ (i := 26) (N := some 60) (v := ?_) (a' := ?_) #[t_, f_, t_, t_, f_, t_, t_, t_, t_, t_, f_, f_, t_, t_, f_, t_, t_, t_, t_, t_, f_, f_, f_, t_, t_, f_, t_, f_, f_, f_, f_, f_, f_, f_] rfl rfl (any_of HT_.out (by kernel_rfl)) (fun _ _ _ h => h) (Or.inl ⟨by rfl, ?_⟩) ?_ ?_
         rotate_left
         ·intro w'
          go_simp
          with_reducible rfl
         rotate_left
         ·simp only [Act.put, za, zb, zc, i64_w, i32_w]
          rfl
         refine pure_ (i := 27) (N := some 61) (v := ?_) (a' := ?_) #[t_, f_, t_, t_, f_, t_, t_, t_, t_, t_, f_, f_, t_, t_, f_, t_, t_, t_, t_, t_, f_, f_, f_, t_, t_, f_, t_, t_, f_, f_, f_, f_, f_, f_] rfl rfl (any_of HT_.out (by kernel_rfl)) (fun _ _ _ h => h) (Or.inl ⟨by rfl, ?_⟩) ?_ ?_
         rotate_left
         ·intro w'
          go_simp
          with_reducible rfl
         rotate_left
         ·simp only [Act.put, za, zb, zc, i64_w, i32_w]
          rfl
         refine pure_ (i := 28) (N := some 62) (v := ?_) (a' := ?_) #[t_, f_, t_, t_, f_, t_, t_, t_, t_, t_, f_, f_, t_, t_, f_, t_, t_, t_, t_, t_, f_, f_, f_, t_, t_, f_, t_, t_, t_, f_, f_, f_, f_, f_] rfl rfl (any_of HT_.out (by kernel_rfl)) (fun _ _ _ h => h) (Or.inl ⟨by rfl, ?_⟩) ?_ ?_
         rotate_left
         ·intro w'
          go_simp
          with_reducible rfl
         rotate_left
         ·simp only [Act.put, za, zb, zc, i64_w, i32_w]
          rfl
         refine pure_ (i := 29) (N := some 63) (v := ?_) (a' := ?_) #[t_, f_, t_, t_, f_, t_, t_, t_, t_, t_, f_, f_, t_, t_, f_, t_, t_, t_, t_, t_, f_, f_, f_, t_, t_, f_, t_, t_, t_, t_, f_, f_, f_, f_] rfl rfl (any_of HT_.out (by kernel_rfl)) (fun _ _ _ h => h) (Or.inl ⟨by rfl, ?_⟩) ?_ ?_
         rotate_left
         ·intro w'
          go_simp
          with_reducible rfl
         rotate_left
         ·simp only [Act.put, za, zb, zc, i64_w, i32_w]
          rfl
         refine take_ (i := 1) (N := some 35) (v := ?_) (a' := ?_) #[t_, t_, t_, t_, f_, t_, t_, t_, t_, t_, f_, f_, t_, t_, f_, t_, t_, t_, t_, t_, f_, f_, f_, t_, t_, f_, t_, t_, t_, t_, f_, f_, f_, f_] rfl rfl (take_ofW HT_.out HW_.out (by kernel_rfl)) (fun _ _ _ h => h) (Or.inl ⟨by rfl, ?_⟩) hHeld ?_ ?_
         rotate_left
         ·rintro w' ⟨s0, s1, s2, s3, s4, s5, s6, s7, s8, s9, s10, s11, s12, s13, s14, s15⟩
          go_simp
          with_reducible rfl
         rotate_left
         ·simp only [Act.put, za, zb, zc, i64_w, i32_w]
          rfl
         refine take_ (i := 4) (N := some 38) (v := ?_) (a' := ?_) #[t_, t_, t_, t_, t_, t_, t_, t_, t_, t_, f_, f_, t_, t_, f_, t_, t_, t_, t_, t_, f_, f_, f_, t_, t_, f_, t_, t_, t_, t_, f_, f_, f_, f_] rfl rfl (take_ofW HT_.out HW_.out (by kernel_rfl)) (fun _ _ _ h => h) (Or.inl ⟨by rfl, ?_⟩) hHeld ?_ ?_
         rotate_left
         ·rintro w' ⟨s0, s1, s2, s3, s4, s5, s6, s7, s8, s9, s10, s11, s12, s13, s14, s15⟩
          go_simp
          with_reducible rfl
         rotate_left
         ·simp only [Act.put, za, zb, zc, i64_w, i32_w]
          rfl
         refine take_ (i := 10) (N := some 44) (v := ?_) (a' := ?_) #[t_, t_, t_, t_, t_, t_, t_, t_, t_, t_, t_, f_, t_, t_, f_, t_, t_, t_, t_, t_, f_, f_, f_, t_, t_, f_, t_, t_, t_, t_, f_, f_, f_, f_] rfl rfl (take_ofW HT_.out HW_.out (by kernel_rfl)) (fun _ _ _ h => h) (Or.inl ⟨by rfl, ?_⟩) hHeld ?_ ?_
         rotate_left
         ·rintro w' ⟨s0, s1, s2, s3, s4, s5, s6, s7, s8, s9, s10, s11, s12, s13, s14, s15⟩
          go_simp
          with_reducible rfl
         rotate_left
         ·simp only [Act.put, za, zb, zc, i64_w, i32_w]
          rfl
         refine pure_ (i := 11) (N := some 45) (v := ?_) (a' := ?_) #[t_, t_, t_, t_, t_, t_, t_, t_, t_, t_, t_, t_, t_, t_, f_, t_, t_, t_, t_, t_, f_, f_, f_, t_, t_, f_, t_, t_, t_, t_, f_, f_, f_, f_] rfl rfl (any_of HT_.out (by kernel_rfl)) (fun _ _ _ h => h) (Or.inl ⟨by rfl, ?_⟩) ?_ ?_
         rotate_left
         ·intro w'
          go_simp
          with_reducible rfl
         rotate_left
         ·simp only [Act.put, za, zb, zc, i64_w, i32_w]
          rfl
         refine take_ (i := 14) (N := some 48) (v := ?_) (a' := ?_) #[t_, t_, t_, t_, t_, t_, t_, t_, t_, t_, t_, t_, t_, t_, t_, t_, t_, t_, t_, t_, f_, f_, f_, t_, t_, f_, t_, t_, t_, t_, f_, f_, f_, f_] rfl rfl (take_ofW HT_.out HW_.out (by kernel_rfl)) (fun _ _ _ h => h) (Or.inl ⟨by rfl, ?_⟩) hHeld ?_ ?_
         rotate_left
         ·rintro w' ⟨s0, s1, s2, s3, s4, s5, s6, s7, s8, s9, s10, s11, s12, s13, s14, s15⟩
          go_simp
          with_reducible rfl
         rotate_left
         ·simp only [Act.put, za, zb, zc, i64_w, i32_w]
          rfl
         refine take_ (i := 20) (N := some 54) (v := ?_) (a' := ?_) #[t_, t_, t_, t_, t_, t_, t_, t_, t_, t_, t_, t_, t_, t_, t_, t_, t_, t_, t_, t_, t_, f_, f_, t_, t_, f_, t_, t_, t_, t_, f_, f_, f_, f_] rfl rfl (take_ofW HT_.out HW_.out (by kernel_rfl)) (fun _ _ _ h => h) (Or.inl ⟨by rfl, ?_⟩) hHeld ?_ ?_
         rotate_left
         ·rintro w' ⟨s0, s1, s2, s3, s4, s5, s6, s7, s8, s9, s10, s11, s12, s13, s14, s15⟩
          go_simp
          with_reducible rfl
         rotate_left
         ·simp only [Act.put, za, zb, zc, i64_w, i32_w]
          rfl
         refine pure_ (i := 21) (N := some 55) (v := ?_) (a' := ?_) #[t_, t_, t_, t_, t_, t_, t_, t_, t_, t_, t_, t_, t_, t_, t_, t_, t_, t_, t_, t_, t_, t_, f_, t_, t_, f_, t_, t_, t_, t_, f_, f_, f_, f_] rfl rfl (any_of HT_.out (by kernel_rfl)) (fun _ _ _ h => h) (Or.inl ⟨by rfl, ?_⟩) ?_ ?_
         rotate_left
         ·intro w'
          go_simp
          with_reducible rfl
         rotate_left
         ·simp only [Act.put, za, zb, zc, i64_w, i32_w]
          rfl
         refine pure_ (i := 22) (N := some 56) (v := ?_) (a' := ?_) #[t_, t_, t_, t_, t_, t_, t_, t_, t_, t_, t_, t_, t_, t_, t_, t_, t_, t_, t_, t_, t_, t_, t_, t_, t_, f_, t_, t_, t_, t_, f_, f_, f_, f_] rfl rfl (any_of HT_.out (by kernel_rfl)) (fun _ _ _ h => h) (Or.inl ⟨by rfl, ?_⟩) ?_ ?_
         rotate_left
         ·intro w'
          go_simp
          with_reducible rfl
         rotate_left
         ·simp only [Act.put, za, zb, zc, i64_w, i32_w]
          rfl
         refine take_ (i := 25) (N := some 59) (v := ?_) (a' := ?_) #[t_, t_, t_, t_, t_, t_, t_, t_, t_, t_, t_, t_, t_, t_, t_, t_, t_, t_, t_, t_, t_, t_, t_, t_, t_, t_, t_, t_, t_, t_, f_, f_, f_, f_] rfl rfl (take_ofW HT_.out HW_.out (by kernel_rfl)) (fun _ _ _ h => h) (Or.inl ⟨by rfl, ?_⟩) hHeld ?_ ?_
         rotate_left
         ·rintro w' ⟨s0, s1, s2, s3, s4, s5, s6, s7, s8, s9, s10, s11, s12, s13, s14, s15⟩
          go_simp
          with_reducible rfl
         rotate_left
         ·simp only [Act.put, za, zb, zc, i64_w, i32_w]
          rfl
         refine take_ (i := 30) (N := some 64) (v := ?_) (a' := ?_) #[t_, t_, t_, t_, t_, t_, t_, t_, t_, t_, t_, t_, t_, t_, t_, t_, t_, t_, t_, t_, t_, t_, t_, t_, t_, t_, t_, t_, t_, t_, t_, f_, f_, f_] rfl rfl (take_ofW HT_.out HW_.out (by kernel_rfl)) (fun _ _ _ h => h) (Or.inl ⟨by rfl, ?_⟩) hHeld ?_ ?_
         rotate_left
         ·rintro w' ⟨s0, s1, s2, s3, s4, s5, s6, s7, s8, s9, s10, s11, s12, s13, s14, s15⟩
          go_simp
          with_reducible rfl
         rotate_left
         ·simp only [Act.put, za, zb, zc, i64_w, i32_w]
          rfl
         refine one_ (i := 31) (N := some 65) #[t_, t_, t_, t_, t_, t_, t_, t_, t_, t_, t_, t_, t_, t_, t_, t_, t_, t_, t_, t_, t_, t_, t_, t_, t_, t_, t_, t_, t_, t_, t_, t_, f_, f_] rfl rfl (one_of HT_.out (by kernel_rfl)) (by decide) (fun K hK => ?_)
         refine goes_ Try.func51 (by kernel_rfl) rfl #[.int .i64 a0, .int .i64 x235003_2, .int .i64 ((rd_T46 x1_1 x9_2).f2)] (by rfl) rfl rfl (by (try simp only [List.map_toArray, List.map_cons, List.map_nil]); first | done | rfl | (simp only [List.length_drop, List.length_take]; rfl)) ?_
         with_reducible refine (leatref10_Merge.calls k2 a0 x235003_2 ((rd_T46 x1_1 x9_2).f2) t247 _ A12.out).mono ?_
         rintro e w17 ⟨rfl, hb⟩
         have HS4_ := (hb.cell (World.block_lt_of_cell? _ _ (hHeld.2.2.2.2.1))).trans (hHeld.2.2.2.2.1)
         have HS5_ := (hb.cell (World.block_lt_of_cell? _ _ (hHeld.2.2.2.2.2.1))).trans (hHeld.2.2.2.2.2.1)
         have HS6_ := (hb.cell (World.block_lt_of_cell? _ _ (hHeld.2.2.2.2.2.2.1))).trans (hHeld.2.2.2.2.2.2.1)
         have HS7_ := (hb.cell (World.block_lt_of_cell? _ _ (hHeld.2.2.2.2.2.2.2.1))).trans (hHeld.2.2.2.2.2.2.2.1)
         have HS8_ := (hb.cell (World.block_lt_of_cell? _ _ (hHeld.2.2.2.2.2.2.2.2.1))).trans (hHeld.2.2.2.2.2.2.2.2.1)
         have HS9_ := (hb.cell (World.block_lt_of_cell? _ _ (hHeld.2.2.2.2.2.2.2.2.2.1))).trans (hHeld.2.2.2.2.2.2.2.2.2.1)
         have HS10_ := (hb.cell (World.block_lt_of_cell? _ _ (hHeld.2.2.2.2.2.2.2.2.2.2.1))).trans (hHeld.2.2.2.2.2.2.2.2.2.2.1)
         have HS11_ := (hb.cell (World.block_lt_of_cell? _ _ (hHeld.2.2.2.2.2.2.2.2.2.2.2.1))).trans (hHeld.2.2.2.2.2.2.2.2.2.2.2.1)
         have HS12_ := (hb.cell (World.block_lt_of_cell? _ _ (hHeld.2.2.2.2.2.2.2.2.2.2.2.2.1))).trans (hHeld.2.2.2.2.2.2.2.2.2.2.2.2.1)
         have HS13_ := (hb.cell (World.block_lt_of_cell? _ _ (hHeld.2.2.2.2.2.2.2.2.2.2.2.2.2.1))).trans (hHeld.2.2.2.2.2.2.2.2.2.2.2.2.2.1)
         have HS14_ := (hb.cell (World.block_lt_of_cell? _ _ (hHeld.2.2.2.2.2.2.2.2.2.2.2.2.2.2.1))).trans (hHeld.2.2.2.2.2.2.2.2.2.2.2.2.2.2.1)
         have HS15_ := (hb.cell (World.block_lt_of_cell? _ _ (hHeld.2.2.2.2.2.2.2.2.2.2.2.2.2.2.2))).trans (hHeld.2.2.2.2.2.2.2.2.2.2.2.2.2.2.2)
         refine ⟨_, rfl, ?_⟩
         have n0_ := zd (zr (by (with_reducible repeat (first | apply ze | apply zf | apply zg)); exact HO_1.out) hb)
         have n1_ := zd (zr (by (with_reducible repeat (first | apply ze | apply zf | apply zg)); exact HO_7.out) hb)
         have n2_ := zd (zp (g := gb234) (o := .cells #[.int .i64 x235000_2, .int .i64 x235001_2, .int .i64 x235002_2, .int .i64 x235003_2] 46 (0, 0)) (by (with_reducible repeat (first | refine zk ?_ _ | refine zl ?_ | refine zm ?_ _)); exact BK234.out) hb)
         have n3_ := zd (Kept.below (S := (fun k_ => P1_ k_)) (by repeat (first | (with_reducible first | exact HK.out | apply Kept.alloc | apply Kept.drewN | apply Kept.drew | refine Kept.setCell ?_ (.inr GW234.out) _) | exact HK.out)) hb)
         have n4_ := zd (zs (by repeat (first | (with_reducible first | exact HB.out | apply zh | apply zi | apply zj | refine zn ?_ GE234.out) | exact HB.out)) hb)
         clear HO_1
         clear HO_7
         clear BK234
         clear HK
         clear HB
         have HO_1 := n0_
         have HO_7 := n1_
         have BK234 := n2_
         have HK := n3_
         have HB := n4_
         clear n0_ n1_ n2_ n3_ n4_
         (try clear hb)
         (try clear hb2)
         (try clear hk)
         (try clear hi)
         refine hK.out _ _ ⟨(zo BK234.out 0).trans rfl, (zo BK234.out 1).trans rfl, (zo BK234.out 2).trans rfl, (zo BK234.out 3).trans rfl, HS4_, HS5_, HS6_, HS7_, HS8_, HS9_, HS10_, HS11_, HS12_, HS13_, HS14_, HS15_⟩ (fun hHeld => ?_)
         clear hK K
         refine norm_ (a' := ?_) ?_ ?_
         rotate_left
         ·show Act.put _ (some 65) _ = _
          simp only [Act.put, za, zb, zc, i64_w, i32_w]
          rfl
         refine pure_ (i := 32) (N := some 66) (v := ?_) (a' := ?_) #[t_, t_, t_, t_, t_, t_, t_, t_, t_, t_, t_, t_, t_, t_, t_, t_, t_, t_, t_, t_, t_, t_, t_, t_, t_, t_, t_, t_, t_, t_, t_, t_, t_, f_] rfl rfl (any_of HT_.out (by kernel_rfl)) (fun _ _ _ h => h) (Or.inl ⟨by rfl, ?_⟩) ?_ ?_
         rotate_left
         ·intro w'
          go_simp
          with_reducible rfl
         rotate_left
         ·simp only [Act.put, za, zb, zc, i64_w, i32_w]
          rfl
         refine last_ (i := 33) (N := none) #[t_, t_, t_, t_, t_, t_, t_, t_, t_, t_, t_, t_, t_, t_, t_, t_, t_, t_, t_, t_, t_, t_, t_, t_, t_, t_, t_, t_, t_, t_, t_, t_, t_, t_] rfl rfl (one_of HT_.out (by kernel_rfl)) (by decide) (fun K hK => ?_)
         have hs18 : w17.cell? ⟨gb234, 0, none⟩ = some (.int .i64 x235000_2) := (zo BK234.out 0).trans rfl
         have hfs18 := blk_frozen BK234.out 0
         have hs19 : w17.cell? ⟨gb234, 1, none⟩ = some (.int .i64 x235001_2) := (zo BK234.out 1).trans rfl
         have hfs19 := blk_frozen BK234.out 1
         have hs20 : w17.cell? ⟨gb234, 2, none⟩ = some (.int .i64 x235002_2) := (zo BK234.out 2).trans rfl
         have hfs20 := blk_frozen BK234.out 2
         have hs21 : w17.cell? ⟨gb234, 3, none⟩ = some (.int .i64 x235003_2) := (zo BK234.out 3).trans rfl
         have hfs21 := blk_frozen BK234.out 3
         refine skip_ (w1 := ?_) (by rfl) rfl ?_ ?_
         rotate_left
         ·go_simp
          rfl
         refine hK.out _ _ ?_
         clear hK K
         refine done_ (done_of HT_.out (by kernel_rfl)) ?_
         try go_wp2
         go_roundg k2
         case measure => have := HK1.out; have := HK2.out; omega
         case rel => exact ⟨(x7_2), (true), (wrap64 (x9_2 + 1)), (x235000_2), (ji10), (ji11), (t247), (by first | rfl | (simp; done) | (simp [*]; done)), (by first | rfl | (simp; done) | (simp [*]; done)), H', ⟨by have := HK1.out; have := HK2.out; omega⟩, ⟨by (with_reducible repeat (first | apply ze | apply zf | apply zg)); exact zq (Kd.R_far (p := ⟨gb234, 3, none⟩) (Kd.R_far (p := ⟨gb234, 2, none⟩) (Kd.R_far (p := ⟨gb234, 1, none⟩) (Kd.R_far (p := ⟨gb234, 0, none⟩) (zq HO_1.out (fun k_ hk => (⟨hk, hk.2.2⟩ : _ /\ k_ ≠ gb234))) (fun _ hk => hk.2) (.int .i64 x235000_2)) (fun _ hk => hk.2) (.int .i64 ji10)) (fun _ hk => hk.2) (.int .i64 ji11)) (fun _ hk => hk.2) (.int .i64 t247)) (fun _ hk => ⟨hk.1.1, ⟨hk.1.2.1, hk.1.2.2⟩⟩)⟩, ⟨by (with_reducible repeat (first | apply ze | apply zf | apply zg)); exact zq (Kd.R_far (p := ⟨gb234, 3, none⟩) (Kd.R_far (p := ⟨gb234, 2, none⟩) (Kd.R_far (p := ⟨gb234, 1, none⟩) (Kd.R_far (p := ⟨gb234, 0, none⟩) (zq HO_7.out (fun k_ hk => (⟨hk, hk.2.2⟩ : _ /\ k_ ≠ gb234))) (fun _ hk => hk.2) (.int .i64 x235000_2)) (fun _ hk => hk.2) (.int .i64 ji10)) (fun _ hk => hk.2) (.int .i64 ji11)) (fun _ hk => hk.2) (.int .i64 t247)) (fun _ hk => ⟨hk.1.1, ⟨hk.1.2.1, hk.1.2.2⟩⟩)⟩, ⟨by (with_reducible repeat (first | refine zk ?_ _ | refine zl ?_ | refine zm ?_ _)); refine blk_put (cs := #[.int .i64 x235000_2, .int .i64 ji10, .int .i64 ji11, .int .i64 x235003_2]) ?_ 3 _ rfl; (with_reducible repeat (first | refine zk ?_ _ | refine zl ?_ | refine zm ?_ _)); refine blk_put (cs := #[.int .i64 x235000_2, .int .i64 ji10, .int .i64 x235002_2, .int .i64 x235003_2]) ?_ 2 _ rfl; (with_reducible repeat (first | refine zk ?_ _ | refine zl ?_ | refine zm ?_ _)); refine blk_put (cs := #[.int .i64 x235000_2, .int .i64 x235001_2, .int .i64 x235002_2, .int .i64 x235003_2]) ?_ 1 _ rfl; (with_reducible repeat (first | refine zk ?_ _ | refine zl ?_ | refine zm ?_ _)); refine blk_put (cs := #[.int .i64 x235000_2, .int .i64 x235001_2, .int .i64 x235002_2, .int .i64 x235003_2]) ?_ 0 _ rfl; (with_reducible repeat (first | refine zk ?_ _ | refine zl ?_ | refine zm ?_ _)); exact BK234.out⟩, ⟨by repeat (first | (with_reducible first | exact HK.out | apply Kept.alloc | apply Kept.drewN | apply Kept.drew | refine Kept.setCell ?_ (.inr GW234.out) _) | exact HK.out)⟩, ⟨by repeat (first | (with_reducible first | exact HB.out | apply zh | apply zi | apply zj | refine zn ?_ GE234.out) | exact HB.out)⟩⟩
        ·replace c9 := Bool.eq_false_iff.mpr c9
         subst c9
         have H1 : (if x7_2.length < 4398046511104 then (leatref11_merge.l1 k2 a0 x1_1 (x7_2 ++ [(⟨(rd_T46 x1_1 x9_2).f0, (⟨(rd_T46 x1_1 x9_2).f1.f0, (rd_T46 x1_1 x9_2).f1.f1⟩ : S31), (rd_T46 x1_1 x9_2).f2⟩ : S46)]) x8_2 (wrap64 (x9_2 + 1)) x235000_2 x235001_2 x235002_2 x235003_2) else (none)) = some r := by rw [if_neg (show ¬ (false = true) by decide)] at H; exact H
         clear H
         have H := H1
         clear H1
         by_cases c22 : x7_2.length < 4398046511104
         ·rw [if_pos c22] at H
          have LMc22 := zd c22
          clear c22
          obtain ⟨y249, hy249⟩ : ∃ y_ : List (S46), y_ = (x7_2 ++ [(⟨(rd_T46 x1_1 x9_2).f0, (⟨(rd_T46 x1_1 x9_2).f1.f0, (rd_T46 x1_1 x9_2).f1.f1⟩ : S31), (rd_T46 x1_1 x9_2).f2⟩ : S46)]) := ⟨_, rfl⟩
          replace H : (leatref11_merge.l1 k2 a0 x1_1 y249 x8_2 (wrap64 (x9_2 + 1)) x235000_2 x235001_2 x235002_2 x235003_2) = some r := by first | (rw [hy249]; with_reducible exact H) | (have H2_ := (Option.bind_some _ _).symm.trans H; rw [hy249]; with_reducible exact H2_) | (have H2_ := (Option.bind_some _ _).symm.trans H; with_reducible exact H2_) | with_reducible exact H | (rw [hy249]; exact H) | exact H
          have Ny249 := zd hy249
          clear hy249
          have H' := zd H
          clear H
          obtain ⟨Ao23, co23, eo23⟩ := Kd.R_slice HO_1.out
          subst eo23
          try go_wp2
          have n0_ := zd (zg HO_1.out)
          have n1_ := zd (zg HO_7.out)
          have n2_ := zd (zl BK234.out)
          have n3_ := zd (Kept.drew HK.out)
          have n4_ := zd (zj HB.out)
          clear HO_1
          clear HO_7
          clear BK234
          clear HK
          clear HB
          have HO_1 := n0_
          have HO_7 := n1_
          have BK234 := n2_
          have HK := n3_
          have HB := n4_
          clear n0_ n1_ n2_ n3_ n4_
          have p241 : 0 <= (x9_2 : Int) := of_decide_eq_true (by first | (with_reducible assumption) | assumption)
          have q241 : x9_2 < (x1_1.length : Int) := of_decide_eq_true (by first | (with_reducible assumption) | assumption)
          obtain ⟨ad241, e241, hx241_0, hx241_1, hx241_2, hx241_3⟩ := at_T46 (Kd.R_reads' HO_1.out).2.2 x9_2 p241 q241
          cases e241
          replace p241 := eq_true p241
          replace q241 := eq_true q241
          have p242 : 0 <= (x9_2 : Int) := of_decide_eq_true (by first | (with_reducible assumption) | assumption)
          have q242 : x9_2 < (x1_1.length : Int) := of_decide_eq_true (by first | (with_reducible assumption) | assumption)
          obtain ⟨ad242, e242, hx242_0, hx242_1, hx242_2, hx242_3⟩ := at_T46 (Kd.R_reads' HO_1.out).2.2 x9_2 p242 q242
          obtain rfl : ad241 = ad242 := (by injection e242)
          replace p242 := eq_true p242
          replace q242 := eq_true q242
          refine start_ (n := 18) (S := fun w' => w'.cell? ⟨gb234, 0, none⟩ = some (.int .i64 x235000_2) /\ w'.cell? ⟨gb234, 1, none⟩ = some (.int .i64 x235001_2) /\ w'.cell? ⟨gb234, 2, none⟩ = some (.int .i64 x235002_2) /\ w'.cell? ⟨gb234, 3, none⟩ = some (.int .i64 x235003_2) /\ w'.cell? (ad241.add ((x9_2).toNat * 4)) = some (.int .i64 ((rd_T46 x1_1 x9_2).f0)) /\ w'.cell? ⟨(ad241.add ((x9_2).toNat * 4)).block, (ad241.add ((x9_2).toNat * 4)).off + 1, none⟩ = some (.int .i64 ((rd_T46 x1_1 x9_2).f1.f0)) /\ w'.cell? ⟨(ad241.add ((x9_2).toNat * 4)).block, (ad241.add ((x9_2).toNat * 4)).off + 2, none⟩ = some (.int .i64 ((rd_T46 x1_1 x9_2).f1.f1)) /\ w'.cell? ⟨(ad241.add ((x9_2).toNat * 4)).block, (ad241.add ((x9_2).toNat * 4)).off + 3, none⟩ = some (.int .i64 ((rd_T46 x1_1 x9_2).f2)) /\ w'.cell? (ad241.add ((x9_2).toNat * 4)) = some (.int .i64 ((rd_T46 x1_1 x9_2).f0)) /\ w'.cell? ⟨(ad241.add ((x9_2).toNat * 4)).block, (ad241.add ((x9_2).toNat * 4)).off + 1, none⟩ = some (.int .i64 ((rd_T46 x1_1 x9_2).f1.f0)) /\ w'.cell? ⟨(ad241.add ((x9_2).toNat * 4)).block, (ad241.add ((x9_2).toNat * 4)).off + 2, none⟩ = some (.int .i64 ((rd_T46 x1_1 x9_2).f1.f1)) /\ w'.cell? ⟨(ad241.add ((x9_2).toNat * 4)).block, (ad241.add ((x9_2).toNat * 4)).off + 3, none⟩ = some (.int .i64 ((rd_T46 x1_1 x9_2).f2))) (ds := []) #[f_, f_, f_, f_, f_, f_, f_, f_, f_, f_, f_, f_, f_, f_, f_, f_, f_, f_] (by kernel_rfl) rfl rfl ⟨(zo BK234.out 0).trans rfl, (zo BK234.out 1).trans rfl, (zo BK234.out 2).trans rfl, (zo BK234.out 3).trans rfl, hx241_0, hx241_1, hx241_2, hx241_3, hx242_0, hx242_1, hx242_2, hx242_3⟩ (fun hHeld => ?_); refine with_tabW leatref11_merge.tab6 leatref11_merge.bits6 (fun HT_ HW_ => ?_)
          generalize wr.drew = w24 at HO_1 HO_7 BK234 HK HB hx241_0 hx241_1 hx241_2 hx241_3 hx242_0 hx242_1 hx242_2 hx242_3 hHeld ⊢
          refine pure_ (i := 0) (N := some 16) (v := ?_) (a' := ?_) #[t_, f_, f_, f_, f_, f_, f_, f_, f_, f_, f_, f_, f_, f_, f_, f_, f_, f_] rfl rfl (any_of HT_.out (by kernel_rfl)) (fun _ _ _ h => h) (Or.inl ⟨by rfl, ?_⟩) ?_ ?_
          rotate_left
          ·intro w'
           go_simp
           with_reducible rfl
          rotate_left
          ·simp only [Act.put, za, zb, zc, i64_w, i32_w]
           rfl
          refine pure_ (i := 1) (N := some 17) (v := ?_) (a' := ?_) #[t_, t_, f_, f_, f_, f_, f_, f_, f_, f_, f_, f_, f_, f_, f_, f_, f_, f_] rfl rfl (any_of HT_.out (by kernel_rfl)) (fun _ _ _ h => h) (Or.inl ⟨by rfl, ?_⟩) ?_ ?_
          rotate_left
          ·intro w'
           go_simp
           with_reducible rfl
          rotate_left
          ·simp only [Act.put, za, zb, zc, i64_w, i32_w]
           rfl
          refine pure_ (i := 2) (N := some 18) (v := ?_) (a' := ?_) #[t_, t_, t_, f_, f_, f_, f_, f_, f_, f_, f_, f_, f_, f_, f_, f_, f_, f_] rfl rfl (any_of HT_.out (by kernel_rfl)) (fun _ _ _ h => h) (Or.inl ⟨by rfl, ?_⟩) ?_ ?_
          rotate_left
          ·intro w'
           go_simp
           with_reducible rfl
          rotate_left
          ·simp only [Act.put, za, zb, zc, i64_w, i32_w]
           rfl
          refine pure_ (i := 3) (N := some 19) (v := ?_) (a' := ?_) #[t_, t_, t_, t_, f_, f_, f_, f_, f_, f_, f_, f_, f_, f_, f_, f_, f_, f_] rfl rfl (any_of HT_.out (by kernel_rfl)) (fun _ _ _ h => h) (Or.inl ⟨by rfl, ?_⟩) ?_ ?_
          rotate_left
          ·intro w'
           go_simp
           with_reducible rfl
          rotate_left
          ·simp only [Act.put, za, zb, zc, i64_w, i32_w]
           rfl
          refine pure_ (i := 5) (N := some 21) (v := ?_) (a' := ?_) #[t_, t_, t_, t_, f_, t_, f_, f_, f_, f_, f_, f_, f_, f_, f_, f_, f_, f_] rfl rfl (any_of HT_.out (by kernel_rfl)) (fun _ _ _ h => h) (Or.inl ⟨by rfl, ?_⟩) ?_ ?_
          rotate_left
          ·intro w'
           go_simp
           with_reducible rfl
          rotate_left
          ·simp only [Act.put, za, zb, zc, i64_w, i32_w]
           rfl
          refine take_ (i := 4) (N := some 20) (v := ?_) (a' := ?_) #[t_, t_, t_, t_, t_, t_, f_, f_, f_, f_, f_, f_, f_, f_, f_, f_, f_, f_] rfl rfl (take_ofW HT_.out HW_.out (by kernel_rfl)) (fun _ _ _ h => h) (Or.inl ⟨by rfl, ?_⟩) hHeld ?_ ?_
          rotate_left
          ·rintro w' ⟨s0, s1, s2, s3, s4, s5, s6, s7, s8, s9, s10, s11⟩
           go_simp
           with_reducible rfl
          rotate_left
          ·simp only [Act.put, za, zb, zc, i64_w, i32_w]
           rfl
          refine take_ (i := 6) (N := some 22) (v := ?_) (a' := ?_) #[t_, t_, t_, t_, t_, t_, t_, f_, f_, f_, f_, f_, f_, f_, f_, f_, f_, f_] rfl rfl (take_ofW HT_.out HW_.out (by kernel_rfl)) (fun _ _ _ h => h) (Or.inl ⟨by rfl, ?_⟩) hHeld ?_ ?_
          rotate_left
          ·rintro w' ⟨s0, s1, s2, s3, s4, s5, s6, s7, s8, s9, s10, s11⟩
           go_simp
           with_reducible rfl
          rotate_left
          ·simp only [Act.put, za, zb, zc, i64_w, i32_w]
           rfl
          refine pure_ (i := 7) (N := some 23) (v := ?_) (a' := ?_) #[t_, t_, t_, t_, t_, t_, t_, t_, f_, f_, f_, f_, f_, f_, f_, f_, f_, f_] rfl rfl (any_of HT_.out (by kernel_rfl)) (fun _ _ _ h => h) (Or.inl ⟨by rfl, ?_⟩) ?_ ?_
          rotate_left
          ·intro w'
           go_simp
           with_reducible rfl
          rotate_left
          ·simp only [Act.put, za, zb, zc, i64_w, i32_w]
           rfl
          refine pure_ (i := 8) (N := some 24) (v := ?_) (a' := ?_) #[t_, t_, t_, t_, t_, t_, t_, t_, t_, f_, f_, f_, f_, f_, f_, f_, f_, f_] rfl rfl (any_of HT_.out (by kernel_rfl)) (fun _ _ _ h => h) (Or.inl ⟨by rfl, ?_⟩) ?_ ?_
          rotate_left
          ·intro w'
           go_simp
           with_reducible rfl
          rotate_left
          ·simp only [Act.put, za, zb, zc, i64_w, i32_w]
           rfl
          refine pure_ (i := 9) (N := some 25) (v := ?_) (a' := ?_) #[t_, t_, t_, t_, t_, t_, t_, t_, t_, t_, f_, f_, f_, f_, f_, f_, f_, f_] rfl rfl (any_of HT_.out (by kernel_rfl)) (fun _ _ _ h => h) (Or.inl ⟨by rfl, ?_⟩) ?_ ?_
          rotate_left
          ·intro w'
           go_simp
           with_reducible rfl
          rotate_left
          ·simp only [Act.put, za, zb, zc, i64_w, i32_w]
           rfl
          refine pure_ (i := 10) (N := some 26) (v := ?_) (a' := ?_) #[t_, t_, t_, t_, t_, t_, t_, t_, t_, t_, t_, f_, f_, f_, f_, f_, f_, f_] rfl rfl (any_of HT_.out (by kernel_rfl)) (fun _ _ _ h => h) (Or.inl ⟨by rfl, ?_⟩) ?_ ?_
          rotate_left
          ·intro w'
           go_simp
           with_reducible rfl
          rotate_left
          ·simp only [Act.put, za, zb, zc, i64_w, i32_w]
           rfl
          refine pure_ (i := 11) (N := some 27) (v := ?_) (a' := ?_) #[t_, t_, t_, t_, t_, t_, t_, t_, t_, t_, t_, t_, f_, f_, f_, f_, f_, f_] rfl rfl (any_of HT_.out (by kernel_rfl)) (fun _ _ _ h => h) (Or.inl ⟨by rfl, ?_⟩) ?_ ?_
          rotate_left
          ·intro w'
           go_simp
           with_reducible rfl
          rotate_left
          ·simp only [Act.put, za, zb, zc, i64_w, i32_w]
           rfl
          refine pure_ (i := 12) (N := some 28) (v := ?_) (a' := ?_) #[t_, t_, t_, t_, t_, t_, t_, t_, t_, t_, t_, t_, t_, f_, f_, f_, f_, f_] rfl rfl (any_of HT_.out (by kernel_rfl)) (fun _ _ _ h => h) (Or.inl ⟨by rfl, ?_⟩) ?_ ?_
          rotate_left
          ·intro w'
           go_simp
           with_reducible rfl
          rotate_left
          ·simp only [Act.put, za, zb, zc, i64_w, i32_w]
           rfl
          refine pure_ (i := 14) (N := some 30) (v := ?_) (a' := ?_) #[t_, t_, t_, t_, t_, t_, t_, t_, t_, t_, t_, t_, t_, f_, t_, f_, f_, f_] rfl rfl (any_of HT_.out (by kernel_rfl)) (fun _ _ _ h => h) (Or.inl ⟨by rfl, ?_⟩) ?_ ?_
          rotate_left
          ·intro w'
           go_simp
           with_reducible rfl
          rotate_left
          ·simp only [Act.put, za, zb, zc, i64_w, i32_w]
           rfl
          refine take_ (i := 13) (N := some 29) (v := ?_) (a' := ?_) #[t_, t_, t_, t_, t_, t_, t_, t_, t_, t_, t_, t_, t_, t_, t_, f_, f_, f_] rfl rfl (take_ofW HT_.out HW_.out (by kernel_rfl)) (fun _ _ _ h => h) (Or.inl ⟨by rfl, ?_⟩) hHeld ?_ ?_
          rotate_left
          ·rintro w' ⟨s0, s1, s2, s3, s4, s5, s6, s7, s8, s9, s10, s11⟩
           go_simp
           with_reducible rfl
          rotate_left
          ·simp only [Act.put, za, zb, zc, i64_w, i32_w]
           rfl
          refine take_ (i := 15) (N := some 31) (v := ?_) (a' := ?_) #[t_, t_, t_, t_, t_, t_, t_, t_, t_, t_, t_, t_, t_, t_, t_, t_, f_, f_] rfl rfl (take_ofW HT_.out HW_.out (by kernel_rfl)) (fun _ _ _ h => h) (Or.inl ⟨by rfl, ?_⟩) hHeld ?_ ?_
          rotate_left
          ·rintro w' ⟨s0, s1, s2, s3, s4, s5, s6, s7, s8, s9, s10, s11⟩
           go_simp
           with_reducible rfl
          rotate_left
          ·simp only [Act.put, za, zb, zc, i64_w, i32_w]
           rfl
          refine one_ (i := 16) (N := some 32) #[t_, t_, t_, t_, t_, t_, t_, t_, t_, t_, t_, t_, t_, t_, t_, t_, t_, f_] rfl rfl (one_of HT_.out (by kernel_rfl)) (by decide) (fun K hK => ?_)
          refine goes_ Try.func61 (by kernel_rfl) rfl #[.agg #[.int .i64 ((rd_T46 x1_1 x9_2).f1.f0), .int .i64 ((rd_T46 x1_1 x9_2).f1.f1)], .agg #[.int .i64 x235001_2, .int .i64 x235002_2]] (by rfl) rfl rfl (by (try simp only [List.map_toArray, List.map_cons, List.map_nil]); first | done | rfl | (simp only [List.length_drop, List.length_take]; rfl)) ?_
          with_reducible refine (leatref11_overlap.calls ((rd_T46 x1_1 x9_2).f1.f0) ((rd_T46 x1_1 x9_2).f1.f1) x235001_2 x235002_2 false _ A8.out).mono ?_
          rintro e w25 ⟨rfl, hb⟩
          have HS4_ := (hb.cell (World.block_lt_of_cell? _ _ (hHeld.2.2.2.2.1))).trans (hHeld.2.2.2.2.1)
          have HS5_ := (hb.cell (World.block_lt_of_cell? _ _ (hHeld.2.2.2.2.2.1))).trans (hHeld.2.2.2.2.2.1)
          have HS6_ := (hb.cell (World.block_lt_of_cell? _ _ (hHeld.2.2.2.2.2.2.1))).trans (hHeld.2.2.2.2.2.2.1)
          have HS7_ := (hb.cell (World.block_lt_of_cell? _ _ (hHeld.2.2.2.2.2.2.2.1))).trans (hHeld.2.2.2.2.2.2.2.1)
          have HS8_ := (hb.cell (World.block_lt_of_cell? _ _ (hHeld.2.2.2.2.2.2.2.2.1))).trans (hHeld.2.2.2.2.2.2.2.2.1)
          have HS9_ := (hb.cell (World.block_lt_of_cell? _ _ (hHeld.2.2.2.2.2.2.2.2.2.1))).trans (hHeld.2.2.2.2.2.2.2.2.2.1)
          have HS10_ := (hb.cell (World.block_lt_of_cell? _ _ (hHeld.2.2.2.2.2.2.2.2.2.2.1))).trans (hHeld.2.2.2.2.2.2.2.2.2.2.1)
          have HS11_ := (hb.cell (World.block_lt_of_cell? _ _ (hHeld.2.2.2.2.2.2.2.2.2.2.2))).trans (hHeld.2.2.2.2.2.2.2.2.2.2.2)
          refine ⟨_, rfl, ?_⟩
          have n0_ := zd (zr (by (with_reducible repeat (first | apply ze | apply zf | apply zg)); exact HO_1.out) hb)
          have n1_ := zd (zr (by (with_reducible repeat (first | apply ze | apply zf | apply zg)); exact HO_7.out) hb)
          have n2_ := zd (zp (g := gb234) (o := .cells #[.int .i64 x235000_2, .int .i64 x235001_2, .int .i64 x235002_2, .int .i64 x235003_2] 46 (0, 0)) (by (with_reducible repeat (first | refine zk ?_ _ | refine zl ?_ | refine zm ?_ _)); exact BK234.out) hb)
          have n3_ := zd (Kept.below (S := (fun k_ => P1_ k_)) (by repeat (first | (with_reducible first | exact HK.out | apply Kept.alloc | apply Kept.drewN | apply Kept.drew | refine Kept.setCell ?_ (.inr GW234.out) _) | exact HK.out)) hb)
          have n4_ := zd (zs (by repeat (first | (with_reducible first | exact HB.out | apply zh | apply zi | apply zj | refine zn ?_ GE234.out) | exact HB.out)) hb)
          clear HO_1
          clear HO_7
          clear BK234
          clear HK
          clear HB
          have HO_1 := n0_
          have HO_7 := n1_
          have BK234 := n2_
          have HK := n3_
          have HB := n4_
          clear n0_ n1_ n2_ n3_ n4_
          (try clear hb)
          (try clear hb2)
          (try clear hk)
          (try clear hi)
          refine hK.out _ _ ⟨(zo BK234.out 0).trans rfl, (zo BK234.out 1).trans rfl, (zo BK234.out 2).trans rfl, (zo BK234.out 3).trans rfl, HS4_, HS5_, HS6_, HS7_, HS8_, HS9_, HS10_, HS11_⟩ (fun hHeld => ?_)
          clear hK K
          refine norm_ (a' := ?_) ?_ ?_
          rotate_left
          ·show Act.put _ (some 32) _ = _
           simp only [Act.put, za, zb, zc, i64_w, i32_w]
           rfl
          refine pure_ (i := 17) (N := some 33) (v := ?_) (a' := ?_) #[t_, t_, t_, t_, t_, t_, t_, t_, t_, t_, t_, t_, t_, t_, t_, t_, t_, t_] rfl rfl (any_of HT_.out (by kernel_rfl)) (fun _ _ _ h => h) (Or.inl ⟨by rfl, ?_⟩) ?_ ?_
          rotate_left
          ·intro w'
           go_simp
           with_reducible rfl
          rotate_left
          ·simp only [Act.put, za, zb, zc, i64_w, i32_w]
           rfl
          refine done_ (done_of HT_.out (by kernel_rfl)) ?_
          have p248 : 0 <= (x9_2 : Int) := of_decide_eq_true (by first | (with_reducible assumption) | assumption)
          have q248 : x9_2 < (x1_1.length : Int) := of_decide_eq_true (by first | (with_reducible assumption) | assumption)
          obtain ⟨ad248, e248, hx248_0, hx248_1, hx248_2, hx248_3⟩ := at_T46 (Kd.R_reads' HO_1.out).2.2 x9_2 p248 q248
          obtain rfl : ad241 = ad248 := (by injection e248)
          replace p248 := eq_true p248
          replace q248 := eq_true q248
          try go_wp2_with (first | ((with_reducible refine gate_builtin (b := .append) (xs := #[.tmp 67, .tmp 72]) rfl ?_); at_builtin; refine Kd.R_append k46 (w0 := w0) w0.heap.size rfl (.tmp 67) (.tmp 72) 35 46 (.agg #[(.int .i64 0), (.int .i64 0), (.int .i64 0), (.int .i64 0)]) 32 rfl Try.underlying35 info46 rfl (by decide) (by omega) u7 x7_2 (⟨(rd_T46 x1_1 x9_2).f0, (⟨(rd_T46 x1_1 x9_2).f1.f0, (rd_T46 x1_1 x9_2).f1.f1⟩ : S31), (rd_T46 x1_1 x9_2).f2⟩ : S46) [.int .i64 ((rd_T46 x1_1 x9_2).f0), .int .i64 ((rd_T46 x1_1 x9_2).f1.f0), .int .i64 ((rd_T46 x1_1 x9_2).f1.f1), .int .i64 ((rd_T46 x1_1 x9_2).f2)] (fun k_ => (P1_ k_ ∨ w.heap.size <= k_) /\ some k_ ≠ (.slice (some ad241) x1_1.length co23 : Value).ownBlock /\ k_ ≠ gb234) (fun _ => False) rfl rfl ?aP (fun _ hk => hk.elim) ?aF ?aO ?aB ?aS ?aL ?_; (case aP => exact k46_mkM _ _ _ (⟨(rd_T46 x1_1 x9_2).f0, (⟨(rd_T46 x1_1 x9_2).f1.f0, (rd_T46 x1_1 x9_2).f1.f1⟩ : S31), (rd_T46 x1_1 x9_2).f2⟩ : S46)); (case aB => exact (by repeat (first | (with_reducible first | exact HB.out | apply zh | apply zi | apply zj | refine zn ?_ GE234.out) | exact HB.out))); (case aF => exact (fun k_ hk => ⟨(.inr (Nat.le_trans (by first | exact HK.out.1 | exact (show Kept w _ (fun k_ => P1_ k_) from by repeat (first | (with_reducible first | exact HK.out | apply Kept.alloc | apply Kept.drewN | apply Kept.drew | refine Kept.setCell ?_ (.inr GW234.out) _) | exact HK.out)).1) hk)), Kd.fresh' (Kd.R_lt (by (with_reducible repeat (first | apply ze | apply zf | apply zg)); exact HO_1.out)) k_ hk, Kd.freshB (g := gb234) (o := .cells #[.int .i64 x235000_2, .int .i64 x235001_2, .int .i64 x235002_2, .int .i64 x235003_2] 46 (0, 0)) (by (with_reducible repeat (first | refine zk ?_ _ | refine zl ?_ | refine zm ?_ _)); exact BK234.out) k_ hk⟩)); (case aO => exact (by (with_reducible repeat (first | apply ze | apply zf | apply zg)); exact HO_7.out)); (case aS => exact (below_size (by repeat (first | (with_reducible first | exact HB.out | apply zh | apply zi | apply zj | refine zn ?_ GE234.out) | exact HB.out)))); (case aL => have := LMc22.out; omega); intro v250 w26 ho hb hg hat; rw [← Ny249.out] at ho; have n0_ := zd (Kd.R_after (ok := (fun k_ => (P1_ k_ ∨ w.heap.size <= k_) /\ k_ ≠ gb234)) (by (with_reducible repeat (first | apply ze | apply zf | apply zg)); exact zq HO_1.out (fun _ hk => ⟨⟨hk.1, hk.2.2⟩, hk.2.1⟩)) hg hat); have n1_ := zd (blk_grown (g := gb234) (o := .cells #[.int .i64 x235000_2, .int .i64 x235001_2, .int .i64 x235002_2, .int .i64 x235003_2] 46 (0, 0)) (by (with_reducible repeat (first | refine zk ?_ _ | refine zl ?_ | refine zm ?_ _)); exact BK234.out) hg (Kd.R_away HO_7.out (fun _ hk => hk.2.2))); have n2_ := zd (hb); have n3_ := zd (Kept.of_grown (S := (fun k_ => P1_ k_)) hg (by repeat (first | (with_reducible first | exact HK.out | apply Kept.alloc | apply Kept.drewN | apply Kept.drew | refine Kept.setCell ?_ (.inr GW234.out) _) | exact HK.out)) (fun k_ e_ => (HO_7.out.1 k_ e_).1)); have n4_ := zd (ho); clear HO_1; clear BK234; clear HB; clear HK; clear HO_7; have HO_1 := n0_; have BK234 := n1_; have HB := n2_; have HK := n3_; have HO251 := n4_; clear n0_ n1_ n2_ n3_ n4_; clear ho hb hg hat))
          go_roundg k2
          case measure => have := HK1.out; have := HK2.out; omega
          case rel => exact ⟨(y249), (x8_2), (wrap64 (x9_2 + 1)), (x235000_2), (x235001_2), (x235002_2), (x235003_2), (by first | rfl | (simp; done) | (simp [*]; done)), (by first | rfl | (simp; done) | (simp [*]; done)), H', ⟨by have := HK1.out; have := HK2.out; omega⟩, ⟨by (with_reducible repeat (first | apply ze | apply zf | apply zg)); exact zq HO_1.out (fun _ hk => ⟨hk.1.1, ⟨hk.2, hk.1.2⟩⟩)⟩, ⟨by (with_reducible repeat (first | apply ze | apply zf | apply zg)); exact HO251.out⟩, ⟨by (with_reducible repeat (first | refine zk ?_ _ | refine zl ?_ | refine zm ?_ _)); exact BK234.out⟩, ⟨by repeat (first | (with_reducible first | exact HK.out | apply Kept.alloc | apply Kept.drewN | apply Kept.drew | refine Kept.setCell ?_ (.inr GW234.out) _) | exact HK.out)⟩, ⟨by repeat (first | (with_reducible first | exact HB.out | apply zh | apply zi | apply zj | refine zn ?_ GE234.out) | exact HB.out)⟩⟩
         ·rw [if_neg c22] at H
          exact absurd H (by simp)
       ·rw [if_neg c7] at H
        have c7b0 : (((rd_T46 x1_1 x9_2).f0) == x235000_2) = false := beq_eq_false_iff_ne.mpr c7
        have c7b1 : (((rd_T46 x1_1 x9_2).f0) != x235000_2) = true := bne_iff_ne.mpr c7
        by_cases c27 : x7_2.length < 4398046511104
        ·rw [if_pos c27] at H
         have LMc27 := zd c27
         clear c27
         obtain ⟨y253, hy253⟩ : ∃ y_ : List (S46), y_ = (x7_2 ++ [(⟨(rd_T46 x1_1 x9_2).f0, (⟨(rd_T46 x1_1 x9_2).f1.f0, (rd_T46 x1_1 x9_2).f1.f1⟩ : S31), (rd_T46 x1_1 x9_2).f2⟩ : S46)]) := ⟨_, rfl⟩
         replace H : (leatref11_merge.l1 k2 a0 x1_1 y253 x8_2 (wrap64 (x9_2 + 1)) x235000_2 x235001_2 x235002_2 x235003_2) = some r := by first | (rw [hy253]; with_reducible exact H) | (have H2_ := (Option.bind_some _ _).symm.trans H; rw [hy253]; with_reducible exact H2_) | (have H2_ := (Option.bind_some _ _).symm.trans H; with_reducible exact H2_) | with_reducible exact H | (rw [hy253]; exact H) | exact H
         have Ny253 := zd hy253
         clear hy253
         have H' := zd H
         clear H
         obtain ⟨Ao28, co28, eo28⟩ := Kd.R_slice HO_1.out
         subst eo28
         try go_wp2
         have n0_ := zd (zg HO_1.out)
         have n1_ := zd (zg HO_7.out)
         have n2_ := zd (zl BK234.out)
         have n3_ := zd (Kept.drew HK.out)
         have n4_ := zd (zj HB.out)
         clear HO_1
         clear HO_7
         clear BK234
         clear HK
         clear HB
         have HO_1 := n0_
         have HO_7 := n1_
         have BK234 := n2_
         have HK := n3_
         have HB := n4_
         clear n0_ n1_ n2_ n3_ n4_
         have p241 : 0 <= (x9_2 : Int) := of_decide_eq_true (by first | (with_reducible assumption) | assumption)
         have q241 : x9_2 < (x1_1.length : Int) := of_decide_eq_true (by first | (with_reducible assumption) | assumption)
         obtain ⟨ad241, e241, hx241_0, hx241_1, hx241_2, hx241_3⟩ := at_T46 (Kd.R_reads' HO_1.out).2.2 x9_2 p241 q241
         cases e241
         replace p241 := eq_true p241
         replace q241 := eq_true q241
         refine start_ (n := 18) (S := fun w' => w'.cell? ⟨gb234, 0, none⟩ = some (.int .i64 x235000_2) /\ w'.cell? ⟨gb234, 1, none⟩ = some (.int .i64 x235001_2) /\ w'.cell? ⟨gb234, 2, none⟩ = some (.int .i64 x235002_2) /\ w'.cell? ⟨gb234, 3, none⟩ = some (.int .i64 x235003_2) /\ w'.cell? (ad241.add ((x9_2).toNat * 4)) = some (.int .i64 ((rd_T46 x1_1 x9_2).f0)) /\ w'.cell? ⟨(ad241.add ((x9_2).toNat * 4)).block, (ad241.add ((x9_2).toNat * 4)).off + 1, none⟩ = some (.int .i64 ((rd_T46 x1_1 x9_2).f1.f0)) /\ w'.cell? ⟨(ad241.add ((x9_2).toNat * 4)).block, (ad241.add ((x9_2).toNat * 4)).off + 2, none⟩ = some (.int .i64 ((rd_T46 x1_1 x9_2).f1.f1)) /\ w'.cell? ⟨(ad241.add ((x9_2).toNat * 4)).block, (ad241.add ((x9_2).toNat * 4)).off + 3, none⟩ = some (.int .i64 ((rd_T46 x1_1 x9_2).f2))) (ds := []) #[f_, f_, f_, f_, f_, f_, f_, f_, f_, f_, f_, f_, f_, f_, f_, f_, f_, f_] (by kernel_rfl) rfl rfl ⟨(zo BK234.out 0).trans rfl, (zo BK234.out 1).trans rfl, (zo BK234.out 2).trans rfl, (zo BK234.out 3).trans rfl, hx241_0, hx241_1, hx241_2, hx241_3⟩ (fun hHeld => ?_); refine with_tabW leatref11_merge.tab6 leatref11_merge.bits6 (fun HT_ HW_ => ?_)
         generalize wr.drew = w29 at HO_1 HO_7 BK234 HK HB hx241_0 hx241_1 hx241_2 hx241_3 hHeld ⊢
         refine pure_ (i := 0) (N := some 16) (v := ?_) (a' := ?_) #[t_, f_, f_, f_, f_, f_, f_, f_, f_, f_, f_, f_, f_, f_, f_, f_, f_, f_] rfl rfl (any_of HT_.out (by kernel_rfl)) (fun _ _ _ h => h) (Or.inl ⟨by rfl, ?_⟩) ?_ ?_
         rotate_left
         ·intro w'
          go_simp
          with_reducible rfl
         rotate_left
         ·simp only [Act.put, za, zb, zc, i64_w, i32_w]
          rfl
         refine pure_ (i := 1) (N := some 17) (v := ?_) (a' := ?_) #[t_, t_, f_, f_, f_, f_, f_, f_, f_, f_, f_, f_, f_, f_, f_, f_, f_, f_] rfl rfl (any_of HT_.out (by kernel_rfl)) (fun _ _ _ h => h) (Or.inl ⟨by rfl, ?_⟩) ?_ ?_
         rotate_left
         ·intro w'
          go_simp
          with_reducible rfl
         rotate_left
         ·simp only [Act.put, za, zb, zc, i64_w, i32_w]
          rfl
         refine pure_ (i := 2) (N := some 18) (v := ?_) (a' := ?_) #[t_, t_, t_, f_, f_, f_, f_, f_, f_, f_, f_, f_, f_, f_, f_, f_, f_, f_] rfl rfl (any_of HT_.out (by kernel_rfl)) (fun _ _ _ h => h) (Or.inl ⟨by rfl, ?_⟩) ?_ ?_
         rotate_left
         ·intro w'
          go_simp
          with_reducible rfl
         rotate_left
         ·simp only [Act.put, za, zb, zc, i64_w, i32_w]
          rfl
         refine pure_ (i := 3) (N := some 19) (v := ?_) (a' := ?_) #[t_, t_, t_, t_, f_, f_, f_, f_, f_, f_, f_, f_, f_, f_, f_, f_, f_, f_] rfl rfl (any_of HT_.out (by kernel_rfl)) (fun _ _ _ h => h) (Or.inl ⟨by rfl, ?_⟩) ?_ ?_
         rotate_left
         ·intro w'
          go_simp
          with_reducible rfl
         rotate_left
         ·simp only [Act.put, za, zb, zc, i64_w, i32_w]
          rfl
         refine pure_ (i := 5) (N := some 21) (v := ?_) (a' := ?_) #[t_, t_, t_, t_, f_, t_, f_, f_, f_, f_, f_, f_, f_, f_, f_, f_, f_, f_] rfl rfl (any_of HT_.out (by kernel_rfl)) (fun _ _ _ h => h) (Or.inl ⟨by rfl, ?_⟩) ?_ ?_
         rotate_left
         ·intro w'
          go_simp
          with_reducible rfl
         rotate_left
         ·simp only [Act.put, za, zb, zc, i64_w, i32_w]
          rfl
         refine take_ (i := 4) (N := some 20) (v := ?_) (a' := ?_) #[t_, t_, t_, t_, t_, t_, f_, f_, f_, f_, f_, f_, f_, f_, f_, f_, f_, f_] rfl rfl (take_ofW HT_.out HW_.out (by kernel_rfl)) (fun _ _ _ h => h) (Or.inl ⟨by rfl, ?_⟩) hHeld ?_ ?_
         rotate_left
         ·rintro w' ⟨s0, s1, s2, s3, s4, s5, s6, s7⟩
          go_simp
          with_reducible rfl
         rotate_left
         ·simp only [Act.put, za, zb, zc, i64_w, i32_w]
          rfl
         refine take_ (i := 6) (N := some 22) (v := ?_) (a' := ?_) #[t_, t_, t_, t_, t_, t_, t_, f_, f_, f_, f_, f_, f_, f_, f_, f_, f_, f_] rfl rfl (take_ofW HT_.out HW_.out (by kernel_rfl)) (fun _ _ _ h => h) (Or.inl ⟨by rfl, ?_⟩) hHeld ?_ ?_
         rotate_left
         ·rintro w' ⟨s0, s1, s2, s3, s4, s5, s6, s7⟩
          go_simp
          with_reducible rfl
         rotate_left
         ·simp only [Act.put, za, zb, zc, i64_w, i32_w]
          rfl
         refine pure_ (i := 7) (N := some 23) (v := ?_) (a' := ?_) #[t_, t_, t_, t_, t_, t_, t_, t_, f_, f_, f_, f_, f_, f_, f_, f_, f_, f_] rfl rfl (any_of HT_.out (by kernel_rfl)) (fun _ _ _ h => h) (Or.inl ⟨by rfl, ?_⟩) ?_ ?_
         rotate_left
         ·intro w'
          go_simp
          with_reducible rfl
         rotate_left
         ·simp only [Act.put, za, zb, zc, i64_w, i32_w]
          rfl
         refine pure_ (i := 8) (N := some 24) (v := ?_) (a' := ?_) #[t_, t_, t_, t_, t_, t_, t_, t_, t_, f_, f_, f_, f_, f_, f_, f_, f_, f_] rfl rfl (any_of HT_.out (by kernel_rfl)) (fun _ _ _ h => h) (Or.inl ⟨by rfl, ?_⟩) ?_ ?_
         rotate_left
         ·intro w'
          go_simp
          with_reducible rfl
         rotate_left
         ·simp only [Act.put, za, zb, zc, i64_w, i32_w]
          rfl
         refine pure_ (i := 9) (N := some 25) (v := undef) (a' := ?_) #[t_, t_, t_, t_, t_, t_, t_, t_, t_, t_, f_, f_, f_, f_, f_, f_, f_, f_] rfl rfl (any_of HT_.out (by kernel_rfl)) (fun _ _ _ h => h) (Or.inr ⟨by rfl, rfl⟩) ?_ ?_
         rotate_left
         ·simp only [Act.put, za, zb, zc, i64_w, i32_w]
          rfl
         refine pure_ (i := 10) (N := some 26) (v := undef) (a' := ?_) #[t_, t_, t_, t_, t_, t_, t_, t_, t_, t_, t_, f_, f_, f_, f_, f_, f_, f_] rfl rfl (any_of HT_.out (by kernel_rfl)) (fun _ _ _ h => h) (Or.inr ⟨by rfl, rfl⟩) ?_ ?_
         rotate_left
         ·simp only [Act.put, za, zb, zc, i64_w, i32_w]
          rfl
         refine pure_ (i := 11) (N := some 27) (v := undef) (a' := ?_) #[t_, t_, t_, t_, t_, t_, t_, t_, t_, t_, t_, t_, f_, f_, f_, f_, f_, f_] rfl rfl (any_of HT_.out (by kernel_rfl)) (fun _ _ _ h => h) (Or.inr ⟨by rfl, rfl⟩) ?_ ?_
         rotate_left
         ·simp only [Act.put, za, zb, zc, i64_w, i32_w]
          rfl
         refine pure_ (i := 12) (N := some 28) (v := undef) (a' := ?_) #[t_, t_, t_, t_, t_, t_, t_, t_, t_, t_, t_, t_, t_, f_, f_, f_, f_, f_] rfl rfl (any_of HT_.out (by kernel_rfl)) (fun _ _ _ h => h) (Or.inr ⟨by rfl, rfl⟩) ?_ ?_
         rotate_left
         ·simp only [Act.put, za, zb, zc, i64_w, i32_w]
          rfl
         refine pure_ (i := 13) (N := some 29) (v := undef) (a' := ?_) #[t_, t_, t_, t_, t_, t_, t_, t_, t_, t_, t_, t_, t_, t_, f_, f_, f_, f_] rfl rfl (any_of HT_.out (by kernel_rfl)) (fun _ _ _ h => h) (Or.inr ⟨by rfl, rfl⟩) ?_ ?_
         rotate_left
         ·simp only [Act.put, za, zb, zc, i64_w, i32_w]
          rfl
         refine pure_ (i := 14) (N := some 30) (v := undef) (a' := ?_) #[t_, t_, t_, t_, t_, t_, t_, t_, t_, t_, t_, t_, t_, t_, t_, f_, f_, f_] rfl rfl (any_of HT_.out (by kernel_rfl)) (fun _ _ _ h => h) (Or.inr ⟨by rfl, rfl⟩) ?_ ?_
         rotate_left
         ·simp only [Act.put, za, zb, zc, i64_w, i32_w]
          rfl
         refine pure_ (i := 15) (N := some 31) (v := undef) (a' := ?_) #[t_, t_, t_, t_, t_, t_, t_, t_, t_, t_, t_, t_, t_, t_, t_, t_, f_, f_] rfl rfl (any_of HT_.out (by kernel_rfl)) (fun _ _ _ h => h) (Or.inr ⟨by rfl, rfl⟩) ?_ ?_
         rotate_left
         ·simp only [Act.put, za, zb, zc, i64_w, i32_w]
          rfl
         refine pure_ (i := 16) (N := some 32) (v := undef) (a' := ?_) #[t_, t_, t_, t_, t_, t_, t_, t_, t_, t_, t_, t_, t_, t_, t_, t_, t_, f_] rfl rfl (any_of HT_.out (by kernel_rfl)) (fun _ _ _ h => h) (Or.inr ⟨by rfl, rfl⟩) ?_ ?_
         rotate_left
         ·simp only [Act.put, za, zb, zc, i64_w, i32_w]
          rfl
         refine pure_ (i := 17) (N := some 33) (v := ?_) (a' := ?_) #[t_, t_, t_, t_, t_, t_, t_, t_, t_, t_, t_, t_, t_, t_, t_, t_, t_, t_] rfl rfl (any_of HT_.out (by kernel_rfl)) (fun _ _ _ h => h) (Or.inl ⟨by rfl, ?_⟩) ?_ ?_
         rotate_left
         ·intro w'
          go_simp
          with_reducible rfl
         rotate_left
         ·simp only [Act.put, za, zb, zc, i64_w, i32_w]
          rfl
         refine done_ (done_of HT_.out (by kernel_rfl)) ?_
         have p252 : 0 <= (x9_2 : Int) := of_decide_eq_true (by first | (with_reducible assumption) | assumption)
         have q252 : x9_2 < (x1_1.length : Int) := of_decide_eq_true (by first | (with_reducible assumption) | assumption)
         obtain ⟨ad252, e252, hx252_0, hx252_1, hx252_2, hx252_3⟩ := at_T46 (Kd.R_reads' HO_1.out).2.2 x9_2 p252 q252
         obtain rfl : ad241 = ad252 := (by injection e252)
         replace p252 := eq_true p252
         replace q252 := eq_true q252
         try go_wp2_with (first | ((with_reducible refine gate_builtin (b := .append) (xs := #[.tmp 67, .tmp 72]) rfl ?_); at_builtin; refine Kd.R_append k46 (w0 := w0) w0.heap.size rfl (.tmp 67) (.tmp 72) 35 46 (.agg #[(.int .i64 0), (.int .i64 0), (.int .i64 0), (.int .i64 0)]) 32 rfl Try.underlying35 info46 rfl (by decide) (by omega) u7 x7_2 (⟨(rd_T46 x1_1 x9_2).f0, (⟨(rd_T46 x1_1 x9_2).f1.f0, (rd_T46 x1_1 x9_2).f1.f1⟩ : S31), (rd_T46 x1_1 x9_2).f2⟩ : S46) [.int .i64 ((rd_T46 x1_1 x9_2).f0), .int .i64 ((rd_T46 x1_1 x9_2).f1.f0), .int .i64 ((rd_T46 x1_1 x9_2).f1.f1), .int .i64 ((rd_T46 x1_1 x9_2).f2)] (fun k_ => (P1_ k_ ∨ w.heap.size <= k_) /\ some k_ ≠ (.slice (some ad241) x1_1.length co28 : Value).ownBlock /\ k_ ≠ gb234) (fun _ => False) rfl rfl ?aP (fun _ hk => hk.elim) ?aF ?aO ?aB ?aS ?aL ?_; (case aP => exact k46_mkM _ _ _ (⟨(rd_T46 x1_1 x9_2).f0, (⟨(rd_T46 x1_1 x9_2).f1.f0, (rd_T46 x1_1 x9_2).f1.f1⟩ : S31), (rd_T46 x1_1 x9_2).f2⟩ : S46)); (case aB => exact (by repeat (first | (with_reducible first | exact HB.out | apply zh | apply zi | apply zj | refine zn ?_ GE234.out) | exact HB.out))); (case aF => exact (fun k_ hk => ⟨(.inr (Nat.le_trans (by first | exact HK.out.1 | exact (show Kept w _ (fun k_ => P1_ k_) from by repeat (first | (with_reducible first | exact HK.out | apply Kept.alloc | apply Kept.drewN | apply Kept.drew | refine Kept.setCell ?_ (.inr GW234.out) _) | exact HK.out)).1) hk)), Kd.fresh' (Kd.R_lt (by (with_reducible repeat (first | apply ze | apply zf | apply zg)); exact HO_1.out)) k_ hk, Kd.freshB (g := gb234) (o := .cells #[.int .i64 x235000_2, .int .i64 x235001_2, .int .i64 x235002_2, .int .i64 x235003_2] 46 (0, 0)) (by (with_reducible repeat (first | refine zk ?_ _ | refine zl ?_ | refine zm ?_ _)); exact BK234.out) k_ hk⟩)); (case aO => exact (by (with_reducible repeat (first | apply ze | apply zf | apply zg)); exact HO_7.out)); (case aS => exact (below_size (by repeat (first | (with_reducible first | exact HB.out | apply zh | apply zi | apply zj | refine zn ?_ GE234.out) | exact HB.out)))); (case aL => have := LMc27.out; omega); intro v254 w30 ho hb hg hat; rw [← Ny253.out] at ho; have n0_ := zd (Kd.R_after (ok := (fun k_ => (P1_ k_ ∨ w.heap.size <= k_) /\ k_ ≠ gb234)) (by (with_reducible repeat (first | apply ze | apply zf | apply zg)); exact zq HO_1.out (fun _ hk => ⟨⟨hk.1, hk.2.2⟩, hk.2.1⟩)) hg hat); have n1_ := zd (blk_grown (g := gb234) (o := .cells #[.int .i64 x235000_2, .int .i64 x235001_2, .int .i64 x235002_2, .int .i64 x235003_2] 46 (0, 0)) (by (with_reducible repeat (first | refine zk ?_ _ | refine zl ?_ | refine zm ?_ _)); exact BK234.out) hg (Kd.R_away HO_7.out (fun _ hk => hk.2.2))); have n2_ := zd (hb); have n3_ := zd (Kept.of_grown (S := (fun k_ => P1_ k_)) hg (by repeat (first | (with_reducible first | exact HK.out | apply Kept.alloc | apply Kept.drewN | apply Kept.drew | refine Kept.setCell ?_ (.inr GW234.out) _) | exact HK.out)) (fun k_ e_ => (HO_7.out.1 k_ e_).1)); have n4_ := zd (ho); clear HO_1; clear BK234; clear HB; clear HK; clear HO_7; have HO_1 := n0_; have BK234 := n1_; have HB := n2_; have HK := n3_; have HO255 := n4_; clear n0_ n1_ n2_ n3_ n4_; clear ho hb hg hat))
         go_roundg k2
         case measure => have := HK1.out; have := HK2.out; omega
         case rel => exact ⟨(y253), (x8_2), (wrap64 (x9_2 + 1)), (x235000_2), (x235001_2), (x235002_2), (x235003_2), (by first | rfl | (simp; done) | (simp [*]; done)), (by first | rfl | (simp; done) | (simp [*]; done)), H', ⟨by have := HK1.out; have := HK2.out; omega⟩, ⟨by (with_reducible repeat (first | apply ze | apply zf | apply zg)); exact zq HO_1.out (fun _ hk => ⟨hk.1.1, ⟨hk.2, hk.1.2⟩⟩)⟩, ⟨by (with_reducible repeat (first | apply ze | apply zf | apply zg)); exact HO255.out⟩, ⟨by (with_reducible repeat (first | refine zk ?_ _ | refine zl ?_ | refine zm ?_ _)); exact BK234.out⟩, ⟨by repeat (first | (with_reducible first | exact HK.out | apply Kept.alloc | apply Kept.drewN | apply Kept.drew | refine Kept.setCell ?_ (.inr GW234.out) _) | exact HK.out)⟩, ⟨by repeat (first | (with_reducible first | exact HB.out | apply zh | apply zi | apply zj | refine zn ?_ GE234.out) | exact HB.out)⟩⟩
        ·rw [if_neg c27] at H
         exact absurd H (by simp)
      ·rw [if_neg c6] at H
       exact absurd H (by simp)
     ·rw [if_neg c5] at H
      have c5b0 : decide (x9_2 < (x1_1.length : Int)) = false := decide_eq_false c5
      clear c5
      by_cases c31 : x8_2 = true
      ·subst c31
       have H1 : (leatref11_merge.l0 k2 a0 x7_2 x235000_2 x235001_2 x235002_2 x235003_2) = some r := by rw [if_pos rfl] at H; exact H
       clear H
       have H := H1
       clear H1
       have H' := zd H
       clear H
       obtain ⟨Ao32, co32, eo32⟩ := Kd.R_slice HO_1.out
       subst eo32
       go_wp2
       go_roundg k2
       case measure => have := HK1.out; have := HK2.out; omega
       case rel => exact ⟨(x7_2), (x235000_2), (x235001_2), (x235002_2), (x235003_2), H', ⟨by have := HK1.out; have := HK2.out; omega⟩, ⟨by (with_reducible repeat (first | apply ze | apply zf | apply zg)); exact zq HO_7.out (fun _ hk => ⟨hk.1, hk.2.2⟩)⟩, ⟨by (with_reducible repeat (first | refine zk ?_ _ | refine zl ?_ | refine zm ?_ _)); exact BK234.out⟩, ⟨by repeat (first | (with_reducible first | exact HK.out | apply Kept.alloc | apply Kept.drewN | apply Kept.drew | refine Kept.setCell ?_ (.inr GW234.out) _) | exact HK.out)⟩, ⟨by repeat (first | (with_reducible first | exact HB.out | apply zh | apply zi | apply zj | refine zn ?_ GE234.out) | exact HB.out)⟩⟩
      ·replace c31 := Bool.eq_false_iff.mpr c31
       subst c31
       have H1 : (if x7_2.length < 4398046511104 then ((leatref11_Sort.f k2 (x7_2 ++ [(⟨x235000_2, (⟨x235001_2, x235002_2⟩ : S31), x235003_2⟩ : S46)])).bind fun t238 => (some t238)) else (none)) = some r := by rw [if_neg (show ¬ (false = true) by decide)] at H; exact H
       clear H
       have H := H1
       clear H1
       by_cases c33 : x7_2.length < 4398046511104
       ·rw [if_pos c33] at H
        have LMc33 := zd c33
        clear c33
        obtain ⟨y235, hy235⟩ : ∃ y_ : List (S46), y_ = (x7_2 ++ [(⟨x235000_2, (⟨x235001_2, x235002_2⟩ : S31), x235003_2⟩ : S46)]) := ⟨_, rfl⟩
        replace H : ((leatref11_Sort.f k2 y235).bind fun t238 => (some t238)) = some r := by first | (rw [hy235]; with_reducible exact H) | (have H2_ := (Option.bind_some _ _).symm.trans H; rw [hy235]; with_reducible exact H2_) | (have H2_ := (Option.bind_some _ _).symm.trans H; with_reducible exact H2_) | with_reducible exact H | (rw [hy235]; exact H) | exact H
        have Ny235 := zd hy235
        clear hy235
        replace H := Option.bind_eq_some_iff.mp H
        obtain ⟨t238, A340, H⟩ := H
        replace H : (some t238) = some r := H
        have A34 := zd A340
        clear A340
        obtain rfl := Option.some.inj H
        obtain ⟨Ao35, co35, eo35⟩ := Kd.R_slice HO_1.out
        subst eo35
        have hcz36_0 : wr.cell? ⟨gb234, 0, none⟩ = some (.int .i64 x235000_2) := (zo BK234.out 0).trans rfl
        have hcz36_1 : wr.cell? ⟨gb234, 1, none⟩ = some (.int .i64 x235001_2) := (zo BK234.out 1).trans rfl
        have hcz36_2 : wr.cell? ⟨gb234, 2, none⟩ = some (.int .i64 x235002_2) := (zo BK234.out 2).trans rfl
        have hcz36_3 : wr.cell? ⟨gb234, 3, none⟩ = some (.int .i64 x235003_2) := (zo BK234.out 3).trans rfl
        have hfz36_0 := blk_frozen BK234.out 0
        have hfz36_1 := blk_frozen BK234.out 1
        have hfz36_2 := blk_frozen BK234.out 2
        have hfz36_3 := blk_frozen BK234.out 3
        go_wp2_with (first | ((with_reducible refine gate_builtin (b := .append) (xs := #[.tmp 77, .tmp 79]) rfl ?_); at_builtin; refine Kd.R_append k46 (w0 := w0) w0.heap.size rfl (.tmp 77) (.tmp 79) 35 46 (.agg #[(.int .i64 0), (.int .i64 0), (.int .i64 0), (.int .i64 0)]) 32 rfl Try.underlying35 info46 rfl (by decide) (by omega) u7 x7_2 (⟨x235000_2, (⟨x235001_2, x235002_2⟩ : S31), x235003_2⟩ : S46) [.int .i64 x235000_2, .int .i64 x235001_2, .int .i64 x235002_2, .int .i64 x235003_2] (fun k_ => (P1_ k_ ∨ w.heap.size <= k_) /\ some k_ ≠ (.slice Ao35 x1_1.length co35 : Value).ownBlock /\ k_ ≠ gb234) (fun _ => False) rfl rfl ?aP (fun _ hk => hk.elim) ?aF ?aO ?aB ?aS ?aL ?_; (case aP => exact k46_mkM _ _ _ (⟨x235000_2, (⟨x235001_2, x235002_2⟩ : S31), x235003_2⟩ : S46)); (case aB => exact (by repeat (first | (with_reducible first | exact HB.out | apply zh | apply zi | apply zj | refine zn ?_ GE234.out) | exact HB.out))); (case aF => exact (fun k_ hk => ⟨(.inr (Nat.le_trans (by first | exact HK.out.1 | exact (show Kept w _ (fun k_ => P1_ k_) from by repeat (first | (with_reducible first | exact HK.out | apply Kept.alloc | apply Kept.drewN | apply Kept.drew | refine Kept.setCell ?_ (.inr GW234.out) _) | exact HK.out)).1) hk)), Kd.fresh' (Kd.R_lt (by (with_reducible repeat (first | apply ze | apply zf | apply zg)); exact HO_1.out)) k_ hk, Kd.freshB (g := gb234) (o := .cells #[.int .i64 x235000_2, .int .i64 x235001_2, .int .i64 x235002_2, .int .i64 x235003_2] 46 (0, 0)) (by (with_reducible repeat (first | refine zk ?_ _ | refine zl ?_ | refine zm ?_ _)); exact BK234.out) k_ hk⟩)); (case aO => exact (by (with_reducible repeat (first | apply ze | apply zf | apply zg)); exact HO_7.out)); (case aS => exact (below_size (by repeat (first | (with_reducible first | exact HB.out | apply zh | apply zi | apply zj | refine zn ?_ GE234.out) | exact HB.out)))); (case aL => have := LMc33.out; omega); intro v236 w37 ho hb hg hat; rw [← Ny235.out] at ho; have n0_ := zd (Kd.R_after (ok := (fun k_ => (P1_ k_ ∨ w.heap.size <= k_) /\ k_ ≠ gb234)) (by (with_reducible repeat (first | apply ze | apply zf | apply zg)); exact zq HO_1.out (fun _ hk => ⟨⟨hk.1, hk.2.2⟩, hk.2.1⟩)) hg hat); have n1_ := zd (blk_grown (g := gb234) (o := .cells #[.int .i64 x235000_2, .int .i64 x235001_2, .int .i64 x235002_2, .int .i64 x235003_2] 46 (0, 0)) (by (with_reducible repeat (first | refine zk ?_ _ | refine zl ?_ | refine zm ?_ _)); exact BK234.out) hg (Kd.R_away HO_7.out (fun _ hk => hk.2.2))); have n2_ := zd (hb); have n3_ := zd (Kept.of_grown (S := (fun k_ => P1_ k_)) hg (by repeat (first | (with_reducible first | exact HK.out | apply Kept.alloc | apply Kept.drewN | apply Kept.drew | refine Kept.setCell ?_ (.inr GW234.out) _) | exact HK.out)) (fun k_ e_ => (HO_7.out.1 k_ e_).1)); have n4_ := zd (ho); clear HO_1; clear BK234; clear HB; clear HK; clear HO_7; have HO_1 := n0_; have BK234 := n1_; have HB := n2_; have HK := n3_; have HO237 := n4_; clear n0_ n1_ n2_ n3_ n4_; clear ho hb hg hat; obtain ⟨Ao38, co38, eo38⟩ := Kd.R_slice HO237.out; subst eo38) | ((with_reducible refine gate_callee (f := 29) rfl ?_); refine goesL_ (some 81) rfl rfl Try.func29 (by kernel_rfl) rfl #[.slice Ao38 y235.length co38] rfl (by (try simp only [List.map_toArray, List.map_cons, List.map_nil]); first | done | rfl | (simp only [List.length_drop, List.length_take]; rfl)) ?_; (with_reducible refine (leatref11_Sort.calls k2 _ _ y235 t238 _ ?side1 ?side2 A34.out).mono ?_); (case side1 => repeat (first | exact (Kd.R_reads' HO237.out).2.2 | (with_reducible refine Kd.C_alloc ?_ _) | (with_reducible refine Kd.C_drewN ?_ _) | (with_reducible refine Kd.C_drew ?_))); (case side2 => exact (Kd.R_reads' HO237.out).2.1); rintro e w39 ⟨v239, rfl, ho0, hb⟩; refine ⟨_, rfl, ?_⟩; have n0_ := zd (Kd.R_elder' (by (with_reducible repeat (first | apply ze | apply zf | apply zg)); exact HO_1.out) (Kd.R_base ho0) hb); have n1_ := zd (Kd.R_elder' (by (with_reducible repeat (first | apply ze | apply zf | apply zg)); exact HO237.out) (Kd.R_base ho0) hb); have n2_ := zd (Kd.R_lower (Kd.R_newB (Kd.R_new' (Kd.R_new' (Kd.R_newM (M := fun k_ => (P1_ k_ ∨ w.heap.size <= k_)) ho0 (by first | exact HK.out.1 | exact (show Kept w _ (fun k_ => P1_ k_) from by repeat (first | (with_reducible first | exact HK.out | apply Kept.alloc | apply Kept.drewN | apply Kept.drew | refine Kept.setCell ?_ (.inr GW234.out) _) | exact HK.out)).1) (fun k_ h_ => .inr h_)) (Kd.R_lt (by (with_reducible repeat (first | apply ze | apply zf | apply zg)); exact HO_1.out))) (Kd.R_lt (by (with_reducible repeat (first | apply ze | apply zf | apply zg)); exact HO237.out))) (g := gb234) (o := .cells #[.int .i64 x235000_2, .int .i64 x235001_2, .int .i64 x235002_2, .int .i64 x235003_2] 46 (0, 0)) (by (with_reducible repeat (first | refine zk ?_ _ | refine zl ?_ | refine zm ?_ _)); exact BK234.out)) (below_size (by repeat (first | (with_reducible first | exact HB.out | apply zh | apply zi | apply zj | refine zn ?_ GE234.out) | exact HB.out)))); have n3_ := zd (zp (g := gb234) (o := .cells #[.int .i64 x235000_2, .int .i64 x235001_2, .int .i64 x235002_2, .int .i64 x235003_2] 46 (0, 0)) (by (with_reducible repeat (first | refine zk ?_ _ | refine zl ?_ | refine zm ?_ _)); exact BK234.out) hb); have n4_ := zd (Kept.below (S := (fun k_ => P1_ k_)) (by repeat (first | (with_reducible first | exact HK.out | apply Kept.alloc | apply Kept.drewN | apply Kept.drew | refine Kept.setCell ?_ (.inr GW234.out) _) | exact HK.out)) hb); have n5_ := zd (zs (by repeat (first | (with_reducible first | exact HB.out | apply zh | apply zi | apply zj | refine zn ?_ GE234.out) | exact HB.out)) hb); clear HO_1; clear HO237; clear BK234; clear HK; clear HB; have HO_1 := n0_; have HO237 := n1_; have HO240 := n2_; have BK234 := n3_; have HK := n4_; have HB := n5_; clear n0_ n1_ n2_ n3_ n4_ n5_; (try clear hb); (try clear hb2); (try clear hk); (try clear hi); (try clear ho0)))
        go_ret
        exact ⟨_, by first | rfl | (simp [errW_none, errW_some] <;> rfl) | (simp [*, errW_none, errW_some] <;> rfl), by (with_reducible repeat (first | apply ze | apply zf | apply zg)); exact zq HO240.out (fun _ hk => hk.1.1.1.1), by repeat (first | (with_reducible first | exact HB.out | apply zh | apply zi | apply zj | refine zn ?_ GE234.out) | exact HB.out), by repeat (first | (with_reducible first | exact HK.out | apply Kept.alloc | apply Kept.drewN | apply Kept.drew | refine Kept.setCell ?_ (.inr GW234.out) _) | exact HK.out)⟩
       ·rw [if_neg c33] at H
        exact absurd H (by simp)
end Go.Proofs.Ytdinbnbogdadgaa.X
namespace Go.Proofs.Ytdinbnbogdadgaa.X
open Go.RowKit Go.Proofs.YtdinbnbogdadgaaW.PrintWords Go.Proofs.YtdinbnbogdadgaaW.PrintLast Go.Proofs.YtdinbnbogdadgaaW.PrintMore
attribute [local go_sem] max2_int min2_int max_two min_two max_three min_three max_four min_four   -- for this text's walks alone
set_option linter.unusedVariables false
set_option linter.unusedSimpArgs false
def leatref11_Fire.l0 : Nat -> List (S46) -> Int -> List (S37) -> List (S46) -> Int -> Option ((List (S37)) × (List (S46)))
 | 0, _, _, _, _, _ => none
 | k + 1, x0, x1, x6, x7, x8 => if x8 < (x0.length : Int) then (if 0 <= x8 then (if (wrap64 (((rd_T46 x0 x8).f1.f1) - 1)) <= x1 then (if x6.length < 5864062014805 then (leatref11_Fire.l0 k x0 x1 (x6 ++ [(⟨(rd_T46 x0 x8).f0, wrap64 (((rd_T46 x0 x8).f1.f1) - 1), (rd_T46 x0 x8).f2⟩ : S37)]) x7 (wrap64 (x8 + 1))) else (none)) else (if x7.length < 4398046511104 then (leatref11_Fire.l0 k x0 x1 x6 (x7 ++ [(⟨(rd_T46 x0 x8).f0, (⟨(rd_T46 x0 x8).f1.f0, (rd_T46 x0 x8).f1.f1⟩ : S31), (rd_T46 x0 x8).f2⟩ : S46)]) (wrap64 (x8 + 1))) else (none))) else (none)) else (some (x6, x7))
def leatref11_Fire.f (k : Nat) (l0 : List (S46)) (a1 : Int) : Option ((List (S37)) × (List (S46))) := (leatref11_Sort.f k l0).bind fun t296 => (leatref11_Fire.l0 k t296 a1 ([] : List (S37)) ([] : List (S46)) 0)
def leatref11_Fire.T8 : Bool × List (List Nat × List Nat) := (true, [([], []), ([], []), ([], []), ([1, 2], [1, 2]), ([3], [3]), ([4], [4]), ([], []), ([], []), ([6, 7], [6, 7]), ([8], [8]), ([9], [9]), ([10], [10]), ([11], [11]), ([], []), ([], []), ([13, 14], [13, 14]), ([15], [15]), ([16], [16]), ([5, 12, 17], [5, 12, 17]), ([18], [18]), ([0, 19], [0, 19]), ([20, 20, 0, 1, 2, 3, 4, 5, 6, 7, 8, 9, 10, 11, 12, 13, 14, 15, 16, 17, 18, 19, 20], [0, 20])])
def leatref11_Fire.B8 : List Nat := [0, 0, 0, 6, 14, 30, 0, 0, 192, 448, 960, 1984, 4032, 0, 0, 24576, 57344, 122880, 262142, 524286, 1048575, 2097151]
theorem leatref11_Fire.tab8 : rtab .any (opsOf Try.f22 8) = leatref11_Fire.T8 := by kernel_rfl
theorem leatref11_Fire.bits8 : waitsOk leatref11_Fire.T8.2 leatref11_Fire.B8 = true := by kernel_rfl
set_option maxHeartbeats 8000000 in
set_option maxRecDepth 100000 in
theorem leatref11_Fire.calls (k : Nat) (A0 : Option Addr) (c0 : Nat) (l0 : List (S46)) (a1 : Int) (r1 : List (S37)) (r2 : List (S46)) (w : World) (hr0 : Kd.C k46 w A0 l0.length l0) (hc0 : l0.length <= c0) (h : leatref11_Fire.f k l0 a1 = some (r1, r2)) :
  Calls Try.prog 22 #[.slice A0 l0.length c0, .int .i64 a1] w fun e w' => ∃ v0_ v1_ : Value, e = .returned (.tuple #[v0_, v1_]) /\ Kd.R k37 37 w' w.heap.size (fun _ => True) v0_ r1 /\ Kd.R k46 46 w' w.heap.size (fun _ => True) v1_ r2 /\ Below w.heap.size w w' := by
 have hu37 := Try.underlying37
 have hu46 := Try.underlying46
 have HR0 := zd hr0
 have HC0 := zd hc0
 clear hr0 hc0
 have HB := zd (Below.refl w.heap.size w)
 have H : ((leatref11_Sort.f k l0).bind fun t296 => (leatref11_Fire.l0 k t296 a1 ([] : List (S37)) ([] : List (S46)) 0)) = some (r1, r2) := h
 clear h
 replace H := Option.bind_eq_some_iff.mp H
 obtain ⟨t296, A30, H⟩ := H
 replace H : (leatref11_Fire.l0 k t296 a1 ([] : List (S37)) ([] : List (S46)) 0) = some (r1, r2) := H
 have A3 := zd A30
 clear A30
 have H' := zd H
 clear H
 go_enter Try.func22, Try.ntmps22
 go_wp2_with (first | ((with_reducible refine gate_callee (f := 29) rfl ?_); refine goesL_ (some 10) rfl rfl Try.func29 (by kernel_rfl) rfl #[.slice A0 l0.length c0] rfl (by (try simp only [List.map_toArray, List.map_cons, List.map_nil]); first | done | rfl | (simp only [List.length_drop, List.length_take]; rfl)) ?_; (with_reducible refine (leatref11_Sort.calls k _ _ l0 t296 _ ?side1 ?side2 A3.out).mono ?_); (case side1 => repeat (first | exact HR0.out | (with_reducible refine Kd.C_alloc ?_ _) | (with_reducible refine Kd.C_drewN ?_ _) | (with_reducible refine Kd.C_drew ?_))); (case side2 => exact HC0.out); rintro e w4 ⟨v297, rfl, ho0, hb⟩; refine ⟨_, rfl, ?_⟩; have n0_ := zd (Kd.R_lower ho0 (below_size (by repeat (first | (with_reducible first | exact HB.out | apply zh | apply zi | apply zj) | exact HB.out)))); have n1_ := zd (zs (by repeat (first | (with_reducible first | exact HB.out | apply zh | apply zi | apply zj) | exact HB.out)) hb); clear HB; have HO298 := n0_; have HB := n1_; clear n0_ n1_; (try clear hb); (try clear hb2); (try clear hk); (try clear hi); (try clear ho0)))
 go_loopg [6, 7, 8] k (fun kq v6 v7 v8 w' => ∃ (x6_1 : List (S37)) (x7_1 : List (S46)) (x8_1 : Int), v8 = .int .i64 x8_1 /\ Aside0 (leatref11_Fire.l0 kq t296 a1 x6_1 x7_1 x8_1 = some (r1, r2)) /\ Aside0 (kq <= k) /\ Aside0 (Kd.R k46 46 w' w.heap.size (fun k_ => some k_ ≠ (v7 : Value).ownBlock) v297 t296) /\ Aside0 (Kd.R k37 37 w' w.heap.size (fun _ => True) v6 x6_1) /\ Aside0 (Kd.R k46 46 w' w.heap.size (fun k_ => some k_ ≠ (v297 : Value).ownBlock) v7 x7_1) /\ Aside0 (Below w.heap.size w w'))
 case atStart => exact ⟨(([] : List (S37))), (([] : List (S46))), (0), (by first | rfl | (simp; done) | (simp [*]; done)), H', ⟨Nat.le_refl _⟩, ⟨by (with_reducible repeat (first | apply ze | apply zf | apply zg)); exact zq HO298.out (fun _ hk => (by simp [Value.ownBlock]))⟩, ⟨by first | exact Kd.R_nil _ _ _ _ _ | exact Kd.N_nil _ _ _ _ _ | exact Kd.V_nil _ _ _ _ _ | exact Kd.Q_nil _ _ _ _ _ | exact Kd.S_nil _ _ _ _ _⟩, ⟨by first | exact Kd.R_nil _ _ _ _ _ | exact Kd.N_nil _ _ _ _ _ | exact Kd.V_nil _ _ _ _ _ | exact Kd.Q_nil _ _ _ _ _ | exact Kd.S_nil _ _ _ _ _⟩, ⟨by repeat (first | (with_reducible first | exact HB.out | apply zh | apply zi | apply zj) | exact HB.out)⟩⟩
 case round =>
  clear H'
  try clear c2; try clear p2
  obtain ⟨x6_1, x7_1, x8_1, rfl, HA, HK1, HO_0, HO_6, HO_7, HB⟩ := hrel
  cases gk with
  | zero => exact absurd HA.out (by simp [leatref11_Fire.l0])
  | succ k1 =>
   have H := HA.out
   clear HA
   simp only [leatref11_Fire.l0] at H
   by_cases c5 : x8_1 < (t296.length : Int)
   ·rw [if_pos c5] at H
    have c5b0 : decide (x8_1 < (t296.length : Int)) = true := decide_eq_true c5
    clear c5
    by_cases c6 : 0 <= x8_1
    ·rw [if_pos c6] at H
     have c6b0 : decide (0 <= x8_1) = true := decide_eq_true c6
     clear c6
     by_cases c7 : (wrap64 (((rd_T46 t296 x8_1).f1.f1) - 1)) <= a1
     ·rw [if_pos c7] at H
      have c7b0 : decide ((wrap64 (((rd_T46 t296 x8_1).f1.f1) - 1)) <= a1) = true := decide_eq_true c7
      clear c7
      by_cases c8 : x6_1.length < 5864062014805
      ·rw [if_pos c8] at H
       have LMc8 := zd c8
       clear c8
       obtain ⟨y303, hy303⟩ : ∃ y_ : List (S37), y_ = (x6_1 ++ [(⟨(rd_T46 t296 x8_1).f0, wrap64 (((rd_T46 t296 x8_1).f1.f1) - 1), (rd_T46 t296 x8_1).f2⟩ : S37)]) := ⟨_, rfl⟩
       replace H : (leatref11_Fire.l0 k1 t296 a1 y303 x7_1 (wrap64 (x8_1 + 1))) = some (r1, r2) := by first | (rw [hy303]; with_reducible exact H) | (have H2_ := (Option.bind_some _ _).symm.trans H; rw [hy303]; with_reducible exact H2_) | (have H2_ := (Option.bind_some _ _).symm.trans H; with_reducible exact H2_) | with_reducible exact H | (rw [hy303]; exact H) | exact H
       have Ny303 := zd hy303
       clear hy303
       have H' := zd H
       clear H
       obtain ⟨Ao9, co9, eo9⟩ := Kd.R_slice HO_0.out
       subst eo9
       have p299 : 0 <= (x8_1 : Int) := of_decide_eq_true (by first | (with_reducible assumption) | assumption)
       have q299 : x8_1 < (t296.length : Int) := of_decide_eq_true (by first | (with_reducible assumption) | assumption)
       obtain ⟨ad299, e299, hx299_0, hx299_1, hx299_2, hx299_3⟩ := at_T46 (Kd.R_reads' HO_0.out).2.2 x8_1 p299 q299
       cases e299
       replace p299 := eq_true p299
       replace q299 := eq_true q299
       try go_wp2
       have n0_ := zd (zg HO_0.out)
       have n1_ := zd (zg HO_6.out)
       have n2_ := zd (zg HO_7.out)
       have n3_ := zd (zj HB.out)
       clear HO_0
       clear HO_6
       clear HO_7
       clear HB
       have HO_0 := n0_
       have HO_6 := n1_
       have HO_7 := n2_
       have HB := n3_
       clear n0_ n1_ n2_ n3_
       have p300 : 0 <= (x8_1 : Int) := of_decide_eq_true (by first | (with_reducible assumption) | assumption)
       have q300 : x8_1 < (t296.length : Int) := of_decide_eq_true (by first | (with_reducible assumption) | assumption)
       obtain ⟨ad300, e300, hx300_0, hx300_1, hx300_2, hx300_3⟩ := at_T46 (Kd.R_reads' HO_0.out).2.2 x8_1 p300 q300
       obtain rfl : ad299 = ad300 := (by injection e300)
       replace p300 := eq_true p300
       replace q300 := eq_true q300
       have p301 : 0 <= (x8_1 : Int) := of_decide_eq_true (by first | (with_reducible assumption) | assumption)
       have q301 : x8_1 < (t296.length : Int) := of_decide_eq_true (by first | (with_reducible assumption) | assumption)
       obtain ⟨ad301, e301, hx301_0, hx301_1, hx301_2, hx301_3⟩ := at_T46 (Kd.R_reads' HO_0.out).2.2 x8_1 p301 q301
       obtain rfl : ad299 = ad301 := (by injection e301)
       replace p301 := eq_true p301
       replace q301 := eq_true q301
       have p302 : 0 <= (x8_1 : Int) := of_decide_eq_true (by first | (with_reducible assumption) | assumption)
       have q302 : x8_1 < (t296.length : Int) := of_decide_eq_true (by first | (with_reducible assumption) | assumption)
       obtain ⟨ad302, e302, hx302_0, hx302_1, hx302_2, hx302_3⟩ := at_T46 (Kd.R_reads' HO_0.out).2.2 x8_1 p302 q302
       obtain rfl : ad299 = ad302 := (by injection e302)
       replace p302 := eq_true p302
       replace q302 := eq_true q302
       refine start_ (n := 22) (S := fun w' => w'.cell? (ad299.add ((x8_1).toNat * 4)) = some (.int .i64 ((rd_T46 t296 x8_1).f0)) /\ w'.cell? ⟨(ad299.add ((x8_1).toNat * 4)).block, (ad299.add ((x8_1).toNat * 4)).off + 1, none⟩ = some (.int .i64 ((rd_T46 t296 x8_1).f1.f0)) /\ w'.cell? ⟨(ad299.add ((x8_1).toNat * 4)).block, (ad299.add ((x8_1).toNat * 4)).off + 2, none⟩ = some (.int .i64 ((rd_T46 t296 x8_1).f1.f1)) /\ w'.cell? ⟨(ad299.add ((x8_1).toNat * 4)).block, (ad299.add ((x8_1).toNat * 4)).off + 3, none⟩ = some (.int .i64 ((rd_T46 t296 x8_1).f2)) /\ w'.cell? (ad299.add ((x8_1).toNat * 4)) = some (.int .i64 ((rd_T46 t296 x8_1).f0)) /\ w'.cell? ⟨(ad299.add ((x8_1).toNat * 4)).block, (ad299.add ((x8_1).toNat * 4)).off + 1, none⟩ = some (.int .i64 ((rd_T46 t296 x8_1).f1.f0)) /\ w'.cell? ⟨(ad299.add ((x8_1).toNat * 4)).block, (ad299.add ((x8_1).toNat * 4)).off + 2, none⟩ = some (.int .i64 ((rd_T46 t296 x8_1).f1.f1)) /\ w'.cell? ⟨(ad299.add ((x8_1).toNat * 4)).block, (ad299.add ((x8_1).toNat * 4)).off + 3, none⟩ = some (.int .i64 ((rd_T46 t296 x8_1).f2)) /\ w'.cell? (ad299.add ((x8_1).toNat * 4)) = some (.int .i64 ((rd_T46 t296 x8_1).f0)) /\ w'.cell? ⟨(ad299.add ((x8_1).toNat * 4)).block, (ad299.add ((x8_1).toNat * 4)).off + 1, none⟩ = some (.int .i64 ((rd_T46 t296 x8_1).f1.f0)) /\ w'.cell? ⟨(ad299.add ((x8_1).toNat * 4)).block, (ad299.add ((x8_1).toNat * 4)).off + 2, none⟩ = some (.int .i64 ((rd_T46 t296 x8_1).f1.f1)) /\ w'.cell? ⟨(ad299.add ((x8_1).toNat * 4)).block, (ad299.add ((x8_1).toNat * 4)).off + 3, none⟩ = some (.int .i64 ((rd_T46 t296 x8_1).f2))) (ds := [19, 20]) #[f_, f_, f_, f_, f_, f_, f_, f_, f_, f_, f_, f_, f_, f_, f_, f_, f_, f_, f_, f_, f_, f_] (by kernel_rfl) rfl rfl ⟨hx300_0, hx300_1, hx300_2, hx300_3, hx301_0, hx301_1, hx301_2, hx301_3, hx302_0, hx302_1, hx302_2, hx302_3⟩ (fun hHeld => ?_); refine with_tabW leatref11_Fire.tab8 leatref11_Fire.bits8 (fun HT_ HW_ => ?_)
       generalize wr.drew = w10 at HO_0 HO_6 HO_7 HB hx300_0 hx300_1 hx300_2 hx300_3 hx301_0 hx301_1 hx301_2 hx301_3 hx302_0 hx302_1 hx302_2 hx302_3 hHeld ⊢
       refine pure_ (i := 0) (N := some 26) (v := ?_) (a' := ?_) #[t_, f_, f_, f_, f_, f_, f_, f_, f_, f_, f_, f_, f_, f_, f_, f_, f_, f_, f_, f_, f_, f_] rfl rfl (any_of HT_.out (by kernel_rfl)) (fun _ _ _ h => h) (Or.inl ⟨by rfl, ?_⟩) ?_ ?_
       rotate_left
       ·intro w'
        go_simp
        with_reducible rfl
       rotate_left
       ·simp only [Act.put, za, zb, zc, i64_w, i32_w]
        rfl
       refine pure_ (i := 1) (N := some 27) (v := ?_) (a' := ?_) #[t_, t_, f_, f_, f_, f_, f_, f_, f_, f_, f_, f_, f_, f_, f_, f_, f_, f_, f_, f_, f_, f_] rfl rfl (any_of HT_.out (by kernel_rfl)) (fun _ _ _ h => h) (Or.inl ⟨by rfl, ?_⟩) ?_ ?_
       rotate_left
       ·intro w'
        go_simp
        with_reducible rfl
       rotate_left
       ·simp only [Act.put, za, zb, zc, i64_w, i32_w]
        rfl
       refine pure_ (i := 2) (N := some 28) (v := ?_) (a' := ?_) #[t_, t_, t_, f_, f_, f_, f_, f_, f_, f_, f_, f_, f_, f_, f_, f_, f_, f_, f_, f_, f_, f_] rfl rfl (any_of HT_.out (by kernel_rfl)) (fun _ _ _ h => h) (Or.inl ⟨by rfl, ?_⟩) ?_ ?_
       rotate_left
       ·intro w'
        go_simp
        with_reducible rfl
       rotate_left
       ·simp only [Act.put, za, zb, zc, i64_w, i32_w]
        rfl
       refine pure_ (i := 3) (N := some 29) (v := ?_) (a' := ?_) #[t_, t_, t_, t_, f_, f_, f_, f_, f_, f_, f_, f_, f_, f_, f_, f_, f_, f_, f_, f_, f_, f_] rfl rfl (any_of HT_.out (by kernel_rfl)) (fun _ _ _ h => h) (Or.inl ⟨by rfl, ?_⟩) ?_ ?_
       rotate_left
       ·intro w'
        go_simp
        with_reducible rfl
       rotate_left
       ·simp only [Act.put, za, zb, zc, i64_w, i32_w]
        rfl
       refine pure_ (i := 4) (N := some 30) (v := ?_) (a' := ?_) #[t_, t_, t_, t_, t_, f_, f_, f_, f_, f_, f_, f_, f_, f_, f_, f_, f_, f_, f_, f_, f_, f_] rfl rfl (any_of HT_.out (by kernel_rfl)) (fun _ _ _ h => h) (Or.inl ⟨by rfl, ?_⟩) ?_ ?_
       rotate_left
       ·intro w'
        go_simp
        with_reducible rfl
       rotate_left
       ·simp only [Act.put, za, zb, zc, i64_w, i32_w]
        rfl
       refine pure_ (i := 6) (N := some 32) (v := ?_) (a' := ?_) #[t_, t_, t_, t_, t_, f_, t_, f_, f_, f_, f_, f_, f_, f_, f_, f_, f_, f_, f_, f_, f_, f_] rfl rfl (any_of HT_.out (by kernel_rfl)) (fun _ _ _ h => h) (Or.inl ⟨by rfl, ?_⟩) ?_ ?_
       rotate_left
       ·intro w'
        go_simp
        with_reducible rfl
       rotate_left
       ·simp only [Act.put, za, zb, zc, i64_w, i32_w]
        rfl
       refine pure_ (i := 7) (N := some 33) (v := ?_) (a' := ?_) #[t_, t_, t_, t_, t_, f_, t_, t_, f_, f_, f_, f_, f_, f_, f_, f_, f_, f_, f_, f_, f_, f_] rfl rfl (any_of HT_.out (by kernel_rfl)) (fun _ _ _ h => h) (Or.inl ⟨by rfl, ?_⟩) ?_ ?_
       rotate_left
       ·intro w'
        go_simp
        with_reducible rfl
       rotate_left
       ·simp only [Act.put, za, zb, zc, i64_w, i32_w]
        rfl
       refine pure_ (i := 8) (N := some 34) (v := ?_) (a' := ?_) #[t_, t_, t_, t_, t_, f_, t_, t_, t_, f_, f_, f_, f_, f_, f_, f_, f_, f_, f_, f_, f_, f_] rfl rfl (any_of HT_.out (by kernel_rfl)) (fun _ _ _ h => h) (Or.inl ⟨by rfl, ?_⟩) ?_ ?_
       rotate_left
       ·intro w'
        go_simp
        with_reducible rfl
       rotate_left
       ·simp only [Act.put, za, zb, zc, i64_w, i32_w]
        rfl
       refine pure_ (i := 9) (N := some 35) (v := ?_) (a' := ?_) #[t_, t_, t_, t_, t_, f_, t_, t_, t_, t_, f_, f_, f_, f_, f_, f_, f_, f_, f_, f_, f_, f_] rfl rfl (any_of HT_.out (by kernel_rfl)) (fun _ _ _ h => h) (Or.inl ⟨by rfl, ?_⟩) ?_ ?_
       rotate_left
       ·intro w'
        go_simp
        with_reducible rfl
       rotate_left
       ·simp only [Act.put, za, zb, zc, i64_w, i32_w]
        rfl
       refine pure_ (i := 10) (N := some 36) (v := ?_) (a' := ?_) #[t_, t_, t_, t_, t_, f_, t_, t_, t_, t_, t_, f_, f_, f_, f_, f_, f_, f_, f_, f_, f_, f_] rfl rfl (any_of HT_.out (by kernel_rfl)) (fun _ _ _ h => h) (Or.inl ⟨by rfl, ?_⟩) ?_ ?_
       rotate_left
       ·intro w'
        go_simp
        with_reducible rfl
       rotate_left
       ·simp only [Act.put, za, zb, zc, i64_w, i32_w]
        rfl
       refine pure_ (i := 13) (N := some 39) (v := ?_) (a' := ?_) #[t_, t_, t_, t_, t_, f_, t_, t_, t_, t_, t_, f_, f_, t_, f_, f_, f_, f_, f_, f_, f_, f_] rfl rfl (any_of HT_.out (by kernel_rfl)) (fun _ _ _ h => h) (Or.inl ⟨by rfl, ?_⟩) ?_ ?_
       rotate_left
       ·intro w'
        go_simp
        with_reducible rfl
       rotate_left
       ·simp only [Act.put, za, zb, zc, i64_w, i32_w]
        rfl
       refine pure_ (i := 14) (N := some 40) (v := ?_) (a' := ?_) #[t_, t_, t_, t_, t_, f_, t_, t_, t_, t_, t_, f_, f_, t_, t_, f_, f_, f_, f_, f_, f_, f_] rfl rfl (any_of HT_.out (by kernel_rfl)) (fun _ _ _ h => h) (Or.inl ⟨by rfl, ?_⟩) ?_ ?_
       rotate_left
       ·intro w'
        go_simp
        with_reducible rfl
       rotate_left
       ·simp only [Act.put, za, zb, zc, i64_w, i32_w]
        rfl
       refine pure_ (i := 15) (N := some 41) (v := ?_) (a' := ?_) #[t_, t_, t_, t_, t_, f_, t_, t_, t_, t_, t_, f_, f_, t_, t_, t_, f_, f_, f_, f_, f_, f_] rfl rfl (any_of HT_.out (by kernel_rfl)) (fun _ _ _ h => h) (Or.inl ⟨by rfl, ?_⟩) ?_ ?_
       rotate_left
       ·intro w'
        go_simp
        with_reducible rfl
       rotate_left
       ·simp only [Act.put, za, zb, zc, i64_w, i32_w]
        rfl
       refine pure_ (i := 16) (N := some 42) (v := ?_) (a' := ?_) #[t_, t_, t_, t_, t_, f_, t_, t_, t_, t_, t_, f_, f_, t_, t_, t_, t_, f_, f_, f_, f_, f_] rfl rfl (any_of HT_.out (by kernel_rfl)) (fun _ _ _ h => h) (Or.inl ⟨by rfl, ?_⟩) ?_ ?_
       rotate_left
       ·intro w'
        go_simp
        with_reducible rfl
       rotate_left
       ·simp only [Act.put, za, zb, zc, i64_w, i32_w]
        rfl
       refine take_ (i := 5) (N := some 31) (v := ?_) (a' := ?_) #[t_, t_, t_, t_, t_, t_, t_, t_, t_, t_, t_, f_, f_, t_, t_, t_, t_, f_, f_, f_, f_, f_] rfl rfl (take_ofW HT_.out HW_.out (by kernel_rfl)) (fun _ _ _ h => h) (Or.inl ⟨by rfl, ?_⟩) hHeld ?_ ?_
       rotate_left
       ·rintro w' ⟨s0, s1, s2, s3, s4, s5, s6, s7, s8, s9, s10, s11⟩
        go_simp
        with_reducible rfl
       rotate_left
       ·simp only [Act.put, za, zb, zc, i64_w, i32_w]
        rfl
       refine take_ (i := 11) (N := some 37) (v := ?_) (a' := ?_) #[t_, t_, t_, t_, t_, t_, t_, t_, t_, t_, t_, t_, f_, t_, t_, t_, t_, f_, f_, f_, f_, f_] rfl rfl (take_ofW HT_.out HW_.out (by kernel_rfl)) (fun _ _ _ h => h) (Or.inl ⟨by rfl, ?_⟩) hHeld ?_ ?_
       rotate_left
       ·rintro w' ⟨s0, s1, s2, s3, s4, s5, s6, s7, s8, s9, s10, s11⟩
        go_simp
        with_reducible rfl
       rotate_left
       ·simp only [Act.put, za, zb, zc, i64_w, i32_w]
        rfl
       refine pure_ (i := 12) (N := some 38) (v := ?_) (a' := ?_) #[t_, t_, t_, t_, t_, t_, t_, t_, t_, t_, t_, t_, t_, t_, t_, t_, t_, f_, f_, f_, f_, f_] rfl rfl (any_of HT_.out (by kernel_rfl)) (fun _ _ _ h => h) (Or.inl ⟨by rfl, ?_⟩) ?_ ?_
       rotate_left
       ·intro w'
        go_simp
        with_reducible rfl
       rotate_left
       ·simp only [Act.put, za, zb, zc, i64_w, i32_w]
        rfl
       refine take_ (i := 17) (N := some 43) (v := ?_) (a' := ?_) #[t_, t_, t_, t_, t_, t_, t_, t_, t_, t_, t_, t_, t_, t_, t_, t_, t_, t_, f_, f_, f_, f_] rfl rfl (take_ofW HT_.out HW_.out (by kernel_rfl)) (fun _ _ _ h => h) (Or.inl ⟨by rfl, ?_⟩) hHeld ?_ ?_
       rotate_left
       ·rintro w' ⟨s0, s1, s2, s3, s4, s5, s6, s7, s8, s9, s10, s11⟩
        go_simp
        with_reducible rfl
       rotate_left
       ·simp only [Act.put, za, zb, zc, i64_w, i32_w]
        rfl
       refine pure_ (i := 18) (N := some 44) (v := ?_) (a' := ?_) #[t_, t_, t_, t_, t_, t_, t_, t_, t_, t_, t_, t_, t_, t_, t_, t_, t_, t_, t_, f_, f_, f_] rfl rfl (any_of HT_.out (by kernel_rfl)) (fun _ _ _ h => h) (Or.inl ⟨by rfl, ?_⟩) ?_ ?_
       rotate_left
       ·intro w'
        go_simp
        with_reducible rfl
       rotate_left
       ·simp only [Act.put, za, zb, zc, i64_w, i32_w]
        rfl
       refine last_ (i := 19) (N := some 45) #[t_, t_, t_, t_, t_, t_, t_, t_, t_, t_, t_, t_, t_, t_, t_, t_, t_, t_, t_, t_, f_, f_] rfl rfl (one_of HT_.out (by kernel_rfl)) (by decide) (fun K hK => ?_)
       refine value_ (w1 := ?_) (v := ?_) (by rfl) rfl ?_ ?_
       rotate_left 2
       ·go_simp
        constructor
        ·rfl
        ·rfl
       refine hK.out _ _ ?_
       clear hK K
       refine norm_ (a' := ?_) ?_ ?_
       rotate_left
       ·show Act.put _ (some 45) _ = _
        simp only [Act.put, za, zb, zc, i64_w, i32_w]
        rfl
       refine last_ (i := 20) (N := some 46) #[t_, t_, t_, t_, t_, t_, t_, t_, t_, t_, t_, t_, t_, t_, t_, t_, t_, t_, t_, t_, t_, f_] rfl rfl (one_of HT_.out (by kernel_rfl)) (by decide) (fun K hK => ?_)
       refine Kd.R_append_step k37 (w0 := w) w.heap.size (by rfl) (.tmp 26) (.tmp 45) 33 37 (.agg #[(.int .i64 0), (.int .i64 0), (.int .i64 0)]) 24 rfl Try.underlying33 info37 rfl (by decide) (by omega) u6 x6_1 (⟨(rd_T46 t296 x8_1).f0, wrap64 (((rd_T46 t296 x8_1).f1.f1) - 1), (rd_T46 t296 x8_1).f2⟩ : S37) [.int .i64 ((rd_T46 t296 x8_1).f0), .int .i64 (wrap64 (((rd_T46 t296 x8_1).f1.f1) - 1)), .int .i64 ((rd_T46 t296 x8_1).f2)] (fun _ => True) (fun _ => False) rfl rfl ?aP (fun _ hk => hk.elim) ?aF ?aO ?aB ?aS ?aL ?_
       (case aP => exact k37_mkM _ _ _ (⟨(rd_T46 t296 x8_1).f0, wrap64 (((rd_T46 t296 x8_1).f1.f1) - 1), (rd_T46 t296 x8_1).f2⟩ : S37))
       (case aB => exact (by repeat (first | (with_reducible first | exact HB.out | apply zh | apply zi | apply zj) | exact HB.out)))
       (case aF => exact (fun _ _ => trivial))
       (case aO => exact (by (with_reducible repeat (first | apply ze | apply zf | apply zg)); exact HO_6.out))
       (case aS => exact (below_size (by repeat (first | (with_reducible first | exact HB.out | apply zh | apply zi | apply zj) | exact HB.out))))
       (case aL => have := LMc8.out; omega)
       intro v304 w11 ho hb hg hat
       rw [← Ny303.out] at ho
       have n0_ := zd (Kd.R_over' (by (with_reducible repeat (first | apply ze | apply zf | apply zg)); exact HO_0.out) (Kd.R_typed (by (with_reducible repeat (first | apply ze | apply zf | apply zg)); exact HO_6.out)) (by decide) hg)
       have n1_ := zd (Kd.R_over' (by (with_reducible repeat (first | apply ze | apply zf | apply zg)); exact HO_7.out) (Kd.R_typed (by (with_reducible repeat (first | apply ze | apply zf | apply zg)); exact HO_6.out)) (by decide) hg)
       have n2_ := zd (hb)
       have n3_ := zd (ho)
       clear HO_0
       clear HO_7
       clear HB
       clear HO_6
       have HO_0 := n0_
       have HO_7 := n1_
       have HB := n2_
       have HO305 := n3_
       clear n0_ n1_ n2_ n3_
       clear ho hb hg hat
       refine hK.out _ _ ?_
       clear hK K
       refine norm_ (a' := ?_) ?_ ?_
       rotate_left
       ·show Act.put _ (some 46) _ = _
        simp only [Act.put, za, zb, zc, i64_w, i32_w]
        rfl
       refine pure_ (i := 21) (N := some 6) (v := ?_) (a' := ?_) #[t_, t_, t_, t_, t_, t_, t_, t_, t_, t_, t_, t_, t_, t_, t_, t_, t_, t_, t_, t_, t_, t_] rfl rfl (any_of HT_.out (by kernel_rfl)) (fun _ _ _ h => h) (Or.inl ⟨by rfl, ?_⟩) ?_ ?_
       rotate_left
       ·intro w'
        go_simp
        with_reducible rfl
       rotate_left
       ·simp only [Act.put, za, zb, zc, i64_w, i32_w]
        rfl
       refine done_ (done_of HT_.out (by kernel_rfl)) ?_
       try go_wp2
       go_roundg k1
       case measure => have := HK1.out; omega
       case rel => exact ⟨(y303), (x7_1), (wrap64 (x8_1 + 1)), (by first | rfl | (simp; done) | (simp [*]; done)), H', ⟨by have := HK1.out; omega⟩, ⟨by (with_reducible repeat (first | apply ze | apply zf | apply zg)); exact HO_0.out⟩, ⟨by (with_reducible repeat (first | apply ze | apply zf | apply zg)); exact HO305.out⟩, ⟨by (with_reducible repeat (first | apply ze | apply zf | apply zg)); exact HO_7.out⟩, ⟨by repeat (first | (with_reducible first | exact HB.out | apply zh | apply zi | apply zj) | exact HB.out)⟩⟩
      ·rw [if_neg c8] at H
       exact absurd H (by simp)
     ·rw [if_neg c7] at H
      have c7b0 : decide ((wrap64 (((rd_T46 t296 x8_1).f1.f1) - 1)) <= a1) = false := decide_eq_false c7
      clear c7
      by_cases c12 : x7_1.length < 4398046511104
      ·rw [if_pos c12] at H
       have LMc12 := zd c12
       clear c12
       obtain ⟨y307, hy307⟩ : ∃ y_ : List (S46), y_ = (x7_1 ++ [(⟨(rd_T46 t296 x8_1).f0, (⟨(rd_T46 t296 x8_1).f1.f0, (rd_T46 t296 x8_1).f1.f1⟩ : S31), (rd_T46 t296 x8_1).f2⟩ : S46)]) := ⟨_, rfl⟩
       replace H : (leatref11_Fire.l0 k1 t296 a1 x6_1 y307 (wrap64 (x8_1 + 1))) = some (r1, r2) := by first | (rw [hy307]; with_reducible exact H) | (have H2_ := (Option.bind_some _ _).symm.trans H; rw [hy307]; with_reducible exact H2_) | (have H2_ := (Option.bind_some _ _).symm.trans H; with_reducible exact H2_) | with_reducible exact H | (rw [hy307]; exact H) | exact H
       have Ny307 := zd hy307
       clear hy307
       have H' := zd H
       clear H
       obtain ⟨Ao13, co13, eo13⟩ := Kd.R_slice HO_0.out
       subst eo13
       have p299 : 0 <= (x8_1 : Int) := of_decide_eq_true (by first | (with_reducible assumption) | assumption)
       have q299 : x8_1 < (t296.length : Int) := of_decide_eq_true (by first | (with_reducible assumption) | assumption)
       obtain ⟨ad299, e299, hx299_0, hx299_1, hx299_2, hx299_3⟩ := at_T46 (Kd.R_reads' HO_0.out).2.2 x8_1 p299 q299
       cases e299
       replace p299 := eq_true p299
       replace q299 := eq_true q299
       have p306 : 0 <= (x8_1 : Int) := of_decide_eq_true (by first | (with_reducible assumption) | assumption)
       have q306 : x8_1 < (t296.length : Int) := of_decide_eq_true (by first | (with_reducible assumption) | assumption)
       obtain ⟨ad306, e306, hx306_0, hx306_1, hx306_2, hx306_3⟩ := at_T46 (Kd.R_reads' HO_0.out).2.2 x8_1 p306 q306
       obtain rfl : ad299 = ad306 := (by injection e306)
       replace p306 := eq_true p306
       replace q306 := eq_true q306
       go_wp2_with (first | ((with_reducible refine gate_builtin (b := .append) (xs := #[.tmp 47, .tmp 52]) rfl ?_); at_builtin; refine Kd.R_append k46 (w0 := w) w.heap.size rfl (.tmp 47) (.tmp 52) 35 46 (.agg #[(.int .i64 0), (.int .i64 0), (.int .i64 0), (.int .i64 0)]) 32 rfl Try.underlying35 info46 rfl (by decide) (by omega) u7 x7_1 (⟨(rd_T46 t296 x8_1).f0, (⟨(rd_T46 t296 x8_1).f1.f0, (rd_T46 t296 x8_1).f1.f1⟩ : S31), (rd_T46 t296 x8_1).f2⟩ : S46) [.int .i64 ((rd_T46 t296 x8_1).f0), .int .i64 ((rd_T46 t296 x8_1).f1.f0), .int .i64 ((rd_T46 t296 x8_1).f1.f1), .int .i64 ((rd_T46 t296 x8_1).f2)] (fun k_ => some k_ ≠ (.slice (some ad299) t296.length co13 : Value).ownBlock) (fun _ => False) rfl rfl ?aP (fun _ hk => hk.elim) ?aF ?aO ?aB ?aS ?aL ?_; (case aP => exact k46_mkM _ _ _ (⟨(rd_T46 t296 x8_1).f0, (⟨(rd_T46 t296 x8_1).f1.f0, (rd_T46 t296 x8_1).f1.f1⟩ : S31), (rd_T46 t296 x8_1).f2⟩ : S46)); (case aB => exact (by repeat (first | (with_reducible first | exact HB.out | apply zh | apply zi | apply zj) | exact HB.out))); (case aF => exact (fun k_ hk => Kd.fresh' (Kd.R_lt (by (with_reducible repeat (first | apply ze | apply zf | apply zg)); exact HO_0.out)) k_ hk)); (case aO => exact (by (with_reducible repeat (first | apply ze | apply zf | apply zg)); exact HO_7.out)); (case aS => exact (below_size (by repeat (first | (with_reducible first | exact HB.out | apply zh | apply zi | apply zj) | exact HB.out)))); (case aL => have := LMc12.out; omega); intro v308 w14 ho hb hg hat; rw [← Ny307.out] at ho; have n0_ := zd (Kd.R_after (ok := (fun _ => True)) (by (with_reducible repeat (first | apply ze | apply zf | apply zg)); exact zq HO_0.out (fun _ hk => ⟨trivial, hk⟩)) hg hat); have n1_ := zd (Kd.R_over' (by (with_reducible repeat (first | apply ze | apply zf | apply zg)); exact HO_6.out) (Kd.R_typed (by (with_reducible repeat (first | apply ze | apply zf | apply zg)); exact HO_7.out)) (by decide) hg); have n2_ := zd (hb); have n3_ := zd (ho); clear HO_0; clear HO_6; clear HB; clear HO_7; have HO_0 := n0_; have HO_6 := n1_; have HB := n2_; have HO309 := n3_; clear n0_ n1_ n2_ n3_; clear ho hb hg hat))
       go_roundg k1
       case measure => have := HK1.out; omega
       case rel => exact ⟨(x6_1), (y307), (wrap64 (x8_1 + 1)), (by first | rfl | (simp; done) | (simp [*]; done)), H', ⟨by have := HK1.out; omega⟩, ⟨by (with_reducible repeat (first | apply ze | apply zf | apply zg)); exact zq HO_0.out (fun _ hk => hk.2)⟩, ⟨by (with_reducible repeat (first | apply ze | apply zf | apply zg)); exact HO_6.out⟩, ⟨by (with_reducible repeat (first | apply ze | apply zf | apply zg)); exact HO309.out⟩, ⟨by repeat (first | (with_reducible first | exact HB.out | apply zh | apply zi | apply zj) | exact HB.out)⟩⟩
      ·rw [if_neg c12] at H
       exact absurd H (by simp)
    ·rw [if_neg c6] at H
     exact absurd H (by simp)
   ·rw [if_neg c5] at H
    have c5b0 : decide (x8_1 < (t296.length : Int)) = false := decide_eq_false c5
    clear c5
    simp only [Option.some.injEq, Prod.mk.injEq] at H
    obtain ⟨rfl, rfl⟩ := H
    obtain ⟨Ao15, co15, eo15⟩ := Kd.R_slice HO_0.out
    subst eo15
    go_wp2
    go_ret2
    exact ⟨_, _, by first | rfl | (simp [errW_none, errW_some] <;> rfl) | (simp [*, errW_none, errW_some] <;> rfl), by (with_reducible repeat (first | apply ze | apply zf | apply zg)); exact HO_6.out, by (with_reducible repeat (first | apply ze | apply zf | apply zg)); exact zq HO_7.out (fun _ hk => trivial), by repeat (first | (with_reducible first | exact HB.out | apply zh | apply zi | apply zj) | exact HB.out)⟩
end Go.Proofs.Ytdinbnbogdadgaa.X
namespace Go.Proofs.Ytdinbnbogdadgaa.X
open Go.RowKit Go.Proofs.YtdinbnbogdadgaaW.PrintWords Go.Proofs.YtdinbnbogdadgaaW.PrintLast Go.Proofs.YtdinbnbogdadgaaW.PrintMore
attribute [local go_sem] max2_int min2_int max_two min_two max_three min_three max_four min_four   -- for this text's walks alone
set_option linter.unusedVariables false
set_option linter.unusedSimpArgs false
end Go.Proofs.Ytdinbnbogdadgaa.X
