/- Proofs towards the law WindowPlays, joined into one text. No conditions beyond those typed. -/
import Derived.Test.YtdinbnbogdadgaaMWindowPlays10
import Derived.Test.YtdinbnbogdadgaaMWindowPlays11
namespace Go.Proofs.Ytdinbnbogdadgaa.X
open Go.RowKit Go.Proofs.YtdinbnbogdadgaaW.PrintWords Go.Proofs.YtdinbnbogdadgaaW.PrintLast Go.Proofs.YtdinbnbogdadgaaW.PrintMore
attribute [local go_sem] max2_int min2_int max_two min_two max_three min_three max_four min_four   -- for this text's walks alone
set_option linter.unusedVariables false
set_option linter.unusedSimpArgs false
attribute [local go_sem high] eqA31
def leatref11_Into.l0 : Nat -> Int -> List (S46) -> List (S46) -> Int -> Int -> Int -> Int -> Int -> Int -> Int -> Option ((List (S46)))
 | 0, _, _, _, _, _, _, _, _, _, _ => none
 | k + 1, x1, x2, x12, x13, x260000, x260001, x263000, x263001, x263002, x263003 => if x13 < (x2.length : Int) then (if 0 <= x13 then (if ((rd_T46 x2 x13).f0) = x263000 then (if (((rd_T46 x2 x13).f1.f0) == x260000 && (((rd_T46 x2 x13).f1.f1) == x260001)) = true then ((leatref10_Merge.f k x1 x263003 ((rd_T46 x2 x13).f2)).bind fun t269 => (leatref11_Into.l0 k x1 x2 x12 (wrap64 (x13 + 1)) x260000 x260001 x263000 x263001 x263002 t269)) else (if x12.length < 4398046511104 then (leatref11_Into.l0 k x1 x2 (x12 ++ [(⟨(rd_T46 x2 x13).f0, (⟨(rd_T46 x2 x13).f1.f0, (rd_T46 x2 x13).f1.f1⟩ : S31), (rd_T46 x2 x13).f2⟩ : S46)]) (wrap64 (x13 + 1)) x260000 x260001 x263000 x263001 x263002 x263003) else (none))) else (if x12.length < 4398046511104 then (leatref11_Into.l0 k x1 x2 (x12 ++ [(⟨(rd_T46 x2 x13).f0, (⟨(rd_T46 x2 x13).f1.f0, (rd_T46 x2 x13).f1.f1⟩ : S31), (rd_T46 x2 x13).f2⟩ : S46)]) (wrap64 (x13 + 1)) x260000 x260001 x263000 x263001 x263002 x263003) else (none))) else (none)) else (if x12.length < 4398046511104 then ((leatref11_Sort.f k (x12 ++ [(⟨x263000, (⟨x263001, x263002⟩ : S31), x263003⟩ : S46)])).bind fun t281 => (some t281)) else (none))
def leatref11_Into.f (k : Nat) (a0_0 : Int) (a0_1 : Int) (a0_2 : Int) (a1 : Int) (l2 : List (S46)) (a3_0 : Int) (a3_1 : Int) (a3_2 : Int) (a4_0 : Int) (a4_1 : Int) : Option ((List (S46))) := (leatref10_Zero.f a1).bind fun t260 => ((leatref10_Add.f k a1 t260 a3_2).bind fun t261 => (if a0_0 = 3 then ((leatref11_merge.f k a1 l2 a3_0 a4_0 a4_1 t261).bind fun t263 => (some t263)) else (leatref11_Into.l0 k a1 l2 ([] : List (S46)) 0 a4_0 a4_1 a3_0 a4_0 a4_1 t261)))
def leatref11_Into.T1 : Bool × List (List Nat × List Nat) := (true, [([], []), ([0], [0]), ([], []), ([], []), ([], []), ([4], [4]), ([], []), ([6], [6]), ([3, 5, 7, 5], [3, 5, 7]), ([1, 2, 8], [1, 2, 8]), ([], []), ([10, 9, 8, 0, 1, 2, 3, 4, 5, 6, 7, 8, 9, 10], [9, 10])])
def leatref11_Into.B1 : List Nat := [0, 1, 0, 0, 0, 16, 0, 64, 248, 511, 0, 2047]
theorem leatref11_Into.tab1 : rtab .any (opsOf Try.f40 1) = leatref11_Into.T1 := by kernel_rfl
theorem leatref11_Into.bits1 : waitsOk leatref11_Into.T1.2 leatref11_Into.B1 = true := by kernel_rfl
def leatref11_Into.T8 : Bool × List (List Nat × List Nat) := (true, [([], []), ([], []), ([0, 1], [0, 1]), ([2], [2]), ([3], [3]), ([], []), ([5], [5]), ([4, 6], [4, 6]), ([7], [7]), ([8], [8]), ([8], [8]), ([9, 10, 8], [8, 9, 10]), ([11, 8], [8, 11]), ([12, 8], [8, 12]), ([8], [8]), ([13, 14, 8], [8, 13, 14]), ([8, 15], [8, 15])])
def leatref11_Into.B8 : List Nat := [0, 0, 3, 7, 15, 0, 32, 127, 255, 511, 511, 2047, 4095, 8191, 511, 32767, 65535]
theorem leatref11_Into.tab8 : rtab .any (opsOf Try.f40 8) = leatref11_Into.T8 := by kernel_rfl
theorem leatref11_Into.bits8 : waitsOk leatref11_Into.T8.2 leatref11_Into.B8 = true := by kernel_rfl
def leatref11_Into.T9 : Bool × List (List Nat × List Nat) := (true, [([], []), ([], []), ([1], [1]), ([], []), ([], []), ([3, 4], [3, 4]), ([5], [5]), ([6], [6]), ([0, 2, 7], [0, 2, 7]), ([0, 1, 2, 3, 4, 5, 6, 7, 8], []), ([9, 8, 8, 0, 1, 2, 3, 4, 5, 6, 7, 8], [8, 9])])
def leatref11_Into.B9 : List Nat := [0, 0, 2, 0, 0, 24, 56, 120, 255, 511, 1023]
theorem leatref11_Into.tab9 : rtab .any (opsOf Try.f40 9) = leatref11_Into.T9 := by kernel_rfl
theorem leatref11_Into.bits9 : waitsOk leatref11_Into.T9.2 leatref11_Into.B9 = true := by kernel_rfl
set_option maxHeartbeats 8000000 in
set_option maxRecDepth 100000 in
theorem leatref11_Into.calls (k : Nat) (a0_0 : Int) (a0_1 : Int) (a0_2 : Int) (a1 : Int) (P2_ : Nat -> Prop) (u9000_ : Value) (l2 : List (S46)) (a3_0 : Int) (a3_1 : Int) (a3_2 : Int) (a4_0 : Int) (a4_1 : Int) (r : List (S46)) (w0 w : World) (hB : Below w0.heap.size w0 w) (ho2 : Kd.R k46 46 w w0.heap.size P2_ u9000_ l2) (h : leatref11_Into.f k a0_0 a0_1 a0_2 a1 l2 a3_0 a3_1 a3_2 a4_0 a4_1 = some r) :
  Calls Try.prog 40 #[.agg #[.int .i64 a0_0, .int .i64 a0_1, .int .i64 a0_2], .int .i64 a1, u9000_, .agg #[.int .i64 a3_0, .int .i64 a3_1, .int .i64 a3_2], .agg #[.int .i64 a4_0, .int .i64 a4_1]] w fun e w' => ∃ v0_ : Value, e = .returned (v0_) /\ Kd.R k46 46 w' w0.heap.size (fun k_ => (P2_ k_ ∨ w.heap.size <= k_)) v0_ r /\ Below w0.heap.size w0 w' /\ Kept w w' (fun k_ => P2_ k_) := by
 have hu23 := Try.underlying23
 have hu37 := Try.underlying37
 have hu31 := Try.underlying31
 have hu46 := Try.underlying46
 have HO2 := zd (show Kd.R k46 46 w w0.heap.size (fun k_ => (P2_ k_ ∨ w.heap.size <= k_)) u9000_ l2 from zq ho2 (fun k_ hk => (.inl hk)))
 have HK := zd (Kept.refl w (fun k_ => P2_ k_))
 have HW0 := zd hB.size
 have HB := zd hB
 clear hB
 have H : ((leatref10_Zero.f a1).bind fun t260 => ((leatref10_Add.f k a1 t260 a3_2).bind fun t261 => (if a0_0 = 3 then ((leatref11_merge.f k a1 l2 a3_0 a4_0 a4_1 t261).bind fun t263 => (some t263)) else (leatref11_Into.l0 k a1 l2 ([] : List (S46)) 0 a4_0 a4_1 a3_0 a4_0 a4_1 t261)))) = some r := h
 clear h
 replace H := Option.bind_eq_some_iff.mp H
 obtain ⟨t260, A60, H⟩ := H
 replace H : ((leatref10_Add.f k a1 t260 a3_2).bind fun t261 => (if a0_0 = 3 then ((leatref11_merge.f k a1 l2 a3_0 a4_0 a4_1 t261).bind fun t263 => (some t263)) else (leatref11_Into.l0 k a1 l2 ([] : List (S46)) 0 a4_0 a4_1 a3_0 a4_0 a4_1 t261))) = some r := H
 have A6 := zd A60
 clear A60
 replace H := Option.bind_eq_some_iff.mp H
 obtain ⟨t261, A70, H⟩ := H
 replace H : (if a0_0 = 3 then ((leatref11_merge.f k a1 l2 a3_0 a4_0 a4_1 t261).bind fun t263 => (some t263)) else (leatref11_Into.l0 k a1 l2 ([] : List (S46)) 0 a4_0 a4_1 a3_0 a4_0 a4_1 t261)) = some r := H
 have A7 := zd A70
 clear A70
 by_cases c8 : a0_0 = 3
 ·rw [if_pos c8] at H
  have c8b0 : (a0_0 == 3) = true := beq_iff_eq.mpr c8
  have c8b1 : (a0_0 != 3) = false := bne_eq_false_iff_eq.mpr c8
  clear c8
  replace H := Option.bind_eq_some_iff.mp H
  obtain ⟨t263, A90, H⟩ := H
  replace H : (some t263) = some r := H
  have A9 := zd A90
  clear A90
  obtain rfl := Option.some.inj H
  go_enter Try.func40, Try.ntmps40
  try go_wp2_with (first | ((with_reducible refine gate_dst (N := 5) rfl ?_); refine box_event ?hg (N := 5) ?hd (cs := #[.int .i64 a0_0, .int .i64 a0_1, .int .i64 a0_2]) (t := 23) ?hr ?_; (case hd => rfl); (case hg => rfl); (case hr => first | (go_simp; done) | (go_simp; rfl)); intro gb257 hg w10 hbox hb; have n0_ := zd (zr (by (with_reducible repeat (first | apply ze | apply zf | apply zg)); exact HO2.out) hb); have n1_ := zd (Kept.below (S := (fun k_ => P2_ k_)) (by repeat (first | (with_reducible first | exact HK.out | apply Kept.alloc | apply Kept.drewN | apply Kept.drew) | exact HK.out)) hb); have n2_ := zd (zs (by repeat (first | (with_reducible first | exact HB.out | apply zh | apply zi | apply zj) | exact HB.out)) hb); have n3_ := zd (hbox); have n4_ := zd ((by rw [hg]; exact (by first | exact HK.out.1 | exact (show Kept w _ (fun k_ => P2_ k_) from by repeat (first | (with_reducible first | exact HK.out | apply Kept.alloc | apply Kept.drewN | apply Kept.drew) | exact HK.out)).1) : w.heap.size <= gb257)); have n5_ := zd ((by rw [hg]; exact (below_size (by repeat (first | (with_reducible first | exact HB.out | apply zh | apply zi | apply zj) | exact HB.out))) : w0.heap.size <= gb257)); clear HO2; clear HK; clear HB; have HO2 := n0_; have HK := n1_; have HB := n2_; have BK257 := n3_; have GW257 := n4_; have GE257 := n5_; clear n0_ n1_ n2_ n3_ n4_ n5_; clear hb hbox hg) | ((with_reducible refine gate_dst (N := 8) rfl ?_); refine box_event ?hg (N := 8) ?hd (cs := #[.int .i64 a3_0, .int .i64 a3_1, .int .i64 a3_2]) (t := 37) ?hr ?_; (case hd => rfl); (case hg => rfl); (case hr => first | (go_simp; done) | (go_simp; rfl)); intro gb258 hg w11 hbox hb; have n0_ := zd (zr (by (with_reducible repeat (first | apply ze | apply zf | apply zg)); exact HO2.out) hb); have n1_ := zd (zp (g := gb257) (o := .cells #[.int .i64 a0_0, .int .i64 a0_1, .int .i64 a0_2] 23 (0, 0)) (by (with_reducible repeat (first | refine zk ?_ _ | refine zl ?_ | refine zm ?_ _)); exact BK257.out) hb); have n2_ := zd (Kept.below (S := (fun k_ => P2_ k_)) (by repeat (first | (with_reducible first | exact HK.out | apply Kept.alloc | apply Kept.drewN | apply Kept.drew | refine Kept.setCell ?_ (.inr GW257.out) _) | exact HK.out)) hb); have n3_ := zd (zs (by repeat (first | (with_reducible first | exact HB.out | apply zh | apply zi | apply zj | refine zn ?_ GE257.out) | exact HB.out)) hb); have n4_ := zd (hbox); have n5_ := zd ((by rw [hg]; exact (by first | exact HK.out.1 | exact (show Kept w _ (fun k_ => P2_ k_) from by repeat (first | (with_reducible first | exact HK.out | apply Kept.alloc | apply Kept.drewN | apply Kept.drew | refine Kept.setCell ?_ (.inr GW257.out) _) | exact HK.out)).1) : w.heap.size <= gb258)); have n6_ := zd ((by rw [hg]; exact (below_size (by repeat (first | (with_reducible first | exact HB.out | apply zh | apply zi | apply zj | refine zn ?_ GE257.out) | exact HB.out))) : w0.heap.size <= gb258)); have n7_ := zd ((by rw [hg]; exact Nat.ne_of_lt (blk_lt (g := gb257) (o := .cells #[.int .i64 a0_0, .int .i64 a0_1, .int .i64 a0_2] 23 (0, 0)) (by (with_reducible repeat (first | refine zk ?_ _ | refine zl ?_ | refine zm ?_ _)); exact BK257.out)) : gb257 ≠ gb258)); have n8_ := zd ((by rw [hg]; exact Nat.ne_of_gt (blk_lt (g := gb257) (o := .cells #[.int .i64 a0_0, .int .i64 a0_1, .int .i64 a0_2] 23 (0, 0)) (by (with_reducible repeat (first | refine zk ?_ _ | refine zl ?_ | refine zm ?_ _)); exact BK257.out)) : gb258 ≠ gb257)); clear HO2; clear BK257; clear HK; clear HB; have HO2 := n0_; have BK257 := n1_; have HK := n2_; have HB := n3_; have BK258 := n4_; have GW258 := n5_; have GE258 := n6_; have NB257_258 := n7_; have NB258_257 := n8_; clear n0_ n1_ n2_ n3_ n4_ n5_ n6_ n7_ n8_; clear hb hbox hg) | ((with_reducible refine gate_dst (N := 9) rfl ?_); refine box_event ?hg (N := 9) ?hd (cs := #[.int .i64 a4_0, .int .i64 a4_1]) (t := 31) ?hr ?_; (case hd => rfl); (case hg => rfl); (case hr => first | (go_simp; done) | (go_simp; rfl)); intro gb259 hg w12 hbox hb; have n0_ := zd (zr (by (with_reducible repeat (first | apply ze | apply zf | apply zg)); exact HO2.out) hb); have n1_ := zd (zp (g := gb257) (o := .cells #[.int .i64 a0_0, .int .i64 a0_1, .int .i64 a0_2] 23 (0, 0)) (by (with_reducible repeat (first | refine zk ?_ _ | refine zl ?_ | refine zm ?_ _)); exact BK257.out) hb); have n2_ := zd (zp (g := gb258) (o := .cells #[.int .i64 a3_0, .int .i64 a3_1, .int .i64 a3_2] 37 (0, 0)) (by (with_reducible repeat (first | refine zk ?_ _ | refine zl ?_ | refine zm ?_ _)); exact BK258.out) hb); have n3_ := zd (Kept.below (S := (fun k_ => P2_ k_)) (by repeat (first | (with_reducible first | exact HK.out | apply Kept.alloc | apply Kept.drewN | apply Kept.drew | refine Kept.setCell ?_ (.inr GW257.out) _ | refine Kept.setCell ?_ (.inr GW258.out) _) | exact HK.out)) hb); have n4_ := zd (zs (by repeat (first | (with_reducible first | exact HB.out | apply zh | apply zi | apply zj | refine zn ?_ GE257.out | refine zn ?_ GE258.out) | exact HB.out)) hb); have n5_ := zd (hbox); have n6_ := zd ((by rw [hg]; exact (by first | exact HK.out.1 | exact (show Kept w _ (fun k_ => P2_ k_) from by repeat (first | (with_reducible first | exact HK.out | apply Kept.alloc | apply Kept.drewN | apply Kept.drew | refine Kept.setCell ?_ (.inr GW257.out) _ | refine Kept.setCell ?_ (.inr GW258.out) _) | exact HK.out)).1) : w.heap.size <= gb259)); have n7_ := zd ((by rw [hg]; exact (below_size (by repeat (first | (with_reducible first | exact HB.out | apply zh | apply zi | apply zj | refine zn ?_ GE257.out | refine zn ?_ GE258.out) | exact HB.out))) : w0.heap.size <= gb259)); have n8_ := zd ((by rw [hg]; exact Nat.ne_of_lt (blk_lt (g := gb257) (o := .cells #[.int .i64 a0_0, .int .i64 a0_1, .int .i64 a0_2] 23 (0, 0)) (by (with_reducible repeat (first | refine zk ?_ _ | refine zl ?_ | refine zm ?_ _)); exact BK257.out)) : gb257 ≠ gb259)); have n9_ := zd ((by rw [hg]; exact Nat.ne_of_gt (blk_lt (g := gb257) (o := .cells #[.int .i64 a0_0, .int .i64 a0_1, .int .i64 a0_2] 23 (0, 0)) (by (with_reducible repeat (first | refine zk ?_ _ | refine zl ?_ | refine zm ?_ _)); exact BK257.out)) : gb259 ≠ gb257)); have n10_ := zd ((by rw [hg]; exact Nat.ne_of_lt (blk_lt (g := gb258) (o := .cells #[.int .i64 a3_0, .int .i64 a3_1, .int .i64 a3_2] 37 (0, 0)) (by (with_reducible repeat (first | refine zk ?_ _ | refine zl ?_ | refine zm ?_ _)); exact BK258.out)) : gb258 ≠ gb259)); have n11_ := zd ((by rw [hg]; exact Nat.ne_of_gt (blk_lt (g := gb258) (o := .cells #[.int .i64 a3_0, .int .i64 a3_1, .int .i64 a3_2] 37 (0, 0)) (by (with_reducible repeat (first | refine zk ?_ _ | refine zl ?_ | refine zm ?_ _)); exact BK258.out)) : gb259 ≠ gb258)); clear HO2; clear BK257; clear BK258; clear HK; clear HB; have HO2 := n0_; have BK257 := n1_; have BK258 := n2_; have HK := n3_; have HB := n4_; have BK259 := n5_; have GW259 := n6_; have GE259 := n7_; have NB257_259 := n8_; have NB259_257 := n9_; have NB258_259 := n10_; have NB259_258 := n11_; clear n0_ n1_ n2_ n3_ n4_ n5_ n6_ n7_ n8_ n9_ n10_ n11_; clear hb hbox hg))
  have n0_ := zd (zg HO2.out)
  have n1_ := zd (zl BK257.out)
  have n2_ := zd (zl BK258.out)
  have n3_ := zd (zl BK259.out)
  have n4_ := zd (Kept.drew HK.out)
  have n5_ := zd (zj HB.out)
  clear HO2
  clear BK257
  clear BK258
  clear BK259
  clear HK
  clear HB
  have HO2 := n0_
  have BK257 := n1_
  have BK258 := n2_
  have BK259 := n3_
  have HK := n4_
  have HB := n5_
  clear n0_ n1_ n2_ n3_ n4_ n5_
  refine start_ (n := 12) (S := fun w' => w'.cell? ⟨gb258, 0, none⟩ = some (.int .i64 a3_0) /\ w'.cell? ⟨gb258, 1, none⟩ = some (.int .i64 a3_1) /\ w'.cell? ⟨gb258, 2, none⟩ = some (.int .i64 a3_2) /\ w'.cell? ⟨gb259, 0, none⟩ = some (.int .i64 a4_0) /\ w'.cell? ⟨gb259, 1, none⟩ = some (.int .i64 a4_1)) (ds := []) #[f_, f_, f_, f_, f_, f_, f_, f_, f_, f_, f_, f_] (by kernel_rfl) rfl rfl ⟨(zo BK258.out 0).trans rfl, (zo BK258.out 1).trans rfl, (zo BK258.out 2).trans rfl, (zo BK259.out 0).trans rfl, (zo BK259.out 1).trans rfl⟩ (fun hHeld => ?_); refine with_tabW leatref11_Into.tab1 leatref11_Into.bits1 (fun HT_ HW_ => ?_)
  generalize w12.drew = w13 at HO2 BK257 BK258 BK259 HK HB hHeld ⊢
  refine pure_ (i := 0) (N := some 14) (v := ?_) (a' := ?_) #[t_, f_, f_, f_, f_, f_, f_, f_, f_, f_, f_, f_] rfl rfl (any_of HT_.out (by kernel_rfl)) (fun _ _ _ h => h) (Or.inl ⟨by rfl, ?_⟩) ?_ ?_
  rotate_left
  ·intro w'
   go_simp
   with_reducible rfl
  rotate_left
  ·simp only [Act.put, za, zb, zc, i64_w, i32_w]
   rfl
  refine pure_ (i := 3) (N := some 17) (v := ?_) (a' := ?_) #[t_, f_, f_, t_, f_, f_, f_, f_, f_, f_, f_, f_] rfl rfl (any_of HT_.out (by kernel_rfl)) (fun _ _ _ h => h) (Or.inl ⟨by rfl, ?_⟩) ?_ ?_
  rotate_left
  ·intro w'
   go_simp
   with_reducible rfl
  rotate_left
  ·simp only [Act.put, za, zb, zc, i64_w, i32_w]
   rfl
  refine pure_ (i := 4) (N := some 18) (v := ?_) (a' := ?_) #[t_, f_, f_, t_, t_, f_, f_, f_, f_, f_, f_, f_] rfl rfl (any_of HT_.out (by kernel_rfl)) (fun _ _ _ h => h) (Or.inl ⟨by rfl, ?_⟩) ?_ ?_
  rotate_left
  ·intro w'
   go_simp
   with_reducible rfl
  rotate_left
  ·simp only [Act.put, za, zb, zc, i64_w, i32_w]
   rfl
  refine pure_ (i := 6) (N := some 20) (v := ?_) (a' := ?_) #[t_, f_, f_, t_, t_, f_, t_, f_, f_, f_, f_, f_] rfl rfl (any_of HT_.out (by kernel_rfl)) (fun _ _ _ h => h) (Or.inl ⟨by rfl, ?_⟩) ?_ ?_
  rotate_left
  ·intro w'
   go_simp
   with_reducible rfl
  rotate_left
  ·simp only [Act.put, za, zb, zc, i64_w, i32_w]
   rfl
  refine take_ (i := 1) (N := some 15) (v := ?_) (a' := ?_) #[t_, t_, f_, t_, t_, f_, t_, f_, f_, f_, f_, f_] rfl rfl (take_ofW HT_.out HW_.out (by kernel_rfl)) (fun _ _ _ h => h) (Or.inl ⟨by rfl, ?_⟩) hHeld ?_ ?_
  rotate_left
  ·rintro w' ⟨s0, s1, s2, s3, s4⟩
   go_simp
   with_reducible rfl
  rotate_left
  ·simp only [Act.put, za, zb, zc, i64_w, i32_w]
   rfl
  refine take_ (i := 2) (N := some 16) (v := ?_) (a' := ?_) #[t_, t_, t_, t_, t_, f_, t_, f_, f_, f_, f_, f_] rfl rfl (take_ofW HT_.out HW_.out (by kernel_rfl)) (fun _ _ _ h => h) (Or.inl ⟨by rfl, ?_⟩) hHeld ?_ ?_
  rotate_left
  ·rintro w' ⟨s0, s1, s2, s3, s4⟩
   go_simp
   with_reducible rfl
  rotate_left
  ·simp only [Act.put, za, zb, zc, i64_w, i32_w]
   rfl
  refine take_ (i := 7) (N := some 21) (v := ?_) (a' := ?_) #[t_, t_, t_, t_, t_, f_, t_, t_, f_, f_, f_, f_] rfl rfl (take_ofW HT_.out HW_.out (by kernel_rfl)) (fun _ _ _ h => h) (Or.inl ⟨by rfl, ?_⟩) hHeld ?_ ?_
  rotate_left
  ·rintro w' ⟨s0, s1, s2, s3, s4⟩
   go_simp
   with_reducible rfl
  rotate_left
  ·simp only [Act.put, za, zb, zc, i64_w, i32_w]
   rfl
  refine join_ (σ := Nat) 1 #[t_, t_, t_, t_, t_, t_, t_, t_, t_, t_, t_, f_] (fun s_ => [(19, .int .i64 t260), (22, .int .i64 t261), (11, .pointer (some ⟨s_, 0, none⟩)), (23, .agg #[.int .i64 a3_0, .int .i64 a4_0, .int .i64 a4_1, .int .i64 t261])]) (fun s_ w' => (w'.cell? ⟨gb258, 0, none⟩ = some (.int .i64 a3_0) /\ w'.cell? ⟨gb258, 1, none⟩ = some (.int .i64 a3_1) /\ w'.cell? ⟨gb258, 2, none⟩ = some (.int .i64 a3_2) /\ w'.cell? ⟨gb259, 0, none⟩ = some (.int .i64 a4_0) /\ w'.cell? ⟨gb259, 1, none⟩ = some (.int .i64 a4_1)) /\ (Kd.R k46 46 w' w0.heap.size (fun k_ => (P2_ k_ ∨ w.heap.size <= k_) /\ k_ ≠ s_) u9000_ l2) /\ (w'.heap[gb257]? = some (.cells #[.int .i64 a0_0, .int .i64 a0_1, .int .i64 a0_2] 23 (0, 0))) /\ (w'.heap[gb258]? = some (.cells #[.int .i64 a3_0, .int .i64 a3_1, .int .i64 a3_2] 37 (0, 0))) /\ (w'.heap[gb259]? = some (.cells #[.int .i64 a4_0, .int .i64 a4_1] 31 (0, 0))) /\ (w'.heap[s_]? = some (.cells #[.int .i64 0, .int .i64 0, .int .i64 0, .int .i64 0] 46 (0, 0))) /\ (w.heap.size <= s_) /\ (w0.heap.size <= s_) /\ (gb257 ≠ s_) /\ (s_ ≠ gb257) /\ (gb258 ≠ s_) /\ (s_ ≠ gb258) /\ (gb259 ≠ s_) /\ (s_ ≠ gb259) /\ (Kept w w' (fun k_ => P2_ k_)) /\ (Below w0.heap.size w0 w')) ?_ ?_
  rotate_left
  ·intro hCont
   refine two_ (i := 5) (j := 10) (Ni := some 19) (Nj := some 11) #[t_, t_, t_, t_, t_, t_, t_, t_, f_, f_, f_, f_] #[t_, t_, t_, t_, t_, f_, t_, t_, f_, f_, t_, f_] rfl rfl rfl rfl (two_of HT_.out (by kernel_rfl)) (by decide) (by decide) (fun K hK => ?_) (fun K hK => ?_)
   ·skip
    refine goes_ Try.func50 (by kernel_rfl) rfl #[.int .i64 a1] (by rfl) rfl rfl (by (try simp only [List.map_toArray, List.map_cons, List.map_nil]); first | done | rfl | (simp only [List.length_drop, List.length_take]; rfl)) ?_
    with_reducible refine (leatref10_Zero.calls a1 t260 _ A6.out).mono ?_
    rintro e w' ⟨rfl, ⟨nd, rfl⟩⟩
    refine ⟨_, rfl, ?_⟩
    refine hK.out _ _ ⟨(zo BK258.out 0).trans rfl, (zo BK258.out 1).trans rfl, (zo BK258.out 2).trans rfl, (zo BK259.out 0).trans rfl, (zo BK259.out 1).trans rfl⟩ (fun hHeld => ?_)
    clear hK K
    refine norm_ (a' := ?_) ?_ ?_
    rotate_left
    ·show Act.put _ (some 19) _ = _
     simp only [Act.put, za, zb, zc, i64_w, i32_w]
     rfl
    refine two_ (i := 8) (j := 10) (Ni := some 22) (Nj := some 11) #[t_, t_, t_, t_, t_, t_, t_, t_, t_, f_, f_, f_] #[t_, t_, t_, t_, t_, t_, t_, t_, f_, f_, t_, f_] rfl rfl rfl rfl (two_of HT_.out (by kernel_rfl)) (by decide) (by decide) (fun K hK => ?_) (fun K hK => ?_)
    ·skip
     refine goes_ Try.func49 (by kernel_rfl) rfl #[.int .i64 a1, .int .i64 t260, .int .i64 a3_2] (by rfl) rfl rfl (by (try simp only [List.map_toArray, List.map_cons, List.map_nil]); first | done | rfl | (simp only [List.length_drop, List.length_take]; rfl)) ?_
     with_reducible refine (leatref10_Add.calls k a1 t260 a3_2 t261 _ A7.out).mono ?_
     rintro e w14 ⟨rfl, hb⟩
     refine ⟨_, rfl, ?_⟩
     have n0_ := zd (zr (by (with_reducible repeat (first | apply ze | apply zf | apply zg)); exact HO2.out) hb)
     have n1_ := zd (zp (g := gb257) (o := .cells #[.int .i64 a0_0, .int .i64 a0_1, .int .i64 a0_2] 23 (0, 0)) (by (with_reducible repeat (first | refine zk ?_ _ | refine zl ?_ | refine zm ?_ _)); exact BK257.out) hb)
     have n2_ := zd (zp (g := gb258) (o := .cells #[.int .i64 a3_0, .int .i64 a3_1, .int .i64 a3_2] 37 (0, 0)) (by (with_reducible repeat (first | refine zk ?_ _ | refine zl ?_ | refine zm ?_ _)); exact BK258.out) hb)
     have n3_ := zd (zp (g := gb259) (o := .cells #[.int .i64 a4_0, .int .i64 a4_1] 31 (0, 0)) (by (with_reducible repeat (first | refine zk ?_ _ | refine zl ?_ | refine zm ?_ _)); exact BK259.out) hb)
     have n4_ := zd (Kept.below (S := (fun k_ => P2_ k_)) (by repeat (first | (with_reducible first | exact HK.out | apply Kept.alloc | apply Kept.drewN | apply Kept.drew | refine Kept.setCell ?_ (.inr GW257.out) _ | refine Kept.setCell ?_ (.inr GW258.out) _ | refine Kept.setCell ?_ (.inr GW259.out) _) | exact HK.out)) hb)
     have n5_ := zd (zs (by repeat (first | (with_reducible first | exact HB.out | apply zh | apply zi | apply zj | refine zn ?_ GE257.out | refine zn ?_ GE258.out | refine zn ?_ GE259.out) | exact HB.out)) hb)
     clear HO2
     clear BK257
     clear BK258
     clear BK259
     clear HK
     clear HB
     have HO2 := n0_
     have BK257 := n1_
     have BK258 := n2_
     have BK259 := n3_
     have HK := n4_
     have HB := n5_
     clear n0_ n1_ n2_ n3_ n4_ n5_
     (try clear hb)
     (try clear hb2)
     (try clear hk)
     (try clear hi)
     refine hK.out _ _ ⟨(zo BK258.out 0).trans rfl, (zo BK258.out 1).trans rfl, (zo BK258.out 2).trans rfl, (zo BK259.out 0).trans rfl, (zo BK259.out 1).trans rfl⟩ (fun hHeld => ?_)
     clear hK K
     refine norm_ (a' := ?_) ?_ ?_
     rotate_left
     ·show Act.put _ (some 22) _ = _
      simp only [Act.put, za, zb, zc, i64_w, i32_w]
      rfl
     refine pure_ (i := 9) (N := some 23) (v := ?_) (a' := ?_) #[t_, t_, t_, t_, t_, t_, t_, t_, t_, t_, f_, f_] rfl rfl (any_of HT_.out (by kernel_rfl)) (fun _ _ _ h => h) (Or.inl ⟨by rfl, ?_⟩) ?_ ?_
     rotate_left
     ·intro w'
      go_simp
      with_reducible rfl
     rotate_left
     ·simp only [Act.put, za, zb, zc, i64_w, i32_w]
      rfl
     refine one_ (i := 10) (N := some 11) #[t_, t_, t_, t_, t_, t_, t_, t_, t_, t_, t_, f_] rfl rfl (one_of HT_.out (by kernel_rfl)) (by decide) (fun K hK => ?_)
     refine box_step ?hg (N := 11) ?hd (cs := #[.int .i64 0, .int .i64 0, .int .i64 0, .int .i64 0]) (t := 46) ?hr ?_; (case hd => rfl); (case hg => rfl); (case hr => first | (go_simp; done) | (go_simp; rfl))
     intro gb262 hg w15 hbox hb
     have n0_ := zd (zr (Kd.R_elderB (by (with_reducible repeat (first | apply ze | apply zf | apply zg)); exact HO2.out) gb262 (Nat.le_of_eq hg.symm)) hb)
     have n1_ := zd (zp (g := gb257) (o := .cells #[.int .i64 a0_0, .int .i64 a0_1, .int .i64 a0_2] 23 (0, 0)) (by (with_reducible repeat (first | refine zk ?_ _ | refine zl ?_ | refine zm ?_ _)); exact BK257.out) hb)
     have n2_ := zd (zp (g := gb258) (o := .cells #[.int .i64 a3_0, .int .i64 a3_1, .int .i64 a3_2] 37 (0, 0)) (by (with_reducible repeat (first | refine zk ?_ _ | refine zl ?_ | refine zm ?_ _)); exact BK258.out) hb)
     have n3_ := zd (zp (g := gb259) (o := .cells #[.int .i64 a4_0, .int .i64 a4_1] 31 (0, 0)) (by (with_reducible repeat (first | refine zk ?_ _ | refine zl ?_ | refine zm ?_ _)); exact BK259.out) hb)
     have n4_ := zd (Kept.below (S := (fun k_ => P2_ k_)) (by repeat (first | (with_reducible first | exact HK.out | apply Kept.alloc | apply Kept.drewN | apply Kept.drew | refine Kept.setCell ?_ (.inr GW257.out) _ | refine Kept.setCell ?_ (.inr GW258.out) _ | refine Kept.setCell ?_ (.inr GW259.out) _) | exact HK.out)) hb)
     have n5_ := zd (zs (by repeat (first | (with_reducible first | exact HB.out | apply zh | apply zi | apply zj | refine zn ?_ GE257.out | refine zn ?_ GE258.out | refine zn ?_ GE259.out) | exact HB.out)) hb)
     have n6_ := zd (hbox)
     have n7_ := zd ((by rw [hg]; exact (by first | exact HK.out.1 | exact (show Kept w _ (fun k_ => P2_ k_) from by repeat (first | (with_reducible first | exact HK.out | apply Kept.alloc | apply Kept.drewN | apply Kept.drew | refine Kept.setCell ?_ (.inr GW257.out) _ | refine Kept.setCell ?_ (.inr GW258.out) _ | refine Kept.setCell ?_ (.inr GW259.out) _) | exact HK.out)).1) : w.heap.size <= gb262))
     have n8_ := zd ((by rw [hg]; exact (below_size (by repeat (first | (with_reducible first | exact HB.out | apply zh | apply zi | apply zj | refine zn ?_ GE257.out | refine zn ?_ GE258.out | refine zn ?_ GE259.out) | exact HB.out))) : w0.heap.size <= gb262))
     have n9_ := zd ((by rw [hg]; exact Nat.ne_of_lt (blk_lt (g := gb257) (o := .cells #[.int .i64 a0_0, .int .i64 a0_1, .int .i64 a0_2] 23 (0, 0)) (by (with_reducible repeat (first | refine zk ?_ _ | refine zl ?_ | refine zm ?_ _)); exact BK257.out)) : gb257 ≠ gb262))
     have n10_ := zd ((by rw [hg]; exact Nat.ne_of_gt (blk_lt (g := gb257) (o := .cells #[.int .i64 a0_0, .int .i64 a0_1, .int .i64 a0_2] 23 (0, 0)) (by (with_reducible repeat (first | refine zk ?_ _ | refine zl ?_ | refine zm ?_ _)); exact BK257.out)) : gb262 ≠ gb257))
     have n11_ := zd ((by rw [hg]; exact Nat.ne_of_lt (blk_lt (g := gb258) (o := .cells #[.int .i64 a3_0, .int .i64 a3_1, .int .i64 a3_2] 37 (0, 0)) (by (with_reducible repeat (first | refine zk ?_ _ | refine zl ?_ | refine zm ?_ _)); exact BK258.out)) : gb258 ≠ gb262))
     have n12_ := zd ((by rw [hg]; exact Nat.ne_of_gt (blk_lt (g := gb258) (o := .cells #[.int .i64 a3_0, .int .i64 a3_1, .int .i64 a3_2] 37 (0, 0)) (by (with_reducible repeat (first | refine zk ?_ _ | refine zl ?_ | refine zm ?_ _)); exact BK258.out)) : gb262 ≠ gb258))
     have n13_ := zd ((by rw [hg]; exact Nat.ne_of_lt (blk_lt (g := gb259) (o := .cells #[.int .i64 a4_0, .int .i64 a4_1] 31 (0, 0)) (by (with_reducible repeat (first | refine zk ?_ _ | refine zl ?_ | refine zm ?_ _)); exact BK259.out)) : gb259 ≠ gb262))
     have n14_ := zd ((by rw [hg]; exact Nat.ne_of_gt (blk_lt (g := gb259) (o := .cells #[.int .i64 a4_0, .int .i64 a4_1] 31 (0, 0)) (by (with_reducible repeat (first | refine zk ?_ _ | refine zl ?_ | refine zm ?_ _)); exact BK259.out)) : gb262 ≠ gb259))
     clear HO2
     clear BK257
     clear BK258
     clear BK259
     clear HK
     clear HB
     have HO2 := n0_
     have BK257 := n1_
     have BK258 := n2_
     have BK259 := n3_
     have HK := n4_
     have HB := n5_
     have BK262 := n6_
     have GW262 := n7_
     have GE262 := n8_
     have NB257_262 := n9_
     have NB262_257 := n10_
     have NB258_262 := n11_
     have NB262_258 := n12_
     have NB259_262 := n13_
     have NB262_259 := n14_
     clear n0_ n1_ n2_ n3_ n4_ n5_ n6_ n7_ n8_ n9_ n10_ n11_ n12_ n13_ n14_
     clear hb hbox hg
     refine hK.out _ _ ⟨(zo BK258.out 0).trans rfl, (zo BK258.out 1).trans rfl, (zo BK258.out 2).trans rfl, (zo BK259.out 0).trans rfl, (zo BK259.out 1).trans rfl⟩ (fun hHeld => ?_)
     clear hK K
     refine norm_ (a' := ?_) ?_ ?_
     rotate_left
     ·show Act.put _ (some 11) _ = _
      simp only [Act.put, za, zb, zc, i64_w, i32_w]
      rfl
     exact norm_ (by simp only [putAll, Act.put, za, zb, zc]) (hCont (gb262) _ ⟨hHeld, (by (with_reducible repeat (first | apply ze | apply zf | apply zg)); exact HO2.out), (by (with_reducible repeat (first | refine zk ?_ _ | refine zl ?_ | refine zm ?_ _)); exact BK257.out), (by (with_reducible repeat (first | refine zk ?_ _ | refine zl ?_ | refine zm ?_ _)); exact BK258.out), (by (with_reducible repeat (first | refine zk ?_ _ | refine zl ?_ | refine zm ?_ _)); exact BK259.out), (by (with_reducible repeat (first | refine zk ?_ _ | refine zl ?_ | refine zm ?_ _)); exact BK262.out), GW262.out, GE262.out, NB257_262.out, NB262_257.out, NB258_262.out, NB262_258.out, NB259_262.out, NB262_259.out, (by repeat (first | (with_reducible first | exact HK.out | apply Kept.alloc | apply Kept.drewN | apply Kept.drew | refine Kept.setCell ?_ (.inr GW257.out) _ | refine Kept.setCell ?_ (.inr GW258.out) _ | refine Kept.setCell ?_ (.inr GW259.out) _ | refine Kept.setCell ?_ (.inr GW262.out) _) | exact HK.out)), (by repeat (first | (with_reducible first | exact HB.out | apply zh | apply zi | apply zj | refine zn ?_ GE257.out | refine zn ?_ GE258.out | refine zn ?_ GE259.out | refine zn ?_ GE262.out) | exact HB.out))⟩)
    ·skip
     refine box_step ?hg (N := 11) ?hd (cs := #[.int .i64 0, .int .i64 0, .int .i64 0, .int .i64 0]) (t := 46) ?hr ?_; (case hd => rfl); (case hg => rfl); (case hr => first | (go_simp; done) | (go_simp; rfl))
     intro gb262 hg w14 hbox hb
     have n0_ := zd (zr (Kd.R_elderB (by (with_reducible repeat (first | apply ze | apply zf | apply zg)); exact HO2.out) gb262 (Nat.le_of_eq hg.symm)) hb)
     have n1_ := zd (zp (g := gb257) (o := .cells #[.int .i64 a0_0, .int .i64 a0_1, .int .i64 a0_2] 23 (0, 0)) (by (with_reducible repeat (first | refine zk ?_ _ | refine zl ?_ | refine zm ?_ _)); exact BK257.out) hb)
     have n2_ := zd (zp (g := gb258) (o := .cells #[.int .i64 a3_0, .int .i64 a3_1, .int .i64 a3_2] 37 (0, 0)) (by (with_reducible repeat (first | refine zk ?_ _ | refine zl ?_ | refine zm ?_ _)); exact BK258.out) hb)
     have n3_ := zd (zp (g := gb259) (o := .cells #[.int .i64 a4_0, .int .i64 a4_1] 31 (0, 0)) (by (with_reducible repeat (first | refine zk ?_ _ | refine zl ?_ | refine zm ?_ _)); exact BK259.out) hb)
     have n4_ := zd (Kept.below (S := (fun k_ => P2_ k_)) (by repeat (first | (with_reducible first | exact HK.out | apply Kept.alloc | apply Kept.drewN | apply Kept.drew | refine Kept.setCell ?_ (.inr GW257.out) _ | refine Kept.setCell ?_ (.inr GW258.out) _ | refine Kept.setCell ?_ (.inr GW259.out) _) | exact HK.out)) hb)
     have n5_ := zd (zs (by repeat (first | (with_reducible first | exact HB.out | apply zh | apply zi | apply zj | refine zn ?_ GE257.out | refine zn ?_ GE258.out | refine zn ?_ GE259.out) | exact HB.out)) hb)
     have n6_ := zd (hbox)
     have n7_ := zd ((by rw [hg]; exact (by first | exact HK.out.1 | exact (show Kept w _ (fun k_ => P2_ k_) from by repeat (first | (with_reducible first | exact HK.out | apply Kept.alloc | apply Kept.drewN | apply Kept.drew | refine Kept.setCell ?_ (.inr GW257.out) _ | refine Kept.setCell ?_ (.inr GW258.out) _ | refine Kept.setCell ?_ (.inr GW259.out) _) | exact HK.out)).1) : w.heap.size <= gb262))
     have n8_ := zd ((by rw [hg]; exact (below_size (by repeat (first | (with_reducible first | exact HB.out | apply zh | apply zi | apply zj | refine zn ?_ GE257.out | refine zn ?_ GE258.out | refine zn ?_ GE259.out) | exact HB.out))) : w0.heap.size <= gb262))
     have n9_ := zd ((by rw [hg]; exact Nat.ne_of_lt (blk_lt (g := gb257) (o := .cells #[.int .i64 a0_0, .int .i64 a0_1, .int .i64 a0_2] 23 (0, 0)) (by (with_reducible repeat (first | refine zk ?_ _ | refine zl ?_ | refine zm ?_ _)); exact BK257.out)) : gb257 ≠ gb262))
     have n10_ := zd ((by rw [hg]; exact Nat.ne_of_gt (blk_lt (g := gb257) (o := .cells #[.int .i64 a0_0, .int .i64 a0_1, .int .i64 a0_2] 23 (0, 0)) (by (with_reducible repeat (first | refine zk ?_ _ | refine zl ?_ | refine zm ?_ _)); exact BK257.out)) : gb262 ≠ gb257))
     have n11_ := zd ((by rw [hg]; exact Nat.ne_of_lt (blk_lt (g := gb258) (o := .cells #[.int .i64 a3_0, .int .i64 a3_1, .int .i64 a3_2] 37 (0, 0)) (by (with_reducible repeat (first | refine zk ?_ _ | refine zl ?_ | refine zm ?_ _)); exact BK258.out)) : gb258 ≠ gb262))
     have n12_ := zd ((by rw [hg]; exact Nat.ne_of_gt (blk_lt (g := gb258) (o := .cells #[.int .i64 a3_0, .int .i64 a3_1, .int .i64 a3_2] 37 (0, 0)) (by (with_reducible repeat (first | refine zk ?_ _ | refine zl ?_ | refine zm ?_ _)); exact BK258.out)) : gb262 ≠ gb258))
     have n13_ := zd ((by rw [hg]; exact Nat.ne_of_lt (blk_lt (g := gb259) (o := .cells #[.int .i64 a4_0, .int .i64 a4_1] 31 (0, 0)) (by (with_reducible repeat (first | refine zk ?_ _ | refine zl ?_ | refine zm ?_ _)); exact BK259.out)) : gb259 ≠ gb262))
     have n14_ := zd ((by rw [hg]; exact Nat.ne_of_gt (blk_lt (g := gb259) (o := .cells #[.int .i64 a4_0, .int .i64 a4_1] 31 (0, 0)) (by (with_reducible repeat (first | refine zk ?_ _ | refine zl ?_ | refine zm ?_ _)); exact BK259.out)) : gb262 ≠ gb259))
     clear HO2
     clear BK257
     clear BK258
     clear BK259
     clear HK
     clear HB
     have HO2 := n0_
     have BK257 := n1_
     have BK258 := n2_
     have BK259 := n3_
     have HK := n4_
     have HB := n5_
     have BK262 := n6_
     have GW262 := n7_
     have GE262 := n8_
     have NB257_262 := n9_
     have NB262_257 := n10_
     have NB258_262 := n11_
     have NB262_258 := n12_
     have NB259_262 := n13_
     have NB262_259 := n14_
     clear n0_ n1_ n2_ n3_ n4_ n5_ n6_ n7_ n8_ n9_ n10_ n11_ n12_ n13_ n14_
     clear hb hbox hg
     refine hK.out _ _ ⟨(zo BK258.out 0).trans rfl, (zo BK258.out 1).trans rfl, (zo BK258.out 2).trans rfl, (zo BK259.out 0).trans rfl, (zo BK259.out 1).trans rfl⟩ (fun hHeld => ?_)
     clear hK K
     refine norm_ (a' := ?_) ?_ ?_
     rotate_left
     ·show Act.put _ (some 11) _ = _
      simp only [Act.put, za, zb, zc, i64_w, i32_w]
      rfl
     refine one_ (i := 8) (N := some 22) #[t_, t_, t_, t_, t_, t_, t_, t_, t_, f_, t_, f_] rfl rfl (one_of HT_.out (by kernel_rfl)) (by decide) (fun K hK => ?_)
     refine goes_ Try.func49 (by kernel_rfl) rfl #[.int .i64 a1, .int .i64 t260, .int .i64 a3_2] (by rfl) rfl rfl (by (try simp only [List.map_toArray, List.map_cons, List.map_nil]); first | done | rfl | (simp only [List.length_drop, List.length_take]; rfl)) ?_
     with_reducible refine (leatref10_Add.calls k a1 t260 a3_2 t261 _ A7.out).mono ?_
     rintro e w15 ⟨rfl, hb⟩
     refine ⟨_, rfl, ?_⟩
     have n0_ := zd (zr (by (with_reducible repeat (first | apply ze | apply zf | apply zg)); exact HO2.out) hb)
     have n1_ := zd (zp (g := gb257) (o := .cells #[.int .i64 a0_0, .int .i64 a0_1, .int .i64 a0_2] 23 (0, 0)) (by (with_reducible repeat (first | refine zk ?_ _ | refine zl ?_ | refine zm ?_ _)); exact BK257.out) hb)
     have n2_ := zd (zp (g := gb258) (o := .cells #[.int .i64 a3_0, .int .i64 a3_1, .int .i64 a3_2] 37 (0, 0)) (by (with_reducible repeat (first | refine zk ?_ _ | refine zl ?_ | refine zm ?_ _)); exact BK258.out) hb)
     have n3_ := zd (zp (g := gb259) (o := .cells #[.int .i64 a4_0, .int .i64 a4_1] 31 (0, 0)) (by (with_reducible repeat (first | refine zk ?_ _ | refine zl ?_ | refine zm ?_ _)); exact BK259.out) hb)
     have n4_ := zd (zp (g := gb262) (o := .cells #[.int .i64 0, .int .i64 0, .int .i64 0, .int .i64 0] 46 (0, 0)) (by (with_reducible repeat (first | refine zk ?_ _ | refine zl ?_ | refine zm ?_ _)); exact BK262.out) hb)
     have n5_ := zd (Kept.below (S := (fun k_ => P2_ k_)) (by repeat (first | (with_reducible first | exact HK.out | apply Kept.alloc | apply Kept.drewN | apply Kept.drew | refine Kept.setCell ?_ (.inr GW257.out) _ | refine Kept.setCell ?_ (.inr GW258.out) _ | refine Kept.setCell ?_ (.inr GW259.out) _ | refine Kept.setCell ?_ (.inr GW262.out) _) | exact HK.out)) hb)
     have n6_ := zd (zs (by repeat (first | (with_reducible first | exact HB.out | apply zh | apply zi | apply zj | refine zn ?_ GE257.out | refine zn ?_ GE258.out | refine zn ?_ GE259.out | refine zn ?_ GE262.out) | exact HB.out)) hb)
     clear HO2
     clear BK257
     clear BK258
     clear BK259
     clear BK262
     clear HK
     clear HB
     have HO2 := n0_
     have BK257 := n1_
     have BK258 := n2_
     have BK259 := n3_
     have BK262 := n4_
     have HK := n5_
     have HB := n6_
     clear n0_ n1_ n2_ n3_ n4_ n5_ n6_
     (try clear hb)
     (try clear hb2)
     (try clear hk)
     (try clear hi)
     refine hK.out _ _ ⟨(zo BK258.out 0).trans rfl, (zo BK258.out 1).trans rfl, (zo BK258.out 2).trans rfl, (zo BK259.out 0).trans rfl, (zo BK259.out 1).trans rfl⟩ (fun hHeld => ?_)
     clear hK K
     refine norm_ (a' := ?_) ?_ ?_
     rotate_left
     ·show Act.put _ (some 22) _ = _
      simp only [Act.put, za, zb, zc, i64_w, i32_w]
      rfl
     refine pure_ (i := 9) (N := some 23) (v := ?_) (a' := ?_) #[t_, t_, t_, t_, t_, t_, t_, t_, t_, t_, t_, f_] rfl rfl (any_of HT_.out (by kernel_rfl)) (fun _ _ _ h => h) (Or.inl ⟨by rfl, ?_⟩) ?_ ?_
     rotate_left
     ·intro w'
      go_simp
      with_reducible rfl
     rotate_left
     ·simp only [Act.put, za, zb, zc, i64_w, i32_w]
      rfl
     exact norm_ (by simp only [putAll, Act.put, za, zb, zc]) (hCont (gb262) _ ⟨hHeld, (by (with_reducible repeat (first | apply ze | apply zf | apply zg)); exact HO2.out), (by (with_reducible repeat (first | refine zk ?_ _ | refine zl ?_ | refine zm ?_ _)); exact BK257.out), (by (with_reducible repeat (first | refine zk ?_ _ | refine zl ?_ | refine zm ?_ _)); exact BK258.out), (by (with_reducible repeat (first | refine zk ?_ _ | refine zl ?_ | refine zm ?_ _)); exact BK259.out), (by (with_reducible repeat (first | refine zk ?_ _ | refine zl ?_ | refine zm ?_ _)); exact BK262.out), GW262.out, GE262.out, NB257_262.out, NB262_257.out, NB258_262.out, NB262_258.out, NB259_262.out, NB262_259.out, (by repeat (first | (with_reducible first | exact HK.out | apply Kept.alloc | apply Kept.drewN | apply Kept.drew | refine Kept.setCell ?_ (.inr GW257.out) _ | refine Kept.setCell ?_ (.inr GW258.out) _ | refine Kept.setCell ?_ (.inr GW259.out) _ | refine Kept.setCell ?_ (.inr GW262.out) _) | exact HK.out)), (by repeat (first | (with_reducible first | exact HB.out | apply zh | apply zi | apply zj | refine zn ?_ GE257.out | refine zn ?_ GE258.out | refine zn ?_ GE259.out | refine zn ?_ GE262.out) | exact HB.out))⟩)
   ·skip
    refine box_step ?hg (N := 11) ?hd (cs := #[.int .i64 0, .int .i64 0, .int .i64 0, .int .i64 0]) (t := 46) ?hr ?_; (case hd => rfl); (case hg => rfl); (case hr => first | (go_simp; done) | (go_simp; rfl))
    intro gb262 hg w14 hbox hb
    have n0_ := zd (zr (Kd.R_elderB (by (with_reducible repeat (first | apply ze | apply zf | apply zg)); exact HO2.out) gb262 (Nat.le_of_eq hg.symm)) hb)
    have n1_ := zd (zp (g := gb257) (o := .cells #[.int .i64 a0_0, .int .i64 a0_1, .int .i64 a0_2] 23 (0, 0)) (by (with_reducible repeat (first | refine zk ?_ _ | refine zl ?_ | refine zm ?_ _)); exact BK257.out) hb)
    have n2_ := zd (zp (g := gb258) (o := .cells #[.int .i64 a3_0, .int .i64 a3_1, .int .i64 a3_2] 37 (0, 0)) (by (with_reducible repeat (first | refine zk ?_ _ | refine zl ?_ | refine zm ?_ _)); exact BK258.out) hb)
    have n3_ := zd (zp (g := gb259) (o := .cells #[.int .i64 a4_0, .int .i64 a4_1] 31 (0, 0)) (by (with_reducible repeat (first | refine zk ?_ _ | refine zl ?_ | refine zm ?_ _)); exact BK259.out) hb)
    have n4_ := zd (Kept.below (S := (fun k_ => P2_ k_)) (by repeat (first | (with_reducible first | exact HK.out | apply Kept.alloc | apply Kept.drewN | apply Kept.drew | refine Kept.setCell ?_ (.inr GW257.out) _ | refine Kept.setCell ?_ (.inr GW258.out) _ | refine Kept.setCell ?_ (.inr GW259.out) _) | exact HK.out)) hb)
    have n5_ := zd (zs (by repeat (first | (with_reducible first | exact HB.out | apply zh | apply zi | apply zj | refine zn ?_ GE257.out | refine zn ?_ GE258.out | refine zn ?_ GE259.out) | exact HB.out)) hb)
    have n6_ := zd (hbox)
    have n7_ := zd ((by rw [hg]; exact (by first | exact HK.out.1 | exact (show Kept w _ (fun k_ => P2_ k_) from by repeat (first | (with_reducible first | exact HK.out | apply Kept.alloc | apply Kept.drewN | apply Kept.drew | refine Kept.setCell ?_ (.inr GW257.out) _ | refine Kept.setCell ?_ (.inr GW258.out) _ | refine Kept.setCell ?_ (.inr GW259.out) _) | exact HK.out)).1) : w.heap.size <= gb262))
    have n8_ := zd ((by rw [hg]; exact (below_size (by repeat (first | (with_reducible first | exact HB.out | apply zh | apply zi | apply zj | refine zn ?_ GE257.out | refine zn ?_ GE258.out | refine zn ?_ GE259.out) | exact HB.out))) : w0.heap.size <= gb262))
    have n9_ := zd ((by rw [hg]; exact Nat.ne_of_lt (blk_lt (g := gb257) (o := .cells #[.int .i64 a0_0, .int .i64 a0_1, .int .i64 a0_2] 23 (0, 0)) (by (with_reducible repeat (first | refine zk ?_ _ | refine zl ?_ | refine zm ?_ _)); exact BK257.out)) : gb257 ≠ gb262))
    have n10_ := zd ((by rw [hg]; exact Nat.ne_of_gt (blk_lt (g := gb257) (o := .cells #[.int .i64 a0_0, .int .i64 a0_1, .int .i64 a0_2] 23 (0, 0)) (by (with_reducible repeat (first | refine zk ?_ _ | refine zl ?_ | refine zm ?_ _)); exact BK257.out)) : gb262 ≠ gb257))
    have n11_ := zd ((by rw [hg]; exact Nat.ne_of_lt (blk_lt (g := gb258) (o := .cells #[.int .i64 a3_0, .int .i64 a3_1, .int .i64 a3_2] 37 (0, 0)) (by (with_reducible repeat (first | refine zk ?_ _ | refine zl ?_ | refine zm ?_ _)); exact BK258.out)) : gb258 ≠ gb262))
    have n12_ := zd ((by rw [hg]; exact Nat.ne_of_gt (blk_lt (g := gb258) (o := .cells #[.int .i64 a3_0, .int .i64 a3_1, .int .i64 a3_2] 37 (0, 0)) (by (with_reducible repeat (first | refine zk ?_ _ | refine zl ?_ | refine zm ?_ _)); exact BK258.out)) : gb262 ≠ gb258))
    have n13_ := zd ((by rw [hg]; exact Nat.ne_of_lt (blk_lt (g := gb259) (o := .cells #[.int .i64 a4_0, .int .i64 a4_1] 31 (0, 0)) (by (with_reducible repeat (first | refine zk ?_ _ | refine zl ?_ | refine zm ?_ _)); exact BK259.out)) : gb259 ≠ gb262))
    have n14_ := zd ((by rw [hg]; exact Nat.ne_of_gt (blk_lt (g := gb259) (o := .cells #[.int .i64 a4_0, .int .i64 a4_1] 31 (0, 0)) (by (with_reducible repeat (first | refine zk ?_ _ | refine zl ?_ | refine zm ?_ _)); exact BK259.out)) : gb262 ≠ gb259))
    clear HO2
    clear BK257
    clear BK258
    clear BK259
    clear HK
    clear HB
    have HO2 := n0_
    have BK257 := n1_
    have BK258 := n2_
    have BK259 := n3_
    have HK := n4_
    have HB := n5_
    have BK262 := n6_
    have GW262 := n7_
    have GE262 := n8_
    have NB257_262 := n9_
    have NB262_257 := n10_
    have NB258_262 := n11_
    have NB262_258 := n12_
    have NB259_262 := n13_
    have NB262_259 := n14_
    clear n0_ n1_ n2_ n3_ n4_ n5_ n6_ n7_ n8_ n9_ n10_ n11_ n12_ n13_ n14_
    clear hb hbox hg
    refine hK.out _ _ ⟨(zo BK258.out 0).trans rfl, (zo BK258.out 1).trans rfl, (zo BK258.out 2).trans rfl, (zo BK259.out 0).trans rfl, (zo BK259.out 1).trans rfl⟩ (fun hHeld => ?_)
    clear hK K
    refine norm_ (a' := ?_) ?_ ?_
    rotate_left
    ·show Act.put _ (some 11) _ = _
     simp only [Act.put, za, zb, zc, i64_w, i32_w]
     rfl
    refine one_ (i := 5) (N := some 19) #[t_, t_, t_, t_, t_, t_, t_, t_, f_, f_, t_, f_] rfl rfl (one_of HT_.out (by kernel_rfl)) (by decide) (fun K hK => ?_)
    refine goes_ Try.func50 (by kernel_rfl) rfl #[.int .i64 a1] (by rfl) rfl rfl (by (try simp only [List.map_toArray, List.map_cons, List.map_nil]); first | done | rfl | (simp only [List.length_drop, List.length_take]; rfl)) ?_
    with_reducible refine (leatref10_Zero.calls a1 t260 _ A6.out).mono ?_
    rintro e w' ⟨rfl, ⟨nd, rfl⟩⟩
    refine ⟨_, rfl, ?_⟩
    refine hK.out _ _ ⟨(zo BK258.out 0).trans rfl, (zo BK258.out 1).trans rfl, (zo BK258.out 2).trans rfl, (zo BK259.out 0).trans rfl, (zo BK259.out 1).trans rfl⟩ (fun hHeld => ?_)
    clear hK K
    refine norm_ (a' := ?_) ?_ ?_
    rotate_left
    ·show Act.put _ (some 19) _ = _
     simp only [Act.put, za, zb, zc, i64_w, i32_w]
     rfl
    refine one_ (i := 8) (N := some 22) #[t_, t_, t_, t_, t_, t_, t_, t_, t_, f_, t_, f_] rfl rfl (one_of HT_.out (by kernel_rfl)) (by decide) (fun K hK => ?_)
    refine goes_ Try.func49 (by kernel_rfl) rfl #[.int .i64 a1, .int .i64 t260, .int .i64 a3_2] (by rfl) rfl rfl (by (try simp only [List.map_toArray, List.map_cons, List.map_nil]); first | done | rfl | (simp only [List.length_drop, List.length_take]; rfl)) ?_
    with_reducible refine (leatref10_Add.calls k a1 t260 a3_2 t261 _ A7.out).mono ?_
    rintro e w15 ⟨rfl, hb⟩
    refine ⟨_, rfl, ?_⟩
    have n0_ := zd (zr (by (with_reducible repeat (first | apply ze | apply zf | apply zg)); exact HO2.out) hb)
    have n1_ := zd (zp (g := gb257) (o := .cells #[.int .i64 a0_0, .int .i64 a0_1, .int .i64 a0_2] 23 (0, 0)) (by (with_reducible repeat (first | refine zk ?_ _ | refine zl ?_ | refine zm ?_ _)); exact BK257.out) hb)
    have n2_ := zd (zp (g := gb258) (o := .cells #[.int .i64 a3_0, .int .i64 a3_1, .int .i64 a3_2] 37 (0, 0)) (by (with_reducible repeat (first | refine zk ?_ _ | refine zl ?_ | refine zm ?_ _)); exact BK258.out) hb)
    have n3_ := zd (zp (g := gb259) (o := .cells #[.int .i64 a4_0, .int .i64 a4_1] 31 (0, 0)) (by (with_reducible repeat (first | refine zk ?_ _ | refine zl ?_ | refine zm ?_ _)); exact BK259.out) hb)
    have n4_ := zd (zp (g := gb262) (o := .cells #[.int .i64 0, .int .i64 0, .int .i64 0, .int .i64 0] 46 (0, 0)) (by (with_reducible repeat (first | refine zk ?_ _ | refine zl ?_ | refine zm ?_ _)); exact BK262.out) hb)
    have n5_ := zd (Kept.below (S := (fun k_ => P2_ k_)) (by repeat (first | (with_reducible first | exact HK.out | apply Kept.alloc | apply Kept.drewN | apply Kept.drew | refine Kept.setCell ?_ (.inr GW257.out) _ | refine Kept.setCell ?_ (.inr GW258.out) _ | refine Kept.setCell ?_ (.inr GW259.out) _ | refine Kept.setCell ?_ (.inr GW262.out) _) | exact HK.out)) hb)
    have n6_ := zd (zs (by repeat (first | (with_reducible first | exact HB.out | apply zh | apply zi | apply zj | refine zn ?_ GE257.out | refine zn ?_ GE258.out | refine zn ?_ GE259.out | refine zn ?_ GE262.out) | exact HB.out)) hb)
    clear HO2
    clear BK257
    clear BK258
    clear BK259
    clear BK262
    clear HK
    clear HB
    have HO2 := n0_
    have BK257 := n1_
    have BK258 := n2_
    have BK259 := n3_
    have BK262 := n4_
    have HK := n5_
    have HB := n6_
    clear n0_ n1_ n2_ n3_ n4_ n5_ n6_
    (try clear hb)
    (try clear hb2)
    (try clear hk)
    (try clear hi)
    refine hK.out _ _ ⟨(zo BK258.out 0).trans rfl, (zo BK258.out 1).trans rfl, (zo BK258.out 2).trans rfl, (zo BK259.out 0).trans rfl, (zo BK259.out 1).trans rfl⟩ (fun hHeld => ?_)
    clear hK K
    refine norm_ (a' := ?_) ?_ ?_
    rotate_left
    ·show Act.put _ (some 22) _ = _
     simp only [Act.put, za, zb, zc, i64_w, i32_w]
     rfl
    refine pure_ (i := 9) (N := some 23) (v := ?_) (a' := ?_) #[t_, t_, t_, t_, t_, t_, t_, t_, t_, t_, t_, f_] rfl rfl (any_of HT_.out (by kernel_rfl)) (fun _ _ _ h => h) (Or.inl ⟨by rfl, ?_⟩) ?_ ?_
    rotate_left
    ·intro w'
     go_simp
     with_reducible rfl
    rotate_left
    ·simp only [Act.put, za, zb, zc, i64_w, i32_w]
     rfl
    exact norm_ (by simp only [putAll, Act.put, za, zb, zc]) (hCont (gb262) _ ⟨hHeld, (by (with_reducible repeat (first | apply ze | apply zf | apply zg)); exact HO2.out), (by (with_reducible repeat (first | refine zk ?_ _ | refine zl ?_ | refine zm ?_ _)); exact BK257.out), (by (with_reducible repeat (first | refine zk ?_ _ | refine zl ?_ | refine zm ?_ _)); exact BK258.out), (by (with_reducible repeat (first | refine zk ?_ _ | refine zl ?_ | refine zm ?_ _)); exact BK259.out), (by (with_reducible repeat (first | refine zk ?_ _ | refine zl ?_ | refine zm ?_ _)); exact BK262.out), GW262.out, GE262.out, NB257_262.out, NB262_257.out, NB258_262.out, NB262_258.out, NB259_262.out, NB262_259.out, (by repeat (first | (with_reducible first | exact HK.out | apply Kept.alloc | apply Kept.drewN | apply Kept.drew | refine Kept.setCell ?_ (.inr GW257.out) _ | refine Kept.setCell ?_ (.inr GW258.out) _ | refine Kept.setCell ?_ (.inr GW259.out) _ | refine Kept.setCell ?_ (.inr GW262.out) _) | exact HK.out)), (by repeat (first | (with_reducible first | exact HB.out | apply zh | apply zi | apply zj | refine zn ?_ GE257.out | refine zn ?_ GE258.out | refine zn ?_ GE259.out | refine zn ?_ GE262.out) | exact HB.out))⟩)
  rintro gb262 w16 ⟨hS_, h0_, h1_, h2_, h3_, h4_, h5_, h6_, h7_, h8_, h9_, h10_, h11_, h12_, h13_, h14_⟩
  have n0_ : Aside0 (Kd.R k46 46 w16 w0.heap.size (fun k_ => (P2_ k_ ∨ w.heap.size <= k_) /\ k_ ≠ gb262) u9000_ l2) := ⟨h0_⟩
  have n1_ : Aside0 (w16.heap[gb257]? = some (.cells #[.int .i64 a0_0, .int .i64 a0_1, .int .i64 a0_2] 23 (0, 0))) := ⟨h1_⟩
  have n2_ : Aside0 (w16.heap[gb258]? = some (.cells #[.int .i64 a3_0, .int .i64 a3_1, .int .i64 a3_2] 37 (0, 0))) := ⟨h2_⟩
  have n3_ : Aside0 (w16.heap[gb259]? = some (.cells #[.int .i64 a4_0, .int .i64 a4_1] 31 (0, 0))) := ⟨h3_⟩
  have n4_ : Aside0 (w16.heap[gb262]? = some (.cells #[.int .i64 0, .int .i64 0, .int .i64 0, .int .i64 0] 46 (0, 0))) := ⟨h4_⟩
  have n5_ : Aside0 (w.heap.size <= gb262) := ⟨h5_⟩
  have n6_ : Aside0 (w0.heap.size <= gb262) := ⟨h6_⟩
  have n7_ : Aside0 (gb257 ≠ gb262) := ⟨h7_⟩
  have n8_ : Aside0 (gb262 ≠ gb257) := ⟨h8_⟩
  have n9_ : Aside0 (gb258 ≠ gb262) := ⟨h9_⟩
  have n10_ : Aside0 (gb262 ≠ gb258) := ⟨h10_⟩
  have n11_ : Aside0 (gb259 ≠ gb262) := ⟨h11_⟩
  have n12_ : Aside0 (gb262 ≠ gb259) := ⟨h12_⟩
  have n13_ : Aside0 (Kept w w16 (fun k_ => P2_ k_)) := ⟨h13_⟩
  have n14_ : Aside0 (Below w0.heap.size w0 w16) := ⟨h14_⟩
  clear HO2
  clear BK257
  clear BK258
  clear BK259
  clear HK
  clear HB
  clear h0_ h1_ h2_ h3_ h4_ h5_ h6_ h7_ h8_ h9_ h10_ h11_ h12_ h13_ h14_
  have HO2 := n0_
  have BK257 := n1_
  have BK258 := n2_
  have BK259 := n3_
  have BK262 := n4_
  have GW262 := n5_
  have GE262 := n6_
  have NB257_262 := n7_
  have NB262_257 := n8_
  have NB258_262 := n9_
  have NB262_258 := n10_
  have NB259_262 := n11_
  have NB262_259 := n12_
  have HK := n13_
  have HB := n14_
  clear n0_ n1_ n2_ n3_ n4_ n5_ n6_ n7_ n8_ n9_ n10_ n11_ n12_ n13_ n14_
  have hHeld : w16.cell? ⟨gb258, 0, none⟩ = some (.int .i64 a3_0) /\ w16.cell? ⟨gb258, 1, none⟩ = some (.int .i64 a3_1) /\ w16.cell? ⟨gb258, 2, none⟩ = some (.int .i64 a3_2) /\ w16.cell? ⟨gb259, 0, none⟩ = some (.int .i64 a4_0) /\ w16.cell? ⟨gb259, 1, none⟩ = some (.int .i64 a4_1) := hS_
  refine norm_ (a' := ?_) ?_ ?_
  rotate_left
  ·simp only [putAll, Act.put, za, zb, zc]
   rfl
  refine one_ (i := 11) (N := none) #[t_, t_, t_, t_, t_, t_, t_, t_, t_, t_, t_, t_] rfl rfl (one_of HT_.out (by kernel_rfl)) (by decide) (fun K hK => ?_)
  have hs17 : w16.cell? ⟨gb262, 0, none⟩ = some (.int .i64 0) := (zo BK262.out 0).trans rfl
  have hfs17 := blk_frozen BK262.out 0
  have hns17_0 := NB257_262.out
  have hns17_1 := NB258_262.out
  have hns17_2 := NB259_262.out
  have hms17_0 := NB262_257.out
  have hms17_1 := NB262_258.out
  have hms17_2 := NB262_259.out
  have hs18 : w16.cell? ⟨gb262, 1, none⟩ = some (.int .i64 0) := (zo BK262.out 1).trans rfl
  have hfs18 := blk_frozen BK262.out 1
  have hns18_0 := NB257_262.out
  have hns18_1 := NB258_262.out
  have hns18_2 := NB259_262.out
  have hms18_0 := NB262_257.out
  have hms18_1 := NB262_258.out
  have hms18_2 := NB262_259.out
  have hs19 : w16.cell? ⟨gb262, 2, none⟩ = some (.int .i64 0) := (zo BK262.out 2).trans rfl
  have hfs19 := blk_frozen BK262.out 2
  have hns19_0 := NB257_262.out
  have hns19_1 := NB258_262.out
  have hns19_2 := NB259_262.out
  have hms19_0 := NB262_257.out
  have hms19_1 := NB262_258.out
  have hms19_2 := NB262_259.out
  have hs20 : w16.cell? ⟨gb262, 3, none⟩ = some (.int .i64 0) := (zo BK262.out 3).trans rfl
  have hfs20 := blk_frozen BK262.out 3
  have hns20_0 := NB257_262.out
  have hns20_1 := NB258_262.out
  have hns20_2 := NB259_262.out
  have hms20_0 := NB262_257.out
  have hms20_1 := NB262_258.out
  have hms20_2 := NB262_259.out
  refine skip_ (w1 := ?_) (by rfl) rfl ?_ ?_
  rotate_left
  ·go_simp
   rfl
  refine hK.out _ _ ⟨((cell_far (p := ⟨gb262, _, none⟩) NB258_262.out _).trans (((cell_far (p := ⟨gb262, _, none⟩) NB258_262.out _).trans (((cell_far (p := ⟨gb262, _, none⟩) NB258_262.out _).trans (((cell_far (p := ⟨gb262, _, none⟩) NB258_262.out _).trans (hHeld.1)))))))), ((cell_far (p := ⟨gb262, _, none⟩) NB258_262.out _).trans (((cell_far (p := ⟨gb262, _, none⟩) NB258_262.out _).trans (((cell_far (p := ⟨gb262, _, none⟩) NB258_262.out _).trans (((cell_far (p := ⟨gb262, _, none⟩) NB258_262.out _).trans (hHeld.2.1)))))))), ((cell_far (p := ⟨gb262, _, none⟩) NB258_262.out _).trans (((cell_far (p := ⟨gb262, _, none⟩) NB258_262.out _).trans (((cell_far (p := ⟨gb262, _, none⟩) NB258_262.out _).trans (((cell_far (p := ⟨gb262, _, none⟩) NB258_262.out _).trans (hHeld.2.2.1)))))))), ((cell_far (p := ⟨gb262, _, none⟩) NB259_262.out _).trans (((cell_far (p := ⟨gb262, _, none⟩) NB259_262.out _).trans (((cell_far (p := ⟨gb262, _, none⟩) NB259_262.out _).trans (((cell_far (p := ⟨gb262, _, none⟩) NB259_262.out _).trans (hHeld.2.2.2.1)))))))), ((cell_far (p := ⟨gb262, _, none⟩) NB259_262.out _).trans (((cell_far (p := ⟨gb262, _, none⟩) NB259_262.out _).trans (((cell_far (p := ⟨gb262, _, none⟩) NB259_262.out _).trans (((cell_far (p := ⟨gb262, _, none⟩) NB259_262.out _).trans (hHeld.2.2.2.2))))))))⟩ (fun hHeld => ?_)
  clear hK K
  refine done_ (done_of HT_.out (by kernel_rfl)) ?_
  have n0_ : Aside0 (Kd.R k46 46 ((((w16.setCell ⟨gb262, 0, none⟩ (.int .i64 a3_0)).setCell ⟨gb262, 1, none⟩ (.int .i64 a4_0)).setCell ⟨gb262, 2, none⟩ (.int .i64 a4_1)).setCell ⟨gb262, 3, none⟩ (.int .i64 t261)) w0.heap.size (fun k_ => (P2_ k_ ∨ w.heap.size <= k_) /\ k_ ≠ gb262) u9000_ l2) := ⟨by (with_reducible repeat (first | apply ze | apply zf | apply zg)); exact zq (Kd.R_far (p := ⟨gb262, 3, none⟩) (Kd.R_far (p := ⟨gb262, 2, none⟩) (Kd.R_far (p := ⟨gb262, 1, none⟩) (Kd.R_far (p := ⟨gb262, 0, none⟩) (zq HO2.out (fun k_ hk => (⟨hk, hk.2⟩ : _ /\ k_ ≠ gb262))) (fun _ hk => hk.2) (.int .i64 a3_0)) (fun _ hk => hk.2) (.int .i64 a4_0)) (fun _ hk => hk.2) (.int .i64 a4_1)) (fun _ hk => hk.2) (.int .i64 t261)) (fun _ hk => ⟨hk.1.1, hk.1.2⟩)⟩
  have n1_ : Aside0 (((((w16.setCell ⟨gb262, 0, none⟩ (.int .i64 a3_0)).setCell ⟨gb262, 1, none⟩ (.int .i64 a4_0)).setCell ⟨gb262, 2, none⟩ (.int .i64 a4_1)).setCell ⟨gb262, 3, none⟩ (.int .i64 t261)).heap[gb257]? = some (.cells #[.int .i64 a0_0, .int .i64 a0_1, .int .i64 a0_2] 23 (0, 0))) := ⟨by (with_reducible repeat (first | refine zk ?_ _ | refine zl ?_ | refine zm ?_ _)); refine blk_far ?_ NB257_262.out _; (with_reducible repeat (first | refine zk ?_ _ | refine zl ?_ | refine zm ?_ _)); refine blk_far ?_ NB257_262.out _; (with_reducible repeat (first | refine zk ?_ _ | refine zl ?_ | refine zm ?_ _)); refine blk_far ?_ NB257_262.out _; (with_reducible repeat (first | refine zk ?_ _ | refine zl ?_ | refine zm ?_ _)); refine blk_far ?_ NB257_262.out _; (with_reducible repeat (first | refine zk ?_ _ | refine zl ?_ | refine zm ?_ _)); exact BK257.out⟩
  have n2_ : Aside0 (((((w16.setCell ⟨gb262, 0, none⟩ (.int .i64 a3_0)).setCell ⟨gb262, 1, none⟩ (.int .i64 a4_0)).setCell ⟨gb262, 2, none⟩ (.int .i64 a4_1)).setCell ⟨gb262, 3, none⟩ (.int .i64 t261)).heap[gb258]? = some (.cells #[.int .i64 a3_0, .int .i64 a3_1, .int .i64 a3_2] 37 (0, 0))) := ⟨by (with_reducible repeat (first | refine zk ?_ _ | refine zl ?_ | refine zm ?_ _)); refine blk_far ?_ NB258_262.out _; (with_reducible repeat (first | refine zk ?_ _ | refine zl ?_ | refine zm ?_ _)); refine blk_far ?_ NB258_262.out _; (with_reducible repeat (first | refine zk ?_ _ | refine zl ?_ | refine zm ?_ _)); refine blk_far ?_ NB258_262.out _; (with_reducible repeat (first | refine zk ?_ _ | refine zl ?_ | refine zm ?_ _)); refine blk_far ?_ NB258_262.out _; (with_reducible repeat (first | refine zk ?_ _ | refine zl ?_ | refine zm ?_ _)); exact BK258.out⟩
  have n3_ : Aside0 (((((w16.setCell ⟨gb262, 0, none⟩ (.int .i64 a3_0)).setCell ⟨gb262, 1, none⟩ (.int .i64 a4_0)).setCell ⟨gb262, 2, none⟩ (.int .i64 a4_1)).setCell ⟨gb262, 3, none⟩ (.int .i64 t261)).heap[gb259]? = some (.cells #[.int .i64 a4_0, .int .i64 a4_1] 31 (0, 0))) := ⟨by (with_reducible repeat (first | refine zk ?_ _ | refine zl ?_ | refine zm ?_ _)); refine blk_far ?_ NB259_262.out _; (with_reducible repeat (first | refine zk ?_ _ | refine zl ?_ | refine zm ?_ _)); refine blk_far ?_ NB259_262.out _; (with_reducible repeat (first | refine zk ?_ _ | refine zl ?_ | refine zm ?_ _)); refine blk_far ?_ NB259_262.out _; (with_reducible repeat (first | refine zk ?_ _ | refine zl ?_ | refine zm ?_ _)); refine blk_far ?_ NB259_262.out _; (with_reducible repeat (first | refine zk ?_ _ | refine zl ?_ | refine zm ?_ _)); exact BK259.out⟩
  have n4_ : Aside0 (((((w16.setCell ⟨gb262, 0, none⟩ (.int .i64 a3_0)).setCell ⟨gb262, 1, none⟩ (.int .i64 a4_0)).setCell ⟨gb262, 2, none⟩ (.int .i64 a4_1)).setCell ⟨gb262, 3, none⟩ (.int .i64 t261)).heap[gb262]? = some (.cells #[.int .i64 a3_0, .int .i64 a4_0, .int .i64 a4_1, .int .i64 t261] 46 (0, 0))) := ⟨by (with_reducible repeat (first | refine zk ?_ _ | refine zl ?_ | refine zm ?_ _)); refine blk_put (cs := #[.int .i64 a3_0, .int .i64 a4_0, .int .i64 a4_1, .int .i64 0]) ?_ 3 _ rfl; (with_reducible repeat (first | refine zk ?_ _ | refine zl ?_ | refine zm ?_ _)); refine blk_put (cs := #[.int .i64 a3_0, .int .i64 a4_0, .int .i64 0, .int .i64 0]) ?_ 2 _ rfl; (with_reducible repeat (first | refine zk ?_ _ | refine zl ?_ | refine zm ?_ _)); refine blk_put (cs := #[.int .i64 a3_0, .int .i64 0, .int .i64 0, .int .i64 0]) ?_ 1 _ rfl; (with_reducible repeat (first | refine zk ?_ _ | refine zl ?_ | refine zm ?_ _)); refine blk_put (cs := #[.int .i64 0, .int .i64 0, .int .i64 0, .int .i64 0]) ?_ 0 _ rfl; (with_reducible repeat (first | refine zk ?_ _ | refine zl ?_ | refine zm ?_ _)); exact BK262.out⟩
  have n5_ : Aside0 (Kept w ((((w16.setCell ⟨gb262, 0, none⟩ (.int .i64 a3_0)).setCell ⟨gb262, 1, none⟩ (.int .i64 a4_0)).setCell ⟨gb262, 2, none⟩ (.int .i64 a4_1)).setCell ⟨gb262, 3, none⟩ (.int .i64 t261)) (fun k_ => P2_ k_)) := ⟨by repeat (first | (with_reducible first | exact HK.out | apply Kept.alloc | apply Kept.drewN | apply Kept.drew | refine Kept.setCell ?_ (.inr GW257.out) _ | refine Kept.setCell ?_ (.inr GW258.out) _ | refine Kept.setCell ?_ (.inr GW259.out) _ | refine Kept.setCell ?_ (.inr GW262.out) _) | exact HK.out)⟩
  have n6_ : Aside0 (Below w0.heap.size w0 ((((w16.setCell ⟨gb262, 0, none⟩ (.int .i64 a3_0)).setCell ⟨gb262, 1, none⟩ (.int .i64 a4_0)).setCell ⟨gb262, 2, none⟩ (.int .i64 a4_1)).setCell ⟨gb262, 3, none⟩ (.int .i64 t261))) := ⟨by repeat (first | (with_reducible first | exact HB.out | apply zh | apply zi | apply zj | refine zn ?_ GE257.out | refine zn ?_ GE258.out | refine zn ?_ GE259.out | refine zn ?_ GE262.out) | exact HB.out)⟩
  (try clear HO2)
  (try clear BK257)
  (try clear BK258)
  (try clear BK259)
  (try clear BK262)
  (try clear HK)
  (try clear HB)
  generalize ((((w16.setCell ⟨gb262, 0, none⟩ (.int .i64 a3_0)).setCell ⟨gb262, 1, none⟩ (.int .i64 a4_0)).setCell ⟨gb262, 2, none⟩ (.int .i64 a4_1)).setCell ⟨gb262, 3, none⟩ (.int .i64 t261)) = w21 at n0_ n1_ n2_ n3_ n4_ n5_ n6_ ⊢
  have HO2 := n0_
  have BK257 := n1_
  have BK258 := n2_
  have BK259 := n3_
  have BK262 := n4_
  have HK := n5_
  have HB := n6_
  clear n0_ n1_ n2_ n3_ n4_ n5_ n6_
  have hnb22 := NB257_258.out
  have hnc22 := NB258_257.out
  have hnb23 := NB257_259.out
  have hnc23 := NB259_257.out
  have hnb24 := NB257_262.out
  have hnc24 := NB262_257.out
  have hcz25_0 : w21.cell? ⟨gb257, 0, none⟩ = some (.int .i64 a0_0) := (zo BK257.out 0).trans rfl
  have hcz25_1 : w21.cell? ⟨gb257, 1, none⟩ = some (.int .i64 a0_1) := (zo BK257.out 1).trans rfl
  have hcz25_2 : w21.cell? ⟨gb257, 2, none⟩ = some (.int .i64 a0_2) := (zo BK257.out 2).trans rfl
  have hfz25_0 := blk_frozen BK257.out 0
  have hfz25_1 := blk_frozen BK257.out 1
  have hfz25_2 := blk_frozen BK257.out 2
  have hnb26 := NB262_258.out
  have hnc26 := NB258_262.out
  have hnb27 := NB262_259.out
  have hnc27 := NB259_262.out
  have hcz28_0 : w21.cell? ⟨gb262, 0, none⟩ = some (.int .i64 a3_0) := (zo BK262.out 0).trans rfl
  have hcz28_1 : w21.cell? ⟨gb262, 1, none⟩ = some (.int .i64 a4_0) := (zo BK262.out 1).trans rfl
  have hcz28_2 : w21.cell? ⟨gb262, 2, none⟩ = some (.int .i64 a4_1) := (zo BK262.out 2).trans rfl
  have hcz28_3 : w21.cell? ⟨gb262, 3, none⟩ = some (.int .i64 t261) := (zo BK262.out 3).trans rfl
  have hfz28_0 := blk_frozen BK262.out 0
  have hfz28_1 := blk_frozen BK262.out 1
  have hfz28_2 := blk_frozen BK262.out 2
  have hfz28_3 := blk_frozen BK262.out 3
  obtain ⟨Ao29, co29, eo29⟩ := Kd.R_slice HO2.out
  subst eo29
  try go_wp2_with (first | ((with_reducible refine gate_callee (f := 45) rfl ?_); refine goesL_ (some 30) rfl rfl Try.func45 (by kernel_rfl) rfl #[.int .i64 a1, .slice Ao29 l2.length co29, .agg #[.int .i64 a3_0, .int .i64 a4_0, .int .i64 a4_1, .int .i64 t261]] rfl (by (try simp only [List.map_toArray, List.map_cons, List.map_nil]); first | done | rfl | (simp only [List.length_drop, List.length_take]; rfl)) ?_; (with_reducible refine (leatref11_merge.calls k a1 (fun k_ => some k_ = (.slice Ao29 l2.length co29 : Value).ownBlock) (.slice Ao29 l2.length co29) l2 a3_0 a4_0 a4_1 t261 t263 w0 _ ?side1 ?side2 A9.out).mono ?_); (case side1 => repeat (first | (with_reducible first | exact HB.out | apply zh | apply zi | apply zj | refine zn ?_ GE257.out | refine zn ?_ GE258.out | refine zn ?_ GE259.out | refine zn ?_ GE262.out) | exact HB.out)); (case side2 => exact Kd.R_tight rfl HO2.out); rintro e w30 ⟨v264, rfl, ho0, hb, hkp⟩; refine ⟨_, rfl, ?_⟩; have n0_ := zd (blk_kept (by (with_reducible repeat (first | refine zk ?_ _ | refine zl ?_ | refine zm ?_ _)); exact BK257.out) hkp (fun hs_ => (fun e_ => (Kd.R_ne HO2.out BK257.out (by decide)) e_) hs_)); have n1_ := zd (blk_kept (by (with_reducible repeat (first | refine zk ?_ _ | refine zl ?_ | refine zm ?_ _)); exact BK258.out) hkp (fun hs_ => (fun e_ => (Kd.R_ne HO2.out BK258.out (by decide)) e_) hs_)); have n2_ := zd (blk_kept (by (with_reducible repeat (first | refine zk ?_ _ | refine zl ?_ | refine zm ?_ _)); exact BK259.out) hkp (fun hs_ => (fun e_ => (Kd.R_ne HO2.out BK259.out (by decide)) e_) hs_)); have n3_ := zd (blk_kept (by (with_reducible repeat (first | refine zk ?_ _ | refine zl ?_ | refine zm ?_ _)); exact BK262.out) hkp (fun hs_ => (fun e_ => (Kd.R_away HO2.out (fun _ hk => hk.2)) e_) hs_)); have n4_ := zd (zq (ok' := fun k_ => (P2_ k_ ∨ w.heap.size <= k_) /\ k_ ≠ gb262) ho0 (fun k_ hk_ => ⟨Or.elim hk_ (fun hs_ => (HO2.out.1 k_ (hs_).symm).1) (fun hn_ => (.inr (Nat.le_trans (by first | exact HK.out.1 | exact (show Kept w _ (fun k_ => P2_ k_) from by repeat (first | (with_reducible first | exact HK.out | apply Kept.alloc | apply Kept.drewN | apply Kept.drew | refine Kept.setCell ?_ (.inr GW257.out) _ | refine Kept.setCell ?_ (.inr GW258.out) _ | refine Kept.setCell ?_ (.inr GW259.out) _ | refine Kept.setCell ?_ (.inr GW262.out) _) | exact HK.out)).1) hn_))), Or.elim hk_ (fun hs_ => fun e_ => (Kd.R_away HO2.out (fun _ hk => hk.2)) (by rw [← e_]; exact hs_)) (fun hn_ => (Kd.freshB (g := gb262) (o := .cells #[.int .i64 a3_0, .int .i64 a4_0, .int .i64 a4_1, .int .i64 t261] 46 (0, 0)) (by (with_reducible repeat (first | refine zk ?_ _ | refine zl ?_ | refine zm ?_ _)); exact BK262.out) k_ hn_))⟩)); have n5_ := zd (Kept.then_ (S := (fun k_ => P2_ k_)) (by repeat (first | (with_reducible first | exact HK.out | apply Kept.alloc | apply Kept.drewN | apply Kept.drew | refine Kept.setCell ?_ (.inr GW257.out) _ | refine Kept.setCell ?_ (.inr GW258.out) _ | refine Kept.setCell ?_ (.inr GW259.out) _ | refine Kept.setCell ?_ (.inr GW262.out) _) | exact HK.out)) hkp (fun k_ hs_ => (fun e_ => (HO2.out.1 k_ e_.symm).1) hs_)); have n6_ := zd (hb); clear BK257; clear BK258; clear BK259; clear BK262; clear HK; clear HB; clear HO2; have BK257 := n0_; have BK258 := n1_; have BK259 := n2_; have BK262 := n3_; have HO265 := n4_; have HK := n5_; have HB := n6_; clear n0_ n1_ n2_ n3_ n4_ n5_ n6_; (try clear hb); (try clear hkp); (try clear ho0)))
  go_ret
  exact ⟨_, by first | rfl | (simp [errW_none, errW_some] <;> rfl) | (simp [*, errW_none, errW_some] <;> rfl), by (with_reducible repeat (first | apply ze | apply zf | apply zg)); exact zq HO265.out (fun _ hk => hk.1), by repeat (first | (with_reducible first | exact HB.out | apply zh | apply zi | apply zj | refine zn ?_ GE257.out | refine zn ?_ GE258.out | refine zn ?_ GE259.out | refine zn ?_ GE262.out) | exact HB.out), by repeat (first | (with_reducible first | exact HK.out | apply Kept.alloc | apply Kept.drewN | apply Kept.drew | refine Kept.setCell ?_ (.inr GW257.out) _ | refine Kept.setCell ?_ (.inr GW258.out) _ | refine Kept.setCell ?_ (.inr GW259.out) _ | refine Kept.setCell ?_ (.inr GW262.out) _) | exact HK.out)⟩
 ·rw [if_neg c8] at H
  have c8b0 : (a0_0 == 3) = false := beq_eq_false_iff_ne.mpr c8
  have c8b1 : (a0_0 != 3) = true := bne_iff_ne.mpr c8
  have H' := zd H
  clear H
  go_enter Try.func40, Try.ntmps40
  try go_wp2_with (first | ((with_reducible refine gate_dst (N := 5) rfl ?_); refine box_event ?hg (N := 5) ?hd (cs := #[.int .i64 a0_0, .int .i64 a0_1, .int .i64 a0_2]) (t := 23) ?hr ?_; (case hd => rfl); (case hg => rfl); (case hr => first | (go_simp; done) | (go_simp; rfl)); intro gb257 hg w31 hbox hb; have n0_ := zd (zr (by (with_reducible repeat (first | apply ze | apply zf | apply zg)); exact HO2.out) hb); have n1_ := zd (Kept.below (S := (fun k_ => P2_ k_)) (by repeat (first | (with_reducible first | exact HK.out | apply Kept.alloc | apply Kept.drewN | apply Kept.drew) | exact HK.out)) hb); have n2_ := zd (zs (by repeat (first | (with_reducible first | exact HB.out | apply zh | apply zi | apply zj) | exact HB.out)) hb); have n3_ := zd (hbox); have n4_ := zd ((by rw [hg]; exact (by first | exact HK.out.1 | exact (show Kept w _ (fun k_ => P2_ k_) from by repeat (first | (with_reducible first | exact HK.out | apply Kept.alloc | apply Kept.drewN | apply Kept.drew) | exact HK.out)).1) : w.heap.size <= gb257)); have n5_ := zd ((by rw [hg]; exact (below_size (by repeat (first | (with_reducible first | exact HB.out | apply zh | apply zi | apply zj) | exact HB.out))) : w0.heap.size <= gb257)); clear HO2; clear HK; clear HB; have HO2 := n0_; have HK := n1_; have HB := n2_; have BK257 := n3_; have GW257 := n4_; have GE257 := n5_; clear n0_ n1_ n2_ n3_ n4_ n5_; clear hb hbox hg) | ((with_reducible refine gate_dst (N := 8) rfl ?_); refine box_event ?hg (N := 8) ?hd (cs := #[.int .i64 a3_0, .int .i64 a3_1, .int .i64 a3_2]) (t := 37) ?hr ?_; (case hd => rfl); (case hg => rfl); (case hr => first | (go_simp; done) | (go_simp; rfl)); intro gb258 hg w32 hbox hb; have n0_ := zd (zr (by (with_reducible repeat (first | apply ze | apply zf | apply zg)); exact HO2.out) hb); have n1_ := zd (zp (g := gb257) (o := .cells #[.int .i64 a0_0, .int .i64 a0_1, .int .i64 a0_2] 23 (0, 0)) (by (with_reducible repeat (first | refine zk ?_ _ | refine zl ?_ | refine zm ?_ _)); exact BK257.out) hb); have n2_ := zd (Kept.below (S := (fun k_ => P2_ k_)) (by repeat (first | (with_reducible first | exact HK.out | apply Kept.alloc | apply Kept.drewN | apply Kept.drew | refine Kept.setCell ?_ (.inr GW257.out) _) | exact HK.out)) hb); have n3_ := zd (zs (by repeat (first | (with_reducible first | exact HB.out | apply zh | apply zi | apply zj | refine zn ?_ GE257.out) | exact HB.out)) hb); have n4_ := zd (hbox); have n5_ := zd ((by rw [hg]; exact (by first | exact HK.out.1 | exact (show Kept w _ (fun k_ => P2_ k_) from by repeat (first | (with_reducible first | exact HK.out | apply Kept.alloc | apply Kept.drewN | apply Kept.drew | refine Kept.setCell ?_ (.inr GW257.out) _) | exact HK.out)).1) : w.heap.size <= gb258)); have n6_ := zd ((by rw [hg]; exact (below_size (by repeat (first | (with_reducible first | exact HB.out | apply zh | apply zi | apply zj | refine zn ?_ GE257.out) | exact HB.out))) : w0.heap.size <= gb258)); have n7_ := zd ((by rw [hg]; exact Nat.ne_of_lt (blk_lt (g := gb257) (o := .cells #[.int .i64 a0_0, .int .i64 a0_1, .int .i64 a0_2] 23 (0, 0)) (by (with_reducible repeat (first | refine zk ?_ _ | refine zl ?_ | refine zm ?_ _)); exact BK257.out)) : gb257 ≠ gb258)); have n8_ := zd ((by rw [hg]; exact Nat.ne_of_gt (blk_lt (g := gb257) (o := .cells #[.int .i64 a0_0, .int .i64 a0_1, .int .i64 a0_2] 23 (0, 0)) (by (with_reducible repeat (first | refine zk ?_ _ | refine zl ?_ | refine zm ?_ _)); exact BK257.out)) : gb258 ≠ gb257)); clear HO2; clear BK257; clear HK; clear HB; have HO2 := n0_; have BK257 := n1_; have HK := n2_; have HB := n3_; have BK258 := n4_; have GW258 := n5_; have GE258 := n6_; have NB257_258 := n7_; have NB258_257 := n8_; clear n0_ n1_ n2_ n3_ n4_ n5_ n6_ n7_ n8_; clear hb hbox hg) | ((with_reducible refine gate_dst (N := 9) rfl ?_); refine box_event ?hg (N := 9) ?hd (cs := #[.int .i64 a4_0, .int .i64 a4_1]) (t := 31) ?hr ?_; (case hd => rfl); (case hg => rfl); (case hr => first | (go_simp; done) | (go_simp; rfl)); intro gb259 hg w33 hbox hb; have n0_ := zd (zr (by (with_reducible repeat (first | apply ze | apply zf | apply zg)); exact HO2.out) hb); have n1_ := zd (zp (g := gb257) (o := .cells #[.int .i64 a0_0, .int .i64 a0_1, .int .i64 a0_2] 23 (0, 0)) (by (with_reducible repeat (first | refine zk ?_ _ | refine zl ?_ | refine zm ?_ _)); exact BK257.out) hb); have n2_ := zd (zp (g := gb258) (o := .cells #[.int .i64 a3_0, .int .i64 a3_1, .int .i64 a3_2] 37 (0, 0)) (by (with_reducible repeat (first | refine zk ?_ _ | refine zl ?_ | refine zm ?_ _)); exact BK258.out) hb); have n3_ := zd (Kept.below (S := (fun k_ => P2_ k_)) (by repeat (first | (with_reducible first | exact HK.out | apply Kept.alloc | apply Kept.drewN | apply Kept.drew | refine Kept.setCell ?_ (.inr GW257.out) _ | refine Kept.setCell ?_ (.inr GW258.out) _) | exact HK.out)) hb); have n4_ := zd (zs (by repeat (first | (with_reducible first | exact HB.out | apply zh | apply zi | apply zj | refine zn ?_ GE257.out | refine zn ?_ GE258.out) | exact HB.out)) hb); have n5_ := zd (hbox); have n6_ := zd ((by rw [hg]; exact (by first | exact HK.out.1 | exact (show Kept w _ (fun k_ => P2_ k_) from by repeat (first | (with_reducible first | exact HK.out | apply Kept.alloc | apply Kept.drewN | apply Kept.drew | refine Kept.setCell ?_ (.inr GW257.out) _ | refine Kept.setCell ?_ (.inr GW258.out) _) | exact HK.out)).1) : w.heap.size <= gb259)); have n7_ := zd ((by rw [hg]; exact (below_size (by repeat (first | (with_reducible first | exact HB.out | apply zh | apply zi | apply zj | refine zn ?_ GE257.out | refine zn ?_ GE258.out) | exact HB.out))) : w0.heap.size <= gb259)); have n8_ := zd ((by rw [hg]; exact Nat.ne_of_lt (blk_lt (g := gb257) (o := .cells #[.int .i64 a0_0, .int .i64 a0_1, .int .i64 a0_2] 23 (0, 0)) (by (with_reducible repeat (first | refine zk ?_ _ | refine zl ?_ | refine zm ?_ _)); exact BK257.out)) : gb257 ≠ gb259)); have n9_ := zd ((by rw [hg]; exact Nat.ne_of_gt (blk_lt (g := gb257) (o := .cells #[.int .i64 a0_0, .int .i64 a0_1, .int .i64 a0_2] 23 (0, 0)) (by (with_reducible repeat (first | refine zk ?_ _ | refine zl ?_ | refine zm ?_ _)); exact BK257.out)) : gb259 ≠ gb257)); have n10_ := zd ((by rw [hg]; exact Nat.ne_of_lt (blk_lt (g := gb258) (o := .cells #[.int .i64 a3_0, .int .i64 a3_1, .int .i64 a3_2] 37 (0, 0)) (by (with_reducible repeat (first | refine zk ?_ _ | refine zl ?_ | refine zm ?_ _)); exact BK258.out)) : gb258 ≠ gb259)); have n11_ := zd ((by rw [hg]; exact Nat.ne_of_gt (blk_lt (g := gb258) (o := .cells #[.int .i64 a3_0, .int .i64 a3_1, .int .i64 a3_2] 37 (0, 0)) (by (with_reducible repeat (first | refine zk ?_ _ | refine zl ?_ | refine zm ?_ _)); exact BK258.out)) : gb259 ≠ gb258)); clear HO2; clear BK257; clear BK258; clear HK; clear HB; have HO2 := n0_; have BK257 := n1_; have BK258 := n2_; have HK := n3_; have HB := n4_; have BK259 := n5_; have GW259 := n6_; have GE259 := n7_; have NB257_259 := n8_; have NB259_257 := n9_; have NB258_259 := n10_; have NB259_258 := n11_; clear n0_ n1_ n2_ n3_ n4_ n5_ n6_ n7_ n8_ n9_ n10_ n11_; clear hb hbox hg))
  have n0_ := zd (zg HO2.out)
  have n1_ := zd (zl BK257.out)
  have n2_ := zd (zl BK258.out)
  have n3_ := zd (zl BK259.out)
  have n4_ := zd (Kept.drew HK.out)
  have n5_ := zd (zj HB.out)
  clear HO2
  clear BK257
  clear BK258
  clear BK259
  clear HK
  clear HB
  have HO2 := n0_
  have BK257 := n1_
  have BK258 := n2_
  have BK259 := n3_
  have HK := n4_
  have HB := n5_
  clear n0_ n1_ n2_ n3_ n4_ n5_
  refine start_ (n := 12) (S := fun w' => w'.cell? ⟨gb258, 0, none⟩ = some (.int .i64 a3_0) /\ w'.cell? ⟨gb258, 1, none⟩ = some (.int .i64 a3_1) /\ w'.cell? ⟨gb258, 2, none⟩ = some (.int .i64 a3_2) /\ w'.cell? ⟨gb259, 0, none⟩ = some (.int .i64 a4_0) /\ w'.cell? ⟨gb259, 1, none⟩ = some (.int .i64 a4_1)) (ds := []) #[f_, f_, f_, f_, f_, f_, f_, f_, f_, f_, f_, f_] (by kernel_rfl) rfl rfl ⟨(zo BK258.out 0).trans rfl, (zo BK258.out 1).trans rfl, (zo BK258.out 2).trans rfl, (zo BK259.out 0).trans rfl, (zo BK259.out 1).trans rfl⟩ (fun hHeld => ?_); refine with_tabW leatref11_Into.tab1 leatref11_Into.bits1 (fun HT_ HW_ => ?_)
  generalize w33.drew = w34 at HO2 BK257 BK258 BK259 HK HB hHeld ⊢
  refine pure_ (i := 0) (N := some 14) (v := ?_) (a' := ?_) #[t_, f_, f_, f_, f_, f_, f_, f_, f_, f_, f_, f_] rfl rfl (any_of HT_.out (by kernel_rfl)) (fun _ _ _ h => h) (Or.inl ⟨by rfl, ?_⟩) ?_ ?_
  rotate_left
  ·intro w'
   go_simp
   with_reducible rfl
  rotate_left
  ·simp only [Act.put, za, zb, zc, i64_w, i32_w]
   rfl
  refine pure_ (i := 3) (N := some 17) (v := ?_) (a' := ?_) #[t_, f_, f_, t_, f_, f_, f_, f_, f_, f_, f_, f_] rfl rfl (any_of HT_.out (by kernel_rfl)) (fun _ _ _ h => h) (Or.inl ⟨by rfl, ?_⟩) ?_ ?_
  rotate_left
  ·intro w'
   go_simp
   with_reducible rfl
  rotate_left
  ·simp only [Act.put, za, zb, zc, i64_w, i32_w]
   rfl
  refine pure_ (i := 4) (N := some 18) (v := ?_) (a' := ?_) #[t_, f_, f_, t_, t_, f_, f_, f_, f_, f_, f_, f_] rfl rfl (any_of HT_.out (by kernel_rfl)) (fun _ _ _ h => h) (Or.inl ⟨by rfl, ?_⟩) ?_ ?_
  rotate_left
  ·intro w'
   go_simp
   with_reducible rfl
  rotate_left
  ·simp only [Act.put, za, zb, zc, i64_w, i32_w]
   rfl
  refine pure_ (i := 6) (N := some 20) (v := ?_) (a' := ?_) #[t_, f_, f_, t_, t_, f_, t_, f_, f_, f_, f_, f_] rfl rfl (any_of HT_.out (by kernel_rfl)) (fun _ _ _ h => h) (Or.inl ⟨by rfl, ?_⟩) ?_ ?_
  rotate_left
  ·intro w'
   go_simp
   with_reducible rfl
  rotate_left
  ·simp only [Act.put, za, zb, zc, i64_w, i32_w]
   rfl
  refine take_ (i := 1) (N := some 15) (v := ?_) (a' := ?_) #[t_, t_, f_, t_, t_, f_, t_, f_, f_, f_, f_, f_] rfl rfl (take_ofW HT_.out HW_.out (by kernel_rfl)) (fun _ _ _ h => h) (Or.inl ⟨by rfl, ?_⟩) hHeld ?_ ?_
  rotate_left
  ·rintro w' ⟨s0, s1, s2, s3, s4⟩
   go_simp
   with_reducible rfl
  rotate_left
  ·simp only [Act.put, za, zb, zc, i64_w, i32_w]
   rfl
  refine take_ (i := 2) (N := some 16) (v := ?_) (a' := ?_) #[t_, t_, t_, t_, t_, f_, t_, f_, f_, f_, f_, f_] rfl rfl (take_ofW HT_.out HW_.out (by kernel_rfl)) (fun _ _ _ h => h) (Or.inl ⟨by rfl, ?_⟩) hHeld ?_ ?_
  rotate_left
  ·rintro w' ⟨s0, s1, s2, s3, s4⟩
   go_simp
   with_reducible rfl
  rotate_left
  ·simp only [Act.put, za, zb, zc, i64_w, i32_w]
   rfl
  refine take_ (i := 7) (N := some 21) (v := ?_) (a' := ?_) #[t_, t_, t_, t_, t_, f_, t_, t_, f_, f_, f_, f_] rfl rfl (take_ofW HT_.out HW_.out (by kernel_rfl)) (fun _ _ _ h => h) (Or.inl ⟨by rfl, ?_⟩) hHeld ?_ ?_
  rotate_left
  ·rintro w' ⟨s0, s1, s2, s3, s4⟩
   go_simp
   with_reducible rfl
  rotate_left
  ·simp only [Act.put, za, zb, zc, i64_w, i32_w]
   rfl
  refine join_ (σ := Nat) 1 #[t_, t_, t_, t_, t_, t_, t_, t_, t_, t_, t_, f_] (fun s_ => [(19, .int .i64 t260), (22, .int .i64 t261), (11, .pointer (some ⟨s_, 0, none⟩)), (23, .agg #[.int .i64 a3_0, .int .i64 a4_0, .int .i64 a4_1, .int .i64 t261])]) (fun s_ w' => (w'.cell? ⟨gb258, 0, none⟩ = some (.int .i64 a3_0) /\ w'.cell? ⟨gb258, 1, none⟩ = some (.int .i64 a3_1) /\ w'.cell? ⟨gb258, 2, none⟩ = some (.int .i64 a3_2) /\ w'.cell? ⟨gb259, 0, none⟩ = some (.int .i64 a4_0) /\ w'.cell? ⟨gb259, 1, none⟩ = some (.int .i64 a4_1)) /\ (Kd.R k46 46 w' w0.heap.size (fun k_ => (P2_ k_ ∨ w.heap.size <= k_) /\ k_ ≠ s_) u9000_ l2) /\ (w'.heap[gb257]? = some (.cells #[.int .i64 a0_0, .int .i64 a0_1, .int .i64 a0_2] 23 (0, 0))) /\ (w'.heap[gb258]? = some (.cells #[.int .i64 a3_0, .int .i64 a3_1, .int .i64 a3_2] 37 (0, 0))) /\ (w'.heap[gb259]? = some (.cells #[.int .i64 a4_0, .int .i64 a4_1] 31 (0, 0))) /\ (w'.heap[s_]? = some (.cells #[.int .i64 0, .int .i64 0, .int .i64 0, .int .i64 0] 46 (0, 0))) /\ (w.heap.size <= s_) /\ (w0.heap.size <= s_) /\ (gb257 ≠ s_) /\ (s_ ≠ gb257) /\ (gb258 ≠ s_) /\ (s_ ≠ gb258) /\ (gb259 ≠ s_) /\ (s_ ≠ gb259) /\ (Kept w w' (fun k_ => P2_ k_)) /\ (Below w0.heap.size w0 w')) ?_ ?_
  rotate_left
  ·intro hCont
   refine two_ (i := 5) (j := 10) (Ni := some 19) (Nj := some 11) #[t_, t_, t_, t_, t_, t_, t_, t_, f_, f_, f_, f_] #[t_, t_, t_, t_, t_, f_, t_, t_, f_, f_, t_, f_] rfl rfl rfl rfl (two_of HT_.out (by kernel_rfl)) (by decide) (by decide) (fun K hK => ?_) (fun K hK => ?_)
   ·skip
    refine goes_ Try.func50 (by kernel_rfl) rfl #[.int .i64 a1] (by rfl) rfl rfl (by (try simp only [List.map_toArray, List.map_cons, List.map_nil]); first | done | rfl | (simp only [List.length_drop, List.length_take]; rfl)) ?_
    with_reducible refine (leatref10_Zero.calls a1 t260 _ A6.out).mono ?_
    rintro e w' ⟨rfl, ⟨nd, rfl⟩⟩
    refine ⟨_, rfl, ?_⟩
    refine hK.out _ _ ⟨(zo BK258.out 0).trans rfl, (zo BK258.out 1).trans rfl, (zo BK258.out 2).trans rfl, (zo BK259.out 0).trans rfl, (zo BK259.out 1).trans rfl⟩ (fun hHeld => ?_)
    clear hK K
    refine norm_ (a' := ?_) ?_ ?_
    rotate_left
    ·show Act.put _ (some 19) _ = _
     simp only [Act.put, za, zb, zc, i64_w, i32_w]
     rfl
    refine two_ (i := 8) (j := 10) (Ni := some 22) (Nj := some 11) #[t_, t_, t_, t_, t_, t_, t_, t_, t_, f_, f_, f_] #[t_, t_, t_, t_, t_, t_, t_, t_, f_, f_, t_, f_] rfl rfl rfl rfl (two_of HT_.out (by kernel_rfl)) (by decide) (by decide) (fun K hK => ?_) (fun K hK => ?_)
    ·skip
     refine goes_ Try.func49 (by kernel_rfl) rfl #[.int .i64 a1, .int .i64 t260, .int .i64 a3_2] (by rfl) rfl rfl (by (try simp only [List.map_toArray, List.map_cons, List.map_nil]); first | done | rfl | (simp only [List.length_drop, List.length_take]; rfl)) ?_
     with_reducible refine (leatref10_Add.calls k a1 t260 a3_2 t261 _ A7.out).mono ?_
     rintro e w35 ⟨rfl, hb⟩
     refine ⟨_, rfl, ?_⟩
     have n0_ := zd (zr (by (with_reducible repeat (first | apply ze | apply zf | apply zg)); exact HO2.out) hb)
     have n1_ := zd (zp (g := gb257) (o := .cells #[.int .i64 a0_0, .int .i64 a0_1, .int .i64 a0_2] 23 (0, 0)) (by (with_reducible repeat (first | refine zk ?_ _ | refine zl ?_ | refine zm ?_ _)); exact BK257.out) hb)
     have n2_ := zd (zp (g := gb258) (o := .cells #[.int .i64 a3_0, .int .i64 a3_1, .int .i64 a3_2] 37 (0, 0)) (by (with_reducible repeat (first | refine zk ?_ _ | refine zl ?_ | refine zm ?_ _)); exact BK258.out) hb)
     have n3_ := zd (zp (g := gb259) (o := .cells #[.int .i64 a4_0, .int .i64 a4_1] 31 (0, 0)) (by (with_reducible repeat (first | refine zk ?_ _ | refine zl ?_ | refine zm ?_ _)); exact BK259.out) hb)
     have n4_ := zd (Kept.below (S := (fun k_ => P2_ k_)) (by repeat (first | (with_reducible first | exact HK.out | apply Kept.alloc | apply Kept.drewN | apply Kept.drew | refine Kept.setCell ?_ (.inr GW257.out) _ | refine Kept.setCell ?_ (.inr GW258.out) _ | refine Kept.setCell ?_ (.inr GW259.out) _) | exact HK.out)) hb)
     have n5_ := zd (zs (by repeat (first | (with_reducible first | exact HB.out | apply zh | apply zi | apply zj | refine zn ?_ GE257.out | refine zn ?_ GE258.out | refine zn ?_ GE259.out) | exact HB.out)) hb)
     clear HO2
     clear BK257
     clear BK258
     clear BK259
     clear HK
     clear HB
     have HO2 := n0_
     have BK257 := n1_
     have BK258 := n2_
     have BK259 := n3_
     have HK := n4_
     have HB := n5_
     clear n0_ n1_ n2_ n3_ n4_ n5_
     (try clear hb)
     (try clear hb2)
     (try clear hk)
     (try clear hi)
     refine hK.out _ _ ⟨(zo BK258.out 0).trans rfl, (zo BK258.out 1).trans rfl, (zo BK258.out 2).trans rfl, (zo BK259.out 0).trans rfl, (zo BK259.out 1).trans rfl⟩ (fun hHeld => ?_)
     clear hK K
     refine norm_ (a' := ?_) ?_ ?_
     rotate_left
     ·show Act.put _ (some 22) _ = _
      simp only [Act.put, za, zb, zc, i64_w, i32_w]
      rfl
     refine pure_ (i := 9) (N := some 23) (v := ?_) (a' := ?_) #[t_, t_, t_, t_, t_, t_, t_, t_, t_, t_, f_, f_] rfl rfl (any_of HT_.out (by kernel_rfl)) (fun _ _ _ h => h) (Or.inl ⟨by rfl, ?_⟩) ?_ ?_
     rotate_left
     ·intro w'
      go_simp
      with_reducible rfl
     rotate_left
     ·simp only [Act.put, za, zb, zc, i64_w, i32_w]
      rfl
     refine one_ (i := 10) (N := some 11) #[t_, t_, t_, t_, t_, t_, t_, t_, t_, t_, t_, f_] rfl rfl (one_of HT_.out (by kernel_rfl)) (by decide) (fun K hK => ?_)
     refine box_step ?hg (N := 11) ?hd (cs := #[.int .i64 0, .int .i64 0, .int .i64 0, .int .i64 0]) (t := 46) ?hr ?_; (case hd => rfl); (case hg => rfl); (case hr => first | (go_simp; done) | (go_simp; rfl))
     intro gb262 hg w36 hbox hb
     have n0_ := zd (zr (Kd.R_elderB (by (with_reducible repeat (first | apply ze | apply zf | apply zg)); exact HO2.out) gb262 (Nat.le_of_eq hg.symm)) hb)
     have n1_ := zd (zp (g := gb257) (o := .cells #[.int .i64 a0_0, .int .i64 a0_1, .int .i64 a0_2] 23 (0, 0)) (by (with_reducible repeat (first | refine zk ?_ _ | refine zl ?_ | refine zm ?_ _)); exact BK257.out) hb)
     have n2_ := zd (zp (g := gb258) (o := .cells #[.int .i64 a3_0, .int .i64 a3_1, .int .i64 a3_2] 37 (0, 0)) (by (with_reducible repeat (first | refine zk ?_ _ | refine zl ?_ | refine zm ?_ _)); exact BK258.out) hb)
     have n3_ := zd (zp (g := gb259) (o := .cells #[.int .i64 a4_0, .int .i64 a4_1] 31 (0, 0)) (by (with_reducible repeat (first | refine zk ?_ _ | refine zl ?_ | refine zm ?_ _)); exact BK259.out) hb)
     have n4_ := zd (Kept.below (S := (fun k_ => P2_ k_)) (by repeat (first | (with_reducible first | exact HK.out | apply Kept.alloc | apply Kept.drewN | apply Kept.drew | refine Kept.setCell ?_ (.inr GW257.out) _ | refine Kept.setCell ?_ (.inr GW258.out) _ | refine Kept.setCell ?_ (.inr GW259.out) _) | exact HK.out)) hb)
     have n5_ := zd (zs (by repeat (first | (with_reducible first | exact HB.out | apply zh | apply zi | apply zj | refine zn ?_ GE257.out | refine zn ?_ GE258.out | refine zn ?_ GE259.out) | exact HB.out)) hb)
     have n6_ := zd (hbox)
     have n7_ := zd ((by rw [hg]; exact (by first | exact HK.out.1 | exact (show Kept w _ (fun k_ => P2_ k_) from by repeat (first | (with_reducible first | exact HK.out | apply Kept.alloc | apply Kept.drewN | apply Kept.drew | refine Kept.setCell ?_ (.inr GW257.out) _ | refine Kept.setCell ?_ (.inr GW258.out) _ | refine Kept.setCell ?_ (.inr GW259.out) _) | exact HK.out)).1) : w.heap.size <= gb262))
     have n8_ := zd ((by rw [hg]; exact (below_size (by repeat (first | (with_reducible first | exact HB.out | apply zh | apply zi | apply zj | refine zn ?_ GE257.out | refine zn ?_ GE258.out | refine zn ?_ GE259.out) | exact HB.out))) : w0.heap.size <= gb262))
     have n9_ := zd ((by rw [hg]; exact Nat.ne_of_lt (blk_lt (g := gb257) (o := .cells #[.int .i64 a0_0, .int .i64 a0_1, .int .i64 a0_2] 23 (0, 0)) (by (with_reducible repeat (first | refine zk ?_ _ | refine zl ?_ | refine zm ?_ _)); exact BK257.out)) : gb257 ≠ gb262))
     have n10_ := zd ((by rw [hg]; exact Nat.ne_of_gt (blk_lt (g := gb257) (o := .cells #[.int .i64 a0_0, .int .i64 a0_1, .int .i64 a0_2] 23 (0, 0)) (by (with_reducible repeat (first | refine zk ?_ _ | refine zl ?_ | refine zm ?_ _)); exact BK257.out)) : gb262 ≠ gb257))
     have n11_ := zd ((by rw [hg]; exact Nat.ne_of_lt (blk_lt (g := gb258) (o := .cells #[.int .i64 a3_0, .int .i64 a3_1, .int .i64 a3_2] 37 (0, 0)) (by (with_reducible repeat (first | refine zk ?_ _ | refine zl ?_ | refine zm ?_ _)); exact BK258.out)) : gb258 ≠ gb262))
     have n12_ := zd ((by rw [hg]; exact Nat.ne_of_gt (blk_lt (g := gb258) (o := .cells #[.int .i64 a3_0, .int .i64 a3_1, .int .i64 a3_2] 37 (0, 0)) (by (with_reducible repeat (first | refine zk ?_ _ | refine zl ?_ | refine zm ?_ _)); exact BK258.out)) : gb262 ≠ gb258))
     have n13_ := zd ((by rw [hg]; exact Nat.ne_of_lt (blk_lt (g := gb259) (o := .cells #[.int .i64 a4_0, .int .i64 a4_1] 31 (0, 0)) (by (with_reducible repeat (first | refine zk ?_ _ | refine zl ?_ | refine zm ?_ _)); exact BK259.out)) : gb259 ≠ gb262))
     have n14_ := zd ((by rw [hg]; exact Nat.ne_of_gt (blk_lt (g := gb259) (o := .cells #[.int .i64 a4_0, .int .i64 a4_1] 31 (0, 0)) (by (with_reducible repeat (first | refine zk ?_ _ | refine zl ?_ | refine zm ?_ _)); exact BK259.out)) : gb262 ≠ gb259))
     clear HO2
     clear BK257
     clear BK258
     clear BK259
     clear HK
     clear HB
     have HO2 := n0_
     have BK257 := n1_
     have BK258 := n2_
     have BK259 := n3_
     have HK := n4_
     have HB := n5_
     have BK262 := n6_
     have GW262 := n7_
     have GE262 := n8_
     have NB257_262 := n9_
     have NB262_257 := n10_
     have NB258_262 := n11_
     have NB262_258 := n12_
     have NB259_262 := n13_
     have NB262_259 := n14_
     clear n0_ n1_ n2_ n3_ n4_ n5_ n6_ n7_ n8_ n9_ n10_ n11_ n12_ n13_ n14_
     clear hb hbox hg
     refine hK.out _ _ ⟨(zo BK258.out 0).trans rfl, (zo BK258.out 1).trans rfl, (zo BK258.out 2).trans rfl, (zo BK259.out 0).trans rfl, (zo BK259.out 1).trans rfl⟩ (fun hHeld => ?_)
     clear hK K
     refine norm_ (a' := ?_) ?_ ?_
     rotate_left
     ·show Act.put _ (some 11) _ = _
      simp only [Act.put, za, zb, zc, i64_w, i32_w]
      rfl
     exact norm_ (by simp only [putAll, Act.put, za, zb, zc]) (hCont (gb262) _ ⟨hHeld, (by (with_reducible repeat (first | apply ze | apply zf | apply zg)); exact HO2.out), (by (with_reducible repeat (first | refine zk ?_ _ | refine zl ?_ | refine zm ?_ _)); exact BK257.out), (by (with_reducible repeat (first | refine zk ?_ _ | refine zl ?_ | refine zm ?_ _)); exact BK258.out), (by (with_reducible repeat (first | refine zk ?_ _ | refine zl ?_ | refine zm ?_ _)); exact BK259.out), (by (with_reducible repeat (first | refine zk ?_ _ | refine zl ?_ | refine zm ?_ _)); exact BK262.out), GW262.out, GE262.out, NB257_262.out, NB262_257.out, NB258_262.out, NB262_258.out, NB259_262.out, NB262_259.out, (by repeat (first | (with_reducible first | exact HK.out | apply Kept.alloc | apply Kept.drewN | apply Kept.drew | refine Kept.setCell ?_ (.inr GW257.out) _ | refine Kept.setCell ?_ (.inr GW258.out) _ | refine Kept.setCell ?_ (.inr GW259.out) _ | refine Kept.setCell ?_ (.inr GW262.out) _) | exact HK.out)), (by repeat (first | (with_reducible first | exact HB.out | apply zh | apply zi | apply zj | refine zn ?_ GE257.out | refine zn ?_ GE258.out | refine zn ?_ GE259.out | refine zn ?_ GE262.out) | exact HB.out))⟩)
    ·skip
     refine box_step ?hg (N := 11) ?hd (cs := #[.int .i64 0, .int .i64 0, .int .i64 0, .int .i64 0]) (t := 46) ?hr ?_; (case hd => rfl); (case hg => rfl); (case hr => first | (go_simp; done) | (go_simp; rfl))
     intro gb262 hg w35 hbox hb
     have n0_ := zd (zr (Kd.R_elderB (by (with_reducible repeat (first | apply ze | apply zf | apply zg)); exact HO2.out) gb262 (Nat.le_of_eq hg.symm)) hb)
     have n1_ := zd (zp (g := gb257) (o := .cells #[.int .i64 a0_0, .int .i64 a0_1, .int .i64 a0_2] 23 (0, 0)) (by (with_reducible repeat (first | refine zk ?_ _ | refine zl ?_ | refine zm ?_ _)); exact BK257.out) hb)
     have n2_ := zd (zp (g := gb258) (o := .cells #[.int .i64 a3_0, .int .i64 a3_1, .int .i64 a3_2] 37 (0, 0)) (by (with_reducible repeat (first | refine zk ?_ _ | refine zl ?_ | refine zm ?_ _)); exact BK258.out) hb)
     have n3_ := zd (zp (g := gb259) (o := .cells #[.int .i64 a4_0, .int .i64 a4_1] 31 (0, 0)) (by (with_reducible repeat (first | refine zk ?_ _ | refine zl ?_ | refine zm ?_ _)); exact BK259.out) hb)
     have n4_ := zd (Kept.below (S := (fun k_ => P2_ k_)) (by repeat (first | (with_reducible first | exact HK.out | apply Kept.alloc | apply Kept.drewN | apply Kept.drew | refine Kept.setCell ?_ (.inr GW257.out) _ | refine Kept.setCell ?_ (.inr GW258.out) _ | refine Kept.setCell ?_ (.inr GW259.out) _) | exact HK.out)) hb)
     have n5_ := zd (zs (by repeat (first | (with_reducible first | exact HB.out | apply zh | apply zi | apply zj | refine zn ?_ GE257.out | refine zn ?_ GE258.out | refine zn ?_ GE259.out) | exact HB.out)) hb)
     have n6_ := zd (hbox)
     have n7_ := zd ((by rw [hg]; exact (by first | exact HK.out.1 | exact (show Kept w _ (fun k_ => P2_ k_) from by repeat (first | (with_reducible first | exact HK.out | apply Kept.alloc | apply Kept.drewN | apply Kept.drew | refine Kept.setCell ?_ (.inr GW257.out) _ | refine Kept.setCell ?_ (.inr GW258.out) _ | refine Kept.setCell ?_ (.inr GW259.out) _) | exact HK.out)).1) : w.heap.size <= gb262))
     have n8_ := zd ((by rw [hg]; exact (below_size (by repeat (first | (with_reducible first | exact HB.out | apply zh | apply zi | apply zj | refine zn ?_ GE257.out | refine zn ?_ GE258.out | refine zn ?_ GE259.out) | exact HB.out))) : w0.heap.size <= gb262))
     have n9_ := zd ((by rw [hg]; exact Nat.ne_of_lt (blk_lt (g := gb257) (o := .cells #[.int .i64 a0_0, .int .i64 a0_1, .int .i64 a0_2] 23 (0, 0)) (by (with_reducible repeat (first | refine zk ?_ _ | refine zl ?_ | refine zm ?_ _)); exact BK257.out)) : gb257 ≠ gb262))
     have n10_ := zd ((by rw [hg]; exact Nat.ne_of_gt (blk_lt (g := gb257) (o := .cells #[.int .i64 a0_0, .int .i64 a0_1, .int .i64 a0_2] 23 (0, 0)) (by (with_reducible repeat (first | refine zk ?_ _ | refine zl ?_ | refine zm ?_ _)); exact BK257.out)) : gb262 ≠ gb257))
     have n11_ := zd ((by rw [hg]; exact Nat.ne_of_lt (blk_lt (g := gb258) (o := .cells #[.int .i64 a3_0, .int .i64 a3_1, .int .i64 a3_2] 37 (0, 0)) (by (with_reducible repeat (first | refine zk ?_ _ | refine zl ?_ | refine zm ?_ _)); exact BK258.out)) : gb258 ≠ gb262))
     have n12_ := zd ((by rw [hg]; exact Nat.ne_of_gt (blk_lt (g := gb258) (o := .cells #[.int .i64 a3_0, .int .i64 a3_1, .int .i64 a3_2] 37 (0, 0)) (by (with_reducible repeat (first | refine zk ?_ _ | refine zl ?_ | refine zm ?_ _)); exact BK258.out)) : gb262 ≠ gb258))
     have n13_ := zd ((by rw [hg]; exact Nat.ne_of_lt (blk_lt (g := gb259) (o := .cells #[.int .i64 a4_0, .int .i64 a4_1] 31 (0, 0)) (by (with_reducible repeat (first | refine zk ?_ _ | refine zl ?_ | refine zm ?_ _)); exact BK259.out)) : gb259 ≠ gb262))
     have n14_ := zd ((by rw [hg]; exact Nat.ne_of_gt (blk_lt (g := gb259) (o := .cells #[.int .i64 a4_0, .int .i64 a4_1] 31 (0, 0)) (by (with_reducible repeat (first | refine zk ?_ _ | refine zl ?_ | refine zm ?_ _)); exact BK259.out)) : gb262 ≠ gb259))
     clear HO2
     clear BK257
     clear BK258
     clear BK259
     clear HK
     clear HB
     have HO2 := n0_
     have BK257 := n1_
     have BK258 := n2_
     have BK259 := n3_
     have HK := n4_
     have HB := n5_
     have BK262 := n6_
     have GW262 := n7_
     have GE262 := n8_
     have NB257_262 := n9_
     have NB262_257 := n10_
     have NB258_262 := n11_
     have NB262_258 := n12_
     have NB259_262 := n13_
     have NB262_259 := n14_
     clear n0_ n1_ n2_ n3_ n4_ n5_ n6_ n7_ n8_ n9_ n10_ n11_ n12_ n13_ n14_
     clear hb hbox hg
     refine hK.out _ _ ⟨(zo BK258.out 0).trans rfl, (zo BK258.out 1).trans rfl, (zo BK258.out 2).trans rfl, (zo BK259.out 0).trans rfl, (zo BK259.out 1).trans rfl⟩ (fun hHeld => ?_)
     clear hK K
     refine norm_ (a' := ?_) ?_ ?_
     rotate_left
     ·show Act.put _ (some 11) _ = _
      simp only [Act.put, za, zb, zc, i64_w, i32_w]
      rfl
     refine one_ (i := 8) (N := some 22) #[t_, t_, t_, t_, t_, t_, t_, t_, t_, f_, t_, f_] rfl rfl (one_of HT_.out (by kernel_rfl)) (by decide) (fun K hK => ?_)
     refine goes_ Try.func49 (by kernel_rfl) rfl #[.int .i64 a1, .int .i64 t260, .int .i64 a3_2] (by rfl) rfl rfl (by (try simp only [List.map_toArray, List.map_cons, List.map_nil]); first | done | rfl | (simp only [List.length_drop, List.length_take]; rfl)) ?_
     with_reducible refine (leatref10_Add.calls k a1 t260 a3_2 t261 _ A7.out).mono ?_
     rintro e w36 ⟨rfl, hb⟩
     refine ⟨_, rfl, ?_⟩
     have n0_ := zd (zr (by (with_reducible repeat (first | apply ze | apply zf | apply zg)); exact HO2.out) hb)
     have n1_ := zd (zp (g := gb257) (o := .cells #[.int .i64 a0_0, .int .i64 a0_1, .int .i64 a0_2] 23 (0, 0)) (by (with_reducible repeat (first | refine zk ?_ _ | refine zl ?_ | refine zm ?_ _)); exact BK257.out) hb)
     have n2_ := zd (zp (g := gb258) (o := .cells #[.int .i64 a3_0, .int .i64 a3_1, .int .i64 a3_2] 37 (0, 0)) (by (with_reducible repeat (first | refine zk ?_ _ | refine zl ?_ | refine zm ?_ _)); exact BK258.out) hb)
     have n3_ := zd (zp (g := gb259) (o := .cells #[.int .i64 a4_0, .int .i64 a4_1] 31 (0, 0)) (by (with_reducible repeat (first | refine zk ?_ _ | refine zl ?_ | refine zm ?_ _)); exact BK259.out) hb)
     have n4_ := zd (zp (g := gb262) (o := .cells #[.int .i64 0, .int .i64 0, .int .i64 0, .int .i64 0] 46 (0, 0)) (by (with_reducible repeat (first | refine zk ?_ _ | refine zl ?_ | refine zm ?_ _)); exact BK262.out) hb)
     have n5_ := zd (Kept.below (S := (fun k_ => P2_ k_)) (by repeat (first | (with_reducible first | exact HK.out | apply Kept.alloc | apply Kept.drewN | apply Kept.drew | refine Kept.setCell ?_ (.inr GW257.out) _ | refine Kept.setCell ?_ (.inr GW258.out) _ | refine Kept.setCell ?_ (.inr GW259.out) _ | refine Kept.setCell ?_ (.inr GW262.out) _) | exact HK.out)) hb)
     have n6_ := zd (zs (by repeat (first | (with_reducible first | exact HB.out | apply zh | apply zi | apply zj | refine zn ?_ GE257.out | refine zn ?_ GE258.out | refine zn ?_ GE259.out | refine zn ?_ GE262.out) | exact HB.out)) hb)
     clear HO2
     clear BK257
     clear BK258
     clear BK259
     clear BK262
     clear HK
     clear HB
     have HO2 := n0_
     have BK257 := n1_
     have BK258 := n2_
     have BK259 := n3_
     have BK262 := n4_
     have HK := n5_
     have HB := n6_
     clear n0_ n1_ n2_ n3_ n4_ n5_ n6_
     (try clear hb)
     (try clear hb2)
     (try clear hk)
     (try clear hi)
     refine hK.out _ _ ⟨(zo BK258.out 0).trans rfl, (zo BK258.out 1).trans rfl, (zo BK258.out 2).trans rfl, (zo BK259.out 0).trans rfl, (zo BK259.out 1).trans rfl⟩ (fun hHeld => ?_)
     clear hK K
     refine norm_ (a' := ?_) ?_ ?_
     rotate_left
     ·show Act.put _ (some 22) _ = _
      simp only [Act.put, za, zb, zc, i64_w, i32_w]
      rfl
     refine pure_ (i := 9) (N := some 23) (v := ?_) (a' := ?_) #[t_, t_, t_, t_, t_, t_, t_, t_, t_, t_, t_, f_] rfl rfl (any_of HT_.out (by kernel_rfl)) (fun _ _ _ h => h) (Or.inl ⟨by rfl, ?_⟩) ?_ ?_
     rotate_left
     ·intro w'
      go_simp
      with_reducible rfl
     rotate_left
     ·simp only [Act.put, za, zb, zc, i64_w, i32_w]
      rfl
     exact norm_ (by simp only [putAll, Act.put, za, zb, zc]) (hCont (gb262) _ ⟨hHeld, (by (with_reducible repeat (first | apply ze | apply zf | apply zg)); exact HO2.out), (by (with_reducible repeat (first | refine zk ?_ _ | refine zl ?_ | refine zm ?_ _)); exact BK257.out), (by (with_reducible repeat (first | refine zk ?_ _ | refine zl ?_ | refine zm ?_ _)); exact BK258.out), (by (with_reducible repeat (first | refine zk ?_ _ | refine zl ?_ | refine zm ?_ _)); exact BK259.out), (by (with_reducible repeat (first | refine zk ?_ _ | refine zl ?_ | refine zm ?_ _)); exact BK262.out), GW262.out, GE262.out, NB257_262.out, NB262_257.out, NB258_262.out, NB262_258.out, NB259_262.out, NB262_259.out, (by repeat (first | (with_reducible first | exact HK.out | apply Kept.alloc | apply Kept.drewN | apply Kept.drew | refine Kept.setCell ?_ (.inr GW257.out) _ | refine Kept.setCell ?_ (.inr GW258.out) _ | refine Kept.setCell ?_ (.inr GW259.out) _ | refine Kept.setCell ?_ (.inr GW262.out) _) | exact HK.out)), (by repeat (first | (with_reducible first | exact HB.out | apply zh | apply zi | apply zj | refine zn ?_ GE257.out | refine zn ?_ GE258.out | refine zn ?_ GE259.out | refine zn ?_ GE262.out) | exact HB.out))⟩)
   ·skip
    refine box_step ?hg (N := 11) ?hd (cs := #[.int .i64 0, .int .i64 0, .int .i64 0, .int .i64 0]) (t := 46) ?hr ?_; (case hd => rfl); (case hg => rfl); (case hr => first | (go_simp; done) | (go_simp; rfl))
    intro gb262 hg w35 hbox hb
    have n0_ := zd (zr (Kd.R_elderB (by (with_reducible repeat (first | apply ze | apply zf | apply zg)); exact HO2.out) gb262 (Nat.le_of_eq hg.symm)) hb)
    have n1_ := zd (zp (g := gb257) (o := .cells #[.int .i64 a0_0, .int .i64 a0_1, .int .i64 a0_2] 23 (0, 0)) (by (with_reducible repeat (first | refine zk ?_ _ | refine zl ?_ | refine zm ?_ _)); exact BK257.out) hb)
    have n2_ := zd (zp (g := gb258) (o := .cells #[.int .i64 a3_0, .int .i64 a3_1, .int .i64 a3_2] 37 (0, 0)) (by (with_reducible repeat (first | refine zk ?_ _ | refine zl ?_ | refine zm ?_ _)); exact BK258.out) hb)
    have n3_ := zd (zp (g := gb259) (o := .cells #[.int .i64 a4_0, .int .i64 a4_1] 31 (0, 0)) (by (with_reducible repeat (first | refine zk ?_ _ | refine zl ?_ | refine zm ?_ _)); exact BK259.out) hb)
    have n4_ := zd (Kept.below (S := (fun k_ => P2_ k_)) (by repeat (first | (with_reducible first | exact HK.out | apply Kept.alloc | apply Kept.drewN | apply Kept.drew | refine Kept.setCell ?_ (.inr GW257.out) _ | refine Kept.setCell ?_ (.inr GW258.out) _ | refine Kept.setCell ?_ (.inr GW259.out) _) | exact HK.out)) hb)
    have n5_ := zd (zs (by repeat (first | (with_reducible first | exact HB.out | apply zh | apply zi | apply zj | refine zn ?_ GE257.out | refine zn ?_ GE258.out | refine zn ?_ GE259.out) | exact HB.out)) hb)
    have n6_ := zd (hbox)
    have n7_ := zd ((by rw [hg]; exact (by first | exact HK.out.1 | exact (show Kept w _ (fun k_ => P2_ k_) from by repeat (first | (with_reducible first | exact HK.out | apply Kept.alloc | apply Kept.drewN | apply Kept.drew | refine Kept.setCell ?_ (.inr GW257.out) _ | refine Kept.setCell ?_ (.inr GW258.out) _ | refine Kept.setCell ?_ (.inr GW259.out) _) | exact HK.out)).1) : w.heap.size <= gb262))
    have n8_ := zd ((by rw [hg]; exact (below_size (by repeat (first | (with_reducible first | exact HB.out | apply zh | apply zi | apply zj | refine zn ?_ GE257.out | refine zn ?_ GE258.out | refine zn ?_ GE259.out) | exact HB.out))) : w0.heap.size <= gb262))
    have n9_ := zd ((by rw [hg]; exact Nat.ne_of_lt (blk_lt (g := gb257) (o := .cells #[.int .i64 a0_0, .int .i64 a0_1, .int .i64 a0_2] 23 (0, 0)) (by (with_reducible repeat (first | refine zk ?_ _ | refine zl ?_ | refine zm ?_ _)); exact BK257.out)) : gb257 ≠ gb262))
    have n10_ := zd ((by rw [hg]; exact Nat.ne_of_gt (blk_lt (g := gb257) (o := .cells #[.int .i64 a0_0, .int .i64 a0_1, .int .i64 a0_2] 23 (0, 0)) (by (with_reducible repeat (first | refine zk ?_ _ | refine zl ?_ | refine zm ?_ _)); exact BK257.out)) : gb262 ≠ gb257))
    have n11_ := zd ((by rw [hg]; exact Nat.ne_of_lt (blk_lt (g := gb258) (o := .cells #[.int .i64 a3_0, .int .i64 a3_1, .int .i64 a3_2] 37 (0, 0)) (by (with_reducible repeat (first | refine zk ?_ _ | refine zl ?_ | refine zm ?_ _)); exact BK258.out)) : gb258 ≠ gb262))
    have n12_ := zd ((by rw [hg]; exact Nat.ne_of_gt (blk_lt (g := gb258) (o := .cells #[.int .i64 a3_0, .int .i64 a3_1, .int .i64 a3_2] 37 (0, 0)) (by (with_reducible repeat (first | refine zk ?_ _ | refine zl ?_ | refine zm ?_ _)); exact BK258.out)) : gb262 ≠ gb258))
    have n13_ := zd ((by rw [hg]; exact Nat.ne_of_lt (blk_lt (g := gb259) (o := .cells #[.int .i64 a4_0, .int .i64 a4_1] 31 (0, 0)) (by (with_reducible repeat (first | refine zk ?_ _ | refine zl ?_ | refine zm ?_ _)); exact BK259.out)) : gb259 ≠ gb262))
    have n14_ := zd ((by rw [hg]; exact Nat.ne_of_gt (blk_lt (g := gb259) (o := .cells #[.int .i64 a4_0, .int .i64 a4_1] 31 (0, 0)) (by (with_reducible repeat (first | refine zk ?_ _ | refine zl ?_ | refine zm ?_ _)); exact BK259.out)) : gb262 ≠ gb259))
    clear HO2
    clear BK257
    clear BK258
    clear BK259
    clear HK
    clear HB
    have HO2 := n0_
    have BK257 := n1_
    have BK258 := n2_
    have BK259 := n3_
    have HK := n4_
    have HB := n5_
    have BK262 := n6_
    have GW262 := n7_
    have GE262 := n8_
    have NB257_262 := n9_
    have NB262_257 := n10_
    have NB258_262 := n11_
    have NB262_258 := n12_
    have NB259_262 := n13_
    have NB262_259 := n14_
    clear n0_ n1_ n2_ n3_ n4_ n5_ n6_ n7_ n8_ n9_ n10_ n11_ n12_ n13_ n14_
    clear hb hbox hg
    refine hK.out _ _ ⟨(zo BK258.out 0).trans rfl, (zo BK258.out 1).trans rfl, (zo BK258.out 2).trans rfl, (zo BK259.out 0).trans rfl, (zo BK259.out 1).trans rfl⟩ (fun hHeld => ?_)
    clear hK K
    refine norm_ (a' := ?_) ?_ ?_
    rotate_left
    ·show Act.put _ (some 11) _ = _
     simp only [Act.put, za, zb, zc, i64_w, i32_w]
     rfl
    refine one_ (i := 5) (N := some 19) #[t_, t_, t_, t_, t_, t_, t_, t_, f_, f_, t_, f_] rfl rfl (one_of HT_.out (by kernel_rfl)) (by decide) (fun K hK => ?_)
    refine goes_ Try.func50 (by kernel_rfl) rfl #[.int .i64 a1] (by rfl) rfl rfl (by (try simp only [List.map_toArray, List.map_cons, List.map_nil]); first | done | rfl | (simp only [List.length_drop, List.length_take]; rfl)) ?_
    with_reducible refine (leatref10_Zero.calls a1 t260 _ A6.out).mono ?_
    rintro e w' ⟨rfl, ⟨nd, rfl⟩⟩
    refine ⟨_, rfl, ?_⟩
    refine hK.out _ _ ⟨(zo BK258.out 0).trans rfl, (zo BK258.out 1).trans rfl, (zo BK258.out 2).trans rfl, (zo BK259.out 0).trans rfl, (zo BK259.out 1).trans rfl⟩ (fun hHeld => ?_)
    clear hK K
    refine norm_ (a' := ?_) ?_ ?_
    rotate_left
    ·show Act.put _ (some 19) _ = _
     simp only [Act.put, za, zb, zc, i64_w, i32_w]
     rfl
    refine one_ (i := 8) (N := some 22) #[t_, t_, t_, t_, t_, t_, t_, t_, t_, f_, t_, f_] rfl rfl (one_of HT_.out (by kernel_rfl)) (by decide) (fun K hK => ?_)
    refine goes_ Try.func49 (by kernel_rfl) rfl #[.int .i64 a1, .int .i64 t260, .int .i64 a3_2] (by rfl) rfl rfl (by (try simp only [List.map_toArray, List.map_cons, List.map_nil]); first | done | rfl | (simp only [List.length_drop, List.length_take]; rfl)) ?_
    with_reducible refine (leatref10_Add.calls k a1 t260 a3_2 t261 _ A7.out).mono ?_
    rintro e w36 ⟨rfl, hb⟩
    refine ⟨_, rfl, ?_⟩
    have n0_ := zd (zr (by (with_reducible repeat (first | apply ze | apply zf | apply zg)); exact HO2.out) hb)
    have n1_ := zd (zp (g := gb257) (o := .cells #[.int .i64 a0_0, .int .i64 a0_1, .int .i64 a0_2] 23 (0, 0)) (by (with_reducible repeat (first | refine zk ?_ _ | refine zl ?_ | refine zm ?_ _)); exact BK257.out) hb)
    have n2_ := zd (zp (g := gb258) (o := .cells #[.int .i64 a3_0, .int .i64 a3_1, .int .i64 a3_2] 37 (0, 0)) (by (with_reducible repeat (first | refine zk ?_ _ | refine zl ?_ | refine zm ?_ _)); exact BK258.out) hb)
    have n3_ := zd (zp (g := gb259) (o := .cells #[.int .i64 a4_0, .int .i64 a4_1] 31 (0, 0)) (by (with_reducible repeat (first | refine zk ?_ _ | refine zl ?_ | refine zm ?_ _)); exact BK259.out) hb)
    have n4_ := zd (zp (g := gb262) (o := .cells #[.int .i64 0, .int .i64 0, .int .i64 0, .int .i64 0] 46 (0, 0)) (by (with_reducible repeat (first | refine zk ?_ _ | refine zl ?_ | refine zm ?_ _)); exact BK262.out) hb)
    have n5_ := zd (Kept.below (S := (fun k_ => P2_ k_)) (by repeat (first | (with_reducible first | exact HK.out | apply Kept.alloc | apply Kept.drewN | apply Kept.drew | refine Kept.setCell ?_ (.inr GW257.out) _ | refine Kept.setCell ?_ (.inr GW258.out) _ | refine Kept.setCell ?_ (.inr GW259.out) _ | refine Kept.setCell ?_ (.inr GW262.out) _) | exact HK.out)) hb)
    have n6_ := zd (zs (by repeat (first | (with_reducible first | exact HB.out | apply zh | apply zi | apply zj | refine zn ?_ GE257.out | refine zn ?_ GE258.out | refine zn ?_ GE259.out | refine zn ?_ GE262.out) | exact HB.out)) hb)
    clear HO2
    clear BK257
    clear BK258
    clear BK259
    clear BK262
    clear HK
    clear HB
    have HO2 := n0_
    have BK257 := n1_
    have BK258 := n2_
    have BK259 := n3_
    have BK262 := n4_
    have HK := n5_
    have HB := n6_
    clear n0_ n1_ n2_ n3_ n4_ n5_ n6_
    (try clear hb)
    (try clear hb2)
    (try clear hk)
    (try clear hi)
    refine hK.out _ _ ⟨(zo BK258.out 0).trans rfl, (zo BK258.out 1).trans rfl, (zo BK258.out 2).trans rfl, (zo BK259.out 0).trans rfl, (zo BK259.out 1).trans rfl⟩ (fun hHeld => ?_)
    clear hK K
    refine norm_ (a' := ?_) ?_ ?_
    rotate_left
    ·show Act.put _ (some 22) _ = _
     simp only [Act.put, za, zb, zc, i64_w, i32_w]
     rfl
    refine pure_ (i := 9) (N := some 23) (v := ?_) (a' := ?_) #[t_, t_, t_, t_, t_, t_, t_, t_, t_, t_, t_, f_] rfl rfl (any_of HT_.out (by kernel_rfl)) (fun _ _ _ h => h) (Or.inl ⟨by rfl, ?_⟩) ?_ ?_
    rotate_left
    ·intro w'
     go_simp
     with_reducible rfl
    rotate_left
    ·simp only [Act.put, za, zb, zc, i64_w, i32_w]
     rfl
    exact norm_ (by simp only [putAll, Act.put, za, zb, zc]) (hCont (gb262) _ ⟨hHeld, (by (with_reducible repeat (first | apply ze | apply zf | apply zg)); exact HO2.out), (by (with_reducible repeat (first | refine zk ?_ _ | refine zl ?_ | refine zm ?_ _)); exact BK257.out), (by (with_reducible repeat (first | refine zk ?_ _ | refine zl ?_ | refine zm ?_ _)); exact BK258.out), (by (with_reducible repeat (first | refine zk ?_ _ | refine zl ?_ | refine zm ?_ _)); exact BK259.out), (by (with_reducible repeat (first | refine zk ?_ _ | refine zl ?_ | refine zm ?_ _)); exact BK262.out), GW262.out, GE262.out, NB257_262.out, NB262_257.out, NB258_262.out, NB262_258.out, NB259_262.out, NB262_259.out, (by repeat (first | (with_reducible first | exact HK.out | apply Kept.alloc | apply Kept.drewN | apply Kept.drew | refine Kept.setCell ?_ (.inr GW257.out) _ | refine Kept.setCell ?_ (.inr GW258.out) _ | refine Kept.setCell ?_ (.inr GW259.out) _ | refine Kept.setCell ?_ (.inr GW262.out) _) | exact HK.out)), (by repeat (first | (with_reducible first | exact HB.out | apply zh | apply zi | apply zj | refine zn ?_ GE257.out | refine zn ?_ GE258.out | refine zn ?_ GE259.out | refine zn ?_ GE262.out) | exact HB.out))⟩)
  rintro gb262 w37 ⟨hS_, h0_, h1_, h2_, h3_, h4_, h5_, h6_, h7_, h8_, h9_, h10_, h11_, h12_, h13_, h14_⟩
  have n0_ : Aside0 (Kd.R k46 46 w37 w0.heap.size (fun k_ => (P2_ k_ ∨ w.heap.size <= k_) /\ k_ ≠ gb262) u9000_ l2) := ⟨h0_⟩
  have n1_ : Aside0 (w37.heap[gb257]? = some (.cells #[.int .i64 a0_0, .int .i64 a0_1, .int .i64 a0_2] 23 (0, 0))) := ⟨h1_⟩
  have n2_ : Aside0 (w37.heap[gb258]? = some (.cells #[.int .i64 a3_0, .int .i64 a3_1, .int .i64 a3_2] 37 (0, 0))) := ⟨h2_⟩
  have n3_ : Aside0 (w37.heap[gb259]? = some (.cells #[.int .i64 a4_0, .int .i64 a4_1] 31 (0, 0))) := ⟨h3_⟩
  have n4_ : Aside0 (w37.heap[gb262]? = some (.cells #[.int .i64 0, .int .i64 0, .int .i64 0, .int .i64 0] 46 (0, 0))) := ⟨h4_⟩
  have n5_ : Aside0 (w.heap.size <= gb262) := ⟨h5_⟩
  have n6_ : Aside0 (w0.heap.size <= gb262) := ⟨h6_⟩
  have n7_ : Aside0 (gb257 ≠ gb262) := ⟨h7_⟩
  have n8_ : Aside0 (gb262 ≠ gb257) := ⟨h8_⟩
  have n9_ : Aside0 (gb258 ≠ gb262) := ⟨h9_⟩
  have n10_ : Aside0 (gb262 ≠ gb258) := ⟨h10_⟩
  have n11_ : Aside0 (gb259 ≠ gb262) := ⟨h11_⟩
  have n12_ : Aside0 (gb262 ≠ gb259) := ⟨h12_⟩
  have n13_ : Aside0 (Kept w w37 (fun k_ => P2_ k_)) := ⟨h13_⟩
  have n14_ : Aside0 (Below w0.heap.size w0 w37) := ⟨h14_⟩
  clear HO2
  clear BK257
  clear BK258
  clear BK259
  clear HK
  clear HB
  clear h0_ h1_ h2_ h3_ h4_ h5_ h6_ h7_ h8_ h9_ h10_ h11_ h12_ h13_ h14_
  have HO2 := n0_
  have BK257 := n1_
  have BK258 := n2_
  have BK259 := n3_
  have BK262 := n4_
  have GW262 := n5_
  have GE262 := n6_
  have NB257_262 := n7_
  have NB262_257 := n8_
  have NB258_262 := n9_
  have NB262_258 := n10_
  have NB259_262 := n11_
  have NB262_259 := n12_
  have HK := n13_
  have HB := n14_
  clear n0_ n1_ n2_ n3_ n4_ n5_ n6_ n7_ n8_ n9_ n10_ n11_ n12_ n13_ n14_
  have hHeld : w37.cell? ⟨gb258, 0, none⟩ = some (.int .i64 a3_0) /\ w37.cell? ⟨gb258, 1, none⟩ = some (.int .i64 a3_1) /\ w37.cell? ⟨gb258, 2, none⟩ = some (.int .i64 a3_2) /\ w37.cell? ⟨gb259, 0, none⟩ = some (.int .i64 a4_0) /\ w37.cell? ⟨gb259, 1, none⟩ = some (.int .i64 a4_1) := hS_
  refine norm_ (a' := ?_) ?_ ?_
  rotate_left
  ·simp only [putAll, Act.put, za, zb, zc]
   rfl
  refine one_ (i := 11) (N := none) #[t_, t_, t_, t_, t_, t_, t_, t_, t_, t_, t_, t_] rfl rfl (one_of HT_.out (by kernel_rfl)) (by decide) (fun K hK => ?_)
  have hs38 : w37.cell? ⟨gb262, 0, none⟩ = some (.int .i64 0) := (zo BK262.out 0).trans rfl
  have hfs38 := blk_frozen BK262.out 0
  have hns38_0 := NB257_262.out
  have hns38_1 := NB258_262.out
  have hns38_2 := NB259_262.out
  have hms38_0 := NB262_257.out
  have hms38_1 := NB262_258.out
  have hms38_2 := NB262_259.out
  have hs39 : w37.cell? ⟨gb262, 1, none⟩ = some (.int .i64 0) := (zo BK262.out 1).trans rfl
  have hfs39 := blk_frozen BK262.out 1
  have hns39_0 := NB257_262.out
  have hns39_1 := NB258_262.out
  have hns39_2 := NB259_262.out
  have hms39_0 := NB262_257.out
  have hms39_1 := NB262_258.out
  have hms39_2 := NB262_259.out
  have hs40 : w37.cell? ⟨gb262, 2, none⟩ = some (.int .i64 0) := (zo BK262.out 2).trans rfl
  have hfs40 := blk_frozen BK262.out 2
  have hns40_0 := NB257_262.out
  have hns40_1 := NB258_262.out
  have hns40_2 := NB259_262.out
  have hms40_0 := NB262_257.out
  have hms40_1 := NB262_258.out
  have hms40_2 := NB262_259.out
  have hs41 : w37.cell? ⟨gb262, 3, none⟩ = some (.int .i64 0) := (zo BK262.out 3).trans rfl
  have hfs41 := blk_frozen BK262.out 3
  have hns41_0 := NB257_262.out
  have hns41_1 := NB258_262.out
  have hns41_2 := NB259_262.out
  have hms41_0 := NB262_257.out
  have hms41_1 := NB262_258.out
  have hms41_2 := NB262_259.out
  refine skip_ (w1 := ?_) (by rfl) rfl ?_ ?_
  rotate_left
  ·go_simp
   rfl
  refine hK.out _ _ ⟨((cell_far (p := ⟨gb262, _, none⟩) NB258_262.out _).trans (((cell_far (p := ⟨gb262, _, none⟩) NB258_262.out _).trans (((cell_far (p := ⟨gb262, _, none⟩) NB258_262.out _).trans (((cell_far (p := ⟨gb262, _, none⟩) NB258_262.out _).trans (hHeld.1)))))))), ((cell_far (p := ⟨gb262, _, none⟩) NB258_262.out _).trans (((cell_far (p := ⟨gb262, _, none⟩) NB258_262.out _).trans (((cell_far (p := ⟨gb262, _, none⟩) NB258_262.out _).trans (((cell_far (p := ⟨gb262, _, none⟩) NB258_262.out _).trans (hHeld.2.1)))))))), ((cell_far (p := ⟨gb262, _, none⟩) NB258_262.out _).trans (((cell_far (p := ⟨gb262, _, none⟩) NB258_262.out _).trans (((cell_far (p := ⟨gb262, _, none⟩) NB258_262.out _).trans (((cell_far (p := ⟨gb262, _, none⟩) NB258_262.out _).trans (hHeld.2.2.1)))))))), ((cell_far (p := ⟨gb262, _, none⟩) NB259_262.out _).trans (((cell_far (p := ⟨gb262, _, none⟩) NB259_262.out _).trans (((cell_far (p := ⟨gb262, _, none⟩) NB259_262.out _).trans (((cell_far (p := ⟨gb262, _, none⟩) NB259_262.out _).trans (hHeld.2.2.2.1)))))))), ((cell_far (p := ⟨gb262, _, none⟩) NB259_262.out _).trans (((cell_far (p := ⟨gb262, _, none⟩) NB259_262.out _).trans (((cell_far (p := ⟨gb262, _, none⟩) NB259_262.out _).trans (((cell_far (p := ⟨gb262, _, none⟩) NB259_262.out _).trans (hHeld.2.2.2.2))))))))⟩ (fun hHeld => ?_)
  clear hK K
  refine done_ (done_of HT_.out (by kernel_rfl)) ?_
  have hnb42 := NB257_258.out
  have hnc42 := NB258_257.out
  have hnb43 := NB257_259.out
  have hnc43 := NB259_257.out
  have hnb44 := NB257_262.out
  have hnc44 := NB262_257.out
  have hcz45_0 : w37.cell? ⟨gb257, 0, none⟩ = some (.int .i64 a0_0) := (zo BK257.out 0).trans rfl
  have hcz45_1 : w37.cell? ⟨gb257, 1, none⟩ = some (.int .i64 a0_1) := (zo BK257.out 1).trans rfl
  have hcz45_2 : w37.cell? ⟨gb257, 2, none⟩ = some (.int .i64 a0_2) := (zo BK257.out 2).trans rfl
  have hfz45_0 := blk_frozen BK257.out 0
  have hfz45_1 := blk_frozen BK257.out 1
  have hfz45_2 := blk_frozen BK257.out 2
  try go_wp2
  go_loopg [12, 13] k (fun kq v12 v13 w' => ∃ (x12_1 : List (S46)) (x13_1 : Int) (x263003_1 : Int), v13 = .int .i64 x13_1 /\ Aside0 (leatref11_Into.l0 kq a1 l2 x12_1 x13_1 a4_0 a4_1 a3_0 a4_0 a4_1 x263003_1 = some r) /\ Aside0 (kq <= k) /\ Aside0 (Kd.R k46 46 w' w0.heap.size (fun k_ => (P2_ k_ ∨ w.heap.size <= k_) /\ some k_ ≠ (v12 : Value).ownBlock /\ k_ ≠ gb262) u9000_ l2) /\ Aside0 (Kd.R k46 46 w' w0.heap.size (fun k_ => (P2_ k_ ∨ w.heap.size <= k_) /\ some k_ ≠ (u9000_ : Value).ownBlock /\ k_ ≠ gb262) v12 x12_1) /\ Aside0 (w'.heap[gb257]? = some (.cells #[.int .i64 a0_0, .int .i64 a0_1, .int .i64 a0_2] 23 (0, 0))) /\ Aside0 (w'.heap[gb258]? = some (.cells #[.int .i64 a3_0, .int .i64 a3_1, .int .i64 a3_2] 37 (0, 0))) /\ Aside0 (w'.heap[gb259]? = some (.cells #[.int .i64 a4_0, .int .i64 a4_1] 31 (0, 0))) /\ Aside0 (w'.heap[gb262]? = some (.cells #[.int .i64 a3_0, .int .i64 a4_0, .int .i64 a4_1, .int .i64 x263003_1] 46 (0, 0))) /\ Aside0 (Kept w w' (fun k_ => P2_ k_)) /\ Aside0 (Below w0.heap.size w0 w'))
  case atStart => exact ⟨(([] : List (S46))), (0), (t261), (by first | rfl | (simp; done) | (simp [*]; done)), H', ⟨Nat.le_refl _⟩, ⟨by (with_reducible repeat (first | apply ze | apply zf | apply zg)); exact zq (Kd.R_far (p := ⟨gb262, 3, none⟩) (Kd.R_far (p := ⟨gb262, 2, none⟩) (Kd.R_far (p := ⟨gb262, 1, none⟩) (Kd.R_far (p := ⟨gb262, 0, none⟩) (zq HO2.out (fun k_ hk => (⟨hk, hk.2⟩ : _ /\ k_ ≠ gb262))) (fun _ hk => hk.2) (.int .i64 a3_0)) (fun _ hk => hk.2) (.int .i64 a4_0)) (fun _ hk => hk.2) (.int .i64 a4_1)) (fun _ hk => hk.2) (.int .i64 t261)) (fun _ hk => ⟨hk.1.1, ⟨(by simp [Value.ownBlock]), hk.1.2⟩⟩)⟩, ⟨by first | exact Kd.R_nil _ _ _ _ _ | exact Kd.N_nil _ _ _ _ _ | exact Kd.V_nil _ _ _ _ _ | exact Kd.Q_nil _ _ _ _ _ | exact Kd.S_nil _ _ _ _ _⟩, ⟨by (with_reducible repeat (first | refine zk ?_ _ | refine zl ?_ | refine zm ?_ _)); refine blk_far ?_ NB257_262.out _; (with_reducible repeat (first | refine zk ?_ _ | refine zl ?_ | refine zm ?_ _)); refine blk_far ?_ NB257_262.out _; (with_reducible repeat (first | refine zk ?_ _ | refine zl ?_ | refine zm ?_ _)); refine blk_far ?_ NB257_262.out _; (with_reducible repeat (first | refine zk ?_ _ | refine zl ?_ | refine zm ?_ _)); refine blk_far ?_ NB257_262.out _; (with_reducible repeat (first | refine zk ?_ _ | refine zl ?_ | refine zm ?_ _)); exact BK257.out⟩, ⟨by (with_reducible repeat (first | refine zk ?_ _ | refine zl ?_ | refine zm ?_ _)); refine blk_far ?_ NB258_262.out _; (with_reducible repeat (first | refine zk ?_ _ | refine zl ?_ | refine zm ?_ _)); refine blk_far ?_ NB258_262.out _; (with_reducible repeat (first | refine zk ?_ _ | refine zl ?_ | refine zm ?_ _)); refine blk_far ?_ NB258_262.out _; (with_reducible repeat (first | refine zk ?_ _ | refine zl ?_ | refine zm ?_ _)); refine blk_far ?_ NB258_262.out _; (with_reducible repeat (first | refine zk ?_ _ | refine zl ?_ | refine zm ?_ _)); exact BK258.out⟩, ⟨by (with_reducible repeat (first | refine zk ?_ _ | refine zl ?_ | refine zm ?_ _)); refine blk_far ?_ NB259_262.out _; (with_reducible repeat (first | refine zk ?_ _ | refine zl ?_ | refine zm ?_ _)); refine blk_far ?_ NB259_262.out _; (with_reducible repeat (first | refine zk ?_ _ | refine zl ?_ | refine zm ?_ _)); refine blk_far ?_ NB259_262.out _; (with_reducible repeat (first | refine zk ?_ _ | refine zl ?_ | refine zm ?_ _)); refine blk_far ?_ NB259_262.out _; (with_reducible repeat (first | refine zk ?_ _ | refine zl ?_ | refine zm ?_ _)); exact BK259.out⟩, ⟨by (with_reducible repeat (first | refine zk ?_ _ | refine zl ?_ | refine zm ?_ _)); refine blk_put (cs := #[.int .i64 a3_0, .int .i64 a4_0, .int .i64 a4_1, .int .i64 0]) ?_ 3 _ rfl; (with_reducible repeat (first | refine zk ?_ _ | refine zl ?_ | refine zm ?_ _)); refine blk_put (cs := #[.int .i64 a3_0, .int .i64 a4_0, .int .i64 0, .int .i64 0]) ?_ 2 _ rfl; (with_reducible repeat (first | refine zk ?_ _ | refine zl ?_ | refine zm ?_ _)); refine blk_put (cs := #[.int .i64 a3_0, .int .i64 0, .int .i64 0, .int .i64 0]) ?_ 1 _ rfl; (with_reducible repeat (first | refine zk ?_ _ | refine zl ?_ | refine zm ?_ _)); refine blk_put (cs := #[.int .i64 0, .int .i64 0, .int .i64 0, .int .i64 0]) ?_ 0 _ rfl; (with_reducible repeat (first | refine zk ?_ _ | refine zl ?_ | refine zm ?_ _)); exact BK262.out⟩, ⟨by repeat (first | (with_reducible first | exact HK.out | apply Kept.alloc | apply Kept.drewN | apply Kept.drew | refine Kept.setCell ?_ (.inr GW257.out) _ | refine Kept.setCell ?_ (.inr GW258.out) _ | refine Kept.setCell ?_ (.inr GW259.out) _ | refine Kept.setCell ?_ (.inr GW262.out) _) | exact HK.out)⟩, ⟨by repeat (first | (with_reducible first | exact HB.out | apply zh | apply zi | apply zj | refine zn ?_ GE257.out | refine zn ?_ GE258.out | refine zn ?_ GE259.out | refine zn ?_ GE262.out) | exact HB.out)⟩⟩
  case round =>
   clear H'
   try clear c2; try clear p2; try clear c4; try clear c5; try clear c8; try clear c8b0; try clear c8b1; try clear c22; try clear c23; try clear c24; try clear c26; try clear c27; try clear c40; try clear c42; try clear c43; try clear c44; try clear c45; try clear hcz25_0; try clear hcz25_1; try clear hcz25_2; try clear hcz28_0; try clear hcz28_1; try clear hcz28_2; try clear hcz28_3; try clear hcz45_0; try clear hcz45_1; try clear hcz45_2; try clear hfz25_0; try clear hfz25_1; try clear hfz25_2; try clear hfz28_0; try clear hfz28_1; try clear hfz28_2; try clear hfz28_3; try clear hfz45_0; try clear hfz45_1; try clear hfz45_2
   obtain ⟨x12_1, x13_1, x263003_1, rfl, HA, HK1, HO_2, HO_12, BK257, BK258, BK259, BK262, HK, HB⟩ := hrel
   cases gk with
   | zero => exact absurd HA.out (by simp [leatref11_Into.l0])
   | succ k1 =>
    have H := HA.out
    clear HA
    simp only [leatref11_Into.l0] at H
    by_cases c46 : x13_1 < (l2.length : Int)
    ·rw [if_pos c46] at H
     have c46b0 : decide (x13_1 < (l2.length : Int)) = true := decide_eq_true c46
     clear c46
     by_cases c47 : 0 <= x13_1
     ·rw [if_pos c47] at H
      have c47b0 : decide (0 <= x13_1) = true := decide_eq_true c47
      clear c47
      by_cases c48 : ((rd_T46 l2 x13_1).f0) = a3_0
      ·rw [if_pos c48] at H
       have c48b0 : (((rd_T46 l2 x13_1).f0) == a3_0) = true := beq_iff_eq.mpr c48
       have c48b1 : (((rd_T46 l2 x13_1).f0) != a3_0) = false := bne_eq_false_iff_eq.mpr c48
       clear c48
       by_cases c49 : (((rd_T46 l2 x13_1).f1.f0) == a4_0 && (((rd_T46 l2 x13_1).f1.f1) == a4_1)) = true
       ·rw [if_pos c49] at H
        have c49b0 : (((rd_T46 l2 x13_1).f1.f0) == a4_0 && (((rd_T46 l2 x13_1).f1.f1) == a4_1)) = true := c49
        (try (have c49b1 : decide (((rd_T46 l2 x13_1).f1.f0) = a4_0 && (((rd_T46 l2 x13_1).f1.f1) == a4_1)) = true := by simpa using c49))
        (try (have c49b2 : (((rd_T46 l2 x13_1).f1.f0) == a4_0 && (((rd_T46 l2 x13_1).f1.f1) == a4_1)) = true := by simpa using c49))
        clear c49
        replace H := Option.bind_eq_some_iff.mp H
        obtain ⟨t269, A500, H⟩ := H
        replace H : (leatref11_Into.l0 k1 a1 l2 x12_1 (wrap64 (x13_1 + 1)) a4_0 a4_1 a3_0 a4_0 a4_1 t269) = some r := H
        have A50 := zd A500
        clear A500
        have H' := zd H
        clear H
        obtain ⟨Ao51, co51, eo51⟩ := Kd.R_slice HO_2.out
        subst eo51
        try go_wp2
        have n0_ := zd (zg HO_2.out)
        have n1_ := zd (zg HO_12.out)
        have n2_ := zd (zl BK257.out)
        have n3_ := zd (zl BK258.out)
        have n4_ := zd (zl BK259.out)
        have n5_ := zd (zl BK262.out)
        have n6_ := zd (Kept.drew HK.out)
        have n7_ := zd (zj HB.out)
        clear HO_2
        clear HO_12
        clear BK257
        clear BK258
        clear BK259
        clear BK262
        clear HK
        clear HB
        have HO_2 := n0_
        have HO_12 := n1_
        have BK257 := n2_
        have BK258 := n3_
        have BK259 := n4_
        have BK262 := n5_
        have HK := n6_
        have HB := n7_
        clear n0_ n1_ n2_ n3_ n4_ n5_ n6_ n7_
        have p266 : 0 <= (x13_1 : Int) := of_decide_eq_true (by first | (with_reducible assumption) | assumption)
        have q266 : x13_1 < (l2.length : Int) := of_decide_eq_true (by first | (with_reducible assumption) | assumption)
        obtain ⟨ad266, e266, hx266_0, hx266_1, hx266_2, hx266_3⟩ := at_T46 (Kd.R_reads' HO_2.out).2.2 x13_1 p266 q266
        cases e266
        replace p266 := eq_true p266
        replace q266 := eq_true q266
        have p267 : 0 <= (x13_1 : Int) := of_decide_eq_true (by first | (with_reducible assumption) | assumption)
        have q267 : x13_1 < (l2.length : Int) := of_decide_eq_true (by first | (with_reducible assumption) | assumption)
        obtain ⟨ad267, e267, hx267_0, hx267_1, hx267_2, hx267_3⟩ := at_T46 (Kd.R_reads' HO_2.out).2.2 x13_1 p267 q267
        obtain rfl : ad266 = ad267 := (by injection e267)
        replace p267 := eq_true p267
        replace q267 := eq_true q267
        refine start_ (n := 17) (S := fun w' => w'.cell? ⟨gb262, 0, none⟩ = some (.int .i64 a3_0) /\ w'.cell? ⟨gb262, 1, none⟩ = some (.int .i64 a4_0) /\ w'.cell? ⟨gb262, 2, none⟩ = some (.int .i64 a4_1) /\ w'.cell? ⟨gb262, 3, none⟩ = some (.int .i64 x263003_1) /\ w'.cell? ⟨gb259, 0, none⟩ = some (.int .i64 a4_0) /\ w'.cell? ⟨gb259, 1, none⟩ = some (.int .i64 a4_1) /\ w'.cell? (ad266.add ((x13_1).toNat * 4)) = some (.int .i64 ((rd_T46 l2 x13_1).f0)) /\ w'.cell? ⟨(ad266.add ((x13_1).toNat * 4)).block, (ad266.add ((x13_1).toNat * 4)).off + 1, none⟩ = some (.int .i64 ((rd_T46 l2 x13_1).f1.f0)) /\ w'.cell? ⟨(ad266.add ((x13_1).toNat * 4)).block, (ad266.add ((x13_1).toNat * 4)).off + 2, none⟩ = some (.int .i64 ((rd_T46 l2 x13_1).f1.f1)) /\ w'.cell? ⟨(ad266.add ((x13_1).toNat * 4)).block, (ad266.add ((x13_1).toNat * 4)).off + 3, none⟩ = some (.int .i64 ((rd_T46 l2 x13_1).f2)) /\ w'.cell? (ad266.add ((x13_1).toNat * 4)) = some (.int .i64 ((rd_T46 l2 x13_1).f0)) /\ w'.cell? ⟨(ad266.add ((x13_1).toNat * 4)).block, (ad266.add ((x13_1).toNat * 4)).off + 1, none⟩ = some (.int .i64 ((rd_T46 l2 x13_1).f1.f0)) /\ w'.cell? ⟨(ad266.add ((x13_1).toNat * 4)).block, (ad266.add ((x13_1).toNat * 4)).off + 2, none⟩ = some (.int .i64 ((rd_T46 l2 x13_1).f1.f1)) /\ w'.cell? ⟨(ad266.add ((x13_1).toNat * 4)).block, (ad266.add ((x13_1).toNat * 4)).off + 3, none⟩ = some (.int .i64 ((rd_T46 l2 x13_1).f2))) (ds := []) #[f_, f_, f_, f_, f_, f_, f_, f_, f_, f_, f_, f_, f_, f_, f_, f_, f_] (by kernel_rfl) rfl rfl ⟨(zo BK262.out 0).trans rfl, (zo BK262.out 1).trans rfl, (zo BK262.out 2).trans rfl, (zo BK262.out 3).trans rfl, (zo BK259.out 0).trans rfl, (zo BK259.out 1).trans rfl, hx266_0, hx266_1, hx266_2, hx266_3, hx267_0, hx267_1, hx267_2, hx267_3⟩ (fun hHeld => ?_); refine with_tabW leatref11_Into.tab8 leatref11_Into.bits8 (fun HT_ HW_ => ?_)
        generalize wr.drew = w52 at HO_2 HO_12 BK257 BK258 BK259 BK262 HK HB hx266_0 hx266_1 hx266_2 hx266_3 hx267_0 hx267_1 hx267_2 hx267_3 hHeld ⊢
        refine pure_ (i := 0) (N := some 37) (v := ?_) (a' := ?_) #[t_, f_, f_, f_, f_, f_, f_, f_, f_, f_, f_, f_, f_, f_, f_, f_, f_] rfl rfl (any_of HT_.out (by kernel_rfl)) (fun _ _ _ h => h) (Or.inl ⟨by rfl, ?_⟩) ?_ ?_
        rotate_left
        ·intro w'
         go_simp
         with_reducible rfl
        rotate_left
        ·simp only [Act.put, za, zb, zc, i64_w, i32_w]
         rfl
        refine pure_ (i := 1) (N := some 38) (v := ?_) (a' := ?_) #[t_, t_, f_, f_, f_, f_, f_, f_, f_, f_, f_, f_, f_, f_, f_, f_, f_] rfl rfl (any_of HT_.out (by kernel_rfl)) (fun _ _ _ h => h) (Or.inl ⟨by rfl, ?_⟩) ?_ ?_
        rotate_left
        ·intro w'
         go_simp
         with_reducible rfl
        rotate_left
        ·simp only [Act.put, za, zb, zc, i64_w, i32_w]
         rfl
        refine pure_ (i := 2) (N := some 39) (v := ?_) (a' := ?_) #[t_, t_, t_, f_, f_, f_, f_, f_, f_, f_, f_, f_, f_, f_, f_, f_, f_] rfl rfl (any_of HT_.out (by kernel_rfl)) (fun _ _ _ h => h) (Or.inl ⟨by rfl, ?_⟩) ?_ ?_
        rotate_left
        ·intro w'
         go_simp
         with_reducible rfl
        rotate_left
        ·simp only [Act.put, za, zb, zc, i64_w, i32_w]
         rfl
        refine pure_ (i := 3) (N := some 40) (v := ?_) (a' := ?_) #[t_, t_, t_, t_, f_, f_, f_, f_, f_, f_, f_, f_, f_, f_, f_, f_, f_] rfl rfl (any_of HT_.out (by kernel_rfl)) (fun _ _ _ h => h) (Or.inl ⟨by rfl, ?_⟩) ?_ ?_
        rotate_left
        ·intro w'
         go_simp
         with_reducible rfl
        rotate_left
        ·simp only [Act.put, za, zb, zc, i64_w, i32_w]
         rfl
        refine pure_ (i := 5) (N := some 42) (v := ?_) (a' := ?_) #[t_, t_, t_, t_, f_, t_, f_, f_, f_, f_, f_, f_, f_, f_, f_, f_, f_] rfl rfl (any_of HT_.out (by kernel_rfl)) (fun _ _ _ h => h) (Or.inl ⟨by rfl, ?_⟩) ?_ ?_
        rotate_left
        ·intro w'
         go_simp
         with_reducible rfl
        rotate_left
        ·simp only [Act.put, za, zb, zc, i64_w, i32_w]
         rfl
        refine take_ (i := 4) (N := some 41) (v := ?_) (a' := ?_) #[t_, t_, t_, t_, t_, t_, f_, f_, f_, f_, f_, f_, f_, f_, f_, f_, f_] rfl rfl (take_ofW HT_.out HW_.out (by kernel_rfl)) (fun _ _ _ h => h) (Or.inl ⟨by rfl, ?_⟩) hHeld ?_ ?_
        rotate_left
        ·rintro w' ⟨s0, s1, s2, s3, s4, s5, s6, s7, s8, s9, s10, s11, s12, s13⟩
         go_simp
         with_reducible rfl
        rotate_left
        ·simp only [Act.put, za, zb, zc, i64_w, i32_w]
         rfl
        refine take_ (i := 6) (N := some 43) (v := ?_) (a' := ?_) #[t_, t_, t_, t_, t_, t_, t_, f_, f_, f_, f_, f_, f_, f_, f_, f_, f_] rfl rfl (take_ofW HT_.out HW_.out (by kernel_rfl)) (fun _ _ _ h => h) (Or.inl ⟨by rfl, ?_⟩) hHeld ?_ ?_
        rotate_left
        ·rintro w' ⟨s0, s1, s2, s3, s4, s5, s6, s7, s8, s9, s10, s11, s12, s13⟩
         go_simp
         with_reducible rfl
        rotate_left
        ·simp only [Act.put, za, zb, zc, i64_w, i32_w]
         rfl
        refine pure_ (i := 7) (N := some 44) (v := ?_) (a' := ?_) #[t_, t_, t_, t_, t_, t_, t_, t_, f_, f_, f_, f_, f_, f_, f_, f_, f_] rfl rfl (any_of HT_.out (by kernel_rfl)) (fun _ _ _ h => h) (Or.inl ⟨by rfl, ?_⟩) ?_ ?_
        rotate_left
        ·intro w'
         go_simp
         with_reducible rfl
        rotate_left
        ·simp only [Act.put, za, zb, zc, i64_w, i32_w]
         rfl
        refine pure_ (i := 8) (N := some 45) (v := ?_) (a' := ?_) #[t_, t_, t_, t_, t_, t_, t_, t_, t_, f_, f_, f_, f_, f_, f_, f_, f_] rfl rfl (any_of HT_.out (by kernel_rfl)) (fun _ _ _ h => h) (Or.inl ⟨by rfl, ?_⟩) ?_ ?_
        rotate_left
        ·intro w'
         go_simp
         with_reducible rfl
        rotate_left
        ·simp only [Act.put, za, zb, zc, i64_w, i32_w]
         rfl
        refine pure_ (i := 9) (N := some 46) (v := ?_) (a' := ?_) #[t_, t_, t_, t_, t_, t_, t_, t_, t_, t_, f_, f_, f_, f_, f_, f_, f_] rfl rfl (any_of HT_.out (by kernel_rfl)) (fun _ _ _ h => h) (Or.inl ⟨by rfl, ?_⟩) ?_ ?_
        rotate_left
        ·intro w'
         go_simp
         with_reducible rfl
        rotate_left
        ·simp only [Act.put, za, zb, zc, i64_w, i32_w]
         rfl
        refine pure_ (i := 10) (N := some 47) (v := ?_) (a' := ?_) #[t_, t_, t_, t_, t_, t_, t_, t_, t_, t_, t_, f_, f_, f_, f_, f_, f_] rfl rfl (any_of HT_.out (by kernel_rfl)) (fun _ _ _ h => h) (Or.inl ⟨by rfl, ?_⟩) ?_ ?_
        rotate_left
        ·intro w'
         go_simp
         with_reducible rfl
        rotate_left
        ·simp only [Act.put, za, zb, zc, i64_w, i32_w]
         rfl
        refine pure_ (i := 11) (N := some 48) (v := ?_) (a' := ?_) #[t_, t_, t_, t_, t_, t_, t_, t_, t_, t_, t_, t_, f_, f_, f_, f_, f_] rfl rfl (any_of HT_.out (by kernel_rfl)) (fun _ _ _ h => h) (Or.inl ⟨by rfl, ?_⟩) ?_ ?_
        rotate_left
        ·intro w'
         go_simp
         with_reducible rfl
        rotate_left
        ·simp only [Act.put, za, zb, zc, i64_w, i32_w]
         rfl
        refine pure_ (i := 12) (N := some 49) (v := ?_) (a' := ?_) #[t_, t_, t_, t_, t_, t_, t_, t_, t_, t_, t_, t_, t_, f_, f_, f_, f_] rfl rfl (any_of HT_.out (by kernel_rfl)) (fun _ _ _ h => h) (Or.inl ⟨by rfl, ?_⟩) ?_ ?_
        rotate_left
        ·intro w'
         go_simp
         with_reducible rfl
        rotate_left
        ·simp only [Act.put, za, zb, zc, i64_w, i32_w]
         rfl
        refine take_ (i := 13) (N := some 50) (v := ?_) (a' := ?_) #[t_, t_, t_, t_, t_, t_, t_, t_, t_, t_, t_, t_, t_, t_, f_, f_, f_] rfl rfl (take_ofW HT_.out HW_.out (by kernel_rfl)) (fun _ _ _ h => h) (Or.inl ⟨by rfl, ?_⟩) hHeld ?_ ?_
        rotate_left
        ·rintro w' ⟨s0, s1, s2, s3, s4, s5, s6, s7, s8, s9, s10, s11, s12, s13⟩
         go_simp
         with_reducible rfl
        rotate_left
        ·simp only [Act.put, za, zb, zc, i64_w, i32_w]
         rfl
        refine take_ (i := 14) (N := some 51) (v := ?_) (a' := ?_) #[t_, t_, t_, t_, t_, t_, t_, t_, t_, t_, t_, t_, t_, t_, t_, f_, f_] rfl rfl (take_ofW HT_.out HW_.out (by kernel_rfl)) (fun _ _ _ h => h) (Or.inl ⟨by rfl, ?_⟩) hHeld ?_ ?_
        rotate_left
        ·rintro w' ⟨s0, s1, s2, s3, s4, s5, s6, s7, s8, s9, s10, s11, s12, s13⟩
         go_simp
         with_reducible rfl
        rotate_left
        ·simp only [Act.put, za, zb, zc, i64_w, i32_w]
         rfl
        refine pure_ (i := 15) (N := some 52) (v := ?_) (a' := ?_) #[t_, t_, t_, t_, t_, t_, t_, t_, t_, t_, t_, t_, t_, t_, t_, t_, f_] rfl rfl (any_of HT_.out (by kernel_rfl)) (fun _ _ _ h => h) (Or.inl ⟨by rfl, ?_⟩) ?_ ?_
        rotate_left
        ·intro w'
         go_simp
         with_reducible rfl
        rotate_left
        ·simp only [Act.put, za, zb, zc, i64_w, i32_w]
         rfl
        refine pure_ (i := 16) (N := some 53) (v := ?_) (a' := ?_) #[t_, t_, t_, t_, t_, t_, t_, t_, t_, t_, t_, t_, t_, t_, t_, t_, t_] rfl rfl (any_of HT_.out (by kernel_rfl)) (fun _ _ _ h => h) (Or.inl ⟨by rfl, ?_⟩) ?_ ?_
        rotate_left
        ·intro w'
         go_simp
         with_reducible rfl
        rotate_left
        ·simp only [Act.put, za, zb, zc, i64_w, i32_w]
         rfl
        refine done_ (done_of HT_.out (by kernel_rfl)) ?_
        try go_wp2
        have n0_ := zd (zg HO_2.out)
        have n1_ := zd (zg HO_12.out)
        have n2_ := zd (zl BK257.out)
        have n3_ := zd (zl BK258.out)
        have n4_ := zd (zl BK259.out)
        have n5_ := zd (zl BK262.out)
        have n6_ := zd (Kept.drew HK.out)
        have n7_ := zd (zj HB.out)
        clear HO_2
        clear HO_12
        clear BK257
        clear BK258
        clear BK259
        clear BK262
        clear HK
        clear HB
        have HO_2 := n0_
        have HO_12 := n1_
        have BK257 := n2_
        have BK258 := n3_
        have BK259 := n4_
        have BK262 := n5_
        have HK := n6_
        have HB := n7_
        clear n0_ n1_ n2_ n3_ n4_ n5_ n6_ n7_
        have p268 : 0 <= (x13_1 : Int) := of_decide_eq_true (by first | (with_reducible assumption) | assumption)
        have q268 : x13_1 < (l2.length : Int) := of_decide_eq_true (by first | (with_reducible assumption) | assumption)
        obtain ⟨ad268, e268, hx268_0, hx268_1, hx268_2, hx268_3⟩ := at_T46 (Kd.R_reads' HO_2.out).2.2 x13_1 p268 q268
        obtain rfl : ad266 = ad268 := (by injection e268)
        replace p268 := eq_true p268
        replace q268 := eq_true q268
        refine start_ (n := 11) (S := fun w' => w'.cell? ⟨gb262, 0, none⟩ = some (.int .i64 a3_0) /\ w'.cell? ⟨gb262, 1, none⟩ = some (.int .i64 a4_0) /\ w'.cell? ⟨gb262, 2, none⟩ = some (.int .i64 a4_1) /\ w'.cell? ⟨gb262, 3, none⟩ = some (.int .i64 x263003_1) /\ w'.cell? (ad266.add ((x13_1).toNat * 4)) = some (.int .i64 ((rd_T46 l2 x13_1).f0)) /\ w'.cell? ⟨(ad266.add ((x13_1).toNat * 4)).block, (ad266.add ((x13_1).toNat * 4)).off + 1, none⟩ = some (.int .i64 ((rd_T46 l2 x13_1).f1.f0)) /\ w'.cell? ⟨(ad266.add ((x13_1).toNat * 4)).block, (ad266.add ((x13_1).toNat * 4)).off + 2, none⟩ = some (.int .i64 ((rd_T46 l2 x13_1).f1.f1)) /\ w'.cell? ⟨(ad266.add ((x13_1).toNat * 4)).block, (ad266.add ((x13_1).toNat * 4)).off + 3, none⟩ = some (.int .i64 ((rd_T46 l2 x13_1).f2))) (ds := [10]) #[f_, f_, f_, f_, f_, f_, f_, f_, f_, f_, f_] (by kernel_rfl) rfl rfl ⟨(zo BK262.out 0).trans rfl, (zo BK262.out 1).trans rfl, (zo BK262.out 2).trans rfl, (zo BK262.out 3).trans rfl, hx268_0, hx268_1, hx268_2, hx268_3⟩ (fun hHeld => ?_); refine with_tabW leatref11_Into.tab9 leatref11_Into.bits9 (fun HT_ HW_ => ?_)
        generalize w52.drew = w53 at HO_2 HO_12 BK257 BK258 BK259 BK262 HK HB hx268_0 hx268_1 hx268_2 hx268_3 hHeld ⊢
        refine pure_ (i := 0) (N := some 54) (v := ?_) (a' := ?_) #[t_, f_, f_, f_, f_, f_, f_, f_, f_, f_, f_] rfl rfl (any_of HT_.out (by kernel_rfl)) (fun _ _ _ h => h) (Or.inl ⟨by rfl, ?_⟩) ?_ ?_
        rotate_left
        ·intro w'
         go_simp
         with_reducible rfl
        rotate_left
        ·simp only [Act.put, za, zb, zc, i64_w, i32_w]
         rfl
        refine pure_ (i := 1) (N := some 55) (v := ?_) (a' := ?_) #[t_, t_, f_, f_, f_, f_, f_, f_, f_, f_, f_] rfl rfl (any_of HT_.out (by kernel_rfl)) (fun _ _ _ h => h) (Or.inl ⟨by rfl, ?_⟩) ?_ ?_
        rotate_left
        ·intro w'
         go_simp
         with_reducible rfl
        rotate_left
        ·simp only [Act.put, za, zb, zc, i64_w, i32_w]
         rfl
        refine pure_ (i := 3) (N := some 57) (v := ?_) (a' := ?_) #[t_, t_, f_, t_, f_, f_, f_, f_, f_, f_, f_] rfl rfl (any_of HT_.out (by kernel_rfl)) (fun _ _ _ h => h) (Or.inl ⟨by rfl, ?_⟩) ?_ ?_
        rotate_left
        ·intro w'
         go_simp
         with_reducible rfl
        rotate_left
        ·simp only [Act.put, za, zb, zc, i64_w, i32_w]
         rfl
        refine pure_ (i := 4) (N := some 58) (v := ?_) (a' := ?_) #[t_, t_, f_, t_, t_, f_, f_, f_, f_, f_, f_] rfl rfl (any_of HT_.out (by kernel_rfl)) (fun _ _ _ h => h) (Or.inl ⟨by rfl, ?_⟩) ?_ ?_
        rotate_left
        ·intro w'
         go_simp
         with_reducible rfl
        rotate_left
        ·simp only [Act.put, za, zb, zc, i64_w, i32_w]
         rfl
        refine pure_ (i := 5) (N := some 59) (v := ?_) (a' := ?_) #[t_, t_, f_, t_, t_, t_, f_, f_, f_, f_, f_] rfl rfl (any_of HT_.out (by kernel_rfl)) (fun _ _ _ h => h) (Or.inl ⟨by rfl, ?_⟩) ?_ ?_
        rotate_left
        ·intro w'
         go_simp
         with_reducible rfl
        rotate_left
        ·simp only [Act.put, za, zb, zc, i64_w, i32_w]
         rfl
        refine pure_ (i := 6) (N := some 60) (v := ?_) (a' := ?_) #[t_, t_, f_, t_, t_, t_, t_, f_, f_, f_, f_] rfl rfl (any_of HT_.out (by kernel_rfl)) (fun _ _ _ h => h) (Or.inl ⟨by rfl, ?_⟩) ?_ ?_
        rotate_left
        ·intro w'
         go_simp
         with_reducible rfl
        rotate_left
        ·simp only [Act.put, za, zb, zc, i64_w, i32_w]
         rfl
        refine take_ (i := 2) (N := some 56) (v := ?_) (a' := ?_) #[t_, t_, t_, t_, t_, t_, t_, f_, f_, f_, f_] rfl rfl (take_ofW HT_.out HW_.out (by kernel_rfl)) (fun _ _ _ h => h) (Or.inl ⟨by rfl, ?_⟩) hHeld ?_ ?_
        rotate_left
        ·rintro w' ⟨s0, s1, s2, s3, s4, s5, s6, s7⟩
         go_simp
         with_reducible rfl
        rotate_left
        ·simp only [Act.put, za, zb, zc, i64_w, i32_w]
         rfl
        refine take_ (i := 7) (N := some 61) (v := ?_) (a' := ?_) #[t_, t_, t_, t_, t_, t_, t_, t_, f_, f_, f_] rfl rfl (take_ofW HT_.out HW_.out (by kernel_rfl)) (fun _ _ _ h => h) (Or.inl ⟨by rfl, ?_⟩) hHeld ?_ ?_
        rotate_left
        ·rintro w' ⟨s0, s1, s2, s3, s4, s5, s6, s7⟩
         go_simp
         with_reducible rfl
        rotate_left
        ·simp only [Act.put, za, zb, zc, i64_w, i32_w]
         rfl
        refine one_ (i := 8) (N := some 62) #[t_, t_, t_, t_, t_, t_, t_, t_, t_, f_, f_] rfl rfl (one_of HT_.out (by kernel_rfl)) (by decide) (fun K hK => ?_)
        refine goes_ Try.func51 (by kernel_rfl) rfl #[.int .i64 a1, .int .i64 x263003_1, .int .i64 ((rd_T46 l2 x13_1).f2)] (by rfl) rfl rfl (by (try simp only [List.map_toArray, List.map_cons, List.map_nil]); first | done | rfl | (simp only [List.length_drop, List.length_take]; rfl)) ?_
        with_reducible refine (leatref10_Merge.calls k1 a1 x263003_1 ((rd_T46 l2 x13_1).f2) t269 _ A50.out).mono ?_
        rintro e w54 ⟨rfl, hb⟩
        have HS4_ := (hb.cell (World.block_lt_of_cell? _ _ (hHeld.2.2.2.2.1))).trans (hHeld.2.2.2.2.1)
        have HS5_ := (hb.cell (World.block_lt_of_cell? _ _ (hHeld.2.2.2.2.2.1))).trans (hHeld.2.2.2.2.2.1)
        have HS6_ := (hb.cell (World.block_lt_of_cell? _ _ (hHeld.2.2.2.2.2.2.1))).trans (hHeld.2.2.2.2.2.2.1)
        have HS7_ := (hb.cell (World.block_lt_of_cell? _ _ (hHeld.2.2.2.2.2.2.2))).trans (hHeld.2.2.2.2.2.2.2)
        refine ⟨_, rfl, ?_⟩
        have n0_ := zd (zr (by (with_reducible repeat (first | apply ze | apply zf | apply zg)); exact HO_2.out) hb)
        have n1_ := zd (zr (by (with_reducible repeat (first | apply ze | apply zf | apply zg)); exact HO_12.out) hb)
        have n2_ := zd (zp (g := gb257) (o := .cells #[.int .i64 a0_0, .int .i64 a0_1, .int .i64 a0_2] 23 (0, 0)) (by (with_reducible repeat (first | refine zk ?_ _ | refine zl ?_ | refine zm ?_ _)); exact BK257.out) hb)
        have n3_ := zd (zp (g := gb258) (o := .cells #[.int .i64 a3_0, .int .i64 a3_1, .int .i64 a3_2] 37 (0, 0)) (by (with_reducible repeat (first | refine zk ?_ _ | refine zl ?_ | refine zm ?_ _)); exact BK258.out) hb)
        have n4_ := zd (zp (g := gb259) (o := .cells #[.int .i64 a4_0, .int .i64 a4_1] 31 (0, 0)) (by (with_reducible repeat (first | refine zk ?_ _ | refine zl ?_ | refine zm ?_ _)); exact BK259.out) hb)
        have n5_ := zd (zp (g := gb262) (o := .cells #[.int .i64 a3_0, .int .i64 a4_0, .int .i64 a4_1, .int .i64 x263003_1] 46 (0, 0)) (by (with_reducible repeat (first | refine zk ?_ _ | refine zl ?_ | refine zm ?_ _)); exact BK262.out) hb)
        have n6_ := zd (Kept.below (S := (fun k_ => P2_ k_)) (by repeat (first | (with_reducible first | exact HK.out | apply Kept.alloc | apply Kept.drewN | apply Kept.drew | refine Kept.setCell ?_ (.inr GW257.out) _ | refine Kept.setCell ?_ (.inr GW258.out) _ | refine Kept.setCell ?_ (.inr GW259.out) _ | refine Kept.setCell ?_ (.inr GW262.out) _) | exact HK.out)) hb)
        have n7_ := zd (zs (by repeat (first | (with_reducible first | exact HB.out | apply zh | apply zi | apply zj | refine zn ?_ GE257.out | refine zn ?_ GE258.out | refine zn ?_ GE259.out | refine zn ?_ GE262.out) | exact HB.out)) hb)
        clear HO_2
        clear HO_12
        clear BK257
        clear BK258
        clear BK259
        clear BK262
        clear HK
        clear HB
        have HO_2 := n0_
        have HO_12 := n1_
        have BK257 := n2_
        have BK258 := n3_
        have BK259 := n4_
        have BK262 := n5_
        have HK := n6_
        have HB := n7_
        clear n0_ n1_ n2_ n3_ n4_ n5_ n6_ n7_
        (try clear hb)
        (try clear hb2)
        (try clear hk)
        (try clear hi)
        refine hK.out _ _ ⟨(zo BK262.out 0).trans rfl, (zo BK262.out 1).trans rfl, (zo BK262.out 2).trans rfl, (zo BK262.out 3).trans rfl, HS4_, HS5_, HS6_, HS7_⟩ (fun hHeld => ?_)
        clear hK K
        refine norm_ (a' := ?_) ?_ ?_
        rotate_left
        ·show Act.put _ (some 62) _ = _
         simp only [Act.put, za, zb, zc, i64_w, i32_w]
         rfl
        refine pure_ (i := 9) (N := some 63) (v := ?_) (a' := ?_) #[t_, t_, t_, t_, t_, t_, t_, t_, t_, t_, f_] rfl rfl (any_of HT_.out (by kernel_rfl)) (fun _ _ _ h => h) (Or.inl ⟨by rfl, ?_⟩) ?_ ?_
        rotate_left
        ·intro w'
         go_simp
         with_reducible rfl
        rotate_left
        ·simp only [Act.put, za, zb, zc, i64_w, i32_w]
         rfl
        refine last_ (i := 10) (N := none) #[t_, t_, t_, t_, t_, t_, t_, t_, t_, t_, t_] rfl rfl (one_of HT_.out (by kernel_rfl)) (by decide) (fun K hK => ?_)
        have hs55 : w54.cell? ⟨gb262, 3, none⟩ = some (.int .i64 x263003_1) := (zo BK262.out 3).trans rfl
        have hfs55 := blk_frozen BK262.out 3
        have hns55_0 := NB257_262.out
        have hns55_1 := NB258_262.out
        have hns55_2 := NB259_262.out
        have hms55_0 := NB262_257.out
        have hms55_1 := NB262_258.out
        have hms55_2 := NB262_259.out
        refine skip_ (w1 := ?_) (by rfl) rfl ?_ ?_
        rotate_left
        ·go_simp
         rfl
        refine hK.out _ _ ?_
        clear hK K
        refine done_ (done_of HT_.out (by kernel_rfl)) ?_
        try go_wp2
        go_roundg k1
        case measure => have := HK1.out; omega
        case rel => exact ⟨(x12_1), (wrap64 (x13_1 + 1)), (t269), (by first | rfl | (simp; done) | (simp [*]; done)), H', ⟨by have := HK1.out; omega⟩, ⟨by (with_reducible repeat (first | apply ze | apply zf | apply zg)); exact zq (Kd.R_far (p := ⟨gb262, 3, none⟩) (zq HO_2.out (fun k_ hk => (⟨hk, hk.2.2⟩ : _ /\ k_ ≠ gb262))) (fun _ hk => hk.2) (.int .i64 t269)) (fun _ hk => ⟨hk.1.1, ⟨hk.1.2.1, hk.1.2.2⟩⟩)⟩, ⟨by (with_reducible repeat (first | apply ze | apply zf | apply zg)); exact zq (Kd.R_far (p := ⟨gb262, 3, none⟩) (zq HO_12.out (fun k_ hk => (⟨hk, hk.2.2⟩ : _ /\ k_ ≠ gb262))) (fun _ hk => hk.2) (.int .i64 t269)) (fun _ hk => ⟨hk.1.1, ⟨hk.1.2.1, hk.1.2.2⟩⟩)⟩, ⟨by (with_reducible repeat (first | refine zk ?_ _ | refine zl ?_ | refine zm ?_ _)); refine blk_far ?_ NB257_262.out _; (with_reducible repeat (first | refine zk ?_ _ | refine zl ?_ | refine zm ?_ _)); exact BK257.out⟩, ⟨by (with_reducible repeat (first | refine zk ?_ _ | refine zl ?_ | refine zm ?_ _)); refine blk_far ?_ NB258_262.out _; (with_reducible repeat (first | refine zk ?_ _ | refine zl ?_ | refine zm ?_ _)); exact BK258.out⟩, ⟨by (with_reducible repeat (first | refine zk ?_ _ | refine zl ?_ | refine zm ?_ _)); refine blk_far ?_ NB259_262.out _; (with_reducible repeat (first | refine zk ?_ _ | refine zl ?_ | refine zm ?_ _)); exact BK259.out⟩, ⟨by (with_reducible repeat (first | refine zk ?_ _ | refine zl ?_ | refine zm ?_ _)); refine blk_put (cs := #[.int .i64 a3_0, .int .i64 a4_0, .int .i64 a4_1, .int .i64 x263003_1]) ?_ 3 _ rfl; (with_reducible repeat (first | refine zk ?_ _ | refine zl ?_ | refine zm ?_ _)); exact BK262.out⟩, ⟨by repeat (first | (with_reducible first | exact HK.out | apply Kept.alloc | apply Kept.drewN | apply Kept.drew | refine Kept.setCell ?_ (.inr GW257.out) _ | refine Kept.setCell ?_ (.inr GW258.out) _ | refine Kept.setCell ?_ (.inr GW259.out) _ | refine Kept.setCell ?_ (.inr GW262.out) _) | exact HK.out)⟩, ⟨by repeat (first | (with_reducible first | exact HB.out | apply zh | apply zi | apply zj | refine zn ?_ GE257.out | refine zn ?_ GE258.out | refine zn ?_ GE259.out | refine zn ?_ GE262.out) | exact HB.out)⟩⟩
       ·rw [if_neg c49] at H
        have c49b0 : (((rd_T46 l2 x13_1).f1.f0) == a4_0 && (((rd_T46 l2 x13_1).f1.f1) == a4_1)) = false := by simpa using c49
        (try (have c49b1 : decide (((rd_T46 l2 x13_1).f1.f0) = a4_0 && (((rd_T46 l2 x13_1).f1.f1) == a4_1)) = false := by simpa using c49))
        (try (have c49b2 : (((rd_T46 l2 x13_1).f1.f0) == a4_0 && (((rd_T46 l2 x13_1).f1.f1) == a4_1)) = false := by simpa using c49))
        (try (have c49b3 : ¬ (((rd_T46 l2 x13_1).f1.f0) = a4_0 && (((rd_T46 l2 x13_1).f1.f1) == a4_1)) := by simpa using c49))
        clear c49
        by_cases c56 : x12_1.length < 4398046511104
        ·rw [if_pos c56] at H
         have LMc56 := zd c56
         clear c56
         obtain ⟨y271, hy271⟩ : ∃ y_ : List (S46), y_ = (x12_1 ++ [(⟨(rd_T46 l2 x13_1).f0, (⟨(rd_T46 l2 x13_1).f1.f0, (rd_T46 l2 x13_1).f1.f1⟩ : S31), (rd_T46 l2 x13_1).f2⟩ : S46)]) := ⟨_, rfl⟩
         replace H : (leatref11_Into.l0 k1 a1 l2 y271 (wrap64 (x13_1 + 1)) a4_0 a4_1 a3_0 a4_0 a4_1 x263003_1) = some r := by first | (rw [hy271]; with_reducible exact H) | (have H2_ := (Option.bind_some _ _).symm.trans H; rw [hy271]; with_reducible exact H2_) | (have H2_ := (Option.bind_some _ _).symm.trans H; with_reducible exact H2_) | with_reducible exact H | (rw [hy271]; exact H) | exact H
         have Ny271 := zd hy271
         clear hy271
         have H' := zd H
         clear H
         obtain ⟨Ao57, co57, eo57⟩ := Kd.R_slice HO_2.out
         subst eo57
         try go_wp2
         have n0_ := zd (zg HO_2.out)
         have n1_ := zd (zg HO_12.out)
         have n2_ := zd (zl BK257.out)
         have n3_ := zd (zl BK258.out)
         have n4_ := zd (zl BK259.out)
         have n5_ := zd (zl BK262.out)
         have n6_ := zd (Kept.drew HK.out)
         have n7_ := zd (zj HB.out)
         clear HO_2
         clear HO_12
         clear BK257
         clear BK258
         clear BK259
         clear BK262
         clear HK
         clear HB
         have HO_2 := n0_
         have HO_12 := n1_
         have BK257 := n2_
         have BK258 := n3_
         have BK259 := n4_
         have BK262 := n5_
         have HK := n6_
         have HB := n7_
         clear n0_ n1_ n2_ n3_ n4_ n5_ n6_ n7_
         have p266 : 0 <= (x13_1 : Int) := of_decide_eq_true (by first | (with_reducible assumption) | assumption)
         have q266 : x13_1 < (l2.length : Int) := of_decide_eq_true (by first | (with_reducible assumption) | assumption)
         obtain ⟨ad266, e266, hx266_0, hx266_1, hx266_2, hx266_3⟩ := at_T46 (Kd.R_reads' HO_2.out).2.2 x13_1 p266 q266
         cases e266
         replace p266 := eq_true p266
         replace q266 := eq_true q266
         have p267 : 0 <= (x13_1 : Int) := of_decide_eq_true (by first | (with_reducible assumption) | assumption)
         have q267 : x13_1 < (l2.length : Int) := of_decide_eq_true (by first | (with_reducible assumption) | assumption)
         obtain ⟨ad267, e267, hx267_0, hx267_1, hx267_2, hx267_3⟩ := at_T46 (Kd.R_reads' HO_2.out).2.2 x13_1 p267 q267
         obtain rfl : ad266 = ad267 := (by injection e267)
         replace p267 := eq_true p267
         replace q267 := eq_true q267
         refine start_ (n := 17) (S := fun w' => w'.cell? ⟨gb262, 0, none⟩ = some (.int .i64 a3_0) /\ w'.cell? ⟨gb262, 1, none⟩ = some (.int .i64 a4_0) /\ w'.cell? ⟨gb262, 2, none⟩ = some (.int .i64 a4_1) /\ w'.cell? ⟨gb262, 3, none⟩ = some (.int .i64 x263003_1) /\ w'.cell? ⟨gb259, 0, none⟩ = some (.int .i64 a4_0) /\ w'.cell? ⟨gb259, 1, none⟩ = some (.int .i64 a4_1) /\ w'.cell? (ad266.add ((x13_1).toNat * 4)) = some (.int .i64 ((rd_T46 l2 x13_1).f0)) /\ w'.cell? ⟨(ad266.add ((x13_1).toNat * 4)).block, (ad266.add ((x13_1).toNat * 4)).off + 1, none⟩ = some (.int .i64 ((rd_T46 l2 x13_1).f1.f0)) /\ w'.cell? ⟨(ad266.add ((x13_1).toNat * 4)).block, (ad266.add ((x13_1).toNat * 4)).off + 2, none⟩ = some (.int .i64 ((rd_T46 l2 x13_1).f1.f1)) /\ w'.cell? ⟨(ad266.add ((x13_1).toNat * 4)).block, (ad266.add ((x13_1).toNat * 4)).off + 3, none⟩ = some (.int .i64 ((rd_T46 l2 x13_1).f2)) /\ w'.cell? (ad266.add ((x13_1).toNat * 4)) = some (.int .i64 ((rd_T46 l2 x13_1).f0)) /\ w'.cell? ⟨(ad266.add ((x13_1).toNat * 4)).block, (ad266.add ((x13_1).toNat * 4)).off + 1, none⟩ = some (.int .i64 ((rd_T46 l2 x13_1).f1.f0)) /\ w'.cell? ⟨(ad266.add ((x13_1).toNat * 4)).block, (ad266.add ((x13_1).toNat * 4)).off + 2, none⟩ = some (.int .i64 ((rd_T46 l2 x13_1).f1.f1)) /\ w'.cell? ⟨(ad266.add ((x13_1).toNat * 4)).block, (ad266.add ((x13_1).toNat * 4)).off + 3, none⟩ = some (.int .i64 ((rd_T46 l2 x13_1).f2))) (ds := []) #[f_, f_, f_, f_, f_, f_, f_, f_, f_, f_, f_, f_, f_, f_, f_, f_, f_] (by kernel_rfl) rfl rfl ⟨(zo BK262.out 0).trans rfl, (zo BK262.out 1).trans rfl, (zo BK262.out 2).trans rfl, (zo BK262.out 3).trans rfl, (zo BK259.out 0).trans rfl, (zo BK259.out 1).trans rfl, hx266_0, hx266_1, hx266_2, hx266_3, hx267_0, hx267_1, hx267_2, hx267_3⟩ (fun hHeld => ?_); refine with_tabW leatref11_Into.tab8 leatref11_Into.bits8 (fun HT_ HW_ => ?_)
         generalize wr.drew = w58 at HO_2 HO_12 BK257 BK258 BK259 BK262 HK HB hx266_0 hx266_1 hx266_2 hx266_3 hx267_0 hx267_1 hx267_2 hx267_3 hHeld ⊢
         refine pure_ (i := 0) (N := some 37) (v := ?_) (a' := ?_) #[t_, f_, f_, f_, f_, f_, f_, f_, f_, f_, f_, f_, f_, f_, f_, f_, f_] rfl rfl (any_of HT_.out (by kernel_rfl)) (fun _ _ _ h => h) (Or.inl ⟨by rfl, ?_⟩) ?_ ?_
         rotate_left
         ·intro w'
          go_simp
          with_reducible rfl
         rotate_left
         ·simp only [Act.put, za, zb, zc, i64_w, i32_w]
          rfl
         refine pure_ (i := 1) (N := some 38) (v := ?_) (a' := ?_) #[t_, t_, f_, f_, f_, f_, f_, f_, f_, f_, f_, f_, f_, f_, f_, f_, f_] rfl rfl (any_of HT_.out (by kernel_rfl)) (fun _ _ _ h => h) (Or.inl ⟨by rfl, ?_⟩) ?_ ?_
         rotate_left
         ·intro w'
          go_simp
          with_reducible rfl
         rotate_left
         ·simp only [Act.put, za, zb, zc, i64_w, i32_w]
          rfl
         refine pure_ (i := 2) (N := some 39) (v := ?_) (a' := ?_) #[t_, t_, t_, f_, f_, f_, f_, f_, f_, f_, f_, f_, f_, f_, f_, f_, f_] rfl rfl (any_of HT_.out (by kernel_rfl)) (fun _ _ _ h => h) (Or.inl ⟨by rfl, ?_⟩) ?_ ?_
         rotate_left
         ·intro w'
          go_simp
          with_reducible rfl
         rotate_left
         ·simp only [Act.put, za, zb, zc, i64_w, i32_w]
          rfl
         refine pure_ (i := 3) (N := some 40) (v := ?_) (a' := ?_) #[t_, t_, t_, t_, f_, f_, f_, f_, f_, f_, f_, f_, f_, f_, f_, f_, f_] rfl rfl (any_of HT_.out (by kernel_rfl)) (fun _ _ _ h => h) (Or.inl ⟨by rfl, ?_⟩) ?_ ?_
         rotate_left
         ·intro w'
          go_simp
          with_reducible rfl
         rotate_left
         ·simp only [Act.put, za, zb, zc, i64_w, i32_w]
          rfl
         refine pure_ (i := 5) (N := some 42) (v := ?_) (a' := ?_) #[t_, t_, t_, t_, f_, t_, f_, f_, f_, f_, f_, f_, f_, f_, f_, f_, f_] rfl rfl (any_of HT_.out (by kernel_rfl)) (fun _ _ _ h => h) (Or.inl ⟨by rfl, ?_⟩) ?_ ?_
         rotate_left
         ·intro w'
          go_simp
          with_reducible rfl
         rotate_left
         ·simp only [Act.put, za, zb, zc, i64_w, i32_w]
          rfl
         refine take_ (i := 4) (N := some 41) (v := ?_) (a' := ?_) #[t_, t_, t_, t_, t_, t_, f_, f_, f_, f_, f_, f_, f_, f_, f_, f_, f_] rfl rfl (take_ofW HT_.out HW_.out (by kernel_rfl)) (fun _ _ _ h => h) (Or.inl ⟨by rfl, ?_⟩) hHeld ?_ ?_
         rotate_left
         ·rintro w' ⟨s0, s1, s2, s3, s4, s5, s6, s7, s8, s9, s10, s11, s12, s13⟩
          go_simp
          with_reducible rfl
         rotate_left
         ·simp only [Act.put, za, zb, zc, i64_w, i32_w]
          rfl
         refine take_ (i := 6) (N := some 43) (v := ?_) (a' := ?_) #[t_, t_, t_, t_, t_, t_, t_, f_, f_, f_, f_, f_, f_, f_, f_, f_, f_] rfl rfl (take_ofW HT_.out HW_.out (by kernel_rfl)) (fun _ _ _ h => h) (Or.inl ⟨by rfl, ?_⟩) hHeld ?_ ?_
         rotate_left
         ·rintro w' ⟨s0, s1, s2, s3, s4, s5, s6, s7, s8, s9, s10, s11, s12, s13⟩
          go_simp
          with_reducible rfl
         rotate_left
         ·simp only [Act.put, za, zb, zc, i64_w, i32_w]
          rfl
         refine pure_ (i := 7) (N := some 44) (v := ?_) (a' := ?_) #[t_, t_, t_, t_, t_, t_, t_, t_, f_, f_, f_, f_, f_, f_, f_, f_, f_] rfl rfl (any_of HT_.out (by kernel_rfl)) (fun _ _ _ h => h) (Or.inl ⟨by rfl, ?_⟩) ?_ ?_
         rotate_left
         ·intro w'
          go_simp
          with_reducible rfl
         rotate_left
         ·simp only [Act.put, za, zb, zc, i64_w, i32_w]
          rfl
         refine pure_ (i := 8) (N := some 45) (v := ?_) (a' := ?_) #[t_, t_, t_, t_, t_, t_, t_, t_, t_, f_, f_, f_, f_, f_, f_, f_, f_] rfl rfl (any_of HT_.out (by kernel_rfl)) (fun _ _ _ h => h) (Or.inl ⟨by rfl, ?_⟩) ?_ ?_
         rotate_left
         ·intro w'
          go_simp
          with_reducible rfl
         rotate_left
         ·simp only [Act.put, za, zb, zc, i64_w, i32_w]
          rfl
         refine pure_ (i := 9) (N := some 46) (v := ?_) (a' := ?_) #[t_, t_, t_, t_, t_, t_, t_, t_, t_, t_, f_, f_, f_, f_, f_, f_, f_] rfl rfl (any_of HT_.out (by kernel_rfl)) (fun _ _ _ h => h) (Or.inl ⟨by rfl, ?_⟩) ?_ ?_
         rotate_left
         ·intro w'
          go_simp
          with_reducible rfl
         rotate_left
         ·simp only [Act.put, za, zb, zc, i64_w, i32_w]
          rfl
         refine pure_ (i := 10) (N := some 47) (v := ?_) (a' := ?_) #[t_, t_, t_, t_, t_, t_, t_, t_, t_, t_, t_, f_, f_, f_, f_, f_, f_] rfl rfl (any_of HT_.out (by kernel_rfl)) (fun _ _ _ h => h) (Or.inl ⟨by rfl, ?_⟩) ?_ ?_
         rotate_left
         ·intro w'
          go_simp
          with_reducible rfl
         rotate_left
         ·simp only [Act.put, za, zb, zc, i64_w, i32_w]
          rfl
         refine pure_ (i := 11) (N := some 48) (v := ?_) (a' := ?_) #[t_, t_, t_, t_, t_, t_, t_, t_, t_, t_, t_, t_, f_, f_, f_, f_, f_] rfl rfl (any_of HT_.out (by kernel_rfl)) (fun _ _ _ h => h) (Or.inl ⟨by rfl, ?_⟩) ?_ ?_
         rotate_left
         ·intro w'
          go_simp
          with_reducible rfl
         rotate_left
         ·simp only [Act.put, za, zb, zc, i64_w, i32_w]
          rfl
         refine pure_ (i := 12) (N := some 49) (v := ?_) (a' := ?_) #[t_, t_, t_, t_, t_, t_, t_, t_, t_, t_, t_, t_, t_, f_, f_, f_, f_] rfl rfl (any_of HT_.out (by kernel_rfl)) (fun _ _ _ h => h) (Or.inl ⟨by rfl, ?_⟩) ?_ ?_
         rotate_left
         ·intro w'
          go_simp
          with_reducible rfl
         rotate_left
         ·simp only [Act.put, za, zb, zc, i64_w, i32_w]
          rfl
         refine take_ (i := 13) (N := some 50) (v := ?_) (a' := ?_) #[t_, t_, t_, t_, t_, t_, t_, t_, t_, t_, t_, t_, t_, t_, f_, f_, f_] rfl rfl (take_ofW HT_.out HW_.out (by kernel_rfl)) (fun _ _ _ h => h) (Or.inl ⟨by rfl, ?_⟩) hHeld ?_ ?_
         rotate_left
         ·rintro w' ⟨s0, s1, s2, s3, s4, s5, s6, s7, s8, s9, s10, s11, s12, s13⟩
          go_simp
          with_reducible rfl
         rotate_left
         ·simp only [Act.put, za, zb, zc, i64_w, i32_w]
          rfl
         refine take_ (i := 14) (N := some 51) (v := ?_) (a' := ?_) #[t_, t_, t_, t_, t_, t_, t_, t_, t_, t_, t_, t_, t_, t_, t_, f_, f_] rfl rfl (take_ofW HT_.out HW_.out (by kernel_rfl)) (fun _ _ _ h => h) (Or.inl ⟨by rfl, ?_⟩) hHeld ?_ ?_
         rotate_left
         ·rintro w' ⟨s0, s1, s2, s3, s4, s5, s6, s7, s8, s9, s10, s11, s12, s13⟩
          go_simp
          with_reducible rfl
         rotate_left
         ·simp only [Act.put, za, zb, zc, i64_w, i32_w]
          rfl
         refine pure_ (i := 15) (N := some 52) (v := ?_) (a' := ?_) #[t_, t_, t_, t_, t_, t_, t_, t_, t_, t_, t_, t_, t_, t_, t_, t_, f_] rfl rfl (any_of HT_.out (by kernel_rfl)) (fun _ _ _ h => h) (Or.inl ⟨by rfl, ?_⟩) ?_ ?_
         rotate_left
         ·intro w'
          go_simp
          with_reducible rfl
         rotate_left
         ·simp only [Act.put, za, zb, zc, i64_w, i32_w]
          rfl
         refine pure_ (i := 16) (N := some 53) (v := ?_) (a' := ?_) #[t_, t_, t_, t_, t_, t_, t_, t_, t_, t_, t_, t_, t_, t_, t_, t_, t_] rfl rfl (any_of HT_.out (by kernel_rfl)) (fun _ _ _ h => h) (Or.inl ⟨by rfl, ?_⟩) ?_ ?_
         rotate_left
         ·intro w'
          go_simp
          with_reducible rfl
         rotate_left
         ·simp only [Act.put, za, zb, zc, i64_w, i32_w]
          rfl
         refine done_ (done_of HT_.out (by kernel_rfl)) ?_
         have p270 : 0 <= (x13_1 : Int) := of_decide_eq_true (by first | (with_reducible assumption) | assumption)
         have q270 : x13_1 < (l2.length : Int) := of_decide_eq_true (by first | (with_reducible assumption) | assumption)
         obtain ⟨ad270, e270, hx270_0, hx270_1, hx270_2, hx270_3⟩ := at_T46 (Kd.R_reads' HO_2.out).2.2 x13_1 p270 q270
         obtain rfl : ad266 = ad270 := (by injection e270)
         replace p270 := eq_true p270
         replace q270 := eq_true q270
         try go_wp2_with (first | ((with_reducible refine gate_builtin (b := .append) (xs := #[.tmp 64, .tmp 69]) rfl ?_); at_builtin; refine Kd.R_append k46 (w0 := w0) w0.heap.size rfl (.tmp 64) (.tmp 69) 35 46 (.agg #[(.int .i64 0), (.int .i64 0), (.int .i64 0), (.int .i64 0)]) 32 rfl Try.underlying35 info46 rfl (by decide) (by omega) u12 x12_1 (⟨(rd_T46 l2 x13_1).f0, (⟨(rd_T46 l2 x13_1).f1.f0, (rd_T46 l2 x13_1).f1.f1⟩ : S31), (rd_T46 l2 x13_1).f2⟩ : S46) [.int .i64 ((rd_T46 l2 x13_1).f0), .int .i64 ((rd_T46 l2 x13_1).f1.f0), .int .i64 ((rd_T46 l2 x13_1).f1.f1), .int .i64 ((rd_T46 l2 x13_1).f2)] (fun k_ => (P2_ k_ ∨ w.heap.size <= k_) /\ some k_ ≠ (.slice (some ad266) l2.length co57 : Value).ownBlock /\ k_ ≠ gb262) (fun _ => False) rfl rfl ?aP (fun _ hk => hk.elim) ?aF ?aO ?aB ?aS ?aL ?_; (case aP => exact k46_mkM _ _ _ (⟨(rd_T46 l2 x13_1).f0, (⟨(rd_T46 l2 x13_1).f1.f0, (rd_T46 l2 x13_1).f1.f1⟩ : S31), (rd_T46 l2 x13_1).f2⟩ : S46)); (case aB => exact (by repeat (first | (with_reducible first | exact HB.out | apply zh | apply zi | apply zj | refine zn ?_ GE257.out | refine zn ?_ GE258.out | refine zn ?_ GE259.out | refine zn ?_ GE262.out) | exact HB.out))); (case aF => exact (fun k_ hk => ⟨(.inr (Nat.le_trans (by first | exact HK.out.1 | exact (show Kept w _ (fun k_ => P2_ k_) from by repeat (first | (with_reducible first | exact HK.out | apply Kept.alloc | apply Kept.drewN | apply Kept.drew | refine Kept.setCell ?_ (.inr GW257.out) _ | refine Kept.setCell ?_ (.inr GW258.out) _ | refine Kept.setCell ?_ (.inr GW259.out) _ | refine Kept.setCell ?_ (.inr GW262.out) _) | exact HK.out)).1) hk)), Kd.fresh' (Kd.R_lt (by (with_reducible repeat (first | apply ze | apply zf | apply zg)); exact HO_2.out)) k_ hk, Kd.freshB (g := gb262) (o := .cells #[.int .i64 a3_0, .int .i64 a4_0, .int .i64 a4_1, .int .i64 x263003_1] 46 (0, 0)) (by (with_reducible repeat (first | refine zk ?_ _ | refine zl ?_ | refine zm ?_ _)); exact BK262.out) k_ hk⟩)); (case aO => exact (by (with_reducible repeat (first | apply ze | apply zf | apply zg)); exact HO_12.out)); (case aS => exact (below_size (by repeat (first | (with_reducible first | exact HB.out | apply zh | apply zi | apply zj | refine zn ?_ GE257.out | refine zn ?_ GE258.out | refine zn ?_ GE259.out | refine zn ?_ GE262.out) | exact HB.out)))); (case aL => have := LMc56.out; omega); intro v272 w59 ho hb hg hat; rw [← Ny271.out] at ho; have n0_ := zd (Kd.R_after (ok := (fun k_ => (P2_ k_ ∨ w.heap.size <= k_) /\ k_ ≠ gb262)) (by (with_reducible repeat (first | apply ze | apply zf | apply zg)); exact zq HO_2.out (fun _ hk => ⟨⟨hk.1, hk.2.2⟩, hk.2.1⟩)) hg hat); have n1_ := zd (blk_grown (g := gb257) (o := .cells #[.int .i64 a0_0, .int .i64 a0_1, .int .i64 a0_2] 23 (0, 0)) (by (with_reducible repeat (first | refine zk ?_ _ | refine zl ?_ | refine zm ?_ _)); exact BK257.out) hg (Kd.R_ne HO_12.out BK257.out (by decide))); have n2_ := zd (blk_grown (g := gb258) (o := .cells #[.int .i64 a3_0, .int .i64 a3_1, .int .i64 a3_2] 37 (0, 0)) (by (with_reducible repeat (first | refine zk ?_ _ | refine zl ?_ | refine zm ?_ _)); exact BK258.out) hg (Kd.R_ne HO_12.out BK258.out (by decide))); have n3_ := zd (blk_grown (g := gb259) (o := .cells #[.int .i64 a4_0, .int .i64 a4_1] 31 (0, 0)) (by (with_reducible repeat (first | refine zk ?_ _ | refine zl ?_ | refine zm ?_ _)); exact BK259.out) hg (Kd.R_ne HO_12.out BK259.out (by decide))); have n4_ := zd (blk_grown (g := gb262) (o := .cells #[.int .i64 a3_0, .int .i64 a4_0, .int .i64 a4_1, .int .i64 x263003_1] 46 (0, 0)) (by (with_reducible repeat (first | refine zk ?_ _ | refine zl ?_ | refine zm ?_ _)); exact BK262.out) hg (Kd.R_away HO_12.out (fun _ hk => hk.2.2))); have n5_ := zd (hb); have n6_ := zd (Kept.of_grown (S := (fun k_ => P2_ k_)) hg (by repeat (first | (with_reducible first | exact HK.out | apply Kept.alloc | apply Kept.drewN | apply Kept.drew | refine Kept.setCell ?_ (.inr GW257.out) _ | refine Kept.setCell ?_ (.inr GW258.out) _ | refine Kept.setCell ?_ (.inr GW259.out) _ | refine Kept.setCell ?_ (.inr GW262.out) _) | exact HK.out)) (fun k_ e_ => (HO_12.out.1 k_ e_).1)); have n7_ := zd (ho); clear HO_2; clear BK257; clear BK258; clear BK259; clear BK262; clear HB; clear HK; clear HO_12; have HO_2 := n0_; have BK257 := n1_; have BK258 := n2_; have BK259 := n3_; have BK262 := n4_; have HB := n5_; have HK := n6_; have HO273 := n7_; clear n0_ n1_ n2_ n3_ n4_ n5_ n6_ n7_; clear ho hb hg hat))
         go_roundg k1
         case measure => have := HK1.out; omega
         case rel => exact ⟨(y271), (wrap64 (x13_1 + 1)), (x263003_1), (by first | rfl | (simp; done) | (simp [*]; done)), H', ⟨by have := HK1.out; omega⟩, ⟨by (with_reducible repeat (first | apply ze | apply zf | apply zg)); exact zq HO_2.out (fun _ hk => ⟨hk.1.1, ⟨hk.2, hk.1.2⟩⟩)⟩, ⟨by (with_reducible repeat (first | apply ze | apply zf | apply zg)); exact HO273.out⟩, ⟨by (with_reducible repeat (first | refine zk ?_ _ | refine zl ?_ | refine zm ?_ _)); exact BK257.out⟩, ⟨by (with_reducible repeat (first | refine zk ?_ _ | refine zl ?_ | refine zm ?_ _)); exact BK258.out⟩, ⟨by (with_reducible repeat (first | refine zk ?_ _ | refine zl ?_ | refine zm ?_ _)); exact BK259.out⟩, ⟨by (with_reducible repeat (first | refine zk ?_ _ | refine zl ?_ | refine zm ?_ _)); exact BK262.out⟩, ⟨by repeat (first | (with_reducible first | exact HK.out | apply Kept.alloc | apply Kept.drewN | apply Kept.drew | refine Kept.setCell ?_ (.inr GW257.out) _ | refine Kept.setCell ?_ (.inr GW258.out) _ | refine Kept.setCell ?_ (.inr GW259.out) _ | refine Kept.setCell ?_ (.inr GW262.out) _) | exact HK.out)⟩, ⟨by repeat (first | (with_reducible first | exact HB.out | apply zh | apply zi | apply zj | refine zn ?_ GE257.out | refine zn ?_ GE258.out | refine zn ?_ GE259.out | refine zn ?_ GE262.out) | exact HB.out)⟩⟩
        ·rw [if_neg c56] at H
         exact absurd H (by simp)
      ·rw [if_neg c48] at H
       have c48b0 : (((rd_T46 l2 x13_1).f0) == a3_0) = false := beq_eq_false_iff_ne.mpr c48
       have c48b1 : (((rd_T46 l2 x13_1).f0) != a3_0) = true := bne_iff_ne.mpr c48
       by_cases c60 : x12_1.length < 4398046511104
       ·rw [if_pos c60] at H
        have LMc60 := zd c60
        clear c60
        obtain ⟨y275, hy275⟩ : ∃ y_ : List (S46), y_ = (x12_1 ++ [(⟨(rd_T46 l2 x13_1).f0, (⟨(rd_T46 l2 x13_1).f1.f0, (rd_T46 l2 x13_1).f1.f1⟩ : S31), (rd_T46 l2 x13_1).f2⟩ : S46)]) := ⟨_, rfl⟩
        replace H : (leatref11_Into.l0 k1 a1 l2 y275 (wrap64 (x13_1 + 1)) a4_0 a4_1 a3_0 a4_0 a4_1 x263003_1) = some r := by first | (rw [hy275]; with_reducible exact H) | (have H2_ := (Option.bind_some _ _).symm.trans H; rw [hy275]; with_reducible exact H2_) | (have H2_ := (Option.bind_some _ _).symm.trans H; with_reducible exact H2_) | with_reducible exact H | (rw [hy275]; exact H) | exact H
        have Ny275 := zd hy275
        clear hy275
        have H' := zd H
        clear H
        obtain ⟨Ao61, co61, eo61⟩ := Kd.R_slice HO_2.out
        subst eo61
        try go_wp2
        have n0_ := zd (zg HO_2.out)
        have n1_ := zd (zg HO_12.out)
        have n2_ := zd (zl BK257.out)
        have n3_ := zd (zl BK258.out)
        have n4_ := zd (zl BK259.out)
        have n5_ := zd (zl BK262.out)
        have n6_ := zd (Kept.drew HK.out)
        have n7_ := zd (zj HB.out)
        clear HO_2
        clear HO_12
        clear BK257
        clear BK258
        clear BK259
        clear BK262
        clear HK
        clear HB
        have HO_2 := n0_
        have HO_12 := n1_
        have BK257 := n2_
        have BK258 := n3_
        have BK259 := n4_
        have BK262 := n5_
        have HK := n6_
        have HB := n7_
        clear n0_ n1_ n2_ n3_ n4_ n5_ n6_ n7_
        have p266 : 0 <= (x13_1 : Int) := of_decide_eq_true (by first | (with_reducible assumption) | assumption)
        have q266 : x13_1 < (l2.length : Int) := of_decide_eq_true (by first | (with_reducible assumption) | assumption)
        obtain ⟨ad266, e266, hx266_0, hx266_1, hx266_2, hx266_3⟩ := at_T46 (Kd.R_reads' HO_2.out).2.2 x13_1 p266 q266
        cases e266
        replace p266 := eq_true p266
        replace q266 := eq_true q266
        refine start_ (n := 17) (S := fun w' => w'.cell? ⟨gb262, 0, none⟩ = some (.int .i64 a3_0) /\ w'.cell? ⟨gb262, 1, none⟩ = some (.int .i64 a4_0) /\ w'.cell? ⟨gb262, 2, none⟩ = some (.int .i64 a4_1) /\ w'.cell? ⟨gb262, 3, none⟩ = some (.int .i64 x263003_1) /\ w'.cell? (ad266.add ((x13_1).toNat * 4)) = some (.int .i64 ((rd_T46 l2 x13_1).f0)) /\ w'.cell? ⟨(ad266.add ((x13_1).toNat * 4)).block, (ad266.add ((x13_1).toNat * 4)).off + 1, none⟩ = some (.int .i64 ((rd_T46 l2 x13_1).f1.f0)) /\ w'.cell? ⟨(ad266.add ((x13_1).toNat * 4)).block, (ad266.add ((x13_1).toNat * 4)).off + 2, none⟩ = some (.int .i64 ((rd_T46 l2 x13_1).f1.f1)) /\ w'.cell? ⟨(ad266.add ((x13_1).toNat * 4)).block, (ad266.add ((x13_1).toNat * 4)).off + 3, none⟩ = some (.int .i64 ((rd_T46 l2 x13_1).f2))) (ds := []) #[f_, f_, f_, f_, f_, f_, f_, f_, f_, f_, f_, f_, f_, f_, f_, f_, f_] (by kernel_rfl) rfl rfl ⟨(zo BK262.out 0).trans rfl, (zo BK262.out 1).trans rfl, (zo BK262.out 2).trans rfl, (zo BK262.out 3).trans rfl, hx266_0, hx266_1, hx266_2, hx266_3⟩ (fun hHeld => ?_); refine with_tabW leatref11_Into.tab8 leatref11_Into.bits8 (fun HT_ HW_ => ?_)
        generalize wr.drew = w62 at HO_2 HO_12 BK257 BK258 BK259 BK262 HK HB hx266_0 hx266_1 hx266_2 hx266_3 hHeld ⊢
        refine pure_ (i := 0) (N := some 37) (v := ?_) (a' := ?_) #[t_, f_, f_, f_, f_, f_, f_, f_, f_, f_, f_, f_, f_, f_, f_, f_, f_] rfl rfl (any_of HT_.out (by kernel_rfl)) (fun _ _ _ h => h) (Or.inl ⟨by rfl, ?_⟩) ?_ ?_
        rotate_left
        ·intro w'
         go_simp
         with_reducible rfl
        rotate_left
        ·simp only [Act.put, za, zb, zc, i64_w, i32_w]
         rfl
        refine pure_ (i := 1) (N := some 38) (v := ?_) (a' := ?_) #[t_, t_, f_, f_, f_, f_, f_, f_, f_, f_, f_, f_, f_, f_, f_, f_, f_] rfl rfl (any_of HT_.out (by kernel_rfl)) (fun _ _ _ h => h) (Or.inl ⟨by rfl, ?_⟩) ?_ ?_
        rotate_left
        ·intro w'
         go_simp
         with_reducible rfl
        rotate_left
        ·simp only [Act.put, za, zb, zc, i64_w, i32_w]
         rfl
        refine pure_ (i := 2) (N := some 39) (v := ?_) (a' := ?_) #[t_, t_, t_, f_, f_, f_, f_, f_, f_, f_, f_, f_, f_, f_, f_, f_, f_] rfl rfl (any_of HT_.out (by kernel_rfl)) (fun _ _ _ h => h) (Or.inl ⟨by rfl, ?_⟩) ?_ ?_
        rotate_left
        ·intro w'
         go_simp
         with_reducible rfl
        rotate_left
        ·simp only [Act.put, za, zb, zc, i64_w, i32_w]
         rfl
        refine pure_ (i := 3) (N := some 40) (v := ?_) (a' := ?_) #[t_, t_, t_, t_, f_, f_, f_, f_, f_, f_, f_, f_, f_, f_, f_, f_, f_] rfl rfl (any_of HT_.out (by kernel_rfl)) (fun _ _ _ h => h) (Or.inl ⟨by rfl, ?_⟩) ?_ ?_
        rotate_left
        ·intro w'
         go_simp
         with_reducible rfl
        rotate_left
        ·simp only [Act.put, za, zb, zc, i64_w, i32_w]
         rfl
        refine pure_ (i := 5) (N := some 42) (v := ?_) (a' := ?_) #[t_, t_, t_, t_, f_, t_, f_, f_, f_, f_, f_, f_, f_, f_, f_, f_, f_] rfl rfl (any_of HT_.out (by kernel_rfl)) (fun _ _ _ h => h) (Or.inl ⟨by rfl, ?_⟩) ?_ ?_
        rotate_left
        ·intro w'
         go_simp
         with_reducible rfl
        rotate_left
        ·simp only [Act.put, za, zb, zc, i64_w, i32_w]
         rfl
        refine take_ (i := 4) (N := some 41) (v := ?_) (a' := ?_) #[t_, t_, t_, t_, t_, t_, f_, f_, f_, f_, f_, f_, f_, f_, f_, f_, f_] rfl rfl (take_ofW HT_.out HW_.out (by kernel_rfl)) (fun _ _ _ h => h) (Or.inl ⟨by rfl, ?_⟩) hHeld ?_ ?_
        rotate_left
        ·rintro w' ⟨s0, s1, s2, s3, s4, s5, s6, s7⟩
         go_simp
         with_reducible rfl
        rotate_left
        ·simp only [Act.put, za, zb, zc, i64_w, i32_w]
         rfl
        refine take_ (i := 6) (N := some 43) (v := ?_) (a' := ?_) #[t_, t_, t_, t_, t_, t_, t_, f_, f_, f_, f_, f_, f_, f_, f_, f_, f_] rfl rfl (take_ofW HT_.out HW_.out (by kernel_rfl)) (fun _ _ _ h => h) (Or.inl ⟨by rfl, ?_⟩) hHeld ?_ ?_
        rotate_left
        ·rintro w' ⟨s0, s1, s2, s3, s4, s5, s6, s7⟩
         go_simp
         with_reducible rfl
        rotate_left
        ·simp only [Act.put, za, zb, zc, i64_w, i32_w]
         rfl
        refine pure_ (i := 7) (N := some 44) (v := ?_) (a' := ?_) #[t_, t_, t_, t_, t_, t_, t_, t_, f_, f_, f_, f_, f_, f_, f_, f_, f_] rfl rfl (any_of HT_.out (by kernel_rfl)) (fun _ _ _ h => h) (Or.inl ⟨by rfl, ?_⟩) ?_ ?_
        rotate_left
        ·intro w'
         go_simp
         with_reducible rfl
        rotate_left
        ·simp only [Act.put, za, zb, zc, i64_w, i32_w]
         rfl
        refine pure_ (i := 8) (N := some 45) (v := ?_) (a' := ?_) #[t_, t_, t_, t_, t_, t_, t_, t_, t_, f_, f_, f_, f_, f_, f_, f_, f_] rfl rfl (any_of HT_.out (by kernel_rfl)) (fun _ _ _ h => h) (Or.inl ⟨by rfl, ?_⟩) ?_ ?_
        rotate_left
        ·intro w'
         go_simp
         with_reducible rfl
        rotate_left
        ·simp only [Act.put, za, zb, zc, i64_w, i32_w]
         rfl
        refine pure_ (i := 9) (N := some 46) (v := undef) (a' := ?_) #[t_, t_, t_, t_, t_, t_, t_, t_, t_, t_, f_, f_, f_, f_, f_, f_, f_] rfl rfl (any_of HT_.out (by kernel_rfl)) (fun _ _ _ h => h) (Or.inr ⟨by rfl, rfl⟩) ?_ ?_
        rotate_left
        ·simp only [Act.put, za, zb, zc, i64_w, i32_w]
         rfl
        refine pure_ (i := 10) (N := some 47) (v := undef) (a' := ?_) #[t_, t_, t_, t_, t_, t_, t_, t_, t_, t_, t_, f_, f_, f_, f_, f_, f_] rfl rfl (any_of HT_.out (by kernel_rfl)) (fun _ _ _ h => h) (Or.inr ⟨by rfl, rfl⟩) ?_ ?_
        rotate_left
        ·simp only [Act.put, za, zb, zc, i64_w, i32_w]
         rfl
        refine pure_ (i := 11) (N := some 48) (v := undef) (a' := ?_) #[t_, t_, t_, t_, t_, t_, t_, t_, t_, t_, t_, t_, f_, f_, f_, f_, f_] rfl rfl (any_of HT_.out (by kernel_rfl)) (fun _ _ _ h => h) (Or.inr ⟨by rfl, rfl⟩) ?_ ?_
        rotate_left
        ·simp only [Act.put, za, zb, zc, i64_w, i32_w]
         rfl
        refine pure_ (i := 12) (N := some 49) (v := undef) (a' := ?_) #[t_, t_, t_, t_, t_, t_, t_, t_, t_, t_, t_, t_, t_, f_, f_, f_, f_] rfl rfl (any_of HT_.out (by kernel_rfl)) (fun _ _ _ h => h) (Or.inr ⟨by rfl, rfl⟩) ?_ ?_
        rotate_left
        ·simp only [Act.put, za, zb, zc, i64_w, i32_w]
         rfl
        refine pure_ (i := 13) (N := some 50) (v := undef) (a' := ?_) #[t_, t_, t_, t_, t_, t_, t_, t_, t_, t_, t_, t_, t_, t_, f_, f_, f_] rfl rfl (any_of HT_.out (by kernel_rfl)) (fun _ _ _ h => h) (Or.inr ⟨by rfl, rfl⟩) ?_ ?_
        rotate_left
        ·simp only [Act.put, za, zb, zc, i64_w, i32_w]
         rfl
        refine pure_ (i := 14) (N := some 51) (v := undef) (a' := ?_) #[t_, t_, t_, t_, t_, t_, t_, t_, t_, t_, t_, t_, t_, t_, t_, f_, f_] rfl rfl (any_of HT_.out (by kernel_rfl)) (fun _ _ _ h => h) (Or.inr ⟨by rfl, rfl⟩) ?_ ?_
        rotate_left
        ·simp only [Act.put, za, zb, zc, i64_w, i32_w]
         rfl
        refine pure_ (i := 15) (N := some 52) (v := undef) (a' := ?_) #[t_, t_, t_, t_, t_, t_, t_, t_, t_, t_, t_, t_, t_, t_, t_, t_, f_] rfl rfl (any_of HT_.out (by kernel_rfl)) (fun _ _ _ h => h) (Or.inr ⟨by rfl, rfl⟩) ?_ ?_
        rotate_left
        ·simp only [Act.put, za, zb, zc, i64_w, i32_w]
         rfl
        refine pure_ (i := 16) (N := some 53) (v := ?_) (a' := ?_) #[t_, t_, t_, t_, t_, t_, t_, t_, t_, t_, t_, t_, t_, t_, t_, t_, t_] rfl rfl (any_of HT_.out (by kernel_rfl)) (fun _ _ _ h => h) (Or.inl ⟨by rfl, ?_⟩) ?_ ?_
        rotate_left
        ·intro w'
         go_simp
         with_reducible rfl
        rotate_left
        ·simp only [Act.put, za, zb, zc, i64_w, i32_w]
         rfl
        refine done_ (done_of HT_.out (by kernel_rfl)) ?_
        have p274 : 0 <= (x13_1 : Int) := of_decide_eq_true (by first | (with_reducible assumption) | assumption)
        have q274 : x13_1 < (l2.length : Int) := of_decide_eq_true (by first | (with_reducible assumption) | assumption)
        obtain ⟨ad274, e274, hx274_0, hx274_1, hx274_2, hx274_3⟩ := at_T46 (Kd.R_reads' HO_2.out).2.2 x13_1 p274 q274
        obtain rfl : ad266 = ad274 := (by injection e274)
        replace p274 := eq_true p274
        replace q274 := eq_true q274
        try go_wp2_with (first | ((with_reducible refine gate_builtin (b := .append) (xs := #[.tmp 64, .tmp 69]) rfl ?_); at_builtin; refine Kd.R_append k46 (w0 := w0) w0.heap.size rfl (.tmp 64) (.tmp 69) 35 46 (.agg #[(.int .i64 0), (.int .i64 0), (.int .i64 0), (.int .i64 0)]) 32 rfl Try.underlying35 info46 rfl (by decide) (by omega) u12 x12_1 (⟨(rd_T46 l2 x13_1).f0, (⟨(rd_T46 l2 x13_1).f1.f0, (rd_T46 l2 x13_1).f1.f1⟩ : S31), (rd_T46 l2 x13_1).f2⟩ : S46) [.int .i64 ((rd_T46 l2 x13_1).f0), .int .i64 ((rd_T46 l2 x13_1).f1.f0), .int .i64 ((rd_T46 l2 x13_1).f1.f1), .int .i64 ((rd_T46 l2 x13_1).f2)] (fun k_ => (P2_ k_ ∨ w.heap.size <= k_) /\ some k_ ≠ (.slice (some ad266) l2.length co61 : Value).ownBlock /\ k_ ≠ gb262) (fun _ => False) rfl rfl ?aP (fun _ hk => hk.elim) ?aF ?aO ?aB ?aS ?aL ?_; (case aP => exact k46_mkM _ _ _ (⟨(rd_T46 l2 x13_1).f0, (⟨(rd_T46 l2 x13_1).f1.f0, (rd_T46 l2 x13_1).f1.f1⟩ : S31), (rd_T46 l2 x13_1).f2⟩ : S46)); (case aB => exact (by repeat (first | (with_reducible first | exact HB.out | apply zh | apply zi | apply zj | refine zn ?_ GE257.out | refine zn ?_ GE258.out | refine zn ?_ GE259.out | refine zn ?_ GE262.out) | exact HB.out))); (case aF => exact (fun k_ hk => ⟨(.inr (Nat.le_trans (by first | exact HK.out.1 | exact (show Kept w _ (fun k_ => P2_ k_) from by repeat (first | (with_reducible first | exact HK.out | apply Kept.alloc | apply Kept.drewN | apply Kept.drew | refine Kept.setCell ?_ (.inr GW257.out) _ | refine Kept.setCell ?_ (.inr GW258.out) _ | refine Kept.setCell ?_ (.inr GW259.out) _ | refine Kept.setCell ?_ (.inr GW262.out) _) | exact HK.out)).1) hk)), Kd.fresh' (Kd.R_lt (by (with_reducible repeat (first | apply ze | apply zf | apply zg)); exact HO_2.out)) k_ hk, Kd.freshB (g := gb262) (o := .cells #[.int .i64 a3_0, .int .i64 a4_0, .int .i64 a4_1, .int .i64 x263003_1] 46 (0, 0)) (by (with_reducible repeat (first | refine zk ?_ _ | refine zl ?_ | refine zm ?_ _)); exact BK262.out) k_ hk⟩)); (case aO => exact (by (with_reducible repeat (first | apply ze | apply zf | apply zg)); exact HO_12.out)); (case aS => exact (below_size (by repeat (first | (with_reducible first | exact HB.out | apply zh | apply zi | apply zj | refine zn ?_ GE257.out | refine zn ?_ GE258.out | refine zn ?_ GE259.out | refine zn ?_ GE262.out) | exact HB.out)))); (case aL => have := LMc60.out; omega); intro v276 w63 ho hb hg hat; rw [← Ny275.out] at ho; have n0_ := zd (Kd.R_after (ok := (fun k_ => (P2_ k_ ∨ w.heap.size <= k_) /\ k_ ≠ gb262)) (by (with_reducible repeat (first | apply ze | apply zf | apply zg)); exact zq HO_2.out (fun _ hk => ⟨⟨hk.1, hk.2.2⟩, hk.2.1⟩)) hg hat); have n1_ := zd (blk_grown (g := gb257) (o := .cells #[.int .i64 a0_0, .int .i64 a0_1, .int .i64 a0_2] 23 (0, 0)) (by (with_reducible repeat (first | refine zk ?_ _ | refine zl ?_ | refine zm ?_ _)); exact BK257.out) hg (Kd.R_ne HO_12.out BK257.out (by decide))); have n2_ := zd (blk_grown (g := gb258) (o := .cells #[.int .i64 a3_0, .int .i64 a3_1, .int .i64 a3_2] 37 (0, 0)) (by (with_reducible repeat (first | refine zk ?_ _ | refine zl ?_ | refine zm ?_ _)); exact BK258.out) hg (Kd.R_ne HO_12.out BK258.out (by decide))); have n3_ := zd (blk_grown (g := gb259) (o := .cells #[.int .i64 a4_0, .int .i64 a4_1] 31 (0, 0)) (by (with_reducible repeat (first | refine zk ?_ _ | refine zl ?_ | refine zm ?_ _)); exact BK259.out) hg (Kd.R_ne HO_12.out BK259.out (by decide))); have n4_ := zd (blk_grown (g := gb262) (o := .cells #[.int .i64 a3_0, .int .i64 a4_0, .int .i64 a4_1, .int .i64 x263003_1] 46 (0, 0)) (by (with_reducible repeat (first | refine zk ?_ _ | refine zl ?_ | refine zm ?_ _)); exact BK262.out) hg (Kd.R_away HO_12.out (fun _ hk => hk.2.2))); have n5_ := zd (hb); have n6_ := zd (Kept.of_grown (S := (fun k_ => P2_ k_)) hg (by repeat (first | (with_reducible first | exact HK.out | apply Kept.alloc | apply Kept.drewN | apply Kept.drew | refine Kept.setCell ?_ (.inr GW257.out) _ | refine Kept.setCell ?_ (.inr GW258.out) _ | refine Kept.setCell ?_ (.inr GW259.out) _ | refine Kept.setCell ?_ (.inr GW262.out) _) | exact HK.out)) (fun k_ e_ => (HO_12.out.1 k_ e_).1)); have n7_ := zd (ho); clear HO_2; clear BK257; clear BK258; clear BK259; clear BK262; clear HB; clear HK; clear HO_12; have HO_2 := n0_; have BK257 := n1_; have BK258 := n2_; have BK259 := n3_; have BK262 := n4_; have HB := n5_; have HK := n6_; have HO277 := n7_; clear n0_ n1_ n2_ n3_ n4_ n5_ n6_ n7_; clear ho hb hg hat))
        go_roundg k1
        case measure => have := HK1.out; omega
        case rel => exact ⟨(y275), (wrap64 (x13_1 + 1)), (x263003_1), (by first | rfl | (simp; done) | (simp [*]; done)), H', ⟨by have := HK1.out; omega⟩, ⟨by (with_reducible repeat (first | apply ze | apply zf | apply zg)); exact zq HO_2.out (fun _ hk => ⟨hk.1.1, ⟨hk.2, hk.1.2⟩⟩)⟩, ⟨by (with_reducible repeat (first | apply ze | apply zf | apply zg)); exact HO277.out⟩, ⟨by (with_reducible repeat (first | refine zk ?_ _ | refine zl ?_ | refine zm ?_ _)); exact BK257.out⟩, ⟨by (with_reducible repeat (first | refine zk ?_ _ | refine zl ?_ | refine zm ?_ _)); exact BK258.out⟩, ⟨by (with_reducible repeat (first | refine zk ?_ _ | refine zl ?_ | refine zm ?_ _)); exact BK259.out⟩, ⟨by (with_reducible repeat (first | refine zk ?_ _ | refine zl ?_ | refine zm ?_ _)); exact BK262.out⟩, ⟨by repeat (first | (with_reducible first | exact HK.out | apply Kept.alloc | apply Kept.drewN | apply Kept.drew | refine Kept.setCell ?_ (.inr GW257.out) _ | refine Kept.setCell ?_ (.inr GW258.out) _ | refine Kept.setCell ?_ (.inr GW259.out) _ | refine Kept.setCell ?_ (.inr GW262.out) _) | exact HK.out)⟩, ⟨by repeat (first | (with_reducible first | exact HB.out | apply zh | apply zi | apply zj | refine zn ?_ GE257.out | refine zn ?_ GE258.out | refine zn ?_ GE259.out | refine zn ?_ GE262.out) | exact HB.out)⟩⟩
       ·rw [if_neg c60] at H
        exact absurd H (by simp)
     ·rw [if_neg c47] at H
      exact absurd H (by simp)
    ·rw [if_neg c46] at H
     have c46b0 : decide (x13_1 < (l2.length : Int)) = false := decide_eq_false c46
     clear c46
     by_cases c64 : x12_1.length < 4398046511104
     ·rw [if_pos c64] at H
      have LMc64 := zd c64
      clear c64
      obtain ⟨y278, hy278⟩ : ∃ y_ : List (S46), y_ = (x12_1 ++ [(⟨a3_0, (⟨a4_0, a4_1⟩ : S31), x263003_1⟩ : S46)]) := ⟨_, rfl⟩
      replace H : ((leatref11_Sort.f k1 y278).bind fun t281 => (some t281)) = some r := by first | (rw [hy278]; with_reducible exact H) | (have H2_ := (Option.bind_some _ _).symm.trans H; rw [hy278]; with_reducible exact H2_) | (have H2_ := (Option.bind_some _ _).symm.trans H; with_reducible exact H2_) | with_reducible exact H | (rw [hy278]; exact H) | exact H
      have Ny278 := zd hy278
      clear hy278
      replace H := Option.bind_eq_some_iff.mp H
      obtain ⟨t281, A650, H⟩ := H
      replace H : (some t281) = some r := H
      have A65 := zd A650
      clear A650
      obtain rfl := Option.some.inj H
      obtain ⟨Ao66, co66, eo66⟩ := Kd.R_slice HO_2.out
      subst eo66
      have hnb67 := NB262_257.out
      have hnc67 := NB257_262.out
      have hnb68 := NB262_258.out
      have hnc68 := NB258_262.out
      have hnb69 := NB262_259.out
      have hnc69 := NB259_262.out
      have hcz70_0 : wr.cell? ⟨gb262, 0, none⟩ = some (.int .i64 a3_0) := (zo BK262.out 0).trans rfl
      have hcz70_1 : wr.cell? ⟨gb262, 1, none⟩ = some (.int .i64 a4_0) := (zo BK262.out 1).trans rfl
      have hcz70_2 : wr.cell? ⟨gb262, 2, none⟩ = some (.int .i64 a4_1) := (zo BK262.out 2).trans rfl
      have hcz70_3 : wr.cell? ⟨gb262, 3, none⟩ = some (.int .i64 x263003_1) := (zo BK262.out 3).trans rfl
      have hfz70_0 := blk_frozen BK262.out 0
      have hfz70_1 := blk_frozen BK262.out 1
      have hfz70_2 := blk_frozen BK262.out 2
      have hfz70_3 := blk_frozen BK262.out 3
      go_wp2_with (first | ((with_reducible refine gate_builtin (b := .append) (xs := #[.tmp 71, .tmp 73]) rfl ?_); at_builtin; refine Kd.R_append k46 (w0 := w0) w0.heap.size rfl (.tmp 71) (.tmp 73) 35 46 (.agg #[(.int .i64 0), (.int .i64 0), (.int .i64 0), (.int .i64 0)]) 32 rfl Try.underlying35 info46 rfl (by decide) (by omega) u12 x12_1 (⟨a3_0, (⟨a4_0, a4_1⟩ : S31), x263003_1⟩ : S46) [.int .i64 a3_0, .int .i64 a4_0, .int .i64 a4_1, .int .i64 x263003_1] (fun k_ => (P2_ k_ ∨ w.heap.size <= k_) /\ some k_ ≠ (.slice Ao66 l2.length co66 : Value).ownBlock /\ k_ ≠ gb262) (fun _ => False) rfl rfl ?aP (fun _ hk => hk.elim) ?aF ?aO ?aB ?aS ?aL ?_; (case aP => exact k46_mkM _ _ _ (⟨a3_0, (⟨a4_0, a4_1⟩ : S31), x263003_1⟩ : S46)); (case aB => exact (by repeat (first | (with_reducible first | exact HB.out | apply zh | apply zi | apply zj | refine zn ?_ GE257.out | refine zn ?_ GE258.out | refine zn ?_ GE259.out | refine zn ?_ GE262.out) | exact HB.out))); (case aF => exact (fun k_ hk => ⟨(.inr (Nat.le_trans (by first | exact HK.out.1 | exact (show Kept w _ (fun k_ => P2_ k_) from by repeat (first | (with_reducible first | exact HK.out | apply Kept.alloc | apply Kept.drewN | apply Kept.drew | refine Kept.setCell ?_ (.inr GW257.out) _ | refine Kept.setCell ?_ (.inr GW258.out) _ | refine Kept.setCell ?_ (.inr GW259.out) _ | refine Kept.setCell ?_ (.inr GW262.out) _) | exact HK.out)).1) hk)), Kd.fresh' (Kd.R_lt (by (with_reducible repeat (first | apply ze | apply zf | apply zg)); exact HO_2.out)) k_ hk, Kd.freshB (g := gb262) (o := .cells #[.int .i64 a3_0, .int .i64 a4_0, .int .i64 a4_1, .int .i64 x263003_1] 46 (0, 0)) (by (with_reducible repeat (first | refine zk ?_ _ | refine zl ?_ | refine zm ?_ _)); exact BK262.out) k_ hk⟩)); (case aO => exact (by (with_reducible repeat (first | apply ze | apply zf | apply zg)); exact HO_12.out)); (case aS => exact (below_size (by repeat (first | (with_reducible first | exact HB.out | apply zh | apply zi | apply zj | refine zn ?_ GE257.out | refine zn ?_ GE258.out | refine zn ?_ GE259.out | refine zn ?_ GE262.out) | exact HB.out)))); (case aL => have := LMc64.out; omega); intro v279 w71 ho hb hg hat; rw [← Ny278.out] at ho; have n0_ := zd (Kd.R_after (ok := (fun k_ => (P2_ k_ ∨ w.heap.size <= k_) /\ k_ ≠ gb262)) (by (with_reducible repeat (first | apply ze | apply zf | apply zg)); exact zq HO_2.out (fun _ hk => ⟨⟨hk.1, hk.2.2⟩, hk.2.1⟩)) hg hat); have n1_ := zd (blk_grown (g := gb257) (o := .cells #[.int .i64 a0_0, .int .i64 a0_1, .int .i64 a0_2] 23 (0, 0)) (by (with_reducible repeat (first | refine zk ?_ _ | refine zl ?_ | refine zm ?_ _)); exact BK257.out) hg (Kd.R_ne HO_12.out BK257.out (by decide))); have n2_ := zd (blk_grown (g := gb258) (o := .cells #[.int .i64 a3_0, .int .i64 a3_1, .int .i64 a3_2] 37 (0, 0)) (by (with_reducible repeat (first | refine zk ?_ _ | refine zl ?_ | refine zm ?_ _)); exact BK258.out) hg (Kd.R_ne HO_12.out BK258.out (by decide))); have n3_ := zd (blk_grown (g := gb259) (o := .cells #[.int .i64 a4_0, .int .i64 a4_1] 31 (0, 0)) (by (with_reducible repeat (first | refine zk ?_ _ | refine zl ?_ | refine zm ?_ _)); exact BK259.out) hg (Kd.R_ne HO_12.out BK259.out (by decide))); have n4_ := zd (blk_grown (g := gb262) (o := .cells #[.int .i64 a3_0, .int .i64 a4_0, .int .i64 a4_1, .int .i64 x263003_1] 46 (0, 0)) (by (with_reducible repeat (first | refine zk ?_ _ | refine zl ?_ | refine zm ?_ _)); exact BK262.out) hg (Kd.R_away HO_12.out (fun _ hk => hk.2.2))); have n5_ := zd (hb); have n6_ := zd (Kept.of_grown (S := (fun k_ => P2_ k_)) hg (by repeat (first | (with_reducible first | exact HK.out | apply Kept.alloc | apply Kept.drewN | apply Kept.drew | refine Kept.setCell ?_ (.inr GW257.out) _ | refine Kept.setCell ?_ (.inr GW258.out) _ | refine Kept.setCell ?_ (.inr GW259.out) _ | refine Kept.setCell ?_ (.inr GW262.out) _) | exact HK.out)) (fun k_ e_ => (HO_12.out.1 k_ e_).1)); have n7_ := zd (ho); clear HO_2; clear BK257; clear BK258; clear BK259; clear BK262; clear HB; clear HK; clear HO_12; have HO_2 := n0_; have BK257 := n1_; have BK258 := n2_; have BK259 := n3_; have BK262 := n4_; have HB := n5_; have HK := n6_; have HO280 := n7_; clear n0_ n1_ n2_ n3_ n4_ n5_ n6_ n7_; clear ho hb hg hat; obtain ⟨Ao72, co72, eo72⟩ := Kd.R_slice HO280.out; subst eo72) | ((with_reducible refine gate_callee (f := 29) rfl ?_); refine goesL_ (some 75) rfl rfl Try.func29 (by kernel_rfl) rfl #[.slice Ao72 y278.length co72] rfl (by (try simp only [List.map_toArray, List.map_cons, List.map_nil]); first | done | rfl | (simp only [List.length_drop, List.length_take]; rfl)) ?_; (with_reducible refine (leatref11_Sort.calls k1 _ _ y278 t281 _ ?side1 ?side2 A65.out).mono ?_); (case side1 => repeat (first | exact (Kd.R_reads' HO280.out).2.2 | (with_reducible refine Kd.C_alloc ?_ _) | (with_reducible refine Kd.C_drewN ?_ _) | (with_reducible refine Kd.C_drew ?_))); (case side2 => exact (Kd.R_reads' HO280.out).2.1); rintro e w73 ⟨v282, rfl, ho0, hb⟩; refine ⟨_, rfl, ?_⟩; have n0_ := zd (Kd.R_elder' (by (with_reducible repeat (first | apply ze | apply zf | apply zg)); exact HO_2.out) (Kd.R_base ho0) hb); have n1_ := zd (Kd.R_elder' (by (with_reducible repeat (first | apply ze | apply zf | apply zg)); exact HO280.out) (Kd.R_base ho0) hb); have n2_ := zd (Kd.R_lower (Kd.R_newB (Kd.R_new' (Kd.R_new' (Kd.R_newM (M := fun k_ => (P2_ k_ ∨ w.heap.size <= k_)) ho0 (by first | exact HK.out.1 | exact (show Kept w _ (fun k_ => P2_ k_) from by repeat (first | (with_reducible first | exact HK.out | apply Kept.alloc | apply Kept.drewN | apply Kept.drew | refine Kept.setCell ?_ (.inr GW257.out) _ | refine Kept.setCell ?_ (.inr GW258.out) _ | refine Kept.setCell ?_ (.inr GW259.out) _ | refine Kept.setCell ?_ (.inr GW262.out) _) | exact HK.out)).1) (fun k_ h_ => .inr h_)) (Kd.R_lt (by (with_reducible repeat (first | apply ze | apply zf | apply zg)); exact HO_2.out))) (Kd.R_lt (by (with_reducible repeat (first | apply ze | apply zf | apply zg)); exact HO280.out))) (g := gb262) (o := .cells #[.int .i64 a3_0, .int .i64 a4_0, .int .i64 a4_1, .int .i64 x263003_1] 46 (0, 0)) (by (with_reducible repeat (first | refine zk ?_ _ | refine zl ?_ | refine zm ?_ _)); exact BK262.out)) (below_size (by repeat (first | (with_reducible first | exact HB.out | apply zh | apply zi | apply zj | refine zn ?_ GE257.out | refine zn ?_ GE258.out | refine zn ?_ GE259.out | refine zn ?_ GE262.out) | exact HB.out)))); have n3_ := zd (zp (g := gb257) (o := .cells #[.int .i64 a0_0, .int .i64 a0_1, .int .i64 a0_2] 23 (0, 0)) (by (with_reducible repeat (first | refine zk ?_ _ | refine zl ?_ | refine zm ?_ _)); exact BK257.out) hb); have n4_ := zd (zp (g := gb258) (o := .cells #[.int .i64 a3_0, .int .i64 a3_1, .int .i64 a3_2] 37 (0, 0)) (by (with_reducible repeat (first | refine zk ?_ _ | refine zl ?_ | refine zm ?_ _)); exact BK258.out) hb); have n5_ := zd (zp (g := gb259) (o := .cells #[.int .i64 a4_0, .int .i64 a4_1] 31 (0, 0)) (by (with_reducible repeat (first | refine zk ?_ _ | refine zl ?_ | refine zm ?_ _)); exact BK259.out) hb); have n6_ := zd (zp (g := gb262) (o := .cells #[.int .i64 a3_0, .int .i64 a4_0, .int .i64 a4_1, .int .i64 x263003_1] 46 (0, 0)) (by (with_reducible repeat (first | refine zk ?_ _ | refine zl ?_ | refine zm ?_ _)); exact BK262.out) hb); have n7_ := zd (Kept.below (S := (fun k_ => P2_ k_)) (by repeat (first | (with_reducible first | exact HK.out | apply Kept.alloc | apply Kept.drewN | apply Kept.drew | refine Kept.setCell ?_ (.inr GW257.out) _ | refine Kept.setCell ?_ (.inr GW258.out) _ | refine Kept.setCell ?_ (.inr GW259.out) _ | refine Kept.setCell ?_ (.inr GW262.out) _) | exact HK.out)) hb); have n8_ := zd (zs (by repeat (first | (with_reducible first | exact HB.out | apply zh | apply zi | apply zj | refine zn ?_ GE257.out | refine zn ?_ GE258.out | refine zn ?_ GE259.out | refine zn ?_ GE262.out) | exact HB.out)) hb); clear HO_2; clear HO280; clear BK257; clear BK258; clear BK259; clear BK262; clear HK; clear HB; have HO_2 := n0_; have HO280 := n1_; have HO283 := n2_; have BK257 := n3_; have BK258 := n4_; have BK259 := n5_; have BK262 := n6_; have HK := n7_; have HB := n8_; clear n0_ n1_ n2_ n3_ n4_ n5_ n6_ n7_ n8_; (try clear hb); (try clear hb2); (try clear hk); (try clear hi); (try clear ho0)))
      go_ret
      exact ⟨_, by first | rfl | (simp [errW_none, errW_some] <;> rfl) | (simp [*, errW_none, errW_some] <;> rfl), by (with_reducible repeat (first | apply ze | apply zf | apply zg)); exact zq HO283.out (fun _ hk => hk.1.1.1.1), by repeat (first | (with_reducible first | exact HB.out | apply zh | apply zi | apply zj | refine zn ?_ GE257.out | refine zn ?_ GE258.out | refine zn ?_ GE259.out | refine zn ?_ GE262.out) | exact HB.out), by repeat (first | (with_reducible first | exact HK.out | apply Kept.alloc | apply Kept.drewN | apply Kept.drew | refine Kept.setCell ?_ (.inr GW257.out) _ | refine Kept.setCell ?_ (.inr GW258.out) _ | refine Kept.setCell ?_ (.inr GW259.out) _ | refine Kept.setCell ?_ (.inr GW262.out) _) | exact HK.out)⟩
     ·rw [if_neg c64] at H
      exact absurd H (by simp)
end Go.Proofs.Ytdinbnbogdadgaa.X
namespace Go.Proofs.Ytdinbnbogdadgaa.X
open Go.RowKit Go.Proofs.YtdinbnbogdadgaaW.PrintWords Go.Proofs.YtdinbnbogdadgaaW.PrintLast Go.Proofs.YtdinbnbogdadgaaW.PrintMore
attribute [local go_sem] max2_int min2_int max_two min_two max_three min_three max_four min_four   -- for this text's walks alone
set_option linter.unusedVariables false
set_option linter.unusedSimpArgs false
def leatref11_Put.l0 : Nat -> Int -> List (S46) -> List (S31) -> Int -> Int -> Int -> Int -> Int -> Int -> Int -> Option ((List (S46)))
 | 0, _, _, _, _, _, _, _, _, _, _ => none
 | k + 1, x1, x2, x9, x10, x285000, x285001, x285002, x286000, x286001, x286002 => if x10 < (x9.length : Int) then (if 0 <= x10 then ((leatref11_Into.f k x285000 x285001 x285002 x1 x2 x286000 x286001 x286002 ((rd_T31 x9 x10).f0) ((rd_T31 x9 x10).f1)).bind fun t293 => (leatref11_Put.l0 k x1 t293 x9 (wrap64 (x10 + 1)) x285000 x285001 x285002 x286000 x286001 x286002)) else (none)) else (some x2)
def leatref11_Put.f (k : Nat) (a0_0 : Int) (a0_1 : Int) (a0_2 : Int) (a1 : Int) (l2 : List (S46)) (a3_0 : Int) (a3_1 : Int) (a3_2 : Int) : Option ((List (S46))) := (leatref11_Sort.f k l2).bind fun t286 => ((leatref11_Spans.f k a0_0 a0_1 a0_2 a3_1).bind fun t289 => (leatref11_Put.l0 k a1 t286 t289 0 a0_0 a0_1 a0_2 a3_0 a3_1 a3_2))
def leatref11_Put.T6 : Bool × List (List Nat × List Nat) := (true, [([], []), ([], []), ([], []), ([], []), ([], []), ([], []), ([4, 5], [4, 5]), ([6], [6]), ([0, 1, 2, 3, 7], [0, 1, 2, 3, 7]), ([8, 8, 0, 1, 2, 3, 4, 5, 6, 7, 8], [2, 8])])
def leatref11_Put.B6 : List Nat := [0, 0, 0, 0, 0, 0, 48, 112, 255, 511]
theorem leatref11_Put.tab6 : rtab .any (opsOf Try.f20 6) = leatref11_Put.T6 := by kernel_rfl
theorem leatref11_Put.bits6 : waitsOk leatref11_Put.T6.2 leatref11_Put.B6 = true := by kernel_rfl
set_option maxHeartbeats 8000000 in
set_option maxRecDepth 100000 in
theorem leatref11_Put.calls (k : Nat) (a0_0 : Int) (a0_1 : Int) (a0_2 : Int) (a1 : Int) (A2 : Option Addr) (c2 : Nat) (l2 : List (S46)) (a3_0 : Int) (a3_1 : Int) (a3_2 : Int) (r : List (S46)) (w : World) (hr2 : Kd.C k46 w A2 l2.length l2) (hc2 : l2.length <= c2) (h : leatref11_Put.f k a0_0 a0_1 a0_2 a1 l2 a3_0 a3_1 a3_2 = some r) :
  Calls Try.prog 20 #[.agg #[.int .i64 a0_0, .int .i64 a0_1, .int .i64 a0_2], .int .i64 a1, .slice A2 l2.length c2, .agg #[.int .i64 a3_0, .int .i64 a3_1, .int .i64 a3_2]] w fun e w' => ∃ v0_ : Value, e = .returned (v0_) /\ Kd.R k46 46 w' w.heap.size (fun _ => True) v0_ r /\ Below w.heap.size w w' := by
 have hu23 := Try.underlying23
 have hu37 := Try.underlying37
 have hu31 := Try.underlying31
 have HR2 := zd hr2
 have HC2 := zd hc2
 clear hr2 hc2
 have HB := zd (Below.refl w.heap.size w)
 have H : ((leatref11_Sort.f k l2).bind fun t286 => ((leatref11_Spans.f k a0_0 a0_1 a0_2 a3_1).bind fun t289 => (leatref11_Put.l0 k a1 t286 t289 0 a0_0 a0_1 a0_2 a3_0 a3_1 a3_2))) = some r := h
 clear h
 replace H := Option.bind_eq_some_iff.mp H
 obtain ⟨t286, A50, H⟩ := H
 replace H : ((leatref11_Spans.f k a0_0 a0_1 a0_2 a3_1).bind fun t289 => (leatref11_Put.l0 k a1 t286 t289 0 a0_0 a0_1 a0_2 a3_0 a3_1 a3_2)) = some r := H
 have A5 := zd A50
 clear A50
 replace H := Option.bind_eq_some_iff.mp H
 obtain ⟨t289, A60, H⟩ := H
 replace H : (leatref11_Put.l0 k a1 t286 t289 0 a0_0 a0_1 a0_2 a3_0 a3_1 a3_2) = some r := H
 have A6 := zd A60
 clear A60
 have H' := zd H
 clear H
 go_enter Try.func20, Try.ntmps20
 go_wp2_with (first | ((with_reducible refine gate_dst (N := 4) rfl ?_); refine box_event ?hg (N := 4) ?hd (cs := #[.int .i64 a0_0, .int .i64 a0_1, .int .i64 a0_2]) (t := 23) ?hr ?_; (case hd => rfl); (case hg => rfl); (case hr => first | (go_simp; done) | (go_simp; rfl)); intro gb284 hg w7 hbox hb; have n0_ := zd (zs (by repeat (first | (with_reducible first | exact HB.out | apply zh | apply zi | apply zj) | exact HB.out)) hb); have n1_ := zd (hbox); have n2_ := zd ((by rw [hg]; exact (below_size (by repeat (first | (with_reducible first | exact HB.out | apply zh | apply zi | apply zj) | exact HB.out))) : w.heap.size <= gb284)); have n3_ := zd ((by rw [hg]; exact (below_size (by repeat (first | (with_reducible first | exact HB.out | apply zh | apply zi | apply zj) | exact HB.out))) : w.heap.size <= gb284)); clear HB; have HB := n0_; have BK284 := n1_; have GW284 := n2_; have GE284 := n3_; clear n0_ n1_ n2_ n3_; clear hb hbox hg) | ((with_reducible refine gate_dst (N := 7) rfl ?_); refine box_event ?hg (N := 7) ?hd (cs := #[.int .i64 a3_0, .int .i64 a3_1, .int .i64 a3_2]) (t := 37) ?hr ?_; (case hd => rfl); (case hg => rfl); (case hr => first | (go_simp; done) | (go_simp; rfl)); intro gb285 hg w8 hbox hb; have n0_ := zd (zp (g := gb284) (o := .cells #[.int .i64 a0_0, .int .i64 a0_1, .int .i64 a0_2] 23 (0, 0)) (by (with_reducible repeat (first | refine zk ?_ _ | refine zl ?_ | refine zm ?_ _)); exact BK284.out) hb); have n1_ := zd (zs (by repeat (first | (with_reducible first | exact HB.out | apply zh | apply zi | apply zj | refine zn ?_ GE284.out) | exact HB.out)) hb); have n2_ := zd (hbox); have n3_ := zd ((by rw [hg]; exact (below_size (by repeat (first | (with_reducible first | exact HB.out | apply zh | apply zi | apply zj | refine zn ?_ GE284.out) | exact HB.out))) : w.heap.size <= gb285)); have n4_ := zd ((by rw [hg]; exact (below_size (by repeat (first | (with_reducible first | exact HB.out | apply zh | apply zi | apply zj | refine zn ?_ GE284.out) | exact HB.out))) : w.heap.size <= gb285)); have n5_ := zd ((by rw [hg]; exact Nat.ne_of_lt (blk_lt (g := gb284) (o := .cells #[.int .i64 a0_0, .int .i64 a0_1, .int .i64 a0_2] 23 (0, 0)) (by (with_reducible repeat (first | refine zk ?_ _ | refine zl ?_ | refine zm ?_ _)); exact BK284.out)) : gb284 ≠ gb285)); have n6_ := zd ((by rw [hg]; exact Nat.ne_of_gt (blk_lt (g := gb284) (o := .cells #[.int .i64 a0_0, .int .i64 a0_1, .int .i64 a0_2] 23 (0, 0)) (by (with_reducible repeat (first | refine zk ?_ _ | refine zl ?_ | refine zm ?_ _)); exact BK284.out)) : gb285 ≠ gb284)); clear BK284; clear HB; have BK284 := n0_; have HB := n1_; have BK285 := n2_; have GW285 := n3_; have GE285 := n4_; have NB284_285 := n5_; have NB285_284 := n6_; clear n0_ n1_ n2_ n3_ n4_ n5_ n6_; clear hb hbox hg) | ((with_reducible refine gate_callee (f := 29) rfl ?_); refine goesL_ (some 12) rfl rfl Try.func29 (by kernel_rfl) rfl #[.slice A2 l2.length c2] rfl (by (try simp only [List.map_toArray, List.map_cons, List.map_nil]); first | done | rfl | (simp only [List.length_drop, List.length_take]; rfl)) ?_; (with_reducible refine (leatref11_Sort.calls k _ _ l2 t286 _ ?side1 ?side2 A5.out).mono ?_); (case side1 => repeat (first | exact (Kd.C_below HR2.out HB.out) | (with_reducible refine Kd.C_alloc ?_ _) | (with_reducible refine Kd.C_drewN ?_ _) | (with_reducible refine Kd.C_drew ?_))); (case side2 => exact HC2.out); rintro e w9 ⟨v287, rfl, ho0, hb⟩; refine ⟨_, rfl, ?_⟩; have n0_ := zd (Kd.R_lower ho0 (below_size (by repeat (first | (with_reducible first | exact HB.out | apply zh | apply zi | apply zj | refine zn ?_ GE284.out | refine zn ?_ GE285.out) | exact HB.out)))); have n1_ := zd (zp (g := gb284) (o := .cells #[.int .i64 a0_0, .int .i64 a0_1, .int .i64 a0_2] 23 (0, 0)) (by (with_reducible repeat (first | refine zk ?_ _ | refine zl ?_ | refine zm ?_ _)); exact BK284.out) hb); have n2_ := zd (zp (g := gb285) (o := .cells #[.int .i64 a3_0, .int .i64 a3_1, .int .i64 a3_2] 37 (0, 0)) (by (with_reducible repeat (first | refine zk ?_ _ | refine zl ?_ | refine zm ?_ _)); exact BK285.out) hb); have n3_ := zd (zs (by repeat (first | (with_reducible first | exact HB.out | apply zh | apply zi | apply zj | refine zn ?_ GE284.out | refine zn ?_ GE285.out) | exact HB.out)) hb); clear BK284; clear BK285; clear HB; have HO288 := n0_; have BK284 := n1_; have BK285 := n2_; have HB := n3_; clear n0_ n1_ n2_ n3_; (try clear hb); (try clear hb2); (try clear hk); (try clear hi); (try clear ho0); have hnb10 := NB284_285.out; have hnc10 := NB285_284.out; have hcz11_0 : w9.cell? ⟨gb284, 0, none⟩ = some (.int .i64 a0_0) := (zo BK284.out 0).trans rfl; have hcz11_1 : w9.cell? ⟨gb284, 1, none⟩ = some (.int .i64 a0_1) := (zo BK284.out 1).trans rfl; have hcz11_2 : w9.cell? ⟨gb284, 2, none⟩ = some (.int .i64 a0_2) := (zo BK284.out 2).trans rfl; have hfz11_0 := blk_frozen BK284.out 0; have hfz11_1 := blk_frozen BK284.out 1; have hfz11_2 := blk_frozen BK284.out 2; have hcz12_0 : w9.cell? ⟨gb285, 0, none⟩ = some (.int .i64 a3_0) := (zo BK285.out 0).trans rfl; have hcz12_1 : w9.cell? ⟨gb285, 1, none⟩ = some (.int .i64 a3_1) := (zo BK285.out 1).trans rfl; have hcz12_2 : w9.cell? ⟨gb285, 2, none⟩ = some (.int .i64 a3_2) := (zo BK285.out 2).trans rfl; have hfz12_0 := blk_frozen BK285.out 0; have hfz12_1 := blk_frozen BK285.out 1; have hfz12_2 := blk_frozen BK285.out 2) | ((with_reducible refine gate_callee (f := 17) rfl ?_); refine goesL_ (some 16) rfl rfl Try.func17 (by kernel_rfl) rfl #[.agg #[.int .i64 a0_0, .int .i64 a0_1, .int .i64 a0_2], .int .i64 a3_1] rfl (by (try simp only [List.map_toArray, List.map_cons, List.map_nil]); first | done | rfl | (simp only [List.length_drop, List.length_take]; rfl)) ?_; (with_reducible refine (leatref11_Spans.calls k a0_0 a0_1 a0_2 a3_1 t289 _ A6.out).mono ?_); rintro e w13 ⟨v290, rfl, ho0, hb⟩; refine ⟨_, rfl, ?_⟩; have n0_ := zd (zr (by (with_reducible repeat (first | apply ze | apply zf | apply zg)); exact HO288.out) hb); have n1_ := zd (Kd.R_lower ho0 (below_size (by repeat (first | (with_reducible first | exact HB.out | apply zh | apply zi | apply zj | refine zn ?_ GE284.out | refine zn ?_ GE285.out) | exact HB.out)))); have n2_ := zd (zp (g := gb284) (o := .cells #[.int .i64 a0_0, .int .i64 a0_1, .int .i64 a0_2] 23 (0, 0)) (by (with_reducible repeat (first | refine zk ?_ _ | refine zl ?_ | refine zm ?_ _)); exact BK284.out) hb); have n3_ := zd (zp (g := gb285) (o := .cells #[.int .i64 a3_0, .int .i64 a3_1, .int .i64 a3_2] 37 (0, 0)) (by (with_reducible repeat (first | refine zk ?_ _ | refine zl ?_ | refine zm ?_ _)); exact BK285.out) hb); have n4_ := zd (zs (by repeat (first | (with_reducible first | exact HB.out | apply zh | apply zi | apply zj | refine zn ?_ GE284.out | refine zn ?_ GE285.out) | exact HB.out)) hb); clear HO288; clear BK284; clear BK285; clear HB; have HO288 := n0_; have HO291 := n1_; have BK284 := n2_; have BK285 := n3_; have HB := n4_; clear n0_ n1_ n2_ n3_ n4_; (try clear hb); (try clear hb2); (try clear hk); (try clear hi); (try clear ho0)))
 go_loopg [2, 10] k (fun kq v2 v10 w' => ∃ (x2_1 : List (S46)) (x10_1 : Int), v10 = .int .i64 x10_1 /\ Aside0 (leatref11_Put.l0 kq a1 x2_1 t289 x10_1 a0_0 a0_1 a0_2 a3_0 a3_1 a3_2 = some r) /\ Aside0 (kq <= k) /\ Aside0 (Kd.R k46 46 w' w.heap.size (fun _ => True) v2 x2_1) /\ Aside0 (Kd.R k31 31 w' w.heap.size (fun _ => True) v290 t289) /\ Aside0 (w'.heap[gb284]? = some (.cells #[.int .i64 a0_0, .int .i64 a0_1, .int .i64 a0_2] 23 (0, 0))) /\ Aside0 (w'.heap[gb285]? = some (.cells #[.int .i64 a3_0, .int .i64 a3_1, .int .i64 a3_2] 37 (0, 0))) /\ Aside0 (Below w.heap.size w w'))
 case atStart => exact ⟨(t286), (0), (by first | rfl | (simp; done) | (simp [*]; done)), H', ⟨Nat.le_refl _⟩, ⟨by (with_reducible repeat (first | apply ze | apply zf | apply zg)); exact HO288.out⟩, ⟨by (with_reducible repeat (first | apply ze | apply zf | apply zg)); exact HO291.out⟩, ⟨by (with_reducible repeat (first | refine zk ?_ _ | refine zl ?_ | refine zm ?_ _)); exact BK284.out⟩, ⟨by (with_reducible repeat (first | refine zk ?_ _ | refine zl ?_ | refine zm ?_ _)); exact BK285.out⟩, ⟨by repeat (first | (with_reducible first | exact HB.out | apply zh | apply zi | apply zj | refine zn ?_ GE284.out | refine zn ?_ GE285.out) | exact HB.out)⟩⟩
 case round =>
  clear H'
  try clear c1; try clear c2; try clear p2; try clear c10; try clear hcz11_0; try clear hcz11_1; try clear hcz11_2; try clear hcz12_0; try clear hcz12_1; try clear hcz12_2; try clear hfz11_0; try clear hfz11_1; try clear hfz11_2; try clear hfz12_0; try clear hfz12_1; try clear hfz12_2
  obtain ⟨x2_1, x10_1, rfl, HA, HK1, HO_2, HO_9, BK284, BK285, HB⟩ := hrel
  cases gk with
  | zero => exact absurd HA.out (by simp [leatref11_Put.l0])
  | succ k1 =>
   have H := HA.out
   clear HA
   simp only [leatref11_Put.l0] at H
   by_cases c14 : x10_1 < (t289.length : Int)
   ·rw [if_pos c14] at H
    have c14b0 : decide (x10_1 < (t289.length : Int)) = true := decide_eq_true c14
    clear c14
    by_cases c15 : 0 <= x10_1
    ·rw [if_pos c15] at H
     have c15b0 : decide (0 <= x10_1) = true := decide_eq_true c15
     clear c15
     replace H := Option.bind_eq_some_iff.mp H
     obtain ⟨t293, A160, H⟩ := H
     replace H : (leatref11_Put.l0 k1 a1 t293 t289 (wrap64 (x10_1 + 1)) a0_0 a0_1 a0_2 a3_0 a3_1 a3_2) = some r := H
     have A16 := zd A160
     clear A160
     have H' := zd H
     clear H
     obtain ⟨Ao17, co17, eo17⟩ := Kd.R_slice HO_9.out
     subst eo17
     try go_wp2
     have n0_ := zd (zg HO_2.out)
     have n1_ := zd (zg HO_9.out)
     have n2_ := zd (zl BK284.out)
     have n3_ := zd (zl BK285.out)
     have n4_ := zd (zj HB.out)
     clear HO_2
     clear HO_9
     clear BK284
     clear BK285
     clear HB
     have HO_2 := n0_
     have HO_9 := n1_
     have BK284 := n2_
     have BK285 := n3_
     have HB := n4_
     clear n0_ n1_ n2_ n3_ n4_
     have p292 : 0 <= (x10_1 : Int) := of_decide_eq_true (by first | (with_reducible assumption) | assumption)
     have q292 : x10_1 < (t289.length : Int) := of_decide_eq_true (by first | (with_reducible assumption) | assumption)
     obtain ⟨ad292, e292, hx292_0, hx292_1⟩ := at_T31 (Kd.R_reads' HO_9.out).2.2 x10_1 p292 q292
     cases e292
     replace p292 := eq_true p292
     replace q292 := eq_true q292
     obtain ⟨Ao19, co19, eo19⟩ := Kd.R_slice HO_2.out
     (first | subst eo19 | (injection eo19 with f1_ f2_ f3_; have f4_ := f1_.symm; have f5_ := f3_.symm; clear f1_ f2_ f3_; subst f4_; subst f5_))
     refine start_ (n := 10) (S := fun w' => w'.cell? ⟨gb284, 0, none⟩ = some (.int .i64 a0_0) /\ w'.cell? ⟨gb284, 1, none⟩ = some (.int .i64 a0_1) /\ w'.cell? ⟨gb284, 2, none⟩ = some (.int .i64 a0_2) /\ w'.cell? ⟨gb285, 0, none⟩ = some (.int .i64 a3_0) /\ w'.cell? ⟨gb285, 1, none⟩ = some (.int .i64 a3_1) /\ w'.cell? ⟨gb285, 2, none⟩ = some (.int .i64 a3_2) /\ w'.cell? (ad292.add ((x10_1).toNat * 2)) = some (.int .i64 ((rd_T31 t289 x10_1).f0)) /\ w'.cell? ⟨(ad292.add ((x10_1).toNat * 2)).block, (ad292.add ((x10_1).toNat * 2)).off + 1, none⟩ = some (.int .i64 ((rd_T31 t289 x10_1).f1))) (ds := []) #[f_, f_, f_, f_, f_, f_, f_, f_, f_, f_] (by kernel_rfl) rfl rfl ⟨(zo BK284.out 0).trans rfl, (zo BK284.out 1).trans rfl, (zo BK284.out 2).trans rfl, (zo BK285.out 0).trans rfl, (zo BK285.out 1).trans rfl, (zo BK285.out 2).trans rfl, hx292_0, hx292_1⟩ (fun hHeld => ?_); refine with_tabW leatref11_Put.tab6 leatref11_Put.bits6 (fun HT_ HW_ => ?_)
     generalize wr.drew = w18 at HO_2 HO_9 BK284 BK285 HB hx292_0 hx292_1 hHeld ⊢
     refine pure_ (i := 1) (N := some 24) (v := ?_) (a' := ?_) #[f_, t_, f_, f_, f_, f_, f_, f_, f_, f_] rfl rfl (any_of HT_.out (by kernel_rfl)) (fun _ _ _ h => h) (Or.inl ⟨by rfl, ?_⟩) ?_ ?_
     rotate_left
     ·intro w'
      go_simp
      with_reducible rfl
     rotate_left
     ·simp only [Act.put, za, zb, zc, i64_w, i32_w]
      rfl
     refine pure_ (i := 2) (N := some 25) (v := ?_) (a' := ?_) #[f_, t_, t_, f_, f_, f_, f_, f_, f_, f_] rfl rfl (any_of HT_.out (by kernel_rfl)) (fun _ _ _ h => h) (Or.inl ⟨by rfl, ?_⟩) ?_ ?_
     rotate_left
     ·intro w'
      go_simp
      with_reducible rfl
     rotate_left
     ·simp only [Act.put, za, zb, zc, i64_w, i32_w]
      rfl
     refine pure_ (i := 4) (N := some 27) (v := ?_) (a' := ?_) #[f_, t_, t_, f_, t_, f_, f_, f_, f_, f_] rfl rfl (any_of HT_.out (by kernel_rfl)) (fun _ _ _ h => h) (Or.inl ⟨by rfl, ?_⟩) ?_ ?_
     rotate_left
     ·intro w'
      go_simp
      with_reducible rfl
     rotate_left
     ·simp only [Act.put, za, zb, zc, i64_w, i32_w]
      rfl
     refine pure_ (i := 5) (N := some 28) (v := ?_) (a' := ?_) #[f_, t_, t_, f_, t_, t_, f_, f_, f_, f_] rfl rfl (any_of HT_.out (by kernel_rfl)) (fun _ _ _ h => h) (Or.inl ⟨by rfl, ?_⟩) ?_ ?_
     rotate_left
     ·intro w'
      go_simp
      with_reducible rfl
     rotate_left
     ·simp only [Act.put, za, zb, zc, i64_w, i32_w]
      rfl
     refine pure_ (i := 6) (N := some 29) (v := ?_) (a' := ?_) #[f_, t_, t_, f_, t_, t_, t_, f_, f_, f_] rfl rfl (any_of HT_.out (by kernel_rfl)) (fun _ _ _ h => h) (Or.inl ⟨by rfl, ?_⟩) ?_ ?_
     rotate_left
     ·intro w'
      go_simp
      with_reducible rfl
     rotate_left
     ·simp only [Act.put, za, zb, zc, i64_w, i32_w]
      rfl
     refine take_ (i := 0) (N := some 23) (v := ?_) (a' := ?_) #[t_, t_, t_, f_, t_, t_, t_, f_, f_, f_] rfl rfl (take_ofW HT_.out HW_.out (by kernel_rfl)) (fun _ _ _ h => h) (Or.inl ⟨by rfl, ?_⟩) hHeld ?_ ?_
     rotate_left
     ·rintro w' ⟨s0, s1, s2, s3, s4, s5, s6, s7⟩
      go_simp
      with_reducible rfl
     rotate_left
     ·simp only [Act.put, za, zb, zc, i64_w, i32_w]
      rfl
     refine take_ (i := 3) (N := some 26) (v := ?_) (a' := ?_) #[t_, t_, t_, t_, t_, t_, t_, f_, f_, f_] rfl rfl (take_ofW HT_.out HW_.out (by kernel_rfl)) (fun _ _ _ h => h) (Or.inl ⟨by rfl, ?_⟩) hHeld ?_ ?_
     rotate_left
     ·rintro w' ⟨s0, s1, s2, s3, s4, s5, s6, s7⟩
      go_simp
      with_reducible rfl
     rotate_left
     ·simp only [Act.put, za, zb, zc, i64_w, i32_w]
      rfl
     refine take_ (i := 7) (N := some 30) (v := ?_) (a' := ?_) #[t_, t_, t_, t_, t_, t_, t_, t_, f_, f_] rfl rfl (take_ofW HT_.out HW_.out (by kernel_rfl)) (fun _ _ _ h => h) (Or.inl ⟨by rfl, ?_⟩) hHeld ?_ ?_
     rotate_left
     ·rintro w' ⟨s0, s1, s2, s3, s4, s5, s6, s7⟩
      go_simp
      with_reducible rfl
     rotate_left
     ·simp only [Act.put, za, zb, zc, i64_w, i32_w]
      rfl
     refine one_ (i := 8) (N := some 31) #[t_, t_, t_, t_, t_, t_, t_, t_, t_, f_] rfl rfl (one_of HT_.out (by kernel_rfl)) (by decide) (fun K hK => ?_)
     refine goes_ Try.func40 (by kernel_rfl) rfl #[.agg #[.int .i64 a0_0, .int .i64 a0_1, .int .i64 a0_2], .int .i64 a1, .slice Ao19 x2_1.length co19, .agg #[.int .i64 a3_0, .int .i64 a3_1, .int .i64 a3_2], .agg #[.int .i64 ((rd_T31 t289 x10_1).f0), .int .i64 ((rd_T31 t289 x10_1).f1)]] (by rfl) rfl rfl (by (try simp only [List.map_toArray, List.map_cons, List.map_nil]); first | done | rfl | (simp only [List.length_drop, List.length_take]; rfl)) ?_
     with_reducible refine (leatref11_Into.calls k1 a0_0 a0_1 a0_2 a1 (fun k_ => some k_ = (.slice Ao19 x2_1.length co19 : Value).ownBlock) (.slice Ao19 x2_1.length co19) x2_1 a3_0 a3_1 a3_2 ((rd_T31 t289 x10_1).f0) ((rd_T31 t289 x10_1).f1) t293 w _ ?side1 ?side2 A16.out).mono ?_
     (case side1 => repeat (first | (with_reducible first | exact HB.out | apply zh | apply zi | apply zj | refine zn ?_ GE284.out | refine zn ?_ GE285.out) | exact HB.out))
     (case side2 => exact Kd.R_tight rfl HO_2.out)
     rintro e w20 ⟨v294, rfl, ho0, hb, hkp⟩
     have HS6_ := cell_kept (hHeld.2.2.2.2.2.2.1) hkp (by first | (rw [add_block]; exact (fun hs_ => ((((Kd.R_apart' HO_9.out (Kd.R_typed HO_2.out) (by decide))).1 _ rfl).2) hs_)) | (show ¬ _; simp only [add_block]; exact (fun hs_ => ((((Kd.R_apart' HO_9.out (Kd.R_typed HO_2.out) (by decide))).1 _ rfl).2) hs_)) | exact (fun hs_ => ((((Kd.R_apart' HO_9.out (Kd.R_typed HO_2.out) (by decide))).1 _ rfl).2) hs_))
     have HS7_ := cell_kept (hHeld.2.2.2.2.2.2.2) hkp (by first | (rw [add_block]; exact (fun hs_ => ((((Kd.R_apart' HO_9.out (Kd.R_typed HO_2.out) (by decide))).1 _ rfl).2) hs_)) | (show ¬ _; simp only [add_block]; exact (fun hs_ => ((((Kd.R_apart' HO_9.out (Kd.R_typed HO_2.out) (by decide))).1 _ rfl).2) hs_)) | exact (fun hs_ => ((((Kd.R_apart' HO_9.out (Kd.R_typed HO_2.out) (by decide))).1 _ rfl).2) hs_))
     refine ⟨_, rfl, ?_⟩
     have n0_ := zd (zq (ok' := fun k_ => True) (Kd.R_keptB ((Kd.R_apart' HO_9.out (Kd.R_typed HO_2.out) (by decide))) hkp (fun k_ hk_ hs_ => (hk_.2) hs_)) (fun k_ hk_ => trivial))
     have n1_ := zd (blk_kept (by (with_reducible repeat (first | refine zk ?_ _ | refine zl ?_ | refine zm ?_ _)); exact BK284.out) hkp (fun hs_ => (fun e_ => (Kd.R_ne HO_2.out BK284.out (by decide)) e_) hs_))
     have n2_ := zd (blk_kept (by (with_reducible repeat (first | refine zk ?_ _ | refine zl ?_ | refine zm ?_ _)); exact BK285.out) hkp (fun hs_ => (fun e_ => (Kd.R_ne HO_2.out BK285.out (by decide)) e_) hs_))
     have n3_ := zd (zq (ok' := fun k_ => True) ho0 (fun k_ hk_ => trivial))
     have n4_ := zd (hb)
     clear HO_9
     clear BK284
     clear BK285
     clear HB
     clear HO_2
     have HO_9 := n0_
     have BK284 := n1_
     have BK285 := n2_
     have HO295 := n3_
     have HB := n4_
     clear n0_ n1_ n2_ n3_ n4_
     (try clear hb)
     (try clear hkp)
     (try clear ho0)
     refine hK.out _ _ ⟨(zo BK284.out 0).trans rfl, (zo BK284.out 1).trans rfl, (zo BK284.out 2).trans rfl, (zo BK285.out 0).trans rfl, (zo BK285.out 1).trans rfl, (zo BK285.out 2).trans rfl, HS6_, HS7_⟩ (fun hHeld => ?_)
     clear hK K
     refine norm_ (a' := ?_) ?_ ?_
     rotate_left
     ·show Act.put _ (some 31) _ = _
      simp only [Act.put, za, zb, zc, i64_w, i32_w]
      rfl
     refine pure_ (i := 9) (N := some 2) (v := ?_) (a' := ?_) #[t_, t_, t_, t_, t_, t_, t_, t_, t_, t_] rfl rfl (any_of HT_.out (by kernel_rfl)) (fun _ _ _ h => h) (Or.inl ⟨by rfl, ?_⟩) ?_ ?_
     rotate_left
     ·intro w'
      go_simp
      with_reducible rfl
     rotate_left
     ·simp only [Act.put, za, zb, zc, i64_w, i32_w]
      rfl
     refine done_ (done_of HT_.out (by kernel_rfl)) ?_
     try go_wp2
     go_roundg k1
     case measure => have := HK1.out; omega
     case rel => exact ⟨(t293), (wrap64 (x10_1 + 1)), (by first | rfl | (simp; done) | (simp [*]; done)), H', ⟨by have := HK1.out; omega⟩, ⟨by (with_reducible repeat (first | apply ze | apply zf | apply zg)); exact HO295.out⟩, ⟨by (with_reducible repeat (first | apply ze | apply zf | apply zg)); exact HO_9.out⟩, ⟨by (with_reducible repeat (first | refine zk ?_ _ | refine zl ?_ | refine zm ?_ _)); exact BK284.out⟩, ⟨by (with_reducible repeat (first | refine zk ?_ _ | refine zl ?_ | refine zm ?_ _)); exact BK285.out⟩, ⟨by repeat (first | (with_reducible first | exact HB.out | apply zh | apply zi | apply zj | refine zn ?_ GE284.out | refine zn ?_ GE285.out) | exact HB.out)⟩⟩
    ·rw [if_neg c15] at H
     exact absurd H (by simp)
   ·rw [if_neg c14] at H
    have c14b0 : decide (x10_1 < (t289.length : Int)) = false := decide_eq_false c14
    clear c14
    obtain rfl := Option.some.inj H
    obtain ⟨Ao21, co21, eo21⟩ := Kd.R_slice HO_9.out
    subst eo21
    go_wp2
    go_ret
    exact ⟨_, by first | rfl | (simp [errW_none, errW_some] <;> rfl) | (simp [*, errW_none, errW_some] <;> rfl), by (with_reducible repeat (first | apply ze | apply zf | apply zg)); exact HO_2.out, by repeat (first | (with_reducible first | exact HB.out | apply zh | apply zi | apply zj | refine zn ?_ GE284.out | refine zn ?_ GE285.out) | exact HB.out)⟩
end Go.Proofs.Ytdinbnbogdadgaa.X
