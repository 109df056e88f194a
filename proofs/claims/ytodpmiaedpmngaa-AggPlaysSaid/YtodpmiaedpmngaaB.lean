/- Lemmas towards the laws of the aggregates: contracts of the Go functions of package agg, and the plain arithmetic beneath. No conditions. -/
import Derived.Test.YtodpmiaedpmngaaA
namespace Go.Proofs.Ytodpmiaedpmngaa
open Go.RowKit
set_option linter.unusedVariables false
set_option linter.unusedSimpArgs false

theorem bcell {W w1 : World} (hb : Below W.heap.size W w1) : (∀ b o, b < W.heap.size → w1.cell? ⟨b, o, none⟩ = W.cell? ⟨b, o, none⟩) ∧ (∀ b o, b < W.heap.size → w1.frozen? ⟨b, o, none⟩ = W.frozen? ⟨b, o, none⟩) :=
  ⟨fun b o h => hb.cell (p := ⟨b, o, none⟩) h, fun b o h => hb.frozen (p := ⟨b, o, none⟩) h⟩

theorem fVal_cases (a : Int) : fVal a = .func (.func 19) #[] #[] ∨ fVal a = .func (.func 18) #[] #[] ∨ fVal a = .nilFunc := by
  unfold fVal; split
  · exact .inl rfl
  · split
    · exact .inr (.inl rfl)
    · exact .inr (.inr rfl)
theorem fBoth_cases (a : Int) : (∃ k, fBoth a = .func (.func k) #[] #[]) ∨ fBoth a = .nilFunc := by
  unfold fBoth
  split
  · exact .inl ⟨_, rfl⟩
  · split
    · exact .inl ⟨_, rfl⟩
    · split
      · exact .inl ⟨_, rfl⟩
      · split
        · exact .inl ⟨_, rfl⟩
        · exact .inr rfl
theorem run_store_fVal {P : Program} {w : World} {ad : Addr} {m : Mode} (a : Int) : (store ad (fVal a) m).run P w = stored P w ad (fVal a) m := by
  rcases fVal_cases a with h | h | h <;> rw [h]
  · exact run_store_func P w ad m _ _ _
  · exact run_store_func P w ad m _ _ _
  · exact run_store_nilFunc P w ad m
theorem run_store_fBoth {P : Program} {w : World} {ad : Addr} {m : Mode} (a : Int) : (store ad (fBoth a) m).run P w = stored P w ad (fBoth a) m := by
  rcases fBoth_cases a with ⟨k, h⟩ | h <;> rw [h]
  · exact run_store_func P w ad m _ _ _
  · exact run_store_nilFunc P w ad m
attribute [local go_sem] run_store_fVal run_store_fBoth

theorem is_any (a : Int) (w : World) : Calls Try.prog 7 #[.int .i64 a] w fun e w' => e = .returned (.bool (aggOk a)) ∧ Below w.heap.size w w' := by
  go_enter Try.func7, Try.ntmps7
  go_wp2_with (go_at_call 16; refine (of_any _ _).mono ?_; rintro e w1 ⟨rfl, hb⟩)
  go_ret
  exact ⟨rfl, hb.alloc hb.size _⟩
theorem zero_any (a : Int) (w : World) : Calls Try.prog 8 #[.int .i64 a] w fun e w' => e = .returned (.int .i64 (aggZero a)) ∧ Below w.heap.size w w' := by
  go_enter Try.func8, Try.ntmps8
  go_wp2_with (go_at_call 16; refine (of_any _ _).mono ?_; rintro e w1 ⟨rfl, hb⟩)
  go_ret
  exact ⟨rfl, hb.alloc hb.size _⟩
theorem quiet_same {P : Program} {f : FuncId} {args : Array Value} {w : World} {n : Nat} {v : Value}
    (h : Calls P f args (w.drewN n) fun e w' => e = .returned v ∧ w.drewN n = w') : Calls P f args (w.drewN n) fun e w'' => e = .returned v ∧ ∃ m, w'' = w.drewN m :=
  h.mono fun _ _ ⟨he, hm⟩ => ⟨he, n, hm.symm⟩
theorem below_drewN {B : Nat} {w W : World} (h : Below B w W) (n : Nat) : Below B w (W.drewN n) := ⟨h.os, h.tape, h.output, h.size, h.block⟩

set_option maxHeartbeats 4000000 in
theorem add_any (a x y : Int) (w : World) : Calls Try.prog 9 #[.int .i64 a, .int .i64 x, .int .i64 y] w fun e w' => e = .returned (.int .i64 (aggAdd a x y)) ∧ Below w.heap.size w w' := by
  rcases agg_cases a with rfl | rfl | rfl | rfl | rfl | h
  case inr.inr.inr.inr.inr =>
    have h1 := ok_no h
    go_enter Try.func9, Try.ntmps9
    go_wp2_with (go_at_call 16; refine (of_any _ _).mono ?_; rintro e w1 ⟨rfl, hb⟩)
    go_ret
    exact ⟨by rw [aggAdd, h1]; rfl, hb.alloc hb.size _⟩
  case inl =>
    have h1 : aggOk 1 = true := rfl; have h2 : fVal 1 = .func (.func 18) #[] #[] := rfl; have h3 : fBoth 1 = .func (.func 17) #[] #[] := rfl
    go_enter Try.func9, Try.ntmps9
    go_wp2_with (go_at_call 16; refine (of_any _ _).mono ?_; rintro e w1 ⟨rfl, hb⟩)
    go_quiet (first | (go_at_call 18; exact quiet_same (same_any _ _)) | (go_at_call 19; exact quiet_same (one_any _ _)) | (go_at_call 17; exact quiet_same (sum_any _ _ _)) | (go_at_call 20; exact quiet_same (min_any _ _ _)) | (go_at_call 21; exact quiet_same (max_any _ _ _)) | (go_at_call 22; exact quiet_same (xor_any _ _ _)))
    go_wp2
    go_ret
    exact ⟨rfl, below_drewN (hb.alloc hb.size _) _⟩
  case inr.inl =>
    have h1 : aggOk 2 = true := rfl; have h2 : fVal 2 = .func (.func 19) #[] #[] := rfl; have h3 : fBoth 2 = .func (.func 17) #[] #[] := rfl
    go_enter Try.func9, Try.ntmps9
    go_wp2_with (go_at_call 16; refine (of_any _ _).mono ?_; rintro e w1 ⟨rfl, hb⟩)
    go_quiet (first | (go_at_call 18; exact quiet_same (same_any _ _)) | (go_at_call 19; exact quiet_same (one_any _ _)) | (go_at_call 17; exact quiet_same (sum_any _ _ _)) | (go_at_call 20; exact quiet_same (min_any _ _ _)) | (go_at_call 21; exact quiet_same (max_any _ _ _)) | (go_at_call 22; exact quiet_same (xor_any _ _ _)))
    go_wp2
    go_ret
    exact ⟨rfl, below_drewN (hb.alloc hb.size _) _⟩
  case inr.inr.inl =>
    have h1 : aggOk 3 = true := rfl; have h2 : fVal 3 = .func (.func 18) #[] #[] := rfl; have h3 : fBoth 3 = .func (.func 20) #[] #[] := rfl
    go_enter Try.func9, Try.ntmps9
    go_wp2_with (go_at_call 16; refine (of_any _ _).mono ?_; rintro e w1 ⟨rfl, hb⟩)
    go_quiet (first | (go_at_call 18; exact quiet_same (same_any _ _)) | (go_at_call 19; exact quiet_same (one_any _ _)) | (go_at_call 17; exact quiet_same (sum_any _ _ _)) | (go_at_call 20; exact quiet_same (min_any _ _ _)) | (go_at_call 21; exact quiet_same (max_any _ _ _)) | (go_at_call 22; exact quiet_same (xor_any _ _ _)))
    go_wp2
    go_ret
    exact ⟨rfl, below_drewN (hb.alloc hb.size _) _⟩
  case inr.inr.inr.inl =>
    have h1 : aggOk 4 = true := rfl; have h2 : fVal 4 = .func (.func 18) #[] #[] := rfl; have h3 : fBoth 4 = .func (.func 21) #[] #[] := rfl
    go_enter Try.func9, Try.ntmps9
    go_wp2_with (go_at_call 16; refine (of_any _ _).mono ?_; rintro e w1 ⟨rfl, hb⟩)
    go_quiet (first | (go_at_call 18; exact quiet_same (same_any _ _)) | (go_at_call 19; exact quiet_same (one_any _ _)) | (go_at_call 17; exact quiet_same (sum_any _ _ _)) | (go_at_call 20; exact quiet_same (min_any _ _ _)) | (go_at_call 21; exact quiet_same (max_any _ _ _)) | (go_at_call 22; exact quiet_same (xor_any _ _ _)))
    go_wp2
    go_ret
    exact ⟨rfl, below_drewN (hb.alloc hb.size _) _⟩
  case inr.inr.inr.inr.inl =>
    have h1 : aggOk 5 = true := rfl; have h2 : fVal 5 = .func (.func 18) #[] #[] := rfl; have h3 : fBoth 5 = .func (.func 22) #[] #[] := rfl
    go_enter Try.func9, Try.ntmps9
    go_wp2_with (go_at_call 16; refine (of_any _ _).mono ?_; rintro e w1 ⟨rfl, hb⟩)
    go_quiet (first | (go_at_call 18; exact quiet_same (same_any _ _)) | (go_at_call 19; exact quiet_same (one_any _ _)) | (go_at_call 17; exact quiet_same (sum_any _ _ _)) | (go_at_call 20; exact quiet_same (min_any _ _ _)) | (go_at_call 21; exact quiet_same (max_any _ _ _)) | (go_at_call 22; exact quiet_same (xor_any _ _ _)))
    go_wp2
    go_ret
    exact ⟨rfl, below_drewN (hb.alloc hb.size _) _⟩
set_option maxHeartbeats 4000000 in
theorem merge_any (a x y : Int) (w : World) : Calls Try.prog 10 #[.int .i64 a, .int .i64 x, .int .i64 y] w fun e w' => e = .returned (.int .i64 (aggMerge a x y)) ∧ Below w.heap.size w w' := by
  rcases agg_cases a with rfl | rfl | rfl | rfl | rfl | h
  case inr.inr.inr.inr.inr =>
    have h1 := ok_no h
    go_enter Try.func10, Try.ntmps10
    go_wp2_with (go_at_call 16; refine (of_any _ _).mono ?_; rintro e w1 ⟨rfl, hb⟩)
    go_ret
    exact ⟨by rw [aggMerge, h1]; rfl, hb.alloc hb.size _⟩
  case inl =>
    have h1 : aggOk 1 = true := rfl; have h2 : fVal 1 = .func (.func 18) #[] #[] := rfl; have h3 : fBoth 1 = .func (.func 17) #[] #[] := rfl
    go_enter Try.func10, Try.ntmps10
    go_wp2_with (first | (go_at_call 16; refine (of_any _ _).mono ?_; rintro e w1 ⟨rfl, hb⟩) | (go_at_call 17; refine (sum_any _ _ _).mono ?_; rintro e w2 ⟨rfl, rfl⟩) | (go_at_call 20; refine (min_any _ _ _).mono ?_; rintro e w2 ⟨rfl, rfl⟩) | (go_at_call 21; refine (max_any _ _ _).mono ?_; rintro e w2 ⟨rfl, rfl⟩) | (go_at_call 22; refine (xor_any _ _ _).mono ?_; rintro e w2 ⟨rfl, rfl⟩))
    go_ret
    exact ⟨rfl, hb.alloc hb.size _⟩
  case inr.inl =>
    have h1 : aggOk 2 = true := rfl; have h2 : fVal 2 = .func (.func 19) #[] #[] := rfl; have h3 : fBoth 2 = .func (.func 17) #[] #[] := rfl
    go_enter Try.func10, Try.ntmps10
    go_wp2_with (first | (go_at_call 16; refine (of_any _ _).mono ?_; rintro e w1 ⟨rfl, hb⟩) | (go_at_call 17; refine (sum_any _ _ _).mono ?_; rintro e w2 ⟨rfl, rfl⟩) | (go_at_call 20; refine (min_any _ _ _).mono ?_; rintro e w2 ⟨rfl, rfl⟩) | (go_at_call 21; refine (max_any _ _ _).mono ?_; rintro e w2 ⟨rfl, rfl⟩) | (go_at_call 22; refine (xor_any _ _ _).mono ?_; rintro e w2 ⟨rfl, rfl⟩))
    go_ret
    exact ⟨rfl, hb.alloc hb.size _⟩
  case inr.inr.inl =>
    have h1 : aggOk 3 = true := rfl; have h2 : fVal 3 = .func (.func 18) #[] #[] := rfl; have h3 : fBoth 3 = .func (.func 20) #[] #[] := rfl
    go_enter Try.func10, Try.ntmps10
    go_wp2_with (first | (go_at_call 16; refine (of_any _ _).mono ?_; rintro e w1 ⟨rfl, hb⟩) | (go_at_call 17; refine (sum_any _ _ _).mono ?_; rintro e w2 ⟨rfl, rfl⟩) | (go_at_call 20; refine (min_any _ _ _).mono ?_; rintro e w2 ⟨rfl, rfl⟩) | (go_at_call 21; refine (max_any _ _ _).mono ?_; rintro e w2 ⟨rfl, rfl⟩) | (go_at_call 22; refine (xor_any _ _ _).mono ?_; rintro e w2 ⟨rfl, rfl⟩))
    go_ret
    exact ⟨rfl, hb.alloc hb.size _⟩
  case inr.inr.inr.inl =>
    have h1 : aggOk 4 = true := rfl; have h2 : fVal 4 = .func (.func 18) #[] #[] := rfl; have h3 : fBoth 4 = .func (.func 21) #[] #[] := rfl
    go_enter Try.func10, Try.ntmps10
    go_wp2_with (first | (go_at_call 16; refine (of_any _ _).mono ?_; rintro e w1 ⟨rfl, hb⟩) | (go_at_call 17; refine (sum_any _ _ _).mono ?_; rintro e w2 ⟨rfl, rfl⟩) | (go_at_call 20; refine (min_any _ _ _).mono ?_; rintro e w2 ⟨rfl, rfl⟩) | (go_at_call 21; refine (max_any _ _ _).mono ?_; rintro e w2 ⟨rfl, rfl⟩) | (go_at_call 22; refine (xor_any _ _ _).mono ?_; rintro e w2 ⟨rfl, rfl⟩))
    go_ret
    exact ⟨rfl, hb.alloc hb.size _⟩
  case inr.inr.inr.inr.inl =>
    have h1 : aggOk 5 = true := rfl; have h2 : fVal 5 = .func (.func 18) #[] #[] := rfl; have h3 : fBoth 5 = .func (.func 22) #[] #[] := rfl
    go_enter Try.func10, Try.ntmps10
    go_wp2_with (first | (go_at_call 16; refine (of_any _ _).mono ?_; rintro e w1 ⟨rfl, hb⟩) | (go_at_call 17; refine (sum_any _ _ _).mono ?_; rintro e w2 ⟨rfl, rfl⟩) | (go_at_call 20; refine (min_any _ _ _).mono ?_; rintro e w2 ⟨rfl, rfl⟩) | (go_at_call 21; refine (max_any _ _ _).mono ?_; rintro e w2 ⟨rfl, rfl⟩) | (go_at_call 22; refine (xor_any _ _ _).mono ?_; rintro e w2 ⟨rfl, rfl⟩))
    go_ret
    exact ⟨rfl, hb.alloc hb.size _⟩

def agg_Is.f (a0 : Int) : Option Bool := some (aggOk a0)
theorem agg_Is.calls (a0 : Int) (r : Bool) (w : World) (h : agg_Is.f a0 = some r) :
    Calls Try.prog 7 #[.int .i64 a0] w fun e w' => e = .returned (.bool r) ∧ Below w.heap.size w w' := by
  obtain rfl := Option.some.inj h; exact is_any a0 w
def agg_Zero.f (a0 : Int) : Option Int := some (aggZero a0)
theorem agg_Zero.calls (a0 : Int) (r : Int) (w : World) (h : agg_Zero.f a0 = some r) :
    Calls Try.prog 8 #[.int .i64 a0] w fun e w' => e = .returned (.int .i64 r) ∧ Below w.heap.size w w' := by
  obtain rfl := Option.some.inj h; exact zero_any a0 w
def agg_Add.f (a0 a1 a2 : Int) : Option Int := some (aggAdd a0 a1 a2)
theorem agg_Add.calls (a0 a1 a2 : Int) (r : Int) (w : World) (h : agg_Add.f a0 a1 a2 = some r) :
    Calls Try.prog 9 #[.int .i64 a0, .int .i64 a1, .int .i64 a2] w fun e w' => e = .returned (.int .i64 r) ∧ Below w.heap.size w w' := by
  obtain rfl := Option.some.inj h; exact add_any a0 a1 a2 w
def agg_Merge.f (a0 a1 a2 : Int) : Option Int := some (aggMerge a0 a1 a2)
theorem agg_Merge.calls (a0 a1 a2 : Int) (r : Int) (w : World) (h : agg_Merge.f a0 a1 a2 = some r) :
    Calls Try.prog 10 #[.int .i64 a0, .int .i64 a1, .int .i64 a2] w fun e w' => e = .returned (.int .i64 r) ∧ Below w.heap.size w w' := by
  obtain rfl := Option.some.inj h; exact merge_any a0 a1 a2 w
end Go.Proofs.Ytodpmiaedpmngaa
