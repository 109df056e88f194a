/- Lemmas towards the laws of the aggregates: contracts of the Go functions of package agg, and the plain arithmetic beneath. No conditions. -/
import Derived.Test.YtodpmiaedpmngaaProg
import Derived.WalkKit
import Derived.BigQuiet
import Derived.Deep.QuietTactic
import Derived.Deep.RegionWith
import Derived.Lib.Hide
import Derived.WalkLawsBesides
import Derived.Laws.EntriesVeiled
namespace Go.Proofs.Ytodpmiaedpmngaa
open Go.RowKit
set_option linter.unusedVariables false
set_option linter.unusedSimpArgs false

/-! the plain functions -/
def aggOk (a : Int) : Bool := decide (1 ≤ a ∧ a ≤ 5)
def aggZero (a : Int) : Int := if a = 3 then 9223372036854775807 else if a = 4 then -9223372036854775808 else 0
def aggBoth (a x y : Int) : Int :=
  if a = 1 ∨ a = 2 then wrap64 (x + y) else if a = 3 then min x y else if a = 4 then max x y else if a = 5 then bits .xor .i64 x y else 0
def aggVal (a x : Int) : Int := if a = 2 then 1 else x
def aggAdd (a x y : Int) : Int := if aggOk a then aggBoth a x (aggVal a y) else 0
def aggMerge (a x y : Int) : Int := if aggOk a then aggBoth a x y else 0

def fVal (a : Int) : Value := if a = 2 then .func (.func 19) #[] #[] else if aggOk a then .func (.func 18) #[] #[] else .nilFunc
def fBoth (a : Int) : Value := if a = 1 ∨ a = 2 then .func (.func 17) #[] #[] else if a = 3 then .func (.func 20) #[] #[] else if a = 4 then .func (.func 21) #[] #[] else if a = 5 then .func (.func 22) #[] #[] else .nilFunc

def OfIs (a : Int) (w : World) (e : Ending) (w' : World) : Prop := e = .returned (.tuple #[.agg #[.int .i64 (aggZero a), fVal a, fBoth a], .bool (aggOk a)]) ∧ Below w.heap.size w w'

theorem agg_cases (a : Int) : a = 1 ∨ a = 2 ∨ a = 3 ∨ a = 4 ∨ a = 5 ∨ (a < 1 ∨ 5 < a) := by omega

theorem ok_no {a : Int} (h : a < 1 ∨ 5 < a) : aggOk a = false := by simp [aggOk]; omega
theorem zero_no {a : Int} (h : a < 1 ∨ 5 < a) : aggZero a = 0 := by unfold aggZero; rw [if_neg (by omega), if_neg (by omega)]
theorem fVal_no {a : Int} (h : a < 1 ∨ 5 < a) : fVal a = .nilFunc := by unfold fVal; rw [if_neg (by omega), ok_no h]; rfl
theorem fBoth_no {a : Int} (h : a < 1 ∨ 5 < a) : fBoth a = .nilFunc := by unfold fBoth; rw [if_neg (by omega), if_neg (by omega), if_neg (by omega), if_neg (by omega)]

set_option maxHeartbeats 1000000 in
theorem of_any (a : Int) (w : World) : Calls Try.prog 16 #[.int .i64 a] w (OfIs a w) := by
  rcases agg_cases a with rfl | rfl | rfl | rfl | rfl | h
  all_goals
    go_enter Try.func16, Try.ntmps16
    go_wp2
  · exact bodyPost_ret (v := .tuple #[.agg #[.int .i64 0, .func (.func 18) #[] #[], .func (.func 17) #[] #[]], .bool true]) (by simp [results, Try.results16, go_sem]) rfl ⟨rfl, (Below.refl _ _).alloc (Nat.le_refl _) _⟩
  · exact bodyPost_ret (v := .tuple #[.agg #[.int .i64 0, .func (.func 19) #[] #[], .func (.func 17) #[] #[]], .bool true]) (by simp [results, Try.results16, go_sem]) rfl ⟨rfl, (Below.refl _ _).alloc (Nat.le_refl _) _⟩
  · exact bodyPost_ret (v := .tuple #[.agg #[.int .i64 9223372036854775807, .func (.func 18) #[] #[], .func (.func 20) #[] #[]], .bool true]) (by simp [results, Try.results16, go_sem]) rfl ⟨rfl, (Below.refl _ _).alloc (Nat.le_refl _) _⟩
  · exact bodyPost_ret (v := .tuple #[.agg #[.int .i64 (-9223372036854775808), .func (.func 18) #[] #[], .func (.func 21) #[] #[]], .bool true]) (by simp [results, Try.results16, go_sem]) rfl ⟨rfl, (Below.refl _ _).alloc (Nat.le_refl _) _⟩
  · exact bodyPost_ret (v := .tuple #[.agg #[.int .i64 0, .func (.func 18) #[] #[], .func (.func 22) #[] #[]], .bool true]) (by simp [results, Try.results16, go_sem]) rfl ⟨rfl, (Below.refl _ _).alloc (Nat.le_refl _) _⟩
  · refine bodyPost_ret (v := .tuple #[.agg #[.int .i64 0, .nilFunc, .nilFunc], .bool false]) (by simp [results, Try.results16, go_sem]) rfl ⟨by rw [ok_no h, zero_no h, fVal_no h, fBoth_no h], (Below.refl _ _).alloc (Nat.le_refl _) _⟩

theorem same_any (x : Int) (w : World) : Calls Try.prog 18 #[.int .i64 x] w fun e w' => e = .returned (.int .i64 x) ∧ w = w' := by
  go_enter Try.func18, Try.ntmps18
  go_wp2
  go_ret
  exact ⟨rfl, rfl⟩
theorem one_any (x : Int) (w : World) : Calls Try.prog 19 #[.int .i64 x] w fun e w' => e = .returned (.int .i64 1) ∧ w = w' := by
  go_enter Try.func19, Try.ntmps19
  go_wp2
  go_ret
  exact ⟨rfl, rfl⟩
theorem sum_any (x y : Int) (w : World) : Calls Try.prog 17 #[.int .i64 x, .int .i64 y] w fun e w' => e = .returned (.int .i64 (wrap64 (x + y))) ∧ w = w' := by
  go_enter Try.func17, Try.ntmps17
  go_wp2
  go_ret
  exact ⟨rfl, rfl⟩
theorem min_any (x y : Int) (w : World) : Calls Try.prog 20 #[.int .i64 x, .int .i64 y] w fun e w' => e = .returned (.int .i64 (min x y)) ∧ w = w' := by
  go_enter Try.func20, Try.ntmps20
  go_wp2
  all_goals (go_ret; exact ⟨congrArg (fun n => Ending.returned (.int .i64 n)) (by omega), rfl⟩)
theorem max_any (x y : Int) (w : World) : Calls Try.prog 21 #[.int .i64 x, .int .i64 y] w fun e w' => e = .returned (.int .i64 (max x y)) ∧ w = w' := by
  go_enter Try.func21, Try.ntmps21
  go_wp2
  all_goals (go_ret; exact ⟨congrArg (fun n => Ending.returned (.int .i64 n)) (by omega), rfl⟩)
theorem xor_any (x y : Int) (w : World) : Calls Try.prog 22 #[.int .i64 x, .int .i64 y] w fun e w' => e = .returned (.int .i64 (bits .xor .i64 x y)) ∧ w = w' := by
  go_enter Try.func22, Try.ntmps22
  go_wp2
  go_ret
  exact ⟨rfl, rfl⟩
end Go.Proofs.Ytodpmiaedpmngaa
