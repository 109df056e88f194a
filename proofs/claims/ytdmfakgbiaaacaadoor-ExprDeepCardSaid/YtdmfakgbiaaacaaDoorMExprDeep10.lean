/- strconv.FormatInt at base 10 and strings.Join, from the shelf's contracts, in the form of the printed walks. No conditions but those typed. -/
import Derived.Test.YtdmfakgbiaaacaaDoorMExprDeep8
import Derived.Test.YtdmfakgbiaaacaaDoorMExprDeep3
import Derived.Lib.SmallJoins
import Derived.Lib.ItoaLen
import Derived.Lib.AppendIntMem
namespace Go.Proofs.YtdmfakgbiaaacaaDoor.X
open Go.RowKit Go.Lib Go.Proofs Go.Proofs.YtdmfakgbiaaacaaDoorW.PrintWords Go.Proofs.YtdmfakgbiaaacaaDoorW.PrintLast Go.Proofs.YtdmfakgbiaaacaaDoorW.PrintMore Go.Proofs.YtdmfakgbiaaacaaDoor
set_option linter.unusedVariables false
set_option linter.unusedSimpArgs false
def TabW (w : World) : Prop := Lib.TabIs Tryd.prog w "internal/strconv.uint64pow10" .u64 Lib.pow10Tab
theorem TabW.below {w w' : World} (h : TabW w) (hb : Below w.heap.size w w') : TabW w' :=
  Go.Joins.tab_stays (g := 0) (by kernel_rfl) h hb (Nat.le_refl _)
def strconv_FormatInt_32.f (a0 a1 : Int) : Option ByteArray :=
  if a1 = 10 then (if -9223372036854775808 ≤ a0 then (if a0 ≤ 9223372036854775807 then some ⟨(Lib.itoa a0).toArray⟩ else none) else none) else none
theorem strconv_FormatInt_32.calls (a0 a1 : Int) (r : ByteArray) (w : World) (htab : TabW w) (h : strconv_FormatInt_32.f a0 a1 = some r) :
    Calls Tryd.prog 32 #[.int .i64 a0, .int .i64 a1] w fun e w' => e = .returned (.string r) ∧ Below w.heap.size w w' := by
  unfold strconv_FormatInt_32.f at h
  by_cases h1 : a1 = 10
  · rw [if_pos h1] at h
    by_cases h2 : -9223372036854775808 ≤ a0
    · rw [if_pos h2] at h
      by_cases h3 : a0 ≤ 9223372036854775807
      · rw [if_pos h3] at h
        obtain rfl := Option.some.inj h
        subst h1
        refine (Tryd.strconv_FormatInt_10 a0 h2 h3 w htab).mono ?_
        rintro e w' ⟨rfl, k, os, rfl⟩
        exact ⟨rfl, Lib.below_grow _ _ (Nat.le_refl _) _ _⟩
      · rw [if_neg h3] at h; cases h
    · rw [if_neg h2] at h; cases h
  · rw [if_neg h1] at h; cases h
def strings_Join.f (l : List ByteArray) (sep : ByteArray) : Option ByteArray :=
  if l.length ≤ 140737488355328 then (if (Lib.join (l.map (·.data.toList)) sep.data.toList).length ≤ 140737488355328 then some ⟨(Lib.join (l.map (·.data.toList)) sep.data.toList).toArray⟩ else none) else none
theorem strings_Join.calls (A : Option Addr) (c : Nat) (l : List ByteArray) (a1 r : ByteArray) (w : World) (hr : Kd.C Kd.string w A l.length l) (hc : l.length ≤ c) (h : strings_Join.f l a1 = some r) :
    Calls Tryd.prog 34 #[.slice A l.length c, .string a1] w fun e w' => e = .returned (.string r) ∧ Below w.heap.size w w' := by
  unfold strings_Join.f at h
  by_cases h1 : l.length ≤ 140737488355328
  · rw [if_pos h1] at h
    by_cases h2 : (Lib.join (l.map (·.data.toList)) a1.data.toList).length ≤ 140737488355328
    · rw [if_pos h2] at h
      obtain rfl := Option.some.inj h
      cases l with
      | nil =>
        refine (Tryd.strings_Join_none A c a1 w).mono ?_
        rintro e w' ⟨rfl, rfl⟩
        exact ⟨rfl, Below.refl _ _⟩
      | cons x rest =>
        have hcell : ∃ ad, A = some ad ∧ ∀ (j : Nat) y, (x :: rest)[j]? = some y → w.cell? (ad.add j) = some (.string y) := by
          obtain ⟨ad, e, hh⟩ := hr.2.2 (by simp)
          refine ⟨ad, e, fun j y hy => ?_⟩
          obtain ⟨cs, hl, hk, hg⟩ := hh j y hy
          have hk' : cs = [.string y] := hk
          subst hk'
          have := hg 0 (.string y) rfl
          simpa [Kd.string, Kd.scalar] using this
        obtain ⟨ad, rfl, hcell⟩ := hcell
        have h0 := hcell 0 x rfl
        have ha0 : ad.add 0 = ad := by simp [Addr.add]
        rw [ha0] at h0
        have hsp : ad.spot = none := by
          unfold World.cell? at h0
          split at h0
          · split at h0
            · cases h0
            · rename_i hs; simpa using hs
          · cases h0
        have hb := World.block_lt_of_cell? w _ h0
        obtain ⟨b, o, sp⟩ := ad
        simp only at hsp hb
        subst hsp
        refine (Tryd.strings_Join b o c (x :: rest) a1 w ?_ hb h1 hc h2).mono fun e w' h => h
        intro j y hy
        have := hcell j y hy
        rcases Nat.eq_zero_or_pos j with rfl | hj
        · simpa [Addr.add] using this
        · rw [show (⟨b, o, none⟩ : Addr).add j = ⟨b, o + j, none⟩ by simp [Addr.add, Nat.ne_of_gt hj]] at this
          exact this
    · rw [if_neg h2] at h; cases h
  · rw [if_neg h1] at h; cases h
end Go.Proofs.YtdmfakgbiaaacaaDoor.X
