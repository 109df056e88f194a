/- window.absorb: a pane takes in all that overlap it. Conditions: those typed: fewer than 2^42 panes. -/
import Derived.Test.YtdinbnbogdadgaaMWindowFires14
import Derived.Test.YtdinbnbogdadgaaMWindowFires6
import Derived.Test.YtdinbnbogdadgaaMWindowFires10
import Derived.Test.YtdinbnbogdadgaaMWindowFires13
import Derived.Deep.RegionWith
import Derived.Test.YtdinbnbogdadgaaMWindowFires8
import Derived.Test.YtdinbnbogdadgaaMWindowFires7
namespace Go.Proofs.Ytdinbnbogdadgaa.X
open Go.Shelf Go.RowKit Go.Lib Go.Sort Go.Proofs Go.Proofs.YtdinbnbogdadgaaW.PrintWords Go.Proofs.Ytdinbnbogdadgaa.So Go.Proofs.Ytdinbnbogdadgaa
set_option linter.unusedVariables false
set_option linter.unusedSimpArgs false
def hitP (p x : S46) : Bool := x.f0 == p.f0 && decide (mx x.f1.f0 p.f1.f0 < mn x.f1.f1 p.f1.f1)
def joinP (a : Int) (p x : S46) : S46 := ⟨p.f0, ⟨mn p.f1.f0 x.f1.f0, mx p.f1.f1 x.f1.f1⟩, aggMerge a p.f2 x.f2⟩
def absorbF (a : Int) : Nat → S46 → List S46 → S46 × List S46
 | 0, p, l => (p, l)
 | k + 1, p, l => match l.findIdx? (hitP p) with
  | none => (p, l)
  | some i => absorbF a k (joinP a p (l.getD i z46)) (l.eraseIdx i)
def absorbP (a : Int) (p : S46) (l : List S46) : S46 × List S46 := absorbF a (l.length + 1) p l
def Held (w wr : World) (A0 : Option Addr) (c0 : Nat) (l0 : List S46) (v : Value) (l : List S46) : Prop :=
 (v = .slice A0 l0.length c0 ∧ l = l0) ∨ Kd.R k46 46 wr w.heap.size (fun k => w.heap.size + 2 ≤ k) v l
theorem held_below {w w1 w2 : World} {A0 : Option Addr} {c0 : Nat} {l0 l : List S46} {v : Value} (h : Held w w1 A0 c0 l0 v l) (hb : Below w1.heap.size w1 w2) : Held w w2 A0 c0 l0 v l := by
 rcases h with h | h
 ·exact Or.inl h
 ·exact Or.inr (Kd.R_below h hb)
theorem held_set {w w1 : World} {A0 : Option Addr} {c0 : Nat} {l0 l : List S46} {v : Value} (h : Held w w1 A0 c0 l0 v l) (g j : Nat) (hg : g < w.heap.size + 2) (u : Value) : Held w (w1.setCell ⟨g, j, none⟩ u) A0 c0 l0 v l := by
 rcases h with h | h
 ·exact Or.inl h
 ·exact Or.inr (Kd.R_far h (fun k hk he => by have h1 : w.heap.size + 2 ≤ k := hk; have h2 : k = g := he; omega) _)
theorem held_C {w w1 : World} {A0 A : Option Addr} {c0 c : Nat} {l0 l : List S46} (hr0 : Kd.C k46 w A0 l0.length l0) (hb : Below w.heap.size w w1) (h : Held w w1 A0 c0 l0 (.slice A l.length c) l) : Kd.C k46 w1 A l.length l := by
 rcases h with ⟨h1, rfl⟩ | h
 ·injection h1 with e1 e2 e3
  subst e1
  exact Kd.C_below hr0 hb
 ·obtain ⟨h1, h2, h3⟩ := Kd.R_reads' h
  exact h3
attribute [local go_sem] Go.Proofs.YtdinbnbogdadgaaW.PrintMore.max2_int Go.Proofs.YtdinbnbogdadgaaW.PrintMore.min2_int Go.Proofs.YtdinbnbogdadgaaW.PrintMore.max_two Go.Proofs.YtdinbnbogdadgaaW.PrintMore.min_two
set_option maxHeartbeats 4000000 in
theorem absorb46 (a : Int) (p : S46) (A0 : Option Addr) (c0 : Nat) (l0 : List S46) (w : World) (hr0 : Kd.C k46 w A0 l0.length l0) (hc0 : l0.length ≤ c0) (hl : l0.length < 4398046511104) :
    Calls Try.prog 36 #[.int .i64 a, .agg #[.int .i64 p.f0, .int .i64 p.f1.f0, .int .i64 p.f1.f1, .int .i64 p.f2], .slice A0 l0.length c0] w fun e w' =>
      ∃ v, e = .returned (.tuple #[.agg #[.int .i64 (absorbP a p l0).1.f0, .int .i64 (absorbP a p l0).1.f1.f0, .int .i64 (absorbP a p l0).1.f1.f1, .int .i64 (absorbP a p l0).1.f2], v]) ∧ Held w w' A0 c0 l0 v (absorbP a p l0).2 ∧ Below w.heap.size w w' := by
  have hu46 := Try.underlying46
  have hu35 := Try.underlying35
  have hu31 := Try.underlying31
  have HR0 := Aside0.mk hr0
  clear hr0
  go_enter Try.func36, Try.ntmps36
  go_wp2
  go_step3
  go_wp2
  go_step3
  go_wp2
  go_loopg [2] (l0.length + 1) (fun kx s2 wr => ∃ (q : S46) (l : List S46) (A : Option Addr) (c : Nat), s2 = .slice A l.length c ∧ l.length ≤ c ∧ l.length < 4398046511104 ∧ l.length + 1 ≤ kx + 1 ∧ Aside0 (Held w wr A0 c0 l0 (.slice A l.length c) l) ∧ Aside0 (Kd.C k46 wr A l.length l) ∧
    Aside0 (wr.heap[w.heap.size]? = some (.cells #[.int .i64 q.f0, .int .i64 q.f1.f0, .int .i64 q.f1.f1, .int .i64 q.f2] 46 (0, 0))) ∧ Aside0 (wr.heap[w.heap.size + 1]? = some (.cells #[.int .i64 0, .int .i64 0, .int .i64 0, .int .i64 0] 46 (0, 0))) ∧ Aside0 (Below w.heap.size w wr) ∧ Aside0 (absorbF a (l.length + 1) q l = absorbP a p l0))
  case atStart =>
    refine ⟨p, l0, A0, c0, rfl, hc0, hl, by omega, ⟨Or.inl ⟨rfl, rfl⟩⟩, ⟨Kd.C_alloc (Kd.C_alloc HR0.out _) _⟩, ⟨blk_alloc (blk_new w _) _⟩, ⟨?_⟩, ⟨below_alloc (below_alloc (Below.refl _ _) _) _⟩, ⟨rfl⟩⟩
    have h := blk_new (w.alloc (.cells #[.int .i64 p.f0, .int .i64 p.f1.f0, .int .i64 p.f1.f1, .int .i64 p.f2] 46)) (.cells #[.int .i64 0, .int .i64 0, .int .i64 0, .int .i64 0] 46 (0, 0))
    simpa using h
  case round =>
    obtain ⟨q, l, A, c, rfl, hlc, hlm, hkx, HH, HC, BP, BR, HB, HE⟩ := hrel
    go_wp2
    go_loopg [2, 12] l.length (fun ky s2 s12 wr2 => ∃ i : Nat, s2 = .slice A l.length c ∧ s12 = .int .i64 i ∧ i ≤ l.length ∧ l.length - i ≤ ky ∧ Aside0 (∀ j (h : j < l.length), j < i → hitP q l[j] = false) ∧ Aside0 (Held w wr2 A0 c0 l0 (.slice A l.length c) l) ∧ Aside0 (Kd.C k46 wr2 A l.length l) ∧
      Aside0 (wr2.heap[w.heap.size]? = some (.cells #[.int .i64 q.f0, .int .i64 q.f1.f0, .int .i64 q.f1.f1, .int .i64 q.f2] 46 (0, 0))) ∧ Aside0 (wr2.heap[w.heap.size + 1]? = some (.cells #[.int .i64 0, .int .i64 0, .int .i64 0, .int .i64 0] 46 (0, 0))) ∧ Aside0 (Below w.heap.size w wr2))
    case atStart => exact ⟨0, rfl, rfl, Nat.zero_le _, Nat.le_refl _, ⟨fun j _ h => absurd h (by omega)⟩, HH, HC, BP, BR, HB⟩
    case round =>
      clear HH HC BP BR HB
      obtain ⟨i, rfl, rfl, hil, hky, HN, HH, HC, BP, BR, HB⟩ := hrel
      by_cases hlt : i < l.length
      · have hltz : (i : Int) < (l.length : Int) := by omega
        obtain ⟨ad, e, hx0, hx1, hx2, hx3⟩ := at_T46 HC.out (i : Int) (by omega) (by omega)
        cases e
        obtain ⟨x, HX⟩ : ∃ x, Aside0 (x = l[i]) := ⟨_, ⟨rfl⟩⟩
        have er : rd_T46 l (i : Int) = x := by rw [HX.out]; simp [rd_T46, hlt]
        rw [er] at hx0 hx1 hx2 hx3
        simp only [Int.toNat_natCast] at hx0 hx1 hx2 hx3
        clear er
        have hsz1 : w.heap.size < wr.heap.size := blk_lt BP.out
        have hsz2 : w.heap.size + 1 < wr.heap.size := blk_lt BR.out
        have hp0 : wr.cell? ⟨w.heap.size, 0, none⟩ = some (.int .i64 q.f0) := (blk_cell BP.out 0).trans rfl
        have hp1 : wr.cell? ⟨w.heap.size, 1, none⟩ = some (.int .i64 q.f1.f0) := (blk_cell BP.out 1).trans rfl
        have hp2 : wr.cell? ⟨w.heap.size, 2, none⟩ = some (.int .i64 q.f1.f1) := (blk_cell BP.out 2).trans rfl
        have hp3 : wr.cell? ⟨w.heap.size, 3, none⟩ = some (.int .i64 q.f2) := (blk_cell BP.out 3).trans rfl
        have hxb := World.block_lt_of_cell? _ _ hx0
        by_cases hk : x.f0 = q.f0
        · have hkb : (x.f0 == q.f0) = true := beq_iff_eq.2 hk
          have HK : Aside0 (x.f0 = q.f0) := Aside0.mk hk
          clear hk
          have hov := fun w' => window_overlap.calls x.f1.f0 x.f1.f1 q.f1.f0 q.f1.f1 _ w' rfl
          cases hv : decide (mx x.f1.f0 q.f1.f0 < mn x.f1.f1 q.f1.f1) with
          | false =>
            rw [hv] at hov
            go_wp2_with (go_at_call 46; refine (hov _).mono ?_; rintro e w3 ⟨rfl, hb3⟩)
            have HB3 := Aside0.mk hb3
            clear hb3
            go_roundg (l.length - (i + 1))
            case measure => omega
            case rel =>
              refine ⟨i + 1, rfl, by first | rfl | go_num | (congr 1; omega), by omega, Nat.le_refl _, ⟨fun j h hj => ?_⟩, ⟨?_⟩, ⟨Kd.C_below (Kd.C_alloc HC.out _) HB3.out⟩, ⟨blk_below (blk_alloc BP.out _) HB3.out⟩, ⟨blk_below (blk_alloc BR.out _) HB3.out⟩, ⟨below_step (below_alloc HB.out _) HB3.out⟩⟩
              · rcases Nat.lt_or_ge j i with h1 | h1
                · exact HN.out j h h1
                · obtain rfl : j = i := by omega
                  rw [← HX.out]; unfold hitP; rw [hkb, hv]; rfl
              · rcases HH.out with h | h
                · exact Or.inl h
                · exact Or.inr (Kd.R_below (Kd.R_alloc h _) HB3.out)
          | true =>
            rw [hv] at hov
            have HV := Aside0.mk hv
            clear hv
            have hkb2 := Aside0.mk hkb
            clear hkb
            obtain ⟨jm, hjm⟩ : ∃ j, mn q.f1.f0 x.f1.f0 = j := ⟨_, rfl⟩
            obtain ⟨jx, hjx⟩ : ∃ j, mx q.f1.f1 x.f1.f1 = j := ⟨_, rfl⟩
            have hjm_ : (if x.f1.f0 < q.f1.f0 then x.f1.f0 else q.f1.f0) = jm := hjm
            have hjx_ : (if q.f1.f1 < x.f1.f1 then x.f1.f1 else q.f1.f1) = jx := hjx
            have HJ : Aside0 (mn q.f1.f0 x.f1.f0 = jm ∧ mx q.f1.f1 x.f1.f1 = jx) := ⟨hjm, hjx⟩
            clear hjm hjx
            obtain ⟨am, HAM⟩ : ∃ j, Aside0 (aggMerge a q.f2 x.f2 = j) := ⟨_, ⟨rfl⟩⟩
            have hmg := fun w' => agg_Merge.calls a q.f2 x.f2 am w' (by rw [← HAM.out]; rfl)
            have hkb := hkb2.out
            go_wp2_with (first
             | (go_at_call 46
                refine (hov _).mono ?_
                rintro e w3 ⟨rfl, hb3⟩
                have HB3 := Aside0.mk hb3
                clear hb3
                have BX3 : Aside0 (w3.heap[wr.heap.size]? = some (.cells #[.int .i64 x.f0, .int .i64 x.f1.f0, .int .i64 x.f1.f1, .int .i64 x.f2] 46 (0, 0))) := ⟨blk_below (blk_new wr _) HB3.out⟩
                have BP3 : Aside0 (w3.heap[w.heap.size]? = some (.cells #[.int .i64 q.f0, .int .i64 q.f1.f0, .int .i64 q.f1.f1, .int .i64 q.f2] 46 (0, 0))) := ⟨blk_below (blk_alloc BP.out _) HB3.out⟩
                have BR3 : Aside0 (w3.heap[w.heap.size + 1]? = some (.cells #[.int .i64 0, .int .i64 0, .int .i64 0, .int .i64 0] 46 (0, 0))) := ⟨blk_below (blk_alloc BR.out _) HB3.out⟩
                have HH3 : Aside0 (Held w w3 A0 c0 l0 (.slice (some ad) l.length c) l) := ⟨held_below (held_below HH.out (below_alloc (Below.refl _ _) _)) HB3.out⟩
                have HW3 : Aside0 (Below w.heap.size w w3) := ⟨below_step (below_alloc HB.out _) HB3.out⟩
                clear hp0 hp1 hp2 hp3 hx0 hx1 hx2 hx3 HB3
                have hp0 : w3.cell? ⟨w.heap.size, 0, none⟩ = some (.int .i64 q.f0) := (blk_cell BP3.out 0).trans rfl
                have hp1 : w3.cell? ⟨w.heap.size, 1, none⟩ = some (.int .i64 q.f1.f0) := (blk_cell BP3.out 1).trans rfl
                have hp2 : w3.cell? ⟨w.heap.size, 2, none⟩ = some (.int .i64 q.f1.f1) := (blk_cell BP3.out 2).trans rfl
                have hp3 : w3.cell? ⟨w.heap.size, 3, none⟩ = some (.int .i64 q.f2) := (blk_cell BP3.out 3).trans rfl
                have hx1 : w3.cell? ⟨wr.heap.size, 1, none⟩ = some (.int .i64 x.f1.f0) := (blk_cell BX3.out 1).trans rfl
                have hx2 : w3.cell? ⟨wr.heap.size, 2, none⟩ = some (.int .i64 x.f1.f1) := (blk_cell BX3.out 2).trans rfl
                have hx3 : w3.cell? ⟨wr.heap.size, 3, none⟩ = some (.int .i64 x.f2) := (blk_cell BX3.out 3).trans rfl
                have hpf1 := blk_frozen BP3.out 1
                have hpf2 := blk_frozen BP3.out 2)
             | (go_at_call 47
                refine (hmg _).mono ?_
                rintro e w5 ⟨rfl, hb5⟩
                have BP4 : Aside0 (((w3.setCell ⟨w.heap.size, 1, none⟩ (.int .i64 jm)).setCell ⟨w.heap.size, 2, none⟩ (.int .i64 jx)).heap[w.heap.size]? = some (.cells #[.int .i64 q.f0, .int .i64 jm, .int .i64 jx, .int .i64 q.f2] 46 (0, 0))) := by
                  have hb := BP3.out
                  exact Aside0.mk (by simp [World.setCell, Array.getElem?_modify, hb])
                have BR4 : Aside0 (((w3.setCell ⟨w.heap.size, 1, none⟩ (.int .i64 jm)).setCell ⟨w.heap.size, 2, none⟩ (.int .i64 jx)).heap[w.heap.size + 1]? = some (.cells #[.int .i64 0, .int .i64 0, .int .i64 0, .int .i64 0] 46 (0, 0))) := by
                  have hb := BR3.out
                  exact Aside0.mk (by simp [World.setCell, Array.getElem?_modify, hb])
                have BP5 : Aside0 (w5.heap[w.heap.size]? = some (.cells #[.int .i64 q.f0, .int .i64 jm, .int .i64 jx, .int .i64 q.f2] 46 (0, 0))) := ⟨blk_below BP4.out hb5⟩
                have BR5 : Aside0 (w5.heap[w.heap.size + 1]? = some (.cells #[.int .i64 0, .int .i64 0, .int .i64 0, .int .i64 0] 46 (0, 0))) := ⟨blk_below BR4.out hb5⟩
                have BX5 : Aside0 (w5.heap[wr.heap.size]? = some (.cells #[.int .i64 x.f0, .int .i64 x.f1.f0, .int .i64 x.f1.f1, .int .i64 x.f2] 46 (0, 0))) := by
                  have hb := BX3.out
                  have hne1 : w.heap.size ≠ wr.heap.size := by omega
                  exact Aside0.mk (blk_below (by simp [World.setCell, Array.getElem?_modify, hb, hne1]) hb5)
                have HH5 : Aside0 (Held w w5 A0 c0 l0 (.slice (some ad) l.length c) l) := ⟨held_below (held_set (held_set HH3.out _ _ (by omega) _) _ _ (by omega) _) hb5⟩
                have HW5 : Aside0 (Below w.heap.size w w5) := ⟨below_step (below_set (below_set HW3.out (Nat.le_refl _)) (Nat.le_refl _)) hb5⟩
                have HH6 : Aside0 (Held w (w5.setCell ⟨w.heap.size, 3, none⟩ (.int .i64 am)) A0 c0 l0 (.slice (some ad) l.length c) l) := ⟨held_set HH5.out _ _ (by omega) _⟩
                have HW6 : Aside0 (Below w.heap.size w (w5.setCell ⟨w.heap.size, 3, none⟩ (.int .i64 am))) := ⟨below_set HW5.out (Nat.le_refl _)⟩
                have BP6 : Aside0 ((w5.setCell ⟨w.heap.size, 3, none⟩ (.int .i64 am)).heap[w.heap.size]? = some (.cells #[.int .i64 q.f0, .int .i64 jm, .int .i64 jx, .int .i64 am] 46 (0, 0))) := by
                  have hb := BP5.out
                  exact Aside0.mk (by simp [World.setCell, Array.getElem?_modify, hb])
                have BR6 : Aside0 ((w5.setCell ⟨w.heap.size, 3, none⟩ (.int .i64 am)).heap[w.heap.size + 1]? = some (.cells #[.int .i64 0, .int .i64 0, .int .i64 0, .int .i64 0] 46 (0, 0))) := by
                  have hb := BR5.out
                  exact Aside0.mk (by simp [World.setCell, Array.getElem?_modify, hb])
                have hcl := clone46 (some ad) c l (w5.setCell ⟨w.heap.size, 3, none⟩ (.int .i64 am)) (held_C HR0.out HW6.out HH6.out) hlc hlm
                have hs6 : Aside0 ((w5.setCell ⟨w.heap.size, 3, none⟩ (.int .i64 am)).heap.size = w5.heap.size ∧ w.heap.size + 1 < w5.heap.size) := ⟨by simp [World.setCell], blk_lt BR5.out⟩
                clear hb5 hp0 hp1 hp2 hp3 hx1 hx2 hx3 hpf1 hpf2
                have hp1 : w5.cell? ⟨w.heap.size, 1, none⟩ = some (.int .i64 jm) := (blk_cell BP5.out 1).trans rfl
                have hp3 : w5.cell? ⟨w.heap.size, 3, none⟩ = some (.int .i64 q.f2) := (blk_cell BP5.out 3).trans rfl
                have hpf3 := blk_frozen BP5.out 3)
             | (go_at_call 34
                refine hcl.mono ?_
                rintro e w7 ⟨v, rfl, hR7, hB7⟩
                obtain ⟨g, cap, rfl, hgb, hgl, cells, hcells⟩ := Kd.R_form hR7 (by omega)
                have hdel := delete46 i hR7 hlt hlm
                have HR7 := Aside0.mk hR7
                have HB7 := Aside0.mk hB7
                have HG7 := Aside0.mk hgb
                clear hR7 hB7 hgb hcells hcl)
             | (go_at_call 48
                refine hdel.mono ?_
                rintro e w8 ⟨rfl, hR8, hB8⟩
                have HR8 := Aside0.mk hR8
                have HB8 := Aside0.mk hB8
                clear hR8 hB8))
            go_roundg (l.length - 1)
            case measure => omega
            case rel =>
              have hlen : (l.eraseIdx i).length = l.length - 1 := List.length_eraseIdx_of_lt hlt
              have hs1 := hs6.out.1
              have hs2 := hs6.out.2
              have hg7 := HG7.out
              have hB7 := HB7.out
              have hB8 := HB8.out
              have hR8 := HR8.out
              rw [hs1] at hg7 hB7 hR8
              have hcap : l.length - 1 ≤ cap := by
                have h := Kd.R_reads' hR8
                exact h.2.1
              have hW7 : Below w.heap.size w w7 := (HW6.out).trans (hB7.mono (by omega))
              have hW8 : Below w.heap.size w w8 := hW7.trans (hB8.mono (by omega))
              have hHeld : Held w w8 A0 c0 l0 (.slice (some ⟨g, 0, none⟩) (l.eraseIdx i).length cap) (l.eraseIdx i) := by
                rw [hlen]
                refine Or.inr ?_
                exact Kd.R_mono (Kd.R_lower (base' := w.heap.size) (Kd.R_bound hR8) (by omega)) (fun k hk => by have h1 := hk.2.1; omega)
              refine ⟨joinP a q x, l.eraseIdx i, some ⟨g, 0, none⟩, cap, by rw [hlen], by omega, by omega, by omega, ⟨hHeld⟩, ⟨held_C HR0.out hW8 hHeld⟩, ⟨?_⟩, ⟨?_⟩, ⟨hW8⟩, ⟨?_⟩⟩
              · have h1 := hB8.block w.heap.size (by omega)
                have h2 := hB7.block w.heap.size (by omega)
                rw [h1, h2, BP6.out]
                show _ = some (Obj.cells #[.int .i64 q.f0, .int .i64 (mn q.f1.f0 x.f1.f0), .int .i64 (mx q.f1.f1 x.f1.f1), .int .i64 (aggMerge a q.f2 x.f2)] 46 (0, 0))
                rw [HJ.out.1, HJ.out.2, HAM.out]
              · have h1 := hB8.block (w.heap.size + 1) (by omega)
                have h2 := hB7.block (w.heap.size + 1) (by omega)
                rw [h1, h2, BR6.out]
              · rw [← HE.out, hlen, show l.length - 1 + 1 = l.length by omega, absorbF]
                have hf : l.findIdx? (hitP q) = some i := by
                  rw [List.findIdx?_eq_some_iff_getElem]
                  refine ⟨hlt, ?_, fun j hj => ?_⟩
                  · rw [← HX.out]; unfold hitP; rw [hkb2.out, HV.out]; rfl
                  · rw [HN.out j (by omega) hj]; simp
                rw [hf]
                have hx : l.getD i z46 = x := by rw [HX.out]; simp [hlt]
                show absorbF a l.length (joinP a q x) (l.eraseIdx i) = absorbF a l.length (joinP a q (l.getD i z46)) (l.eraseIdx i)
                rw [hx]
        · have hkb : (x.f0 == q.f0) = false := beq_eq_false_iff_ne.2 hk
          go_wp2
          go_roundg (l.length - (i + 1))
          case measure => omega
          case rel =>
            refine ⟨i + 1, rfl, by first | rfl | go_num | (congr 1; omega), by omega, Nat.le_refl _, ⟨fun j h hj => ?_⟩, ⟨?_⟩, ⟨Kd.C_alloc HC.out _⟩, ⟨blk_alloc BP.out _⟩, ⟨blk_alloc BR.out _⟩, ⟨below_alloc HB.out _⟩⟩
            · rcases Nat.lt_or_ge j i with h1 | h1
              · exact HN.out j h h1
              · obtain rfl : j = i := by omega
                rw [← HX.out]; unfold hitP; rw [hkb]; rfl
            · rcases HH.out with h | h
              · exact Or.inl h
              · exact Or.inr (Kd.R_alloc h _)
      · have hltz : ¬ (i : Int) < (l.length : Int) := by omega
        have hp0 : wr.cell? ⟨w.heap.size, 0, none⟩ = some (.int .i64 q.f0) := (blk_cell BP.out 0).trans rfl
        have hp1 : wr.cell? ⟨w.heap.size, 1, none⟩ = some (.int .i64 q.f1.f0) := (blk_cell BP.out 1).trans rfl
        have hp2 : wr.cell? ⟨w.heap.size, 2, none⟩ = some (.int .i64 q.f1.f1) := (blk_cell BP.out 2).trans rfl
        have hp3 : wr.cell? ⟨w.heap.size, 3, none⟩ = some (.int .i64 q.f2) := (blk_cell BP.out 3).trans rfl
        have hq0 : wr.cell? ⟨w.heap.size + 1, 0, none⟩ = some (.int .i64 0) := (blk_cell BR.out 0).trans rfl
        have hf0 := blk_frozen BR.out 0
        have hq1 : wr.cell? ⟨w.heap.size + 1, 1, none⟩ = some (.int .i64 0) := (blk_cell BR.out 1).trans rfl
        have hf1 := blk_frozen BR.out 1
        have hq2 : wr.cell? ⟨w.heap.size + 1, 2, none⟩ = some (.int .i64 0) := (blk_cell BR.out 2).trans rfl
        have hf2 := blk_frozen BR.out 2
        have hq3 : wr.cell? ⟨w.heap.size + 1, 3, none⟩ = some (.int .i64 0) := (blk_cell BR.out 3).trans rfl
        have hf3 := blk_frozen BR.out 3
        have e : absorbP a p l0 = (q, l) := by
          rw [← HE.out, absorbF]
          have hn : l.findIdx? (hitP q) = none := by
            rw [List.findIdx?_eq_none_iff]
            intro x hx
            obtain ⟨j, hj, rfl⟩ := List.getElem_of_mem hx
            exact HN.out j hj (by omega)
          rw [hn]
        have E := Aside0.mk e
        clear e
        have hB4 : Aside0 (((((wr.setCell ⟨w.heap.size + 1, 0, none⟩ (.int .i64 q.f0)).setCell ⟨w.heap.size + 1, 1, none⟩ (.int .i64 q.f1.f0)).setCell ⟨w.heap.size + 1, 2, none⟩ (.int .i64 q.f1.f1)).setCell ⟨w.heap.size + 1, 3, none⟩ (.int .i64 q.f2)).heap[w.heap.size + 1]? = some (.cells #[.int .i64 q.f0, .int .i64 q.f1.f0, .int .i64 q.f1.f1, .int .i64 q.f2] 46 (0, 0))) := by
          have hb := BR.out
          exact Aside0.mk (by simp [World.setCell, Array.getElem?_modify, hb])
        go_wp2
        have hX4 : Aside0 (Held w ((((wr.setCell ⟨w.heap.size + 1, 0, none⟩ (.int .i64 q.f0)).setCell ⟨w.heap.size + 1, 1, none⟩ (.int .i64 q.f1.f0)).setCell ⟨w.heap.size + 1, 2, none⟩ (.int .i64 q.f1.f1)).setCell ⟨w.heap.size + 1, 3, none⟩ (.int .i64 q.f2)) A0 c0 l0 (.slice A l.length c) l ∧ Below w.heap.size w ((((wr.setCell ⟨w.heap.size + 1, 0, none⟩ (.int .i64 q.f0)).setCell ⟨w.heap.size + 1, 1, none⟩ (.int .i64 q.f1.f0)).setCell ⟨w.heap.size + 1, 2, none⟩ (.int .i64 q.f1.f1)).setCell ⟨w.heap.size + 1, 3, none⟩ (.int .i64 q.f2))) := by
          refine Aside0.mk ⟨?_, below_set (below_set (below_set (below_set HB.out (by omega)) (by omega)) (by omega)) (by omega)⟩
          rcases HH.out with h | h
          · exact Or.inl h
          · exact Or.inr (Kd.R_far (Kd.R_far (Kd.R_far (Kd.R_far h (fun k hk he => by have h1 : w.heap.size + 2 ≤ k := hk; have h2 : k = w.heap.size + 1 := he; omega) _) (fun k hk he => by have h1 : w.heap.size + 2 ≤ k := hk; have h2 : k = w.heap.size + 1 := he; omega) _) (fun k hk he => by have h1 : w.heap.size + 2 ≤ k := hk; have h2 : k = w.heap.size + 1 := he; omega) _) (fun k hk he => by have h1 : w.heap.size + 2 ≤ k := hk; have h2 : k = w.heap.size + 1 := he; omega) _)
        generalize ((((wr.setCell ⟨w.heap.size + 1, 0, none⟩ (.int .i64 q.f0)).setCell ⟨w.heap.size + 1, 1, none⟩ (.int .i64 q.f1.f0)).setCell ⟨w.heap.size + 1, 2, none⟩ (.int .i64 q.f1.f1)).setCell ⟨w.heap.size + 1, 3, none⟩ (.int .i64 q.f2)) = w4 at hB4 hX4 ⊢
        have hc0 : w4.cell? ⟨w.heap.size + 1, 0, none⟩ = some (.int .i64 q.f0) := (blk_cell hB4.out 0).trans rfl
        have hc1 : w4.cell? ⟨w.heap.size + 1, 1, none⟩ = some (.int .i64 q.f1.f0) := (blk_cell hB4.out 1).trans rfl
        have hc2 : w4.cell? ⟨w.heap.size + 1, 2, none⟩ = some (.int .i64 q.f1.f1) := (blk_cell hB4.out 2).trans rfl
        have hc3 : w4.cell? ⟨w.heap.size + 1, 3, none⟩ = some (.int .i64 q.f2) := (blk_cell hB4.out 3).trans rfl
        refine bodyPost_ret (v := .tuple #[.agg #[.int .i64 q.f0, .int .i64 q.f1.f0, .int .i64 q.f1.f1, .int .i64 q.f2], .slice A l.length c]) (by simp [results, Try.results36, go_sem, hc0, hc1, hc2, hc3]) rfl ?_
        rw [E.out]
        exact ⟨_, rfl, hX4.out.1, hX4.out.2⟩
end Go.Proofs.Ytdinbnbogdadgaa.X
namespace Go.Proofs.Ytdinbnbogdadgaa.X
open Go.Shelf Go.RowKit Go.Lib Go.Sort Go.Proofs Go.Proofs.YtdinbnbogdadgaaW.PrintWords Go.Proofs.Ytdinbnbogdadgaa.So Go.Proofs.Ytdinbnbogdadgaa
set_option linter.unusedVariables false
set_option linter.unusedSimpArgs false
def sameP (p x : S46) : Bool := x.f0 == p.f0 && (x.f1.f0 == p.f1.f0 && x.f1.f1 == p.f1.f1)
def idxP (p : S46) (l : List S46) : Int := match l.findIdx? (sameP p) with
 | none => -1
 | some i => (i : Int)
set_option maxHeartbeats 2000000 in
theorem same39 (p x : S46) (g : Nat) (w : World) (hb : w.heap[g]? = some (.cells #[.int .i64 p.f0, .int .i64 p.f1.f0, .int .i64 p.f1.f1, .int .i64 p.f2] 46 (0, 0))) :
  Calls Try.prog 39 #[.agg #[.int .i64 x.f0, .int .i64 x.f1.f0, .int .i64 x.f1.f1, .int .i64 x.f2], .pointer (some ⟨g, 0, none⟩)] w fun e w' => e = .returned (.bool (sameP p x)) ∧ Below w.heap.size w w' := by
 have hu46 := Try.underlying46
 have hu31 := Try.underlying31
 have HB := Aside0.mk hb
 have hlt := blk_lt hb
 have hp0 : w.cell? ⟨g, 0, none⟩ = some (.int .i64 p.f0) := (blk_cell HB.out 0).trans rfl
 have hp1 : w.cell? ⟨g, 1, none⟩ = some (.int .i64 p.f1.f0) := (blk_cell HB.out 1).trans rfl
 have hp2 : w.cell? ⟨g, 2, none⟩ = some (.int .i64 p.f1.f1) := (blk_cell HB.out 2).trans rfl
 have hp3 : w.cell? ⟨g, 3, none⟩ = some (.int .i64 p.f2) := (blk_cell HB.out 3).trans rfl
 clear hb
 cases h0 : (x.f0 == p.f0) with
 | false =>
  have hs : Aside0 (sameP p x = false) := ⟨by simp [sameP, h0]⟩
  go_enter Try.func39, Try.ntmps39
  go_wp2
  go_ret
  exact ⟨by rw [hs.out]; rfl, below_alloc (Below.refl _ _) _⟩
 | true =>
  cases h1 : (x.f1.f0 == p.f1.f0) with
  | false =>
   have hs : Aside0 (sameP p x = false) := ⟨by simp [sameP, h1]⟩
   go_enter Try.func39, Try.ntmps39
   go_wp2
   go_ret
   exact ⟨by rw [hs.out]; rfl, below_alloc (Below.refl _ _) _⟩
  | true =>
   cases h2 : (x.f1.f1 == p.f1.f1) with
   | false =>
    have hs : Aside0 (sameP p x = false) := ⟨by simp [sameP, h2]⟩
    go_enter Try.func39, Try.ntmps39
    go_wp2
    all_goals
     go_ret
     exact ⟨by rw [hs.out]; first | rfl | simp_all, below_alloc (Below.refl _ _) _⟩
   | true =>
    have hs : Aside0 (sameP p x = true) := ⟨by simp [sameP, h0, h1, h2]⟩
    go_enter Try.func39, Try.ntmps39
    go_wp2
    all_goals
     go_ret
     exact ⟨by rw [hs.out]; first | rfl | simp_all, below_alloc (Below.refl _ _) _⟩
set_option maxHeartbeats 4000000 in
theorem index38 (p : S46) (g : Nat) (A : Option Addr) (c : Nat) (l : List S46) (w : World) (hr : Kd.C k46 w A l.length l) (hb : w.heap[g]? = some (.cells #[.int .i64 p.f0, .int .i64 p.f1.f0, .int .i64 p.f1.f1, .int .i64 p.f2] 46 (0, 0))) (hl : l.length < 4398046511104) :
  Calls Try.prog 38 #[.slice A l.length c, .func (.func 39) #[] #[.pointer (some ⟨g, 0, none⟩)]] w fun e w' => e = .returned (.int .i64 (idxP p l)) ∧ Below w.heap.size w w' := by
 have hu46 := Try.underlying46
 have hu35 := Try.underlying35
 have HR := Aside0.mk hr
 have HB := Aside0.mk hb
 clear hr hb
 go_enter Try.func38, Try.ntmps38
 go_wp2
 go_loopg [4, 8, 5] l.length (fun ky s4 s8 s5 wr => ∃ i : Nat, s8 = .int .i64 i ∧ i ≤ l.length ∧ l.length - i ≤ ky ∧ Aside0 (∀ j (h : j < l.length), j < i → sameP p l[j] = false) ∧ Aside0 (Below w.heap.size w wr))
 case atStart => exact ⟨0, rfl, Nat.zero_le _, Nat.le_refl _, ⟨fun j _ h => absurd h (by omega)⟩, ⟨Below.refl _ _⟩⟩
 case round =>
  obtain ⟨i, rfl, hil, hky, HN, HW⟩ := hrel
  by_cases hlt : i < l.length
  ·have hltz : (i : Int) < (l.length : Int) := by omega
   obtain ⟨ad, e, hx0, hx1, hx2, hx3⟩ := at_T46 (Kd.C_below HR.out HW.out) (i : Int) (by omega) (by omega)
   cases e
   obtain ⟨x, HX⟩ : ∃ x, Aside0 (x = l[i]) := ⟨_, ⟨rfl⟩⟩
   have er : rd_T46 l (i : Int) = x := by rw [HX.out]; simp [rd_T46, hlt]
   rw [er] at hx0 hx1 hx2 hx3
   simp only [Int.toNat_natCast] at hx0 hx1 hx2 hx3
   clear er
   have hsm := same39 p x g wr (blk_below HB.out HW.out)
   cases hv : sameP p x with
   | false =>
    rw [hv] at hsm
    go_wp2_with (go_at_call 39; refine hsm.mono ?_; rintro e w3 ⟨rfl, hb3⟩)
    have HB3 := Aside0.mk hb3
    clear hb3
    go_roundg (l.length - (i + 1))
    case measure => omega
    case rel =>
     refine ⟨i + 1, by first | rfl | go_num | (congr 1; omega), by omega, Nat.le_refl _, ⟨fun j h hj => ?_⟩, ⟨below_step HW.out HB3.out⟩⟩
     rcases Nat.lt_or_ge j i with h1 | h1
     ·exact HN.out j h h1
     ·obtain rfl : j = i := by omega
      rw [← HX.out]; exact hv
   | true =>
    rw [hv] at hsm
    go_wp2_with (go_at_call 39; refine hsm.mono ?_; rintro e w3 ⟨rfl, hb3⟩)
    have HB3 := Aside0.mk hb3
    clear hb3
    go_ret
    refine ⟨?_, below_step HW.out HB3.out⟩
    have hf : l.findIdx? (sameP p) = some i := by
     rw [List.findIdx?_eq_some_iff_getElem]
     refine ⟨hlt, ?_, fun j hj => ?_⟩
     ·rw [← HX.out]; exact hv
     ·rw [HN.out j (by omega) hj]; simp
    unfold idxP
    rw [hf]
    rfl
  ·have hltz : ¬ (i : Int) < (l.length : Int) := by omega
   go_wp2
   go_ret
   refine ⟨?_, HW.out⟩
   have hf : l.findIdx? (sameP p) = none := by
    rw [List.findIdx?_eq_none_iff]
    intro x hx
    obtain ⟨j, hj, rfl⟩ := List.getElem_of_mem hx
    exact HN.out j hj (by omega)
   unfold idxP
   rw [hf]
   rfl
end Go.Proofs.Ytdinbnbogdadgaa.X
namespace Go.Proofs.Ytdinbnbogdadgaa.X
open Go.Shelf Go.RowKit Go.Lib Go.Sort Go.Proofs Go.Proofs.YtdinbnbogdadgaaW.PrintWords Go.Proofs.YtdinbnbogdadgaaW.PrintLast Go.Proofs.YtdinbnbogdadgaaW.PrintMore Go.Proofs.Ytdinbnbogdadgaa.So Go.Proofs.Ytdinbnbogdadgaa
set_option linter.unusedVariables false
set_option linter.unusedSimpArgs false
def stepP (kind a key val : Int) (out : List S46) (s : S31) : List S46 :=
 if kind = 3 then
  (absorbP a ⟨key, s, aggZero a⟩ out).2 ++ [⟨(absorbP a ⟨key, s, aggZero a⟩ out).1.f0, (absorbP a ⟨key, s, aggZero a⟩ out).1.f1, aggAdd a (absorbP a ⟨key, s, aggZero a⟩ out).1.f2 val⟩]
 else match out.findIdx? (sameP ⟨key, s, aggZero a⟩) with
  | none => out ++ [⟨key, s, aggAdd a (aggZero a) val⟩]
  | some i => out.set i ⟨(out.getD i z46).f0, (out.getD i z46).f1, aggAdd a (out.getD i z46).f2 val⟩
def window_Put.f (k : Nat) (a0_0 a0_1 a0_2 a1 : Int) (l2 : List S46) (a3_0 a3_1 a3_2 : Int) : Option (List S46) :=
 (window_Spans.f k a0_0 a0_1 a0_2 a3_1).bind fun ss => if l2.length + ss.length < 4398046511104 then some (sortP (ss.foldl (stepP a0_0 a1 a3_0 a3_2) l2)) else none
theorem absorbF_len (a : Int) : ∀ (k : Nat) (p : S46) (l : List S46), (absorbF a k p l).2.length ≤ l.length
 | 0, p, l => Nat.le_refl _
 | k + 1, p, l => by
  rw [absorbF]
  cases h : l.findIdx? (hitP p) with
  | none => exact Nat.le_refl _
  | some i =>
   have h1 := absorbF_len a k (joinP a p (l.getD i z46)) (l.eraseIdx i)
   have h2 := List.length_eraseIdx_le l i
   exact Nat.le_trans h1 h2
def window_Put.T5 : Bool × List (List Nat × List Nat) := (true, [([], []), ([0], [0]), ([], []), ([], []), ([3], [3]), ([1, 2, 4], [1, 2, 4]), ([], []), ([6, 5, 4, 0, 1, 2, 3, 4, 5, 6], [5, 6])])
def window_Put.B5 : List Nat := [0, 1, 0, 0, 8, 31, 0, 127]
theorem window_Put.tab5 : rtab .any (opsOf Try.f18 5) = window_Put.T5 := by kernel_rfl
theorem window_Put.bits5 : waitsOk window_Put.T5.2 window_Put.B5 = true := by kernel_rfl
def window_Put.T14 : Bool × List (List Nat × List Nat) := (true, [([], []), ([], []), ([], []), ([], []), ([], []), ([3, 4], [3, 4]), ([5], [5]), ([6], [6]), ([], []), ([8], [8]), ([2, 7, 9], [2, 7, 9]), ([0, 1, 0, 1, 2, 3, 4, 5, 6, 7, 8, 9, 10], [0, 1]), ([11, 0, 1, 2, 3, 4, 5, 6, 7, 8, 9, 10], [11]), ([12, 10, 10, 0, 1, 2, 3, 4, 5, 6, 7, 8, 9, 10], [10, 12])])
def window_Put.B14 : List Nat := [0, 0, 0, 0, 0, 24, 56, 120, 0, 256, 1020, 2047, 4095, 8191]
theorem window_Put.tab14 : rtab .any (opsOf Try.f18 14) = window_Put.T14 := by kernel_rfl
theorem window_Put.bits14 : waitsOk window_Put.T14.2 window_Put.B14 = true := by kernel_rfl
set_option maxHeartbeats 8000000 in
set_option maxRecDepth 100000 in
theorem window_Put.calls (k : Nat) (a0_0 a0_1 a0_2 a1 : Int) (A2 : Option Addr) (c2 : Nat) (l2 : List S46) (a3_0 a3_1 a3_2 : Int) (r : List S46) (w : World) (hr2 : Kd.C k46 w A2 l2.length l2) (hc2 : l2.length ≤ c2) (h : window_Put.f k a0_0 a0_1 a0_2 a1 l2 a3_0 a3_1 a3_2 = some r) :
    Calls Try.prog 18 #[.agg #[.int .i64 a0_0, .int .i64 a0_1, .int .i64 a0_2], .int .i64 a1, .slice A2 l2.length c2, .agg #[.int .i64 a3_0, .int .i64 a3_1, .int .i64 a3_2]] w fun e w' => ∃ v0_ : Value, e = .returned (v0_) ∧ Kd.R k46 46 w' w.heap.size (fun _ => True) v0_ r ∧ Below w.heap.size w w' := by
  have hu46 := Try.underlying46
  have hu35 := Try.underlying35
  have hu31 := Try.underlying31
  have hu23 := Try.underlying23
  have hu37 := Try.underlying37
  rw [window_Put.f] at h
  obtain ⟨ss, HS0, h⟩ := Option.bind_eq_some_iff.mp h
  have hlen : l2.length + ss.length < 4398046511104 := by
    by_cases c : l2.length + ss.length < 4398046511104
    · exact c
    · rw [if_neg c] at h; cases h
  rw [if_pos hlen] at h
  obtain rfl := Option.some.inj h
  clear h
  have HS := Aside0.mk HS0
  have HR2 := Aside0.mk hr2
  clear HS0 hr2
  have hsp := fun w' => window_Spans.calls k a0_0 a0_1 a0_2 a3_1 ss w' HS.out
  have hcl := fun w' h' => clone46 A2 c2 l2 w' h' hc2 (by omega)
  go_enter Try.func18, Try.ntmps18
  go_wp2_with (first
    | (go_at_call 34
       refine (hcl _ (Kd.C_alloc (Kd.C_alloc HR2.out _) _)).mono ?_
       rintro e w1 ⟨v1, rfl, hR1, hB1⟩
       have BW1 : Aside0 (w1.heap[w.heap.size]? = some (.cells #[.int .i64 a0_0, .int .i64 a0_1, .int .i64 a0_2] 23 (0, 0))) := ⟨blk_below (blk_alloc (blk_new w _) _) hB1⟩
       have BC1 : Aside0 (w1.heap[w.heap.size + 1]? = some (.cells #[.int .i64 a3_0, .int .i64 a3_1, .int .i64 a3_2] 37 (0, 0))) := by
         have h := blk_below (blk_new (w.alloc (.cells #[.int .i64 a0_0, .int .i64 a0_1, .int .i64 a0_2] 23)) (.cells #[.int .i64 a3_0, .int .i64 a3_1, .int .i64 a3_2] 37 (0, 0))) hB1
         exact ⟨by simpa using h⟩
       have HB1 : Aside0 (Below w.heap.size w w1) := ⟨below_step (below_alloc (below_alloc (Below.refl _ _) _) _) hB1⟩
       have HR1 : Aside0 (Kd.R k46 46 w1 (w.heap.size + 2) (fun k => w.heap.size + 2 ≤ k) v1 l2) := by
         have h := Kd.R_bound hR1
         exact ⟨Kd.R_mono (Kd.R_lower (base' := w.heap.size + 2) h (by simp)) (fun k hk => by have h3 := hk.2.1; simp at h3; omega)⟩
       clear hR1 hB1
       have hw0 : w1.cell? ⟨w.heap.size, 0, none⟩ = some (.int .i64 a0_0) := (blk_cell BW1.out 0).trans rfl
       have hw1 : w1.cell? ⟨w.heap.size, 1, none⟩ = some (.int .i64 a0_1) := (blk_cell BW1.out 1).trans rfl
       have hw2 : w1.cell? ⟨w.heap.size, 2, none⟩ = some (.int .i64 a0_2) := (blk_cell BW1.out 2).trans rfl
       have hrc1 : w1.cell? ⟨w.heap.size + 1, 1, none⟩ = some (.int .i64 a3_1) := (blk_cell BC1.out 1).trans rfl)
    | (go_at_call 15
       refine (hsp _).mono ?_
       rintro e w2 ⟨v2, rfl, hR2, hB2⟩
       have BW2 : Aside0 (w2.heap[w.heap.size]? = some (.cells #[.int .i64 a0_0, .int .i64 a0_1, .int .i64 a0_2] 23 (0, 0))) := ⟨blk_below BW1.out hB2⟩
       have BC2 : Aside0 (w2.heap[w.heap.size + 1]? = some (.cells #[.int .i64 a3_0, .int .i64 a3_1, .int .i64 a3_2] 37 (0, 0))) := ⟨blk_below BC1.out hB2⟩
       have HB2 : Aside0 (Below w.heap.size w w2) := ⟨below_step HB1.out hB2⟩
       obtain ⟨As, cs, rfl⟩ := Kd.R_slice hR2
       have HF2 : Aside0 (Kd.F k31 w2 (fun k => w1.heap.size ≤ k ∧ k < w2.heap.size) As ss.length ss) := ⟨Kd.F_mono (Kd.R_F (Kd.R_bound hR2)) (fun k hk => ⟨hk.2.1, hk.2.2.1⟩)⟩
       have HR2' : Aside0 (Kd.R k46 46 w2 w.heap.size (fun k => ¬ (w1.heap.size ≤ k ∧ k < w2.heap.size) ∧ w.heap.size + 2 ≤ k) v1 l2) := ⟨Kd.R_mono (Kd.R_lower (Kd.R_below (Kd.R_bound HR1.out) hB2) (by omega)) (fun k hk => ⟨fun h => by have := hk.2.2.1; omega, hk.1⟩)⟩
       have HS2 : Aside0 (w.heap.size + 2 ≤ w1.heap.size ∧ w1.heap.size ≤ w2.heap.size) := ⟨by have := blk_lt BC1.out; omega, hB2.size⟩
       clear hR2 hB2 BW1 BC1 HB1 HR1 hw0 hw1 hw2 hrc1))
  obtain ⟨N1, hN1⟩ : ∃ n, n = w1.heap.size := ⟨_, rfl⟩
  obtain ⟨N2, hN2⟩ : ∃ n, n = w2.heap.size := ⟨_, rfl⟩
  rw [← hN1, ← hN2] at HF2 HR2' HS2
  have HN2 := Aside0.mk hN2
  clear hN1 hN2 hcl hsp
  go_loopg [9, 21] ss.length (fun kx s9 s21 wr => ∃ (i : Nat) (out : List S46), s21 = .int .i64 i ∧ i ≤ ss.length ∧ ss.length - i ≤ kx ∧ out.length ≤ l2.length + i ∧ Aside0 ((ss.drop i).foldl (stepP a0_0 a1 a3_0 a3_2) out = ss.foldl (stepP a0_0 a1 a3_0 a3_2) l2) ∧
    Aside0 (Kd.R k46 46 wr w.heap.size (fun k => ¬ (N1 ≤ k ∧ k < N2) ∧ w.heap.size + 2 ≤ k) s9 out) ∧ Aside0 (Kd.F k31 wr (fun k => N1 ≤ k ∧ k < N2) As ss.length ss) ∧
    Aside0 (wr.heap[w.heap.size]? = some (.cells #[.int .i64 a0_0, .int .i64 a0_1, .int .i64 a0_2] 23 (0, 0))) ∧ Aside0 (wr.heap[w.heap.size + 1]? = some (.cells #[.int .i64 a3_0, .int .i64 a3_1, .int .i64 a3_2] 37 (0, 0))) ∧ Aside0 (Below w.heap.size w wr) ∧ Aside0 (N2 ≤ wr.heap.size))
  case atStart => exact ⟨0, l2, rfl, Nat.zero_le _, Nat.le_refl _, Nat.le_refl _, ⟨rfl⟩, HR2', HF2, BW2, BC2, HB2, ⟨by rw [HN2.out]; exact Nat.le_refl _⟩⟩
  case round =>
    obtain ⟨i, out, rfl, hil, hky, hol, HE, HO, HF, BW, BC, HB, HM⟩ := hrel
    clear HF2 HR2' BW2 BC2 HB2 HN2
    obtain ⟨Ao, co, rfl⟩ := Kd.R_slice HO.out
    by_cases hlt : i < ss.length
    · have hltz : (i : Int) < (ss.length : Int) := by omega
      obtain ⟨ad, e, hs0, hs1⟩ := at_T31 (Kd.F_now HF.out) (i : Int) (by omega) (by omega)
      cases e
      obtain ⟨s, HX⟩ : ∃ s, Aside0 (s = ss[i]) := ⟨_, ⟨rfl⟩⟩
      have er : rd_T31 ss (i : Int) = s := by rw [HX.out]; simp [rd_T31, hlt]
      rw [er] at hs0 hs1
      simp only [Int.toNat_natCast] at hs0 hs1
      clear er
      go_wp2_with fail
      have BN : Aside0 ((wr.alloc (.cells #[.int .i64 s.f0, .int .i64 s.f1] 31)).heap[wr.heap.size]? = some (.cells #[.int .i64 s.f0, .int .i64 s.f1] 31 (0, 0))) := ⟨blk_new wr _⟩
      have BQ : Aside0 (((wr.alloc (.cells #[.int .i64 s.f0, .int .i64 s.f1] 31)).alloc (.cells #[.int .i64 0, .int .i64 0, .int .i64 0, .int .i64 0] 46 (0, 0))).heap[wr.heap.size + 1]? = some (.cells #[.int .i64 0, .int .i64 0, .int .i64 0, .int .i64 0] 46 (0, 0))) := by
        have h := blk_new (wr.alloc (.cells #[.int .i64 s.f0, .int .i64 s.f1] 31)) (.cells #[.int .i64 0, .int .i64 0, .int .i64 0, .int .i64 0] 46 (0, 0))
        exact ⟨by simpa using h⟩
      have hz := fun w' => agg_Zero.calls a1 (aggZero a1) w' rfl
      have hrk : wr.cell? ⟨w.heap.size + 1, 0, none⟩ = some (.int .i64 a3_0) := (blk_cell BC.out 0).trans rfl
      have hsz1 := blk_lt BC.out
      go_cut [12] from 22 to 76 (fun s12 wx => ∃ g, s12 = .pointer (some ⟨g, 0, none⟩) ∧ Aside0 (wr.heap.size ≤ g) ∧ Aside0 (wx.heap[g]? = some (.cells #[.int .i64 a3_0, .int .i64 s.f0, .int .i64 s.f1, .int .i64 (aggZero a1)] 46 (0, 0))) ∧ Aside0 (Below wr.heap.size wr wx))
      case first =>
        clear HE HO HF BW HB HM HS2 HS hil hky hol hlt hltz hs0 hs1 HX hlen hc2 h HR2 BQ hrk
        have BCa := Aside0.mk (blk_alloc BC.out (.cells #[.int .i64 s.f0, .int .i64 s.f1] 31))
        have BNa := BN
        have HBa := Aside0.mk (below_alloc (Below.refl wr.heap.size wr) (.cells #[.int .i64 s.f0, .int .i64 s.f1] 31))
        refine start_ (n := 8) (S := fun w' => w'.cell? ⟨w.heap.size + 1, 0, none⟩ = some (.int .i64 a3_0) ∧ w'.cell? ⟨wr.heap.size, 0, none⟩ = some (.int .i64 s.f0) ∧ w'.cell? ⟨wr.heap.size, 1, none⟩ = some (.int .i64 s.f1)) (ds := [7]) #[false, false, false, false, false, false, false, false] (by kernel_rfl) rfl rfl ⟨(blk_cell BCa.out 0).trans rfl, (blk_cell BNa.out 0).trans rfl, (blk_cell BNa.out 1).trans rfl⟩ (fun hHeld => ?_); refine with_tabW window_Put.tab5 window_Put.bits5 (fun HT_ HW_ => ?_)
        have BCd := Aside0.mk (blk_drew BCa.out)
        have BNd := Aside0.mk (blk_drew BNa.out)
        have HBd := Aside0.mk (below_drew1 HBa.out)
        clear BCa BNa HBa
        generalize (wr.alloc (.cells #[.int .i64 s.f0, .int .i64 s.f1] 31)).drew = w18 at BCd BNd HBd hHeld ⊢
        refine pure_ (i := 0) (N := some 25) (v := ?_) (a' := ?_) #[true, false, false, false, false, false, false, false] rfl rfl (any_of HT_.out (by kernel_rfl)) (fun _ _ _ h => h) (Or.inl ⟨by rfl, ?_⟩) ?_ ?_
        rotate_left
        · intro w'
          go_simp
          with_reducible rfl
        rotate_left
        · simp only [Act.put, List.setIfInBounds_toArray, List.set_cons_zero, List.set_cons_succ, i64_w, i32_w]
          rfl
        refine pure_ (i := 3) (N := some 28) (v := ?_) (a' := ?_) #[true, false, false, true, false, false, false, false] rfl rfl (any_of HT_.out (by kernel_rfl)) (fun _ _ _ h => h) (Or.inl ⟨by rfl, ?_⟩) ?_ ?_
        rotate_left
        · intro w'
          go_simp
          with_reducible rfl
        rotate_left
        · simp only [Act.put, List.setIfInBounds_toArray, List.set_cons_zero, List.set_cons_succ, i64_w, i32_w]
          rfl
        refine take_ (i := 1) (N := some 26) (v := ?_) (a' := ?_) #[true, true, false, true, false, false, false, false] rfl rfl (take_ofW HT_.out HW_.out (by kernel_rfl)) (fun _ _ _ h => h) (Or.inl ⟨by rfl, ?_⟩) hHeld ?_ ?_
        rotate_left
        · rintro w' ⟨s0, s1, s2⟩
          go_simp
          with_reducible rfl
        rotate_left
        · simp only [Act.put, List.setIfInBounds_toArray, List.set_cons_zero, List.set_cons_succ, i64_w, i32_w]
          rfl
        refine take_ (i := 2) (N := some 27) (v := ?_) (a' := ?_) #[true, true, true, true, false, false, false, false] rfl rfl (take_ofW HT_.out HW_.out (by kernel_rfl)) (fun _ _ _ h => h) (Or.inl ⟨by rfl, ?_⟩) hHeld ?_ ?_
        rotate_left
        · rintro w' ⟨s0, s1, s2⟩
          go_simp
          with_reducible rfl
        rotate_left
        · simp only [Act.put, List.setIfInBounds_toArray, List.set_cons_zero, List.set_cons_succ, i64_w, i32_w]
          rfl
        refine join_ (σ := Nat) 1 #[true, true, true, true, true, true, true, false] (fun s_ => [(29, .int .i64 (aggZero a1)), (12, .pointer (some ⟨s_, 0, none⟩)), (30, .agg #[.int .i64 a3_0, .int .i64 s.f0, .int .i64 s.f1, .int .i64 (aggZero a1)])]) (fun s_ w' => (w'.cell? ⟨w.heap.size + 1, 0, none⟩ = some (.int .i64 a3_0) ∧ w'.cell? ⟨wr.heap.size, 0, none⟩ = some (.int .i64 s.f0) ∧ w'.cell? ⟨wr.heap.size, 1, none⟩ = some (.int .i64 s.f1)) ∧ w'.heap[s_]? = some (.cells #[.int .i64 0, .int .i64 0, .int .i64 0, .int .i64 0] 46 (0, 0)) ∧ wr.heap.size ≤ s_ ∧ Below wr.heap.size wr w') ?_ ?_
        rotate_left
        · intro hCont
          refine two_ (i := 4) (j := 6) (Ni := some 29) (Nj := some 12) #[true, true, true, true, true, false, false, false] #[true, true, true, true, false, false, true, false] rfl rfl rfl rfl (two_of HT_.out (by kernel_rfl)) (by decide) (by decide) (fun K hK => ?_) (fun K hK => ?_)
          · skip
            refine goes_ Try.func35 (by kernel_rfl) rfl #[.int .i64 a1] (by rfl) rfl rfl (by (try simp only [List.map_toArray, List.map_cons, List.map_nil]); first | done | rfl) ?_
            refine (hz _).mono ?_
            rintro e w20 ⟨rfl, hb⟩
            refine ⟨_, rfl, ?_⟩
            have BC1 := Aside0.mk (blk_below BCd.out hb)
            have BN1 := Aside0.mk (blk_below BNd.out hb)
            have HB1 := Aside0.mk (below_step HBd.out hb)
            clear BCd BNd HBd hb
            refine hK.out _ _ ⟨(blk_cell BC1.out 0).trans rfl, (blk_cell BN1.out 0).trans rfl, (blk_cell BN1.out 1).trans rfl⟩ (fun hHeld => ?_)
            clear hK K
            refine norm_ (a' := ?_) ?_ ?_
            rotate_left
            · show Act.put _ (some 29) _ = _
              simp only [Act.put, List.setIfInBounds_toArray, List.set_cons_zero, List.set_cons_succ, i64_w, i32_w]
              rfl
            refine pure_ (i := 5) (N := some 30) (v := ?_) (a' := ?_) #[true, true, true, true, true, true, false, false] rfl rfl (any_of HT_.out (by kernel_rfl)) (fun _ _ _ h => h) (Or.inl ⟨by rfl, ?_⟩) ?_ ?_
            rotate_left
            · intro w'
              go_simp
              with_reducible rfl
            rotate_left
            · simp only [Act.put, List.setIfInBounds_toArray, List.set_cons_zero, List.set_cons_succ, i64_w, i32_w]
              rfl
            refine one_ (i := 6) (N := some 12) #[true, true, true, true, true, true, true, false] rfl rfl (one_of HT_.out (by kernel_rfl)) (by decide) (fun K hK => ?_)
            refine box_step ?hg (N := 12) ?hd (cs := #[.int .i64 0, .int .i64 0, .int .i64 0, .int .i64 0]) (t := 46) ?hr ?_; (case hd => rfl); (case hg => rfl); (case hr => first | (go_simp; done) | (go_simp; rfl))
            intro gb hg w21 hbox hb
            have GWf := Aside0.mk (show wr.heap.size ≤ gb by rw [hg]; exact HB1.out.size)
            have BC2 := Aside0.mk (blk_below BC1.out hb)
            have BN2 := Aside0.mk (blk_below BN1.out hb)
            have HBf := Aside0.mk (below_step HB1.out hb)
            have BKf := Aside0.mk hbox
            clear BC1 BN1 HB1 hb hbox hg
            refine hK.out _ _ ⟨(blk_cell BC2.out 0).trans rfl, (blk_cell BN2.out 0).trans rfl, (blk_cell BN2.out 1).trans rfl⟩ (fun hHeld => ?_)
            clear hK K
            refine norm_ (a' := ?_) ?_ ?_
            rotate_left
            · show Act.put _ (some 12) _ = _
              simp only [Act.put, List.setIfInBounds_toArray, List.set_cons_zero, List.set_cons_succ, i64_w, i32_w]
              rfl
            exact norm_ (by simp only [putAll, Act.put, List.setIfInBounds_toArray, List.set_cons_zero, List.set_cons_succ]) (hCont gb _ ⟨hHeld, BKf.out, GWf.out, HBf.out⟩)
          · skip
            refine box_step ?hg (N := 12) ?hd (cs := #[.int .i64 0, .int .i64 0, .int .i64 0, .int .i64 0]) (t := 46) ?hr ?_; (case hd => rfl); (case hg => rfl); (case hr => first | (go_simp; done) | (go_simp; rfl))
            intro gb hg w21 hbox hb
            have GWf := Aside0.mk (show wr.heap.size ≤ gb by rw [hg]; exact HBd.out.size)
            have BC1 := Aside0.mk (blk_below BCd.out hb)
            have BN1 := Aside0.mk (blk_below BNd.out hb)
            have HB1 := Aside0.mk (below_step HBd.out hb)
            have BK1 := Aside0.mk hbox
            clear BCd BNd HBd hb hbox hg
            refine hK.out _ _ ⟨(blk_cell BC1.out 0).trans rfl, (blk_cell BN1.out 0).trans rfl, (blk_cell BN1.out 1).trans rfl⟩ (fun hHeld => ?_)
            clear hK K
            refine norm_ (a' := ?_) ?_ ?_
            rotate_left
            · show Act.put _ (some 12) _ = _
              simp only [Act.put, List.setIfInBounds_toArray, List.set_cons_zero, List.set_cons_succ, i64_w, i32_w]
              rfl
            refine one_ (i := 4) (N := some 29) #[true, true, true, true, true, false, true, false] rfl rfl (one_of HT_.out (by kernel_rfl)) (by decide) (fun K hK => ?_)
            refine goes_ Try.func35 (by kernel_rfl) rfl #[.int .i64 a1] (by rfl) rfl rfl (by (try simp only [List.map_toArray, List.map_cons, List.map_nil]); first | done | rfl) ?_
            refine (hz _).mono ?_
            rintro e w20 ⟨rfl, hb⟩
            refine ⟨_, rfl, ?_⟩
            have BC2 := Aside0.mk (blk_below BC1.out hb)
            have BN2 := Aside0.mk (blk_below BN1.out hb)
            have HBf := Aside0.mk (below_step HB1.out hb)
            have BKf := Aside0.mk (blk_below BK1.out hb)
            clear BC1 BN1 HB1 BK1 hb
            refine hK.out _ _ ⟨(blk_cell BC2.out 0).trans rfl, (blk_cell BN2.out 0).trans rfl, (blk_cell BN2.out 1).trans rfl⟩ (fun hHeld => ?_)
            clear hK K
            refine norm_ (a' := ?_) ?_ ?_
            rotate_left
            · show Act.put _ (some 29) _ = _
              simp only [Act.put, List.setIfInBounds_toArray, List.set_cons_zero, List.set_cons_succ, i64_w, i32_w]
              rfl
            refine pure_ (i := 5) (N := some 30) (v := ?_) (a' := ?_) #[true, true, true, true, true, true, true, false] rfl rfl (any_of HT_.out (by kernel_rfl)) (fun _ _ _ h => h) (Or.inl ⟨by rfl, ?_⟩) ?_ ?_
            rotate_left
            · intro w'
              go_simp
              with_reducible rfl
            rotate_left
            · simp only [Act.put, List.setIfInBounds_toArray, List.set_cons_zero, List.set_cons_succ, i64_w, i32_w]
              rfl
            exact norm_ (by simp only [putAll, Act.put, List.setIfInBounds_toArray, List.set_cons_zero, List.set_cons_succ]) (hCont gb _ ⟨hHeld, BKf.out, GWf.out, HBf.out⟩)
        rintro gb w22 ⟨hS_, hk_, hw_, hb_⟩
        have BK := Aside0.mk hk_
        have GW := Aside0.mk hw_
        have HBx := Aside0.mk hb_
        clear hS_ hk_ hw_ hb_
        refine norm_ (a' := ?_) ?_ ?_
        rotate_left
        · simp only [putAll, Act.put, List.setIfInBounds_toArray, List.set_cons_zero, List.set_cons_succ]
          rfl
        have hcz0 : w22.cell? ⟨gb, 0, none⟩ = some (.int .i64 0) := (blk_cell BK.out 0).trans rfl
        have hfz0 := blk_frozen BK.out 0
        have hcz1 : w22.cell? ⟨gb, 1, none⟩ = some (.int .i64 0) := (blk_cell BK.out 1).trans rfl
        have hfz1 := blk_frozen BK.out 1
        have hcz2 : w22.cell? ⟨gb, 2, none⟩ = some (.int .i64 0) := (blk_cell BK.out 2).trans rfl
        have hfz2 := blk_frozen BK.out 2
        have hcz3 : w22.cell? ⟨gb, 3, none⟩ = some (.int .i64 0) := (blk_cell BK.out 3).trans rfl
        have hfz3 := blk_frozen BK.out 3
        refine last_ (i := 7) (N := none) #[true, true, true, true, true, true, true, true] rfl rfl (one_of HT_.out (by kernel_rfl)) (by decide) (fun K hK => ?_)
        refine skip_ (w1 := ?_) (by rfl) rfl ?_ ?_
        rotate_left
        · go_simp
          rfl
        refine hK.out _ _ ?_
        clear hK K
        refine done_ (done_of HT_.out (by kernel_rfl)) ?_
        go_wp2_with fail
        go_meet
        refine ⟨gb, rfl, ⟨GW.out⟩, ⟨?_⟩, ⟨below_set (below_set (below_set (below_set HBx.out GW.out) GW.out) GW.out) GW.out⟩⟩
        have hb := BK.out
        simp [World.setCell, Array.getElem?_modify, hb]
      case rest =>
        obtain ⟨g, rfl, GW, BG, HBg⟩ := hcut
        have BWc : Aside0 (wc.heap[w.heap.size]? = some (.cells #[.int .i64 a0_0, .int .i64 a0_1, .int .i64 a0_2] 23 (0, 0))) := ⟨blk_below BW.out HBg.out⟩
        have BCc : Aside0 (wc.heap[w.heap.size + 1]? = some (.cells #[.int .i64 a3_0, .int .i64 a3_1, .int .i64 a3_2] 37 (0, 0))) := ⟨blk_below BC.out HBg.out⟩
        have HOc : Aside0 (Kd.R k46 46 wc w.heap.size (fun k => (¬ (N1 ≤ k ∧ k < N2) ∧ w.heap.size + 2 ≤ k) ∧ k ≠ g) (.slice Ao out.length co) out) := ⟨Kd.R_mono (Kd.R_below (Kd.R_bound HO.out) HBg.out) (fun k hk => ⟨hk.1, by have h1 := hk.2.2.1; have h2 := GW.out; omega⟩)⟩
        have HFc : Aside0 (Kd.F k31 wc (fun k => N1 ≤ k ∧ k < N2) (some ad) ss.length ss) := ⟨Kd.F_below HF.out HBg.out⟩
        have HBc : Aside0 (Below w.heap.size w wc) := ⟨below_step HB.out HBg.out⟩
        have HSz : Aside0 (w.heap.size + 1 < wr.heap.size ∧ N2 ≤ wr.heap.size ∧ wr.heap.size ≤ g ∧ g < wc.heap.size ∧ out.length ≤ co) := ⟨hsz1, HM.out, GW.out, blk_lt BG.out, (Kd.R_reads' HO.out).2.1⟩
        clear BW BC HO HF HB HM BN BQ hrk hsz1 hs0 hs1 GW
        have hw0 : wc.cell? ⟨w.heap.size, 0, none⟩ = some (.int .i64 a0_0) := (blk_cell BWc.out 0).trans rfl
        have hg0 : wc.cell? ⟨g, 0, none⟩ = some (.int .i64 a3_0) := (blk_cell BG.out 0).trans rfl
        have hg1 : wc.cell? ⟨g, 1, none⟩ = some (.int .i64 s.f0) := (blk_cell BG.out 1).trans rfl
        have hg2 : wc.cell? ⟨g, 2, none⟩ = some (.int .i64 s.f1) := (blk_cell BG.out 2).trans rfl
        have hg3 : wc.cell? ⟨g, 3, none⟩ = some (.int .i64 (aggZero a1)) := (blk_cell BG.out 3).trans rfl
        by_cases h3 : a0_0 = 3
        · have h3b : (a0_0 == 3) = true := beq_iff_eq.2 h3
          have H3 := Aside0.mk h3
          clear h3
          have hab := absorb46 a1 ⟨a3_0, s, aggZero a1⟩ Ao co out wc (Kd.R_reads' HOc.out).2.2 HSz.out.2.2.2.2 (by omega)
          obtain ⟨pl, HPL⟩ : ∃ pl, Aside0 (absorbP a1 ⟨a3_0, s, aggZero a1⟩ out = pl) := ⟨_, ⟨rfl⟩⟩
          rw [HPL.out] at hab
          obtain ⟨q, l'⟩ := pl
          obtain ⟨am, HAM⟩ : ∃ j, Aside0 (aggAdd a1 q.f2 a3_2 = j) := ⟨_, ⟨rfl⟩⟩
          have had := fun w' => agg_Add.calls a1 q.f2 a3_2 am w' (by rw [← HAM.out]; rfl)
          have HLL : Aside0 (l'.length ≤ out.length) := ⟨by have h := absorbF_len a1 (out.length + 1) ⟨a3_0, s, aggZero a1⟩ out; rw [show absorbF a1 (out.length + 1) ⟨a3_0, s, aggZero a1⟩ out = (q, l') from HPL.out] at h; exact h⟩
          have hne1 : w.heap.size + 1 ≠ g := by have := HSz.out; omega
          have hne2 : g ≠ w.heap.size + 1 := by have := HSz.out; omega
          go_wp2_with (first
            | (go_at_call 36
               refine hab.mono ?_
               rintro e w5 ⟨v, rfl, hH5, hB5⟩
               have BG5 : Aside0 (w5.heap[g]? = some (.cells #[.int .i64 a3_0, .int .i64 s.f0, .int .i64 s.f1, .int .i64 (aggZero a1)] 46 (0, 0))) := ⟨blk_below BG.out hB5⟩
               have BW5 : Aside0 (w5.heap[w.heap.size]? = some (.cells #[.int .i64 a0_0, .int .i64 a0_1, .int .i64 a0_2] 23 (0, 0))) := ⟨blk_below BWc.out hB5⟩
               have BC5 : Aside0 (w5.heap[w.heap.size + 1]? = some (.cells #[.int .i64 a3_0, .int .i64 a3_1, .int .i64 a3_2] 37 (0, 0))) := ⟨blk_below BCc.out hB5⟩
               have HF5 : Aside0 (Kd.F k31 w5 (fun k => N1 ≤ k ∧ k < N2) (some ad) ss.length ss) := ⟨Kd.F_below HFc.out hB5⟩
               have HB5 : Aside0 (Below w.heap.size w w5) := ⟨below_step HBc.out hB5⟩
               have HO5 : Aside0 (Kd.R k46 46 w5 w.heap.size (fun k => (¬ (N1 ≤ k ∧ k < N2) ∧ w.heap.size + 2 ≤ k) ∧ k ≠ g) v l') := by
                 have h1 := HSz.out
                 rcases hH5 with ⟨rfl, rfl⟩ | h
                 · exact ⟨Kd.R_below HOc.out hB5⟩
                 · exact ⟨Kd.R_mono (Kd.R_lower h (by omega)) (fun k hk => ⟨⟨by omega, by omega⟩, by omega⟩)⟩
               have HG5 : Aside0 (wc.heap.size ≤ w5.heap.size) := ⟨hB5.size⟩
               clear hH5 hB5 hw0 hg0 hg1 hg2 hg3
               have hg0 : w5.cell? ⟨g, 0, none⟩ = some (.int .i64 a3_0) := (blk_cell BG5.out 0).trans rfl
               have hg1 : w5.cell? ⟨g, 1, none⟩ = some (.int .i64 s.f0) := (blk_cell BG5.out 1).trans rfl
               have hg2 : w5.cell? ⟨g, 2, none⟩ = some (.int .i64 s.f1) := (blk_cell BG5.out 2).trans rfl
               have hg3 : w5.cell? ⟨g, 3, none⟩ = some (.int .i64 (aggZero a1)) := (blk_cell BG5.out 3).trans rfl
               have hf0 := blk_frozen BG5.out 0
               have hf1 := blk_frozen BG5.out 1
               have hf2 := blk_frozen BG5.out 2
               have hf3 := blk_frozen BG5.out 3
               have hrv : w5.cell? ⟨w.heap.size + 1, 2, none⟩ = some (.int .i64 a3_2) := (blk_cell BC5.out 2).trans rfl)
            | (go_at_call 37
               refine (had _).mono ?_
               rintro e w7 ⟨rfl, hb7⟩
               have BG6 : Aside0 (((((w5.setCell ⟨g, 0, none⟩ (.int .i64 q.f0)).setCell ⟨g, 1, none⟩ (.int .i64 q.f1.f0)).setCell ⟨g, 2, none⟩ (.int .i64 q.f1.f1)).setCell ⟨g, 3, none⟩ (.int .i64 q.f2)).heap[g]? = some (.cells #[.int .i64 q.f0, .int .i64 q.f1.f0, .int .i64 q.f1.f1, .int .i64 q.f2] 46 (0, 0))) := by
                 have hb := BG5.out
                 exact ⟨by simp [World.setCell, Array.getElem?_modify, hb]⟩
               have BG7 : Aside0 (w7.heap[g]? = some (.cells #[.int .i64 q.f0, .int .i64 q.f1.f0, .int .i64 q.f1.f1, .int .i64 q.f2] 46 (0, 0))) := ⟨blk_below BG6.out hb7⟩
               have BW7 : Aside0 (w7.heap[w.heap.size]? = some (.cells #[.int .i64 a0_0, .int .i64 a0_1, .int .i64 a0_2] 23 (0, 0))) := by
                 have hb := BW5.out
                 have hn : g ≠ w.heap.size := by have := HSz.out; omega
                 exact ⟨blk_below (by simp [World.setCell, Array.getElem?_modify, hb, hn]) hb7⟩
               have BC7 : Aside0 (w7.heap[w.heap.size + 1]? = some (.cells #[.int .i64 a3_0, .int .i64 a3_1, .int .i64 a3_2] 37 (0, 0))) := by
                 have hb := BC5.out
                 exact ⟨blk_below (by simp [World.setCell, Array.getElem?_modify, hb, hne2]) hb7⟩
               have HGS : w.heap.size ≤ g := by have := HSz.out; omega
               have HB7 : Aside0 (Below w.heap.size w w7) := ⟨below_step (below_set (below_set (below_set (below_set HB5.out HGS) HGS) HGS) HGS) hb7⟩
               have hfar : ∀ k, (N1 ≤ k ∧ k < N2) → k ≠ g := fun k hk => by have := HSz.out; omega
               have HF7 : Aside0 (Kd.F k31 w7 (fun k => N1 ≤ k ∧ k < N2) (some ad) ss.length ss) := ⟨Kd.F_below (Kd.F_far (Kd.F_far (Kd.F_far (Kd.F_far HF5.out (p := ⟨g, 0, none⟩) hfar _) (p := ⟨g, 1, none⟩) hfar _) (p := ⟨g, 2, none⟩) hfar _) (p := ⟨g, 3, none⟩) hfar _) hb7⟩
               have HO7 : Aside0 (Kd.R k46 46 w7 w.heap.size (fun k => (¬ (N1 ≤ k ∧ k < N2) ∧ w.heap.size + 2 ≤ k) ∧ k ≠ g) v l') := ⟨Kd.R_below (Kd.R_far (Kd.R_far (Kd.R_far (Kd.R_far HO5.out (p := ⟨g, 0, none⟩) (fun k hk => hk.2) _) (p := ⟨g, 1, none⟩) (fun k hk => hk.2) _) (p := ⟨g, 2, none⟩) (fun k hk => hk.2) _) (p := ⟨g, 3, none⟩) (fun k hk => hk.2) _) hb7⟩
               have HG7 : Aside0 (wc.heap.size ≤ w7.heap.size) := ⟨by have h1 := HG5.out; have h2 := hb7.size; simp at h2; omega⟩
               have HO8 : Aside0 (Kd.R k46 46 (w7.setCell ⟨g, 3, none⟩ (.int .i64 am)) w.heap.size (fun k => (¬ (N1 ≤ k ∧ k < N2) ∧ w.heap.size + 2 ≤ k) ∧ k ≠ g) v l') := ⟨Kd.R_far HO7.out (p := ⟨g, 3, none⟩) (fun k hk => hk.2) _⟩
               have HF8 : Aside0 (Kd.F k31 (w7.setCell ⟨g, 3, none⟩ (.int .i64 am)) (fun k => N1 ≤ k ∧ k < N2) (some ad) ss.length ss) := ⟨Kd.F_far HF7.out (p := ⟨g, 3, none⟩) hfar _⟩
               have HB8 : Aside0 (Below w.heap.size w (w7.setCell ⟨g, 3, none⟩ (.int .i64 am))) := ⟨below_set HB7.out HGS⟩
               have BW8 : Aside0 ((w7.setCell ⟨g, 3, none⟩ (.int .i64 am)).heap[w.heap.size]? = some (.cells #[.int .i64 a0_0, .int .i64 a0_1, .int .i64 a0_2] 23 (0, 0))) := by
                 have hb := BW7.out
                 have hn : g ≠ w.heap.size := by have := HSz.out; omega
                 exact ⟨by simp [World.setCell, Array.getElem?_modify, hb, hn]⟩
               have BC8 : Aside0 ((w7.setCell ⟨g, 3, none⟩ (.int .i64 am)).heap[w.heap.size + 1]? = some (.cells #[.int .i64 a3_0, .int .i64 a3_1, .int .i64 a3_2] 37 (0, 0))) := by
                 have hb := BC7.out
                 exact ⟨by simp [World.setCell, Array.getElem?_modify, hb, hne2]⟩
               have HS8 : Aside0 ((w7.setCell ⟨g, 3, none⟩ (.int .i64 am)).heap.size = w7.heap.size) := ⟨by simp⟩
               clear hb7 hg0 hg1 hg2 hg3 hf0 hf1 hf2 hf3 hrv
               have hg0 : w7.cell? ⟨g, 0, none⟩ = some (.int .i64 q.f0) := (blk_cell BG7.out 0).trans rfl
               have hg1 : w7.cell? ⟨g, 1, none⟩ = some (.int .i64 q.f1.f0) := (blk_cell BG7.out 1).trans rfl
               have hg2 : w7.cell? ⟨g, 2, none⟩ = some (.int .i64 q.f1.f1) := (blk_cell BG7.out 2).trans rfl
               have hg3 : w7.cell? ⟨g, 3, none⟩ = some (.int .i64 q.f2) := (blk_cell BG7.out 3).trans rfl
               have hf3 := blk_frozen BG7.out 3)
            | ((with_reducible refine gate_builtin (b := .append) (xs := #[.tmp 48, .tmp 50]) rfl ?_); at_builtin
               refine Kd.R_append k46 (w0 := w) w.heap.size rfl (.tmp 48) (.tmp 50) 35 46 (.agg #[(.int .i64 0), (.int .i64 0), (.int .i64 0), (.int .i64 0)]) 32 rfl Try.underlying35 info46 rfl (by decide) (by omega) v l' (⟨q.f0, q.f1, am⟩ : S46) [.int .i64 q.f0, .int .i64 q.f1.f0, .int .i64 q.f1.f1, .int .i64 am] (fun k => ¬ (N1 ≤ k ∧ k < N2) ∧ w.heap.size + 2 ≤ k) (fun _ => False) rfl (by rw [HS8.out]; rfl) (k46_mkM _ _ _ (⟨q.f0, q.f1, am⟩ : S46)) (fun _ hk => hk.elim) (fun k hk => by have h1 := HSz.out; have h2 := HG7.out; have h3 := HS8.out; omega) (Kd.R_mono HO8.out (fun k hk => hk.1)) HB8.out (by have h1 := HSz.out; have h2 := HG7.out; have h3 := HS8.out; omega) (by have h1 := HLL.out; omega) ?_
               intro v9 w9 ho hb hg hat
               have hown : ∀ k, some k = v.ownBlock → ((¬ (N1 ≤ k ∧ k < N2) ∧ w.heap.size + 2 ≤ k) ∧ k ≠ g) := fun k hk => HO8.out.1 k hk.symm
               have BW9 : Aside0 (w9.heap[w.heap.size]? = some (.cells #[.int .i64 a0_0, .int .i64 a0_1, .int .i64 a0_2] 23 (0, 0))) := ⟨(hg.block _ (blk_lt BW8.out) (fun he => by have := hown _ he; omega)).trans BW8.out⟩
               have BC9 : Aside0 (w9.heap[w.heap.size + 1]? = some (.cells #[.int .i64 a3_0, .int .i64 a3_1, .int .i64 a3_2] 37 (0, 0))) := ⟨(hg.block _ (blk_lt BC8.out) (fun he => by have := hown _ he; omega)).trans BC8.out⟩
               have HF9 : Aside0 (Kd.F k31 w9 (fun k => N1 ≤ k ∧ k < N2) (some ad) ss.length ss) := ⟨Kd.F_grown HF8.out hg (fun k hk he => by have := hown _ he; omega)⟩
               have hsz9 : Aside0 (N2 ≤ w9.heap.size) := ⟨by have h1 := HSz.out; have h2 := HG7.out; have h3 := HS8.out; have h4 := hg.size; omega⟩
               have HO9 := Aside0.mk ho
               have HB9 := Aside0.mk hb
               clear ho hb hg hat hown))
          go_roundg (ss.length - (i + 1))
          case measure => omega
          case rel =>
            have hs := HSz.out
            refine ⟨i + 1, l' ++ [⟨q.f0, q.f1, am⟩], by first | rfl | go_num | (congr 1; omega), by omega, Nat.le_refl _, by have h1 := HLL.out; simp only [List.length_append, List.length_singleton]; omega, ⟨?_⟩, HO9, HF9, BW9, BC9, HB9, ⟨by have h1 := HB9.out; have h2 := hsz9.out; omega⟩⟩
            rw [← HE.out, List.drop_eq_getElem_cons hlt, List.foldl_cons]
            congr 1
            rw [← HX.out, stepP, if_pos H3.out, HPL.out, HAM.out]
        · have h3b : (a0_0 == 3) = false := beq_eq_false_iff_ne.2 h3
          have H3 := Aside0.mk h3
          clear h3
          have hmf : ∀ (fn : Fn) (first cap : Array Value) (w : World), (Instr.makeFunc fn first cap).run Try.prog w = .ok (.func fn first cap) w := fun _ _ _ _ => rfl
          have hix := index38 ⟨a3_0, s, aggZero a1⟩ g Ao co out wc (Kd.R_reads' HOc.out).2.2 BG.out (by omega)
          obtain ⟨ix, HIX⟩ : ∃ ix, Aside0 (idxP ⟨a3_0, s, aggZero a1⟩ out = ix) := ⟨_, ⟨rfl⟩⟩
          rw [HIX.out] at hix
          go_upto_if 56 with (
               go_at_call 38
               refine hix.mono ?_
               rintro e w5 ⟨rfl, hb5⟩
               have BG5 : Aside0 (w5.heap[g]? = some (.cells #[.int .i64 a3_0, .int .i64 s.f0, .int .i64 s.f1, .int .i64 (aggZero a1)] 46 (0, 0))) := ⟨blk_below BG.out hb5⟩
               have BW5 : Aside0 (w5.heap[w.heap.size]? = some (.cells #[.int .i64 a0_0, .int .i64 a0_1, .int .i64 a0_2] 23 (0, 0))) := ⟨blk_below BWc.out hb5⟩
               have BC5 : Aside0 (w5.heap[w.heap.size + 1]? = some (.cells #[.int .i64 a3_0, .int .i64 a3_1, .int .i64 a3_2] 37 (0, 0))) := ⟨blk_below BCc.out hb5⟩
               have HF5 : Aside0 (Kd.F k31 w5 (fun k => N1 ≤ k ∧ k < N2) (some ad) ss.length ss) := ⟨Kd.F_below HFc.out hb5⟩
               have HB5 : Aside0 (Below w.heap.size w w5) := ⟨below_step HBc.out hb5⟩
               have HO5 : Aside0 (Kd.R k46 46 w5 w.heap.size (fun k => (¬ (N1 ≤ k ∧ k < N2) ∧ w.heap.size + 2 ≤ k) ∧ k ≠ g) (.slice Ao out.length co) out) := ⟨Kd.R_below HOc.out hb5⟩
               have HG5 : Aside0 (wc.heap.size ≤ w5.heap.size) := ⟨hb5.size⟩
               clear hb5 hw0 hg0 hg1 hg2 hg3 BG BWc BCc HFc HBc HOc hix)
          go_cut [9, 13] from 57 to 62 (fun s9 s13 wx => ∃ (out2 : List S46) (go co2 j : Nat), s9 = .slice (some ⟨go, 0, none⟩) out2.length co2 ∧ s13 = .int .i64 (j : Int) ∧ j < out2.length ∧ out2.length ≤ l2.length + (i + 1) ∧
            Aside0 (out2.set j ⟨(out2.getD j z46).f0, (out2.getD j z46).f1, aggAdd a1 (out2.getD j z46).f2 a3_2⟩ = stepP a0_0 a1 a3_0 a3_2 out s) ∧
            Aside0 (Kd.R k46 46 wx w.heap.size (fun k => ¬ (N1 ≤ k ∧ k < N2) ∧ w.heap.size + 2 ≤ k) (.slice (some ⟨go, 0, none⟩) out2.length co2) out2) ∧ Aside0 (Kd.F k31 wx (fun k => N1 ≤ k ∧ k < N2) (some ad) ss.length ss) ∧
            Aside0 (wx.heap[w.heap.size]? = some (.cells #[.int .i64 a0_0, .int .i64 a0_1, .int .i64 a0_2] 23 (0, 0))) ∧ Aside0 (wx.heap[w.heap.size + 1]? = some (.cells #[.int .i64 a3_0, .int .i64 a3_1, .int .i64 a3_2] 37 (0, 0))) ∧ Aside0 (Below w.heap.size w wx) ∧ Aside0 (N2 ≤ wx.heap.size))
          case first =>
            cases hf : out.findIdx? (sameP ⟨a3_0, s, aggZero a1⟩) with
            | none =>
              have hix1 : ix = -1 := by rw [← HIX.out, idxP, hf]
              subst hix1
              have HFN := Aside0.mk hf
              clear hf HIX
              have hg0 : w5.cell? ⟨g, 0, none⟩ = some (.int .i64 a3_0) := (blk_cell BG5.out 0).trans rfl
              have hg1 : w5.cell? ⟨g, 1, none⟩ = some (.int .i64 s.f0) := (blk_cell BG5.out 1).trans rfl
              have hg2 : w5.cell? ⟨g, 2, none⟩ = some (.int .i64 s.f1) := (blk_cell BG5.out 2).trans rfl
              have hg3 : w5.cell? ⟨g, 3, none⟩ = some (.int .i64 (aggZero a1)) := (blk_cell BG5.out 3).trans rfl
              go_wp2_with ((with_reducible refine gate_builtin (b := .append) (xs := #[.tmp 59, .tmp 61]) rfl ?_); at_builtin
                           refine Kd.R_append k46 (w0 := w) w.heap.size rfl (.tmp 59) (.tmp 61) 35 46 (.agg #[(.int .i64 0), (.int .i64 0), (.int .i64 0), (.int .i64 0)]) 32 rfl Try.underlying35 info46 rfl (by decide) (by omega) (.slice Ao out.length co) out (⟨a3_0, s, aggZero a1⟩ : S46) [.int .i64 a3_0, .int .i64 s.f0, .int .i64 s.f1, .int .i64 (aggZero a1)] (fun k => ¬ (N1 ≤ k ∧ k < N2) ∧ w.heap.size + 2 ≤ k) (fun _ => False) rfl rfl (k46_mkM _ _ _ (⟨a3_0, s, aggZero a1⟩ : S46)) (fun _ hk => hk.elim) (fun k hk => by have h1 := HSz.out; have h2 := HG5.out; omega) (Kd.R_mono HO5.out (fun k hk => hk.1)) HB5.out (by have h1 := HSz.out; have h2 := HG5.out; omega) (by omega) ?_
                           intro v9 w9 ho hb hg hat
                           have hown : ∀ k, some k = (Value.slice Ao out.length co).ownBlock → ((¬ (N1 ≤ k ∧ k < N2) ∧ w.heap.size + 2 ≤ k) ∧ k ≠ g) := fun k hk => HO5.out.1 k hk.symm
                           have BW9 : Aside0 (w9.heap[w.heap.size]? = some (.cells #[.int .i64 a0_0, .int .i64 a0_1, .int .i64 a0_2] 23 (0, 0))) := ⟨(hg.block _ (blk_lt BW5.out) (fun he => by have := hown _ he; omega)).trans BW5.out⟩
                           have BC9 : Aside0 (w9.heap[w.heap.size + 1]? = some (.cells #[.int .i64 a3_0, .int .i64 a3_1, .int .i64 a3_2] 37 (0, 0))) := ⟨(hg.block _ (blk_lt BC5.out) (fun he => by have := hown _ he; omega)).trans BC5.out⟩
                           have HF9 : Aside0 (Kd.F k31 w9 (fun k => N1 ≤ k ∧ k < N2) (some ad) ss.length ss) := ⟨Kd.F_grown HF5.out hg (fun k hk he => by have := hown _ he; omega)⟩
                           have hsz9 : Aside0 (N2 ≤ w9.heap.size) := ⟨by have h1 := HSz.out; have h2 := HG5.out; have h4 := hg.size; omega⟩
                           have HO9 := Aside0.mk ho
                           have HB9 := Aside0.mk hb
                           clear ho hb hg hat hown)
              go_meet
              obtain ⟨go, cap, rfl, _, _, _⟩ := Kd.R_form HO9.out (by simp)
              refine ⟨_, go, cap, out.length, rfl, rfl, by simp, by simp only [List.length_append, List.length_singleton]; omega, ⟨?_⟩, HO9, HF9, BW9, BC9, HB9, hsz9⟩
              rw [stepP, if_neg H3.out, HFN.out]
              simp
            | some j =>
              have hix1 : ix = (j : Int) := by rw [← HIX.out, idxP, hf]
              subst hix1
              have hjl : j < out.length := (List.findIdx?_eq_some_iff_getElem.1 hf).1
              have HFN := Aside0.mk hf
              clear hf HIX
              have hj0 : ¬ ((j : Int) < 0) := by omega
              go_wp2_with fail
              go_meet
              obtain ⟨go, cap, he, _, _, _⟩ := Kd.R_form HO5.out (by omega)
              refine ⟨out, go, cap, j, he, rfl, hjl, by omega, ⟨?_⟩, ⟨Kd.R_mono (he ▸ HO5.out) (fun k hk => hk.1)⟩, HF5, BW5, BC5, HB5, ⟨by have h1 := HSz.out; have h2 := HG5.out; omega⟩⟩
              rw [stepP, if_neg H3.out, HFN.out]
          case rest =>
            obtain ⟨out2, go, co2, j, rfl, rfl, hj, hol2, HST, HO9, HF9, BW9, BC9, HB9, HN9⟩ := hcut
            clear BG5 BW5 BC5 HF5 HB5 HO5 HG5 HIX
            go_wp2_with fail
            obtain ⟨xj, HXJ⟩ : ∃ xj, Aside0 (xj = out2.getD j z46) := ⟨_, ⟨rfl⟩⟩
            obtain ⟨am, HAM⟩ : ∃ am, Aside0 (aggAdd a1 xj.f2 a3_2 = am) := ⟨_, ⟨rfl⟩⟩
            have had := fun w' => agg_Add.calls a1 xj.f2 a3_2 am w' (by rw [← HAM.out]; rfl)
            rw [← HXJ.out, HAM.out] at HST
            have hjz : (j : Int) < (out2.length : Int) := by omega
            have hj0 : (0 : Int) ≤ (j : Int) := by omega
            have hrv : wc.cell? ⟨w.heap.size + 1, 2, none⟩ = some (.int .i64 a3_2) := (blk_cell BC9.out 2).trans rfl
            obtain ⟨cj, hcl1, hM1, hcc1, hfr1⟩ := Kd.R_elem HO9.out z46 (j : Int) (by omega) (by omega)
            rw [Int.toNat_natCast, ← HXJ.out] at hM1
            rw [Int.toNat_natCast] at hcc1 hfr1
            obtain rfl := k46_openM hM1
            have hxj : wc.cell? ⟨go, j * 4 + 3, none⟩ = some (.int .i64 xj.f2) := hcc1 3 _ rfl
            clear hcl1 hM1 hcc1 hfr1
            refine start_ (n := 14) (S := fun w' => w'.cell? ⟨go, j * 4 + 3, none⟩ = some (.int .i64 xj.f2) ∧ w'.cell? ⟨w.heap.size + 1, 2, none⟩ = some (.int .i64 a3_2)) (ds := [13]) #[false, false, false, false, false, false, false, false, false, false, false, false, false, false] (by kernel_rfl) rfl rfl ⟨hxj, hrv⟩ (fun hHeld => ?_); refine with_tabW window_Put.tab14 window_Put.bits14 (fun HT_ HW_ => ?_)
            have HOd := Aside0.mk (Kd.R_drew HO9.out)
            have HFd := Aside0.mk (Kd.F_drew HF9.out)
            have BWd := Aside0.mk (blk_drew BW9.out)
            have BCd := Aside0.mk (blk_drew BC9.out)
            have HBd := Aside0.mk (below_drew1 HB9.out)
            have HNd : Aside0 (N2 ≤ wc.drew.heap.size) := HN9
            clear HO9 HF9 BW9 BC9 HB9 HN9 hxj hrv
            generalize wc.drew = w18 at HOd HFd BWd BCd HBd HNd hHeld ⊢
            refine pure_ (i := 0) (N := some 63) (v := ?_) (a' := ?_) #[true, false, false, false, false, false, false, false, false, false, false, false, false, false] rfl rfl (any_of HT_.out (by kernel_rfl)) (fun _ _ _ h => h) (Or.inl ⟨by rfl, ?_⟩) ?_ ?_
            rotate_left
            · intro w'
              go_simp
              with_reducible rfl
            rotate_left
            · simp only [Act.put, List.setIfInBounds_toArray, List.set_cons_zero, List.set_cons_succ, i64_w, i32_w]
              rfl
            refine pure_ (i := 1) (N := some 64) (v := ?_) (a' := ?_) #[true, true, false, false, false, false, false, false, false, false, false, false, false, false] rfl rfl (any_of HT_.out (by kernel_rfl)) (fun _ _ _ h => h) (Or.inl ⟨by rfl, ?_⟩) ?_ ?_
            rotate_left
            · intro w'
              go_simp
              with_reducible rfl
            rotate_left
            · simp only [Act.put, List.setIfInBounds_toArray, List.set_cons_zero, List.set_cons_succ, i64_w, i32_w]
              rfl
            refine pure_ (i := 2) (N := some 65) (v := ?_) (a' := ?_) #[true, true, true, false, false, false, false, false, false, false, false, false, false, false] rfl rfl (any_of HT_.out (by kernel_rfl)) (fun _ _ _ h => h) (Or.inl ⟨by rfl, ?_⟩) ?_ ?_
            rotate_left
            · intro w'
              go_simp
              with_reducible rfl
            rotate_left
            · simp only [Act.put, List.setIfInBounds_toArray, List.set_cons_zero, List.set_cons_succ, i64_w, i32_w]
              rfl
            refine pure_ (i := 3) (N := some 66) (v := ?_) (a' := ?_) #[true, true, true, true, false, false, false, false, false, false, false, false, false, false] rfl rfl (any_of HT_.out (by kernel_rfl)) (fun _ _ _ h => h) (Or.inl ⟨by rfl, ?_⟩) ?_ ?_
            rotate_left
            · intro w'
              go_simp
              with_reducible rfl
            rotate_left
            · simp only [Act.put, List.setIfInBounds_toArray, List.set_cons_zero, List.set_cons_succ, i64_w, i32_w]
              rfl
            refine pure_ (i := 4) (N := some 67) (v := ?_) (a' := ?_) #[true, true, true, true, true, false, false, false, false, false, false, false, false, false] rfl rfl (any_of HT_.out (by kernel_rfl)) (fun _ _ _ h => h) (Or.inl ⟨by rfl, ?_⟩) ?_ ?_
            rotate_left
            · intro w'
              go_simp
              with_reducible rfl
            rotate_left
            · simp only [Act.put, List.setIfInBounds_toArray, List.set_cons_zero, List.set_cons_succ, i64_w, i32_w]
              rfl
            refine pure_ (i := 8) (N := some 71) (v := ?_) (a' := ?_) #[true, true, true, true, true, false, false, false, true, false, false, false, false, false] rfl rfl (any_of HT_.out (by kernel_rfl)) (fun _ _ _ h => h) (Or.inl ⟨by rfl, ?_⟩) ?_ ?_
            rotate_left
            · intro w'
              go_simp
              with_reducible rfl
            rotate_left
            · simp only [Act.put, List.setIfInBounds_toArray, List.set_cons_zero, List.set_cons_succ, i64_w, i32_w]
              rfl
            refine pure_ (i := 5) (N := some 68) (v := ?_) (a' := ?_) #[true, true, true, true, true, true, false, false, true, false, false, false, false, false] rfl rfl (any_of HT_.out (by kernel_rfl)) (fun _ _ _ h => h) (Or.inl ⟨by rfl, ?_⟩) ?_ ?_
            rotate_left
            · intro w'
              go_simp
              with_reducible rfl
            rotate_left
            · simp only [Act.put, List.setIfInBounds_toArray, List.set_cons_zero, List.set_cons_succ, i64_w, i32_w]
              rfl
            refine pure_ (i := 6) (N := some 69) (v := ?_) (a' := ?_) #[true, true, true, true, true, true, true, false, true, false, false, false, false, false] rfl rfl (any_of HT_.out (by kernel_rfl)) (fun _ _ _ h => h) (Or.inl ⟨by rfl, ?_⟩) ?_ ?_
            rotate_left
            · intro w'
              go_simp
              with_reducible rfl
            rotate_left
            · simp only [Act.put, List.setIfInBounds_toArray, List.set_cons_zero, List.set_cons_succ, i64_w, i32_w]
              rfl
            refine take_ (i := 7) (N := some 70) (v := ?_) (a' := ?_) #[true, true, true, true, true, true, true, true, true, false, false, false, false, false] rfl rfl (take_ofW HT_.out HW_.out (by kernel_rfl)) (fun _ _ _ h => h) (Or.inl ⟨by rfl, ?_⟩) hHeld ?_ ?_
            rotate_left
            · rintro w' ⟨s0, s1⟩
              go_simp
              with_reducible rfl
            rotate_left
            · simp only [Act.put, List.setIfInBounds_toArray, List.set_cons_zero, List.set_cons_succ, i64_w, i32_w]
              rfl
            refine take_ (i := 9) (N := some 72) (v := ?_) (a' := ?_) #[true, true, true, true, true, true, true, true, true, true, false, false, false, false] rfl rfl (take_ofW HT_.out HW_.out (by kernel_rfl)) (fun _ _ _ h => h) (Or.inl ⟨by rfl, ?_⟩) hHeld ?_ ?_
            rotate_left
            · rintro w' ⟨s0, s1⟩
              go_simp
              with_reducible rfl
            rotate_left
            · simp only [Act.put, List.setIfInBounds_toArray, List.set_cons_zero, List.set_cons_succ, i64_w, i32_w]
              rfl
            refine one_ (i := 10) (N := some 73) #[true, true, true, true, true, true, true, true, true, true, true, false, false, false] rfl rfl (one_of HT_.out (by kernel_rfl)) (by decide) (fun K hK => ?_)
            refine goes_ Try.func37 (by kernel_rfl) rfl #[.int .i64 a1, .int .i64 xj.f2, .int .i64 a3_2] (by rfl) rfl rfl (by (try simp only [List.map_toArray, List.map_cons, List.map_nil]); first | done | rfl) ?_
            refine (had _).mono ?_
            rintro e w20 ⟨rfl, hb⟩
            refine ⟨_, rfl, ?_⟩
            have HO20 := Aside0.mk (Kd.R_below HOd.out hb)
            have HF20 := Aside0.mk (Kd.F_below HFd.out hb)
            have BW20 := Aside0.mk (blk_below BWd.out hb)
            have BC20 := Aside0.mk (blk_below BCd.out hb)
            have HB20 := Aside0.mk (below_step HBd.out hb)
            have HN20 : Aside0 (N2 ≤ w20.heap.size) := ⟨Nat.le_trans HNd.out hb.size⟩
            clear HOd HFd BWd BCd HBd HNd hb
            obtain ⟨cj2, hcl2, hM2, hcc2, hfr2⟩ := Kd.R_elem HO20.out z46 (j : Int) (by omega) (by omega)
            rw [Int.toNat_natCast, ← HXJ.out] at hM2
            rw [Int.toNat_natCast] at hcc2 hfr2
            obtain rfl := k46_openM hM2
            have hxj : w20.cell? ⟨go, j * 4 + 3, none⟩ = some (.int .i64 xj.f2) := hcc2 3 _ rfl
            have hfj : w20.frozen? ⟨go, j * 4 + 3, none⟩ = false := hfr2 3
            clear hcl2 hM2 hcc2 hfr2
            refine hK.out _ _ ⟨hxj, (blk_cell BC20.out 2).trans rfl⟩ (fun hHeld => ?_)
            clear hK K
            refine norm_ (a' := ?_) ?_ ?_
            rotate_left
            · show Act.put _ (some 73) _ = _
              simp only [Act.put, List.setIfInBounds_toArray, List.set_cons_zero, List.set_cons_succ, i64_w, i32_w]
              rfl
            refine pure_ (i := 11) (N := some 74) (v := ?_) (a' := ?_) #[true, true, true, true, true, true, true, true, true, true, true, true, false, false] rfl rfl (any_of HT_.out (by kernel_rfl)) (fun _ _ _ h => h) (Or.inl ⟨by rfl, ?_⟩) ?_ ?_
            rotate_left
            · intro w'
              go_simp
              with_reducible rfl
            rotate_left
            · simp only [Act.put, List.setIfInBounds_toArray, List.set_cons_zero, List.set_cons_succ, i64_w, i32_w]
              rfl
            refine pure_ (i := 12) (N := some 75) (v := ?_) (a' := ?_) #[true, true, true, true, true, true, true, true, true, true, true, true, true, false] rfl rfl (any_of HT_.out (by kernel_rfl)) (fun _ _ _ h => h) (Or.inl ⟨by rfl, ?_⟩) ?_ ?_
            rotate_left
            · intro w'
              go_simp
              with_reducible rfl
            rotate_left
            · simp only [Act.put, List.setIfInBounds_toArray, List.set_cons_zero, List.set_cons_succ, i64_w, i32_w]
              rfl
            refine last_ (i := 13) (N := none) #[true, true, true, true, true, true, true, true, true, true, true, true, true, true] rfl rfl (one_of HT_.out (by kernel_rfl)) (by decide) (fun K hK => ?_)
            refine skip_ (w1 := ?_) (by rfl) rfl ?_ ?_
            rotate_left
            · go_simp
              rfl
            refine hK.out _ _ ?_
            clear hK K
            refine done_ (done_of HT_.out (by kernel_rfl)) ?_
            go_wp2_with fail
            have hgo : (¬ (N1 ≤ go ∧ go < N2) ∧ w.heap.size + 2 ≤ go) := HO20.out.1 go rfl
            obtain ⟨cj, hcl1, hM1, hcc1, hfr1⟩ := Kd.R_elem HO20.out z46 (j : Int) (by omega) (by omega)
            have hM1' := hM1
            rw [Int.toNat_natCast, ← HXJ.out] at hM1'
            obtain rfl := k46_openM hM1'
            have hseg := (Kd.R_seg HO20.out (j : Int) (by omega) (by omega) (seg := [.int .i64 am]) (j := 3) hcl1 hcc1 (show 4 ≤ 4 from Nat.le_refl 4) (x' := (⟨xj.f0, xj.f1, am⟩ : S46)) (okp := fun _ => False) (k46_mkM _ _ _ (⟨xj.f0, xj.f1, am⟩ : S46)) (fun _ hk => hk.elim)).1
            rw [Int.toNat_natCast] at hseg
            have HOn : Aside0 (Kd.R k46 46 (w20.setCell ⟨go, j * 4 + 3, none⟩ (.int .i64 am)) w.heap.size (fun k => ¬ (N1 ≤ k ∧ k < N2) ∧ w.heap.size + 2 ≤ k) (.slice (some ⟨go, 0, none⟩) out2.length co2) (out2.set j ⟨xj.f0, xj.f1, am⟩)) := ⟨hseg⟩
            have HFn : Aside0 (Kd.F k31 (w20.setCell ⟨go, j * 4 + 3, none⟩ (.int .i64 am)) (fun k => N1 ≤ k ∧ k < N2) (some ad) ss.length ss) := ⟨Kd.F_far HF20.out (p := ⟨go, j * 4 + 3, none⟩) (fun k hk he => by have h1 : k = go := he; omega) _⟩
            have BWn : Aside0 ((w20.setCell ⟨go, j * 4 + 3, none⟩ (.int .i64 am)).heap[w.heap.size]? = some (.cells #[.int .i64 a0_0, .int .i64 a0_1, .int .i64 a0_2] 23 (0, 0))) := by
              have hb := BW20.out
              have hn : go ≠ w.heap.size := by omega
              exact ⟨by simp [World.setCell, Array.getElem?_modify, hb, hn]⟩
            have BCn : Aside0 ((w20.setCell ⟨go, j * 4 + 3, none⟩ (.int .i64 am)).heap[w.heap.size + 1]? = some (.cells #[.int .i64 a3_0, .int .i64 a3_1, .int .i64 a3_2] 37 (0, 0))) := by
              have hb := BC20.out
              have hn : go ≠ w.heap.size + 1 := by omega
              exact ⟨by simp [World.setCell, Array.getElem?_modify, hb, hn]⟩
            have HBn : Aside0 (Below w.heap.size w (w20.setCell ⟨go, j * 4 + 3, none⟩ (.int .i64 am))) := ⟨below_set HB20.out (by omega)⟩
            have HNn : Aside0 (N2 ≤ (w20.setCell ⟨go, j * 4 + 3, none⟩ (.int .i64 am)).heap.size) := ⟨by have := HN20.out; simpa using this⟩
            have hls : (out2.set j ⟨xj.f0, xj.f1, am⟩).length = out2.length := List.length_set ..
            clear hseg hcl1 hM1 hM1' hcc1 hfr1 hxj hfj
            go_roundg (ss.length - (i + 1))
            case measure => omega
            case rel =>
              refine ⟨i + 1, out2.set j ⟨xj.f0, xj.f1, am⟩, by first | rfl | go_num | (congr 1; omega), by omega, Nat.le_refl _, by omega, ⟨?_⟩, ⟨by have h := HOn.out; exact h⟩, HFn, BWn, BCn, HBn, HNn⟩
              rw [← HE.out, List.drop_eq_getElem_cons hlt, List.foldl_cons]
              congr 1
              rw [← HX.out, HST.out]
    · have hltz : ¬ (i : Int) < (ss.length : Int) := by omega
      have he : out = ss.foldl (stepP a0_0 a1 a3_0 a3_2) l2 := by
        rw [← HE.out, List.drop_eq_nil_of_le (by omega)]; rfl
      have hso := window_Sort.calls Ao co out (sortP out) wr (Kd.R_reads' HO.out).2.2 (Kd.R_reads' HO.out).2.1 (by rw [window_Sort.f, if_pos (by omega)])
      have HE2 := Aside0.mk he
      clear he
      go_wp2_with (go_at_call 26; refine hso.mono ?_; rintro e w9 ⟨v9, rfl, hR9, hB9⟩)
      go_ret
      have hsz := HB.out.size
      refine ⟨_, rfl, ?_, below_step HB.out hB9⟩
      rw [← HE2.out]
      exact Kd.R_lower hR9 hsz
end Go.Proofs.Ytdinbnbogdadgaa.X
namespace Go.Proofs.Ytdinbnbogdadgaa.X
open Go.RowKit Go.Proofs.YtdinbnbogdadgaaW.PrintWords Go.Proofs.YtdinbnbogdadgaaW.PrintLast Go.Proofs.YtdinbnbogdadgaaW.PrintMore
attribute [local go_sem] max2_int min2_int max_two min_two max_three min_three max_four min_four   -- for this text's walks alone
set_option linter.unusedVariables false
set_option linter.unusedSimpArgs false
attribute [local go_sem high] eqA31
def leatlaw11_known.l0 : Nat -> List (S31) -> List (S46) -> List Int -> Int -> Int -> Int -> Int -> Int -> Option (Bool)
 | 0, _, _, _, _, _, _, _, _ => none
 | k + 1, x1, x3, x12, x13, x14, x157000, x157001, x157002 => if x14 < x13 then (if 0 <= x14 then (if x14 < (x12.length : Int) then ((window_Put.f k x157000 x157001 x157002 2 x3 1 (rd x12 x14) 0).bind fun t161 => (leatlaw11_known.l0 k x1 t161 x12 x13 (wrap64 (x14 + 1)) x157000 x157001 x157002)) else (none)) else (none)) else ((window_Fire.f k x3 14).bind fun bt164 => ((window_Spans.f k 1 10 0 (-1)).bind fun t170 => ((leathelp_Spans.f k x1 (([(⟨0, 10⟩ : S31), (⟨4, 14⟩ : S31), (⟨8, 18⟩ : S31)] : List (S31)))).bind fun t176 => (if t176 = true then ((leathelp_Panes.f k x3 (([(⟨1, (⟨0, 9⟩ : S31), 2⟩ : S46), (⟨1, (⟨9, 14⟩ : S31), 1⟩ : S46), (⟨1, (⟨20, 25⟩ : S31), 1⟩ : S46)] : List (S46)))).bind fun t180 => (if t180 = true then ((leathelp_Records.f k bt164.1 (([(⟨1, 8, 2⟩ : S37), (⟨1, 13, 1⟩ : S37)] : List (S37)))).bind fun t184 => (if t184 = true then (if (bt164.2.length : Int) = 1 then (if (t170.length : Int) = 1 then (if 0 < (t170.length : Int) then (some (((rd_T31 t170 0).f0) == (-10) && (((rd_T31 t170 0).f1) == 0))) else (none)) else (some false)) else (some false)) else (some false))) else (some false))) else (some false)))))
def leatlaw11_known.f (k : Nat)  : Option (Bool) := (window_Spans.f k 2 10 4 9).bind fun t153 => ((some (([0, 4, 9, 20] : List Int) : List Int)).bind fun y157 => (leatlaw11_known.l0 k t153 ([] : List (S46)) y157 (y157.length : Int) 0 3 5 0))
set_option maxHeartbeats 8000000 in
set_option maxRecDepth 100000 in
theorem leatlaw11_known.calls (k : Nat)  (r : Bool) (w : World) (h : leatlaw11_known.f k  = some r) :
  Calls Try.prog 12 #[] w fun e w' => e = .returned (.bool r) /\ Below w.heap.size w w' := by
 have hu23 := Try.underlying23
 have hu37 := Try.underlying37
 have hu31 := Try.underlying31
 have hu46 := Try.underlying46
 have HB := zd (Below.refl w.heap.size w)
 have H : ((window_Spans.f k 2 10 4 9).bind fun t153 => ((some (([0, 4, 9, 20] : List Int) : List Int)).bind fun y157 => (leatlaw11_known.l0 k t153 ([] : List (S46)) y157 (y157.length : Int) 0 3 5 0))) = some r := h
 clear h
 replace H := Option.bind_eq_some_iff.mp H
 obtain ⟨t153, A10, H⟩ := H
 replace H : ((some (([0, 4, 9, 20] : List Int) : List Int)).bind fun y157 => (leatlaw11_known.l0 k t153 ([] : List (S46)) y157 (y157.length : Int) 0 3 5 0)) = some r := H
 have A1 := zd A10
 clear A10
 obtain ⟨y157, hy157⟩ : ∃ y_ : List Int, y_ = (([0, 4, 9, 20] : List Int)) := ⟨_, rfl⟩
 replace H : (leatlaw11_known.l0 k t153 ([] : List (S46)) y157 (y157.length : Int) 0 3 5 0) = some r := by first | (rw [hy157]; with_reducible exact H) | (have H2_ := (Option.bind_some _ _).symm.trans H; rw [hy157]; with_reducible exact H2_) | (have H2_ := (Option.bind_some _ _).symm.trans H; with_reducible exact H2_) | with_reducible exact H | (rw [hy157]; exact H) | exact H
 have Ny157 := zd hy157
 clear hy157
 have H' := zd H
 clear H
 go_enter Try.func12, Try.ntmps12
 go_wp2_with (first | ((with_reducible refine gate_callee (f := 15) rfl ?_); refine goesL_ (some 10) rfl rfl Try.func15 (by kernel_rfl) rfl #[.agg #[.int .i64 2, .int .i64 10, .int .i64 4], .int .i64 9] rfl (by (try simp only [List.map_toArray, List.map_cons, List.map_nil]); first | done | rfl | (simp only [List.length_drop, List.length_take]; rfl)) ?_; (with_reducible refine (window_Spans.calls k 2 10 4 9 t153 _ A1.out).mono ?_); rintro e w2 ⟨v154, rfl, ho0, hb⟩; refine ⟨_, rfl, ?_⟩; have n0_ := zd (Kd.R_lower ho0 (below_size (by repeat (first | (with_reducible first | exact HB.out | apply zh | apply zi | apply zj) | exact HB.out)))); have n1_ := zd (zs (by repeat (first | (with_reducible first | exact HB.out | apply zh | apply zi | apply zj) | exact HB.out)) hb); clear HB; have HO155 := n0_; have HB := n1_; clear n0_ n1_; (try clear hb); (try clear hb2); (try clear hk); (try clear hi); (try clear ho0)) | ((with_reducible refine gate_dst (N := 2) rfl ?_); (try (refine gate_guard (by rfl) ?_; dsimp only)); refine box_event ?hg (N := 2) ?hd (cs := #[.int .i64 0, .int .i64 0, .int .i64 0]) (t := 23) ?hr ?_; (case hd => rfl); (case hg => rfl); (case hr => first | (go_simp; done) | (go_simp; rfl)); intro gb156 hg w3 hbox hb; have n0_ := zd (zr (by (with_reducible repeat (first | apply ze | apply zf | apply zg)); exact HO155.out) hb); have n1_ := zd (zs (by repeat (first | (with_reducible first | exact HB.out | apply zh | apply zi | apply zj) | exact HB.out)) hb); have n2_ := zd (hbox); have n3_ := zd ((by rw [hg]; exact (below_size (by repeat (first | (with_reducible first | exact HB.out | apply zh | apply zi | apply zj) | exact HB.out))) : w.heap.size <= gb156)); have n4_ := zd ((by rw [hg]; exact (below_size (by repeat (first | (with_reducible first | exact HB.out | apply zh | apply zi | apply zj) | exact HB.out))) : w.heap.size <= gb156)); clear HO155; clear HB; have HO155 := n0_; have HB := n1_; have BK156 := n2_; have GW156 := n3_; have GE156 := n4_; clear n0_ n1_ n2_ n3_ n4_; clear hb hbox hg; have hcz4_0 : w3.cell? ⟨gb156, 0, none⟩ = some (.int .i64 0) := (zo BK156.out 0).trans rfl; have hcz4_1 : w3.cell? ⟨gb156, 1, none⟩ = some (.int .i64 0) := (zo BK156.out 1).trans rfl; have hcz4_2 : w3.cell? ⟨gb156, 2, none⟩ = some (.int .i64 0) := (zo BK156.out 2).trans rfl; have hfz4_0 := blk_frozen BK156.out 0; have hfz4_1 := blk_frozen BK156.out 1; have hfz4_2 := blk_frozen BK156.out 2) | ((with_reducible refine gate_dst (N := 12) rfl ?_); (try (refine gate_guard (by rfl) ?_; dsimp only)); refine Kd.R_lit (Kd.int .i64) _ 2 ?hg (N := 12) ?hd (xs := ([0, 4, 9, 20] : List Int)) (inner := [.int .i64 0, .int .i64 4, .int .i64 9, .int .i64 20]) (ok := fun _ => True) (okp := fun _ => True) ?hr ?hp (fun _ hk => hk) trivial (Below.refl _ _) (Nat.le_refl _) (by simp) ?_; (case hd => rfl); (case hg => rfl); (case hr => first | (go_simp; done) | (go_simp; rfl)); (case hp => exact (Reps.one (show Kd.M (Kd.int .i64) _ _ _ 0 [.int .i64 0] from rfl) (Reps.one (show Kd.M (Kd.int .i64) _ _ _ 4 [.int .i64 4] from rfl) (Reps.one (show Kd.M (Kd.int .i64) _ _ _ 9 [.int .i64 9] from rfl) (Reps.one (show Kd.M (Kd.int .i64) _ _ _ 20 [.int .i64 20] from rfl) (Reps.none _ _)))))); intro v158 w5 ho6 hb hg_ hnew_; clear hg_ hnew_; (first | rw [← Ny157.out] at ho6 | (simp only [Int.reduceToNat] at ho6; rw [← Ny157.out] at ho6)); have n0_ := zd (zr (by (with_reducible repeat (first | apply ze | apply zf | apply zg)); exact (zq (Kd.R_far (p := ⟨gb156, 2, none⟩) (Kd.R_far (p := ⟨gb156, 1, none⟩) (Kd.R_far (p := ⟨gb156, 0, none⟩) (Kd.R_types HO155.out BK156.out (by decide)) (fun _ hk => hk.2) (.int .i64 3)) (fun _ hk => hk.2) (.int .i64 5)) (fun _ hk => hk.2) (.int .i64 0)) (fun _ h_ => h_.1))) hb); have n1_ := zd (Kd.R_lower ho6 (below_size (by repeat (first | (with_reducible first | exact HB.out | apply zh | apply zi | apply zj | refine zn ?_ GE156.out) | exact HB.out)))); have n2_ := zd (zp (g := gb156) (o := .cells #[.int .i64 3, .int .i64 5, .int .i64 0] 23 (0, 0)) (by (with_reducible repeat (first | refine zk ?_ _ | refine zl ?_ | refine zm ?_ _)); refine blk_put (cs := #[.int .i64 3, .int .i64 5, .int .i64 0]) ?_ 2 _ rfl; (with_reducible repeat (first | refine zk ?_ _ | refine zl ?_ | refine zm ?_ _)); refine blk_put (cs := #[.int .i64 3, .int .i64 0, .int .i64 0]) ?_ 1 _ rfl; (with_reducible repeat (first | refine zk ?_ _ | refine zl ?_ | refine zm ?_ _)); refine blk_put (cs := #[.int .i64 0, .int .i64 0, .int .i64 0]) ?_ 0 _ rfl; (with_reducible repeat (first | refine zk ?_ _ | refine zl ?_ | refine zm ?_ _)); exact BK156.out) hb); have n3_ := zd (zs (by repeat (first | (with_reducible first | exact HB.out | apply zh | apply zi | apply zj | refine zn ?_ GE156.out) | exact HB.out)) hb); clear HO155; clear BK156; clear HB; have HO155 := n0_; have HO159 := n1_; have BK156 := n2_; have HB := n3_; clear n0_ n1_ n2_ n3_; clear hb ho6; obtain ⟨Ao7, co7, eo7⟩ := Kd.R_slice HO159.out; subst eo7))
 go_loopg [3, 14] k (fun kq v3 v14 w' => ∃ (x3_1 : List (S46)) (x14_1 : Int), v14 = .int .i64 x14_1 /\ Aside0 (leatlaw11_known.l0 kq t153 x3_1 y157 (y157.length : Int) x14_1 3 5 0 = some r) /\ Aside0 (kq <= k) /\ Aside0 (Kd.R k31 31 w' w.heap.size (fun _ => True) v154 t153) /\ Aside0 (Kd.R k46 46 w' w.heap.size (fun _ => True) v3 x3_1) /\ Aside0 (Kd.R (Kd.int .i64) 2 w' w.heap.size (fun _ => True) (.slice Ao7 y157.length co7) y157) /\ Aside0 (w'.heap[gb156]? = some (.cells #[.int .i64 3, .int .i64 5, .int .i64 0] 23 (0, 0))) /\ Aside0 (Below w.heap.size w w'))
 case atStart => exact ⟨(([] : List (S46))), (0), (by first | rfl | (simp; done) | (simp [*]; done)), H', ⟨Nat.le_refl _⟩, ⟨by (with_reducible repeat (first | apply ze | apply zf | apply zg)); exact HO155.out⟩, ⟨by first | exact Kd.R_nil _ _ _ _ _ | exact Kd.N_nil _ _ _ _ _ | exact Kd.V_nil _ _ _ _ _ | exact Kd.Q_nil _ _ _ _ _ | exact Kd.S_nil _ _ _ _ _⟩, ⟨by (with_reducible repeat (first | apply ze | apply zf | apply zg)); exact HO159.out⟩, ⟨by (with_reducible repeat (first | refine zk ?_ _ | refine zl ?_ | refine zm ?_ _)); exact BK156.out⟩, ⟨by repeat (first | (with_reducible first | exact HB.out | apply zh | apply zi | apply zj | refine zn ?_ GE156.out) | exact HB.out)⟩⟩
 case round =>
  clear H'
  try clear c1; try clear p2; try clear hcz4_0; try clear hcz4_1; try clear hcz4_2; try clear hfz4_0; try clear hfz4_1; try clear hfz4_2
  obtain ⟨x3_1, x14_1, rfl, HA, HK1, HO_1, HO_3, HO_12, BK156, HB⟩ := hrel
  cases gk with
  | zero => exact absurd HA.out (by simp [leatlaw11_known.l0])
  | succ k1 =>
   have H := HA.out
   clear HA
   simp only [leatlaw11_known.l0] at H
   by_cases c8 : x14_1 < (y157.length : Int)
   ·rw [if_pos c8] at H
    have c8b0 : decide (x14_1 < (y157.length : Int)) = true := decide_eq_true c8
    clear c8
    by_cases c9 : 0 <= x14_1
    ·rw [if_pos c9] at H
     have c9b0 : decide (0 <= x14_1) = true := decide_eq_true c9
     clear c9
     by_cases c10 : x14_1 < (y157.length : Int)
     ·rw [if_pos c10] at H
      have c10b0 : decide (x14_1 < (y157.length : Int)) = true := decide_eq_true c10
      clear c10
      replace H := Option.bind_eq_some_iff.mp H
      obtain ⟨t161, A110, H⟩ := H
      replace H : (leatlaw11_known.l0 k1 t153 t161 y157 (y157.length : Int) (wrap64 (x14_1 + 1)) 3 5 0) = some r := H
      have A11 := zd A110
      clear A110
      have H' := zd H
      clear H
      have p160 : 0 <= (x14_1 : Int) := of_decide_eq_true (by first | (with_reducible assumption) | assumption)
      have q160 : x14_1 < (y157.length : Int) := of_decide_eq_true (by first | (with_reducible assumption) | assumption)
      obtain ⟨ad160, e160, hx160_0⟩ := Kd.at_int (Kd.R_reads' HO_12.out).2.2 x14_1 p160 q160
      cases e160
      replace p160 := eq_true p160
      replace q160 := eq_true q160
      have hcz12_0 : wr.cell? ⟨gb156, 0, none⟩ = some (.int .i64 3) := (zo BK156.out 0).trans rfl
      have hcz12_1 : wr.cell? ⟨gb156, 1, none⟩ = some (.int .i64 5) := (zo BK156.out 1).trans rfl
      have hcz12_2 : wr.cell? ⟨gb156, 2, none⟩ = some (.int .i64 0) := (zo BK156.out 2).trans rfl
      have hfz12_0 := blk_frozen BK156.out 0
      have hfz12_1 := blk_frozen BK156.out 1
      have hfz12_2 := blk_frozen BK156.out 2
      obtain ⟨Ao13, co13, eo13⟩ := Kd.R_slice HO_3.out
      subst eo13
      go_wp2_with (first | ((with_reducible refine gate_callee (f := 18) rfl ?_); refine goesL_ (some 22) rfl rfl Try.func18 (by kernel_rfl) rfl #[.agg #[.int .i64 3, .int .i64 5, .int .i64 0], .int .i64 2, .slice Ao13 x3_1.length co13, .agg #[.int .i64 1, .int .i64 (rd y157 x14_1), .int .i64 0]] rfl (by (try simp only [List.map_toArray, List.map_cons, List.map_nil]); first | done | rfl | (simp only [List.length_drop, List.length_take]; rfl)) ?_; (with_reducible refine (window_Put.calls k1 3 5 0 2 _ _ x3_1 1 (rd y157 x14_1) 0 t161 _ ?side1 ?side2 A11.out).mono ?_); (case side1 => repeat (first | exact (Kd.R_reads' HO_3.out).2.2 | (with_reducible refine Kd.C_alloc ?_ _) | (with_reducible refine Kd.C_drewN ?_ _) | (with_reducible refine Kd.C_drew ?_))); (case side2 => exact (Kd.R_reads' HO_3.out).2.1); rintro e w14 ⟨v162, rfl, ho0, hb⟩; refine ⟨_, rfl, ?_⟩; have n0_ := zd (zr (by (with_reducible repeat (first | apply ze | apply zf | apply zg)); exact HO_1.out) hb); have n1_ := zd (Kd.R_elder' (by (with_reducible repeat (first | apply ze | apply zf | apply zg)); exact HO_3.out) (Kd.R_base ho0) hb); have n2_ := zd (zr (by (with_reducible repeat (first | apply ze | apply zf | apply zg)); exact HO_12.out) hb); have n3_ := zd (Kd.R_lower (Kd.R_new' ho0 (Kd.R_lt (by (with_reducible repeat (first | apply ze | apply zf | apply zg)); exact HO_3.out))) (below_size (by repeat (first | (with_reducible first | exact HB.out | apply zh | apply zi | apply zj | refine zn ?_ GE156.out) | exact HB.out)))); have n4_ := zd (zp (g := gb156) (o := .cells #[.int .i64 3, .int .i64 5, .int .i64 0] 23 (0, 0)) (by (with_reducible repeat (first | refine zk ?_ _ | refine zl ?_ | refine zm ?_ _)); exact BK156.out) hb); have n5_ := zd (zs (by repeat (first | (with_reducible first | exact HB.out | apply zh | apply zi | apply zj | refine zn ?_ GE156.out) | exact HB.out)) hb); clear HO_1; clear HO_3; clear HO_12; clear BK156; clear HB; have HO_1 := n0_; have HO_3 := n1_; have HO_12 := n2_; have HO163 := n3_; have BK156 := n4_; have HB := n5_; clear n0_ n1_ n2_ n3_ n4_ n5_; (try clear hb); (try clear hb2); (try clear hk); (try clear hi); (try clear ho0)))
      go_roundg k1
      case measure => have := HK1.out; omega
      case rel => exact ⟨(t161), (wrap64 (x14_1 + 1)), (by first | rfl | (simp; done) | (simp [*]; done)), H', ⟨by have := HK1.out; omega⟩, ⟨by (with_reducible repeat (first | apply ze | apply zf | apply zg)); exact HO_1.out⟩, ⟨by (with_reducible repeat (first | apply ze | apply zf | apply zg)); exact zq HO163.out (fun _ hk => trivial)⟩, ⟨by (with_reducible repeat (first | apply ze | apply zf | apply zg)); exact HO_12.out⟩, ⟨by (with_reducible repeat (first | refine zk ?_ _ | refine zl ?_ | refine zm ?_ _)); exact BK156.out⟩, ⟨by repeat (first | (with_reducible first | exact HB.out | apply zh | apply zi | apply zj | refine zn ?_ GE156.out) | exact HB.out)⟩⟩
     ·rw [if_neg c10] at H
      exact absurd H (by simp)
    ·rw [if_neg c9] at H
     exact absurd H (by simp)
   ·rw [if_neg c8] at H
    have c8b0 : decide (x14_1 < (y157.length : Int)) = false := decide_eq_false c8
    clear c8
    replace H := Option.bind_eq_some_iff.mp H
    obtain ⟨⟨t164, t165⟩, A150, H⟩ := H
    replace H : ((window_Spans.f k1 1 10 0 (-1)).bind fun t170 => ((leathelp_Spans.f k1 t153 (([(⟨0, 10⟩ : S31), (⟨4, 14⟩ : S31), (⟨8, 18⟩ : S31)] : List (S31)))).bind fun t176 => (if t176 = true then ((leathelp_Panes.f k1 x3_1 (([(⟨1, (⟨0, 9⟩ : S31), 2⟩ : S46), (⟨1, (⟨9, 14⟩ : S31), 1⟩ : S46), (⟨1, (⟨20, 25⟩ : S31), 1⟩ : S46)] : List (S46)))).bind fun t180 => (if t180 = true then ((leathelp_Records.f k1 t164 (([(⟨1, 8, 2⟩ : S37), (⟨1, 13, 1⟩ : S37)] : List (S37)))).bind fun t184 => (if t184 = true then (if (t165.length : Int) = 1 then (if (t170.length : Int) = 1 then (if 0 < (t170.length : Int) then (some (((rd_T31 t170 0).f0) == (-10) && (((rd_T31 t170 0).f1) == 0))) else (none)) else (some false)) else (some false)) else (some false))) else (some false))) else (some false)))) = some r := H
    have A15 := zd A150
    clear A150
    replace H := Option.bind_eq_some_iff.mp H
    obtain ⟨t170, A160, H⟩ := H
    replace H : ((leathelp_Spans.f k1 t153 (([(⟨0, 10⟩ : S31), (⟨4, 14⟩ : S31), (⟨8, 18⟩ : S31)] : List (S31)))).bind fun t176 => (if t176 = true then ((leathelp_Panes.f k1 x3_1 (([(⟨1, (⟨0, 9⟩ : S31), 2⟩ : S46), (⟨1, (⟨9, 14⟩ : S31), 1⟩ : S46), (⟨1, (⟨20, 25⟩ : S31), 1⟩ : S46)] : List (S46)))).bind fun t180 => (if t180 = true then ((leathelp_Records.f k1 t164 (([(⟨1, 8, 2⟩ : S37), (⟨1, 13, 1⟩ : S37)] : List (S37)))).bind fun t184 => (if t184 = true then (if (t165.length : Int) = 1 then (if (t170.length : Int) = 1 then (if 0 < (t170.length : Int) then (some (((rd_T31 t170 0).f0) == (-10) && (((rd_T31 t170 0).f1) == 0))) else (none)) else (some false)) else (some false)) else (some false))) else (some false))) else (some false))) = some r := H
    have A16 := zd A160
    clear A160
    obtain ⟨y173, hy173⟩ : ∃ y_ : List (S31), y_ = (([(⟨0, 10⟩ : S31), (⟨4, 14⟩ : S31), (⟨8, 18⟩ : S31)] : List (S31))) := ⟨_, rfl⟩
    replace H : ((leathelp_Spans.f k1 t153 y173).bind fun t176 => (if t176 = true then ((leathelp_Panes.f k1 x3_1 (([(⟨1, (⟨0, 9⟩ : S31), 2⟩ : S46), (⟨1, (⟨9, 14⟩ : S31), 1⟩ : S46), (⟨1, (⟨20, 25⟩ : S31), 1⟩ : S46)] : List (S46)))).bind fun t180 => (if t180 = true then ((leathelp_Records.f k1 t164 (([(⟨1, 8, 2⟩ : S37), (⟨1, 13, 1⟩ : S37)] : List (S37)))).bind fun t184 => (if t184 = true then (if (t165.length : Int) = 1 then (if (t170.length : Int) = 1 then (if 0 < (t170.length : Int) then (some (((rd_T31 t170 0).f0) == (-10) && (((rd_T31 t170 0).f1) == 0))) else (none)) else (some false)) else (some false)) else (some false))) else (some false))) else (some false))) = some r := by first | (rw [hy173]; with_reducible exact H) | (have H2_ := (Option.bind_some _ _).symm.trans H; rw [hy173]; with_reducible exact H2_) | (have H2_ := (Option.bind_some _ _).symm.trans H; with_reducible exact H2_) | with_reducible exact H | (rw [hy173]; exact H) | exact H
    have Ny173 := zd hy173
    clear hy173
    replace H := Option.bind_eq_some_iff.mp H
    obtain ⟨t176, A170, H⟩ := H
    replace H : (if t176 = true then ((leathelp_Panes.f k1 x3_1 (([(⟨1, (⟨0, 9⟩ : S31), 2⟩ : S46), (⟨1, (⟨9, 14⟩ : S31), 1⟩ : S46), (⟨1, (⟨20, 25⟩ : S31), 1⟩ : S46)] : List (S46)))).bind fun t180 => (if t180 = true then ((leathelp_Records.f k1 t164 (([(⟨1, 8, 2⟩ : S37), (⟨1, 13, 1⟩ : S37)] : List (S37)))).bind fun t184 => (if t184 = true then (if (t165.length : Int) = 1 then (if (t170.length : Int) = 1 then (if 0 < (t170.length : Int) then (some (((rd_T31 t170 0).f0) == (-10) && (((rd_T31 t170 0).f1) == 0))) else (none)) else (some false)) else (some false)) else (some false))) else (some false))) else (some false)) = some r := H
    have A17 := zd A170
    clear A170
    by_cases c18 : t176 = true
    ·subst c18
     have H1 : ((leathelp_Panes.f k1 x3_1 (([(⟨1, (⟨0, 9⟩ : S31), 2⟩ : S46), (⟨1, (⟨9, 14⟩ : S31), 1⟩ : S46), (⟨1, (⟨20, 25⟩ : S31), 1⟩ : S46)] : List (S46)))).bind fun t180 => (if t180 = true then ((leathelp_Records.f k1 t164 (([(⟨1, 8, 2⟩ : S37), (⟨1, 13, 1⟩ : S37)] : List (S37)))).bind fun t184 => (if t184 = true then (if (t165.length : Int) = 1 then (if (t170.length : Int) = 1 then (if 0 < (t170.length : Int) then (some (((rd_T31 t170 0).f0) == (-10) && (((rd_T31 t170 0).f1) == 0))) else (none)) else (some false)) else (some false)) else (some false))) else (some false))) = some r := by rw [if_pos rfl] at H; exact H
     clear H
     have H := H1
     clear H1
     obtain ⟨y177, hy177⟩ : ∃ y_ : List (S46), y_ = (([(⟨1, (⟨0, 9⟩ : S31), 2⟩ : S46), (⟨1, (⟨9, 14⟩ : S31), 1⟩ : S46), (⟨1, (⟨20, 25⟩ : S31), 1⟩ : S46)] : List (S46))) := ⟨_, rfl⟩
     replace H : ((leathelp_Panes.f k1 x3_1 y177).bind fun t180 => (if t180 = true then ((leathelp_Records.f k1 t164 (([(⟨1, 8, 2⟩ : S37), (⟨1, 13, 1⟩ : S37)] : List (S37)))).bind fun t184 => (if t184 = true then (if (t165.length : Int) = 1 then (if (t170.length : Int) = 1 then (if 0 < (t170.length : Int) then (some (((rd_T31 t170 0).f0) == (-10) && (((rd_T31 t170 0).f1) == 0))) else (none)) else (some false)) else (some false)) else (some false))) else (some false))) = some r := by first | (rw [hy177]; with_reducible exact H) | (have H2_ := (Option.bind_some _ _).symm.trans H; rw [hy177]; with_reducible exact H2_) | (have H2_ := (Option.bind_some _ _).symm.trans H; with_reducible exact H2_) | with_reducible exact H | (rw [hy177]; exact H) | exact H
     have Ny177 := zd hy177
     clear hy177
     replace H := Option.bind_eq_some_iff.mp H
     obtain ⟨t180, A190, H⟩ := H
     replace H : (if t180 = true then ((leathelp_Records.f k1 t164 (([(⟨1, 8, 2⟩ : S37), (⟨1, 13, 1⟩ : S37)] : List (S37)))).bind fun t184 => (if t184 = true then (if (t165.length : Int) = 1 then (if (t170.length : Int) = 1 then (if 0 < (t170.length : Int) then (some (((rd_T31 t170 0).f0) == (-10) && (((rd_T31 t170 0).f1) == 0))) else (none)) else (some false)) else (some false)) else (some false))) else (some false)) = some r := H
     have A19 := zd A190
     clear A190
     by_cases c20 : t180 = true
     ·subst c20
      have H1 : ((leathelp_Records.f k1 t164 (([(⟨1, 8, 2⟩ : S37), (⟨1, 13, 1⟩ : S37)] : List (S37)))).bind fun t184 => (if t184 = true then (if (t165.length : Int) = 1 then (if (t170.length : Int) = 1 then (if 0 < (t170.length : Int) then (some (((rd_T31 t170 0).f0) == (-10) && (((rd_T31 t170 0).f1) == 0))) else (none)) else (some false)) else (some false)) else (some false))) = some r := by rw [if_pos rfl] at H; exact H
      clear H
      have H := H1
      clear H1
      obtain ⟨y181, hy181⟩ : ∃ y_ : List (S37), y_ = (([(⟨1, 8, 2⟩ : S37), (⟨1, 13, 1⟩ : S37)] : List (S37))) := ⟨_, rfl⟩
      replace H : ((leathelp_Records.f k1 t164 y181).bind fun t184 => (if t184 = true then (if (t165.length : Int) = 1 then (if (t170.length : Int) = 1 then (if 0 < (t170.length : Int) then (some (((rd_T31 t170 0).f0) == (-10) && (((rd_T31 t170 0).f1) == 0))) else (none)) else (some false)) else (some false)) else (some false))) = some r := by first | (rw [hy181]; with_reducible exact H) | (have H2_ := (Option.bind_some _ _).symm.trans H; rw [hy181]; with_reducible exact H2_) | (have H2_ := (Option.bind_some _ _).symm.trans H; with_reducible exact H2_) | with_reducible exact H | (rw [hy181]; exact H) | exact H
      have Ny181 := zd hy181
      clear hy181
      replace H := Option.bind_eq_some_iff.mp H
      obtain ⟨t184, A210, H⟩ := H
      replace H : (if t184 = true then (if (t165.length : Int) = 1 then (if (t170.length : Int) = 1 then (if 0 < (t170.length : Int) then (some (((rd_T31 t170 0).f0) == (-10) && (((rd_T31 t170 0).f1) == 0))) else (none)) else (some false)) else (some false)) else (some false)) = some r := H
      have A21 := zd A210
      clear A210
      by_cases c22 : t184 = true
      ·subst c22
       have H1 : (if (t165.length : Int) = 1 then (if (t170.length : Int) = 1 then (if 0 < (t170.length : Int) then (some (((rd_T31 t170 0).f0) == (-10) && (((rd_T31 t170 0).f1) == 0))) else (none)) else (some false)) else (some false)) = some r := by rw [if_pos rfl] at H; exact H
       clear H
       have H := H1
       clear H1
       by_cases c23 : (t165.length : Int) = 1
       ·rw [if_pos c23] at H
        have c23b0 : ((t165.length : Int) == 1) = true := beq_iff_eq.mpr c23
        have c23b1 : ((t165.length : Int) != 1) = false := bne_eq_false_iff_eq.mpr c23
        clear c23
        by_cases c24 : (t170.length : Int) = 1
        ·rw [if_pos c24] at H
         have c24b0 : ((t170.length : Int) == 1) = true := beq_iff_eq.mpr c24
         have c24b1 : ((t170.length : Int) != 1) = false := bne_eq_false_iff_eq.mpr c24
         clear c24
         by_cases c25 : 0 < (t170.length : Int)
         ·rw [if_pos c25] at H
          have c25b0 : decide (0 < (t170.length : Int)) = true := decide_eq_true c25
          have c25b1 : decide (0 < t170.length) = true := decide_eq_true (by omega)
          clear c25
          obtain rfl := Option.some.inj H
          obtain ⟨Ao26, co26, eo26⟩ := Kd.R_slice HO_3.out
          subst eo26
          go_wp2_with (first | ((with_reducible refine gate_callee (f := 21) rfl ?_); refine goesL_ (some 26) rfl rfl Try.func21 (by kernel_rfl) rfl #[.slice Ao26 x3_1.length co26, .int .i64 14] rfl (by (try simp only [List.map_toArray, List.map_cons, List.map_nil]); first | done | rfl | (simp only [List.length_drop, List.length_take]; rfl)) ?_; (with_reducible refine (window_Fire.calls k1 _ _ x3_1 14 t164 t165 _ ?side1 ?side2 A15.out).mono ?_); (case side1 => repeat (first | exact (Kd.R_reads' HO_3.out).2.2 | (with_reducible refine Kd.C_alloc ?_ _) | (with_reducible refine Kd.C_drewN ?_ _) | (with_reducible refine Kd.C_drew ?_))); (case side2 => exact (Kd.R_reads' HO_3.out).2.1); rintro e w27 ⟨v166, v168, rfl, ho0, ho1, hb⟩; refine ⟨_, rfl, ?_⟩; have n0_ := zd (zr (by (with_reducible repeat (first | apply ze | apply zf | apply zg)); exact HO_1.out) hb); have n1_ := zd (Kd.R_elder' (by (with_reducible repeat (first | apply ze | apply zf | apply zg)); exact HO_3.out) (Kd.R_base ho1) hb); have n2_ := zd (zr (by (with_reducible repeat (first | apply ze | apply zf | apply zg)); exact HO_12.out) hb); have n3_ := zd (Kd.R_lower ho0 (below_size (by repeat (first | (with_reducible first | exact HB.out | apply zh | apply zi | apply zj | refine zn ?_ GE156.out) | exact HB.out)))); have n4_ := zd (Kd.R_lower (Kd.R_new' ho1 (Kd.R_lt (by (with_reducible repeat (first | apply ze | apply zf | apply zg)); exact HO_3.out))) (below_size (by repeat (first | (with_reducible first | exact HB.out | apply zh | apply zi | apply zj | refine zn ?_ GE156.out) | exact HB.out)))); have n5_ := zd (zp (g := gb156) (o := .cells #[.int .i64 3, .int .i64 5, .int .i64 0] 23 (0, 0)) (by (with_reducible repeat (first | refine zk ?_ _ | refine zl ?_ | refine zm ?_ _)); exact BK156.out) hb); have n6_ := zd (zs (by repeat (first | (with_reducible first | exact HB.out | apply zh | apply zi | apply zj | refine zn ?_ GE156.out) | exact HB.out)) hb); clear HO_1; clear HO_3; clear HO_12; clear BK156; clear HB; have HO_1 := n0_; have HO_3 := n1_; have HO_12 := n2_; have HO167 := n3_; have HO169 := n4_; have BK156 := n5_; have HB := n6_; clear n0_ n1_ n2_ n3_ n4_ n5_ n6_; (try clear hb); (try clear hb2); (try clear hk); (try clear hi); (try clear ho0); (try clear ho1)) | ((with_reducible refine gate_callee (f := 15) rfl ?_); refine goesL_ (some 30) rfl rfl Try.func15 (by kernel_rfl) rfl #[.agg #[.int .i64 1, .int .i64 10, .int .i64 0], .int .i64 (-1)] rfl (by (try simp only [List.map_toArray, List.map_cons, List.map_nil]); first | done | rfl | (simp only [List.length_drop, List.length_take]; rfl)) ?_; (with_reducible refine (window_Spans.calls k1 1 10 0 (-1) t170 _ A16.out).mono ?_); rintro e w28 ⟨v171, rfl, ho0, hb⟩; refine ⟨_, rfl, ?_⟩; have n0_ := zd (Kd.R_elder' (by (with_reducible repeat (first | apply ze | apply zf | apply zg)); exact HO_1.out) (Kd.R_base ho0) hb); have n1_ := zd (zr (by (with_reducible repeat (first | apply ze | apply zf | apply zg)); exact HO_3.out) hb); have n2_ := zd (zr (by (with_reducible repeat (first | apply ze | apply zf | apply zg)); exact HO_12.out) hb); have n3_ := zd (zr (by (with_reducible repeat (first | apply ze | apply zf | apply zg)); exact HO167.out) hb); have n4_ := zd (zr (by (with_reducible repeat (first | apply ze | apply zf | apply zg)); exact HO169.out) hb); have n5_ := zd (Kd.R_lower (Kd.R_new' ho0 (Kd.R_lt (by (with_reducible repeat (first | apply ze | apply zf | apply zg)); exact HO_1.out))) (below_size (by repeat (first | (with_reducible first | exact HB.out | apply zh | apply zi | apply zj | refine zn ?_ GE156.out) | exact HB.out)))); have n6_ := zd (zp (g := gb156) (o := .cells #[.int .i64 3, .int .i64 5, .int .i64 0] 23 (0, 0)) (by (with_reducible repeat (first | refine zk ?_ _ | refine zl ?_ | refine zm ?_ _)); exact BK156.out) hb); have n7_ := zd (zs (by repeat (first | (with_reducible first | exact HB.out | apply zh | apply zi | apply zj | refine zn ?_ GE156.out) | exact HB.out)) hb); clear HO_1; clear HO_3; clear HO_12; clear HO167; clear HO169; clear BK156; clear HB; have HO_1 := n0_; have HO_3 := n1_; have HO_12 := n2_; have HO167 := n3_; have HO169 := n4_; have HO172 := n5_; have BK156 := n6_; have HB := n7_; clear n0_ n1_ n2_ n3_ n4_ n5_ n6_ n7_; (try clear hb); (try clear hb2); (try clear hk); (try clear hi); (try clear ho0)) | ((with_reducible refine gate_dst (N := 35) rfl ?_); (try (refine gate_guard (by rfl) ?_; dsimp only)); refine Kd.R_lit k31 _ 31 ?hg (N := 35) ?hd (xs := ([(⟨0, 10⟩ : S31), (⟨4, 14⟩ : S31), (⟨8, 18⟩ : S31)] : List (S31))) (inner := [.int .i64 0, .int .i64 10, .int .i64 4, .int .i64 14, .int .i64 8, .int .i64 18]) (ok := fun _ => True) (okp := fun _ => True) ?hr ?hp (fun _ hk => hk) trivial (Below.refl _ _) (Nat.le_refl _) (by simp) ?_; (case hd => rfl); (case hg => rfl); (case hr => first | (go_simp; done) | (go_simp; rfl)); (case hp => exact (Reps.c2 (show Kd.M k31 _ _ _ (⟨0, 10⟩ : S31) [.int .i64 0, .int .i64 10] from (k31_mkM _ _ _ (⟨0, 10⟩ : S31) )) (Reps.c2 (show Kd.M k31 _ _ _ (⟨4, 14⟩ : S31) [.int .i64 4, .int .i64 14] from (k31_mkM _ _ _ (⟨4, 14⟩ : S31) )) (Reps.c2 (show Kd.M k31 _ _ _ (⟨8, 18⟩ : S31) [.int .i64 8, .int .i64 18] from (k31_mkM _ _ _ (⟨8, 18⟩ : S31) )) (Reps.none _ _))))); intro v174 w29 ho30 hb hg_ hnew_; clear hg_ hnew_; (first | rw [← Ny173.out] at ho30 | (simp only [Int.reduceToNat] at ho30; rw [← Ny173.out] at ho30)); have n0_ := zd (Kd.R_elder' (by (with_reducible repeat (first | apply ze | apply zf | apply zg)); exact HO_1.out) (Kd.R_base ho30) hb); have n1_ := zd (zr (by (with_reducible repeat (first | apply ze | apply zf | apply zg)); exact HO_3.out) hb); have n2_ := zd (zr (by (with_reducible repeat (first | apply ze | apply zf | apply zg)); exact HO_12.out) hb); have n3_ := zd (zr (by (with_reducible repeat (first | apply ze | apply zf | apply zg)); exact HO167.out) hb); have n4_ := zd (zr (by (with_reducible repeat (first | apply ze | apply zf | apply zg)); exact HO169.out) hb); have n5_ := zd (Kd.R_elder' (by (with_reducible repeat (first | apply ze | apply zf | apply zg)); exact HO172.out) (Kd.R_base ho30) hb); have n6_ := zd (Kd.R_lower (Kd.R_new' (Kd.R_new' ho30 (Kd.R_lt (by (with_reducible repeat (first | apply ze | apply zf | apply zg)); exact HO_1.out))) (Kd.R_lt (by (with_reducible repeat (first | apply ze | apply zf | apply zg)); exact HO172.out))) (below_size (by repeat (first | (with_reducible first | exact HB.out | apply zh | apply zi | apply zj | refine zn ?_ GE156.out) | exact HB.out)))); have n7_ := zd (zp (g := gb156) (o := .cells #[.int .i64 3, .int .i64 5, .int .i64 0] 23 (0, 0)) (by (with_reducible repeat (first | refine zk ?_ _ | refine zl ?_ | refine zm ?_ _)); exact BK156.out) hb); have n8_ := zd (zs (by repeat (first | (with_reducible first | exact HB.out | apply zh | apply zi | apply zj | refine zn ?_ GE156.out) | exact HB.out)) hb); clear HO_1; clear HO_3; clear HO_12; clear HO167; clear HO169; clear HO172; clear BK156; clear HB; have HO_1 := n0_; have HO_3 := n1_; have HO_12 := n2_; have HO167 := n3_; have HO169 := n4_; have HO172 := n5_; have HO175 := n6_; have BK156 := n7_; have HB := n8_; clear n0_ n1_ n2_ n3_ n4_ n5_ n6_ n7_ n8_; clear hb ho30; obtain ⟨Ao31, co31, eo31⟩ := Kd.R_slice HO_1.out; subst eo31; obtain ⟨Ao32, co32, eo32⟩ := Kd.R_slice HO175.out; subst eo32) | ((with_reducible refine gate_callee (f := 16) rfl ?_); refine goesL_ (some 36) rfl rfl Try.func16 (by kernel_rfl) rfl #[.slice Ao31 t153.length co31, .slice Ao32 y173.length co32] rfl (by (try simp only [List.map_toArray, List.map_cons, List.map_nil]); first | done | rfl | (simp only [List.length_drop, List.length_take]; rfl)) ?_; (with_reducible refine (leathelp_Spans.calls k1 _ _ t153 _ _ y173 true _ ?side1 ?side2 ?side3 ?side4 A17.out).mono ?_); (case side1 => repeat (first | exact (Kd.R_reads' HO_1.out).2.2 | (with_reducible refine Kd.C_alloc ?_ _) | (with_reducible refine Kd.C_drewN ?_ _) | (with_reducible refine Kd.C_drew ?_))); (case side2 => exact (Kd.R_reads' HO_1.out).2.1); (case side3 => repeat (first | exact (Kd.R_reads' HO175.out).2.2 | (with_reducible refine Kd.C_alloc ?_ _) | (with_reducible refine Kd.C_drewN ?_ _) | (with_reducible refine Kd.C_drew ?_))); (case side4 => exact (Kd.R_reads' HO175.out).2.1); rintro e w' ⟨rfl, ⟨nd, rfl⟩⟩; refine ⟨_, rfl, ?_⟩) | ((with_reducible refine gate_dst (N := 45) rfl ?_); (try (refine gate_guard (by rfl) ?_; dsimp only)); refine Kd.R_lit k46 _ 46 ?hg (N := 45) ?hd (xs := ([(⟨1, (⟨0, 9⟩ : S31), 2⟩ : S46), (⟨1, (⟨9, 14⟩ : S31), 1⟩ : S46), (⟨1, (⟨20, 25⟩ : S31), 1⟩ : S46)] : List (S46))) (inner := [.int .i64 1, .int .i64 0, .int .i64 9, .int .i64 2, .int .i64 1, .int .i64 9, .int .i64 14, .int .i64 1, .int .i64 1, .int .i64 20, .int .i64 25, .int .i64 1]) (ok := fun _ => True) (okp := fun _ => True) ?hr ?hp (fun _ hk => hk) trivial (Below.refl _ _) (Nat.le_refl _) (by simp) ?_; (case hd => rfl); (case hg => rfl); (case hr => first | (go_simp; done) | (go_simp; rfl)); (case hp => exact (Reps.c4 (show Kd.M k46 _ _ _ (⟨1, (⟨0, 9⟩ : S31), 2⟩ : S46) [.int .i64 1, .int .i64 0, .int .i64 9, .int .i64 2] from (k46_mkM _ _ _ (⟨1, (⟨0, 9⟩ : S31), 2⟩ : S46) )) (Reps.c4 (show Kd.M k46 _ _ _ (⟨1, (⟨9, 14⟩ : S31), 1⟩ : S46) [.int .i64 1, .int .i64 9, .int .i64 14, .int .i64 1] from (k46_mkM _ _ _ (⟨1, (⟨9, 14⟩ : S31), 1⟩ : S46) )) (Reps.c4 (show Kd.M k46 _ _ _ (⟨1, (⟨20, 25⟩ : S31), 1⟩ : S46) [.int .i64 1, .int .i64 20, .int .i64 25, .int .i64 1] from (k46_mkM _ _ _ (⟨1, (⟨20, 25⟩ : S31), 1⟩ : S46) )) (Reps.none _ _))))); intro v178 w33 ho34 hb hg_ hnew_; clear hg_ hnew_; (first | rw [← Ny177.out] at ho34 | (simp only [Int.reduceToNat] at ho34; rw [← Ny177.out] at ho34)); have n0_ := zd (zr (by (with_reducible repeat (first | apply ze | apply zf | apply zg)); exact HO_1.out) hb); have n1_ := zd (Kd.R_elder' (by (with_reducible repeat (first | apply ze | apply zf | apply zg)); exact HO_3.out) (Kd.R_base ho34) hb); have n2_ := zd (zr (by (with_reducible repeat (first | apply ze | apply zf | apply zg)); exact HO_12.out) hb); have n3_ := zd (zr (by (with_reducible repeat (first | apply ze | apply zf | apply zg)); exact HO167.out) hb); have n4_ := zd (Kd.R_elder' (by (with_reducible repeat (first | apply ze | apply zf | apply zg)); exact HO169.out) (Kd.R_base ho34) hb); have n5_ := zd (zr (by (with_reducible repeat (first | apply ze | apply zf | apply zg)); exact HO172.out) hb); have n6_ := zd (zr (by (with_reducible repeat (first | apply ze | apply zf | apply zg)); exact HO175.out) hb); have n7_ := zd (Kd.R_lower (Kd.R_new' (Kd.R_new' ho34 (Kd.R_lt (by (with_reducible repeat (first | apply ze | apply zf | apply zg)); exact HO_3.out))) (Kd.R_lt (by (with_reducible repeat (first | apply ze | apply zf | apply zg)); exact HO169.out))) (below_size (by repeat (first | (with_reducible first | exact HB.out | apply zh | apply zi | apply zj | refine zn ?_ GE156.out) | exact HB.out)))); have n8_ := zd (zp (g := gb156) (o := .cells #[.int .i64 3, .int .i64 5, .int .i64 0] 23 (0, 0)) (by (with_reducible repeat (first | refine zk ?_ _ | refine zl ?_ | refine zm ?_ _)); exact BK156.out) hb); have n9_ := zd (zs (by repeat (first | (with_reducible first | exact HB.out | apply zh | apply zi | apply zj | refine zn ?_ GE156.out) | exact HB.out)) hb); clear HO_1; clear HO_3; clear HO_12; clear HO167; clear HO169; clear HO172; clear HO175; clear BK156; clear HB; have HO_1 := n0_; have HO_3 := n1_; have HO_12 := n2_; have HO167 := n3_; have HO169 := n4_; have HO172 := n5_; have HO175 := n6_; have HO179 := n7_; have BK156 := n8_; have HB := n9_; clear n0_ n1_ n2_ n3_ n4_ n5_ n6_ n7_ n8_ n9_; clear hb ho34; obtain ⟨Ao35, co35, eo35⟩ := Kd.R_slice HO179.out; subst eo35) | (go_at_call 19; (with_reducible refine (leathelp_Panes.calls k1 _ _ x3_1 _ _ y177 true _ ?side1 ?side2 ?side3 ?side4 A19.out).mono ?_); (case side1 => repeat (first | exact (Kd.R_reads' HO_3.out).2.2 | (with_reducible refine Kd.C_alloc ?_ _) | (with_reducible refine Kd.C_drewN ?_ _) | (with_reducible refine Kd.C_drew ?_))); (case side2 => exact (Kd.R_reads' HO_3.out).2.1); (case side3 => repeat (first | exact (Kd.R_reads' HO179.out).2.2 | (with_reducible refine Kd.C_alloc ?_ _) | (with_reducible refine Kd.C_drewN ?_ _) | (with_reducible refine Kd.C_drew ?_))); (case side4 => exact (Kd.R_reads' HO179.out).2.1); rintro e w' ⟨rfl, ⟨nd, rfl⟩⟩) | ((with_reducible refine gate_dst (N := 52) rfl ?_); (try (refine gate_guard (by rfl) ?_; dsimp only)); refine Kd.R_lit k37 _ 37 ?hg (N := 52) ?hd (xs := ([(⟨1, 8, 2⟩ : S37), (⟨1, 13, 1⟩ : S37)] : List (S37))) (inner := [.int .i64 1, .int .i64 8, .int .i64 2, .int .i64 1, .int .i64 13, .int .i64 1]) (ok := fun _ => True) (okp := fun _ => True) ?hr ?hp (fun _ hk => hk) trivial (Below.refl _ _) (Nat.le_refl _) (by simp) ?_; (case hd => rfl); (case hg => rfl); (case hr => first | (go_simp; done) | (go_simp; rfl)); (case hp => exact (Reps.c3 (show Kd.M k37 _ _ _ (⟨1, 8, 2⟩ : S37) [.int .i64 1, .int .i64 8, .int .i64 2] from (k37_mkM _ _ _ (⟨1, 8, 2⟩ : S37) )) (Reps.c3 (show Kd.M k37 _ _ _ (⟨1, 13, 1⟩ : S37) [.int .i64 1, .int .i64 13, .int .i64 1] from (k37_mkM _ _ _ (⟨1, 13, 1⟩ : S37) )) (Reps.none _ _)))); intro v182 w36 ho37 hb hg_ hnew_; clear hg_ hnew_; (first | rw [← Ny181.out] at ho37 | (simp only [Int.reduceToNat] at ho37; rw [← Ny181.out] at ho37)); have n0_ := zd (zr (by (with_reducible repeat (first | apply ze | apply zf | apply zg)); exact HO_1.out) hb); have n1_ := zd (zr (by (with_reducible repeat (first | apply ze | apply zf | apply zg)); exact HO_3.out) hb); have n2_ := zd (zr (by (with_reducible repeat (first | apply ze | apply zf | apply zg)); exact HO_12.out) hb); have n3_ := zd (Kd.R_elder' (by (with_reducible repeat (first | apply ze | apply zf | apply zg)); exact HO167.out) (Kd.R_base ho37) hb); have n4_ := zd (zr (by (with_reducible repeat (first | apply ze | apply zf | apply zg)); exact HO169.out) hb); have n5_ := zd (zr (by (with_reducible repeat (first | apply ze | apply zf | apply zg)); exact HO172.out) hb); have n6_ := zd (zr (by (with_reducible repeat (first | apply ze | apply zf | apply zg)); exact HO175.out) hb); have n7_ := zd (zr (by (with_reducible repeat (first | apply ze | apply zf | apply zg)); exact HO179.out) hb); have n8_ := zd (Kd.R_lower (Kd.R_new' ho37 (Kd.R_lt (by (with_reducible repeat (first | apply ze | apply zf | apply zg)); exact HO167.out))) (below_size (by repeat (first | (with_reducible first | exact HB.out | apply zh | apply zi | apply zj | refine zn ?_ GE156.out) | exact HB.out)))); have n9_ := zd (zp (g := gb156) (o := .cells #[.int .i64 3, .int .i64 5, .int .i64 0] 23 (0, 0)) (by (with_reducible repeat (first | refine zk ?_ _ | refine zl ?_ | refine zm ?_ _)); exact BK156.out) hb); have n10_ := zd (zs (by repeat (first | (with_reducible first | exact HB.out | apply zh | apply zi | apply zj | refine zn ?_ GE156.out) | exact HB.out)) hb); clear HO_1; clear HO_3; clear HO_12; clear HO167; clear HO169; clear HO172; clear HO175; clear HO179; clear BK156; clear HB; have HO_1 := n0_; have HO_3 := n1_; have HO_12 := n2_; have HO167 := n3_; have HO169 := n4_; have HO172 := n5_; have HO175 := n6_; have HO179 := n7_; have HO183 := n8_; have BK156 := n9_; have HB := n10_; clear n0_ n1_ n2_ n3_ n4_ n5_ n6_ n7_ n8_ n9_ n10_; clear hb ho37; obtain ⟨Ao38, co38, eo38⟩ := Kd.R_slice HO167.out; subst eo38; obtain ⟨Ao39, co39, eo39⟩ := Kd.R_slice HO183.out; subst eo39) | (go_at_call 23; (with_reducible refine (leathelp_Records.calls k1 _ _ t164 _ _ y181 true _ ?side1 ?side2 ?side3 ?side4 A21.out).mono ?_); (case side1 => repeat (first | exact (Kd.R_reads' HO167.out).2.2 | (with_reducible refine Kd.C_alloc ?_ _) | (with_reducible refine Kd.C_drewN ?_ _) | (with_reducible refine Kd.C_drew ?_))); (case side2 => exact (Kd.R_reads' HO167.out).2.1); (case side3 => repeat (first | exact (Kd.R_reads' HO183.out).2.2 | (with_reducible refine Kd.C_alloc ?_ _) | (with_reducible refine Kd.C_drewN ?_ _) | (with_reducible refine Kd.C_drew ?_))); (case side4 => exact (Kd.R_reads' HO183.out).2.1); rintro e w' ⟨rfl, ⟨nd, rfl⟩⟩; obtain ⟨Ao40, co40, eo40⟩ := Kd.R_slice HO169.out; subst eo40; obtain ⟨Ao41, co41, eo41⟩ := Kd.R_slice HO172.out; subst eo41; have p185 : 0 <= (0 : Int) := (by omega); have q185 : 0 < (t170.length : Int) := of_decide_eq_true (by first | (with_reducible assumption) | assumption); obtain ⟨ad185, e185, hx185_0, hx185_1⟩ := at_T31 (Kd.R_reads' HO172.out).2.2 0 p185 q185; cases e185; have qi185 : (0 < t170.length) = True := eq_true (by omega); (try rw [show ((0 : Int)).toNat = 0 from rfl] at hx185_0); (try rw [show 0 * 2 = 0 from rfl] at hx185_0); (try rw [Addr.add_zero'] at hx185_0); (try rw [show ((0 : Int)).toNat = 0 from rfl] at hx185_1); (try rw [show 0 * 2 = 0 from rfl] at hx185_1); (try rw [Addr.add_zero'] at hx185_1); replace p185 := eq_true p185; replace q185 := eq_true q185))
          go_ret
          exact ⟨by first | rfl | (simp [errW_none, errW_some] <;> rfl) | (simp [*, errW_none, errW_some] <;> rfl), by repeat (first | (with_reducible first | exact HB.out | apply zh | apply zi | apply zj | refine zn ?_ GE156.out) | exact HB.out)⟩
         ·rw [if_neg c25] at H
          exact absurd H (by simp)
        ·rw [if_neg c24] at H
         have c24b0 : ((t170.length : Int) == 1) = false := beq_eq_false_iff_ne.mpr c24
         have c24b1 : ((t170.length : Int) != 1) = true := bne_iff_ne.mpr c24
         obtain rfl := Option.some.inj H
         obtain ⟨Ao42, co42, eo42⟩ := Kd.R_slice HO_3.out
         subst eo42
         go_wp2_with (first | ((with_reducible refine gate_callee (f := 21) rfl ?_); refine goesL_ (some 26) rfl rfl Try.func21 (by kernel_rfl) rfl #[.slice Ao42 x3_1.length co42, .int .i64 14] rfl (by (try simp only [List.map_toArray, List.map_cons, List.map_nil]); first | done | rfl | (simp only [List.length_drop, List.length_take]; rfl)) ?_; (with_reducible refine (window_Fire.calls k1 _ _ x3_1 14 t164 t165 _ ?side1 ?side2 A15.out).mono ?_); (case side1 => repeat (first | exact (Kd.R_reads' HO_3.out).2.2 | (with_reducible refine Kd.C_alloc ?_ _) | (with_reducible refine Kd.C_drewN ?_ _) | (with_reducible refine Kd.C_drew ?_))); (case side2 => exact (Kd.R_reads' HO_3.out).2.1); rintro e w43 ⟨v166, v168, rfl, ho0, ho1, hb⟩; refine ⟨_, rfl, ?_⟩; have n0_ := zd (zr (by (with_reducible repeat (first | apply ze | apply zf | apply zg)); exact HO_1.out) hb); have n1_ := zd (Kd.R_elder' (by (with_reducible repeat (first | apply ze | apply zf | apply zg)); exact HO_3.out) (Kd.R_base ho1) hb); have n2_ := zd (zr (by (with_reducible repeat (first | apply ze | apply zf | apply zg)); exact HO_12.out) hb); have n3_ := zd (Kd.R_lower ho0 (below_size (by repeat (first | (with_reducible first | exact HB.out | apply zh | apply zi | apply zj | refine zn ?_ GE156.out) | exact HB.out)))); have n4_ := zd (Kd.R_lower (Kd.R_new' ho1 (Kd.R_lt (by (with_reducible repeat (first | apply ze | apply zf | apply zg)); exact HO_3.out))) (below_size (by repeat (first | (with_reducible first | exact HB.out | apply zh | apply zi | apply zj | refine zn ?_ GE156.out) | exact HB.out)))); have n5_ := zd (zp (g := gb156) (o := .cells #[.int .i64 3, .int .i64 5, .int .i64 0] 23 (0, 0)) (by (with_reducible repeat (first | refine zk ?_ _ | refine zl ?_ | refine zm ?_ _)); exact BK156.out) hb); have n6_ := zd (zs (by repeat (first | (with_reducible first | exact HB.out | apply zh | apply zi | apply zj | refine zn ?_ GE156.out) | exact HB.out)) hb); clear HO_1; clear HO_3; clear HO_12; clear BK156; clear HB; have HO_1 := n0_; have HO_3 := n1_; have HO_12 := n2_; have HO167 := n3_; have HO169 := n4_; have BK156 := n5_; have HB := n6_; clear n0_ n1_ n2_ n3_ n4_ n5_ n6_; (try clear hb); (try clear hb2); (try clear hk); (try clear hi); (try clear ho0); (try clear ho1)) | ((with_reducible refine gate_callee (f := 15) rfl ?_); refine goesL_ (some 30) rfl rfl Try.func15 (by kernel_rfl) rfl #[.agg #[.int .i64 1, .int .i64 10, .int .i64 0], .int .i64 (-1)] rfl (by (try simp only [List.map_toArray, List.map_cons, List.map_nil]); first | done | rfl | (simp only [List.length_drop, List.length_take]; rfl)) ?_; (with_reducible refine (window_Spans.calls k1 1 10 0 (-1) t170 _ A16.out).mono ?_); rintro e w44 ⟨v171, rfl, ho0, hb⟩; refine ⟨_, rfl, ?_⟩; have n0_ := zd (Kd.R_elder' (by (with_reducible repeat (first | apply ze | apply zf | apply zg)); exact HO_1.out) (Kd.R_base ho0) hb); have n1_ := zd (zr (by (with_reducible repeat (first | apply ze | apply zf | apply zg)); exact HO_3.out) hb); have n2_ := zd (zr (by (with_reducible repeat (first | apply ze | apply zf | apply zg)); exact HO_12.out) hb); have n3_ := zd (zr (by (with_reducible repeat (first | apply ze | apply zf | apply zg)); exact HO167.out) hb); have n4_ := zd (zr (by (with_reducible repeat (first | apply ze | apply zf | apply zg)); exact HO169.out) hb); have n5_ := zd (Kd.R_lower (Kd.R_new' ho0 (Kd.R_lt (by (with_reducible repeat (first | apply ze | apply zf | apply zg)); exact HO_1.out))) (below_size (by repeat (first | (with_reducible first | exact HB.out | apply zh | apply zi | apply zj | refine zn ?_ GE156.out) | exact HB.out)))); have n6_ := zd (zp (g := gb156) (o := .cells #[.int .i64 3, .int .i64 5, .int .i64 0] 23 (0, 0)) (by (with_reducible repeat (first | refine zk ?_ _ | refine zl ?_ | refine zm ?_ _)); exact BK156.out) hb); have n7_ := zd (zs (by repeat (first | (with_reducible first | exact HB.out | apply zh | apply zi | apply zj | refine zn ?_ GE156.out) | exact HB.out)) hb); clear HO_1; clear HO_3; clear HO_12; clear HO167; clear HO169; clear BK156; clear HB; have HO_1 := n0_; have HO_3 := n1_; have HO_12 := n2_; have HO167 := n3_; have HO169 := n4_; have HO172 := n5_; have BK156 := n6_; have HB := n7_; clear n0_ n1_ n2_ n3_ n4_ n5_ n6_ n7_; (try clear hb); (try clear hb2); (try clear hk); (try clear hi); (try clear ho0)) | ((with_reducible refine gate_dst (N := 35) rfl ?_); (try (refine gate_guard (by rfl) ?_; dsimp only)); refine Kd.R_lit k31 _ 31 ?hg (N := 35) ?hd (xs := ([(⟨0, 10⟩ : S31), (⟨4, 14⟩ : S31), (⟨8, 18⟩ : S31)] : List (S31))) (inner := [.int .i64 0, .int .i64 10, .int .i64 4, .int .i64 14, .int .i64 8, .int .i64 18]) (ok := fun _ => True) (okp := fun _ => True) ?hr ?hp (fun _ hk => hk) trivial (Below.refl _ _) (Nat.le_refl _) (by simp) ?_; (case hd => rfl); (case hg => rfl); (case hr => first | (go_simp; done) | (go_simp; rfl)); (case hp => exact (Reps.c2 (show Kd.M k31 _ _ _ (⟨0, 10⟩ : S31) [.int .i64 0, .int .i64 10] from (k31_mkM _ _ _ (⟨0, 10⟩ : S31) )) (Reps.c2 (show Kd.M k31 _ _ _ (⟨4, 14⟩ : S31) [.int .i64 4, .int .i64 14] from (k31_mkM _ _ _ (⟨4, 14⟩ : S31) )) (Reps.c2 (show Kd.M k31 _ _ _ (⟨8, 18⟩ : S31) [.int .i64 8, .int .i64 18] from (k31_mkM _ _ _ (⟨8, 18⟩ : S31) )) (Reps.none _ _))))); intro v174 w45 ho46 hb hg_ hnew_; clear hg_ hnew_; (first | rw [← Ny173.out] at ho46 | (simp only [Int.reduceToNat] at ho46; rw [← Ny173.out] at ho46)); have n0_ := zd (Kd.R_elder' (by (with_reducible repeat (first | apply ze | apply zf | apply zg)); exact HO_1.out) (Kd.R_base ho46) hb); have n1_ := zd (zr (by (with_reducible repeat (first | apply ze | apply zf | apply zg)); exact HO_3.out) hb); have n2_ := zd (zr (by (with_reducible repeat (first | apply ze | apply zf | apply zg)); exact HO_12.out) hb); have n3_ := zd (zr (by (with_reducible repeat (first | apply ze | apply zf | apply zg)); exact HO167.out) hb); have n4_ := zd (zr (by (with_reducible repeat (first | apply ze | apply zf | apply zg)); exact HO169.out) hb); have n5_ := zd (Kd.R_elder' (by (with_reducible repeat (first | apply ze | apply zf | apply zg)); exact HO172.out) (Kd.R_base ho46) hb); have n6_ := zd (Kd.R_lower (Kd.R_new' (Kd.R_new' ho46 (Kd.R_lt (by (with_reducible repeat (first | apply ze | apply zf | apply zg)); exact HO_1.out))) (Kd.R_lt (by (with_reducible repeat (first | apply ze | apply zf | apply zg)); exact HO172.out))) (below_size (by repeat (first | (with_reducible first | exact HB.out | apply zh | apply zi | apply zj | refine zn ?_ GE156.out) | exact HB.out)))); have n7_ := zd (zp (g := gb156) (o := .cells #[.int .i64 3, .int .i64 5, .int .i64 0] 23 (0, 0)) (by (with_reducible repeat (first | refine zk ?_ _ | refine zl ?_ | refine zm ?_ _)); exact BK156.out) hb); have n8_ := zd (zs (by repeat (first | (with_reducible first | exact HB.out | apply zh | apply zi | apply zj | refine zn ?_ GE156.out) | exact HB.out)) hb); clear HO_1; clear HO_3; clear HO_12; clear HO167; clear HO169; clear HO172; clear BK156; clear HB; have HO_1 := n0_; have HO_3 := n1_; have HO_12 := n2_; have HO167 := n3_; have HO169 := n4_; have HO172 := n5_; have HO175 := n6_; have BK156 := n7_; have HB := n8_; clear n0_ n1_ n2_ n3_ n4_ n5_ n6_ n7_ n8_; clear hb ho46; obtain ⟨Ao47, co47, eo47⟩ := Kd.R_slice HO_1.out; subst eo47; obtain ⟨Ao48, co48, eo48⟩ := Kd.R_slice HO175.out; subst eo48) | ((with_reducible refine gate_callee (f := 16) rfl ?_); refine goesL_ (some 36) rfl rfl Try.func16 (by kernel_rfl) rfl #[.slice Ao47 t153.length co47, .slice Ao48 y173.length co48] rfl (by (try simp only [List.map_toArray, List.map_cons, List.map_nil]); first | done | rfl | (simp only [List.length_drop, List.length_take]; rfl)) ?_; (with_reducible refine (leathelp_Spans.calls k1 _ _ t153 _ _ y173 true _ ?side1 ?side2 ?side3 ?side4 A17.out).mono ?_); (case side1 => repeat (first | exact (Kd.R_reads' HO_1.out).2.2 | (with_reducible refine Kd.C_alloc ?_ _) | (with_reducible refine Kd.C_drewN ?_ _) | (with_reducible refine Kd.C_drew ?_))); (case side2 => exact (Kd.R_reads' HO_1.out).2.1); (case side3 => repeat (first | exact (Kd.R_reads' HO175.out).2.2 | (with_reducible refine Kd.C_alloc ?_ _) | (with_reducible refine Kd.C_drewN ?_ _) | (with_reducible refine Kd.C_drew ?_))); (case side4 => exact (Kd.R_reads' HO175.out).2.1); rintro e w' ⟨rfl, ⟨nd, rfl⟩⟩; refine ⟨_, rfl, ?_⟩) | ((with_reducible refine gate_dst (N := 45) rfl ?_); (try (refine gate_guard (by rfl) ?_; dsimp only)); refine Kd.R_lit k46 _ 46 ?hg (N := 45) ?hd (xs := ([(⟨1, (⟨0, 9⟩ : S31), 2⟩ : S46), (⟨1, (⟨9, 14⟩ : S31), 1⟩ : S46), (⟨1, (⟨20, 25⟩ : S31), 1⟩ : S46)] : List (S46))) (inner := [.int .i64 1, .int .i64 0, .int .i64 9, .int .i64 2, .int .i64 1, .int .i64 9, .int .i64 14, .int .i64 1, .int .i64 1, .int .i64 20, .int .i64 25, .int .i64 1]) (ok := fun _ => True) (okp := fun _ => True) ?hr ?hp (fun _ hk => hk) trivial (Below.refl _ _) (Nat.le_refl _) (by simp) ?_; (case hd => rfl); (case hg => rfl); (case hr => first | (go_simp; done) | (go_simp; rfl)); (case hp => exact (Reps.c4 (show Kd.M k46 _ _ _ (⟨1, (⟨0, 9⟩ : S31), 2⟩ : S46) [.int .i64 1, .int .i64 0, .int .i64 9, .int .i64 2] from (k46_mkM _ _ _ (⟨1, (⟨0, 9⟩ : S31), 2⟩ : S46) )) (Reps.c4 (show Kd.M k46 _ _ _ (⟨1, (⟨9, 14⟩ : S31), 1⟩ : S46) [.int .i64 1, .int .i64 9, .int .i64 14, .int .i64 1] from (k46_mkM _ _ _ (⟨1, (⟨9, 14⟩ : S31), 1⟩ : S46) )) (Reps.c4 (show Kd.M k46 _ _ _ (⟨1, (⟨20, 25⟩ : S31), 1⟩ : S46) [.int .i64 1, .int .i64 20, .int .i64 25, .int .i64 1] from (k46_mkM _ _ _ (⟨1, (⟨20, 25⟩ : S31), 1⟩ : S46) )) (Reps.none _ _))))); intro v178 w49 ho50 hb hg_ hnew_; clear hg_ hnew_; (first | rw [← Ny177.out] at ho50 | (simp only [Int.reduceToNat] at ho50; rw [← Ny177.out] at ho50)); have n0_ := zd (zr (by (with_reducible repeat (first | apply ze | apply zf | apply zg)); exact HO_1.out) hb); have n1_ := zd (Kd.R_elder' (by (with_reducible repeat (first | apply ze | apply zf | apply zg)); exact HO_3.out) (Kd.R_base ho50) hb); have n2_ := zd (zr (by (with_reducible repeat (first | apply ze | apply zf | apply zg)); exact HO_12.out) hb); have n3_ := zd (zr (by (with_reducible repeat (first | apply ze | apply zf | apply zg)); exact HO167.out) hb); have n4_ := zd (Kd.R_elder' (by (with_reducible repeat (first | apply ze | apply zf | apply zg)); exact HO169.out) (Kd.R_base ho50) hb); have n5_ := zd (zr (by (with_reducible repeat (first | apply ze | apply zf | apply zg)); exact HO172.out) hb); have n6_ := zd (zr (by (with_reducible repeat (first | apply ze | apply zf | apply zg)); exact HO175.out) hb); have n7_ := zd (Kd.R_lower (Kd.R_new' (Kd.R_new' ho50 (Kd.R_lt (by (with_reducible repeat (first | apply ze | apply zf | apply zg)); exact HO_3.out))) (Kd.R_lt (by (with_reducible repeat (first | apply ze | apply zf | apply zg)); exact HO169.out))) (below_size (by repeat (first | (with_reducible first | exact HB.out | apply zh | apply zi | apply zj | refine zn ?_ GE156.out) | exact HB.out)))); have n8_ := zd (zp (g := gb156) (o := .cells #[.int .i64 3, .int .i64 5, .int .i64 0] 23 (0, 0)) (by (with_reducible repeat (first | refine zk ?_ _ | refine zl ?_ | refine zm ?_ _)); exact BK156.out) hb); have n9_ := zd (zs (by repeat (first | (with_reducible first | exact HB.out | apply zh | apply zi | apply zj | refine zn ?_ GE156.out) | exact HB.out)) hb); clear HO_1; clear HO_3; clear HO_12; clear HO167; clear HO169; clear HO172; clear HO175; clear BK156; clear HB; have HO_1 := n0_; have HO_3 := n1_; have HO_12 := n2_; have HO167 := n3_; have HO169 := n4_; have HO172 := n5_; have HO175 := n6_; have HO179 := n7_; have BK156 := n8_; have HB := n9_; clear n0_ n1_ n2_ n3_ n4_ n5_ n6_ n7_ n8_ n9_; clear hb ho50; obtain ⟨Ao51, co51, eo51⟩ := Kd.R_slice HO179.out; subst eo51) | (go_at_call 19; (with_reducible refine (leathelp_Panes.calls k1 _ _ x3_1 _ _ y177 true _ ?side1 ?side2 ?side3 ?side4 A19.out).mono ?_); (case side1 => repeat (first | exact (Kd.R_reads' HO_3.out).2.2 | (with_reducible refine Kd.C_alloc ?_ _) | (with_reducible refine Kd.C_drewN ?_ _) | (with_reducible refine Kd.C_drew ?_))); (case side2 => exact (Kd.R_reads' HO_3.out).2.1); (case side3 => repeat (first | exact (Kd.R_reads' HO179.out).2.2 | (with_reducible refine Kd.C_alloc ?_ _) | (with_reducible refine Kd.C_drewN ?_ _) | (with_reducible refine Kd.C_drew ?_))); (case side4 => exact (Kd.R_reads' HO179.out).2.1); rintro e w' ⟨rfl, ⟨nd, rfl⟩⟩) | ((with_reducible refine gate_dst (N := 52) rfl ?_); (try (refine gate_guard (by rfl) ?_; dsimp only)); refine Kd.R_lit k37 _ 37 ?hg (N := 52) ?hd (xs := ([(⟨1, 8, 2⟩ : S37), (⟨1, 13, 1⟩ : S37)] : List (S37))) (inner := [.int .i64 1, .int .i64 8, .int .i64 2, .int .i64 1, .int .i64 13, .int .i64 1]) (ok := fun _ => True) (okp := fun _ => True) ?hr ?hp (fun _ hk => hk) trivial (Below.refl _ _) (Nat.le_refl _) (by simp) ?_; (case hd => rfl); (case hg => rfl); (case hr => first | (go_simp; done) | (go_simp; rfl)); (case hp => exact (Reps.c3 (show Kd.M k37 _ _ _ (⟨1, 8, 2⟩ : S37) [.int .i64 1, .int .i64 8, .int .i64 2] from (k37_mkM _ _ _ (⟨1, 8, 2⟩ : S37) )) (Reps.c3 (show Kd.M k37 _ _ _ (⟨1, 13, 1⟩ : S37) [.int .i64 1, .int .i64 13, .int .i64 1] from (k37_mkM _ _ _ (⟨1, 13, 1⟩ : S37) )) (Reps.none _ _)))); intro v182 w52 ho53 hb hg_ hnew_; clear hg_ hnew_; (first | rw [← Ny181.out] at ho53 | (simp only [Int.reduceToNat] at ho53; rw [← Ny181.out] at ho53)); have n0_ := zd (zr (by (with_reducible repeat (first | apply ze | apply zf | apply zg)); exact HO_1.out) hb); have n1_ := zd (zr (by (with_reducible repeat (first | apply ze | apply zf | apply zg)); exact HO_3.out) hb); have n2_ := zd (zr (by (with_reducible repeat (first | apply ze | apply zf | apply zg)); exact HO_12.out) hb); have n3_ := zd (Kd.R_elder' (by (with_reducible repeat (first | apply ze | apply zf | apply zg)); exact HO167.out) (Kd.R_base ho53) hb); have n4_ := zd (zr (by (with_reducible repeat (first | apply ze | apply zf | apply zg)); exact HO169.out) hb); have n5_ := zd (zr (by (with_reducible repeat (first | apply ze | apply zf | apply zg)); exact HO172.out) hb); have n6_ := zd (zr (by (with_reducible repeat (first | apply ze | apply zf | apply zg)); exact HO175.out) hb); have n7_ := zd (zr (by (with_reducible repeat (first | apply ze | apply zf | apply zg)); exact HO179.out) hb); have n8_ := zd (Kd.R_lower (Kd.R_new' ho53 (Kd.R_lt (by (with_reducible repeat (first | apply ze | apply zf | apply zg)); exact HO167.out))) (below_size (by repeat (first | (with_reducible first | exact HB.out | apply zh | apply zi | apply zj | refine zn ?_ GE156.out) | exact HB.out)))); have n9_ := zd (zp (g := gb156) (o := .cells #[.int .i64 3, .int .i64 5, .int .i64 0] 23 (0, 0)) (by (with_reducible repeat (first | refine zk ?_ _ | refine zl ?_ | refine zm ?_ _)); exact BK156.out) hb); have n10_ := zd (zs (by repeat (first | (with_reducible first | exact HB.out | apply zh | apply zi | apply zj | refine zn ?_ GE156.out) | exact HB.out)) hb); clear HO_1; clear HO_3; clear HO_12; clear HO167; clear HO169; clear HO172; clear HO175; clear HO179; clear BK156; clear HB; have HO_1 := n0_; have HO_3 := n1_; have HO_12 := n2_; have HO167 := n3_; have HO169 := n4_; have HO172 := n5_; have HO175 := n6_; have HO179 := n7_; have HO183 := n8_; have BK156 := n9_; have HB := n10_; clear n0_ n1_ n2_ n3_ n4_ n5_ n6_ n7_ n8_ n9_ n10_; clear hb ho53; obtain ⟨Ao54, co54, eo54⟩ := Kd.R_slice HO167.out; subst eo54; obtain ⟨Ao55, co55, eo55⟩ := Kd.R_slice HO183.out; subst eo55) | (go_at_call 23; (with_reducible refine (leathelp_Records.calls k1 _ _ t164 _ _ y181 true _ ?side1 ?side2 ?side3 ?side4 A21.out).mono ?_); (case side1 => repeat (first | exact (Kd.R_reads' HO167.out).2.2 | (with_reducible refine Kd.C_alloc ?_ _) | (with_reducible refine Kd.C_drewN ?_ _) | (with_reducible refine Kd.C_drew ?_))); (case side2 => exact (Kd.R_reads' HO167.out).2.1); (case side3 => repeat (first | exact (Kd.R_reads' HO183.out).2.2 | (with_reducible refine Kd.C_alloc ?_ _) | (with_reducible refine Kd.C_drewN ?_ _) | (with_reducible refine Kd.C_drew ?_))); (case side4 => exact (Kd.R_reads' HO183.out).2.1); rintro e w' ⟨rfl, ⟨nd, rfl⟩⟩; obtain ⟨Ao56, co56, eo56⟩ := Kd.R_slice HO169.out; subst eo56; obtain ⟨Ao57, co57, eo57⟩ := Kd.R_slice HO172.out; subst eo57))
         go_ret
         exact ⟨by first | rfl | (simp [errW_none, errW_some] <;> rfl) | (simp [*, errW_none, errW_some] <;> rfl), by repeat (first | (with_reducible first | exact HB.out | apply zh | apply zi | apply zj | refine zn ?_ GE156.out) | exact HB.out)⟩
       ·rw [if_neg c23] at H
        have c23b0 : ((t165.length : Int) == 1) = false := beq_eq_false_iff_ne.mpr c23
        have c23b1 : ((t165.length : Int) != 1) = true := bne_iff_ne.mpr c23
        obtain rfl := Option.some.inj H
        obtain ⟨Ao58, co58, eo58⟩ := Kd.R_slice HO_3.out
        subst eo58
        go_wp2_with (first | ((with_reducible refine gate_callee (f := 21) rfl ?_); refine goesL_ (some 26) rfl rfl Try.func21 (by kernel_rfl) rfl #[.slice Ao58 x3_1.length co58, .int .i64 14] rfl (by (try simp only [List.map_toArray, List.map_cons, List.map_nil]); first | done | rfl | (simp only [List.length_drop, List.length_take]; rfl)) ?_; (with_reducible refine (window_Fire.calls k1 _ _ x3_1 14 t164 t165 _ ?side1 ?side2 A15.out).mono ?_); (case side1 => repeat (first | exact (Kd.R_reads' HO_3.out).2.2 | (with_reducible refine Kd.C_alloc ?_ _) | (with_reducible refine Kd.C_drewN ?_ _) | (with_reducible refine Kd.C_drew ?_))); (case side2 => exact (Kd.R_reads' HO_3.out).2.1); rintro e w59 ⟨v166, v168, rfl, ho0, ho1, hb⟩; refine ⟨_, rfl, ?_⟩; have n0_ := zd (zr (by (with_reducible repeat (first | apply ze | apply zf | apply zg)); exact HO_1.out) hb); have n1_ := zd (Kd.R_elder' (by (with_reducible repeat (first | apply ze | apply zf | apply zg)); exact HO_3.out) (Kd.R_base ho1) hb); have n2_ := zd (zr (by (with_reducible repeat (first | apply ze | apply zf | apply zg)); exact HO_12.out) hb); have n3_ := zd (Kd.R_lower ho0 (below_size (by repeat (first | (with_reducible first | exact HB.out | apply zh | apply zi | apply zj | refine zn ?_ GE156.out) | exact HB.out)))); have n4_ := zd (Kd.R_lower (Kd.R_new' ho1 (Kd.R_lt (by (with_reducible repeat (first | apply ze | apply zf | apply zg)); exact HO_3.out))) (below_size (by repeat (first | (with_reducible first | exact HB.out | apply zh | apply zi | apply zj | refine zn ?_ GE156.out) | exact HB.out)))); have n5_ := zd (zp (g := gb156) (o := .cells #[.int .i64 3, .int .i64 5, .int .i64 0] 23 (0, 0)) (by (with_reducible repeat (first | refine zk ?_ _ | refine zl ?_ | refine zm ?_ _)); exact BK156.out) hb); have n6_ := zd (zs (by repeat (first | (with_reducible first | exact HB.out | apply zh | apply zi | apply zj | refine zn ?_ GE156.out) | exact HB.out)) hb); clear HO_1; clear HO_3; clear HO_12; clear BK156; clear HB; have HO_1 := n0_; have HO_3 := n1_; have HO_12 := n2_; have HO167 := n3_; have HO169 := n4_; have BK156 := n5_; have HB := n6_; clear n0_ n1_ n2_ n3_ n4_ n5_ n6_; (try clear hb); (try clear hb2); (try clear hk); (try clear hi); (try clear ho0); (try clear ho1)) | ((with_reducible refine gate_callee (f := 15) rfl ?_); refine goesL_ (some 30) rfl rfl Try.func15 (by kernel_rfl) rfl #[.agg #[.int .i64 1, .int .i64 10, .int .i64 0], .int .i64 (-1)] rfl (by (try simp only [List.map_toArray, List.map_cons, List.map_nil]); first | done | rfl | (simp only [List.length_drop, List.length_take]; rfl)) ?_; (with_reducible refine (window_Spans.calls k1 1 10 0 (-1) t170 _ A16.out).mono ?_); rintro e w60 ⟨v171, rfl, ho0, hb⟩; refine ⟨_, rfl, ?_⟩; have n0_ := zd (Kd.R_elder' (by (with_reducible repeat (first | apply ze | apply zf | apply zg)); exact HO_1.out) (Kd.R_base ho0) hb); have n1_ := zd (zr (by (with_reducible repeat (first | apply ze | apply zf | apply zg)); exact HO_3.out) hb); have n2_ := zd (zr (by (with_reducible repeat (first | apply ze | apply zf | apply zg)); exact HO_12.out) hb); have n3_ := zd (zr (by (with_reducible repeat (first | apply ze | apply zf | apply zg)); exact HO167.out) hb); have n4_ := zd (zr (by (with_reducible repeat (first | apply ze | apply zf | apply zg)); exact HO169.out) hb); have n5_ := zd (Kd.R_lower (Kd.R_new' ho0 (Kd.R_lt (by (with_reducible repeat (first | apply ze | apply zf | apply zg)); exact HO_1.out))) (below_size (by repeat (first | (with_reducible first | exact HB.out | apply zh | apply zi | apply zj | refine zn ?_ GE156.out) | exact HB.out)))); have n6_ := zd (zp (g := gb156) (o := .cells #[.int .i64 3, .int .i64 5, .int .i64 0] 23 (0, 0)) (by (with_reducible repeat (first | refine zk ?_ _ | refine zl ?_ | refine zm ?_ _)); exact BK156.out) hb); have n7_ := zd (zs (by repeat (first | (with_reducible first | exact HB.out | apply zh | apply zi | apply zj | refine zn ?_ GE156.out) | exact HB.out)) hb); clear HO_1; clear HO_3; clear HO_12; clear HO167; clear HO169; clear BK156; clear HB; have HO_1 := n0_; have HO_3 := n1_; have HO_12 := n2_; have HO167 := n3_; have HO169 := n4_; have HO172 := n5_; have BK156 := n6_; have HB := n7_; clear n0_ n1_ n2_ n3_ n4_ n5_ n6_ n7_; (try clear hb); (try clear hb2); (try clear hk); (try clear hi); (try clear ho0)) | ((with_reducible refine gate_dst (N := 35) rfl ?_); (try (refine gate_guard (by rfl) ?_; dsimp only)); refine Kd.R_lit k31 _ 31 ?hg (N := 35) ?hd (xs := ([(⟨0, 10⟩ : S31), (⟨4, 14⟩ : S31), (⟨8, 18⟩ : S31)] : List (S31))) (inner := [.int .i64 0, .int .i64 10, .int .i64 4, .int .i64 14, .int .i64 8, .int .i64 18]) (ok := fun _ => True) (okp := fun _ => True) ?hr ?hp (fun _ hk => hk) trivial (Below.refl _ _) (Nat.le_refl _) (by simp) ?_; (case hd => rfl); (case hg => rfl); (case hr => first | (go_simp; done) | (go_simp; rfl)); (case hp => exact (Reps.c2 (show Kd.M k31 _ _ _ (⟨0, 10⟩ : S31) [.int .i64 0, .int .i64 10] from (k31_mkM _ _ _ (⟨0, 10⟩ : S31) )) (Reps.c2 (show Kd.M k31 _ _ _ (⟨4, 14⟩ : S31) [.int .i64 4, .int .i64 14] from (k31_mkM _ _ _ (⟨4, 14⟩ : S31) )) (Reps.c2 (show Kd.M k31 _ _ _ (⟨8, 18⟩ : S31) [.int .i64 8, .int .i64 18] from (k31_mkM _ _ _ (⟨8, 18⟩ : S31) )) (Reps.none _ _))))); intro v174 w61 ho62 hb hg_ hnew_; clear hg_ hnew_; (first | rw [← Ny173.out] at ho62 | (simp only [Int.reduceToNat] at ho62; rw [← Ny173.out] at ho62)); have n0_ := zd (Kd.R_elder' (by (with_reducible repeat (first | apply ze | apply zf | apply zg)); exact HO_1.out) (Kd.R_base ho62) hb); have n1_ := zd (zr (by (with_reducible repeat (first | apply ze | apply zf | apply zg)); exact HO_3.out) hb); have n2_ := zd (zr (by (with_reducible repeat (first | apply ze | apply zf | apply zg)); exact HO_12.out) hb); have n3_ := zd (zr (by (with_reducible repeat (first | apply ze | apply zf | apply zg)); exact HO167.out) hb); have n4_ := zd (zr (by (with_reducible repeat (first | apply ze | apply zf | apply zg)); exact HO169.out) hb); have n5_ := zd (Kd.R_elder' (by (with_reducible repeat (first | apply ze | apply zf | apply zg)); exact HO172.out) (Kd.R_base ho62) hb); have n6_ := zd (Kd.R_lower (Kd.R_new' (Kd.R_new' ho62 (Kd.R_lt (by (with_reducible repeat (first | apply ze | apply zf | apply zg)); exact HO_1.out))) (Kd.R_lt (by (with_reducible repeat (first | apply ze | apply zf | apply zg)); exact HO172.out))) (below_size (by repeat (first | (with_reducible first | exact HB.out | apply zh | apply zi | apply zj | refine zn ?_ GE156.out) | exact HB.out)))); have n7_ := zd (zp (g := gb156) (o := .cells #[.int .i64 3, .int .i64 5, .int .i64 0] 23 (0, 0)) (by (with_reducible repeat (first | refine zk ?_ _ | refine zl ?_ | refine zm ?_ _)); exact BK156.out) hb); have n8_ := zd (zs (by repeat (first | (with_reducible first | exact HB.out | apply zh | apply zi | apply zj | refine zn ?_ GE156.out) | exact HB.out)) hb); clear HO_1; clear HO_3; clear HO_12; clear HO167; clear HO169; clear HO172; clear BK156; clear HB; have HO_1 := n0_; have HO_3 := n1_; have HO_12 := n2_; have HO167 := n3_; have HO169 := n4_; have HO172 := n5_; have HO175 := n6_; have BK156 := n7_; have HB := n8_; clear n0_ n1_ n2_ n3_ n4_ n5_ n6_ n7_ n8_; clear hb ho62; obtain ⟨Ao63, co63, eo63⟩ := Kd.R_slice HO_1.out; subst eo63; obtain ⟨Ao64, co64, eo64⟩ := Kd.R_slice HO175.out; subst eo64) | ((with_reducible refine gate_callee (f := 16) rfl ?_); refine goesL_ (some 36) rfl rfl Try.func16 (by kernel_rfl) rfl #[.slice Ao63 t153.length co63, .slice Ao64 y173.length co64] rfl (by (try simp only [List.map_toArray, List.map_cons, List.map_nil]); first | done | rfl | (simp only [List.length_drop, List.length_take]; rfl)) ?_; (with_reducible refine (leathelp_Spans.calls k1 _ _ t153 _ _ y173 true _ ?side1 ?side2 ?side3 ?side4 A17.out).mono ?_); (case side1 => repeat (first | exact (Kd.R_reads' HO_1.out).2.2 | (with_reducible refine Kd.C_alloc ?_ _) | (with_reducible refine Kd.C_drewN ?_ _) | (with_reducible refine Kd.C_drew ?_))); (case side2 => exact (Kd.R_reads' HO_1.out).2.1); (case side3 => repeat (first | exact (Kd.R_reads' HO175.out).2.2 | (with_reducible refine Kd.C_alloc ?_ _) | (with_reducible refine Kd.C_drewN ?_ _) | (with_reducible refine Kd.C_drew ?_))); (case side4 => exact (Kd.R_reads' HO175.out).2.1); rintro e w' ⟨rfl, ⟨nd, rfl⟩⟩; refine ⟨_, rfl, ?_⟩) | ((with_reducible refine gate_dst (N := 45) rfl ?_); (try (refine gate_guard (by rfl) ?_; dsimp only)); refine Kd.R_lit k46 _ 46 ?hg (N := 45) ?hd (xs := ([(⟨1, (⟨0, 9⟩ : S31), 2⟩ : S46), (⟨1, (⟨9, 14⟩ : S31), 1⟩ : S46), (⟨1, (⟨20, 25⟩ : S31), 1⟩ : S46)] : List (S46))) (inner := [.int .i64 1, .int .i64 0, .int .i64 9, .int .i64 2, .int .i64 1, .int .i64 9, .int .i64 14, .int .i64 1, .int .i64 1, .int .i64 20, .int .i64 25, .int .i64 1]) (ok := fun _ => True) (okp := fun _ => True) ?hr ?hp (fun _ hk => hk) trivial (Below.refl _ _) (Nat.le_refl _) (by simp) ?_; (case hd => rfl); (case hg => rfl); (case hr => first | (go_simp; done) | (go_simp; rfl)); (case hp => exact (Reps.c4 (show Kd.M k46 _ _ _ (⟨1, (⟨0, 9⟩ : S31), 2⟩ : S46) [.int .i64 1, .int .i64 0, .int .i64 9, .int .i64 2] from (k46_mkM _ _ _ (⟨1, (⟨0, 9⟩ : S31), 2⟩ : S46) )) (Reps.c4 (show Kd.M k46 _ _ _ (⟨1, (⟨9, 14⟩ : S31), 1⟩ : S46) [.int .i64 1, .int .i64 9, .int .i64 14, .int .i64 1] from (k46_mkM _ _ _ (⟨1, (⟨9, 14⟩ : S31), 1⟩ : S46) )) (Reps.c4 (show Kd.M k46 _ _ _ (⟨1, (⟨20, 25⟩ : S31), 1⟩ : S46) [.int .i64 1, .int .i64 20, .int .i64 25, .int .i64 1] from (k46_mkM _ _ _ (⟨1, (⟨20, 25⟩ : S31), 1⟩ : S46) )) (Reps.none _ _))))); intro v178 w65 ho66 hb hg_ hnew_; clear hg_ hnew_; (first | rw [← Ny177.out] at ho66 | (simp only [Int.reduceToNat] at ho66; rw [← Ny177.out] at ho66)); have n0_ := zd (zr (by (with_reducible repeat (first | apply ze | apply zf | apply zg)); exact HO_1.out) hb); have n1_ := zd (Kd.R_elder' (by (with_reducible repeat (first | apply ze | apply zf | apply zg)); exact HO_3.out) (Kd.R_base ho66) hb); have n2_ := zd (zr (by (with_reducible repeat (first | apply ze | apply zf | apply zg)); exact HO_12.out) hb); have n3_ := zd (zr (by (with_reducible repeat (first | apply ze | apply zf | apply zg)); exact HO167.out) hb); have n4_ := zd (Kd.R_elder' (by (with_reducible repeat (first | apply ze | apply zf | apply zg)); exact HO169.out) (Kd.R_base ho66) hb); have n5_ := zd (zr (by (with_reducible repeat (first | apply ze | apply zf | apply zg)); exact HO172.out) hb); have n6_ := zd (zr (by (with_reducible repeat (first | apply ze | apply zf | apply zg)); exact HO175.out) hb); have n7_ := zd (Kd.R_lower (Kd.R_new' (Kd.R_new' ho66 (Kd.R_lt (by (with_reducible repeat (first | apply ze | apply zf | apply zg)); exact HO_3.out))) (Kd.R_lt (by (with_reducible repeat (first | apply ze | apply zf | apply zg)); exact HO169.out))) (below_size (by repeat (first | (with_reducible first | exact HB.out | apply zh | apply zi | apply zj | refine zn ?_ GE156.out) | exact HB.out)))); have n8_ := zd (zp (g := gb156) (o := .cells #[.int .i64 3, .int .i64 5, .int .i64 0] 23 (0, 0)) (by (with_reducible repeat (first | refine zk ?_ _ | refine zl ?_ | refine zm ?_ _)); exact BK156.out) hb); have n9_ := zd (zs (by repeat (first | (with_reducible first | exact HB.out | apply zh | apply zi | apply zj | refine zn ?_ GE156.out) | exact HB.out)) hb); clear HO_1; clear HO_3; clear HO_12; clear HO167; clear HO169; clear HO172; clear HO175; clear BK156; clear HB; have HO_1 := n0_; have HO_3 := n1_; have HO_12 := n2_; have HO167 := n3_; have HO169 := n4_; have HO172 := n5_; have HO175 := n6_; have HO179 := n7_; have BK156 := n8_; have HB := n9_; clear n0_ n1_ n2_ n3_ n4_ n5_ n6_ n7_ n8_ n9_; clear hb ho66; obtain ⟨Ao67, co67, eo67⟩ := Kd.R_slice HO179.out; subst eo67) | (go_at_call 19; (with_reducible refine (leathelp_Panes.calls k1 _ _ x3_1 _ _ y177 true _ ?side1 ?side2 ?side3 ?side4 A19.out).mono ?_); (case side1 => repeat (first | exact (Kd.R_reads' HO_3.out).2.2 | (with_reducible refine Kd.C_alloc ?_ _) | (with_reducible refine Kd.C_drewN ?_ _) | (with_reducible refine Kd.C_drew ?_))); (case side2 => exact (Kd.R_reads' HO_3.out).2.1); (case side3 => repeat (first | exact (Kd.R_reads' HO179.out).2.2 | (with_reducible refine Kd.C_alloc ?_ _) | (with_reducible refine Kd.C_drewN ?_ _) | (with_reducible refine Kd.C_drew ?_))); (case side4 => exact (Kd.R_reads' HO179.out).2.1); rintro e w' ⟨rfl, ⟨nd, rfl⟩⟩) | ((with_reducible refine gate_dst (N := 52) rfl ?_); (try (refine gate_guard (by rfl) ?_; dsimp only)); refine Kd.R_lit k37 _ 37 ?hg (N := 52) ?hd (xs := ([(⟨1, 8, 2⟩ : S37), (⟨1, 13, 1⟩ : S37)] : List (S37))) (inner := [.int .i64 1, .int .i64 8, .int .i64 2, .int .i64 1, .int .i64 13, .int .i64 1]) (ok := fun _ => True) (okp := fun _ => True) ?hr ?hp (fun _ hk => hk) trivial (Below.refl _ _) (Nat.le_refl _) (by simp) ?_; (case hd => rfl); (case hg => rfl); (case hr => first | (go_simp; done) | (go_simp; rfl)); (case hp => exact (Reps.c3 (show Kd.M k37 _ _ _ (⟨1, 8, 2⟩ : S37) [.int .i64 1, .int .i64 8, .int .i64 2] from (k37_mkM _ _ _ (⟨1, 8, 2⟩ : S37) )) (Reps.c3 (show Kd.M k37 _ _ _ (⟨1, 13, 1⟩ : S37) [.int .i64 1, .int .i64 13, .int .i64 1] from (k37_mkM _ _ _ (⟨1, 13, 1⟩ : S37) )) (Reps.none _ _)))); intro v182 w68 ho69 hb hg_ hnew_; clear hg_ hnew_; (first | rw [← Ny181.out] at ho69 | (simp only [Int.reduceToNat] at ho69; rw [← Ny181.out] at ho69)); have n0_ := zd (zr (by (with_reducible repeat (first | apply ze | apply zf | apply zg)); exact HO_1.out) hb); have n1_ := zd (zr (by (with_reducible repeat (first | apply ze | apply zf | apply zg)); exact HO_3.out) hb); have n2_ := zd (zr (by (with_reducible repeat (first | apply ze | apply zf | apply zg)); exact HO_12.out) hb); have n3_ := zd (Kd.R_elder' (by (with_reducible repeat (first | apply ze | apply zf | apply zg)); exact HO167.out) (Kd.R_base ho69) hb); have n4_ := zd (zr (by (with_reducible repeat (first | apply ze | apply zf | apply zg)); exact HO169.out) hb); have n5_ := zd (zr (by (with_reducible repeat (first | apply ze | apply zf | apply zg)); exact HO172.out) hb); have n6_ := zd (zr (by (with_reducible repeat (first | apply ze | apply zf | apply zg)); exact HO175.out) hb); have n7_ := zd (zr (by (with_reducible repeat (first | apply ze | apply zf | apply zg)); exact HO179.out) hb); have n8_ := zd (Kd.R_lower (Kd.R_new' ho69 (Kd.R_lt (by (with_reducible repeat (first | apply ze | apply zf | apply zg)); exact HO167.out))) (below_size (by repeat (first | (with_reducible first | exact HB.out | apply zh | apply zi | apply zj | refine zn ?_ GE156.out) | exact HB.out)))); have n9_ := zd (zp (g := gb156) (o := .cells #[.int .i64 3, .int .i64 5, .int .i64 0] 23 (0, 0)) (by (with_reducible repeat (first | refine zk ?_ _ | refine zl ?_ | refine zm ?_ _)); exact BK156.out) hb); have n10_ := zd (zs (by repeat (first | (with_reducible first | exact HB.out | apply zh | apply zi | apply zj | refine zn ?_ GE156.out) | exact HB.out)) hb); clear HO_1; clear HO_3; clear HO_12; clear HO167; clear HO169; clear HO172; clear HO175; clear HO179; clear BK156; clear HB; have HO_1 := n0_; have HO_3 := n1_; have HO_12 := n2_; have HO167 := n3_; have HO169 := n4_; have HO172 := n5_; have HO175 := n6_; have HO179 := n7_; have HO183 := n8_; have BK156 := n9_; have HB := n10_; clear n0_ n1_ n2_ n3_ n4_ n5_ n6_ n7_ n8_ n9_ n10_; clear hb ho69; obtain ⟨Ao70, co70, eo70⟩ := Kd.R_slice HO167.out; subst eo70; obtain ⟨Ao71, co71, eo71⟩ := Kd.R_slice HO183.out; subst eo71) | (go_at_call 23; (with_reducible refine (leathelp_Records.calls k1 _ _ t164 _ _ y181 true _ ?side1 ?side2 ?side3 ?side4 A21.out).mono ?_); (case side1 => repeat (first | exact (Kd.R_reads' HO167.out).2.2 | (with_reducible refine Kd.C_alloc ?_ _) | (with_reducible refine Kd.C_drewN ?_ _) | (with_reducible refine Kd.C_drew ?_))); (case side2 => exact (Kd.R_reads' HO167.out).2.1); (case side3 => repeat (first | exact (Kd.R_reads' HO183.out).2.2 | (with_reducible refine Kd.C_alloc ?_ _) | (with_reducible refine Kd.C_drewN ?_ _) | (with_reducible refine Kd.C_drew ?_))); (case side4 => exact (Kd.R_reads' HO183.out).2.1); rintro e w' ⟨rfl, ⟨nd, rfl⟩⟩; obtain ⟨Ao72, co72, eo72⟩ := Kd.R_slice HO169.out; subst eo72))
        go_ret
        exact ⟨by first | rfl | (simp [errW_none, errW_some] <;> rfl) | (simp [*, errW_none, errW_some] <;> rfl), by repeat (first | (with_reducible first | exact HB.out | apply zh | apply zi | apply zj | refine zn ?_ GE156.out) | exact HB.out)⟩
      ·replace c22 := Bool.eq_false_iff.mpr c22
       subst c22
       have H1 : (some false) = some r := by rw [if_neg (show ¬ (false = true) by decide)] at H; exact H
       clear H
       have H := H1
       clear H1
       obtain rfl := Option.some.inj H
       obtain ⟨Ao73, co73, eo73⟩ := Kd.R_slice HO_3.out
       subst eo73
       go_wp2_with (first | ((with_reducible refine gate_callee (f := 21) rfl ?_); refine goesL_ (some 26) rfl rfl Try.func21 (by kernel_rfl) rfl #[.slice Ao73 x3_1.length co73, .int .i64 14] rfl (by (try simp only [List.map_toArray, List.map_cons, List.map_nil]); first | done | rfl | (simp only [List.length_drop, List.length_take]; rfl)) ?_; (with_reducible refine (window_Fire.calls k1 _ _ x3_1 14 t164 t165 _ ?side1 ?side2 A15.out).mono ?_); (case side1 => repeat (first | exact (Kd.R_reads' HO_3.out).2.2 | (with_reducible refine Kd.C_alloc ?_ _) | (with_reducible refine Kd.C_drewN ?_ _) | (with_reducible refine Kd.C_drew ?_))); (case side2 => exact (Kd.R_reads' HO_3.out).2.1); rintro e w74 ⟨v166, v168, rfl, ho0, ho1, hb⟩; refine ⟨_, rfl, ?_⟩; have n0_ := zd (zr (by (with_reducible repeat (first | apply ze | apply zf | apply zg)); exact HO_1.out) hb); have n1_ := zd (Kd.R_elder' (by (with_reducible repeat (first | apply ze | apply zf | apply zg)); exact HO_3.out) (Kd.R_base ho1) hb); have n2_ := zd (zr (by (with_reducible repeat (first | apply ze | apply zf | apply zg)); exact HO_12.out) hb); have n3_ := zd (Kd.R_lower ho0 (below_size (by repeat (first | (with_reducible first | exact HB.out | apply zh | apply zi | apply zj | refine zn ?_ GE156.out) | exact HB.out)))); have n4_ := zd (Kd.R_lower (Kd.R_new' ho1 (Kd.R_lt (by (with_reducible repeat (first | apply ze | apply zf | apply zg)); exact HO_3.out))) (below_size (by repeat (first | (with_reducible first | exact HB.out | apply zh | apply zi | apply zj | refine zn ?_ GE156.out) | exact HB.out)))); have n5_ := zd (zp (g := gb156) (o := .cells #[.int .i64 3, .int .i64 5, .int .i64 0] 23 (0, 0)) (by (with_reducible repeat (first | refine zk ?_ _ | refine zl ?_ | refine zm ?_ _)); exact BK156.out) hb); have n6_ := zd (zs (by repeat (first | (with_reducible first | exact HB.out | apply zh | apply zi | apply zj | refine zn ?_ GE156.out) | exact HB.out)) hb); clear HO_1; clear HO_3; clear HO_12; clear BK156; clear HB; have HO_1 := n0_; have HO_3 := n1_; have HO_12 := n2_; have HO167 := n3_; have HO169 := n4_; have BK156 := n5_; have HB := n6_; clear n0_ n1_ n2_ n3_ n4_ n5_ n6_; (try clear hb); (try clear hb2); (try clear hk); (try clear hi); (try clear ho0); (try clear ho1)) | ((with_reducible refine gate_callee (f := 15) rfl ?_); refine goesL_ (some 30) rfl rfl Try.func15 (by kernel_rfl) rfl #[.agg #[.int .i64 1, .int .i64 10, .int .i64 0], .int .i64 (-1)] rfl (by (try simp only [List.map_toArray, List.map_cons, List.map_nil]); first | done | rfl | (simp only [List.length_drop, List.length_take]; rfl)) ?_; (with_reducible refine (window_Spans.calls k1 1 10 0 (-1) t170 _ A16.out).mono ?_); rintro e w75 ⟨v171, rfl, ho0, hb⟩; refine ⟨_, rfl, ?_⟩; have n0_ := zd (Kd.R_elder' (by (with_reducible repeat (first | apply ze | apply zf | apply zg)); exact HO_1.out) (Kd.R_base ho0) hb); have n1_ := zd (zr (by (with_reducible repeat (first | apply ze | apply zf | apply zg)); exact HO_3.out) hb); have n2_ := zd (zr (by (with_reducible repeat (first | apply ze | apply zf | apply zg)); exact HO_12.out) hb); have n3_ := zd (zr (by (with_reducible repeat (first | apply ze | apply zf | apply zg)); exact HO167.out) hb); have n4_ := zd (zr (by (with_reducible repeat (first | apply ze | apply zf | apply zg)); exact HO169.out) hb); have n5_ := zd (Kd.R_lower (Kd.R_new' ho0 (Kd.R_lt (by (with_reducible repeat (first | apply ze | apply zf | apply zg)); exact HO_1.out))) (below_size (by repeat (first | (with_reducible first | exact HB.out | apply zh | apply zi | apply zj | refine zn ?_ GE156.out) | exact HB.out)))); have n6_ := zd (zp (g := gb156) (o := .cells #[.int .i64 3, .int .i64 5, .int .i64 0] 23 (0, 0)) (by (with_reducible repeat (first | refine zk ?_ _ | refine zl ?_ | refine zm ?_ _)); exact BK156.out) hb); have n7_ := zd (zs (by repeat (first | (with_reducible first | exact HB.out | apply zh | apply zi | apply zj | refine zn ?_ GE156.out) | exact HB.out)) hb); clear HO_1; clear HO_3; clear HO_12; clear HO167; clear HO169; clear BK156; clear HB; have HO_1 := n0_; have HO_3 := n1_; have HO_12 := n2_; have HO167 := n3_; have HO169 := n4_; have HO172 := n5_; have BK156 := n6_; have HB := n7_; clear n0_ n1_ n2_ n3_ n4_ n5_ n6_ n7_; (try clear hb); (try clear hb2); (try clear hk); (try clear hi); (try clear ho0)) | ((with_reducible refine gate_dst (N := 35) rfl ?_); (try (refine gate_guard (by rfl) ?_; dsimp only)); refine Kd.R_lit k31 _ 31 ?hg (N := 35) ?hd (xs := ([(⟨0, 10⟩ : S31), (⟨4, 14⟩ : S31), (⟨8, 18⟩ : S31)] : List (S31))) (inner := [.int .i64 0, .int .i64 10, .int .i64 4, .int .i64 14, .int .i64 8, .int .i64 18]) (ok := fun _ => True) (okp := fun _ => True) ?hr ?hp (fun _ hk => hk) trivial (Below.refl _ _) (Nat.le_refl _) (by simp) ?_; (case hd => rfl); (case hg => rfl); (case hr => first | (go_simp; done) | (go_simp; rfl)); (case hp => exact (Reps.c2 (show Kd.M k31 _ _ _ (⟨0, 10⟩ : S31) [.int .i64 0, .int .i64 10] from (k31_mkM _ _ _ (⟨0, 10⟩ : S31) )) (Reps.c2 (show Kd.M k31 _ _ _ (⟨4, 14⟩ : S31) [.int .i64 4, .int .i64 14] from (k31_mkM _ _ _ (⟨4, 14⟩ : S31) )) (Reps.c2 (show Kd.M k31 _ _ _ (⟨8, 18⟩ : S31) [.int .i64 8, .int .i64 18] from (k31_mkM _ _ _ (⟨8, 18⟩ : S31) )) (Reps.none _ _))))); intro v174 w76 ho77 hb hg_ hnew_; clear hg_ hnew_; (first | rw [← Ny173.out] at ho77 | (simp only [Int.reduceToNat] at ho77; rw [← Ny173.out] at ho77)); have n0_ := zd (Kd.R_elder' (by (with_reducible repeat (first | apply ze | apply zf | apply zg)); exact HO_1.out) (Kd.R_base ho77) hb); have n1_ := zd (zr (by (with_reducible repeat (first | apply ze | apply zf | apply zg)); exact HO_3.out) hb); have n2_ := zd (zr (by (with_reducible repeat (first | apply ze | apply zf | apply zg)); exact HO_12.out) hb); have n3_ := zd (zr (by (with_reducible repeat (first | apply ze | apply zf | apply zg)); exact HO167.out) hb); have n4_ := zd (zr (by (with_reducible repeat (first | apply ze | apply zf | apply zg)); exact HO169.out) hb); have n5_ := zd (Kd.R_elder' (by (with_reducible repeat (first | apply ze | apply zf | apply zg)); exact HO172.out) (Kd.R_base ho77) hb); have n6_ := zd (Kd.R_lower (Kd.R_new' (Kd.R_new' ho77 (Kd.R_lt (by (with_reducible repeat (first | apply ze | apply zf | apply zg)); exact HO_1.out))) (Kd.R_lt (by (with_reducible repeat (first | apply ze | apply zf | apply zg)); exact HO172.out))) (below_size (by repeat (first | (with_reducible first | exact HB.out | apply zh | apply zi | apply zj | refine zn ?_ GE156.out) | exact HB.out)))); have n7_ := zd (zp (g := gb156) (o := .cells #[.int .i64 3, .int .i64 5, .int .i64 0] 23 (0, 0)) (by (with_reducible repeat (first | refine zk ?_ _ | refine zl ?_ | refine zm ?_ _)); exact BK156.out) hb); have n8_ := zd (zs (by repeat (first | (with_reducible first | exact HB.out | apply zh | apply zi | apply zj | refine zn ?_ GE156.out) | exact HB.out)) hb); clear HO_1; clear HO_3; clear HO_12; clear HO167; clear HO169; clear HO172; clear BK156; clear HB; have HO_1 := n0_; have HO_3 := n1_; have HO_12 := n2_; have HO167 := n3_; have HO169 := n4_; have HO172 := n5_; have HO175 := n6_; have BK156 := n7_; have HB := n8_; clear n0_ n1_ n2_ n3_ n4_ n5_ n6_ n7_ n8_; clear hb ho77; obtain ⟨Ao78, co78, eo78⟩ := Kd.R_slice HO_1.out; subst eo78; obtain ⟨Ao79, co79, eo79⟩ := Kd.R_slice HO175.out; subst eo79) | ((with_reducible refine gate_callee (f := 16) rfl ?_); refine goesL_ (some 36) rfl rfl Try.func16 (by kernel_rfl) rfl #[.slice Ao78 t153.length co78, .slice Ao79 y173.length co79] rfl (by (try simp only [List.map_toArray, List.map_cons, List.map_nil]); first | done | rfl | (simp only [List.length_drop, List.length_take]; rfl)) ?_; (with_reducible refine (leathelp_Spans.calls k1 _ _ t153 _ _ y173 true _ ?side1 ?side2 ?side3 ?side4 A17.out).mono ?_); (case side1 => repeat (first | exact (Kd.R_reads' HO_1.out).2.2 | (with_reducible refine Kd.C_alloc ?_ _) | (with_reducible refine Kd.C_drewN ?_ _) | (with_reducible refine Kd.C_drew ?_))); (case side2 => exact (Kd.R_reads' HO_1.out).2.1); (case side3 => repeat (first | exact (Kd.R_reads' HO175.out).2.2 | (with_reducible refine Kd.C_alloc ?_ _) | (with_reducible refine Kd.C_drewN ?_ _) | (with_reducible refine Kd.C_drew ?_))); (case side4 => exact (Kd.R_reads' HO175.out).2.1); rintro e w' ⟨rfl, ⟨nd, rfl⟩⟩; refine ⟨_, rfl, ?_⟩) | ((with_reducible refine gate_dst (N := 45) rfl ?_); (try (refine gate_guard (by rfl) ?_; dsimp only)); refine Kd.R_lit k46 _ 46 ?hg (N := 45) ?hd (xs := ([(⟨1, (⟨0, 9⟩ : S31), 2⟩ : S46), (⟨1, (⟨9, 14⟩ : S31), 1⟩ : S46), (⟨1, (⟨20, 25⟩ : S31), 1⟩ : S46)] : List (S46))) (inner := [.int .i64 1, .int .i64 0, .int .i64 9, .int .i64 2, .int .i64 1, .int .i64 9, .int .i64 14, .int .i64 1, .int .i64 1, .int .i64 20, .int .i64 25, .int .i64 1]) (ok := fun _ => True) (okp := fun _ => True) ?hr ?hp (fun _ hk => hk) trivial (Below.refl _ _) (Nat.le_refl _) (by simp) ?_; (case hd => rfl); (case hg => rfl); (case hr => first | (go_simp; done) | (go_simp; rfl)); (case hp => exact (Reps.c4 (show Kd.M k46 _ _ _ (⟨1, (⟨0, 9⟩ : S31), 2⟩ : S46) [.int .i64 1, .int .i64 0, .int .i64 9, .int .i64 2] from (k46_mkM _ _ _ (⟨1, (⟨0, 9⟩ : S31), 2⟩ : S46) )) (Reps.c4 (show Kd.M k46 _ _ _ (⟨1, (⟨9, 14⟩ : S31), 1⟩ : S46) [.int .i64 1, .int .i64 9, .int .i64 14, .int .i64 1] from (k46_mkM _ _ _ (⟨1, (⟨9, 14⟩ : S31), 1⟩ : S46) )) (Reps.c4 (show Kd.M k46 _ _ _ (⟨1, (⟨20, 25⟩ : S31), 1⟩ : S46) [.int .i64 1, .int .i64 20, .int .i64 25, .int .i64 1] from (k46_mkM _ _ _ (⟨1, (⟨20, 25⟩ : S31), 1⟩ : S46) )) (Reps.none _ _))))); intro v178 w80 ho81 hb hg_ hnew_; clear hg_ hnew_; (first | rw [← Ny177.out] at ho81 | (simp only [Int.reduceToNat] at ho81; rw [← Ny177.out] at ho81)); have n0_ := zd (zr (by (with_reducible repeat (first | apply ze | apply zf | apply zg)); exact HO_1.out) hb); have n1_ := zd (Kd.R_elder' (by (with_reducible repeat (first | apply ze | apply zf | apply zg)); exact HO_3.out) (Kd.R_base ho81) hb); have n2_ := zd (zr (by (with_reducible repeat (first | apply ze | apply zf | apply zg)); exact HO_12.out) hb); have n3_ := zd (zr (by (with_reducible repeat (first | apply ze | apply zf | apply zg)); exact HO167.out) hb); have n4_ := zd (Kd.R_elder' (by (with_reducible repeat (first | apply ze | apply zf | apply zg)); exact HO169.out) (Kd.R_base ho81) hb); have n5_ := zd (zr (by (with_reducible repeat (first | apply ze | apply zf | apply zg)); exact HO172.out) hb); have n6_ := zd (zr (by (with_reducible repeat (first | apply ze | apply zf | apply zg)); exact HO175.out) hb); have n7_ := zd (Kd.R_lower (Kd.R_new' (Kd.R_new' ho81 (Kd.R_lt (by (with_reducible repeat (first | apply ze | apply zf | apply zg)); exact HO_3.out))) (Kd.R_lt (by (with_reducible repeat (first | apply ze | apply zf | apply zg)); exact HO169.out))) (below_size (by repeat (first | (with_reducible first | exact HB.out | apply zh | apply zi | apply zj | refine zn ?_ GE156.out) | exact HB.out)))); have n8_ := zd (zp (g := gb156) (o := .cells #[.int .i64 3, .int .i64 5, .int .i64 0] 23 (0, 0)) (by (with_reducible repeat (first | refine zk ?_ _ | refine zl ?_ | refine zm ?_ _)); exact BK156.out) hb); have n9_ := zd (zs (by repeat (first | (with_reducible first | exact HB.out | apply zh | apply zi | apply zj | refine zn ?_ GE156.out) | exact HB.out)) hb); clear HO_1; clear HO_3; clear HO_12; clear HO167; clear HO169; clear HO172; clear HO175; clear BK156; clear HB; have HO_1 := n0_; have HO_3 := n1_; have HO_12 := n2_; have HO167 := n3_; have HO169 := n4_; have HO172 := n5_; have HO175 := n6_; have HO179 := n7_; have BK156 := n8_; have HB := n9_; clear n0_ n1_ n2_ n3_ n4_ n5_ n6_ n7_ n8_ n9_; clear hb ho81; obtain ⟨Ao82, co82, eo82⟩ := Kd.R_slice HO179.out; subst eo82) | (go_at_call 19; (with_reducible refine (leathelp_Panes.calls k1 _ _ x3_1 _ _ y177 true _ ?side1 ?side2 ?side3 ?side4 A19.out).mono ?_); (case side1 => repeat (first | exact (Kd.R_reads' HO_3.out).2.2 | (with_reducible refine Kd.C_alloc ?_ _) | (with_reducible refine Kd.C_drewN ?_ _) | (with_reducible refine Kd.C_drew ?_))); (case side2 => exact (Kd.R_reads' HO_3.out).2.1); (case side3 => repeat (first | exact (Kd.R_reads' HO179.out).2.2 | (with_reducible refine Kd.C_alloc ?_ _) | (with_reducible refine Kd.C_drewN ?_ _) | (with_reducible refine Kd.C_drew ?_))); (case side4 => exact (Kd.R_reads' HO179.out).2.1); rintro e w' ⟨rfl, ⟨nd, rfl⟩⟩) | ((with_reducible refine gate_dst (N := 52) rfl ?_); (try (refine gate_guard (by rfl) ?_; dsimp only)); refine Kd.R_lit k37 _ 37 ?hg (N := 52) ?hd (xs := ([(⟨1, 8, 2⟩ : S37), (⟨1, 13, 1⟩ : S37)] : List (S37))) (inner := [.int .i64 1, .int .i64 8, .int .i64 2, .int .i64 1, .int .i64 13, .int .i64 1]) (ok := fun _ => True) (okp := fun _ => True) ?hr ?hp (fun _ hk => hk) trivial (Below.refl _ _) (Nat.le_refl _) (by simp) ?_; (case hd => rfl); (case hg => rfl); (case hr => first | (go_simp; done) | (go_simp; rfl)); (case hp => exact (Reps.c3 (show Kd.M k37 _ _ _ (⟨1, 8, 2⟩ : S37) [.int .i64 1, .int .i64 8, .int .i64 2] from (k37_mkM _ _ _ (⟨1, 8, 2⟩ : S37) )) (Reps.c3 (show Kd.M k37 _ _ _ (⟨1, 13, 1⟩ : S37) [.int .i64 1, .int .i64 13, .int .i64 1] from (k37_mkM _ _ _ (⟨1, 13, 1⟩ : S37) )) (Reps.none _ _)))); intro v182 w83 ho84 hb hg_ hnew_; clear hg_ hnew_; (first | rw [← Ny181.out] at ho84 | (simp only [Int.reduceToNat] at ho84; rw [← Ny181.out] at ho84)); have n0_ := zd (zr (by (with_reducible repeat (first | apply ze | apply zf | apply zg)); exact HO_1.out) hb); have n1_ := zd (zr (by (with_reducible repeat (first | apply ze | apply zf | apply zg)); exact HO_3.out) hb); have n2_ := zd (zr (by (with_reducible repeat (first | apply ze | apply zf | apply zg)); exact HO_12.out) hb); have n3_ := zd (Kd.R_elder' (by (with_reducible repeat (first | apply ze | apply zf | apply zg)); exact HO167.out) (Kd.R_base ho84) hb); have n4_ := zd (zr (by (with_reducible repeat (first | apply ze | apply zf | apply zg)); exact HO169.out) hb); have n5_ := zd (zr (by (with_reducible repeat (first | apply ze | apply zf | apply zg)); exact HO172.out) hb); have n6_ := zd (zr (by (with_reducible repeat (first | apply ze | apply zf | apply zg)); exact HO175.out) hb); have n7_ := zd (zr (by (with_reducible repeat (first | apply ze | apply zf | apply zg)); exact HO179.out) hb); have n8_ := zd (Kd.R_lower (Kd.R_new' ho84 (Kd.R_lt (by (with_reducible repeat (first | apply ze | apply zf | apply zg)); exact HO167.out))) (below_size (by repeat (first | (with_reducible first | exact HB.out | apply zh | apply zi | apply zj | refine zn ?_ GE156.out) | exact HB.out)))); have n9_ := zd (zp (g := gb156) (o := .cells #[.int .i64 3, .int .i64 5, .int .i64 0] 23 (0, 0)) (by (with_reducible repeat (first | refine zk ?_ _ | refine zl ?_ | refine zm ?_ _)); exact BK156.out) hb); have n10_ := zd (zs (by repeat (first | (with_reducible first | exact HB.out | apply zh | apply zi | apply zj | refine zn ?_ GE156.out) | exact HB.out)) hb); clear HO_1; clear HO_3; clear HO_12; clear HO167; clear HO169; clear HO172; clear HO175; clear HO179; clear BK156; clear HB; have HO_1 := n0_; have HO_3 := n1_; have HO_12 := n2_; have HO167 := n3_; have HO169 := n4_; have HO172 := n5_; have HO175 := n6_; have HO179 := n7_; have HO183 := n8_; have BK156 := n9_; have HB := n10_; clear n0_ n1_ n2_ n3_ n4_ n5_ n6_ n7_ n8_ n9_ n10_; clear hb ho84; obtain ⟨Ao85, co85, eo85⟩ := Kd.R_slice HO167.out; subst eo85; obtain ⟨Ao86, co86, eo86⟩ := Kd.R_slice HO183.out; subst eo86) | (go_at_call 23; (with_reducible refine (leathelp_Records.calls k1 _ _ t164 _ _ y181 false _ ?side1 ?side2 ?side3 ?side4 A21.out).mono ?_); (case side1 => repeat (first | exact (Kd.R_reads' HO167.out).2.2 | (with_reducible refine Kd.C_alloc ?_ _) | (with_reducible refine Kd.C_drewN ?_ _) | (with_reducible refine Kd.C_drew ?_))); (case side2 => exact (Kd.R_reads' HO167.out).2.1); (case side3 => repeat (first | exact (Kd.R_reads' HO183.out).2.2 | (with_reducible refine Kd.C_alloc ?_ _) | (with_reducible refine Kd.C_drewN ?_ _) | (with_reducible refine Kd.C_drew ?_))); (case side4 => exact (Kd.R_reads' HO183.out).2.1); rintro e w' ⟨rfl, ⟨nd, rfl⟩⟩))
       go_ret
       exact ⟨by first | rfl | (simp [errW_none, errW_some] <;> rfl) | (simp [*, errW_none, errW_some] <;> rfl), by repeat (first | (with_reducible first | exact HB.out | apply zh | apply zi | apply zj | refine zn ?_ GE156.out) | exact HB.out)⟩
     ·replace c20 := Bool.eq_false_iff.mpr c20
      subst c20
      have H1 : (some false) = some r := by rw [if_neg (show ¬ (false = true) by decide)] at H; exact H
      clear H
      have H := H1
      clear H1
      obtain rfl := Option.some.inj H
      obtain ⟨Ao87, co87, eo87⟩ := Kd.R_slice HO_3.out
      subst eo87
      go_wp2_with (first | ((with_reducible refine gate_callee (f := 21) rfl ?_); refine goesL_ (some 26) rfl rfl Try.func21 (by kernel_rfl) rfl #[.slice Ao87 x3_1.length co87, .int .i64 14] rfl (by (try simp only [List.map_toArray, List.map_cons, List.map_nil]); first | done | rfl | (simp only [List.length_drop, List.length_take]; rfl)) ?_; (with_reducible refine (window_Fire.calls k1 _ _ x3_1 14 t164 t165 _ ?side1 ?side2 A15.out).mono ?_); (case side1 => repeat (first | exact (Kd.R_reads' HO_3.out).2.2 | (with_reducible refine Kd.C_alloc ?_ _) | (with_reducible refine Kd.C_drewN ?_ _) | (with_reducible refine Kd.C_drew ?_))); (case side2 => exact (Kd.R_reads' HO_3.out).2.1); rintro e w88 ⟨v166, v168, rfl, ho0, ho1, hb⟩; refine ⟨_, rfl, ?_⟩; have n0_ := zd (zr (by (with_reducible repeat (first | apply ze | apply zf | apply zg)); exact HO_1.out) hb); have n1_ := zd (Kd.R_elder' (by (with_reducible repeat (first | apply ze | apply zf | apply zg)); exact HO_3.out) (Kd.R_base ho1) hb); have n2_ := zd (zr (by (with_reducible repeat (first | apply ze | apply zf | apply zg)); exact HO_12.out) hb); have n3_ := zd (Kd.R_lower ho0 (below_size (by repeat (first | (with_reducible first | exact HB.out | apply zh | apply zi | apply zj | refine zn ?_ GE156.out) | exact HB.out)))); have n4_ := zd (Kd.R_lower (Kd.R_new' ho1 (Kd.R_lt (by (with_reducible repeat (first | apply ze | apply zf | apply zg)); exact HO_3.out))) (below_size (by repeat (first | (with_reducible first | exact HB.out | apply zh | apply zi | apply zj | refine zn ?_ GE156.out) | exact HB.out)))); have n5_ := zd (zp (g := gb156) (o := .cells #[.int .i64 3, .int .i64 5, .int .i64 0] 23 (0, 0)) (by (with_reducible repeat (first | refine zk ?_ _ | refine zl ?_ | refine zm ?_ _)); exact BK156.out) hb); have n6_ := zd (zs (by repeat (first | (with_reducible first | exact HB.out | apply zh | apply zi | apply zj | refine zn ?_ GE156.out) | exact HB.out)) hb); clear HO_1; clear HO_3; clear HO_12; clear BK156; clear HB; have HO_1 := n0_; have HO_3 := n1_; have HO_12 := n2_; have HO167 := n3_; have HO169 := n4_; have BK156 := n5_; have HB := n6_; clear n0_ n1_ n2_ n3_ n4_ n5_ n6_; (try clear hb); (try clear hb2); (try clear hk); (try clear hi); (try clear ho0); (try clear ho1)) | ((with_reducible refine gate_callee (f := 15) rfl ?_); refine goesL_ (some 30) rfl rfl Try.func15 (by kernel_rfl) rfl #[.agg #[.int .i64 1, .int .i64 10, .int .i64 0], .int .i64 (-1)] rfl (by (try simp only [List.map_toArray, List.map_cons, List.map_nil]); first | done | rfl | (simp only [List.length_drop, List.length_take]; rfl)) ?_; (with_reducible refine (window_Spans.calls k1 1 10 0 (-1) t170 _ A16.out).mono ?_); rintro e w89 ⟨v171, rfl, ho0, hb⟩; refine ⟨_, rfl, ?_⟩; have n0_ := zd (Kd.R_elder' (by (with_reducible repeat (first | apply ze | apply zf | apply zg)); exact HO_1.out) (Kd.R_base ho0) hb); have n1_ := zd (zr (by (with_reducible repeat (first | apply ze | apply zf | apply zg)); exact HO_3.out) hb); have n2_ := zd (zr (by (with_reducible repeat (first | apply ze | apply zf | apply zg)); exact HO_12.out) hb); have n3_ := zd (zr (by (with_reducible repeat (first | apply ze | apply zf | apply zg)); exact HO167.out) hb); have n4_ := zd (zr (by (with_reducible repeat (first | apply ze | apply zf | apply zg)); exact HO169.out) hb); have n5_ := zd (Kd.R_lower (Kd.R_new' ho0 (Kd.R_lt (by (with_reducible repeat (first | apply ze | apply zf | apply zg)); exact HO_1.out))) (below_size (by repeat (first | (with_reducible first | exact HB.out | apply zh | apply zi | apply zj | refine zn ?_ GE156.out) | exact HB.out)))); have n6_ := zd (zp (g := gb156) (o := .cells #[.int .i64 3, .int .i64 5, .int .i64 0] 23 (0, 0)) (by (with_reducible repeat (first | refine zk ?_ _ | refine zl ?_ | refine zm ?_ _)); exact BK156.out) hb); have n7_ := zd (zs (by repeat (first | (with_reducible first | exact HB.out | apply zh | apply zi | apply zj | refine zn ?_ GE156.out) | exact HB.out)) hb); clear HO_1; clear HO_3; clear HO_12; clear HO167; clear HO169; clear BK156; clear HB; have HO_1 := n0_; have HO_3 := n1_; have HO_12 := n2_; have HO167 := n3_; have HO169 := n4_; have HO172 := n5_; have BK156 := n6_; have HB := n7_; clear n0_ n1_ n2_ n3_ n4_ n5_ n6_ n7_; (try clear hb); (try clear hb2); (try clear hk); (try clear hi); (try clear ho0)) | ((with_reducible refine gate_dst (N := 35) rfl ?_); (try (refine gate_guard (by rfl) ?_; dsimp only)); refine Kd.R_lit k31 _ 31 ?hg (N := 35) ?hd (xs := ([(⟨0, 10⟩ : S31), (⟨4, 14⟩ : S31), (⟨8, 18⟩ : S31)] : List (S31))) (inner := [.int .i64 0, .int .i64 10, .int .i64 4, .int .i64 14, .int .i64 8, .int .i64 18]) (ok := fun _ => True) (okp := fun _ => True) ?hr ?hp (fun _ hk => hk) trivial (Below.refl _ _) (Nat.le_refl _) (by simp) ?_; (case hd => rfl); (case hg => rfl); (case hr => first | (go_simp; done) | (go_simp; rfl)); (case hp => exact (Reps.c2 (show Kd.M k31 _ _ _ (⟨0, 10⟩ : S31) [.int .i64 0, .int .i64 10] from (k31_mkM _ _ _ (⟨0, 10⟩ : S31) )) (Reps.c2 (show Kd.M k31 _ _ _ (⟨4, 14⟩ : S31) [.int .i64 4, .int .i64 14] from (k31_mkM _ _ _ (⟨4, 14⟩ : S31) )) (Reps.c2 (show Kd.M k31 _ _ _ (⟨8, 18⟩ : S31) [.int .i64 8, .int .i64 18] from (k31_mkM _ _ _ (⟨8, 18⟩ : S31) )) (Reps.none _ _))))); intro v174 w90 ho91 hb hg_ hnew_; clear hg_ hnew_; (first | rw [← Ny173.out] at ho91 | (simp only [Int.reduceToNat] at ho91; rw [← Ny173.out] at ho91)); have n0_ := zd (Kd.R_elder' (by (with_reducible repeat (first | apply ze | apply zf | apply zg)); exact HO_1.out) (Kd.R_base ho91) hb); have n1_ := zd (zr (by (with_reducible repeat (first | apply ze | apply zf | apply zg)); exact HO_3.out) hb); have n2_ := zd (zr (by (with_reducible repeat (first | apply ze | apply zf | apply zg)); exact HO_12.out) hb); have n3_ := zd (zr (by (with_reducible repeat (first | apply ze | apply zf | apply zg)); exact HO167.out) hb); have n4_ := zd (zr (by (with_reducible repeat (first | apply ze | apply zf | apply zg)); exact HO169.out) hb); have n5_ := zd (Kd.R_elder' (by (with_reducible repeat (first | apply ze | apply zf | apply zg)); exact HO172.out) (Kd.R_base ho91) hb); have n6_ := zd (Kd.R_lower (Kd.R_new' (Kd.R_new' ho91 (Kd.R_lt (by (with_reducible repeat (first | apply ze | apply zf | apply zg)); exact HO_1.out))) (Kd.R_lt (by (with_reducible repeat (first | apply ze | apply zf | apply zg)); exact HO172.out))) (below_size (by repeat (first | (with_reducible first | exact HB.out | apply zh | apply zi | apply zj | refine zn ?_ GE156.out) | exact HB.out)))); have n7_ := zd (zp (g := gb156) (o := .cells #[.int .i64 3, .int .i64 5, .int .i64 0] 23 (0, 0)) (by (with_reducible repeat (first | refine zk ?_ _ | refine zl ?_ | refine zm ?_ _)); exact BK156.out) hb); have n8_ := zd (zs (by repeat (first | (with_reducible first | exact HB.out | apply zh | apply zi | apply zj | refine zn ?_ GE156.out) | exact HB.out)) hb); clear HO_1; clear HO_3; clear HO_12; clear HO167; clear HO169; clear HO172; clear BK156; clear HB; have HO_1 := n0_; have HO_3 := n1_; have HO_12 := n2_; have HO167 := n3_; have HO169 := n4_; have HO172 := n5_; have HO175 := n6_; have BK156 := n7_; have HB := n8_; clear n0_ n1_ n2_ n3_ n4_ n5_ n6_ n7_ n8_; clear hb ho91; obtain ⟨Ao92, co92, eo92⟩ := Kd.R_slice HO_1.out; subst eo92; obtain ⟨Ao93, co93, eo93⟩ := Kd.R_slice HO175.out; subst eo93) | ((with_reducible refine gate_callee (f := 16) rfl ?_); refine goesL_ (some 36) rfl rfl Try.func16 (by kernel_rfl) rfl #[.slice Ao92 t153.length co92, .slice Ao93 y173.length co93] rfl (by (try simp only [List.map_toArray, List.map_cons, List.map_nil]); first | done | rfl | (simp only [List.length_drop, List.length_take]; rfl)) ?_; (with_reducible refine (leathelp_Spans.calls k1 _ _ t153 _ _ y173 true _ ?side1 ?side2 ?side3 ?side4 A17.out).mono ?_); (case side1 => repeat (first | exact (Kd.R_reads' HO_1.out).2.2 | (with_reducible refine Kd.C_alloc ?_ _) | (with_reducible refine Kd.C_drewN ?_ _) | (with_reducible refine Kd.C_drew ?_))); (case side2 => exact (Kd.R_reads' HO_1.out).2.1); (case side3 => repeat (first | exact (Kd.R_reads' HO175.out).2.2 | (with_reducible refine Kd.C_alloc ?_ _) | (with_reducible refine Kd.C_drewN ?_ _) | (with_reducible refine Kd.C_drew ?_))); (case side4 => exact (Kd.R_reads' HO175.out).2.1); rintro e w' ⟨rfl, ⟨nd, rfl⟩⟩; refine ⟨_, rfl, ?_⟩) | ((with_reducible refine gate_dst (N := 45) rfl ?_); (try (refine gate_guard (by rfl) ?_; dsimp only)); refine Kd.R_lit k46 _ 46 ?hg (N := 45) ?hd (xs := ([(⟨1, (⟨0, 9⟩ : S31), 2⟩ : S46), (⟨1, (⟨9, 14⟩ : S31), 1⟩ : S46), (⟨1, (⟨20, 25⟩ : S31), 1⟩ : S46)] : List (S46))) (inner := [.int .i64 1, .int .i64 0, .int .i64 9, .int .i64 2, .int .i64 1, .int .i64 9, .int .i64 14, .int .i64 1, .int .i64 1, .int .i64 20, .int .i64 25, .int .i64 1]) (ok := fun _ => True) (okp := fun _ => True) ?hr ?hp (fun _ hk => hk) trivial (Below.refl _ _) (Nat.le_refl _) (by simp) ?_; (case hd => rfl); (case hg => rfl); (case hr => first | (go_simp; done) | (go_simp; rfl)); (case hp => exact (Reps.c4 (show Kd.M k46 _ _ _ (⟨1, (⟨0, 9⟩ : S31), 2⟩ : S46) [.int .i64 1, .int .i64 0, .int .i64 9, .int .i64 2] from (k46_mkM _ _ _ (⟨1, (⟨0, 9⟩ : S31), 2⟩ : S46) )) (Reps.c4 (show Kd.M k46 _ _ _ (⟨1, (⟨9, 14⟩ : S31), 1⟩ : S46) [.int .i64 1, .int .i64 9, .int .i64 14, .int .i64 1] from (k46_mkM _ _ _ (⟨1, (⟨9, 14⟩ : S31), 1⟩ : S46) )) (Reps.c4 (show Kd.M k46 _ _ _ (⟨1, (⟨20, 25⟩ : S31), 1⟩ : S46) [.int .i64 1, .int .i64 20, .int .i64 25, .int .i64 1] from (k46_mkM _ _ _ (⟨1, (⟨20, 25⟩ : S31), 1⟩ : S46) )) (Reps.none _ _))))); intro v178 w94 ho95 hb hg_ hnew_; clear hg_ hnew_; (first | rw [← Ny177.out] at ho95 | (simp only [Int.reduceToNat] at ho95; rw [← Ny177.out] at ho95)); have n0_ := zd (zr (by (with_reducible repeat (first | apply ze | apply zf | apply zg)); exact HO_1.out) hb); have n1_ := zd (Kd.R_elder' (by (with_reducible repeat (first | apply ze | apply zf | apply zg)); exact HO_3.out) (Kd.R_base ho95) hb); have n2_ := zd (zr (by (with_reducible repeat (first | apply ze | apply zf | apply zg)); exact HO_12.out) hb); have n3_ := zd (zr (by (with_reducible repeat (first | apply ze | apply zf | apply zg)); exact HO167.out) hb); have n4_ := zd (Kd.R_elder' (by (with_reducible repeat (first | apply ze | apply zf | apply zg)); exact HO169.out) (Kd.R_base ho95) hb); have n5_ := zd (zr (by (with_reducible repeat (first | apply ze | apply zf | apply zg)); exact HO172.out) hb); have n6_ := zd (zr (by (with_reducible repeat (first | apply ze | apply zf | apply zg)); exact HO175.out) hb); have n7_ := zd (Kd.R_lower (Kd.R_new' (Kd.R_new' ho95 (Kd.R_lt (by (with_reducible repeat (first | apply ze | apply zf | apply zg)); exact HO_3.out))) (Kd.R_lt (by (with_reducible repeat (first | apply ze | apply zf | apply zg)); exact HO169.out))) (below_size (by repeat (first | (with_reducible first | exact HB.out | apply zh | apply zi | apply zj | refine zn ?_ GE156.out) | exact HB.out)))); have n8_ := zd (zp (g := gb156) (o := .cells #[.int .i64 3, .int .i64 5, .int .i64 0] 23 (0, 0)) (by (with_reducible repeat (first | refine zk ?_ _ | refine zl ?_ | refine zm ?_ _)); exact BK156.out) hb); have n9_ := zd (zs (by repeat (first | (with_reducible first | exact HB.out | apply zh | apply zi | apply zj | refine zn ?_ GE156.out) | exact HB.out)) hb); clear HO_1; clear HO_3; clear HO_12; clear HO167; clear HO169; clear HO172; clear HO175; clear BK156; clear HB; have HO_1 := n0_; have HO_3 := n1_; have HO_12 := n2_; have HO167 := n3_; have HO169 := n4_; have HO172 := n5_; have HO175 := n6_; have HO179 := n7_; have BK156 := n8_; have HB := n9_; clear n0_ n1_ n2_ n3_ n4_ n5_ n6_ n7_ n8_ n9_; clear hb ho95; obtain ⟨Ao96, co96, eo96⟩ := Kd.R_slice HO179.out; subst eo96) | (go_at_call 19; (with_reducible refine (leathelp_Panes.calls k1 _ _ x3_1 _ _ y177 false _ ?side1 ?side2 ?side3 ?side4 A19.out).mono ?_); (case side1 => repeat (first | exact (Kd.R_reads' HO_3.out).2.2 | (with_reducible refine Kd.C_alloc ?_ _) | (with_reducible refine Kd.C_drewN ?_ _) | (with_reducible refine Kd.C_drew ?_))); (case side2 => exact (Kd.R_reads' HO_3.out).2.1); (case side3 => repeat (first | exact (Kd.R_reads' HO179.out).2.2 | (with_reducible refine Kd.C_alloc ?_ _) | (with_reducible refine Kd.C_drewN ?_ _) | (with_reducible refine Kd.C_drew ?_))); (case side4 => exact (Kd.R_reads' HO179.out).2.1); rintro e w' ⟨rfl, ⟨nd, rfl⟩⟩))
      go_ret
      exact ⟨by first | rfl | (simp [errW_none, errW_some] <;> rfl) | (simp [*, errW_none, errW_some] <;> rfl), by repeat (first | (with_reducible first | exact HB.out | apply zh | apply zi | apply zj | refine zn ?_ GE156.out) | exact HB.out)⟩
    ·replace c18 := Bool.eq_false_iff.mpr c18
     subst c18
     have H1 : (some false) = some r := by rw [if_neg (show ¬ (false = true) by decide)] at H; exact H
     clear H
     have H := H1
     clear H1
     obtain rfl := Option.some.inj H
     obtain ⟨Ao97, co97, eo97⟩ := Kd.R_slice HO_3.out
     subst eo97
     go_wp2_with (first | ((with_reducible refine gate_callee (f := 21) rfl ?_); refine goesL_ (some 26) rfl rfl Try.func21 (by kernel_rfl) rfl #[.slice Ao97 x3_1.length co97, .int .i64 14] rfl (by (try simp only [List.map_toArray, List.map_cons, List.map_nil]); first | done | rfl | (simp only [List.length_drop, List.length_take]; rfl)) ?_; (with_reducible refine (window_Fire.calls k1 _ _ x3_1 14 t164 t165 _ ?side1 ?side2 A15.out).mono ?_); (case side1 => repeat (first | exact (Kd.R_reads' HO_3.out).2.2 | (with_reducible refine Kd.C_alloc ?_ _) | (with_reducible refine Kd.C_drewN ?_ _) | (with_reducible refine Kd.C_drew ?_))); (case side2 => exact (Kd.R_reads' HO_3.out).2.1); rintro e w98 ⟨v166, v168, rfl, ho0, ho1, hb⟩; refine ⟨_, rfl, ?_⟩; have n0_ := zd (zr (by (with_reducible repeat (first | apply ze | apply zf | apply zg)); exact HO_1.out) hb); have n1_ := zd (Kd.R_elder' (by (with_reducible repeat (first | apply ze | apply zf | apply zg)); exact HO_3.out) (Kd.R_base ho1) hb); have n2_ := zd (zr (by (with_reducible repeat (first | apply ze | apply zf | apply zg)); exact HO_12.out) hb); have n3_ := zd (Kd.R_lower ho0 (below_size (by repeat (first | (with_reducible first | exact HB.out | apply zh | apply zi | apply zj | refine zn ?_ GE156.out) | exact HB.out)))); have n4_ := zd (Kd.R_lower (Kd.R_new' ho1 (Kd.R_lt (by (with_reducible repeat (first | apply ze | apply zf | apply zg)); exact HO_3.out))) (below_size (by repeat (first | (with_reducible first | exact HB.out | apply zh | apply zi | apply zj | refine zn ?_ GE156.out) | exact HB.out)))); have n5_ := zd (zp (g := gb156) (o := .cells #[.int .i64 3, .int .i64 5, .int .i64 0] 23 (0, 0)) (by (with_reducible repeat (first | refine zk ?_ _ | refine zl ?_ | refine zm ?_ _)); exact BK156.out) hb); have n6_ := zd (zs (by repeat (first | (with_reducible first | exact HB.out | apply zh | apply zi | apply zj | refine zn ?_ GE156.out) | exact HB.out)) hb); clear HO_1; clear HO_3; clear HO_12; clear BK156; clear HB; have HO_1 := n0_; have HO_3 := n1_; have HO_12 := n2_; have HO167 := n3_; have HO169 := n4_; have BK156 := n5_; have HB := n6_; clear n0_ n1_ n2_ n3_ n4_ n5_ n6_; (try clear hb); (try clear hb2); (try clear hk); (try clear hi); (try clear ho0); (try clear ho1)) | ((with_reducible refine gate_callee (f := 15) rfl ?_); refine goesL_ (some 30) rfl rfl Try.func15 (by kernel_rfl) rfl #[.agg #[.int .i64 1, .int .i64 10, .int .i64 0], .int .i64 (-1)] rfl (by (try simp only [List.map_toArray, List.map_cons, List.map_nil]); first | done | rfl | (simp only [List.length_drop, List.length_take]; rfl)) ?_; (with_reducible refine (window_Spans.calls k1 1 10 0 (-1) t170 _ A16.out).mono ?_); rintro e w99 ⟨v171, rfl, ho0, hb⟩; refine ⟨_, rfl, ?_⟩; have n0_ := zd (Kd.R_elder' (by (with_reducible repeat (first | apply ze | apply zf | apply zg)); exact HO_1.out) (Kd.R_base ho0) hb); have n1_ := zd (zr (by (with_reducible repeat (first | apply ze | apply zf | apply zg)); exact HO_3.out) hb); have n2_ := zd (zr (by (with_reducible repeat (first | apply ze | apply zf | apply zg)); exact HO_12.out) hb); have n3_ := zd (zr (by (with_reducible repeat (first | apply ze | apply zf | apply zg)); exact HO167.out) hb); have n4_ := zd (zr (by (with_reducible repeat (first | apply ze | apply zf | apply zg)); exact HO169.out) hb); have n5_ := zd (Kd.R_lower (Kd.R_new' ho0 (Kd.R_lt (by (with_reducible repeat (first | apply ze | apply zf | apply zg)); exact HO_1.out))) (below_size (by repeat (first | (with_reducible first | exact HB.out | apply zh | apply zi | apply zj | refine zn ?_ GE156.out) | exact HB.out)))); have n6_ := zd (zp (g := gb156) (o := .cells #[.int .i64 3, .int .i64 5, .int .i64 0] 23 (0, 0)) (by (with_reducible repeat (first | refine zk ?_ _ | refine zl ?_ | refine zm ?_ _)); exact BK156.out) hb); have n7_ := zd (zs (by repeat (first | (with_reducible first | exact HB.out | apply zh | apply zi | apply zj | refine zn ?_ GE156.out) | exact HB.out)) hb); clear HO_1; clear HO_3; clear HO_12; clear HO167; clear HO169; clear BK156; clear HB; have HO_1 := n0_; have HO_3 := n1_; have HO_12 := n2_; have HO167 := n3_; have HO169 := n4_; have HO172 := n5_; have BK156 := n6_; have HB := n7_; clear n0_ n1_ n2_ n3_ n4_ n5_ n6_ n7_; (try clear hb); (try clear hb2); (try clear hk); (try clear hi); (try clear ho0)) | ((with_reducible refine gate_dst (N := 35) rfl ?_); (try (refine gate_guard (by rfl) ?_; dsimp only)); refine Kd.R_lit k31 _ 31 ?hg (N := 35) ?hd (xs := ([(⟨0, 10⟩ : S31), (⟨4, 14⟩ : S31), (⟨8, 18⟩ : S31)] : List (S31))) (inner := [.int .i64 0, .int .i64 10, .int .i64 4, .int .i64 14, .int .i64 8, .int .i64 18]) (ok := fun _ => True) (okp := fun _ => True) ?hr ?hp (fun _ hk => hk) trivial (Below.refl _ _) (Nat.le_refl _) (by simp) ?_; (case hd => rfl); (case hg => rfl); (case hr => first | (go_simp; done) | (go_simp; rfl)); (case hp => exact (Reps.c2 (show Kd.M k31 _ _ _ (⟨0, 10⟩ : S31) [.int .i64 0, .int .i64 10] from (k31_mkM _ _ _ (⟨0, 10⟩ : S31) )) (Reps.c2 (show Kd.M k31 _ _ _ (⟨4, 14⟩ : S31) [.int .i64 4, .int .i64 14] from (k31_mkM _ _ _ (⟨4, 14⟩ : S31) )) (Reps.c2 (show Kd.M k31 _ _ _ (⟨8, 18⟩ : S31) [.int .i64 8, .int .i64 18] from (k31_mkM _ _ _ (⟨8, 18⟩ : S31) )) (Reps.none _ _))))); intro v174 w100 ho101 hb hg_ hnew_; clear hg_ hnew_; (first | rw [← Ny173.out] at ho101 | (simp only [Int.reduceToNat] at ho101; rw [← Ny173.out] at ho101)); have n0_ := zd (Kd.R_elder' (by (with_reducible repeat (first | apply ze | apply zf | apply zg)); exact HO_1.out) (Kd.R_base ho101) hb); have n1_ := zd (zr (by (with_reducible repeat (first | apply ze | apply zf | apply zg)); exact HO_3.out) hb); have n2_ := zd (zr (by (with_reducible repeat (first | apply ze | apply zf | apply zg)); exact HO_12.out) hb); have n3_ := zd (zr (by (with_reducible repeat (first | apply ze | apply zf | apply zg)); exact HO167.out) hb); have n4_ := zd (zr (by (with_reducible repeat (first | apply ze | apply zf | apply zg)); exact HO169.out) hb); have n5_ := zd (Kd.R_elder' (by (with_reducible repeat (first | apply ze | apply zf | apply zg)); exact HO172.out) (Kd.R_base ho101) hb); have n6_ := zd (Kd.R_lower (Kd.R_new' (Kd.R_new' ho101 (Kd.R_lt (by (with_reducible repeat (first | apply ze | apply zf | apply zg)); exact HO_1.out))) (Kd.R_lt (by (with_reducible repeat (first | apply ze | apply zf | apply zg)); exact HO172.out))) (below_size (by repeat (first | (with_reducible first | exact HB.out | apply zh | apply zi | apply zj | refine zn ?_ GE156.out) | exact HB.out)))); have n7_ := zd (zp (g := gb156) (o := .cells #[.int .i64 3, .int .i64 5, .int .i64 0] 23 (0, 0)) (by (with_reducible repeat (first | refine zk ?_ _ | refine zl ?_ | refine zm ?_ _)); exact BK156.out) hb); have n8_ := zd (zs (by repeat (first | (with_reducible first | exact HB.out | apply zh | apply zi | apply zj | refine zn ?_ GE156.out) | exact HB.out)) hb); clear HO_1; clear HO_3; clear HO_12; clear HO167; clear HO169; clear HO172; clear BK156; clear HB; have HO_1 := n0_; have HO_3 := n1_; have HO_12 := n2_; have HO167 := n3_; have HO169 := n4_; have HO172 := n5_; have HO175 := n6_; have BK156 := n7_; have HB := n8_; clear n0_ n1_ n2_ n3_ n4_ n5_ n6_ n7_ n8_; clear hb ho101; obtain ⟨Ao102, co102, eo102⟩ := Kd.R_slice HO_1.out; subst eo102; obtain ⟨Ao103, co103, eo103⟩ := Kd.R_slice HO175.out; subst eo103) | ((with_reducible refine gate_callee (f := 16) rfl ?_); refine goesL_ (some 36) rfl rfl Try.func16 (by kernel_rfl) rfl #[.slice Ao102 t153.length co102, .slice Ao103 y173.length co103] rfl (by (try simp only [List.map_toArray, List.map_cons, List.map_nil]); first | done | rfl | (simp only [List.length_drop, List.length_take]; rfl)) ?_; (with_reducible refine (leathelp_Spans.calls k1 _ _ t153 _ _ y173 false _ ?side1 ?side2 ?side3 ?side4 A17.out).mono ?_); (case side1 => repeat (first | exact (Kd.R_reads' HO_1.out).2.2 | (with_reducible refine Kd.C_alloc ?_ _) | (with_reducible refine Kd.C_drewN ?_ _) | (with_reducible refine Kd.C_drew ?_))); (case side2 => exact (Kd.R_reads' HO_1.out).2.1); (case side3 => repeat (first | exact (Kd.R_reads' HO175.out).2.2 | (with_reducible refine Kd.C_alloc ?_ _) | (with_reducible refine Kd.C_drewN ?_ _) | (with_reducible refine Kd.C_drew ?_))); (case side4 => exact (Kd.R_reads' HO175.out).2.1); rintro e w' ⟨rfl, ⟨nd, rfl⟩⟩; refine ⟨_, rfl, ?_⟩))
     go_ret
     exact ⟨by first | rfl | (simp [errW_none, errW_some] <;> rfl) | (simp [*, errW_none, errW_some] <;> rfl), by repeat (first | (with_reducible first | exact HB.out | apply zh | apply zi | apply zj | refine zn ?_ GE156.out) | exact HB.out)⟩
end Go.Proofs.Ytdinbnbogdadgaa.X
namespace Go.Proofs.Ytdinbnbogdadgaa.X
open Go.Shelf Go.RowKit Go.Lib Go.Sort Go.Proofs Go.Proofs.YtdinbnbogdadgaaW.PrintWords Go.Proofs.YtdinbnbogdadgaaW.PrintLast Go.Proofs.YtdinbnbogdadgaaW.PrintMore Go.Proofs.Ytdinbnbogdadgaa.So Go.Proofs.Ytdinbnbogdadgaa
set_option linter.unusedVariables false
set_option linter.unusedSimpArgs false
end Go.Proofs.Ytdinbnbogdadgaa.X
namespace Go.Proofs.Ytdinbnbogdadgaa.Th
open Go.RowKit Go.Sort Go.Proofs.YtdinbnbogdadgaaW.PrintWords Go.Proofs.YtdinbnbogdadgaaW.PrintMore Go.Proofs.Ytdinbnbogdadgaa Go.Proofs.Ytdinbnbogdadgaa.So Go.Proofs.Ytdinbnbogdadgaa.X Go.Proofs.Ytdinbnbogdadgaa.Nf
set_option linter.unusedVariables false
set_option linter.unusedSimpArgs false
def leO (x y : S46) : Bool := !ltOf cmpO y x
theorem leO_iff (x y : S46) : leO x y = true ↔ ltOf cmpO y x = false := by unfold leO; simp
theorem leO_trans (x y z : S46) : leO x y = true → leO y z = true → leO x z = true := by
 simp only [leO_iff]; intro h1 h2; exact swoO.ntrans _ _ _ h2 h1
theorem leO_total (x y : S46) : (leO x y || leO y x) = true := by
 rw [Bool.or_eq_true, leO_iff, leO_iff]
 cases h : ltOf cmpO y x with
 | false => exact .inl rfl
 | true =>
  right
  cases h2 : ltOf cmpO x y with
  | false => rfl
  | true => have := swoO.trans _ _ _ h h2; rw [swoO.irrefl] at this; cases this
theorem leO_anti (x y : S46) (h1 : leO x y = true) (h2 : leO y x = true) : x = y := ltO_eq x y ((leO_iff _ _).1 h2) ((leO_iff _ _).1 h1)
theorem sortP_perm (l : List S46) : (sortP l).Perm l := List.mergeSort_perm l _
def Sorted (l : List S46) : Prop := l.Pairwise (fun x y => leO x y = true)
theorem sortP_sorted (l : List S46) : Sorted (sortP l) := List.pairwise_mergeSort leO_trans leO_total l
theorem sorted_unique {l m : List S46} (h : l.Perm m) (h1 : Sorted l) (h2 : Sorted m) : l = m :=
 List.Perm.eq_of_pairwise (fun x y _ _ a b => leO_anti x y a b) h1 h2 h
theorem sortP_same {l : List S46} (h : Sorted l) : sortP l = l := sorted_unique (sortP_perm l) (sortP_sorted l) h
def hitK (kind : Int) (p x : S46) : Prop := if kind = 3 then hitP p x = true else sameP p x = true
theorem hitP_iff (p x : S46) : hitP p x = true ↔ (x.f0 = p.f0 ∧ x.f1.f0 < p.f1.f1 ∧ p.f1.f0 < x.f1.f1 ∧ x.f1.f0 < x.f1.f1 ∧ p.f1.f0 < p.f1.f1) := by
 unfold hitP mx mn
 rw [Bool.and_eq_true, beq_iff_eq, decide_eq_true_iff]
 constructor
 ·rintro ⟨h1, h2⟩
  split at h2 <;> split at h2 <;> omega
 ·rintro ⟨h1, h2, h3, h4, h5⟩
  refine ⟨h1, ?_⟩
  split <;> split <;> omega
theorem sameP_iff (p x : S46) : sameP p x = true ↔ (x.f0 = p.f0 ∧ x.f1.f0 = p.f1.f0 ∧ x.f1.f1 = p.f1.f1) := by
 unfold sameP
 rw [Bool.and_eq_true, Bool.and_eq_true, beq_iff_eq, beq_iff_eq, beq_iff_eq]
theorem merge_both {a : Int} (ha : aggOk a = true) (x y : Int) : aggMerge a x y = aggBoth a x y := by unfold aggMerge; rw [if_pos ha]
theorem hitK_key {kind : Int} {p x : S46} (h : hitK kind p x) : x.f0 = p.f0 := by
 unfold hitK at h
 split at h
 ·exact ((hitP_iff _ _).1 h).1
 ·exact ((sameP_iff _ _).1 h).1
theorem S46_ext {x y : S46} (h0 : x.f0 = y.f0) (h1 : x.f1.f0 = y.f1.f0) (h2 : x.f1.f1 = y.f1.f1) (h3 : x.f2 = y.f2) : x = y := by
 obtain ⟨_, ⟨_, _⟩, _⟩ := x
 obtain ⟨_, ⟨_, _⟩, _⟩ := y
 simp_all
theorem mgK (kind : Int) {a : Int} (ha : aggOk a = true) : Mg (hitK kind) (joinP a) where
 sym {x y} h := by
  unfold hitK at *
  by_cases hk : kind = 3
  ·rw [if_pos hk, hitP_iff] at *; omega
  ·rw [if_neg hk, sameP_iff] at *; omega
 comm {x y} h := by
  have hkey := hitK_key h
  refine S46_ext hkey.symm ?_ ?_ ?_
  ·show mn _ _ = mn _ _; unfold mn; split <;> split <;> omega
  ·show mx _ _ = mx _ _; unfold mx; split <;> split <;> omega
  ·show aggMerge a _ _ = aggMerge a _ _; rw [merge_both ha, merge_both ha, both_comm]
 turn {x y z} h1 h2 := by
  refine S46_ext rfl ?_ ?_ ?_
  ·show mn (mn _ _) _ = mn (mn _ _) _; unfold mn; (repeat' split) <;> omega
  ·show mx (mx _ _) _ = mx (mx _ _) _; unfold mx; (repeat' split) <;> omega
  ·show aggMerge a (aggMerge a _ _) _ = aggMerge a (aggMerge a _ _) _
   simp only [merge_both ha]
   rw [both_assoc, both_comm a y.f2, ← both_assoc]
 mono {x y z} h1 h2 := by
  unfold hitK at *
  by_cases hk : kind = 3
  ·rw [if_pos hk, hitP_iff] at *
   show z.f0 = x.f0 ∧ z.f1.f0 < mx x.f1.f1 y.f1.f1 ∧ mn x.f1.f0 y.f1.f0 < z.f1.f1 ∧ z.f1.f0 < z.f1.f1 ∧ mn x.f1.f0 y.f1.f0 < mx x.f1.f1 y.f1.f1
   unfold mx mn
   (repeat' split) <;> omega
  ·rw [if_neg hk, sameP_iff] at *
   show z.f0 = x.f0 ∧ z.f1.f0 = mn x.f1.f0 y.f1.f0 ∧ z.f1.f1 = mx x.f1.f1 y.f1.f1
   unfold mx mn
   (repeat' split) <;> omega
abbrev RSk (kind a : Int) := RS (hitK kind) (joinP a)
abbrev NK (kind : Int) := Normal (hitK kind)
theorem getD_at {l : List S46} {i : Nat} (h : i < l.length) : l.getD i z46 = l[i] := by simp [h]
theorem perm_erase : ∀ (l : List S46) {i : Nat} (h : i < l.length), l.Perm (l[i] :: l.eraseIdx i)
 | [], _, h => absurd h (by simp)
 | x :: l, 0, _ => .refl _
 | x :: l, i + 1, h => by
  have h1 := perm_erase l (i := i) (by simpa using h)
  exact (h1.cons x).trans (.swap _ _ _)
theorem absorbF_rs (a : Int) : ∀ (k : Nat) (p : S46) (l : List S46), l.length < k →
  RSk 3 a (p :: l) ((absorbF a k p l).1 :: (absorbF a k p l).2) ∧ (∀ x ∈ (absorbF a k p l).2, ¬ hitK 3 (absorbF a k p l).1 x) ∧ (absorbF a k p l).2.Sublist l ∧ (absorbF a k p l).1.f0 = p.f0
 | 0, p, l, h => absurd h (by omega)
 | k + 1, p, l, h => by
  rw [absorbF]
  cases hf : l.findIdx? (hitP p) with
  | none =>
   refine ⟨.done (.refl _), fun x hx => ?_, .refl _, rfl⟩
   rw [List.findIdx?_eq_none_iff] at hf
   unfold hitK
   rw [if_pos rfl, hf x hx]
   simp
  | some i =>
   obtain ⟨hi, hh, _⟩ := List.findIdx?_eq_some_iff_getElem.1 hf
   have hlen : (l.eraseIdx i).length = l.length - 1 := List.length_eraseIdx_of_lt hi
   obtain ⟨h1, h2, h3, h4⟩ := absorbF_rs a k (joinP a p (l.getD i z46)) (l.eraseIdx i) (by omega)
   refine ⟨?_, h2, h3.trans (List.eraseIdx_sublist l i), h4⟩
   refine .step (.mk (r := l.eraseIdx i) (x := p) (y := l[i]) ((perm_erase l hi).cons p) ?_ ?_) h1
   ·unfold hitK; rw [if_pos rfl]; exact hh
   ·rw [getD_at hi]
theorem absorb_rs (a : Int) (p : S46) (l : List S46) :
  RSk 3 a (p :: l) ((absorbP a p l).1 :: (absorbP a p l).2) ∧ (∀ x ∈ (absorbP a p l).2, ¬ hitK 3 (absorbP a p l).1 x) ∧ (absorbP a p l).2.Sublist l ∧ (absorbP a p l).1.f0 = p.f0 :=
 absorbF_rs a (l.length + 1) p l (by omega)
end Go.Proofs.Ytdinbnbogdadgaa.Th
namespace Go.Proofs.Ytdinbnbogdadgaa.Th
open Go.RowKit Go.Sort Go.Proofs.YtdinbnbogdadgaaW.PrintWords Go.Proofs.YtdinbnbogdadgaaW.PrintMore Go.Proofs.Ytdinbnbogdadgaa Go.Proofs.Ytdinbnbogdadgaa.So Go.Proofs.Ytdinbnbogdadgaa.X Go.Proofs.Ytdinbnbogdadgaa.Nf
set_option linter.unusedVariables false
set_option linter.unusedSimpArgs false
def one (a key val : Int) (s : S31) : S46 := ⟨key, s, aggAdd a (aggZero a) val⟩
def addv (a v : Int) (p : S46) : S46 := ⟨p.f0, p.f1, aggBoth a p.f2 v⟩
theorem join_addv {a : Int} (ha : aggOk a = true) (v : Int) (p x : S46) : joinP a (addv a v p) x = addv a v (joinP a p x) := by
 refine S46_ext rfl rfl rfl ?_
 show aggMerge a (aggBoth a p.f2 v) x.f2 = aggBoth a (aggMerge a p.f2 x.f2) v
 rw [merge_both ha, merge_both ha, both_assoc, both_comm a v, ← both_assoc]
theorem absorbF_addv {a : Int} (ha : aggOk a = true) (v : Int) : ∀ (k : Nat) (p : S46) (l : List S46), absorbF a k (addv a v p) l = (addv a v (absorbF a k p l).1, (absorbF a k p l).2)
 | 0, p, l => rfl
 | k + 1, p, l => by
  rw [absorbF, absorbF, show hitP (addv a v p) = hitP p from rfl]
  cases hf : l.findIdx? (hitP p) with
  | none => rfl
  | some i =>
   show absorbF a k (joinP a (addv a v p) (l.getD i z46)) (l.eraseIdx i) = _
   rw [join_addv ha]
   exact absorbF_addv ha v k _ _
theorem one_addv {a : Int} (ha : aggOk a = true) (key val : Int) (s : S31) : one a key val s = addv a (aggVal a val) ⟨key, s, aggZero a⟩ := by
 unfold one addv; rw [add_eq ha]
theorem stepP_session {a : Int} (ha : aggOk a = true) (key val : Int) (out : List S46) (s : S31) :
  stepP 3 a key val out s = (absorbP a (one a key val s) out).2 ++ [(absorbP a (one a key val s) out).1] := by
 rw [stepP, if_pos rfl, one_addv ha]
 unfold absorbP
 rw [absorbF_addv ha]
 show _ = _ ++ [addv a (aggVal a val) _]
 unfold addv
 rw [add_eq ha]
theorem perm_set : ∀ (l : List S46) {i : Nat} (h : i < l.length) (y : S46), (l.set i y).Perm (y :: l.eraseIdx i)
 | [], _, h, _ => absurd h (by simp)
 | x :: l, 0, _, y => .refl _
 | x :: l, i + 1, h, y => by
  have h1 := perm_set l (i := i) (by simpa using h) y
  exact (h1.cons x).trans (.swap _ _ _)
theorem step_rs {kind a : Int} (ha : aggOk a = true) (key : Int) {val : Int} (hv : I64 val) (out : List S46) (s : S31) (hN : NK kind out) :
  RSk kind a (one a key val s :: out) (stepP kind a key val out s) ∧ NK kind (stepP kind a key val out s) := by
 by_cases hk : kind = 3
 ·subst hk
  rw [stepP_session ha]
  obtain ⟨h1, h2, h3, h4⟩ := absorb_rs a (one a key val s) out
  have hp : ((absorbP a (one a key val s) out).1 :: (absorbP a (one a key val s) out).2).Perm ((absorbP a (one a key val s) out).2 ++ [(absorbP a (one a key val s) out).1]) := (List.perm_append_singleton _ _).symm
  refine ⟨h1.perm (.refl _) hp, Normal.perm (mgK 3 ha) (List.pairwise_cons.2 ⟨h2, List.Pairwise.sublist h3 hN⟩) hp⟩
 ·rw [stepP, if_neg hk]
  cases hf : out.findIdx? (sameP ⟨key, s, aggZero a⟩) with
  | none =>
   have hp : (one a key val s :: out).Perm (out ++ [one a key val s]) := (List.perm_append_singleton _ _).symm
   refine ⟨.done hp, Normal.perm (mgK kind ha) (List.pairwise_cons.2 ⟨fun x hx => ?_, hN⟩) hp⟩
   rw [List.findIdx?_eq_none_iff] at hf
   unfold hitK
   rw [if_neg hk, show sameP (one a key val s) x = sameP ⟨key, s, aggZero a⟩ x from rfl, hf x hx]
   simp
  | some i =>
   obtain ⟨hi, hh, _⟩ := List.findIdx?_eq_some_iff_getElem.1 hf
   have hs := (sameP_iff _ _).1 hh
   have hs0 : out[i].f0 = key := hs.1
   have hs1 : out[i].f1.f0 = s.f0 := hs.2.1
   have hs2 : out[i].f1.f1 = s.f1 := hs.2.2
   have hv2 := val_in a hv
   have hacc : aggMerge a (aggAdd a (aggZero a) val) out[i].f2 = aggAdd a out[i].f2 val := by
    rw [merge_both ha, add_eq ha, add_eq ha, both_comm a (aggZero a), both_zero ha hv2, both_comm]
   have he : (⟨(out.getD i z46).f0, (out.getD i z46).f1, aggAdd a (out.getD i z46).f2 val⟩ : S46) = joinP a (one a key val s) out[i] := by
    rw [getD_at hi]
    refine S46_ext hs0 ?_ ?_ hacc.symm
    ·show out[i].f1.f0 = mn s.f0 out[i].f1.f0; rw [hs1]; unfold mn; split <;> omega
    ·show out[i].f1.f1 = mx s.f1 out[i].f1.f1; rw [hs2]; unfold mx; split <;> omega
   show RSk kind a _ (out.set i _) ∧ NK kind (out.set i _)
   rw [he]
   have hp := perm_set out hi (joinP a (one a key val s) out[i])
   have hN2 := Normal.perm (mgK kind ha) hN (perm_erase out hi)
   refine ⟨.step (.mk (r := out.eraseIdx i) (x := one a key val s) (y := out[i]) ((perm_erase out hi).cons _) ?_ (.refl _)) (.done hp.symm), Normal.perm (mgK kind ha) (List.pairwise_cons.2 ⟨fun x hx h => ?_, (List.pairwise_cons.1 hN2).2⟩) hp.symm⟩
   ·unfold hitK; rw [if_neg hk]; exact hh
   ·have h0 := (List.pairwise_cons.1 hN2).1 x hx
    apply h0
    unfold hitK at *
    rw [if_neg hk, sameP_iff] at *
    rw [← he] at h
    rw [getD_at hi] at h
    exact h
theorem fold_rs {kind a : Int} (ha : aggOk a = true) (key : Int) {val : Int} (hv : I64 val) : ∀ (ss : List S31) (out : List S46), NK kind out →
  RSk kind a (ss.map (one a key val) ++ out) (ss.foldl (stepP kind a key val) out) ∧ NK kind (ss.foldl (stepP kind a key val) out)
 | [], out, h => ⟨.done (.refl _), h⟩
 | s :: ss, out, h => by
  obtain ⟨h1, h2⟩ := step_rs ha key hv out s h
  obtain ⟨h3, h4⟩ := fold_rs ha key hv ss _ h2
  refine ⟨RS.trans (RS.perm (RS.app2 h1 (ss.map (one a key val))) ?_ (.refl _)) h3, h4⟩
  exact List.perm_middle
def putL (kind a key val : Int) (ss : List S31) (l : List S46) : List S46 := sortP (ss.foldl (stepP kind a key val) l)
structure Is (kind a : Int) (all p : List S46) : Prop where
 rs : RSk kind a all p
 nk : NK kind p
 st : Sorted p
theorem Is.nil (kind a : Int) : Is kind a [] [] := ⟨.done (.refl _), List.Pairwise.nil, List.Pairwise.nil⟩
theorem Is.sort {kind a : Int} (ha : aggOk a = true) {x q : List S46} (h : RSk kind a x q) (hN : NK kind q) : Is kind a x (sortP q) :=
 ⟨h.perm (.refl _) (sortP_perm q).symm, Normal.perm (mgK kind ha) hN (sortP_perm q).symm, sortP_sorted q⟩
theorem Is.put {kind a : Int} (ha : aggOk a = true) {x p : List S46} (h : Is kind a x p) (key : Int) {val : Int} (hv : I64 val) (ss : List S31) :
  Is kind a (x ++ ss.map (one a key val)) (putL kind a key val ss p) := by
 obtain ⟨h1, h2⟩ := fold_rs (kind := kind) ha key hv ss p h.nk
 exact Is.sort ha (RS.trans (RS.perm (RS.app2 h.rs (ss.map (one a key val))) List.perm_append_comm (.refl _)) h1) h2
end Go.Proofs.Ytdinbnbogdadgaa.Th
namespace Go.Proofs.Ytdinbnbogdadgaa.Th
open Go.RowKit Go.Sort Go.Proofs.YtdinbnbogdadgaaW.PrintWords Go.Proofs.YtdinbnbogdadgaaW.PrintMore Go.Proofs.Ytdinbnbogdadgaa Go.Proofs.Ytdinbnbogdadgaa.So Go.Proofs.Ytdinbnbogdadgaa.X Go.Proofs.Ytdinbnbogdadgaa.Nf
set_option linter.unusedVariables false
set_option linter.unusedSimpArgs false
def Sp {α : Type} (P : α → Prop) (f : Nat → Option α) : Prop := ∃ r, P r ∧ Ev f r
theorem w_in {x : Int} (h : -9223372036854775808 ≤ x ∧ x ≤ 9223372036854775807) : wrap64 x = x := wrap_in h
theorem step_i {i n : Nat} (h : i < n) (hn : n < 4611686018427387904) : wrap64 ((i : Int) + 1) = ((i + 1 : Nat) : Int) := by unfold wrap64; omega
theorem rd46_at {l : List S46} {i : Nat} (h : i < l.length) : rd_T46 l (i : Int) = l[i] := by simp [rd_T46, h]
theorem rd37_at {l : List S37} {i : Nat} (h : i < l.length) : rd_T37 l (i : Int) = l[i] := by simp [rd_T37, h]
theorem panes_l0 (l : List S46) (hn : l.length < 4611686018427387904) : ∀ (d i : Nat), l.length = i + d → Ev (fun k => leathelp_Panes.l0 k l l (i : Int)) true
 | 0, i, h => by
  refine Ev.step (f := fun _ => some true) (fun k => ?_) (Ev.now _)
  simp only [leathelp_Panes.l0]; rw [if_neg (by omega)]
 | d + 1, i, h => by
  refine Ev.step (fun k => ?_) (panes_l0 l hn d (i + 1) (by omega))
  simp only [leathelp_Panes.l0]
  rw [if_pos (by omega), if_pos (by omega), if_pos (by omega), if_neg (by simp), step_i (show i < l.length by omega) hn]
theorem panes_ev (l : List S46) (hn : l.length < 4611686018427387904) : Ev (fun k => leathelp_Panes.f k l l) true :=
 Ev.congr (fun k => by rw [leathelp_Panes.f, if_pos rfl]; rfl) (panes_l0 l hn l.length 0 (by omega))
theorem spans_l0 (l : List S31) (hn : l.length < 4611686018427387904) : ∀ (d i : Nat), l.length = i + d → Ev (fun k => leathelp_Spans.l0 k l l (i : Int)) true
 | 0, i, h => by
  refine Ev.step (f := fun _ => some true) (fun k => ?_) (Ev.now _)
  simp only [leathelp_Spans.l0]; rw [if_neg (by omega)]
 | d + 1, i, h => by
  refine Ev.step (fun k => ?_) (spans_l0 l hn d (i + 1) (by omega))
  simp only [leathelp_Spans.l0]
  rw [if_pos (by omega), if_pos (by omega), if_pos (by omega), if_neg (by simp), step_i (show i < l.length by omega) hn]
theorem spansEq_ev (l : List S31) (hn : l.length < 4611686018427387904) : Ev (fun k => leathelp_Spans.f k l l) true :=
 Ev.congr (fun k => by rw [leathelp_Spans.f, if_pos rfl]; rfl) (spans_l0 l hn l.length 0 (by omega))
theorem records_l0 (l : List S37) (hn : l.length < 4611686018427387904) : ∀ (d i : Nat), l.length = i + d → Ev (fun k => leathelp_Records.l0 k l l (i : Int)) true
 | 0, i, h => by
  refine Ev.step (f := fun _ => some true) (fun k => ?_) (Ev.now _)
  simp only [leathelp_Records.l0]; rw [if_neg (by omega)]
 | d + 1, i, h => by
  refine Ev.step (fun k => ?_) (records_l0 l hn d (i + 1) (by omega))
  simp only [leathelp_Records.l0]
  rw [if_pos (by omega), if_pos (by omega), if_pos (by omega), if_neg (by simp), step_i (show i < l.length by omega) hn]
theorem records_ev (l : List S37) (hn : l.length < 4611686018427387904) : Ev (fun k => leathelp_Records.f k l l) true :=
 Ev.congr (fun k => by rw [leathelp_Records.f, if_pos rfl]; rfl) (records_l0 l hn l.length 0 (by omega))
structure Fit (kind size slide : Int) : Prop where
 k1 : 1 ≤ kind
 k3 : kind ≤ 3
 s1 : 1 ≤ size
 s2 : size ≤ 68719476736
 sl : kind = 2 → 1 ≤ slide ∧ slide ≤ 68719476736 ∧ size ≤ 64 * slide
 no : kind ≠ 2 → slide = 0
def TimeOk (t : Int) : Prop := -1125899906842624 ≤ t ∧ t ≤ 1125899906842624
instance (t : Int) : Decidable (TimeOk t) := by unfold TimeOk; infer_instance
theorem time_eq (t : Int) : leatlaw11_time.f t = some (decide (TimeOk t)) := by
 unfold leatlaw11_time.f
 by_cases h : t ≥ -1125899906842624
 ·rw [if_pos h]
  by_cases h2 : t ≤ 1125899906842624
  ·rw [decide_eq_true h2, decide_eq_true (show TimeOk t from ⟨h, h2⟩)]
  ·rw [decide_eq_false h2, decide_eq_false (fun hh : TimeOk t => h2 hh.2)]
 ·rw [if_neg h, decide_eq_false (fun hh : TimeOk t => h hh.1)]
def fl (t n : Int) : Int := t - t % n
theorem tdiv_mul (t n : Int) : Int.tdiv t n * n = t - Int.tmod t n := by
 have h := Int.tmod_add_tdiv_mul t n
 omega
theorem tmod_cases (t n : Int) (hn : 1 ≤ n) : Int.tmod t n = t % n ∨ (Int.tmod t n = t % n - n ∧ t % n ≠ 0 ∧ t < 0) := by
 have h1 := Int.emod_nonneg t (show n ≠ 0 by omega)
 rcases Int.le_total 0 t with h | h
 ·left; exact Int.tmod_eq_emod_of_nonneg h
 ·rw [Int.tmod_eq_emod]
  by_cases hd : n ∣ t
  ·left; rw [if_pos (.inr hd)]; omega
  ·by_cases h0 : 0 ≤ t
   ·left; rw [if_pos (.inl h0)]; omega
   ·right
    rw [if_neg (by rintro (h | h) <;> contradiction)]
    refine ⟨by omega, fun he => hd (Int.dvd_of_emod_eq_zero he), by omega⟩
theorem fl_bounds (t n : Int) (hn : 1 ≤ n) : fl t n ≤ t ∧ t - n < fl t n := by
 have h1 := Int.emod_nonneg t (show n ≠ 0 by omega)
 have h2 := Int.emod_lt_of_pos t (show 0 < n by omega)
 unfold fl; omega
theorem below_eq {t n : Int} (ht : TimeOk t) (hn : 1 ≤ n ∧ n ≤ 68719476736) : window_below.f t n = some (fl t n) := by
 unfold TimeOk at ht
 have hb := fl_bounds t n hn.1
 have h1 := Int.emod_nonneg t (show n ≠ 0 by omega)
 have h2 := Int.emod_lt_of_pos t (show 0 < n by omega)
 have hq : -1125899906842624 ≤ Int.tdiv t n ∧ Int.tdiv t n ≤ 1125899906842624 := by
  rcases Int.le_total 0 t with h | h
  ·rw [Int.tdiv_eq_ediv_of_nonneg h]
   exact ⟨by have := Int.ediv_nonneg h (show 0 ≤ n by omega); omega, by have := Int.ediv_le_self n h; omega⟩
  ·have e : Int.tdiv t n = - Int.tdiv (-t) n := by rw [Int.neg_tdiv]; omega
   rw [e, Int.tdiv_eq_ediv_of_nonneg (show 0 ≤ -t by omega)]
   have a1 := Int.ediv_nonneg (show 0 ≤ -t by omega) (show 0 ≤ n by omega)
   have a2 := Int.ediv_le_self n (show 0 ≤ -t by omega)
   omega
 have hw : wrap64 (Int.tdiv t n) = Int.tdiv t n := w_in (by omega)
 unfold window_below.f
 rw [if_neg (by omega), hw, tdiv_mul]
 rcases tmod_cases t n hn.1 with h | ⟨h, h3, h4⟩
 ·rw [h, w_in (show _ by omega), if_neg (by omega)]; rfl
 ·rw [h, w_in (show _ by omega), if_pos (by omega), w_in (show _ by omega)]
  unfold fl; congr 1; omega
def backL (size slide t : Int) : Nat → Int → List S31
 | 0, _ => []
 | n + 1, s => if s + size > t then ⟨s, s + size⟩ :: backL size slide t n (s - slide) else []
theorem back_len (size slide t : Int) : ∀ (n : Nat) (s : Int), (backL size slide t n s).length ≤ n
 | 0, _ => Nat.le_refl _
 | n + 1, s => by
  rw [backL]
  split
  ·have := back_len size slide t n (s - slide); simp only [List.length_cons]; omega
  ·simp
def spansP (kind size slide t : Int) : List S31 :=
 if kind = 1 then [⟨fl t size, fl t size + size⟩] else if kind = 3 then [⟨t, t + size⟩] else (backL size slide t 64 (fl t slide)).reverse
theorem spansP_len (kind size slide t : Int) : (spansP kind size slide t).length ≤ 64 := by
 unfold spansP
 split
 ·simp
 ·split
  ·simp
  ·rw [List.length_reverse]; exact back_len _ _ _ _ _
theorem rev_l0 : ∀ (d : Nat) (x : List S31) (i j : Nat), x.length < 4611686018427387904 → i + j + 1 = x.length → j ≤ i + d →
  Sp (fun r => r.length = x.length ∧ ∀ p, p < x.length → r.getD p z31 = if i ≤ p ∧ p ≤ j then x.getD (x.length - 1 - p) z31 else x.getD p z31) (fun k => api_Span.l0 k x (i : Int) (j : Int))
 | 0, x, i, j, hn, hs, hd => by
  refine ⟨x, ⟨rfl, fun p hp => ?_⟩, Ev.step (f := fun _ => some x) (fun k => by simp only [api_Span.l0]; rw [if_neg (by omega)]) (Ev.now _)⟩
  split
  ·congr 1; omega
  ·rfl
 | d + 1, x, i, j, hn, hs, hd => by
  by_cases hij : i < j
  ·have hj1 : wrap64 ((j : Int) - 1) = ((j - 1 : Nat) : Int) := by rw [w_in (by omega)]; omega
   have hi1 : wrap64 ((i : Int) + 1) = ((i + 1 : Nat) : Int) := by rw [w_in (by omega)]; omega
   have hxl : ((x.set i (rd_T31 x (j : Int))).set j (rd_T31 x (i : Int))).length = x.length := by simp
   obtain ⟨r, ⟨hr1, hr2⟩, hev⟩ := rev_l0 d ((x.set i (rd_T31 x (j : Int))).set j (rd_T31 x (i : Int))) (i + 1) (j - 1) (by rw [hxl]; exact hn) (by rw [hxl]; omega) (by omega)
   rw [hxl] at hr1 hr2
   refine ⟨r, ⟨hr1, fun p hp => ?_⟩, Ev.step (fun k => ?_) hev⟩
   ·rw [hr2 p hp]
    have g : ∀ q, q < x.length → ((x.set i (rd_T31 x (j : Int))).set j (rd_T31 x (i : Int))).getD q z31 = if q = j then x.getD i z31 else if q = i then x.getD j z31 else x.getD q z31 := by
     intro q hq
     simp only [List.getD_eq_getElem?_getD, List.getElem?_set, List.length_set, rd_T31, Int.toNat_natCast]
     by_cases h1 : j = q
     ·subst h1; simp [hq]
     ·by_cases h2 : i = q
      ·subst h2; simp [h1, hq, (show ¬ i = j by omega)]
      ·simp [h1, h2, (show ¬ q = j by omega), (show ¬ q = i by omega)]
    by_cases h1 : i + 1 ≤ p ∧ p ≤ j - 1
    ·rw [if_pos h1, if_pos (by omega), g _ (by omega), if_neg (by omega), if_neg (by omega)]
    ·rw [if_neg h1, g p hp]
     by_cases h2 : p = j
     ·subst h2; rw [if_pos rfl, if_pos (by omega)]; congr 1; omega
     ·rw [if_neg h2]
      by_cases h3 : p = i
      ·subst h3; rw [if_pos rfl, if_pos (by omega)]; congr 1; omega
      ·rw [if_neg h3, if_neg (by omega)]
   ·simp only [api_Span.l0]
    rw [if_pos (by omega), if_pos (by omega), if_pos (by omega), if_pos (by omega), if_pos (by omega), hj1, hi1]
    rfl
  ·refine ⟨x, ⟨rfl, fun p hp => ?_⟩, Ev.step (f := fun _ => some x) (fun k => by simp only [api_Span.l0]; rw [if_neg (by omega)]) (Ev.now _)⟩
   split
   ·congr 1; omega
   ·rfl
theorem rev_ev (l : List S31) (hn : l.length < 4611686018427387904) : Ev (fun k => api_Span.f k l) l.reverse := by
 cases l with
 | nil => exact Ev.step (f := fun _ => some []) (fun k => by rw [api_Span.f]; simp only [api_Span.l0]; rw [if_neg (by rw [w_in (by simp)]; simp)]) (Ev.now _)
 | cons a l =>
  obtain ⟨r, ⟨h1, h2⟩, h3⟩ := rev_l0 l.length (a :: l) 0 l.length hn (by simp) (by omega)
  have e : r = (a :: l).reverse := by
   apply List.ext_getElem (by simpa using h1)
   intro p hp1 hp2
   have hp : p < (a :: l).length := by rw [← h1]; exact hp1
   have := h2 p hp
   rw [if_pos ⟨by omega, by simp at hp; omega⟩] at this
   simp only [List.getD_eq_getElem?_getD] at this
   rw [List.getElem?_eq_getElem hp1, List.getElem?_eq_getElem (by simp at hp ⊢; omega)] at this
   rw [List.getElem_reverse]
   simpa using this
  rw [← e]
  refine Ev.congr (fun k => ?_) h3
  rw [api_Span.f, w_in (by simp only [List.length_cons] at *; omega)]
  congr 1
  simp
theorem spans_l (kind size slide t : Int) (hs : 1 ≤ size ∧ size ≤ 68719476736) (hsl : 1 ≤ slide ∧ slide ≤ 68719476736) (ht : TimeOk t) (n : Nat) : ∀ (x : List S31) (s : Int), x.length + n = 64 → -1125899906842624 - 68719476736 * 65 + 68719476736 * (n : Int) ≤ s → s ≤ t →
  Ev (fun k => window_Spans.l0 k t x s kind size slide) (x ++ backL size slide t n s).reverse := by
 unfold TimeOk at ht
 induction n with
 | zero =>
  intro x s hx h1 h2
  have hw : wrap64 (s + size) = s + size := w_in (by omega)
  have hrev := rev_ev x (by omega)
  rw [show backL size slide t 0 s = [] from rfl, List.append_nil]
  by_cases hc : s + size > t
  ·refine Ev.step (fun k => ?_) (Ev.bind hrev (Ev.now _))
   simp only [window_Spans.l0]
   rw [hw, if_pos hc, if_neg (by omega)]
  ·refine Ev.step (fun k => ?_) (Ev.bind hrev (Ev.now _))
   simp only [window_Spans.l0]
   rw [hw, if_neg hc]
 | succ n ih =>
  intro x s hx h1 h2
  have hw : wrap64 (s + size) = s + size := w_in (by omega)
  by_cases hc : s + size > t
  ·rw [backL, if_pos hc]
   have ih := ih (x ++ [⟨s, s + size⟩]) (s - slide) (by simp; omega) (by omega) (by omega)
   rw [List.append_assoc, List.singleton_append] at ih
   refine Ev.step (fun k => ?_) ih
   simp only [window_Spans.l0]
   rw [hw, if_pos hc, if_pos (by omega), if_pos (by omega), w_in (show -9223372036854775808 ≤ s - slide ∧ s - slide ≤ 9223372036854775807 by omega)]
  ·have hrev := rev_ev x (by omega)
   rw [backL, if_neg hc, List.append_nil]
   refine Ev.step (fun k => ?_) (Ev.bind hrev (Ev.now _))
   simp only [window_Spans.l0]
   rw [hw, if_neg hc]
theorem spans_ev {kind size slide t : Int} (hf : Fit kind size slide) (ht : TimeOk t) : Ev (fun k => window_Spans.f k kind size slide t) (spansP kind size slide t) := by
 have hs1 := hf.s1
 have hs2 := hf.s2
 have ht' := ht
 unfold TimeOk at ht'
 have e : ∀ k, window_Spans.f k kind size slide t = window_Spans.j0 k t false kind size slide := fun k => by
  rw [window_Spans.f, if_neg (by omega)]
  by_cases h2 : kind = 2
  ·have := hf.sl h2
   rw [if_pos h2, decide_eq_false (by omega)]
  ·rw [if_neg h2]
 refine Ev.congr e ?_
 by_cases h1 : kind = 1
 ·have hb := below_eq ht (n := size) ⟨hs1, hs2⟩
  have hbo := fl_bounds t size hs1
  refine Ev.step (f := fun _ => some (spansP kind size slide t)) (fun k => ?_) (Ev.now _)
  simp only [window_Spans.j0]
  rw [if_neg (by simp), if_pos h1, hb, Option.bind_some, w_in (show _ by omega), spansP, if_pos h1]
 ·by_cases h3 : kind = 3
  ·refine Ev.step (f := fun _ => some (spansP kind size slide t)) (fun k => ?_) (Ev.now _)
   simp only [window_Spans.j0]
   rw [if_neg (by simp), if_neg h1, if_pos h3, w_in (show _ by omega), spansP, if_neg h1, if_pos h3]
  ·have h2 : kind = 2 := by have := hf.k1; have := hf.k3; omega
   have hsl := hf.sl h2
   have hb := below_eq ht (n := slide) ⟨hsl.1, hsl.2.1⟩
   have hbo := fl_bounds t slide hsl.1
   have hl := spans_l kind size slide t ⟨hs1, hs2⟩ ⟨hsl.1, hsl.2.1⟩ ht 64 [] (fl t slide) rfl (by omega) (by omega)
   rw [List.nil_append] at hl
   rw [spansP, if_neg h1, if_neg h3]
   refine Ev.step (fun k => ?_) hl
   simp only [window_Spans.j0]
   rw [if_neg (by simp), if_neg h1, if_neg h3, if_pos h2, hb, Option.bind_some]
theorem put_ev {kind size slide t a : Int} (hf : Fit kind size slide) (ht : TimeOk t) (key val : Int) (l : List S46) (hl : l.length < 4398046511000) :
  Ev (fun k => window_Put.f k kind size slide a l key t val) (putL kind a key val (spansP kind size slide t) l) := by
 refine Ev.congr (fun k => by rw [window_Put.f]) (Ev.bind (f := fun k ss => if l.length + ss.length < 4398046511104 then some (sortP (ss.foldl (stepP kind a key val) l)) else none) (spans_ev hf ht) ?_)
 have := spansP_len kind size slide t
 refine Ev.congr (fun k => by rw [if_pos (by omega)]; rfl) (Ev.now _)
end Go.Proofs.Ytdinbnbogdadgaa.Th
namespace Go.Proofs.Ytdinbnbogdadgaa.Th
open Go.RowKit Go.Sort Go.Proofs.YtdinbnbogdadgaaW.PrintWords Go.Proofs.YtdinbnbogdadgaaW.PrintMore Go.Proofs.Ytdinbnbogdadgaa Go.Proofs.Ytdinbnbogdadgaa.So Go.Proofs.Ytdinbnbogdadgaa.X Go.Proofs.Ytdinbnbogdadgaa.Nf
set_option linter.unusedVariables false
set_option linter.unusedSimpArgs false
def due (m : Int) (p : S46) : Bool := decide (wrap64 (p.f1.f1 - 1) ≤ m)
def outR (m : Int) (l : List S46) : List S37 := (l.filter (due m)).map (fun p => ⟨p.f0, wrap64 (p.f1.f1 - 1), p.f2⟩)
def leftR (m : Int) (l : List S46) : List S46 := l.filter (fun p => !due m p)
theorem outR_pos {m : Int} {p : S46} (h : due m p = true) (l : List S46) : outR m (p :: l) = ⟨p.f0, wrap64 (p.f1.f1 - 1), p.f2⟩ :: outR m l := by simp [outR, h]
theorem outR_neg {m : Int} {p : S46} (h : due m p = false) (l : List S46) : outR m (p :: l) = outR m l := by simp [outR, h]
theorem leftR_pos {m : Int} {p : S46} (h : due m p = true) (l : List S46) : leftR m (p :: l) = leftR m l := by simp [leftR, h]
theorem leftR_neg {m : Int} {p : S46} (h : due m p = false) (l : List S46) : leftR m (p :: l) = p :: leftR m l := by simp [leftR, h]
theorem fire_l0 (m : Int) (l : List S46) (hn : l.length < 4398046511000) : ∀ (d i : Nat) (x : List S37) (y : List S46), l.length = i + d → x.length ≤ i → y.length ≤ i →
  Ev (fun k => window_Fire.l0 k m x y l (l.length : Int) (i : Int)) (x ++ outR m (l.drop i), y ++ leftR m (l.drop i))
 | 0, i, x, y, h, h1, h2 => by
  rw [List.drop_eq_nil_of_le (by omega)]
  simp only [outR, leftR, List.filter_nil, List.map_nil, List.append_nil]
  refine Ev.step (f := fun _ => some _) (fun k => ?_) (Ev.now _)
  simp only [window_Fire.l0]; rw [if_neg (by omega)]
 | d + 1, i, x, y, h, h1, h2 => by
  have hlt : i < l.length := by omega
  rw [List.drop_eq_getElem_cons hlt]
  by_cases hc : wrap64 (l[i].f1.f1 - 1) ≤ m
  ·have e : due m l[i] = true := decide_eq_true hc
   have ih := fire_l0 m l hn d (i + 1) (x ++ [⟨l[i].f0, wrap64 (l[i].f1.f1 - 1), l[i].f2⟩]) y (by omega) (by simp; omega) (by omega)
   rw [outR_pos e, leftR_pos e]
   rw [List.append_assoc, List.singleton_append] at ih
   refine Ev.step (fun k => ?_) ih
   simp only [window_Fire.l0]
   rw [if_pos (by omega), if_pos (by omega), if_pos (by omega), rd46_at hlt, if_pos hc, if_pos (by omega), step_i hlt (by omega)]
  ·have e : due m l[i] = false := decide_eq_false hc
   have ih := fire_l0 m l hn d (i + 1) x (y ++ [l[i]]) (by omega) (by omega) (by simp; omega)
   rw [outR_neg e, leftR_neg e]
   rw [List.append_assoc, List.singleton_append] at ih
   refine Ev.step (fun k => ?_) ih
   simp only [window_Fire.l0]
   rw [if_pos (by omega), if_pos (by omega), if_pos (by omega), rd46_at hlt, if_neg hc, if_pos (by omega), step_i hlt (by omega)]
theorem fire_ev (m : Int) (l : List S46) (hn : l.length < 4398046511000) : Ev (fun k => window_Fire.f k l m) (outR m (sortP l), leftR m (sortP l)) := by
 have h := fire_l0 m (sortP l) (by rw [sortP_len]; exact hn) (sortP l).length 0 [] [] (by omega) (by simp) (by simp)
 refine Ev.congr (fun k => ?_) h
 rw [window_Fire.f, window_Sort.f, if_pos (by omega)]
 rfl
theorem put_seen {l fld r : List S46} {t : Int} (e : (spansP 3 5 0 t).foldl (stepP 3 2 1 0) l = fld) (hs : Sorted fld) : putL 3 2 1 0 (spansP 3 5 0 t) l = fld := by
 rw [putL, e, sortP_same hs]
theorem known_ev : Ev (fun k => leatlaw11_known.f k) true := by
 have f2 : Fit 2 10 4 := ⟨by omega, by omega, by omega, by omega, fun _ => by omega, fun h => absurd rfl h⟩
 have f3 : Fit 3 5 0 := ⟨by omega, by omega, by omega, by omega, fun h => absurd h (by omega), fun _ => rfl⟩
 have f1 : Fit 1 10 0 := ⟨by omega, by omega, by omega, by omega, fun h => absurd h (by omega), fun _ => rfl⟩
 have s2 := spans_ev f2 (t := 9) (by decide)
 have e2 : spansP 2 10 4 9 = [⟨0, 10⟩, ⟨4, 14⟩, ⟨8, 18⟩] := rfl
 rw [e2] at s2
 have s1 := spans_ev f1 (t := -1) (by decide)
 have e1 : spansP 1 10 0 (-1) = [⟨-10, 0⟩] := rfl
 rw [e1] at s1
 have p0 := put_ev (a := 2) f3 (t := 0) (by decide) 1 0 [] (by simp)
 have q0 : putL 3 2 1 0 (spansP 3 5 0 0) [] = [⟨1, ⟨0, 5⟩, 1⟩] := put_seen (r := []) (by kernel_rfl) (by unfold Sorted; decide +kernel)
 rw [q0] at p0
 have p1 := put_ev (a := 2) f3 (t := 4) (by decide) 1 0 [⟨1, ⟨0, 5⟩, 1⟩] (by simp)
 have q1 : putL 3 2 1 0 (spansP 3 5 0 4) [⟨1, ⟨0, 5⟩, 1⟩] = [⟨1, ⟨0, 9⟩, 2⟩] := put_seen (r := []) (by kernel_rfl) (by unfold Sorted; decide +kernel)
 rw [q1] at p1
 have p2 := put_ev (a := 2) f3 (t := 9) (by decide) 1 0 [⟨1, ⟨0, 9⟩, 2⟩] (by simp)
 have q2 : putL 3 2 1 0 (spansP 3 5 0 9) [⟨1, ⟨0, 9⟩, 2⟩] = [⟨1, ⟨0, 9⟩, 2⟩, ⟨1, ⟨9, 14⟩, 1⟩] := put_seen (r := []) (by kernel_rfl) (by unfold Sorted; decide +kernel)
 rw [q2] at p2
 have p3 := put_ev (a := 2) f3 (t := 20) (by decide) 1 0 [⟨1, ⟨0, 9⟩, 2⟩, ⟨1, ⟨9, 14⟩, 1⟩] (by simp)
 have q3 : putL 3 2 1 0 (spansP 3 5 0 20) [⟨1, ⟨0, 9⟩, 2⟩, ⟨1, ⟨9, 14⟩, 1⟩] = [⟨1, ⟨0, 9⟩, 2⟩, ⟨1, ⟨9, 14⟩, 1⟩, ⟨1, ⟨20, 25⟩, 1⟩] := put_seen (r := []) (by kernel_rfl) (by unfold Sorted; decide +kernel)
 rw [q3] at p3
 have fr := fire_ev 14 [⟨1, ⟨0, 9⟩, 2⟩, ⟨1, ⟨9, 14⟩, 1⟩, ⟨1, ⟨20, 25⟩, 1⟩] (by simp)
 have hs : Sorted [⟨1, ⟨0, 9⟩, 2⟩, ⟨1, ⟨9, 14⟩, 1⟩, ⟨1, ⟨20, 25⟩, 1⟩] := by unfold Sorted; decide +kernel
 rw [sortP_same hs] at fr
 have c1 := spansEq_ev [⟨0, 10⟩, ⟨4, 14⟩, ⟨8, 18⟩] (by simp)
 have c2 := panes_ev [⟨1, ⟨0, 9⟩, 2⟩, ⟨1, ⟨9, 14⟩, 1⟩, ⟨1, ⟨20, 25⟩, 1⟩] (by simp)
 have c3 := records_ev [⟨1, 8, 2⟩, ⟨1, 13, 1⟩] (by simp)
 have l4 : Ev (fun k => leatlaw11_known.l0 k [⟨0, 10⟩, ⟨4, 14⟩, ⟨8, 18⟩] [⟨1, ⟨0, 9⟩, 2⟩, ⟨1, ⟨9, 14⟩, 1⟩, ⟨1, ⟨20, 25⟩, 1⟩] [0, 4, 9, 20] 4 4 3 5 0) true := by
  refine Ev.step (fun k => by simp only [leatlaw11_known.l0]; rw [if_neg (by decide)]) ?_
  refine Ev.bind fr ?_
  refine Ev.bind s1 ?_
  refine Ev.bind c1 ?_
  refine Ev.congr (fun k => if_pos rfl) ?_
  refine Ev.bind c2 ?_
  refine Ev.congr (fun k => if_pos rfl) ?_
  have e3 : outR 14 [⟨1, ⟨0, 9⟩, 2⟩, ⟨1, ⟨9, 14⟩, 1⟩, ⟨1, ⟨20, 25⟩, 1⟩] = [⟨1, 8, 2⟩, ⟨1, 13, 1⟩] := by kernel_rfl
  have e4 : leftR 14 [⟨1, ⟨0, 9⟩, 2⟩, ⟨1, ⟨9, 14⟩, 1⟩, ⟨1, ⟨20, 25⟩, 1⟩] = [⟨1, ⟨20, 25⟩, 1⟩] := by kernel_rfl
  dsimp only
  rw [e3, e4]
  refine Ev.bind c3 ?_
  exact Ev.congr (fun k => by rfl) (Ev.now true)
 have st : ∀ (L L' : List S46) (i t : Int) (hi : i < 4) (h0 : 0 ≤ i) (hr : rd [0, 4, 9, 20] i = t), Ev (fun k => window_Put.f k 3 5 0 2 L 1 t 0) L' → Ev (fun k => leatlaw11_known.l0 k [⟨0, 10⟩, ⟨4, 14⟩, ⟨8, 18⟩] L' [0, 4, 9, 20] 4 (i + 1) 3 5 0) true →
   Ev (fun k => leatlaw11_known.l0 k [⟨0, 10⟩, ⟨4, 14⟩, ⟨8, 18⟩] L [0, 4, 9, 20] 4 i 3 5 0) true := by
  intro L L' i t hi h0 hr h1 h2
  refine Ev.step (fun k => by simp only [leatlaw11_known.l0]; rw [if_pos hi, if_pos h0, if_pos (by simpa using hi), hr, w_in (by omega)]) ?_
  exact Ev.bind h1 h2
 refine Ev.congr (fun k => by rw [leatlaw11_known.f]) (Ev.bind s2 (Ev.congr (fun k => Option.bind_some _ _) ?_))
 exact st _ _ 0 0 (by decide) (by decide) rfl p0 (st _ _ 1 4 (by decide) (by decide) rfl p1 (st _ _ 2 9 (by decide) (by decide) rfl p2 (st _ _ 3 20 (by decide) (by decide) rfl p3 l4)))
end Go.Proofs.Ytdinbnbogdadgaa.Th
namespace Go.Proofs.Ytdinbnbogdadgaa.Th
open Go.RowKit Go.Sort Go.Proofs.YtdinbnbogdadgaaW.PrintWords Go.Proofs.YtdinbnbogdadgaaW.PrintMore Go.Proofs.Ytdinbnbogdadgaa Go.Proofs.Ytdinbnbogdadgaa.So Go.Proofs.Ytdinbnbogdadgaa.X Go.Proofs.Ytdinbnbogdadgaa.Nf
set_option linter.unusedVariables false
set_option linter.unusedSimpArgs false
theorem sort_ev (l : List S46) (h : l.length < 4398046511104) : window_Sort.f l = some (sortP l) := by rw [window_Sort.f, if_pos h]
end Go.Proofs.Ytdinbnbogdadgaa.Th
