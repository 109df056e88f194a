/- window.Sort: a row of the call's own with the panes sorted. Conditions: those typed: fewer than 2^42 panes. -/
import Derived.Test.YtjegeghigfmkoaaMStateSplits15
import Derived.Test.YtjegeghigfmkoaaMStateSplits16
import Derived.Test.YtjegeghigfmkoaaMStateSplits11
namespace Go.Proofs.Ytjegeghigfmkoaa.X
open Go.Shelf Go.RowKit Go.Lib Go.Sort Go.Proofs Go.Proofs.YtjegeghigfmkoaaW.PrintWords Go.Proofs.Ytjegeghigfmkoaa.So
set_option maxRecDepth 100000
set_option linter.unusedVariables false
set_option linter.unusedSimpArgs false
theorem get_some {xs : List Value} {i : Nat} (h : i < xs.length) : xs[i]? = some xs[i]! := by
  rw [List.getElem?_eq_getElem h]; exact congrArg some (getElem!_pos xs i h).symm
theorem holds_of_R {w : World} {base : Nat} {ok : Nat → Prop} {g n cap : Nat} {l : List S70} (h : Kd.R k70 70 w base ok (.slice (some ⟨g, 0, none⟩) n cap) l) : HoldsK encP 4 w g 0 l.toArray := by
  have hn := (Kd.R_reads' h).1
  intro t ht
  have hsz : (flatK encP 4 l.toArray).size = l.length * 4 := by rw [size_flatK]; simp
  rw [hsz] at ht
  rw [get_flatK encP 4 _ _ (by simpa using ht)]
  obtain ⟨c, hcl, hM, hcell, hfr⟩ := Kd.R_elem h z70 ((t / 4 : Nat) : Int) (by omega) (by omega)
  have hc := k70_openM hM
  have e1 : (((t / 4 : Nat) : Int)).toNat = t / 4 := by omega
  have e2 : l.getD (t / 4) z70 = l.toArray[t / 4]! := by
    have hlt : t / 4 < l.length := by omega
    simp [List.getD_eq_getElem?_getD, hlt]
  rw [e1, e2] at hc
  rw [e1] at hcell hfr
  have hc' : c = encP l.toArray[t / 4]! := hc
  have e3 : t / 4 * 4 + t % 4 = t := by omega
  have h4 : t % 4 < (encP l.toArray[t / 4]!).length := by show t % 4 < 4; omega
  have hx := hcell (t % 4) ((encP l.toArray[t / 4]!)[t % 4]!) (by rw [hc']; exact get_some h4)
  have hy := hfr (t % 4)
  rw [show k70.sz = 4 from rfl, e3] at hx hy
  rw [Nat.zero_add]
  exact ⟨hx, hy⟩
theorem swk_block {W w' : World} {g : Nat} {d : Array S70} (h : SWK encP 4 W g 0 d w') (hg : g < W.heap.size) {cur : Array Value} (hb : W.heap[g]? = some (.cells cur 70 (0, 0))) : ∃ cur', w'.heap[g]? = some (.cells cur' 70 (0, 0)) ∧ cur'.size = cur.size := by
  obtain ⟨m, os, rfl⟩ := h
  refine ⟨putCells id 0 (flatK encP 4 d) cur, ?_, by simp [putCells]⟩
  have h1 : (sortWorldK encP 4 W g 0 m d os).heap = (W.heap.modify g (onCells (putCells id 0 (flatK encP 4 d)))) ++ os := rfl
  rw [h1, Array.getElem?_append_left (by simpa using hg), Array.getElem?_modify]
  simp [hb, onCells]
theorem swk_below {W w' : World} {g : Nat} {d : Array S70} (hg : g < W.heap.size) (h : SWK encP 4 W g 0 d w') : Below g W w' := by
  obtain ⟨m, os, rfl⟩ := h
  refine ⟨rfl, rfl, rfl, ?_, fun k hk => ?_⟩
  · show W.heap.size ≤ ((W.heap.modify g (onCells (putCells id 0 (flatK encP 4 d)))) ++ os).size
    simp
  · show ((W.heap.modify g (onCells (putCells id 0 (flatK encP 4 d)))) ++ os)[k]? = W.heap[k]?
    rcases Nat.lt_or_ge k W.heap.size with h1 | h1
    · rw [Array.getElem?_append_left (by simpa using h1), Array.getElem?_modify, if_neg (by omega)]
    · exact absurd hk (by omega)
theorem R_of_swk {W w' : World} {base : Nat} {ok : Nat → Prop} {g n cap : Nat} {l l' : List S70} (h : Kd.R k70 70 W base ok (.slice (some ⟨g, 0, none⟩) n cap) l) (hs : SWK encP 4 W g 0 l'.toArray w') (hl : l'.length = l.length) : Kd.R k70 70 w' base ok (.slice (some ⟨g, 0, none⟩) n cap) l' := by
  have hH := holds_of_R h
  have hn := (Kd.R_reads' h).1
  obtain ⟨hok, inner, ho, hr⟩ := h
  have hlt := own_lt ho g (by simp [Value.ownBlock])
  obtain ⟨hil, hform⟩ := ho
  rcases hform with ⟨hbad, _⟩ | ⟨g', cap', cur, he, hbg, hb, h1, h2, h3, h4⟩
  · cases hbad
  · injection he with e1 e2 e3
    injection e1 with e1
    injection e1 with e1 _ _
    subst e1 e3
    obtain ⟨cur', hb', hsz'⟩ := swk_block hs hlt hb
    have hH' : HoldsK encP 4 w' g 0 l'.toArray := hs.holds hlt hH (by simpa using hl)
    have hsz4 : k70.sz = 4 := rfl
    rw [hsz4] at h3
    have hcs : cur'.size = cap * 4 := by rw [hsz', h3]
    have hle : l'.length * 4 ≤ cap * 4 := Nat.mul_le_mul_right 4 (by omega)
    have htl : cur'.toList.length = cap * 4 := by rw [Array.length_toList]; exact hcs
    refine ⟨hok, cur'.toList.take (l'.length * 4), ⟨?_, Or.inr ⟨g, cap, cur', by rw [hl, ← hn], hbg, hb', by omega, h2, by rw [hsz4]; exact hcs, by rw [hsz4]⟩⟩, ?_, ?_⟩
    · rw [hsz4, List.length_take, htl]; exact Nat.min_eq_left hle
    · rw [hsz4, List.length_take, htl]; exact Nat.min_eq_left hle
    · intro j p hj
      have hjl : j < l'.length := by
        rcases Nat.lt_or_ge j l'.length with c | c
        · exact c
        · rw [List.getElem?_eq_none c] at hj; cases hj
      have hp : l'.toArray[j]! = p := by
        rw [List.getElem?_eq_getElem hjl] at hj
        have := Option.some.inj hj
        simp [hjl, this]
      have key : ((cur'.toList.take (l'.length * 4)).drop (j * k70.sz)).take k70.sz = encP p := by
        rw [hsz4]
        apply List.ext_getElem?
        intro c
        by_cases hc : c < 4
        · have hx := (hH'.cell (i := j) (c := c) (by simpa using hjl) hc).1
          rw [hp] at hx
          have hcell : w'.cell? ⟨g, 0 + j * 4 + c, none⟩ = cur'[0 + j * 4 + c]? := by simp [World.cell?, hb']
          rw [hcell] at hx
          rw [List.getElem?_take_of_lt hc, List.getElem?_drop, List.getElem?_take_of_lt (by omega), Array.getElem?_toList, show j * 4 + c = 0 + j * 4 + c by omega, hx]
          have h4 : c < (encP p).length := by show c < 4; exact hc
          exact (get_some h4).symm
        · rw [List.getElem?_eq_none (by rw [List.length_take]; omega), List.getElem?_eq_none (by show 4 ≤ c; omega)]
      rw [key]
      exact k70_mkM _ _ _ p
def sortP (l : List S70) : List S70 := l.mergeSort (fun x y => !ltOf cmpO y x)
theorem sortP_len (l : List S70) : (sortP l).length = l.length := by simp [sortP]
theorem ins_empty (A : Option Addr) (c : Nat) (w : World) : Calls Try.prog 95 #[.slice A 0 c, .int .i64 0, .int .i64 0, .func (.func 75) #[] #[]] w fun e w' => e = .returned (.tuple #[]) ∧ w' = w := by
  go_enter Try.func95, Try.ntmps95
  go_wp2
  refine wp_loop_rounds 1 ?_
  rw [rounds_succ]
  go_wp2
  go_end0
  exact ⟨rfl, rfl⟩
theorem stable_empty (A : Option Addr) (c : Nat) (w : World) : Calls Try.prog 93 #[.slice A 0 c, .int .i64 0, .func (.func 75) #[] #[]] w fun e w' => e = .returned (.tuple #[]) ∧ w' = w := by
  have h := ins_empty A c w
  go_enter Try.func93, Try.ntmps93
  go_wp2
  refine wp_loop_rounds 1 ?_
  rw [rounds_succ]
  go_wp2_with (go_at_call 95; refine h.mono ?_; rintro e w1 ⟨rfl, rfl⟩)
  refine wp_loop_rounds 1 ?_
  rw [rounds_succ]
  go_wp2
  go_end0
  exact ⟨rfl, rfl⟩
theorem sortStable_empty (A : Option Addr) (c : Nat) (w : World) : Calls Try.prog 90 #[.slice A 0 c, .func (.func 75) #[] #[]] w fun e w' => e = .returned (.tuple #[]) ∧ w' = w := by
  have h := stable_empty A c w
  go_enter Try.func90, Try.ntmps90
  go_wp2_with (go_at_call 93; refine h.mono ?_; rintro e w1 ⟨rfl, rfl⟩)
  go_end0
  exact ⟨rfl, rfl⟩
set_option maxHeartbeats 2000000 in
theorem sorted46 (A0 : Option Addr) (c0 : Nat) (l0 : List S70) (w : World) (hr0 : Kd.C k70 w A0 l0.length l0) (hc0 : l0.length ≤ c0) (hl : l0.length < 4398046511104) :
    Calls Try.prog 74 #[.slice A0 l0.length c0, .func (.func 75) #[] #[]] w fun e w' => ∃ v, e = .returned v ∧ Kd.R k70 70 w' w.heap.size (fun _ => True) v (sortP l0) ∧ Below w.heap.size w w' := by
  have hclone := clone46 A0 c0 l0 w hr0 hc0 hl
  clear hr0 hc0
  rcases Nat.eq_zero_or_pos l0.length with hz | hz
  · have hnil : l0 = [] := List.eq_nil_of_length_eq_zero hz
    subst hnil
    go_enter Try.func74, Try.ntmps74
    go_wp2_with (go_at_call 69; refine hclone.mono ?_; rintro e w1 ⟨v, rfl, hR, hB⟩)
    obtain ⟨A, c, rfl⟩ := Kd.R_slice hR
    have hse := sortStable_empty A c w1
    refine hse.mono ?_
    rintro e w2 ⟨rfl, rfl⟩
    have HH : Aside0 (Kd.R k70 70 w2 w.heap.size (fun _ => True) (.slice A ([] : List S70).length c) (sortP []) ∧ Below w.heap.size w w2) := Aside0.mk ⟨by simpa [sortP] using hR, hB⟩
    clear hR hB hse
    go_wp2
    go_ret
    exact ⟨_, rfl, HH.out.1, HH.out.2⟩
  · go_enter Try.func74, Try.ntmps74
    go_wp2_with (go_at_call 69; refine hclone.mono ?_; rintro e w1 ⟨v, rfl, hR, hB⟩)
    obtain ⟨g, cap, rfl, hgb, hgl, cells, hcells⟩ := Kd.R_form hR hz
    have hst := sortStable g 0 cap l0.toArray w1 (holds_of_R hR) hgl (by simp; omega)
    have hsa : l0.toArray.size = l0.length := by simp
    rw [hsa] at hst
    refine hst.mono ?_
    rintro e w2 ⟨rfl, d', hd, hS⟩
    have hd2 : d' = (sortP l0).toArray := by
      apply Array.ext'
      rw [hd]; rfl
    subst hd2
    have hR2 := R_of_swk hR hS (sortP_len l0)
    have hB2 : Below w.heap.size w w2 := hB.trans ((swk_below hgl hS).mono hgb)
    have HH : Aside0 (Kd.R k70 70 w2 w.heap.size (fun _ => True) (.slice (some ⟨g, 0, none⟩) l0.length cap) (sortP l0) ∧ Below w.heap.size w w2) := Aside0.mk ⟨hR2, hB2⟩
    clear hR2 hB2 hR hB hst hS hcells hgb hgl
    go_wp2
    go_ret
    exact ⟨_, rfl, HH.out.1, HH.out.2⟩
def window_Sort.f (l : List S70) : Option (List S70) := if l.length < 4398046511104 then some (sortP l) else none
theorem window_Sort.calls (A0 : Option Addr) (c0 : Nat) (l0 : List S70) (r : List S70) (w : World) (hr0 : Kd.C k70 w A0 l0.length l0) (hc0 : l0.length ≤ c0) (h : window_Sort.f l0 = some r) :
    Calls Try.prog 47 #[.slice A0 l0.length c0] w fun e w' => ∃ v, e = .returned v ∧ Kd.R k70 70 w' w.heap.size (fun _ => True) v r ∧ Below w.heap.size w w' := by
  have hl : l0.length < 4398046511104 := by
    unfold window_Sort.f at h
    by_cases c : l0.length < 4398046511104
    · exact c
    · rw [if_neg c] at h; cases h
  rw [window_Sort.f, if_pos hl] at h
  obtain rfl := Option.some.inj h
  have hs := sorted46 A0 c0 l0 w hr0 hc0 hl
  clear hr0 hc0 h
  go_enter Try.func47, Try.ntmps47
  go_wp2_with (go_at_call 74; refine hs.mono ?_; rintro e w1 ⟨v, rfl, hR, hB⟩)
  go_ret
  exact ⟨_, rfl, hR, hB⟩
end Go.Proofs.Ytjegeghigfmkoaa.X
namespace Go.Proofs.Ytjegeghigfmkoaa.X
open Go.RowKit Go.Proofs.YtjegeghigfmkoaaW.PrintWords Go.Proofs.YtjegeghigfmkoaaW.PrintLast Go.Proofs.YtjegeghigfmkoaaW.PrintMore
attribute [local go_sem] max2_int min2_int max_two min_two max_three min_three max_four min_four   -- for this text's walks alone
set_option linter.unusedVariables false
set_option linter.unusedSimpArgs false
def window_Fire.l0 : Nat → Int → List (S39) → List (S70) → List (S70) → Int → Int → Option ((List (S39)) × (List (S70)))
 | 0, _, _, _, _, _, _ => none
 | k + 1, x1, x6, x7, x11, x12, x13 => if x13 < x12 then (if 0 ≤ x13 then (if x13 < (x11.length : Int) then (if (wrap64 (((rd_T70 x11 x13).f1.f1) - 1)) ≤ x1 then (if x6.length < 5864062014805 then (window_Fire.l0 k x1 (x6 ++ [(⟨(rd_T70 x11 x13).f0, wrap64 (((rd_T70 x11 x13).f1.f1) - 1), (rd_T70 x11 x13).f2⟩ : S39)]) x7 x11 x12 (wrap64 (x13 + 1))) else (none)) else (if x7.length < 4398046511104 then (window_Fire.l0 k x1 x6 (x7 ++ [(⟨(rd_T70 x11 x13).f0, (⟨(rd_T70 x11 x13).f1.f0, (rd_T70 x11 x13).f1.f1⟩ : S68), (rd_T70 x11 x13).f2⟩ : S70)]) x11 x12 (wrap64 (x13 + 1))) else (none))) else (none)) else (none)) else (some (x6, x7))
def window_Fire.f (k : Nat) (l0 : List (S70)) (a1 : Int) : Option ((List (S39)) × (List (S70))) := (window_Sort.f l0).bind fun t139 => (window_Fire.l0 k a1 ([] : List (S39)) ([] : List (S70)) t139 (t139.length : Int) 0)
set_option maxHeartbeats 8000000 in
set_option maxRecDepth 100000 in
theorem window_Fire.calls (k : Nat) (A0 : Option Addr) (c0 : Nat) (l0 : List (S70)) (a1 : Int) (r1 : List (S39)) (r2 : List (S70)) (w : World) (hr0 : Kd.C k70 w A0 l0.length l0) (hc0 : l0.length ≤ c0) (h : window_Fire.f k l0 a1 = some (r1, r2)) :
  Calls Try.prog 42 #[.slice A0 l0.length c0, .int .i64 a1] w fun e w' => ∃ v0_ v1_ : Value, e = .returned (.tuple #[v0_, v1_]) ∧ Kd.R k39 39 w' w.heap.size (fun _ => True) v0_ r1 ∧ Kd.R k70 70 w' w.heap.size (fun _ => True) v1_ r2 ∧ Below w.heap.size w w' := by
 have hu70 := Try.underlying70
 have hu39 := Try.underlying39
 have HR0 := Aside0.mk hr0
 have HC0 := Aside0.mk hc0
 clear hr0 hc0
 have HB := Aside0.mk (Below.refl w.heap.size w)
 have H : ((window_Sort.f l0).bind fun t139 => (window_Fire.l0 k a1 ([] : List (S39)) ([] : List (S70)) t139 (t139.length : Int) 0)) = some (r1, r2) := h
 clear h
 replace H := Option.bind_eq_some_iff.mp H
 obtain ⟨t139, A30, H⟩ := H
 replace H : (window_Fire.l0 k a1 ([] : List (S39)) ([] : List (S70)) t139 (t139.length : Int) 0) = some (r1, r2) := H
 have A3 := Aside0.mk A30
 clear A30
 have H' := Aside0.mk H
 clear H
 go_enter Try.func42, Try.ntmps42
 go_wp2_with (first | ((with_reducible refine gate_callee (f := 47) rfl ?_); refine goesL_ (some 11) rfl rfl Try.func47 (by kernel_rfl) rfl #[.slice A0 l0.length c0] rfl (by (try simp only [List.map_toArray, List.map_cons, List.map_nil]); first | done | rfl | (simp only [List.length_drop, List.length_take]; rfl)) ?_; (with_reducible refine (window_Sort.calls _ _ l0 t139 _ ?side1 ?side2 A3.out).mono ?_); (case side1 => repeat (first | exact HR0.out | (with_reducible refine Kd.C_alloc ?_ _) | (with_reducible refine Kd.C_drewN ?_ _) | (with_reducible refine Kd.C_drew ?_))); (case side2 => exact HC0.out); rintro e w4 ⟨v140, rfl, ho0, hb⟩; refine ⟨_, rfl, ?_⟩; have n0_ := Aside0.mk (Kd.R_lower ho0 (below_size (by repeat (first | (with_reducible first | exact HB.out | apply below_alloc | apply pw_below_drewN | apply below_drew1) | exact HB.out)))); have n1_ := Aside0.mk (below_step (by repeat (first | (with_reducible first | exact HB.out | apply below_alloc | apply pw_below_drewN | apply below_drew1) | exact HB.out)) hb); clear HB; have HO141 := n0_; have HB := n1_; clear n0_ n1_; (try clear hb); (try clear hb2); (try clear hk); (try clear hi); (try clear ho0); obtain ⟨Ao5, co5, eo5⟩ := Kd.R_slice HO141.out; subst eo5))
 go_loopg [6, 7, 13] k (fun kq v6 v7 v13 w' => ∃ (x6_1 : List (S39)) (x7_1 : List (S70)) (x13_1 : Int), v13 = .int .i64 x13_1 ∧ Aside0 (window_Fire.l0 kq a1 x6_1 x7_1 t139 (t139.length : Int) x13_1 = some (r1, r2)) ∧ Aside0 (kq ≤ k) ∧ Aside0 (Kd.R k39 39 w' w.heap.size (fun _ => True) v6 x6_1) ∧ Aside0 (Kd.R k70 70 w' w.heap.size (fun k_ => some k_ ≠ ((.slice Ao5 t139.length co5) : Value).ownBlock) v7 x7_1) ∧ Aside0 (Kd.R k70 70 w' w.heap.size (fun k_ => some k_ ≠ (v7 : Value).ownBlock) (.slice Ao5 t139.length co5) t139) ∧ Aside0 (Below w.heap.size w w'))
 case atStart => exact ⟨(([] : List (S39))), (([] : List (S70))), (0), (by first | rfl | (simp; done) | (simp [*]; done)), H', ⟨Nat.le_refl _⟩, ⟨by first | exact Kd.R_nil _ _ _ _ _ | exact Kd.N_nil _ _ _ _ _ | exact Kd.V_nil _ _ _ _ _ | exact Kd.Q_nil _ _ _ _ _ | exact Kd.S_nil _ _ _ _ _⟩, ⟨by first | exact Kd.R_nil _ _ _ _ _ | exact Kd.N_nil _ _ _ _ _ | exact Kd.V_nil _ _ _ _ _ | exact Kd.Q_nil _ _ _ _ _ | exact Kd.S_nil _ _ _ _ _⟩, ⟨by (with_reducible repeat (first | apply Kd.R_alloc | apply Kd.R_drewN | apply Kd.R_drew)); exact Kd.R_mono HO141.out (fun _ hk => (by simp [Value.ownBlock]))⟩, ⟨by repeat (first | (with_reducible first | exact HB.out | apply below_alloc | apply pw_below_drewN | apply below_drew1) | exact HB.out)⟩⟩
 case round =>
  clear H'
  try clear p2; try clear c4
  obtain ⟨x6_1, x7_1, x13_1, rfl, HA, HK1, HO_6, HO_7, HO_11, HB⟩ := hrel
  cases gk with
  | zero => exact absurd HA.out (by simp [window_Fire.l0])
  | succ k1 =>
   have H := HA.out
   clear HA
   simp only [window_Fire.l0] at H
   by_cases c6 : x13_1 < (t139.length : Int)
   ·rw [if_pos c6] at H
    have c6b0 : decide (x13_1 < (t139.length : Int)) = true := decide_eq_true c6
    clear c6
    by_cases c7 : 0 ≤ x13_1
    ·rw [if_pos c7] at H
     have c7b0 : decide (0 ≤ x13_1) = true := decide_eq_true c7
     clear c7
     by_cases c8 : x13_1 < (t139.length : Int)
     ·rw [if_pos c8] at H
      have c8b0 : decide (x13_1 < (t139.length : Int)) = true := decide_eq_true c8
      clear c8
      by_cases c9 : (wrap64 (((rd_T70 t139 x13_1).f1.f1) - 1)) ≤ a1
      ·rw [if_pos c9] at H
       have c9b0 : decide ((wrap64 (((rd_T70 t139 x13_1).f1.f1) - 1)) ≤ a1) = true := decide_eq_true c9
       clear c9
       by_cases c10 : x6_1.length < 5864062014805
       ·rw [if_pos c10] at H
        have LMc10 := Aside0.mk c10
        clear c10
        obtain ⟨y144, hy144⟩ : ∃ y_ : List (S39), y_ = (x6_1 ++ [(⟨(rd_T70 t139 x13_1).f0, wrap64 (((rd_T70 t139 x13_1).f1.f1) - 1), (rd_T70 t139 x13_1).f2⟩ : S39)]) := ⟨_, rfl⟩
        replace H : (window_Fire.l0 k1 a1 y144 x7_1 t139 (t139.length : Int) (wrap64 (x13_1 + 1))) = some (r1, r2) := by first | (rw [hy144]; with_reducible exact H) | (have H2_ := (Option.bind_some _ _).symm.trans H; rw [hy144]; with_reducible exact H2_) | (have H2_ := (Option.bind_some _ _).symm.trans H; with_reducible exact H2_) | with_reducible exact H | (rw [hy144]; exact H) | exact H
        have Ny144 := Aside0.mk hy144
        clear hy144
        have H' := Aside0.mk H
        clear H
        have p142 : 0 ≤ (x13_1 : Int) := of_decide_eq_true (by first | (with_reducible assumption) | assumption)
        have q142 : x13_1 < (t139.length : Int) := of_decide_eq_true (by first | (with_reducible assumption) | assumption)
        obtain ⟨ad142, e142, hx142_0, hx142_1, hx142_2, hx142_3⟩ := at_T70 (Kd.R_reads' HO_11.out).2.2 x13_1 p142 q142
        cases e142
        replace p142 := eq_true p142
        replace q142 := eq_true q142
        go_wp2_with (first | ((with_reducible refine gate_dst (N := 9) rfl ?_); refine box_event ?hg (N := 9) ?hd (cs := #[.int .i64 0, .int .i64 0, .int .i64 0, .int .i64 0]) (t := 70) ?hr ?_; (case hd => rfl); (case hg => rfl); (case hr => first | (go_simp; done) | (go_simp; rfl)); intro gb143 hg w11 hbox hb; have n0_ := Aside0.mk (Kd.R_below (by (with_reducible repeat (first | apply Kd.R_alloc | apply Kd.R_drewN | apply Kd.R_drew)); exact HO_6.out) hb); have n1_ := Aside0.mk (Kd.R_below (Kd.R_elderB (by (with_reducible repeat (first | apply Kd.R_alloc | apply Kd.R_drewN | apply Kd.R_drew)); exact HO_7.out) gb143 (Nat.le_of_eq hg.symm)) hb); have n2_ := Aside0.mk (Kd.R_below (Kd.R_elderB (by (with_reducible repeat (first | apply Kd.R_alloc | apply Kd.R_drewN | apply Kd.R_drew)); exact HO_11.out) gb143 (Nat.le_of_eq hg.symm)) hb); have n3_ := Aside0.mk (below_step (by repeat (first | (with_reducible first | exact HB.out | apply below_alloc | apply pw_below_drewN | apply below_drew1) | exact HB.out)) hb); have n4_ := Aside0.mk (hbox); have n5_ := Aside0.mk ((by rw [hg]; exact (below_size (by repeat (first | (with_reducible first | exact HB.out | apply below_alloc | apply pw_below_drewN | apply below_drew1) | exact HB.out))) : w.heap.size ≤ gb143)); have n6_ := Aside0.mk ((by rw [hg]; exact (below_size (by repeat (first | (with_reducible first | exact HB.out | apply below_alloc | apply pw_below_drewN | apply below_drew1) | exact HB.out))) : w.heap.size ≤ gb143)); clear HO_6; clear HO_7; clear HO_11; clear HB; have HO_6 := n0_; have HO_7 := n1_; have HO_11 := n2_; have HB := n3_; have BK143 := n4_; have GW143 := n5_; have GE143 := n6_; clear n0_ n1_ n2_ n3_ n4_ n5_ n6_; clear hb hbox hg; have hcz12_0 : w11.cell? ⟨gb143, 0, none⟩ = some (.int .i64 0) := (blk_cell BK143.out 0).trans rfl; have hcz12_1 : w11.cell? ⟨gb143, 1, none⟩ = some (.int .i64 0) := (blk_cell BK143.out 1).trans rfl; have hcz12_2 : w11.cell? ⟨gb143, 2, none⟩ = some (.int .i64 0) := (blk_cell BK143.out 2).trans rfl; have hcz12_3 : w11.cell? ⟨gb143, 3, none⟩ = some (.int .i64 0) := (blk_cell BK143.out 3).trans rfl; have hfz12_0 := blk_frozen BK143.out 0; have hfz12_1 := blk_frozen BK143.out 1; have hfz12_2 := blk_frozen BK143.out 2; have hfz12_3 := blk_frozen BK143.out 3) | ((with_reducible refine gate_builtin (b := .append) (xs := #[.tmp 23, .tmp 33]) rfl ?_); at_builtin; refine Kd.R_append k39 (w0 := w) w.heap.size rfl (.tmp 23) (.tmp 33) 47 39 (.agg #[(.int .i64 0), (.int .i64 0), (.int .i64 0)]) 24 rfl Try.underlying47 info39 rfl (by decide) (by omega) u6 x6_1 (⟨(rd_T70 t139 x13_1).f0, wrap64 (((rd_T70 t139 x13_1).f1.f1) - 1), (rd_T70 t139 x13_1).f2⟩ : S39) [.int .i64 ((rd_T70 t139 x13_1).f0), .int .i64 (wrap64 (((rd_T70 t139 x13_1).f1.f1) - 1)), .int .i64 ((rd_T70 t139 x13_1).f2)] (fun _ => True) (fun _ => False) rfl (by first | (go_simp; done) | (go_simp; rfl)) ?aP (fun _ hk => hk.elim) ?aF ?aO ?aB ?aS ?aL ?_; (case aP => exact k39_mkM _ _ _ (⟨(rd_T70 t139 x13_1).f0, wrap64 (((rd_T70 t139 x13_1).f1.f1) - 1), (rd_T70 t139 x13_1).f2⟩ : S39)); (case aB => exact (by repeat (first | (with_reducible first | exact HB.out | apply below_alloc | apply pw_below_drewN | apply below_drew1 | refine below_set ?_ GE143.out) | exact HB.out))); (case aF => exact (fun _ _ => trivial)); (case aO => exact (by (with_reducible repeat (first | apply Kd.R_alloc | apply Kd.R_drewN | apply Kd.R_drew)); exact Kd.R_mono (Kd.R_far (p := ⟨gb143, 3, none⟩) (Kd.R_far (p := ⟨gb143, 2, none⟩) (Kd.R_far (p := ⟨gb143, 1, none⟩) (Kd.R_far (p := ⟨gb143, 0, none⟩) (Kd.R_types HO_6.out BK143.out (by decide)) (fun _ hk => hk.2) (.int .i64 ((rd_T70 t139 x13_1).f0))) (fun _ hk => hk.2) (.int .i64 ((rd_T70 t139 x13_1).f1.f0))) (fun _ hk => hk.2) (.int .i64 ((rd_T70 t139 x13_1).f1.f1))) (fun _ hk => hk.2) (.int .i64 ((rd_T70 t139 x13_1).f2))) (fun _ hk => trivial))); (case aS => exact (below_size (by repeat (first | (with_reducible first | exact HB.out | apply below_alloc | apply pw_below_drewN | apply below_drew1 | refine below_set ?_ GE143.out) | exact HB.out)))); (case aL => have := LMc10.out; omega); intro v145 w13 ho hb hg hat; rw [← Ny144.out] at ho; have n0_ := Aside0.mk (Kd.R_over' (by (with_reducible repeat (first | apply Kd.R_alloc | apply Kd.R_drewN | apply Kd.R_drew)); exact (Kd.R_mono (Kd.R_far (p := ⟨gb143, 3, none⟩) (Kd.R_far (p := ⟨gb143, 2, none⟩) (Kd.R_far (p := ⟨gb143, 1, none⟩) (Kd.R_far (p := ⟨gb143, 0, none⟩) (Kd.R_mono HO_7.out (fun k_ hk => (⟨hk, hk.2⟩ : _ ∧ k_ ≠ gb143))) (fun _ hk => hk.2) (.int .i64 ((rd_T70 t139 x13_1).f0))) (fun _ hk => hk.2) (.int .i64 ((rd_T70 t139 x13_1).f1.f0))) (fun _ hk => hk.2) (.int .i64 ((rd_T70 t139 x13_1).f1.f1))) (fun _ hk => hk.2) (.int .i64 ((rd_T70 t139 x13_1).f2))) (fun _ h_ => h_.1))) (Kd.R_typed (by (with_reducible repeat (first | apply Kd.R_alloc | apply Kd.R_drewN | apply Kd.R_drew)); exact (Kd.R_mono (Kd.R_far (p := ⟨gb143, 3, none⟩) (Kd.R_far (p := ⟨gb143, 2, none⟩) (Kd.R_far (p := ⟨gb143, 1, none⟩) (Kd.R_far (p := ⟨gb143, 0, none⟩) (Kd.R_types HO_6.out BK143.out (by decide)) (fun _ hk => hk.2) (.int .i64 ((rd_T70 t139 x13_1).f0))) (fun _ hk => hk.2) (.int .i64 ((rd_T70 t139 x13_1).f1.f0))) (fun _ hk => hk.2) (.int .i64 ((rd_T70 t139 x13_1).f1.f1))) (fun _ hk => hk.2) (.int .i64 ((rd_T70 t139 x13_1).f2))) (fun _ h_ => h_.1)))) (by decide) hg); have n1_ := Aside0.mk (Kd.R_over' (by (with_reducible repeat (first | apply Kd.R_alloc | apply Kd.R_drewN | apply Kd.R_drew)); exact (Kd.R_mono (Kd.R_far (p := ⟨gb143, 3, none⟩) (Kd.R_far (p := ⟨gb143, 2, none⟩) (Kd.R_far (p := ⟨gb143, 1, none⟩) (Kd.R_far (p := ⟨gb143, 0, none⟩) (Kd.R_mono HO_11.out (fun k_ hk => (⟨hk, hk.2⟩ : _ ∧ k_ ≠ gb143))) (fun _ hk => hk.2) (.int .i64 ((rd_T70 t139 x13_1).f0))) (fun _ hk => hk.2) (.int .i64 ((rd_T70 t139 x13_1).f1.f0))) (fun _ hk => hk.2) (.int .i64 ((rd_T70 t139 x13_1).f1.f1))) (fun _ hk => hk.2) (.int .i64 ((rd_T70 t139 x13_1).f2))) (fun _ h_ => h_.1))) (Kd.R_typed (by (with_reducible repeat (first | apply Kd.R_alloc | apply Kd.R_drewN | apply Kd.R_drew)); exact (Kd.R_mono (Kd.R_far (p := ⟨gb143, 3, none⟩) (Kd.R_far (p := ⟨gb143, 2, none⟩) (Kd.R_far (p := ⟨gb143, 1, none⟩) (Kd.R_far (p := ⟨gb143, 0, none⟩) (Kd.R_types HO_6.out BK143.out (by decide)) (fun _ hk => hk.2) (.int .i64 ((rd_T70 t139 x13_1).f0))) (fun _ hk => hk.2) (.int .i64 ((rd_T70 t139 x13_1).f1.f0))) (fun _ hk => hk.2) (.int .i64 ((rd_T70 t139 x13_1).f1.f1))) (fun _ hk => hk.2) (.int .i64 ((rd_T70 t139 x13_1).f2))) (fun _ h_ => h_.1)))) (by decide) hg); have n2_ := Aside0.mk (blk_grown (g := gb143) (o := .cells #[.int .i64 ((rd_T70 t139 x13_1).f0), .int .i64 ((rd_T70 t139 x13_1).f1.f0), .int .i64 ((rd_T70 t139 x13_1).f1.f1), .int .i64 ((rd_T70 t139 x13_1).f2)] 70 (0, 0)) (by (with_reducible repeat (first | refine blk_drewN ?_ _ | refine blk_drew ?_ | refine blk_alloc ?_ _)); refine blk_put (cs := #[.int .i64 ((rd_T70 t139 x13_1).f0), .int .i64 ((rd_T70 t139 x13_1).f1.f0), .int .i64 ((rd_T70 t139 x13_1).f1.f1), .int .i64 0]) ?_ 3 _ rfl; (with_reducible repeat (first | refine blk_drewN ?_ _ | refine blk_drew ?_ | refine blk_alloc ?_ _)); refine blk_put (cs := #[.int .i64 ((rd_T70 t139 x13_1).f0), .int .i64 ((rd_T70 t139 x13_1).f1.f0), .int .i64 0, .int .i64 0]) ?_ 2 _ rfl; (with_reducible repeat (first | refine blk_drewN ?_ _ | refine blk_drew ?_ | refine blk_alloc ?_ _)); refine blk_put (cs := #[.int .i64 ((rd_T70 t139 x13_1).f0), .int .i64 0, .int .i64 0, .int .i64 0]) ?_ 1 _ rfl; (with_reducible repeat (first | refine blk_drewN ?_ _ | refine blk_drew ?_ | refine blk_alloc ?_ _)); refine blk_put (cs := #[.int .i64 0, .int .i64 0, .int .i64 0, .int .i64 0]) ?_ 0 _ rfl; (with_reducible repeat (first | refine blk_drewN ?_ _ | refine blk_drew ?_ | refine blk_alloc ?_ _)); exact BK143.out) hg (Kd.R_ne HO_6.out BK143.out (by decide))); have n3_ := Aside0.mk (hb); have n4_ := Aside0.mk (ho); clear HO_7; clear HO_11; clear BK143; clear HB; clear HO_6; have HO_7 := n0_; have HO_11 := n1_; have BK143 := n2_; have HB := n3_; have HO146 := n4_; clear n0_ n1_ n2_ n3_ n4_; clear ho hb hg hat))
        go_roundg k1
        case measure => have := HK1.out; omega
        case rel => exact ⟨(y144), (x7_1), (wrap64 (x13_1 + 1)), (by first | rfl | (simp; done) | (simp [*]; done)), H', ⟨by have := HK1.out; omega⟩, ⟨by (with_reducible repeat (first | apply Kd.R_alloc | apply Kd.R_drewN | apply Kd.R_drew)); exact HO146.out⟩, ⟨by (with_reducible repeat (first | apply Kd.R_alloc | apply Kd.R_drewN | apply Kd.R_drew)); exact Kd.R_mono HO_7.out (fun _ hk => hk.1)⟩, ⟨by (with_reducible repeat (first | apply Kd.R_alloc | apply Kd.R_drewN | apply Kd.R_drew)); exact Kd.R_mono HO_11.out (fun _ hk => hk.1)⟩, ⟨by repeat (first | (with_reducible first | exact HB.out | apply below_alloc | apply pw_below_drewN | apply below_drew1 | refine below_set ?_ GE143.out) | exact HB.out)⟩⟩
       ·rw [if_neg c10] at H
        exact absurd H (by simp)
      ·rw [if_neg c9] at H
       have c9b0 : decide ((wrap64 (((rd_T70 t139 x13_1).f1.f1) - 1)) ≤ a1) = false := decide_eq_false c9
       clear c9
       by_cases c14 : x7_1.length < 4398046511104
       ·rw [if_pos c14] at H
        have LMc14 := Aside0.mk c14
        clear c14
        obtain ⟨y147, hy147⟩ : ∃ y_ : List (S70), y_ = (x7_1 ++ [(⟨(rd_T70 t139 x13_1).f0, (⟨(rd_T70 t139 x13_1).f1.f0, (rd_T70 t139 x13_1).f1.f1⟩ : S68), (rd_T70 t139 x13_1).f2⟩ : S70)]) := ⟨_, rfl⟩
        replace H : (window_Fire.l0 k1 a1 x6_1 y147 t139 (t139.length : Int) (wrap64 (x13_1 + 1))) = some (r1, r2) := by first | (rw [hy147]; with_reducible exact H) | (have H2_ := (Option.bind_some _ _).symm.trans H; rw [hy147]; with_reducible exact H2_) | (have H2_ := (Option.bind_some _ _).symm.trans H; with_reducible exact H2_) | with_reducible exact H | (rw [hy147]; exact H) | exact H
        have Ny147 := Aside0.mk hy147
        clear hy147
        have H' := Aside0.mk H
        clear H
        have p142 : 0 ≤ (x13_1 : Int) := of_decide_eq_true (by first | (with_reducible assumption) | assumption)
        have q142 : x13_1 < (t139.length : Int) := of_decide_eq_true (by first | (with_reducible assumption) | assumption)
        obtain ⟨ad142, e142, hx142_0, hx142_1, hx142_2, hx142_3⟩ := at_T70 (Kd.R_reads' HO_11.out).2.2 x13_1 p142 q142
        cases e142
        replace p142 := eq_true p142
        replace q142 := eq_true q142
        go_wp2_with (first | ((with_reducible refine gate_dst (N := 9) rfl ?_); refine box_event ?hg (N := 9) ?hd (cs := #[.int .i64 0, .int .i64 0, .int .i64 0, .int .i64 0]) (t := 70) ?hr ?_; (case hd => rfl); (case hg => rfl); (case hr => first | (go_simp; done) | (go_simp; rfl)); intro gb143 hg w15 hbox hb; have n0_ := Aside0.mk (Kd.R_below (by (with_reducible repeat (first | apply Kd.R_alloc | apply Kd.R_drewN | apply Kd.R_drew)); exact HO_6.out) hb); have n1_ := Aside0.mk (Kd.R_below (Kd.R_elderB (by (with_reducible repeat (first | apply Kd.R_alloc | apply Kd.R_drewN | apply Kd.R_drew)); exact HO_7.out) gb143 (Nat.le_of_eq hg.symm)) hb); have n2_ := Aside0.mk (Kd.R_below (Kd.R_elderB (by (with_reducible repeat (first | apply Kd.R_alloc | apply Kd.R_drewN | apply Kd.R_drew)); exact HO_11.out) gb143 (Nat.le_of_eq hg.symm)) hb); have n3_ := Aside0.mk (below_step (by repeat (first | (with_reducible first | exact HB.out | apply below_alloc | apply pw_below_drewN | apply below_drew1) | exact HB.out)) hb); have n4_ := Aside0.mk (hbox); have n5_ := Aside0.mk ((by rw [hg]; exact (below_size (by repeat (first | (with_reducible first | exact HB.out | apply below_alloc | apply pw_below_drewN | apply below_drew1) | exact HB.out))) : w.heap.size ≤ gb143)); have n6_ := Aside0.mk ((by rw [hg]; exact (below_size (by repeat (first | (with_reducible first | exact HB.out | apply below_alloc | apply pw_below_drewN | apply below_drew1) | exact HB.out))) : w.heap.size ≤ gb143)); clear HO_6; clear HO_7; clear HO_11; clear HB; have HO_6 := n0_; have HO_7 := n1_; have HO_11 := n2_; have HB := n3_; have BK143 := n4_; have GW143 := n5_; have GE143 := n6_; clear n0_ n1_ n2_ n3_ n4_ n5_ n6_; clear hb hbox hg; have hcz16_0 : w15.cell? ⟨gb143, 0, none⟩ = some (.int .i64 0) := (blk_cell BK143.out 0).trans rfl; have hcz16_1 : w15.cell? ⟨gb143, 1, none⟩ = some (.int .i64 0) := (blk_cell BK143.out 1).trans rfl; have hcz16_2 : w15.cell? ⟨gb143, 2, none⟩ = some (.int .i64 0) := (blk_cell BK143.out 2).trans rfl; have hcz16_3 : w15.cell? ⟨gb143, 3, none⟩ = some (.int .i64 0) := (blk_cell BK143.out 3).trans rfl; have hfz16_0 := blk_frozen BK143.out 0; have hfz16_1 := blk_frozen BK143.out 1; have hfz16_2 := blk_frozen BK143.out 2; have hfz16_3 := blk_frozen BK143.out 3) | ((with_reducible refine gate_builtin (b := .append) (xs := #[.tmp 35, .tmp 37]) rfl ?_); at_builtin; refine Kd.R_append k70 (w0 := w) w.heap.size rfl (.tmp 35) (.tmp 37) 44 70 (.agg #[(.int .i64 0), (.int .i64 0), (.int .i64 0), (.int .i64 0)]) 32 rfl Try.underlying44 info70 rfl (by decide) (by omega) u7 x7_1 (⟨(rd_T70 t139 x13_1).f0, (⟨(rd_T70 t139 x13_1).f1.f0, (rd_T70 t139 x13_1).f1.f1⟩ : S68), (rd_T70 t139 x13_1).f2⟩ : S70) [.int .i64 ((rd_T70 t139 x13_1).f0), .int .i64 ((rd_T70 t139 x13_1).f1.f0), .int .i64 ((rd_T70 t139 x13_1).f1.f1), .int .i64 ((rd_T70 t139 x13_1).f2)] (fun k_ => some k_ ≠ (.slice (some ad142) t139.length co5 : Value).ownBlock ∧ k_ ≠ gb143) (fun _ => False) rfl (by first | (go_simp; done) | (go_simp; rfl)) ?aP (fun _ hk => hk.elim) ?aF ?aO ?aB ?aS ?aL ?_; (case aP => exact k70_mkM _ _ _ (⟨(rd_T70 t139 x13_1).f0, (⟨(rd_T70 t139 x13_1).f1.f0, (rd_T70 t139 x13_1).f1.f1⟩ : S68), (rd_T70 t139 x13_1).f2⟩ : S70)); (case aB => exact (by repeat (first | (with_reducible first | exact HB.out | apply below_alloc | apply pw_below_drewN | apply below_drew1 | refine below_set ?_ GE143.out) | exact HB.out))); (case aF => exact (fun k_ hk => ⟨Kd.fresh' (Kd.R_lt (by (with_reducible repeat (first | apply Kd.R_alloc | apply Kd.R_drewN | apply Kd.R_drew)); exact (Kd.R_mono (Kd.R_far (p := ⟨gb143, 3, none⟩) (Kd.R_far (p := ⟨gb143, 2, none⟩) (Kd.R_far (p := ⟨gb143, 1, none⟩) (Kd.R_far (p := ⟨gb143, 0, none⟩) (Kd.R_mono HO_11.out (fun k_ hk => (⟨hk, hk.2⟩ : _ ∧ k_ ≠ gb143))) (fun _ hk => hk.2) (.int .i64 ((rd_T70 t139 x13_1).f0))) (fun _ hk => hk.2) (.int .i64 ((rd_T70 t139 x13_1).f1.f0))) (fun _ hk => hk.2) (.int .i64 ((rd_T70 t139 x13_1).f1.f1))) (fun _ hk => hk.2) (.int .i64 ((rd_T70 t139 x13_1).f2))) (fun _ h_ => h_.1)))) k_ hk, Kd.freshB (g := gb143) (o := .cells #[.int .i64 ((rd_T70 t139 x13_1).f0), .int .i64 ((rd_T70 t139 x13_1).f1.f0), .int .i64 ((rd_T70 t139 x13_1).f1.f1), .int .i64 ((rd_T70 t139 x13_1).f2)] 70 (0, 0)) (by (with_reducible repeat (first | refine blk_drewN ?_ _ | refine blk_drew ?_ | refine blk_alloc ?_ _)); refine blk_put (cs := #[.int .i64 ((rd_T70 t139 x13_1).f0), .int .i64 ((rd_T70 t139 x13_1).f1.f0), .int .i64 ((rd_T70 t139 x13_1).f1.f1), .int .i64 0]) ?_ 3 _ rfl; (with_reducible repeat (first | refine blk_drewN ?_ _ | refine blk_drew ?_ | refine blk_alloc ?_ _)); refine blk_put (cs := #[.int .i64 ((rd_T70 t139 x13_1).f0), .int .i64 ((rd_T70 t139 x13_1).f1.f0), .int .i64 0, .int .i64 0]) ?_ 2 _ rfl; (with_reducible repeat (first | refine blk_drewN ?_ _ | refine blk_drew ?_ | refine blk_alloc ?_ _)); refine blk_put (cs := #[.int .i64 ((rd_T70 t139 x13_1).f0), .int .i64 0, .int .i64 0, .int .i64 0]) ?_ 1 _ rfl; (with_reducible repeat (first | refine blk_drewN ?_ _ | refine blk_drew ?_ | refine blk_alloc ?_ _)); refine blk_put (cs := #[.int .i64 0, .int .i64 0, .int .i64 0, .int .i64 0]) ?_ 0 _ rfl; (with_reducible repeat (first | refine blk_drewN ?_ _ | refine blk_drew ?_ | refine blk_alloc ?_ _)); exact BK143.out) k_ hk⟩)); (case aO => exact (by (with_reducible repeat (first | apply Kd.R_alloc | apply Kd.R_drewN | apply Kd.R_drew)); exact Kd.R_mono (Kd.R_far (p := ⟨gb143, 3, none⟩) (Kd.R_far (p := ⟨gb143, 2, none⟩) (Kd.R_far (p := ⟨gb143, 1, none⟩) (Kd.R_far (p := ⟨gb143, 0, none⟩) (Kd.R_mono HO_7.out (fun k_ hk => (⟨hk, hk.2⟩ : _ ∧ k_ ≠ gb143))) (fun _ hk => hk.2) (.int .i64 ((rd_T70 t139 x13_1).f0))) (fun _ hk => hk.2) (.int .i64 ((rd_T70 t139 x13_1).f1.f0))) (fun _ hk => hk.2) (.int .i64 ((rd_T70 t139 x13_1).f1.f1))) (fun _ hk => hk.2) (.int .i64 ((rd_T70 t139 x13_1).f2))) (fun _ hk => ⟨hk.1.1, hk.1.2⟩))); (case aS => exact (below_size (by repeat (first | (with_reducible first | exact HB.out | apply below_alloc | apply pw_below_drewN | apply below_drew1 | refine below_set ?_ GE143.out) | exact HB.out)))); (case aL => have := LMc14.out; omega); intro v148 w17 ho hb hg hat; rw [← Ny147.out] at ho; have n0_ := Aside0.mk (Kd.R_over' (by (with_reducible repeat (first | apply Kd.R_alloc | apply Kd.R_drewN | apply Kd.R_drew)); exact (Kd.R_mono (Kd.R_far (p := ⟨gb143, 3, none⟩) (Kd.R_far (p := ⟨gb143, 2, none⟩) (Kd.R_far (p := ⟨gb143, 1, none⟩) (Kd.R_far (p := ⟨gb143, 0, none⟩) (Kd.R_types HO_6.out BK143.out (by decide)) (fun _ hk => hk.2) (.int .i64 ((rd_T70 t139 x13_1).f0))) (fun _ hk => hk.2) (.int .i64 ((rd_T70 t139 x13_1).f1.f0))) (fun _ hk => hk.2) (.int .i64 ((rd_T70 t139 x13_1).f1.f1))) (fun _ hk => hk.2) (.int .i64 ((rd_T70 t139 x13_1).f2))) (fun _ h_ => h_.1))) (Kd.R_typed (by (with_reducible repeat (first | apply Kd.R_alloc | apply Kd.R_drewN | apply Kd.R_drew)); exact (Kd.R_mono (Kd.R_far (p := ⟨gb143, 3, none⟩) (Kd.R_far (p := ⟨gb143, 2, none⟩) (Kd.R_far (p := ⟨gb143, 1, none⟩) (Kd.R_far (p := ⟨gb143, 0, none⟩) (Kd.R_mono HO_7.out (fun k_ hk => (⟨hk, hk.2⟩ : _ ∧ k_ ≠ gb143))) (fun _ hk => hk.2) (.int .i64 ((rd_T70 t139 x13_1).f0))) (fun _ hk => hk.2) (.int .i64 ((rd_T70 t139 x13_1).f1.f0))) (fun _ hk => hk.2) (.int .i64 ((rd_T70 t139 x13_1).f1.f1))) (fun _ hk => hk.2) (.int .i64 ((rd_T70 t139 x13_1).f2))) (fun _ h_ => h_.1)))) (by decide) hg); have n1_ := Aside0.mk (Kd.R_after (ok := (fun k_ => k_ ≠ gb143)) (by (with_reducible repeat (first | apply Kd.R_alloc | apply Kd.R_drewN | apply Kd.R_drew)); exact Kd.R_mono (Kd.R_far (p := ⟨gb143, 3, none⟩) (Kd.R_far (p := ⟨gb143, 2, none⟩) (Kd.R_far (p := ⟨gb143, 1, none⟩) (Kd.R_far (p := ⟨gb143, 0, none⟩) (Kd.R_mono HO_11.out (fun k_ hk => (⟨hk, hk.2⟩ : _ ∧ k_ ≠ gb143))) (fun _ hk => hk.2) (.int .i64 ((rd_T70 t139 x13_1).f0))) (fun _ hk => hk.2) (.int .i64 ((rd_T70 t139 x13_1).f1.f0))) (fun _ hk => hk.2) (.int .i64 ((rd_T70 t139 x13_1).f1.f1))) (fun _ hk => hk.2) (.int .i64 ((rd_T70 t139 x13_1).f2))) (fun _ hk => ⟨hk.1.2, hk.1.1⟩)) hg hat); have n2_ := Aside0.mk (blk_grown (g := gb143) (o := .cells #[.int .i64 ((rd_T70 t139 x13_1).f0), .int .i64 ((rd_T70 t139 x13_1).f1.f0), .int .i64 ((rd_T70 t139 x13_1).f1.f1), .int .i64 ((rd_T70 t139 x13_1).f2)] 70 (0, 0)) (by (with_reducible repeat (first | refine blk_drewN ?_ _ | refine blk_drew ?_ | refine blk_alloc ?_ _)); refine blk_put (cs := #[.int .i64 ((rd_T70 t139 x13_1).f0), .int .i64 ((rd_T70 t139 x13_1).f1.f0), .int .i64 ((rd_T70 t139 x13_1).f1.f1), .int .i64 0]) ?_ 3 _ rfl; (with_reducible repeat (first | refine blk_drewN ?_ _ | refine blk_drew ?_ | refine blk_alloc ?_ _)); refine blk_put (cs := #[.int .i64 ((rd_T70 t139 x13_1).f0), .int .i64 ((rd_T70 t139 x13_1).f1.f0), .int .i64 0, .int .i64 0]) ?_ 2 _ rfl; (with_reducible repeat (first | refine blk_drewN ?_ _ | refine blk_drew ?_ | refine blk_alloc ?_ _)); refine blk_put (cs := #[.int .i64 ((rd_T70 t139 x13_1).f0), .int .i64 0, .int .i64 0, .int .i64 0]) ?_ 1 _ rfl; (with_reducible repeat (first | refine blk_drewN ?_ _ | refine blk_drew ?_ | refine blk_alloc ?_ _)); refine blk_put (cs := #[.int .i64 0, .int .i64 0, .int .i64 0, .int .i64 0]) ?_ 0 _ rfl; (with_reducible repeat (first | refine blk_drewN ?_ _ | refine blk_drew ?_ | refine blk_alloc ?_ _)); exact BK143.out) hg (Kd.R_away HO_7.out (fun _ hk => hk.2))); have n3_ := Aside0.mk (hb); have n4_ := Aside0.mk (ho); clear HO_6; clear HO_11; clear BK143; clear HB; clear HO_7; have HO_6 := n0_; have HO_11 := n1_; have BK143 := n2_; have HB := n3_; have HO149 := n4_; clear n0_ n1_ n2_ n3_ n4_; clear ho hb hg hat))
        go_roundg k1
        case measure => have := HK1.out; omega
        case rel => exact ⟨(x6_1), (y147), (wrap64 (x13_1 + 1)), (by first | rfl | (simp; done) | (simp [*]; done)), H', ⟨by have := HK1.out; omega⟩, ⟨by (with_reducible repeat (first | apply Kd.R_alloc | apply Kd.R_drewN | apply Kd.R_drew)); exact HO_6.out⟩, ⟨by (with_reducible repeat (first | apply Kd.R_alloc | apply Kd.R_drewN | apply Kd.R_drew)); exact Kd.R_mono HO149.out (fun _ hk => hk.1)⟩, ⟨by (with_reducible repeat (first | apply Kd.R_alloc | apply Kd.R_drewN | apply Kd.R_drew)); exact Kd.R_mono HO_11.out (fun _ hk => hk.2)⟩, ⟨by repeat (first | (with_reducible first | exact HB.out | apply below_alloc | apply pw_below_drewN | apply below_drew1 | refine below_set ?_ GE143.out) | exact HB.out)⟩⟩
       ·rw [if_neg c14] at H
        exact absurd H (by simp)
     ·rw [if_neg c8] at H
      exact absurd H (by simp)
    ·rw [if_neg c7] at H
     exact absurd H (by simp)
   ·rw [if_neg c6] at H
    have c6b0 : decide (x13_1 < (t139.length : Int)) = false := decide_eq_false c6
    clear c6
    simp only [Option.some.injEq, Prod.mk.injEq] at H
    obtain ⟨rfl, rfl⟩ := H
    go_wp2
    go_ret2
    exact ⟨_, _, by first | rfl | (simp [errW_none, errW_some] <;> rfl) | (simp [*, errW_none, errW_some] <;> rfl), by (with_reducible repeat (first | apply Kd.R_alloc | apply Kd.R_drewN | apply Kd.R_drew)); exact HO_6.out, by (with_reducible repeat (first | apply Kd.R_alloc | apply Kd.R_drewN | apply Kd.R_drew)); exact Kd.R_mono HO_7.out (fun _ hk => trivial), by repeat (first | (with_reducible first | exact HB.out | apply below_alloc | apply pw_below_drewN | apply below_drew1) | exact HB.out)⟩
end Go.Proofs.Ytjegeghigfmkoaa.X
namespace Go.Proofs.Ytjegeghigfmkoaa.X
open Go.RowKit Go.Proofs.YtjegeghigfmkoaaW.PrintWords Go.Proofs.YtjegeghigfmkoaaW.PrintLast Go.Proofs.YtjegeghigfmkoaaW.PrintMore
attribute [local go_sem] max2_int min2_int max_two min_two max_three min_three max_four min_four   -- for this text's walks alone
set_option linter.unusedVariables false
set_option linter.unusedSimpArgs false
mutual
def state_Split.j0 : Nat → List (S70) → Int → Bool → Option ((List (List (S70))))
 | 0, _, _, _ => none
 | k + 1, x0, x1, x14 => if x14 = true then (some ([] : List (List (S70)))) else (if 0 ≤ x1 then (if (x1 : Int).toNat ≤ 11728124029610 then ((window_Sort.f x0).bind fun t302 => (state_Split.l0 k x1 (List.replicate (x1 : Int).toNat []) t302 (t302.length : Int) 0)) else (none)) else (none))
def state_Split.l0 : Nat → Int → List (List (S70)) → List (S70) → Int → Int → Option ((List (List (S70))))
 | 0, _, _, _, _, _ => none
 | k + 1, x1, x5, x18, x19, x20 => if x20 < x19 then (if 0 ≤ x20 then (if x20 < (x18.length : Int) then ((plan_Group.f ((rd_T70 x18 x20).f0)).bind fun t307 => ((plan_Part.f t307 x1).bind fun t308 => (if 0 ≤ t308 then (if t308 < (x5.length : Int) then (if (rd_L6 x5 t308).length < 4398046511104 then (state_Split.l0 k x1 (x5.set (t308 : Int).toNat ((rd_L6 x5 t308) ++ [(⟨(rd_T70 x18 x20).f0, (⟨(rd_T70 x18 x20).f1.f0, (rd_T70 x18 x20).f1.f1⟩ : S68), (rd_T70 x18 x20).f2⟩ : S70)])) x18 x19 (wrap64 (x20 + 1))) else (none)) else (none)) else (none)))) else (none)) else (none)) else (some x5)
end
def state_Split.f (k : Nat) (l0 : List (S70)) (a1 : Int) : Option ((List (List (S70)))) := if a1 < 1 then (state_Split.j0 k l0 a1 true) else (state_Split.j0 k l0 a1 (decide (a1 > 4)))
def state_Split.T8 : Bool × List (List Nat × List Nat) := (true, [([], []), ([], []), ([], []), ([], []), ([2, 3], [2, 3]), ([4], [4]), ([], []), ([6], [6]), ([5, 7], [5, 7]), ([0, 1, 0, 1, 2, 3, 4, 5, 6, 7, 8], [0, 1]), ([9, 8, 8, 0, 1, 2, 3, 4, 5, 6, 7, 8], [8, 9])])
def state_Split.B8 : List Nat := [0, 0, 0, 0, 12, 28, 0, 64, 252, 511, 1023]
theorem state_Split.tab8 : rtab .any (opsOf Try.f33 8) = state_Split.T8 := by kernel_rfl
theorem state_Split.bits8 : waitsOk state_Split.T8.2 state_Split.B8 = true := by kernel_rfl
set_option maxHeartbeats 8000000 in
set_option maxRecDepth 100000 in
theorem state_Split.calls (k : Nat) (A0 : Option Addr) (c0 : Nat) (l0 : List (S70)) (a1 : Int) (r : List (List (S70))) (w : World) (hr0 : Kd.C k70 w A0 l0.length l0) (hc0 : l0.length ≤ c0) (h : state_Split.f k l0 a1 = some r) :
  Calls Try.prog 33 #[.slice A0 l0.length c0, .int .i64 a1] w fun e w' => ∃ v0_ : Value, e = .returned (v0_) ∧ Kd.S (Kd.slice 70 k70) 44 w' w.heap.size (fun _ => True) v0_ r ∧ Below w.heap.size w w' := by
 have hu70 := Try.underlying70
 have HR0 := Aside0.mk hr0
 have HC0 := Aside0.mk hc0
 clear hr0 hc0
 have HB := Aside0.mk (Below.refl w.heap.size w)
 have H : (if a1 < 1 then (state_Split.j0 k l0 a1 true) else (state_Split.j0 k l0 a1 (decide (a1 > 4)))) = some r := h
 clear h
 have HC3 := Aside0.mk H
 clear H
 go_enter Try.func33, Try.ntmps33
 go_upto_region 1 with (fail)
 go_cut [14] (fun v14 wc => ∃ (kq : Nat) (x14_2 : Bool), v14 = .bool x14_2 ∧ Aside0 (state_Split.j0 kq l0 a1 x14_2 = some r) ∧ Aside0 (kq ≤ k) ∧ Aside0 (Below w.heap.size w wc))
 case first =>
  have H := HC3.out
  clear HC3
  by_cases c4 : a1 < 1
  ·rw [if_pos c4] at H
   have c4b0 : decide (a1 < 1) = true := decide_eq_true c4
   clear c4
   (first | rw [c4b0] | (simp only [i64_w, i32_w]; rw [c4b0]) | skip)
   have H' := Aside0.mk H
   clear H
   go_wp2
   go_meet
   case rel => exact ⟨_, (true), (by first | rfl | (simp; done) | (simp [*]; done)), H', ⟨by first | omega | exact Nat.le_refl _⟩, ⟨by repeat (first | (with_reducible first | exact HB.out | apply below_alloc | apply pw_below_drewN | apply below_drew1) | exact HB.out)⟩⟩
  ·rw [if_neg c4] at H
   have c4b0 : decide (a1 < 1) = false := decide_eq_false c4
   clear c4
   (first | rw [c4b0] | (simp only [i64_w, i32_w]; rw [c4b0]) | skip)
   have H' := Aside0.mk H
   clear H
   go_wp2
   go_meet
   case rel => exact ⟨_, (decide (a1 > 4)), (by first | rfl | (simp; done) | (simp [*]; done)), H', ⟨by first | omega | exact Nat.le_refl _⟩, ⟨by repeat (first | (with_reducible first | exact HB.out | apply below_alloc | apply pw_below_drewN | apply below_drew1) | exact HB.out)⟩⟩
 case rest =>
  clear HC3
  try clear p2; try clear c3; try clear c4; try clear c4b0
  obtain ⟨kq, x14_2, rfl, HA, HJ2, HB⟩ := hcut
  cases kq with
  | zero => exact absurd HA.out (by simp [state_Split.j0])
  | succ kj2 =>
   have H := HA.out
   clear HA
   simp only [state_Split.j0] at H
   by_cases c5 : x14_2 = true
   ·subst c5
    have H1 : (some ([] : List (List (S70)))) = some r := by rw [if_pos rfl] at H; exact H
    clear H
    have H := H1
    clear H1
    obtain rfl := Option.some.inj H
    go_wp2
    go_ret
    exact ⟨_, by first | rfl | (simp [errW_none, errW_some] <;> rfl) | (simp [*, errW_none, errW_some] <;> rfl), by first | exact Kd.S_nil _ _ _ _ _ | exact Kd.N_nil _ _ _ _ _ | exact Kd.V_nil _ _ _ _ _ | exact Kd.Q_nil _ _ _ _ _ | exact Kd.R_nil _ _ _ _ _, by repeat (first | (with_reducible first | exact HB.out | apply below_alloc | apply pw_below_drewN | apply below_drew1) | exact HB.out)⟩
   ·replace c5 := Bool.eq_false_iff.mpr c5
    subst c5
    have H1 : (if 0 ≤ a1 then (if (a1 : Int).toNat ≤ 11728124029610 then ((window_Sort.f l0).bind fun t302 => (state_Split.l0 kj2 a1 (List.replicate (a1 : Int).toNat []) t302 (t302.length : Int) 0)) else (none)) else (none)) = some r := by rw [if_neg (show ¬ (false = true) by decide)] at H; exact H
    clear H
    have H := H1
    clear H1
    by_cases c6 : 0 ≤ a1
    ·rw [if_pos c6] at H
     have c6b0 := eq_true c6
     have c6b1 : decide (0 ≤ a1) = true := decide_eq_true c6
     clear c6
     by_cases c7 : (a1 : Int).toNat ≤ 11728124029610
     ·rw [if_pos c7] at H
      have c7b0 := eq_true c7
      have c7b1 : decide ((a1 : Int).toNat ≤ 11728124029610) = true := decide_eq_true c7
      clear c7
      obtain ⟨y299, hy299⟩ : ∃ y_ : List (List (S70)), y_ = (List.replicate (a1 : Int).toNat []) := ⟨_, rfl⟩
      replace H : ((window_Sort.f l0).bind fun t302 => (state_Split.l0 kj2 a1 y299 t302 (t302.length : Int) 0)) = some r := by first | (rw [hy299]; with_reducible exact H) | (have H2_ := (Option.bind_some _ _).symm.trans H; rw [hy299]; with_reducible exact H2_) | (have H2_ := (Option.bind_some _ _).symm.trans H; with_reducible exact H2_) | with_reducible exact H | (rw [hy299]; exact H) | exact H
      have Ny299 := Aside0.mk hy299
      clear hy299
      replace H := Option.bind_eq_some_iff.mp H
      obtain ⟨t302, A80, H⟩ := H
      replace H : (state_Split.l0 kj2 a1 y299 t302 (t302.length : Int) 0) = some r := H
      have A8 := Aside0.mk A80
      clear A80
      have H' := Aside0.mk H
      clear H
      go_wp2_with (first | ((with_reducible refine gate_dst (N := 16) rfl ?_); refine Kd.S_make (Kd.slice 70 k70) _ 44 rfl (N := 16) rfl 78 _ _ rfl a1 rfl rfl Try.underlying78 (.slice none 0 0) 24 info44 rfl (by decide) (by omega) [] (ok := fun _ => True) (okp := fun _ => True) ⟨_, rfl, Kd.R_nil _ _ _ _ _⟩ (fun _ hk => hk) trivial (of_decide_eq_true (by first | (with_reducible assumption) | assumption)) (Nat.le_trans (Nat.mul_le_mul_right _ (of_decide_eq_true (by first | (with_reducible assumption) | assumption) : a1.toNat ≤ 11728124029610)) (by omega)) (Below.refl _ _) (Nat.le_refl _) ?_; intro v300 w9 ho10 hb hg_ hnew_; clear hg_ hnew_; (first | rw [← Ny299.out] at ho10 | (simp only [Int.reduceToNat] at ho10; rw [← Ny299.out] at ho10)); have n0_ := Aside0.mk (Kd.S_lower ho10 (below_size (by repeat (first | (with_reducible first | exact HB.out | apply below_alloc | apply pw_below_drewN | apply below_drew1) | exact HB.out)))); have n1_ := Aside0.mk (below_step (by repeat (first | (with_reducible first | exact HB.out | apply below_alloc | apply pw_below_drewN | apply below_drew1) | exact HB.out)) hb); clear HB; have HO301 := n0_; have HB := n1_; clear n0_ n1_; clear hb ho10) | ((with_reducible refine gate_callee (f := 47) rfl ?_); refine goesL_ (some 18) rfl rfl Try.func47 (by kernel_rfl) rfl #[.slice A0 l0.length c0] rfl (by (try simp only [List.map_toArray, List.map_cons, List.map_nil]); first | done | rfl | (simp only [List.length_drop, List.length_take]; rfl)) ?_; (with_reducible refine (window_Sort.calls _ _ l0 t302 _ ?side1 ?side2 A8.out).mono ?_); (case side1 => repeat (first | exact (Kd.C_below HR0.out HB.out) | (with_reducible refine Kd.C_alloc ?_ _) | (with_reducible refine Kd.C_drewN ?_ _) | (with_reducible refine Kd.C_drew ?_))); (case side2 => exact HC0.out); rintro e w11 ⟨v303, rfl, ho0, hb⟩; refine ⟨_, rfl, ?_⟩; have n0_ := Aside0.mk (Kd.S_elder' (by (with_reducible repeat (first | apply Kd.S_alloc | apply Kd.S_drewN | apply Kd.S_drew)); exact HO301.out) (Kd.R_base ho0) hb); have n1_ := Aside0.mk (Kd.R_lower ho0 (below_size (by repeat (first | (with_reducible first | exact HB.out | apply below_alloc | apply pw_below_drewN | apply below_drew1) | exact HB.out)))); have n2_ := Aside0.mk (below_step (by repeat (first | (with_reducible first | exact HB.out | apply below_alloc | apply pw_below_drewN | apply below_drew1) | exact HB.out)) hb); clear HO301; clear HB; have HO301 := n0_; have HO304 := n1_; have HB := n2_; clear n0_ n1_ n2_; (try clear hb); (try clear hb2); (try clear hk); (try clear hi); (try clear ho0); obtain ⟨Ao12, co12, eo12⟩ := Kd.R_slice HO304.out; subst eo12))
      go_loopg [20] kj2 (fun kq v20 w' => ∃ (x5_2 : List (List (S70))) (x20_2 : Int), v20 = .int .i64 x20_2 ∧ Aside0 (state_Split.l0 kq a1 x5_2 t302 (t302.length : Int) x20_2 = some r) ∧ Aside0 (kq ≤ kj2) ∧ Aside0 (Kd.S (Kd.slice 70 k70) 44 w' w.heap.size (fun k_ => some k_ ≠ ((.slice Ao12 t302.length co12) : Value).ownBlock) v300 x5_2) ∧ Aside0 (Kd.R k70 70 w' w.heap.size (fun _ => True) (.slice Ao12 t302.length co12) t302) ∧ Aside0 (Below w.heap.size w w'))
      case atStart => exact ⟨(y299), (0), (by first | rfl | (simp; done) | (simp [*]; done)), H', ⟨Nat.le_refl _⟩, ⟨by (with_reducible repeat (first | apply Kd.S_alloc | apply Kd.S_drewN | apply Kd.S_drew)); exact Kd.S_mono HO301.out (fun _ hk => hk.2)⟩, ⟨by (with_reducible repeat (first | apply Kd.R_alloc | apply Kd.R_drewN | apply Kd.R_drew)); exact HO304.out⟩, ⟨by repeat (first | (with_reducible first | exact HB.out | apply below_alloc | apply pw_below_drewN | apply below_drew1) | exact HB.out)⟩⟩
      case round =>
       clear H'
       try clear p2; try clear c3; try clear c4; try clear c4b0; try clear c5; try clear c6; try clear c6b0; try clear c6b1; try clear c7; try clear c7b0; try clear c7b1; try clear p2
       obtain ⟨x5_2, x20_2, rfl, HA, HK2, HO_5, HO_18, HB⟩ := hrel
       cases gk with
       | zero => exact absurd HA.out (by simp [state_Split.l0])
       | succ k2 =>
        have H := HA.out
        clear HA
        simp only [state_Split.l0] at H
        by_cases c13 : x20_2 < (t302.length : Int)
        ·rw [if_pos c13] at H
         have c13b0 : decide (x20_2 < (t302.length : Int)) = true := decide_eq_true c13
         clear c13
         by_cases c14 : 0 ≤ x20_2
         ·rw [if_pos c14] at H
          have c14b0 : decide (0 ≤ x20_2) = true := decide_eq_true c14
          clear c14
          by_cases c15 : x20_2 < (t302.length : Int)
          ·rw [if_pos c15] at H
           have c15b0 : decide (x20_2 < (t302.length : Int)) = true := decide_eq_true c15
           clear c15
           replace H := Option.bind_eq_some_iff.mp H
           obtain ⟨t307, A160, H⟩ := H
           replace H : ((plan_Part.f t307 a1).bind fun t308 => (if 0 ≤ t308 then (if t308 < (x5_2.length : Int) then (if (rd_L6 x5_2 t308).length < 4398046511104 then (state_Split.l0 k2 a1 (x5_2.set (t308 : Int).toNat ((rd_L6 x5_2 t308) ++ [(⟨(rd_T70 t302 x20_2).f0, (⟨(rd_T70 t302 x20_2).f1.f0, (rd_T70 t302 x20_2).f1.f1⟩ : S68), (rd_T70 t302 x20_2).f2⟩ : S70)])) t302 (t302.length : Int) (wrap64 (x20_2 + 1))) else (none)) else (none)) else (none))) = some r := H
           have A16 := Aside0.mk A160
           clear A160
           replace H := Option.bind_eq_some_iff.mp H
           obtain ⟨t308, A170, H⟩ := H
           replace H : (if 0 ≤ t308 then (if t308 < (x5_2.length : Int) then (if (rd_L6 x5_2 t308).length < 4398046511104 then (state_Split.l0 k2 a1 (x5_2.set (t308 : Int).toNat ((rd_L6 x5_2 t308) ++ [(⟨(rd_T70 t302 x20_2).f0, (⟨(rd_T70 t302 x20_2).f1.f0, (rd_T70 t302 x20_2).f1.f1⟩ : S68), (rd_T70 t302 x20_2).f2⟩ : S70)])) t302 (t302.length : Int) (wrap64 (x20_2 + 1))) else (none)) else (none)) else (none)) = some r := H
           have A17 := Aside0.mk A170
           clear A170
           by_cases c18 : 0 ≤ t308
           ·rw [if_pos c18] at H
            have c18b0 : decide (0 ≤ t308) = true := decide_eq_true c18
            clear c18
            by_cases c19 : t308 < (x5_2.length : Int)
            ·rw [if_pos c19] at H
             have c19b0 : decide (t308 < (x5_2.length : Int)) = true := decide_eq_true c19
             clear c19
             by_cases c20 : (rd_L6 x5_2 t308).length < 4398046511104
             ·rw [if_pos c20] at H
              have LMc20 := Aside0.mk c20
              clear c20
              obtain ⟨y310, hy310⟩ : ∃ y_ : List (S70), y_ = ((rd_L6 x5_2 t308) ++ [(⟨(rd_T70 t302 x20_2).f0, (⟨(rd_T70 t302 x20_2).f1.f0, (rd_T70 t302 x20_2).f1.f1⟩ : S68), (rd_T70 t302 x20_2).f2⟩ : S70)]) := ⟨_, rfl⟩
              replace H : (state_Split.l0 k2 a1 (x5_2.set (t308 : Int).toNat y310) t302 (t302.length : Int) (wrap64 (x20_2 + 1))) = some r := by first | (rw [hy310]; with_reducible exact H) | (have H2_ := (Option.bind_some _ _).symm.trans H; rw [hy310]; with_reducible exact H2_) | (have H2_ := (Option.bind_some _ _).symm.trans H; with_reducible exact H2_) | with_reducible exact H | (rw [hy310]; exact H) | exact H
              have Ny310 := Aside0.mk hy310
              clear hy310
              obtain ⟨y313, hy313⟩ : ∃ y_ : List (List (S70)), y_ = (x5_2.set (t308 : Int).toNat y310) := ⟨_, rfl⟩
              replace H : (state_Split.l0 k2 a1 y313 t302 (t302.length : Int) (wrap64 (x20_2 + 1))) = some r := by first | (rw [hy313]; with_reducible exact H) | (have H2_ := (Option.bind_some _ _).symm.trans H; rw [hy313]; with_reducible exact H2_) | (have H2_ := (Option.bind_some _ _).symm.trans H; with_reducible exact H2_) | with_reducible exact H | (rw [hy313]; exact H) | exact H
              have Ny313 := Aside0.mk hy313
              clear hy313
              have H' := Aside0.mk H
              clear H
              have p305 : 0 ≤ (x20_2 : Int) := of_decide_eq_true (by first | (with_reducible assumption) | assumption)
              have q305 : x20_2 < (t302.length : Int) := of_decide_eq_true (by first | (with_reducible assumption) | assumption)
              obtain ⟨ad305, e305, hx305_0, hx305_1, hx305_2, hx305_3⟩ := at_T70 (Kd.R_reads' HO_18.out).2.2 x20_2 p305 q305
              cases e305
              replace p305 := eq_true p305
              replace q305 := eq_true q305
              try go_wp2_with (first | ((with_reducible refine gate_dst (N := 7) rfl ?_); refine box_event ?hg (N := 7) ?hd (cs := #[.int .i64 0, .int .i64 0, .int .i64 0, .int .i64 0]) (t := 70) ?hr ?_; (case hd => rfl); (case hg => rfl); (case hr => first | (go_simp; done) | (go_simp; rfl)); intro gb306 hg w22 hbox hb; have n0_ := Aside0.mk (Kd.S_below (Kd.S_elderB (by (with_reducible repeat (first | apply Kd.S_alloc | apply Kd.S_drewN | apply Kd.S_drew)); exact HO_5.out) gb306 (Nat.le_of_eq hg.symm)) hb); have n1_ := Aside0.mk (Kd.R_below (Kd.R_elderB (by (with_reducible repeat (first | apply Kd.R_alloc | apply Kd.R_drewN | apply Kd.R_drew)); exact HO_18.out) gb306 (Nat.le_of_eq hg.symm)) hb); have n2_ := Aside0.mk (below_step (by repeat (first | (with_reducible first | exact HB.out | apply below_alloc | apply pw_below_drewN | apply below_drew1) | exact HB.out)) hb); have n3_ := Aside0.mk (hbox); have n4_ := Aside0.mk ((by rw [hg]; exact (below_size (by repeat (first | (with_reducible first | exact HB.out | apply below_alloc | apply pw_below_drewN | apply below_drew1) | exact HB.out))) : w.heap.size ≤ gb306)); have n5_ := Aside0.mk ((by rw [hg]; exact (below_size (by repeat (first | (with_reducible first | exact HB.out | apply below_alloc | apply pw_below_drewN | apply below_drew1) | exact HB.out))) : w.heap.size ≤ gb306)); clear HO_5; clear HO_18; clear HB; have HO_5 := n0_; have HO_18 := n1_; have HB := n2_; have BK306 := n3_; have GW306 := n4_; have GE306 := n5_; clear n0_ n1_ n2_ n3_ n4_ n5_; clear hb hbox hg; have hcz23_0 : w22.cell? ⟨gb306, 0, none⟩ = some (.int .i64 0) := (blk_cell BK306.out 0).trans rfl; have hcz23_1 : w22.cell? ⟨gb306, 1, none⟩ = some (.int .i64 0) := (blk_cell BK306.out 1).trans rfl; have hcz23_2 : w22.cell? ⟨gb306, 2, none⟩ = some (.int .i64 0) := (blk_cell BK306.out 2).trans rfl; have hcz23_3 : w22.cell? ⟨gb306, 3, none⟩ = some (.int .i64 0) := (blk_cell BK306.out 3).trans rfl; have hfz23_0 := blk_frozen BK306.out 0; have hfz23_1 := blk_frozen BK306.out 1; have hfz23_2 := blk_frozen BK306.out 2; have hfz23_3 := blk_frozen BK306.out 3) | ((with_reducible refine gate_callee (f := 56) rfl ?_); refine goesL_ (some 26) rfl rfl Try.func56 (by kernel_rfl) rfl #[.int .i64 ((rd_T70 t302 x20_2).f0)] rfl (by (try simp only [List.map_toArray, List.map_cons, List.map_nil]); first | done | rfl | (simp only [List.length_drop, List.length_take]; rfl)) ?_; (with_reducible refine (plan_Group.calls ((rd_T70 t302 x20_2).f0) t307 _ A16.out).mono ?_); rintro e w' ⟨rfl, ⟨nd, rfl⟩⟩; refine ⟨_, rfl, ?_⟩) | ((with_reducible refine gate_callee (f := 57) rfl ?_); refine goesL_ (some 28) rfl rfl Try.func57 (by kernel_rfl) rfl #[.int .i64 t307, .int .i64 a1] rfl (by (try simp only [List.map_toArray, List.map_cons, List.map_nil]); first | done | rfl | (simp only [List.length_drop, List.length_take]; rfl)) ?_; (with_reducible refine (plan_Part.calls t307 a1 t308 _ A17.out).mono ?_); rintro e w' ⟨rfl, ⟨nd, rfl⟩⟩; refine ⟨_, rfl, ?_⟩))
              have n0_ : Aside0 (Kd.S (Kd.slice 70 k70) 44 ((((w22.setCell ⟨gb306, 0, none⟩ (.int .i64 ((rd_T70 t302 x20_2).f0))).setCell ⟨gb306, 1, none⟩ (.int .i64 ((rd_T70 t302 x20_2).f1.f0))).setCell ⟨gb306, 2, none⟩ (.int .i64 ((rd_T70 t302 x20_2).f1.f1))).setCell ⟨gb306, 3, none⟩ (.int .i64 ((rd_T70 t302 x20_2).f2))) w.heap.size (fun k_ => some k_ ≠ (.slice (some ad305) t302.length co12 : Value).ownBlock ∧ k_ ≠ gb306) v300 x5_2) := ⟨by (with_reducible repeat (first | apply Kd.S_alloc | apply Kd.S_drewN | apply Kd.S_drew)); exact Kd.S_mono (Kd.S_far (p := ⟨gb306, 3, none⟩) (Kd.S_far (p := ⟨gb306, 2, none⟩) (Kd.S_far (p := ⟨gb306, 1, none⟩) (Kd.S_far (p := ⟨gb306, 0, none⟩) (Kd.S_mono HO_5.out (fun k_ hk => (⟨hk, hk.2⟩ : _ ∧ k_ ≠ gb306))) (fun _ hk => hk.2) (.int .i64 ((rd_T70 t302 x20_2).f0))) (fun _ hk => hk.2) (.int .i64 ((rd_T70 t302 x20_2).f1.f0))) (fun _ hk => hk.2) (.int .i64 ((rd_T70 t302 x20_2).f1.f1))) (fun _ hk => hk.2) (.int .i64 ((rd_T70 t302 x20_2).f2))) (fun _ hk => ⟨hk.1.1, hk.1.2⟩)⟩
              have n1_ : Aside0 (Kd.R k70 70 ((((w22.setCell ⟨gb306, 0, none⟩ (.int .i64 ((rd_T70 t302 x20_2).f0))).setCell ⟨gb306, 1, none⟩ (.int .i64 ((rd_T70 t302 x20_2).f1.f0))).setCell ⟨gb306, 2, none⟩ (.int .i64 ((rd_T70 t302 x20_2).f1.f1))).setCell ⟨gb306, 3, none⟩ (.int .i64 ((rd_T70 t302 x20_2).f2))) w.heap.size (fun k_ => k_ ≠ gb306) (.slice (some ad305) t302.length co12) t302) := ⟨by (with_reducible repeat (first | apply Kd.R_alloc | apply Kd.R_drewN | apply Kd.R_drew)); exact Kd.R_mono (Kd.R_far (p := ⟨gb306, 3, none⟩) (Kd.R_far (p := ⟨gb306, 2, none⟩) (Kd.R_far (p := ⟨gb306, 1, none⟩) (Kd.R_far (p := ⟨gb306, 0, none⟩) (Kd.R_mono HO_18.out (fun k_ hk => (⟨hk, hk.2⟩ : _ ∧ k_ ≠ gb306))) (fun _ hk => hk.2) (.int .i64 ((rd_T70 t302 x20_2).f0))) (fun _ hk => hk.2) (.int .i64 ((rd_T70 t302 x20_2).f1.f0))) (fun _ hk => hk.2) (.int .i64 ((rd_T70 t302 x20_2).f1.f1))) (fun _ hk => hk.2) (.int .i64 ((rd_T70 t302 x20_2).f2))) (fun _ hk => hk.1.2)⟩
              have n2_ : Aside0 (((((w22.setCell ⟨gb306, 0, none⟩ (.int .i64 ((rd_T70 t302 x20_2).f0))).setCell ⟨gb306, 1, none⟩ (.int .i64 ((rd_T70 t302 x20_2).f1.f0))).setCell ⟨gb306, 2, none⟩ (.int .i64 ((rd_T70 t302 x20_2).f1.f1))).setCell ⟨gb306, 3, none⟩ (.int .i64 ((rd_T70 t302 x20_2).f2))).heap[gb306]? = some (.cells #[.int .i64 ((rd_T70 t302 x20_2).f0), .int .i64 ((rd_T70 t302 x20_2).f1.f0), .int .i64 ((rd_T70 t302 x20_2).f1.f1), .int .i64 ((rd_T70 t302 x20_2).f2)] 70 (0, 0))) := ⟨by (with_reducible repeat (first | refine blk_drewN ?_ _ | refine blk_drew ?_ | refine blk_alloc ?_ _)); refine blk_put (cs := #[.int .i64 ((rd_T70 t302 x20_2).f0), .int .i64 ((rd_T70 t302 x20_2).f1.f0), .int .i64 ((rd_T70 t302 x20_2).f1.f1), .int .i64 0]) ?_ 3 _ rfl; (with_reducible repeat (first | refine blk_drewN ?_ _ | refine blk_drew ?_ | refine blk_alloc ?_ _)); refine blk_put (cs := #[.int .i64 ((rd_T70 t302 x20_2).f0), .int .i64 ((rd_T70 t302 x20_2).f1.f0), .int .i64 0, .int .i64 0]) ?_ 2 _ rfl; (with_reducible repeat (first | refine blk_drewN ?_ _ | refine blk_drew ?_ | refine blk_alloc ?_ _)); refine blk_put (cs := #[.int .i64 ((rd_T70 t302 x20_2).f0), .int .i64 0, .int .i64 0, .int .i64 0]) ?_ 1 _ rfl; (with_reducible repeat (first | refine blk_drewN ?_ _ | refine blk_drew ?_ | refine blk_alloc ?_ _)); refine blk_put (cs := #[.int .i64 0, .int .i64 0, .int .i64 0, .int .i64 0]) ?_ 0 _ rfl; (with_reducible repeat (first | refine blk_drewN ?_ _ | refine blk_drew ?_ | refine blk_alloc ?_ _)); exact BK306.out⟩
              have n3_ : Aside0 (Below w.heap.size w ((((w22.setCell ⟨gb306, 0, none⟩ (.int .i64 ((rd_T70 t302 x20_2).f0))).setCell ⟨gb306, 1, none⟩ (.int .i64 ((rd_T70 t302 x20_2).f1.f0))).setCell ⟨gb306, 2, none⟩ (.int .i64 ((rd_T70 t302 x20_2).f1.f1))).setCell ⟨gb306, 3, none⟩ (.int .i64 ((rd_T70 t302 x20_2).f2)))) := ⟨by repeat (first | (with_reducible first | exact HB.out | apply below_alloc | apply pw_below_drewN | apply below_drew1 | refine below_set ?_ GE306.out) | exact HB.out)⟩
              (try clear HO_5)
              (try clear HO_18)
              (try clear BK306)
              (try clear HB)
              generalize ((((w22.setCell ⟨gb306, 0, none⟩ (.int .i64 ((rd_T70 t302 x20_2).f0))).setCell ⟨gb306, 1, none⟩ (.int .i64 ((rd_T70 t302 x20_2).f1.f0))).setCell ⟨gb306, 2, none⟩ (.int .i64 ((rd_T70 t302 x20_2).f1.f1))).setCell ⟨gb306, 3, none⟩ (.int .i64 ((rd_T70 t302 x20_2).f2))) = w24 at n0_ n1_ n2_ n3_ ⊢
              have HO_5 := n0_
              have HO_18 := n1_
              have BK306 := n2_
              have HB := n3_
              clear n0_ n1_ n2_ n3_
              (try (rw [drewN_self w24]; generalize hq_ : World.drewN w24 _ = w24; have n0_ : Aside0 (Kd.R k70 70 w24 w.heap.size (fun k_ => k_ ≠ gb306) (.slice (some ad305) t302.length co12) t302) := ⟨by rw [← hq_]; exact (by (with_reducible repeat (first | apply Kd.R_alloc | apply Kd.R_drewN | apply Kd.R_drew)); exact HO_18.out)⟩; have n1_ : Aside0 (Kd.S (Kd.slice 70 k70) 44 w24 w.heap.size (fun k_ => some k_ ≠ (.slice (some ad305) t302.length co12 : Value).ownBlock ∧ k_ ≠ gb306) v300 x5_2) := ⟨by rw [← hq_]; exact (by (with_reducible repeat (first | apply Kd.S_alloc | apply Kd.S_drewN | apply Kd.S_drew)); exact HO_5.out)⟩; have n2_ : Aside0 (w24.heap[gb306]? = some (.cells #[.int .i64 ((rd_T70 t302 x20_2).f0), .int .i64 ((rd_T70 t302 x20_2).f1.f0), .int .i64 ((rd_T70 t302 x20_2).f1.f1), .int .i64 ((rd_T70 t302 x20_2).f2)] 70 (0, 0))) := ⟨by rw [← hq_]; exact (by (with_reducible repeat (first | refine blk_drewN ?_ _ | refine blk_drew ?_ | refine blk_alloc ?_ _)); exact BK306.out)⟩; have n3_ : Aside0 (Below w.heap.size w w24) := ⟨by rw [← hq_]; exact (by repeat (first | (with_reducible first | exact HB.out | apply below_alloc | apply pw_below_drewN | apply below_drew1 | refine below_set ?_ GE306.out) | exact HB.out))⟩; clear HO_18 HO_5 BK306 HB hq_; have HO_18 := n0_; have HO_5 := n1_; have BK306 := n2_; have HB := n3_; clear n0_ n1_ n2_ n3_))
              have n0_ := Aside0.mk (Kd.S_drew HO_5.out)
              have n1_ := Aside0.mk (Kd.R_drew HO_18.out)
              have n2_ := Aside0.mk (blk_drew BK306.out)
              have n3_ := Aside0.mk (below_drew1 HB.out)
              clear HO_5
              clear HO_18
              clear BK306
              clear HB
              have HO_5 := n0_
              have HO_18 := n1_
              have BK306 := n2_
              have HB := n3_
              clear n0_ n1_ n2_ n3_
              obtain ⟨Ao26, co26, eo26⟩ := Kd.S_slice HO_5.out
              (first | subst eo26 | (injection eo26 with f1_ f2_ f3_; have f4_ := f1_.symm; have f5_ := f3_.symm; clear f1_ f2_ f3_; subst f4_; subst f5_))
              have p309 : 0 ≤ (t308 : Int) := of_decide_eq_true (by first | (with_reducible assumption) | assumption)
              have q309 : t308 < (x5_2.length : Int) := of_decide_eq_true (by first | (with_reducible assumption) | assumption)
              obtain ⟨ad309, A309_0, c309_0, e309, hx309_0, hl309_0, hi309_0⟩ := at_L6 (Kd.S_reads' HO_5.out).2.2 t308 p309 q309
              cases e309
              obtain ⟨ce309, hce309, hMe309, hcc309⟩ := Kd.S_get HO_5.out [] t308 p309 (by first | exact q309 | exact of_decide_eq_true (by first | (with_reducible assumption) | assumption) | (have e_ := (Kd.S_reads' HO_5.out).1; omega))
              obtain ⟨ve309_0, rfl, ge309_0⟩ := hMe309
              have hv309_0 := hcc309 0 _ rfl
              rw [Nat.add_zero, show ((Kd.slice 70 k70)).sz = 1 from rfl, Nat.mul_one] at hv309_0
              replace hv309_0 := Option.some.inj (hv309_0.symm.trans hx309_0)
              rw [hv309_0] at ge309_0
              have HL309_0 := Aside0.mk (show Kd.R k70 70 _ _ _ _ (rd_L6 x5_2 t308) from ge309_0)
              clear hv309_0 ge309_0
              have HX309_0 := Aside0.mk hx309_0
              clear hcc309 hce309
              have HR309_0 := Aside0.mk hi309_0
              have HC309_0 := Aside0.mk hl309_0
              clear hi309_0 hl309_0
              replace p309 := eq_true p309
              replace q309 := eq_true q309
              obtain ⟨go27, co27, eo27, gb27, gl27, cl27, HG27⟩ := Kd.S_form HO_5.out (by have h_ : (t308 : Int) < ((x5_2.length : Int) : Int) := of_decide_eq_true (by first | (with_reducible assumption) | assumption); have h2_ : 0 ≤ (t308 : Int) := (of_decide_eq_true (by first | (with_reducible assumption) | assumption)); omega)
              (first | cases eo27 | (injection eo27 with ea_ en_ ec_; (first | subst ea_ | (injection ea_ with ea_; subst ea_)); subst ec_; clear en_))
              have GB27 := Aside0.mk gb27
              have GG27 := Aside0.mk HG27
              clear gb27 gl27 HG27
              (first | simp only [add_plain] at hx309_0 | skip)
              obtain ⟨oki27, ce27, hcl27, hM27, hcc27, _, _, hH27⟩ := Kd.S_elem HO_5.out [] (t308 : Int) (of_decide_eq_true (by first | (with_reducible assumption) | assumption)) (by have h_ : (t308 : Int) < ((x5_2.length : Int) : Int) := of_decide_eq_true (by first | (with_reducible assumption) | assumption); first | exact h_ | (have e_ := (Kd.S_reads' HO_5.out).1; omega) | simpa using h_)
              obtain ⟨ve27_0, rfl, ge27_0⟩ := hM27
              have hv27 := hcc27 0 _ rfl
              have hX27 := HX309_0.out
              (try simp only [add_plain] at hX27)
              (try simp only [Nat.add_zero] at hv27)
              (try rw [show ((Kd.slice 70 k70)).sz = 1 from rfl, Nat.mul_one] at hv27)
              replace hv27 := Option.some.inj (hv27.symm.trans hX27)
              subst hv27
              clear hX27 hcc27 hcl27
              have UU27 := Aside0.mk (show Kd.R k70 70 _ w.heap.size oki27 (.slice A309_0 (rd_L6 x5_2 t308).length c309_0) (rd_L6 x5_2 t308) from ge27_0)
              have HH27 := Aside0.mk hH27
              have HN27 := Aside0.mk (Kd.S_reads' HO_5.out).1
              clear hH27 ge27_0
              refine start_ (n := 11) (S := fun w' => w'.cell? ⟨gb306, 0, none⟩ = some (.int .i64 ((rd_T70 t302 x20_2).f0)) ∧ w'.cell? ⟨gb306, 1, none⟩ = some (.int .i64 ((rd_T70 t302 x20_2).f1.f0)) ∧ w'.cell? ⟨gb306, 2, none⟩ = some (.int .i64 ((rd_T70 t302 x20_2).f1.f1)) ∧ w'.cell? ⟨gb306, 3, none⟩ = some (.int .i64 ((rd_T70 t302 x20_2).f2)) ∧ w'.cell? ⟨go27, (t308).toNat, none⟩ = some (.slice A309_0 (rd_L6 x5_2 t308).length c309_0)) (ds := [10]) #[false, false, false, false, false, false, false, false, false, false, false] (by kernel_rfl) rfl rfl ⟨(blk_cell BK306.out 0).trans rfl, (blk_cell BK306.out 1).trans rfl, (blk_cell BK306.out 2).trans rfl, (blk_cell BK306.out 3).trans rfl, hx309_0⟩ (fun hHeld => ?_); refine with_tabW state_Split.tab8 state_Split.bits8 (fun HT_ HW_ => ?_)
              generalize w24.drew = w25 at HO_5 HO_18 BK306 HB GG27 HH27 HL309_0 HR309_0 HX309_0 UU27 hx309_0 hHeld ⊢
              refine pure_ (i := 0) (N := some 29) (v := ?_) (a' := ?_) #[true, false, false, false, false, false, false, false, false, false, false] rfl rfl (any_of HT_.out (by kernel_rfl)) (fun _ _ _ h => h) (Or.inl ⟨by rfl, ?_⟩) ?_ ?_
              rotate_left
              ·intro w'
               go_simp
               with_reducible rfl
              rotate_left
              ·simp only [Act.put, List.setIfInBounds_toArray, List.set_cons_zero, List.set_cons_succ, i64_w, i32_w]
               rfl
              refine pure_ (i := 1) (N := some 30) (v := ?_) (a' := ?_) #[true, true, false, false, false, false, false, false, false, false, false] rfl rfl (any_of HT_.out (by kernel_rfl)) (fun _ _ _ h => h) (Or.inl ⟨by rfl, ?_⟩) ?_ ?_
              rotate_left
              ·intro w'
               go_simp
               with_reducible rfl
              rotate_left
              ·simp only [Act.put, List.setIfInBounds_toArray, List.set_cons_zero, List.set_cons_succ, i64_w, i32_w]
               rfl
              refine pure_ (i := 2) (N := some 31) (v := ?_) (a' := ?_) #[true, true, true, false, false, false, false, false, false, false, false] rfl rfl (any_of HT_.out (by kernel_rfl)) (fun _ _ _ h => h) (Or.inl ⟨by rfl, ?_⟩) ?_ ?_
              rotate_left
              ·intro w'
               go_simp
               with_reducible rfl
              rotate_left
              ·simp only [Act.put, List.setIfInBounds_toArray, List.set_cons_zero, List.set_cons_succ, i64_w, i32_w]
               rfl
              refine pure_ (i := 3) (N := some 32) (v := ?_) (a' := ?_) #[true, true, true, true, false, false, false, false, false, false, false] rfl rfl (any_of HT_.out (by kernel_rfl)) (fun _ _ _ h => h) (Or.inl ⟨by rfl, ?_⟩) ?_ ?_
              rotate_left
              ·intro w'
               go_simp
               with_reducible rfl
              rotate_left
              ·simp only [Act.put, List.setIfInBounds_toArray, List.set_cons_zero, List.set_cons_succ, i64_w, i32_w]
               rfl
              refine pure_ (i := 4) (N := some 33) (v := ?_) (a' := ?_) #[true, true, true, true, true, false, false, false, false, false, false] rfl rfl (any_of HT_.out (by kernel_rfl)) (fun _ _ _ h => h) (Or.inl ⟨by rfl, ?_⟩) ?_ ?_
              rotate_left
              ·intro w'
               go_simp
               with_reducible rfl
              rotate_left
              ·simp only [Act.put, List.setIfInBounds_toArray, List.set_cons_zero, List.set_cons_succ, i64_w, i32_w]
               rfl
              refine take_ (i := 5) (N := some 34) (v := ?_) (a' := ?_) #[true, true, true, true, true, true, false, false, false, false, false] rfl rfl (take_ofW HT_.out HW_.out (by kernel_rfl)) (fun _ _ _ h => h) (Or.inl ⟨by rfl, ?_⟩) hHeld ?_ ?_
              rotate_left
              ·rintro w' ⟨s0, s1, s2, s3, s4⟩
               go_simp
               with_reducible rfl
              rotate_left
              ·simp only [Act.put, List.setIfInBounds_toArray, List.set_cons_zero, List.set_cons_succ, i64_w, i32_w]
               rfl
              refine take_ (i := 6) (N := some 35) (v := ?_) (a' := ?_) #[true, true, true, true, true, true, true, false, false, false, false] rfl rfl (take_ofW HT_.out HW_.out (by kernel_rfl)) (fun _ _ _ h => h) (Or.inl ⟨by rfl, ?_⟩) hHeld ?_ ?_
              rotate_left
              ·rintro w' ⟨s0, s1, s2, s3, s4⟩
               go_simp
               with_reducible rfl
              rotate_left
              ·simp only [Act.put, List.setIfInBounds_toArray, List.set_cons_zero, List.set_cons_succ, i64_w, i32_w]
               rfl
              refine one_ (i := 7) (N := some 36) #[true, true, true, true, true, true, true, true, false, false, false] rfl rfl (one_of HT_.out (by kernel_rfl)) (by decide) (fun K hK => ?_)
              refine value_ (w1 := ?_) (v := ?_) (by rfl) rfl ?_ ?_
              rotate_left 2
              ·go_simp
               constructor
               ·rfl
               ·rfl
              refine hK.out _ _ ⟨(blk_cell (blk_alloc BK306.out _) 0).trans rfl, (blk_cell (blk_alloc BK306.out _) 1).trans rfl, (blk_cell (blk_alloc BK306.out _) 2).trans rfl, (blk_cell (blk_alloc BK306.out _) 3).trans rfl, (World.cell?_alloc_lt _ _ _ (World.block_lt_of_cell? _ _ (hHeld.2.2.2.2))).trans (hHeld.2.2.2.2)⟩ (fun hHeld => ?_)
              clear hK K
              refine norm_ (a' := ?_) ?_ ?_
              rotate_left
              ·show Act.put _ (some 36) _ = _
               simp only [Act.put, List.setIfInBounds_toArray, List.set_cons_zero, List.set_cons_succ, i64_w, i32_w]
               rfl
              refine one_ (i := 8) (N := some 37) #[true, true, true, true, true, true, true, true, true, false, false] rfl rfl (one_of HT_.out (by kernel_rfl)) (by decide) (fun K hK => ?_)
              refine Kd.R_append_step k70 (w0 := w) w.heap.size (by rfl) (.tmp 34) (.tmp 36) 44 70 (.agg #[(.int .i64 0), (.int .i64 0), (.int .i64 0), (.int .i64 0)]) 32 rfl Try.underlying44 info70 rfl (by decide) (by omega) (.slice A309_0 (rd_L6 x5_2 t308).length c309_0) (rd_L6 x5_2 t308) (⟨(rd_T70 t302 x20_2).f0, (⟨(rd_T70 t302 x20_2).f1.f0, (rd_T70 t302 x20_2).f1.f1⟩ : S68), (rd_T70 t302 x20_2).f2⟩ : S70) [.int .i64 ((rd_T70 t302 x20_2).f0), .int .i64 ((rd_T70 t302 x20_2).f1.f0), .int .i64 ((rd_T70 t302 x20_2).f1.f1), .int .i64 ((rd_T70 t302 x20_2).f2)] (fun k_ => oki27 k_ ∨ ((fun k_ => some k_ ≠ (.slice (some ad305) t302.length co12 : Value).ownBlock ∧ k_ ≠ gb306)) k_ ∧ w25.heap.size ≤ k_) (fun _ => False) rfl rfl ?aP (fun _ hk => hk.elim) ?aF ?aO ?aB ?aS ?aL ?_
              (case aP => exact k70_mkM _ _ _ (⟨(rd_T70 t302 x20_2).f0, (⟨(rd_T70 t302 x20_2).f1.f0, (rd_T70 t302 x20_2).f1.f1⟩ : S68), (rd_T70 t302 x20_2).f2⟩ : S70))
              (case aB => exact (by repeat (first | (with_reducible first | exact HB.out | apply below_alloc | apply pw_below_drewN | apply below_drew1 | refine below_set ?_ GE306.out) | exact HB.out)))
              (case aF => exact (fun k_ hk => .inr ⟨⟨Kd.fresh' (Kd.R_lt (by (with_reducible repeat (first | apply Kd.R_alloc | apply Kd.R_drewN | apply Kd.R_drew)); exact HO_18.out)) k_ hk, Kd.freshB (g := gb306) (o := .cells #[.int .i64 ((rd_T70 t302 x20_2).f0), .int .i64 ((rd_T70 t302 x20_2).f1.f0), .int .i64 ((rd_T70 t302 x20_2).f1.f1), .int .i64 ((rd_T70 t302 x20_2).f2)] 70 (0, 0)) (by (with_reducible repeat (first | refine blk_drewN ?_ _ | refine blk_drew ?_ | refine blk_alloc ?_ _)); exact BK306.out) k_ hk⟩, hk⟩))
              (case aO => exact (by (with_reducible repeat (first | apply Kd.R_alloc | apply Kd.R_drewN | apply Kd.R_drew)); exact Kd.R_mono UU27.out (fun _ hk => .inl hk)))
              (case aS => exact (below_size (by repeat (first | (with_reducible first | exact HB.out | apply below_alloc | apply pw_below_drewN | apply below_drew1 | refine below_set ?_ GE306.out) | exact HB.out))))
              (case aL => have := LMc20.out; omega)
              intro v311 w28 ho hb hg hat
              (first | have HS4_ := Go.Proofs.YtjegeghigfmkoaaW.PrintWords.cell_grown hg (hHeld.2.2.2.2) (by first | (rw [add_block]; exact (fun e_ => ((HL309_0.out.1 _ e_.symm).2) rfl)) | (show some (Addr.add _ _).block ≠ _; rw [add_block]; exact (fun e_ => ((HL309_0.out.1 _ e_.symm).2) rfl)) | exact (fun e_ => ((HL309_0.out.1 _ e_.symm).2) rfl)) | have HS4_ := Go.Proofs.YtjegeghigfmkoaaW.PrintWords.cell_grown hg (cell_unalloc (hHeld.2.2.2.2) (by first | (rw [add_block]; exact Kd.S_lt HO_5.out _ rfl) | (show (Addr.add _ _).block < _; rw [add_block]; exact Kd.S_lt HO_5.out _ rfl) | exact Kd.S_lt HO_5.out _ rfl)) (by first | (rw [add_block]; exact (fun e_ => ((HL309_0.out.1 _ e_.symm).2) rfl)) | (show some (Addr.add _ _).block ≠ _; rw [add_block]; exact (fun e_ => ((HL309_0.out.1 _ e_.symm).2) rfl)) | exact (fun e_ => ((HL309_0.out.1 _ e_.symm).2) rfl)))
              rw [← Ny310.out] at ho
              have n0_ := Aside0.mk (Kd.R_grown2 (by (with_reducible repeat (first | apply Kd.R_alloc | apply Kd.R_drewN | apply Kd.R_drew)); exact HO_18.out) rfl hg (fun k_ e_ => (HL309_0.out.1 k_ e_).1.1))
              have n1_ := Aside0.mk (blk_grown (g := gb306) (o := .cells #[.int .i64 ((rd_T70 t302 x20_2).f0), .int .i64 ((rd_T70 t302 x20_2).f1.f0), .int .i64 ((rd_T70 t302 x20_2).f1.f1), .int .i64 ((rd_T70 t302 x20_2).f2)] 70 (0, 0)) (by (with_reducible repeat (first | refine blk_drewN ?_ _ | refine blk_drew ?_ | refine blk_alloc ?_ _)); exact BK306.out) hg (Kd.R_away HL309_0.out (fun _ hk => hk.1.2)))
              have n2_ := Aside0.mk (hb)
              have n3_ := Aside0.mk (Kd.H_grown (Kd.H_widen (by repeat (first | exact HH27.out | refine Kd.H_alloc ?_ _ | refine Kd.H_drewN ?_ _ | refine Kd.H_drew ?_))) hg (fun k_ e_ => .inl (UU27.out.1 k_ e_)))
              have n4_ := Aside0.mk (ho)
              clear HO_18
              clear BK306
              clear HB
              clear HH27
              clear HO_5
              clear UU27
              clear HL309_0
              have HO_18 := n0_
              have BK306 := n1_
              have HB := n2_
              have HH27 := n3_
              have HO312 := n4_
              clear n0_ n1_ n2_ n3_ n4_
              clear ho hb hg hat
              have p21 : 0 ≤ (t308 : Int) := of_decide_eq_true (by first | (with_reducible assumption) | assumption)
              have q21 : (t308 : Int) < ((x5_2.length : Int) : Int) := of_decide_eq_true (by first | (with_reducible assumption) | assumption)
              replace p21 := eq_true p21
              replace q21 := eq_true q21
              obtain ⟨Ao31, co31, eo31⟩ := Kd.R_slice HO312.out
              (first | subst eo31 | (injection eo31 with f1_ f2_ f3_; have f4_ := f1_.symm; have f5_ := f3_.symm; clear f1_ f2_ f3_; subst f4_; subst f5_))
              obtain ⟨_, _, hraw29, _, _, hcc29, _⟩ := Kd.H_raw HH27.out (of_decide_eq_true (by first | (with_reducible assumption) | assumption)) (by have h_ : (t308 : Int) < ((x5_2.length : Int) : Int) := of_decide_eq_true (by first | (with_reducible assumption) | assumption); first | exact h_ | (have e_ := (HN27.out); omega) | simpa using h_)
              obtain ⟨_, hfr29⟩ := Kd.H_at HH27.out (of_decide_eq_true (by first | (with_reducible assumption) | assumption)) (by have h_ : (t308 : Int) < ((x5_2.length : Int) : Int) := of_decide_eq_true (by first | (with_reducible assumption) | assumption); first | exact h_ | (have e_ := (HN27.out); omega) | simpa using h_)
              have hx29_0 := hcc29 0 _ rfl
              have hf29_0 := hfr29 0
              (try simp only [Nat.add_zero] at hx29_0 hf29_0)
              (try rw [show ((Kd.slice 70 k70)).sz = 1 from rfl, Nat.mul_one] at hx29_0)
              (try rw [show ((Kd.slice 70 k70)).sz = 1 from rfl, Nat.mul_one] at hf29_0)
              have HP29 := Kd.S_seg0 HH27.out (of_decide_eq_true (by first | (with_reducible assumption) | assumption)) (by have h_ : (t308 : Int) < ((x5_2.length : Int) : Int) := of_decide_eq_true (by first | (with_reducible assumption) | assumption); first | exact h_ | (have e_ := (HN27.out); omega) | simpa using h_) (seg := [.slice Ao31 y310.length co31]) (j := 0) (show 1 ≤ 1 from by decide) (x' := y310) (Kd.M_row HO312.out) (fun _ hk => hk)
              (try simp only [show ((Kd.slice 70 k70)).sz = 1 from rfl, Nat.mul_one, Nat.add_zero] at HP29)
              clear hcc29 hfr29
              have HNB306_go27 := Aside0.mk (show gb306 ≠ go27 from by have h_ := Kd.R_ne hraw29 BK306.out (by decide); intro e_; exact h_ (by rw [e_]; rfl))
              have HS29 := HP29.1
              rw [← Ny313.out] at HS29
              have HQ29 := Aside0.mk HS29
              obtain ⟨_, hgg29⟩ := Kd.R_typed hraw29 go27 rfl
              have GG29_ := Aside0.mk hgg29
              clear HP29 HS29 hgg29
              refine hK.out _ _ ⟨(blk_cell BK306.out 0).trans rfl, (blk_cell BK306.out 1).trans rfl, (blk_cell BK306.out 2).trans rfl, (blk_cell BK306.out 3).trans rfl, HS4_⟩ (fun hHeld => ?_)
              clear hK K
              refine norm_ (a' := ?_) ?_ ?_
              rotate_left
              ·show Act.put _ (some 37) _ = _
               simp only [Act.put, List.setIfInBounds_toArray, List.set_cons_zero, List.set_cons_succ, i64_w, i32_w]
               rfl
              refine pure_ (i := 9) (N := some 38) (v := ?_) (a' := ?_) #[true, true, true, true, true, true, true, true, true, true, false] rfl rfl (any_of HT_.out (by kernel_rfl)) (fun _ _ _ h => h) (Or.inl ⟨by rfl, ?_⟩) ?_ ?_
              rotate_left
              ·intro w'
               go_simp
               with_reducible rfl
              rotate_left
              ·simp only [Act.put, List.setIfInBounds_toArray, List.set_cons_zero, List.set_cons_succ, i64_w, i32_w]
               rfl
              refine last_ (i := 10) (N := none) #[true, true, true, true, true, true, true, true, true, true, true] rfl rfl (one_of HT_.out (by kernel_rfl)) (by decide) (fun K hK => ?_)
              refine skip_ (w1 := ?_) (by rfl) rfl ?_ ?_
              rotate_left
              ·go_simp
               rfl
              refine hK.out _ _ ?_
              clear hK K
              refine done_ (done_of HT_.out (by kernel_rfl)) ?_
              try go_wp2
              go_roundg k2
              case measure => have := HJ2.out; have := HK2.out; omega
              case rel => exact ⟨(y313), (wrap64 (x20_2 + 1)), (by first | rfl | (simp; done) | (simp [*]; done)), H', ⟨by have := HJ2.out; have := HK2.out; omega⟩, ⟨by (with_reducible repeat (first | apply Kd.S_alloc | apply Kd.S_drewN | apply Kd.S_drew)); exact Kd.S_mono HQ29.out (fun _ hk => hk.1)⟩, ⟨by (with_reducible repeat (first | apply Kd.R_alloc | apply Kd.R_drewN | apply Kd.R_drew)); exact Kd.R_mono (Kd.R_far (p := ⟨go27, (t308 : Int).toNat, none⟩) (Kd.R_types HO_18.out GG29_.out (by decide)) (fun _ hk => hk.2) (.slice Ao31 y310.length co31)) (fun _ hk => trivial)⟩, ⟨by repeat (first | (with_reducible first | exact HB.out | apply below_alloc | apply pw_below_drewN | apply below_drew1 | refine below_set ?_ GB27.out | refine below_set ?_ GE306.out) | exact HB.out)⟩⟩
             ·rw [if_neg c20] at H
              exact absurd H (by simp)
            ·rw [if_neg c19] at H
             exact absurd H (by simp)
           ·rw [if_neg c18] at H
            exact absurd H (by simp)
          ·rw [if_neg c15] at H
           exact absurd H (by simp)
         ·rw [if_neg c14] at H
          exact absurd H (by simp)
        ·rw [if_neg c13] at H
         have c13b0 : decide (x20_2 < (t302.length : Int)) = false := decide_eq_false c13
         clear c13
         obtain rfl := Option.some.inj H
         go_wp2
         go_ret
         exact ⟨_, by first | rfl | (simp [errW_none, errW_some] <;> rfl) | (simp [*, errW_none, errW_some] <;> rfl), by (with_reducible repeat (first | apply Kd.S_alloc | apply Kd.S_drewN | apply Kd.S_drew)); exact Kd.S_mono HO_5.out (fun _ hk => trivial), by repeat (first | (with_reducible first | exact HB.out | apply below_alloc | apply pw_below_drewN | apply below_drew1) | exact HB.out)⟩
     ·rw [if_neg c7] at H
      exact absurd H (by simp)
    ·rw [if_neg c6] at H
     exact absurd H (by simp)
end Go.Proofs.Ytjegeghigfmkoaa.X
