/- leatlaw7.ExprLaws: its walk. No conditions but those typed. -/
import Derived.Test.YtdmfakgbiaaacaaDoorMExprLaws11
import Derived.Test.YtdmfakgbiaaacaaDoorMExprLaws8
namespace Go.Proofs.YtdmfakgbiaaacaaDoor.X
open Go.RowKit Go.Lib Go.Proofs Go.Proofs.YtdmfakgbiaaacaaDoorW.PrintWords Go.Proofs.YtdmfakgbiaaacaaDoorW.PrintLast Go.Proofs.YtdmfakgbiaaacaaDoorW.PrintMore Go.Proofs.YtdmfakgbiaaacaaDoor
attribute [local go_sem] max2_int min2_int max_two min_two
set_option linter.unusedVariables false
set_option linter.unusedSimpArgs false
def SM (r0 r1 r2 : Int) (x y : S24) : Prop := ∃ k, sameL.f k x y r0 r1 r2 = some true
structure LF (w W : World) (B : List (Nat × Array Value × TypeId)) (L : List (Option Addr × Nat × Nat × S24)) : Prop where
  bs : ∀ q ∈ B, W.heap[q.1]? = some (.cells q.2.1 q.2.2 (0, 0))
  vs : ∀ q ∈ L, XV W q.1 q.2.1 q.2.2.1 q.2.2.2
  hb : Below w.heap.size w W
theorem LF.step {w W W' : World} {B : List (Nat × Array Value × TypeId)} {L : List (Option Addr × Nat × Nat × S24)} (h : LF w W B L) (hb : Below W.heap.size W W') : LF w W' B L :=
  ⟨fun q hq => blk_below (h.bs q hq) hb, fun q hq => (h.vs q hq).below hb, below_step h.hb hb⟩
theorem LF.add {w W W' : World} {B : List (Nat × Array Value × TypeId)} {L : List (Option Addr × Nat × Nat × S24)} (h : LF w W B L) (hb : Below W.heap.size W W') {q : Option Addr × Nat × Nat × S24} (hx : XV W' q.1 q.2.1 q.2.2.1 q.2.2.2) : LF w W' B (q :: L) :=
  ⟨(h.step hb).bs, fun p hp => by rcases List.mem_cons.1 hp with rfl | hp; exact hx; exact (h.step hb).vs p hp, (h.step hb).hb⟩
theorem LF.also {w W : World} {B : List (Nat × Array Value × TypeId)} {L : List (Option Addr × Nat × Nat × S24)} (h : LF w W B L) {q : Option Addr × Nat × Nat × S24} (hx : XV W q.1 q.2.1 q.2.2.1 q.2.2.2) : LF w W B (q :: L) :=
  ⟨h.bs, fun p hp => by rcases List.mem_cons.1 hp with rfl | hp; exact hx; exact h.vs p hp, h.hb⟩
theorem LF.box {w W : World} {B : List (Nat × Array Value × TypeId)} {L : List (Option Addr × Nat × Nat × S24)} (h : LF w W B L) (cs : Array Value) (t : TypeId) {g : Nat} (hg : W.heap.size = g) : LF w (W.alloc (.cells cs t)) ((g, cs, t) :: B) L := by
  have hb : Below W.heap.size W (W.alloc (.cells cs t)) := below_alloc (Below.refl _ _) _
  refine ⟨fun q hq => ?_, (h.step hb).vs, (h.step hb).hb⟩
  rcases List.mem_cons.1 hq with rfl | hq
  · subst hg; exact blk_new W _
  · exact (h.step hb).bs q hq
theorem LF.less {w W : World} {B B' : List (Nat × Array Value × TypeId)} {L L' : List (Option Addr × Nat × Nat × S24)} (h : LF w W B L) (hB : ∀ q ∈ B', q ∈ B) (hL : ∀ q ∈ L', q ∈ L) : LF w W B' L' := ⟨fun q hq => h.bs q (hB q hq), fun q hq => h.vs q (hL q hq), h.hb⟩
theorem light1 (k : Nat) (x : S24) (A : Option Addr) (n c : Nat) (r : Int) (w : World) (hx : XV w A n c x) (h : leatref7_Light.f k x.f0 x.f1 x.f2 7 5 = some r) :
    Calls Tryd.prog 20 #[.agg #[.int .i64 x.f0, .int .i64 x.f1, .slice A n c], .int .i64 7, .int .i64 5] w fun e w' => e = .returned (.int .i64 r) ∧ Below w.heap.size w w' := by
  obtain ⟨rfl, h1, h2⟩ := hx
  exact leatref7_Light.calls k x.f0 x.f1 A c x.f2 7 5 r w h2 h1 h
theorem check1 (k : Nat) (x : S24) (A : Option Addr) (n c : Nat) (r : Int) (w : World) (hx : XV w A n c x) (h : leatref7_Check.f k x.f0 x.f1 x.f2 = some r) :
    Calls Tryd.prog 10 #[.agg #[.int .i64 x.f0, .int .i64 x.f1, .slice A n c]] w fun e w' => e = .returned (.int .i64 r) ∧ Below w.heap.size w w' := by
  obtain ⟨rfl, h1, h2⟩ := hx
  exact leatref7_Check.calls k x.f0 x.f1 A c x.f2 r w h2 h1 h
def Asked (x : S24) : Prop := ∃ k r, leatref7_Light.f k x.f0 x.f1 x.f2 7 5 = some r ∧ (7 < r ∨ (r ≤ 7 ∧ ∃ t, leatref7_Check.f k x.f0 x.f1 x.f2 = some t ∧ (t = 0 ∨ ¬ t = 0)))
def Pass (x : S24) : Prop := ∃ k r, leatref7_Light.f k x.f0 x.f1 x.f2 7 5 = some r ∧ r ≤ 7 ∧ leatref7_Check.f k x.f0 x.f1 x.f2 = some 0
theorem LF.start {w : World} {a b c : S24} {Aa Ab Ac : Option Addr} {na ca nb cb nc cc : Nat} {r0 r1 r2 : Int} (ha : XV w Aa na ca a) (hb : XV w Ab nb cb b) (hc : XV w Ac nc cc c) :
    LF w ((((w.alloc (.cells #[.int .i64 a.f0, .int .i64 a.f1, .slice Aa na ca] 24)).alloc (.cells #[.int .i64 b.f0, .int .i64 b.f1, .slice Ab nb cb] 24)).alloc (.cells #[.int .i64 c.f0, .int .i64 c.f1, .slice Ac nc cc] 24)).alloc (.cells #[.int .i64 r0, .int .i64 r1, .int .i64 r2] 26))
      [(w.heap.size + 1 + 1 + 1, #[.int .i64 r0, .int .i64 r1, .int .i64 r2], 26), (w.heap.size + 1 + 1, #[.int .i64 c.f0, .int .i64 c.f1, .slice Ac nc cc], 24), (w.heap.size + 1, #[.int .i64 b.f0, .int .i64 b.f1, .slice Ab nb cb], 24), (w.heap.size, #[.int .i64 a.f0, .int .i64 a.f1, .slice Aa na ca], 24)]
      [(Aa, na, ca, a), (Ab, nb, cb, b), (Ac, nc, cc, c)] := by
  have h0 : LF w w [] [(Aa, na, ca, a), (Ab, nb, cb, b), (Ac, nc, cc, c)] := ⟨fun q hq => absurd hq (by simp), fun q hq => by
    simp only [List.mem_cons, List.not_mem_nil, or_false] at hq
    rcases hq with rfl | rfl | rfl
    · exact ha
    · exact hb
    · exact hc, Below.refl _ _⟩
  exact (((h0.box _ 24 rfl).box _ 24 (by simp)).box _ 24 (by simp)).box _ 26 (by simp)
theorem row_c {W : World} {g : Nat} {u0 u1 u2 u3 u4 u5 u6 u7 u8 : Value} (h : W.heap[g]? = some (.cells #[u0, u1, u2, u3, u4, u5, u6, u7, u8] 24 (0, 0))) :
    (W.cell? ⟨g, 0, none⟩ = some u0 ∧ W.cell? ⟨g, 1, none⟩ = some u1 ∧ W.cell? ⟨g, 2, none⟩ = some u2) ∧ (W.cell? ⟨g, 3, none⟩ = some u3 ∧ W.cell? ⟨g, 4, none⟩ = some u4 ∧ W.cell? ⟨g, 5, none⟩ = some u5) ∧ (W.cell? ⟨g, 6, none⟩ = some u6 ∧ W.cell? ⟨g, 7, none⟩ = some u7 ∧ W.cell? ⟨g, 8, none⟩ = some u8) :=
  ⟨⟨(blk_cell h 0).trans rfl, (blk_cell h 1).trans rfl, (blk_cell h 2).trans rfl⟩, ⟨(blk_cell h 3).trans rfl, (blk_cell h 4).trans rfl, (blk_cell h 5).trans rfl⟩, ⟨(blk_cell h 6).trans rfl, (blk_cell h 7).trans rfl, (blk_cell h 8).trans rfl⟩⟩
def BB (n b : Nat) : Array Bool := ((List.range n).map fun i => b.testBit i).toArray
def SC (W : World) (p4 p5 p6 p15 gr : Nat) (a b c : S24) (Aa Ab Ac : Option Addr) (na ca nb cb nc cc : Nat) : Prop :=
  (W.cell? ⟨p4, 0, none⟩ = some (.int .i64 a.f0) ∧ W.cell? ⟨p4, 1, none⟩ = some (.int .i64 a.f1) ∧ W.cell? ⟨p4, 2, none⟩ = some (.slice Aa na ca)) ∧
  (W.cell? ⟨p5, 0, none⟩ = some (.int .i64 b.f0) ∧ W.cell? ⟨p5, 1, none⟩ = some (.int .i64 b.f1) ∧ W.cell? ⟨p5, 2, none⟩ = some (.slice Ab nb cb)) ∧
  (W.cell? ⟨p6, 0, none⟩ = some (.int .i64 c.f0) ∧ W.cell? ⟨p6, 1, none⟩ = some (.int .i64 c.f1) ∧ W.cell? ⟨p6, 2, none⟩ = some (.slice Ac nc cc)) ∧
  (W.cell? ⟨p15, 0, none⟩ = some (.int .i64 14) ∧ W.cell? ⟨p15, 1, none⟩ = some (.int .i64 0) ∧ W.cell? ⟨p15, 2, none⟩ = some (.slice (some ⟨gr, 0, none⟩) 3 3))
theorem goesF_ {P : Program} {ops : Array Oper} {Q : Exit → Act → World → Prop} {oi : Oper} {N : Option Tmp} {a : Act} {w : World} {K : Act → World → Prop} {f : FuncId} {fn : Func} {o : Operand} {os : Array Operand} {ts : Array TypeId} (hf : P.funcs[f]? = some fn) (hname : (fn.name == "runtime.NumGoroutine") = false) (hb : fn.body.isSome = true) (args caps : Array Value)
    (hw : Region.wanted oi (yielded ops a.tmps) = true) (hN : oi.dst = N) (hop : oi.op = .call { callee := .value o, args := os, argTypes := ts }) (hv : a.eval o = .func (.func f) #[] caps) (hargs : os.map a.eval ++ caps = args)
    (h : Calls P f args w fun e w' => ∃ v, e = .returned v ∧ K (a.put N v) w') : if Region.wanted oi (yielded ops a.tmps) = true then Oper.wp P oi a w K Q else K (a.put N undef) w := by
  refine call_ f args hw hN ?_ h
  have he := enters_ hf hname hb args w
  unfold execOp
  simp [hop, resolve, Deferred.ofValue, invoke, hv, hargs, he]
def lawsW.T12 : Bool × List (List Nat × List Nat) := (true, [([], []), ([], []), ([], []), ([], []), ([1, 2, 3], [1, 2, 3]), ([], []), ([], []), ([], []), ([5, 6, 7, 4], [5, 6, 7]), ([0, 4, 8, 8], [0, 4, 8]), ([9, 9], [9]), ([10], [10]), ([10], [10]), ([10], [10]), ([10], [10]), ([12, 13, 14, 10, 10], [10, 12, 13, 14]), ([10], [10]), ([10], [10]), ([10], [10]), ([16, 17, 18, 15, 10], [10, 16, 17, 18]), ([11, 15, 19, 19, 10], [10, 11, 15, 19]), ([10, 20], [10, 20]), ([21, 20], [21]), ([22], [22]), ([22], [22]), ([22], [22]), ([22], [22]), ([22], [22]), ([22], [22]), ([26, 27, 28, 22, 22], [22, 26, 27, 28]), ([24, 25, 29, 29, 22], [22, 24, 25, 29]), ([22], [22]), ([22], [22]), ([22], [22]), ([22], [22]), ([32, 33, 34, 30, 22], [22, 32, 33, 34]), ([22], [22]), ([31, 35, 36, 35, 22], [22, 31, 35, 36]), ([23, 30, 37, 37, 22], [22, 23, 30, 37]), ([22, 38], [22, 38]), ([39, 38], [39]), ([40], [40]), ([40], [40]), ([40], [40]), ([40], [40]), ([40], [40]), ([40], [40]), ([44, 45, 46, 40, 40], [40, 44, 45, 46]), ([42, 43, 47, 47, 40], [40, 42, 43, 47]), ([40], [40]), ([40], [40]), ([40], [40]), ([40], [40]), ([50, 51, 52, 48, 40], [40, 50, 51, 52]), ([40], [40]), ([40], [40]), ([40], [40]), ([54, 55, 56, 53, 40], [40, 54, 55, 56]), ([49, 53, 57, 57, 40], [40, 49, 53, 57]), ([41, 48, 58, 58, 40], [40, 41, 48, 58]), ([40, 59], [40, 59]), ([60, 59], [60]), ([61], [61]), ([61], [61]), ([61], [61]), ([61], [61]), ([63, 64, 65, 61, 61], [61, 63, 64, 65]), ([61], [61]), ([61], [61]), ([61], [61]), ([61], [61]), ([66, 61], [61]), ([69, 70, 71, 71, 61], [61, 69, 70, 71]), ([67, 68, 72, 72, 61], [61, 67, 68, 72]), ([62, 66, 73, 73, 61], [61, 62, 66, 73]), ([61, 74], [61, 74]), ([75, 74], [75]), ([76], [76]), ([76], [76]), ([76], [76]), ([77, 78, 79, 76, 76], [76, 77, 78, 79]), ([76, 80], [76, 80]), ([81, 80], [81]), ([82], [82]), ([82], [82]), ([82], [82]), ([84, 85, 82, 82], [82, 84, 85]), ([86, 82], [82]), ([83, 86, 87, 87, 82], [82, 83, 86, 87]), ([82, 88], [82, 88]), ([89, 88], [89]), ([90], [90]), ([90], [90]), ([90], [90]), ([92, 93, 90, 90], [90, 92, 93]), ([94, 90], [90]), ([91, 94, 95, 95, 90], [90, 91, 94, 95]), ([90, 96], [90, 96]), ([97, 96], [97]), ([98], [98]), ([98], [98]), ([98], [98]), ([98], [98]), ([101, 102, 98, 98], [98, 101, 102]), ([98], [98]), ([98], [98]), ([104, 105, 103, 98], [98, 104, 105]), ([100, 103, 106, 106, 98], [98, 100, 103, 106]), ([98], [98]), ([98], [98]), ([98], [98]), ([108, 109, 110, 107, 98], [98, 108, 109, 110]), ([99, 107, 111, 111, 98], [98, 99, 107, 111]), ([98, 112], [98, 112]), ([113, 112], [113]), ([114], [114]), ([114], [114]), ([114], [114]), ([114], [114]), ([117, 118, 114, 114], [114, 117, 118]), ([114], [114]), ([114], [114]), ([114], [114]), ([121, 122, 119, 114], [114, 121, 122]), ([114], [114]), ([114], [114]), ([124, 125, 123, 114], [114, 124, 125]), ([120, 123, 126, 126, 114], [114, 120, 123, 126]), ([116, 119, 127, 127, 114], [114, 116, 119, 127]), ([128, 114], [114]), ([115, 128, 129, 129, 114], [114, 115, 128, 129]), ([114, 130], [114, 130]), ([131, 130, 0, 1, 2, 3, 4, 5, 6, 7, 8, 9, 10, 11, 12, 13, 14, 15, 16, 17, 18, 19, 20, 21, 22, 23, 24, 25, 26, 27, 28, 29, 30, 31, 32, 33, 34, 35, 36, 37, 38, 39, 40, 41, 42, 43, 44, 45, 46, 47, 48, 49, 50, 51, 52, 53, 54, 55, 56, 57, 58, 59, 60, 61, 62, 63, 64, 65, 66, 67, 68, 69, 70, 71, 72, 73, 74, 75, 76, 77, 78, 79, 80, 81, 82, 83, 84, 85, 86, 87, 88, 89, 90, 91, 92, 93, 94, 95, 96, 97, 98, 99, 100, 101, 102, 103, 104, 105, 106, 107, 108, 109, 110, 111, 112, 113, 114, 115, 116, 117, 118, 119, 120, 121, 122, 123, 124, 125, 126, 127, 128, 129, 130, 131], [131])])
def lawsW.B12 : List Nat := [0, 0, 0, 0, 14, 0, 0, 0, 254, 511, 1023, 2047, 2047, 2047, 2047, 30719, 2047, 2047, 2047, 522239, 1048575, 2097151, 4194303, 8388607, 8388607, 8388607, 8388607, 8388607, 8388607, 478150655, 1065353215, 8388607, 8388607, 8388607, 8388607, 32203866111, 8388607, 137430564863, 274877906943, 549755813887, 1099511627775, 2199023255551, 2199023255551, 2199023255551, 2199023255551, 2199023255551, 2199023255551, 125344325566463, 279275953455103, 2199023255551, 2199023255551, 2199023255551, 2199023255551, 8442050278064127, 2199023255551, 2199023255551, 2199023255551, 143550039099179007, 288228177128456191, 576460752303423487, 1152921504606846975, 2305843009213693951, 4611686018427387903, 4611686018427387903, 4611686018427387903, 4611686018427387903, 69175290276410818559, 4611686018427387903, 4611686018427387903, 4611686018427387903, 4611686018427387903, 142962266571249025023, 4275032939082188587007, 9440121279720863039487, 18889465931478580854783, 37778931862957161709567, 75557863725914323419135, 151115727451828646838271, 151115727451828646838271, 151115727451828646838271, 1208925819614629174706175, 2417851639229258349412351, 4835703278458516698824703, 9671406556917033397649407, 9671406556917033397649407, 9671406556917033397649407, 67699845898419233783545855, 145071098353755500964741119, 309485009821345068724781055, 618970019642690137449562111, 1237940039285380274899124223, 2475880078570760549798248447, 2475880078570760549798248447, 2475880078570760549798248447, 17331160549995323848587739135, 37138201178561408246973726719, 79228162514264337593543950335, 158456325028528675187087900671, 316912650057057350374175801343, 633825300114114700748351602687, 633825300114114700748351602687, 633825300114114700748351602687, 633825300114114700748351602687, 8239728901483491109728570834943, 633825300114114700748351602687, 633825300114114700748351602687, 79228162514264337593543950335999, 161625451529099248690829658685439, 633825300114114700748351602687, 633825300114114700748351602687, 633825300114114700748351602687, 2595514603967299699564499813007359, 5192296858534827628530496329220095, 10384593717069655257060992658440191, 20769187434139310514121985316880383, 41538374868278621028243970633760767, 41538374868278621028243970633760767, 41538374868278621028243970633760767, 41538374868278621028243970633760767, 539998873287622073367171618238889983, 41538374868278621028243970633760767, 41538374868278621028243970633760767, 41538374868278621028243970633760767, 9179980845889575247241917510061129727, 41538374868278621028243970633760767, 41538374868278621028243970633760767, 83616748609844864129855112885760425983, 170016568335864395868602571803982823423, 340240828546070184842346363461134450687, 680523195467008648305720970892902662143, 1361129467683753853853498429727072845823, 2722258935367507707706996859454145691647, 5444517870735015415413993718908291383295]
theorem lawsW.tab12 : rtab .any (opsOf Tryd.f7 12) = lawsW.T12 := by kernel_rfl
theorem lawsW.bits12 : waitsOk lawsW.T12.2 lawsW.B12 = true := by kernel_rfl
set_option maxHeartbeats 40000000 in
set_option maxRecDepth 100000 in
theorem laws0 (a b c : S24) (Aa Ab Ac : Option Addr) (na ca nb cb nc cc : Nat) (r0 r1 r2 : Int) (w : World) (htab : TabW w) (ha : XV w Aa na ca a) (hb : XV w Ab nb cb b) (hc : XV w Ac nc cc c) (sa : Asked a) (sb : Asked b) (sc : Asked c)
    (hS : Pass a → Pass b → Pass c → SM r0 r1 r2 (⟨5, 0, [a, b]⟩ : S24) (⟨5, 0, [b, a]⟩ : S24) ∧ SM r0 r1 r2 (⟨7, 0, [a, b]⟩ : S24) (⟨7, 0, [b, a]⟩ : S24) ∧ SM r0 r1 r2 (⟨5, 0, [a, (⟨5, 0, [b, c]⟩ : S24)]⟩ : S24) (⟨5, 0, [(⟨5, 0, [a, b]⟩ : S24), c]⟩ : S24) ∧ SM r0 r1 r2 (⟨7, 0, [a, (⟨5, 0, [b, c]⟩ : S24)]⟩ : S24) (⟨5, 0, [(⟨7, 0, [a, b]⟩ : S24), (⟨7, 0, [a, c]⟩ : S24)]⟩ : S24) ∧ SM r0 r1 r2 (⟨6, 0, [a, b]⟩ : S24) (⟨5, 0, [a, (⟨7, 0, [b, (⟨1, -1, []⟩ : S24)]⟩ : S24)]⟩ : S24) ∧ SM r0 r1 r2 (⟨14, 0, [c, a, a]⟩ : S24) a ∧ SM r0 r1 r2 (⟨10, 0, [a, a]⟩ : S24) (⟨1, 0, []⟩ : S24) ∧ SM r0 r1 r2 (⟨13, 0, [a, a]⟩ : S24) (⟨1, 1, []⟩ : S24) ∧ SM r0 r1 r2 (⟨5, 0, [(⟨8, 0, [a, b]⟩ : S24), (⟨9, 0, [a, b]⟩ : S24)]⟩ : S24) (⟨5, 0, [a, b]⟩ : S24) ∧ SM r0 r1 r2 (⟨5, 0, [(⟨12, 0, [a, b]⟩ : S24), (⟨5, 0, [(⟨12, 0, [b, a]⟩ : S24), (⟨13, 0, [a, b]⟩ : S24)]⟩ : S24)]⟩ : S24) (⟨1, 1, []⟩ : S24)) :
    Calls Tryd.prog 7 #[.agg #[.int .i64 a.f0, .int .i64 a.f1, .slice Aa na ca], .agg #[.int .i64 b.f0, .int .i64 b.f1, .slice Ab nb cb], .agg #[.int .i64 c.f0, .int .i64 c.f1, .slice Ac nc cc], .agg #[.int .i64 r0, .int .i64 r1, .int .i64 r2]] w fun e w' => e = .returned (.bool true) ∧ Below w.heap.size w w' := by
  have HSS := Aside0.mk hS
  clear hS
  have hu24 := Tryd.underlying24
  have hu26 := Tryd.underlying26
  have HT := Aside0.mk htab
  have HL := Aside0.mk (LF.start (r0 := r0) (r1 := r1) (r2 := r2) ha hb hc)
  have ST0 := Aside0.mk sa
  have ST1 := Aside0.mk sb
  have ST2 := Aside0.mk sc
  clear htab ha hb hc sa sb sc
  go_enter Tryd.func7, Tryd.ntmps7
  go_wp2_with fail
  generalize w.heap.size + 1 + 1 + 1 = p7 at HL ⊢
  generalize w.heap.size + 1 + 1 = p6 at HL ⊢
  generalize w.heap.size + 1 = p5 at HL ⊢
  obtain ⟨p4, hp4⟩ : ∃ p, w.heap.size = p := ⟨_, rfl⟩
  have HP := Aside0.mk hp4
  replace HL := Aside0.mk (HL.out.less (B' := [(p7, #[.int .i64 r0, .int .i64 r1, .int .i64 r2], 26), (p6, #[.int .i64 c.f0, .int .i64 c.f1, .slice Ac nc cc], 24), (p5, #[.int .i64 b.f0, .int .i64 b.f1, .slice Ab nb cb], 24), (p4, #[.int .i64 a.f0, .int .i64 a.f1, .slice Aa na ca], 24)]) (by rw [hp4]; exact fun _ h => h) (fun _ h => h))
  rw [hp4]
  clear hp4
  have HTW := Aside0.mk (HT.out.below HL.out.hb)
  clear HT
  generalize (((w.alloc _).alloc _).alloc _).alloc _ = W0 at HL HTW ⊢
  refine (known0 _ HTW.out).mono ?_
  rintro e_ W1 ⟨rfl, hb⟩
  have HL' := Aside0.mk (HL.out.step hb)
  clear HL hb HTW
  have HL := HL'
  clear HL'
  obtain ⟨f40, f41, f42⟩ := three_c (HL.out.bs (p4, #[.int .i64 a.f0, .int .i64 a.f1, .slice Aa na ca], 24) (by simp))
  obtain ⟨f50, f51, f52⟩ := three_c (HL.out.bs (p5, #[.int .i64 b.f0, .int .i64 b.f1, .slice Ab nb cb], 24) (by simp))
  obtain ⟨f60, f61, f62⟩ := three_c (HL.out.bs (p6, #[.int .i64 c.f0, .int .i64 c.f1, .slice Ac nc cc], 24) (by simp))
  go_wp2_with fail
  clear f40 f41 f42 f50 f51 f52 f60 f61 f62
  have HL' := Aside0.mk (HL.out.box #[.int .i64 a.f0, .int .i64 a.f1, .slice Aa na ca, .int .i64 b.f0, .int .i64 b.f1, .slice Ab nb cb, .int .i64 c.f0, .int .i64 c.f1, .slice Ac nc cc] 24 rfl)
  clear HL
  have HL := HL'
  clear HL'
  generalize W1.heap.size = gw at HL ⊢
  generalize W1.alloc _ = W2 at HL ⊢
  refine wp_loop_rounds 4 ?_
  rw [rounds_succ]
  obtain ⟨⟨f0, f1, f2⟩, ⟨f3, f4, f5⟩, ⟨f6, f7, f8⟩⟩ := row_c (HL.out.bs (gw, #[.int .i64 a.f0, .int .i64 a.f1, .slice Aa na ca, .int .i64 b.f0, .int .i64 b.f1, .slice Ab nb cb, .int .i64 c.f0, .int .i64 c.f1, .slice Ac nc cc], 24) (by simp))
  go_wp2_with fail
  clear f0 f1 f2 f3 f4 f5 f6 f7 f8
  have HL' := Aside0.mk (HL.out.box #[.int .i64 a.f0, .int .i64 a.f1, .slice Aa na ca] 24 rfl)
  clear HL
  have HL := HL'
  clear HL'
  generalize W2.heap.size = gx0 at HL ⊢
  generalize W2.alloc _ = V0 at HL ⊢
  obtain ⟨k_, r_, hl_, hc_⟩ := ST0.out
  clear ST0
  refine (light1 k_ a _ _ _ r_ _ (HL.out.vs (Aa, na, ca, a) (by simp)) hl_).mono ?_
  rintro e_ Wl0 ⟨rfl, hb⟩
  have HL' := Aside0.mk (HL.out.step hb)
  clear HL hb
  have HL := HL'
  clear HL'
  have HLL := Aside0.mk hl_
  clear hl_
  rcases hc_ with hg | ⟨hg, t_, ht_, hz⟩
  · have dg : decide (r_ > 7) = true := decide_eq_true hg
    clear hg
    go_wp2_with fail
    go_ret
    exact ⟨rfl, HL.out.hb⟩
  have dg : decide (r_ > 7) = false := decide_eq_false (by omega)
  have HC := Aside0.mk ht_
  have HG := Aside0.mk hg
  clear hg ht_
  obtain ⟨f0, f1, f2⟩ := three_c (HL.out.bs (gx0, #[.int .i64 a.f0, .int .i64 a.f1, .slice Aa na ca], 24) (by simp))
  go_wp2_with fail
  clear f0 f1 f2
  refine (check1 k_ a _ _ _ t_ _ (HL.out.vs (Aa, na, ca, a) (by simp)) HC.out).mono ?_
  rintro e_ W21 ⟨rfl, hb⟩
  have HL' := Aside0.mk (HL.out.step hb)
  clear HL hb
  have HL := HL'
  clear HL'
  rcases hz with hz | hz
  rotate_left
  · have dz : (t_ != 0) = true := bne_iff_ne.2 hz
    clear hz
    go_wp2_with fail
    go_ret
    exact ⟨rfl, HL.out.hb⟩
  subst hz
  have PS0 : Aside0 (Pass a) := ⟨⟨k_, r_, HLL.out, HG.out, HC.out⟩⟩
  clear HLL HG HC
  go_wp2_with fail
  clear dg
  replace HL := Aside0.mk (HL.out.less (B' := [(gw, #[.int .i64 a.f0, .int .i64 a.f1, .slice Aa na ca, .int .i64 b.f0, .int .i64 b.f1, .slice Ab nb cb, .int .i64 c.f0, .int .i64 c.f1, .slice Ac nc cc], 24), (p7, #[.int .i64 r0, .int .i64 r1, .int .i64 r2], 26), (p6, #[.int .i64 c.f0, .int .i64 c.f1, .slice Ac nc cc], 24), (p5, #[.int .i64 b.f0, .int .i64 b.f1, .slice Ab nb cb], 24), (p4, #[.int .i64 a.f0, .int .i64 a.f1, .slice Aa na ca], 24)]) (fun q h => by simp only [List.mem_cons] at h ⊢; exact Or.inr h) (fun _ h => h))
  rw [rounds_succ]
  obtain ⟨⟨f0, f1, f2⟩, ⟨f3, f4, f5⟩, ⟨f6, f7, f8⟩⟩ := row_c (HL.out.bs (gw, #[.int .i64 a.f0, .int .i64 a.f1, .slice Aa na ca, .int .i64 b.f0, .int .i64 b.f1, .slice Ab nb cb, .int .i64 c.f0, .int .i64 c.f1, .slice Ac nc cc], 24) (by simp))
  go_wp2_with fail
  clear f0 f1 f2 f3 f4 f5 f6 f7 f8
  have HL' := Aside0.mk (HL.out.box #[.int .i64 b.f0, .int .i64 b.f1, .slice Ab nb cb] 24 rfl)
  clear HL
  have HL := HL'
  clear HL'
  generalize W21.heap.size = gx1 at HL ⊢
  generalize W21.alloc _ = V1 at HL ⊢
  obtain ⟨k_, r_, hl_, hc_⟩ := ST1.out
  clear ST1
  refine (light1 k_ b _ _ _ r_ _ (HL.out.vs (Ab, nb, cb, b) (by simp)) hl_).mono ?_
  rintro e_ Wl1 ⟨rfl, hb⟩
  have HL' := Aside0.mk (HL.out.step hb)
  clear HL hb
  have HL := HL'
  clear HL'
  have HLL := Aside0.mk hl_
  clear hl_
  rcases hc_ with hg | ⟨hg, t_, ht_, hz⟩
  · have dg : decide (r_ > 7) = true := decide_eq_true hg
    clear hg
    go_wp2_with fail
    go_ret
    exact ⟨rfl, HL.out.hb⟩
  have dg : decide (r_ > 7) = false := decide_eq_false (by omega)
  have HC := Aside0.mk ht_
  have HG := Aside0.mk hg
  clear hg ht_
  obtain ⟨f0, f1, f2⟩ := three_c (HL.out.bs (gx1, #[.int .i64 b.f0, .int .i64 b.f1, .slice Ab nb cb], 24) (by simp))
  go_wp2_with fail
  clear f0 f1 f2
  refine (check1 k_ b _ _ _ t_ _ (HL.out.vs (Ab, nb, cb, b) (by simp)) HC.out).mono ?_
  rintro e_ W22 ⟨rfl, hb⟩
  have HL' := Aside0.mk (HL.out.step hb)
  clear HL hb
  have HL := HL'
  clear HL'
  rcases hz with hz | hz
  rotate_left
  · have dz : (t_ != 0) = true := bne_iff_ne.2 hz
    clear hz
    go_wp2_with fail
    go_ret
    exact ⟨rfl, HL.out.hb⟩
  subst hz
  have PS1 : Aside0 (Pass b) := ⟨⟨k_, r_, HLL.out, HG.out, HC.out⟩⟩
  clear HLL HG HC
  go_wp2_with fail
  clear dg
  replace HL := Aside0.mk (HL.out.less (B' := [(gw, #[.int .i64 a.f0, .int .i64 a.f1, .slice Aa na ca, .int .i64 b.f0, .int .i64 b.f1, .slice Ab nb cb, .int .i64 c.f0, .int .i64 c.f1, .slice Ac nc cc], 24), (p7, #[.int .i64 r0, .int .i64 r1, .int .i64 r2], 26), (p6, #[.int .i64 c.f0, .int .i64 c.f1, .slice Ac nc cc], 24), (p5, #[.int .i64 b.f0, .int .i64 b.f1, .slice Ab nb cb], 24), (p4, #[.int .i64 a.f0, .int .i64 a.f1, .slice Aa na ca], 24)]) (fun q h => by simp only [List.mem_cons] at h ⊢; exact Or.inr h) (fun _ h => h))
  rw [rounds_succ]
  obtain ⟨⟨f0, f1, f2⟩, ⟨f3, f4, f5⟩, ⟨f6, f7, f8⟩⟩ := row_c (HL.out.bs (gw, #[.int .i64 a.f0, .int .i64 a.f1, .slice Aa na ca, .int .i64 b.f0, .int .i64 b.f1, .slice Ab nb cb, .int .i64 c.f0, .int .i64 c.f1, .slice Ac nc cc], 24) (by simp))
  go_wp2_with fail
  clear f0 f1 f2 f3 f4 f5 f6 f7 f8
  have HL' := Aside0.mk (HL.out.box #[.int .i64 c.f0, .int .i64 c.f1, .slice Ac nc cc] 24 rfl)
  clear HL
  have HL := HL'
  clear HL'
  generalize W22.heap.size = gx2 at HL ⊢
  generalize W22.alloc _ = V2 at HL ⊢
  obtain ⟨k_, r_, hl_, hc_⟩ := ST2.out
  clear ST2
  refine (light1 k_ c _ _ _ r_ _ (HL.out.vs (Ac, nc, cc, c) (by simp)) hl_).mono ?_
  rintro e_ Wl2 ⟨rfl, hb⟩
  have HL' := Aside0.mk (HL.out.step hb)
  clear HL hb
  have HL := HL'
  clear HL'
  have HLL := Aside0.mk hl_
  clear hl_
  rcases hc_ with hg | ⟨hg, t_, ht_, hz⟩
  · have dg : decide (r_ > 7) = true := decide_eq_true hg
    clear hg
    go_wp2_with fail
    go_ret
    exact ⟨rfl, HL.out.hb⟩
  have dg : decide (r_ > 7) = false := decide_eq_false (by omega)
  have HC := Aside0.mk ht_
  have HG := Aside0.mk hg
  clear hg ht_
  obtain ⟨f0, f1, f2⟩ := three_c (HL.out.bs (gx2, #[.int .i64 c.f0, .int .i64 c.f1, .slice Ac nc cc], 24) (by simp))
  go_wp2_with fail
  clear f0 f1 f2
  refine (check1 k_ c _ _ _ t_ _ (HL.out.vs (Ac, nc, cc, c) (by simp)) HC.out).mono ?_
  rintro e_ W23 ⟨rfl, hb⟩
  have HL' := Aside0.mk (HL.out.step hb)
  clear HL hb
  have HL := HL'
  clear HL'
  rcases hz with hz | hz
  rotate_left
  · have dz : (t_ != 0) = true := bne_iff_ne.2 hz
    clear hz
    go_wp2_with fail
    go_ret
    exact ⟨rfl, HL.out.hb⟩
  subst hz
  have PS2 : Aside0 (Pass c) := ⟨⟨k_, r_, HLL.out, HG.out, HC.out⟩⟩
  clear HLL HG HC
  go_wp2_with fail
  clear dg
  replace HL := Aside0.mk (HL.out.less (B' := [(gw, #[.int .i64 a.f0, .int .i64 a.f1, .slice Aa na ca, .int .i64 b.f0, .int .i64 b.f1, .slice Ab nb cb, .int .i64 c.f0, .int .i64 c.f1, .slice Ac nc cc], 24), (p7, #[.int .i64 r0, .int .i64 r1, .int .i64 r2], 26), (p6, #[.int .i64 c.f0, .int .i64 c.f1, .slice Ac nc cc], 24), (p5, #[.int .i64 b.f0, .int .i64 b.f1, .slice Ab nb cb], 24), (p4, #[.int .i64 a.f0, .int .i64 a.f1, .slice Aa na ca], 24)]) (fun q h => by simp only [List.mem_cons] at h ⊢; exact Or.inr h) (fun _ h => h))
  rw [rounds_succ]
  obtain ⟨f40, f41, f42⟩ := three_c (HL.out.bs (p4, #[.int .i64 a.f0, .int .i64 a.f1, .slice Aa na ca], 24) (by simp))
  obtain ⟨f50, f51, f52⟩ := three_c (HL.out.bs (p5, #[.int .i64 b.f0, .int .i64 b.f1, .slice Ab nb cb], 24) (by simp))
  obtain ⟨f60, f61, f62⟩ := three_c (HL.out.bs (p6, #[.int .i64 c.f0, .int .i64 c.f1, .slice Ac nc cc], 24) (by simp))
  go_wp2_with fail
  clear f40 f41 f42 f50 f51 f52 f60 f61 f62
  have HL' := Aside0.mk ((HL.out.box #[.int .i64 c.f0, .int .i64 c.f1, .slice Ac nc cc, .int .i64 a.f0, .int .i64 a.f1, .slice Aa na ca, .int .i64 a.f0, .int .i64 a.f1, .slice Aa na ca] 24 rfl).box #[.int .i64 14, .int .i64 0, .slice (some ⟨W23.heap.size, 0, none⟩) 3 3] 24 (g := W23.heap.size + 1) (by simp))
  clear HL
  have HL := HL'
  clear HL'
  generalize W23.heap.size + 1 = p15 at HL ⊢
  generalize W23.heap.size = gr at HL ⊢
  generalize (W23.alloc _).alloc _ = W3 at HL ⊢
  have HL' := Aside0.mk (HL.out.also (q := ((some ⟨gr, 0, none⟩), 3, 3, (⟨14, 0, [c, a, a]⟩ : S24))) (XV.three (HL.out.vs (Ac, nc, cc, c) (by simp)) (HL.out.vs (Aa, na, ca, a) (by simp)) (HL.out.vs (Aa, na, ca, a) (by simp)) (HL.out.bs (gr, #[.int .i64 c.f0, .int .i64 c.f1, .slice Ac nc cc, .int .i64 a.f0, .int .i64 a.f1, .slice Aa na ca, .int .i64 a.f0, .int .i64 a.f1, .slice Aa na ca], 24) (by simp))))
  clear HL
  have HL := HL'
  clear HL'
  obtain ⟨h1_, h2_, h3_, h4_, h5_, h6_, h7_, h8_, h9_, h10_⟩ := HSS.out PS0.out PS1.out PS2.out
  clear HSS PS0 PS1 PS2
  have HS1 := Aside0.mk h1_
  clear h1_
  have HS2 := Aside0.mk h2_
  clear h2_
  have HS3 := Aside0.mk h3_
  clear h3_
  have HS4 := Aside0.mk h4_
  clear h4_
  have HS5 := Aside0.mk h5_
  clear h5_
  have HS6 := Aside0.mk h6_
  clear h6_
  have HS7 := Aside0.mk h7_
  clear h7_
  have HS8 := Aside0.mk h8_
  clear h8_
  have HS9 := Aside0.mk h9_
  clear h9_
  have HS10 := Aside0.mk h10_
  clear h10_
  refine start_ (n := 133) (S := fun w' => SC w' p4 p5 p6 p15 gr a b c Aa Ab Ac na ca nb cb nc cc) (ds := []) (BB 133 0) (by kernel_rfl) rfl rfl ⟨three_c (HL.out.bs (p4, #[.int .i64 a.f0, .int .i64 a.f1, .slice Aa na ca], 24) (by simp)), three_c (HL.out.bs (p5, #[.int .i64 b.f0, .int .i64 b.f1, .slice Ab nb cb], 24) (by simp)), three_c (HL.out.bs (p6, #[.int .i64 c.f0, .int .i64 c.f1, .slice Ac nc cc], 24) (by simp)), three_c (HL.out.bs (p15, #[.int .i64 14, .int .i64 0, .slice (some ⟨gr, 0, none⟩) 3 3], 24) (by simp))⟩ (fun hHeld => ?_); refine with_tabW lawsW.tab12 lawsW.bits12 (fun HT_ HW_ => ?_)
  have HL' := Aside0.mk (HL.out.step (below_drew1 (Below.refl _ _)))
  clear HL
  have HL := HL'
  clear HL'
  generalize World.drew _ = W4 at HL hHeld ⊢
  refine pure_ (i := 0) (N := some 42) (v := ?_) (a' := ?_) (BB 133 1) rfl rfl (any_of HT_.out (by kernel_rfl)) (fun _ _ _ h => h) (Or.inl ⟨by rfl, ?_⟩) ?_ ?_
  rotate_left
  · intro w'
    go_simp
    with_reducible rfl
  rotate_left
  · simp only [Act.put, List.setIfInBounds_toArray, List.set_cons_zero, List.set_cons_succ, i64_w, i32_w]
    rfl
  refine pure_ (i := 1) (N := some 43) (v := ?_) (a' := ?_) (BB 133 3) rfl rfl (any_of HT_.out (by kernel_rfl)) (fun _ _ _ h => h) (Or.inl ⟨by rfl, ?_⟩) ?_ ?_
  rotate_left
  · intro w'
    go_simp
    with_reducible rfl
  rotate_left
  · simp only [Act.put, List.setIfInBounds_toArray, List.set_cons_zero, List.set_cons_succ, i64_w, i32_w]
    rfl
  refine pure_ (i := 5) (N := some 47) (v := ?_) (a' := ?_) (BB 133 35) rfl rfl (any_of HT_.out (by kernel_rfl)) (fun _ _ _ h => h) (Or.inl ⟨by rfl, ?_⟩) ?_ ?_
  rotate_left
  · intro w'
    go_simp
    with_reducible rfl
  rotate_left
  · simp only [Act.put, List.setIfInBounds_toArray, List.set_cons_zero, List.set_cons_succ, i64_w, i32_w]
    rfl
  refine take_ (i := 2) (N := some 44) (v := ?_) (a' := ?_) (BB 133 39) rfl rfl (take_ofW HT_.out HW_.out (by kernel_rfl)) (fun _ _ _ h => h) (Or.inl ⟨by rfl, ?_⟩) hHeld ?_ ?_
  rotate_left
  · rintro w' ⟨⟨s40, s41, s42⟩, ⟨s50, s51, s52⟩, ⟨s60, s61, s62⟩, ⟨s150, s151, s152⟩⟩
    go_simp
    with_reducible rfl
  rotate_left
  · simp only [Act.put, List.setIfInBounds_toArray, List.set_cons_zero, List.set_cons_succ, i64_w, i32_w]
    rfl
  as_aux_lemma =>
   refine take_ (i := 3) (N := some 45) (v := ?_) (a' := ?_) (BB 133 47) rfl rfl (take_ofW HT_.out HW_.out (by kernel_rfl)) (fun _ _ _ h => h) (Or.inl ⟨by rfl, ?_⟩) hHeld ?_ ?_
   rotate_left
   · rintro w' ⟨⟨s40, s41, s42⟩, ⟨s50, s51, s52⟩, ⟨s60, s61, s62⟩, ⟨s150, s151, s152⟩⟩
     go_simp
     with_reducible rfl
   rotate_left
   · simp only [Act.put, List.setIfInBounds_toArray, List.set_cons_zero, List.set_cons_succ, i64_w, i32_w]
     rfl
   refine take_ (i := 6) (N := some 48) (v := ?_) (a' := ?_) (BB 133 111) rfl rfl (take_ofW HT_.out HW_.out (by kernel_rfl)) (fun _ _ _ h => h) (Or.inl ⟨by rfl, ?_⟩) hHeld ?_ ?_
   rotate_left
   · rintro w' ⟨⟨s40, s41, s42⟩, ⟨s50, s51, s52⟩, ⟨s60, s61, s62⟩, ⟨s150, s151, s152⟩⟩
     go_simp
     with_reducible rfl
   rotate_left
   · simp only [Act.put, List.setIfInBounds_toArray, List.set_cons_zero, List.set_cons_succ, i64_w, i32_w]
     rfl
   refine take_ (i := 7) (N := some 49) (v := ?_) (a' := ?_) (BB 133 239) rfl rfl (take_ofW HT_.out HW_.out (by kernel_rfl)) (fun _ _ _ h => h) (Or.inl ⟨by rfl, ?_⟩) hHeld ?_ ?_
   rotate_left
   · rintro w' ⟨⟨s40, s41, s42⟩, ⟨s50, s51, s52⟩, ⟨s60, s61, s62⟩, ⟨s150, s151, s152⟩⟩
     go_simp
     with_reducible rfl
   rotate_left
   · simp only [Act.put, List.setIfInBounds_toArray, List.set_cons_zero, List.set_cons_succ, i64_w, i32_w]
     rfl
   refine one_ (i := 4) (N := some 46) (BB 133 255) rfl rfl (one_of HT_.out (by kernel_rfl)) (by decide) (fun K hK => ?_)
   refine goes_ Tryd.func17 (by kernel_rfl) rfl #[.int .i64 5, .agg #[.int .i64 a.f0, .int .i64 a.f1, .slice Aa na ca], .agg #[.int .i64 b.f0, .int .i64 b.f1, .slice Ab nb cb]] (by rfl) rfl rfl (by (try simp only [List.map_toArray, List.map_cons, List.map_nil]); first | done | rfl) ?_
   refine (two1 5 a b _ _ _ _ _ _ _ (HL.out.vs (Aa, na, ca, a) (by simp)) (HL.out.vs (Ab, nb, cb, b) (by simp))).mono ?_
   rintro e_ w46 ⟨g46, rfl, hx, hb⟩
   refine ⟨_, rfl, ?_⟩
   have HL' := Aside0.mk (HL.out.add hb (q := ((some ⟨g46, 0, none⟩), 2, 2, (⟨5, 0, [a, b]⟩ : S24))) hx)
   clear HL hx hb
   have HL := HL'
   clear HL'
   refine hK.out _ _ ⟨three_c (HL.out.bs (p4, #[.int .i64 a.f0, .int .i64 a.f1, .slice Aa na ca], 24) (by simp)), three_c (HL.out.bs (p5, #[.int .i64 b.f0, .int .i64 b.f1, .slice Ab nb cb], 24) (by simp)), three_c (HL.out.bs (p6, #[.int .i64 c.f0, .int .i64 c.f1, .slice Ac nc cc], 24) (by simp)), three_c (HL.out.bs (p15, #[.int .i64 14, .int .i64 0, .slice (some ⟨gr, 0, none⟩) 3 3], 24) (by simp))⟩ (fun hHeld => ?_)
   clear hK K
   refine norm_ (a' := ?_) ?_ ?_
   rotate_left
   · show Act.put _ (some 46) _ = _
     simp only [Act.put, List.setIfInBounds_toArray, List.set_cons_zero, List.set_cons_succ, i64_w, i32_w]
     rfl
   refine one_ (i := 8) (N := some 50) (BB 133 511) rfl rfl (one_of HT_.out (by kernel_rfl)) (by decide) (fun K hK => ?_)
   refine goes_ Tryd.func17 (by kernel_rfl) rfl #[.int .i64 5, .agg #[.int .i64 b.f0, .int .i64 b.f1, .slice Ab nb cb], .agg #[.int .i64 a.f0, .int .i64 a.f1, .slice Aa na ca]] (by rfl) rfl rfl (by (try simp only [List.map_toArray, List.map_cons, List.map_nil]); first | done | rfl) ?_
   refine (two1 5 b a _ _ _ _ _ _ _ (HL.out.vs (Ab, nb, cb, b) (by simp)) (HL.out.vs (Aa, na, ca, a) (by simp))).mono ?_
   rintro e_ w50 ⟨g50, rfl, hx, hb⟩
   refine ⟨_, rfl, ?_⟩
   have HL' := Aside0.mk (HL.out.add hb (q := ((some ⟨g50, 0, none⟩), 2, 2, (⟨5, 0, [b, a]⟩ : S24))) hx)
   clear HL hx hb
   have HL := HL'
   clear HL'
   refine hK.out _ _ ⟨three_c (HL.out.bs (p4, #[.int .i64 a.f0, .int .i64 a.f1, .slice Aa na ca], 24) (by simp)), three_c (HL.out.bs (p5, #[.int .i64 b.f0, .int .i64 b.f1, .slice Ab nb cb], 24) (by simp)), three_c (HL.out.bs (p6, #[.int .i64 c.f0, .int .i64 c.f1, .slice Ac nc cc], 24) (by simp)), three_c (HL.out.bs (p15, #[.int .i64 14, .int .i64 0, .slice (some ⟨gr, 0, none⟩) 3 3], 24) (by simp))⟩ (fun hHeld => ?_)
   clear hK K
   refine norm_ (a' := ?_) ?_ ?_
   rotate_left
   · show Act.put _ (some 50) _ = _
     simp only [Act.put, List.setIfInBounds_toArray, List.set_cons_zero, List.set_cons_succ, i64_w, i32_w]
     rfl
   as_aux_lemma =>
    refine one_ (i := 9) (N := some 51) (BB 133 1023) rfl rfl (one_of HT_.out (by kernel_rfl)) (by decide) (fun K hK => ?_)
    refine goesF_ Tryd.func21 (by kernel_rfl) rfl #[.agg #[.int .i64 5, .int .i64 0, .slice (some ⟨g46, 0, none⟩) 2 2], .agg #[.int .i64 5, .int .i64 0, .slice (some ⟨g50, 0, none⟩) 2 2], .pointer (some ⟨p7, 0, none⟩)] #[.pointer (some ⟨p7, 0, none⟩)] (by rfl) rfl rfl (by rfl) (by (try simp only [List.map_toArray, List.map_cons, List.map_nil]); first | done | rfl) ?_
    obtain ⟨k_, hk_⟩ := HS1.out
    refine (same1 k_ (⟨5, 0, [a, b]⟩ : S24) (⟨5, 0, [b, a]⟩ : S24) _ _ _ _ _ _ p7 r0 r1 r2 _ (HL.out.bs (p7, #[.int .i64 r0, .int .i64 r1, .int .i64 r2], 26) (by simp)) (HL.out.vs ((some ⟨g46, 0, none⟩), 2, 2, (⟨5, 0, [a, b]⟩ : S24)) (by simp)) (HL.out.vs ((some ⟨g50, 0, none⟩), 2, 2, (⟨5, 0, [b, a]⟩ : S24)) (by simp)) hk_).mono ?_
    rintro e_ w51 ⟨rfl, hb⟩
    refine ⟨_, rfl, ?_⟩
    clear hk_
    have HL' := Aside0.mk (HL.out.step hb)
    clear HL hb HS1
    have HL := HL'
    clear HL'
    refine hK.out _ _ ⟨three_c (HL.out.bs (p4, #[.int .i64 a.f0, .int .i64 a.f1, .slice Aa na ca], 24) (by simp)), three_c (HL.out.bs (p5, #[.int .i64 b.f0, .int .i64 b.f1, .slice Ab nb cb], 24) (by simp)), three_c (HL.out.bs (p6, #[.int .i64 c.f0, .int .i64 c.f1, .slice Ac nc cc], 24) (by simp)), three_c (HL.out.bs (p15, #[.int .i64 14, .int .i64 0, .slice (some ⟨gr, 0, none⟩) 3 3], 24) (by simp))⟩ (fun hHeld => ?_)
    clear hK K
    refine norm_ (a' := ?_) ?_ ?_
    rotate_left
    · show Act.put _ (some 51) _ = _
      simp only [Act.put, List.setIfInBounds_toArray, List.set_cons_zero, List.set_cons_succ, i64_w, i32_w]
      rfl
    refine pure_ (i := 10) (N := some 52) (v := ?_) (a' := ?_) (BB 133 2047) rfl rfl (any_of HT_.out (by kernel_rfl)) (fun _ _ _ h => h) (Or.inl ⟨by rfl, ?_⟩) ?_ ?_
    rotate_left
    · intro w'
      go_simp
      with_reducible rfl
    rotate_left
    · simp only [Act.put, List.setIfInBounds_toArray, List.set_cons_zero, List.set_cons_succ, i64_w, i32_w]
      rfl
    refine pure_ (i := 11) (N := some 53) (v := ?_) (a' := ?_) (BB 133 4095) rfl rfl (any_of HT_.out (by kernel_rfl)) (fun _ _ _ h => h) (Or.inl ⟨by rfl, ?_⟩) ?_ ?_
    rotate_left
    · intro w'
      go_simp
      with_reducible rfl
    rotate_left
    · simp only [Act.put, List.setIfInBounds_toArray, List.set_cons_zero, List.set_cons_succ, i64_w, i32_w]
      rfl
    refine pure_ (i := 12) (N := some 54) (v := ?_) (a' := ?_) (BB 133 8191) rfl rfl (any_of HT_.out (by kernel_rfl)) (fun _ _ _ h => h) (Or.inl ⟨by rfl, ?_⟩) ?_ ?_
    rotate_left
    · intro w'
      go_simp
      with_reducible rfl
    rotate_left
    · simp only [Act.put, List.setIfInBounds_toArray, List.set_cons_zero, List.set_cons_succ, i64_w, i32_w]
      rfl
    refine pure_ (i := 16) (N := some 58) (v := ?_) (a' := ?_) (BB 133 73727) rfl rfl (any_of HT_.out (by kernel_rfl)) (fun _ _ _ h => h) (Or.inl ⟨by rfl, ?_⟩) ?_ ?_
    rotate_left
    · intro w'
      go_simp
      with_reducible rfl
    rotate_left
    · simp only [Act.put, List.setIfInBounds_toArray, List.set_cons_zero, List.set_cons_succ, i64_w, i32_w]
      rfl
    as_aux_lemma =>
     refine take_ (i := 13) (N := some 55) (v := ?_) (a' := ?_) (BB 133 81919) rfl rfl (take_ofW HT_.out HW_.out (by kernel_rfl)) (fun _ _ _ h => h) (Or.inl ⟨by rfl, ?_⟩) hHeld ?_ ?_
     rotate_left
     · rintro w' ⟨⟨s40, s41, s42⟩, ⟨s50, s51, s52⟩, ⟨s60, s61, s62⟩, ⟨s150, s151, s152⟩⟩
       go_simp
       with_reducible rfl
     rotate_left
     · simp only [Act.put, List.setIfInBounds_toArray, List.set_cons_zero, List.set_cons_succ, i64_w, i32_w]
       rfl
     refine take_ (i := 14) (N := some 56) (v := ?_) (a' := ?_) (BB 133 98303) rfl rfl (take_ofW HT_.out HW_.out (by kernel_rfl)) (fun _ _ _ h => h) (Or.inl ⟨by rfl, ?_⟩) hHeld ?_ ?_
     rotate_left
     · rintro w' ⟨⟨s40, s41, s42⟩, ⟨s50, s51, s52⟩, ⟨s60, s61, s62⟩, ⟨s150, s151, s152⟩⟩
       go_simp
       with_reducible rfl
     rotate_left
     · simp only [Act.put, List.setIfInBounds_toArray, List.set_cons_zero, List.set_cons_succ, i64_w, i32_w]
       rfl
     refine take_ (i := 17) (N := some 59) (v := ?_) (a' := ?_) (BB 133 229375) rfl rfl (take_ofW HT_.out HW_.out (by kernel_rfl)) (fun _ _ _ h => h) (Or.inl ⟨by rfl, ?_⟩) hHeld ?_ ?_
     rotate_left
     · rintro w' ⟨⟨s40, s41, s42⟩, ⟨s50, s51, s52⟩, ⟨s60, s61, s62⟩, ⟨s150, s151, s152⟩⟩
       go_simp
       with_reducible rfl
     rotate_left
     · simp only [Act.put, List.setIfInBounds_toArray, List.set_cons_zero, List.set_cons_succ, i64_w, i32_w]
       rfl
     refine take_ (i := 18) (N := some 60) (v := ?_) (a' := ?_) (BB 133 491519) rfl rfl (take_ofW HT_.out HW_.out (by kernel_rfl)) (fun _ _ _ h => h) (Or.inl ⟨by rfl, ?_⟩) hHeld ?_ ?_
     rotate_left
     · rintro w' ⟨⟨s40, s41, s42⟩, ⟨s50, s51, s52⟩, ⟨s60, s61, s62⟩, ⟨s150, s151, s152⟩⟩
       go_simp
       with_reducible rfl
     rotate_left
     · simp only [Act.put, List.setIfInBounds_toArray, List.set_cons_zero, List.set_cons_succ, i64_w, i32_w]
       rfl
     refine one_ (i := 15) (N := some 57) (BB 133 524287) rfl rfl (one_of HT_.out (by kernel_rfl)) (by decide) (fun K hK => ?_)
     refine goes_ Tryd.func17 (by kernel_rfl) rfl #[.int .i64 7, .agg #[.int .i64 a.f0, .int .i64 a.f1, .slice Aa na ca], .agg #[.int .i64 b.f0, .int .i64 b.f1, .slice Ab nb cb]] (by rfl) rfl rfl (by (try simp only [List.map_toArray, List.map_cons, List.map_nil]); first | done | rfl) ?_
     refine (two1 7 a b _ _ _ _ _ _ _ (HL.out.vs (Aa, na, ca, a) (by simp)) (HL.out.vs (Ab, nb, cb, b) (by simp))).mono ?_
     rintro e_ w57 ⟨g57, rfl, hx, hb⟩
     refine ⟨_, rfl, ?_⟩
     have HL' := Aside0.mk (HL.out.add hb (q := ((some ⟨g57, 0, none⟩), 2, 2, (⟨7, 0, [a, b]⟩ : S24))) hx)
     clear HL hx hb
     have HL := HL'
     clear HL'
     refine hK.out _ _ ⟨three_c (HL.out.bs (p4, #[.int .i64 a.f0, .int .i64 a.f1, .slice Aa na ca], 24) (by simp)), three_c (HL.out.bs (p5, #[.int .i64 b.f0, .int .i64 b.f1, .slice Ab nb cb], 24) (by simp)), three_c (HL.out.bs (p6, #[.int .i64 c.f0, .int .i64 c.f1, .slice Ac nc cc], 24) (by simp)), three_c (HL.out.bs (p15, #[.int .i64 14, .int .i64 0, .slice (some ⟨gr, 0, none⟩) 3 3], 24) (by simp))⟩ (fun hHeld => ?_)
     clear hK K
     refine norm_ (a' := ?_) ?_ ?_
     rotate_left
     · show Act.put _ (some 57) _ = _
       simp only [Act.put, List.setIfInBounds_toArray, List.set_cons_zero, List.set_cons_succ, i64_w, i32_w]
       rfl
     as_aux_lemma =>
      refine one_ (i := 19) (N := some 61) (BB 133 1048575) rfl rfl (one_of HT_.out (by kernel_rfl)) (by decide) (fun K hK => ?_)
      refine goes_ Tryd.func17 (by kernel_rfl) rfl #[.int .i64 7, .agg #[.int .i64 b.f0, .int .i64 b.f1, .slice Ab nb cb], .agg #[.int .i64 a.f0, .int .i64 a.f1, .slice Aa na ca]] (by rfl) rfl rfl (by (try simp only [List.map_toArray, List.map_cons, List.map_nil]); first | done | rfl) ?_
      refine (two1 7 b a _ _ _ _ _ _ _ (HL.out.vs (Ab, nb, cb, b) (by simp)) (HL.out.vs (Aa, na, ca, a) (by simp))).mono ?_
      rintro e_ w61 ⟨g61, rfl, hx, hb⟩
      refine ⟨_, rfl, ?_⟩
      have HL' := Aside0.mk (HL.out.add hb (q := ((some ⟨g61, 0, none⟩), 2, 2, (⟨7, 0, [b, a]⟩ : S24))) hx)
      clear HL hx hb
      have HL := HL'
      clear HL'
      refine hK.out _ _ ⟨three_c (HL.out.bs (p4, #[.int .i64 a.f0, .int .i64 a.f1, .slice Aa na ca], 24) (by simp)), three_c (HL.out.bs (p5, #[.int .i64 b.f0, .int .i64 b.f1, .slice Ab nb cb], 24) (by simp)), three_c (HL.out.bs (p6, #[.int .i64 c.f0, .int .i64 c.f1, .slice Ac nc cc], 24) (by simp)), three_c (HL.out.bs (p15, #[.int .i64 14, .int .i64 0, .slice (some ⟨gr, 0, none⟩) 3 3], 24) (by simp))⟩ (fun hHeld => ?_)
      clear hK K
      refine norm_ (a' := ?_) ?_ ?_
      rotate_left
      · show Act.put _ (some 61) _ = _
        simp only [Act.put, List.setIfInBounds_toArray, List.set_cons_zero, List.set_cons_succ, i64_w, i32_w]
        rfl
      refine one_ (i := 20) (N := some 62) (BB 133 2097151) rfl rfl (one_of HT_.out (by kernel_rfl)) (by decide) (fun K hK => ?_)
      refine goesF_ Tryd.func21 (by kernel_rfl) rfl #[.agg #[.int .i64 7, .int .i64 0, .slice (some ⟨g57, 0, none⟩) 2 2], .agg #[.int .i64 7, .int .i64 0, .slice (some ⟨g61, 0, none⟩) 2 2], .pointer (some ⟨p7, 0, none⟩)] #[.pointer (some ⟨p7, 0, none⟩)] (by rfl) rfl rfl (by rfl) (by (try simp only [List.map_toArray, List.map_cons, List.map_nil]); first | done | rfl) ?_
      obtain ⟨k_, hk_⟩ := HS2.out
      refine (same1 k_ (⟨7, 0, [a, b]⟩ : S24) (⟨7, 0, [b, a]⟩ : S24) _ _ _ _ _ _ p7 r0 r1 r2 _ (HL.out.bs (p7, #[.int .i64 r0, .int .i64 r1, .int .i64 r2], 26) (by simp)) (HL.out.vs ((some ⟨g57, 0, none⟩), 2, 2, (⟨7, 0, [a, b]⟩ : S24)) (by simp)) (HL.out.vs ((some ⟨g61, 0, none⟩), 2, 2, (⟨7, 0, [b, a]⟩ : S24)) (by simp)) hk_).mono ?_
      rintro e_ w62 ⟨rfl, hb⟩
      refine ⟨_, rfl, ?_⟩
      clear hk_
      have HL' := Aside0.mk (HL.out.step hb)
      clear HL hb HS2
      have HL := HL'
      clear HL'
      refine hK.out _ _ ⟨three_c (HL.out.bs (p4, #[.int .i64 a.f0, .int .i64 a.f1, .slice Aa na ca], 24) (by simp)), three_c (HL.out.bs (p5, #[.int .i64 b.f0, .int .i64 b.f1, .slice Ab nb cb], 24) (by simp)), three_c (HL.out.bs (p6, #[.int .i64 c.f0, .int .i64 c.f1, .slice Ac nc cc], 24) (by simp)), three_c (HL.out.bs (p15, #[.int .i64 14, .int .i64 0, .slice (some ⟨gr, 0, none⟩) 3 3], 24) (by simp))⟩ (fun hHeld => ?_)
      clear hK K
      refine norm_ (a' := ?_) ?_ ?_
      rotate_left
      · show Act.put _ (some 62) _ = _
        simp only [Act.put, List.setIfInBounds_toArray, List.set_cons_zero, List.set_cons_succ, i64_w, i32_w]
        rfl
      refine pure_ (i := 21) (N := some 63) (v := ?_) (a' := ?_) (BB 133 4194303) rfl rfl (any_of HT_.out (by kernel_rfl)) (fun _ _ _ h => h) (Or.inl ⟨by rfl, ?_⟩) ?_ ?_
      rotate_left
      · intro w'
        go_simp
        with_reducible rfl
      rotate_left
      · simp only [Act.put, List.setIfInBounds_toArray, List.set_cons_zero, List.set_cons_succ, i64_w, i32_w]
        rfl
      refine pure_ (i := 22) (N := some 64) (v := ?_) (a' := ?_) (BB 133 8388607) rfl rfl (any_of HT_.out (by kernel_rfl)) (fun _ _ _ h => h) (Or.inl ⟨by rfl, ?_⟩) ?_ ?_
      rotate_left
      · intro w'
        go_simp
        with_reducible rfl
      rotate_left
      · simp only [Act.put, List.setIfInBounds_toArray, List.set_cons_zero, List.set_cons_succ, i64_w, i32_w]
        rfl
      refine pure_ (i := 23) (N := some 65) (v := ?_) (a' := ?_) (BB 133 16777215) rfl rfl (any_of HT_.out (by kernel_rfl)) (fun _ _ _ h => h) (Or.inl ⟨by rfl, ?_⟩) ?_ ?_
      rotate_left
      · intro w'
        go_simp
        with_reducible rfl
      rotate_left
      · simp only [Act.put, List.setIfInBounds_toArray, List.set_cons_zero, List.set_cons_succ, i64_w, i32_w]
        rfl
      as_aux_lemma =>
       refine pure_ (i := 24) (N := some 66) (v := ?_) (a' := ?_) (BB 133 33554431) rfl rfl (any_of HT_.out (by kernel_rfl)) (fun _ _ _ h => h) (Or.inl ⟨by rfl, ?_⟩) ?_ ?_
       rotate_left
       · intro w'
         go_simp
         with_reducible rfl
       rotate_left
       · simp only [Act.put, List.setIfInBounds_toArray, List.set_cons_zero, List.set_cons_succ, i64_w, i32_w]
         rfl
       refine pure_ (i := 26) (N := some 68) (v := ?_) (a' := ?_) (BB 133 100663295) rfl rfl (any_of HT_.out (by kernel_rfl)) (fun _ _ _ h => h) (Or.inl ⟨by rfl, ?_⟩) ?_ ?_
       rotate_left
       · intro w'
         go_simp
         with_reducible rfl
       rotate_left
       · simp only [Act.put, List.setIfInBounds_toArray, List.set_cons_zero, List.set_cons_succ, i64_w, i32_w]
         rfl
       refine pure_ (i := 31) (N := some 73) (v := ?_) (a' := ?_) (BB 133 2248146943) rfl rfl (any_of HT_.out (by kernel_rfl)) (fun _ _ _ h => h) (Or.inl ⟨by rfl, ?_⟩) ?_ ?_
       rotate_left
       · intro w'
         go_simp
         with_reducible rfl
       rotate_left
       · simp only [Act.put, List.setIfInBounds_toArray, List.set_cons_zero, List.set_cons_succ, i64_w, i32_w]
         rfl
       refine pure_ (i := 32) (N := some 74) (v := ?_) (a' := ?_) (BB 133 6543114239) rfl rfl (any_of HT_.out (by kernel_rfl)) (fun _ _ _ h => h) (Or.inl ⟨by rfl, ?_⟩) ?_ ?_
       rotate_left
       · intro w'
         go_simp
         with_reducible rfl
       rotate_left
       · simp only [Act.put, List.setIfInBounds_toArray, List.set_cons_zero, List.set_cons_succ, i64_w, i32_w]
         rfl
       refine take_ (i := 25) (N := some 67) (v := ?_) (a' := ?_) (BB 133 6576668671) rfl rfl (take_ofW HT_.out HW_.out (by kernel_rfl)) (fun _ _ _ h => h) (Or.inl ⟨by rfl, ?_⟩) hHeld ?_ ?_
       rotate_left
       · rintro w' ⟨⟨s40, s41, s42⟩, ⟨s50, s51, s52⟩, ⟨s60, s61, s62⟩, ⟨s150, s151, s152⟩⟩
         go_simp
         with_reducible rfl
       rotate_left
       · simp only [Act.put, List.setIfInBounds_toArray, List.set_cons_zero, List.set_cons_succ, i64_w, i32_w]
         rfl
       as_aux_lemma =>
        refine take_ (i := 27) (N := some 69) (v := ?_) (a' := ?_) (BB 133 6710886399) rfl rfl (take_ofW HT_.out HW_.out (by kernel_rfl)) (fun _ _ _ h => h) (Or.inl ⟨by rfl, ?_⟩) hHeld ?_ ?_
        rotate_left
        · rintro w' ⟨⟨s40, s41, s42⟩, ⟨s50, s51, s52⟩, ⟨s60, s61, s62⟩, ⟨s150, s151, s152⟩⟩
          go_simp
          with_reducible rfl
        rotate_left
        · simp only [Act.put, List.setIfInBounds_toArray, List.set_cons_zero, List.set_cons_succ, i64_w, i32_w]
          rfl
        refine take_ (i := 28) (N := some 70) (v := ?_) (a' := ?_) (BB 133 6979321855) rfl rfl (take_ofW HT_.out HW_.out (by kernel_rfl)) (fun _ _ _ h => h) (Or.inl ⟨by rfl, ?_⟩) hHeld ?_ ?_
        rotate_left
        · rintro w' ⟨⟨s40, s41, s42⟩, ⟨s50, s51, s52⟩, ⟨s60, s61, s62⟩, ⟨s150, s151, s152⟩⟩
          go_simp
          with_reducible rfl
        rotate_left
        · simp only [Act.put, List.setIfInBounds_toArray, List.set_cons_zero, List.set_cons_succ, i64_w, i32_w]
          rfl
        refine take_ (i := 33) (N := some 75) (v := ?_) (a' := ?_) (BB 133 15569256447) rfl rfl (take_ofW HT_.out HW_.out (by kernel_rfl)) (fun _ _ _ h => h) (Or.inl ⟨by rfl, ?_⟩) hHeld ?_ ?_
        rotate_left
        · rintro w' ⟨⟨s40, s41, s42⟩, ⟨s50, s51, s52⟩, ⟨s60, s61, s62⟩, ⟨s150, s151, s152⟩⟩
          go_simp
          with_reducible rfl
        rotate_left
        · simp only [Act.put, List.setIfInBounds_toArray, List.set_cons_zero, List.set_cons_succ, i64_w, i32_w]
          rfl
        refine take_ (i := 34) (N := some 76) (v := ?_) (a' := ?_) (BB 133 32749125631) rfl rfl (take_ofW HT_.out HW_.out (by kernel_rfl)) (fun _ _ _ h => h) (Or.inl ⟨by rfl, ?_⟩) hHeld ?_ ?_
        rotate_left
        · rintro w' ⟨⟨s40, s41, s42⟩, ⟨s50, s51, s52⟩, ⟨s60, s61, s62⟩, ⟨s150, s151, s152⟩⟩
          go_simp
          with_reducible rfl
        rotate_left
        · simp only [Act.put, List.setIfInBounds_toArray, List.set_cons_zero, List.set_cons_succ, i64_w, i32_w]
          rfl
        refine take_ (i := 36) (N := some 78) (v := ?_) (a' := ?_) (BB 133 101468602367) rfl rfl (take_ofW HT_.out HW_.out (by kernel_rfl)) (fun _ _ _ h => h) (Or.inl ⟨by rfl, ?_⟩) hHeld ?_ ?_
        rotate_left
        · rintro w' ⟨⟨s40, s41, s42⟩, ⟨s50, s51, s52⟩, ⟨s60, s61, s62⟩, ⟨s150, s151, s152⟩⟩
          go_simp
          with_reducible rfl
        rotate_left
        · simp only [Act.put, List.setIfInBounds_toArray, List.set_cons_zero, List.set_cons_succ, i64_w, i32_w]
          rfl
        as_aux_lemma =>
         refine one_ (i := 29) (N := some 71) (BB 133 102005473279) rfl rfl (one_of HT_.out (by kernel_rfl)) (by decide) (fun K hK => ?_)
         refine goes_ Tryd.func17 (by kernel_rfl) rfl #[.int .i64 5, .agg #[.int .i64 b.f0, .int .i64 b.f1, .slice Ab nb cb], .agg #[.int .i64 c.f0, .int .i64 c.f1, .slice Ac nc cc]] (by rfl) rfl rfl (by (try simp only [List.map_toArray, List.map_cons, List.map_nil]); first | done | rfl) ?_
         refine (two1 5 b c _ _ _ _ _ _ _ (HL.out.vs (Ab, nb, cb, b) (by simp)) (HL.out.vs (Ac, nc, cc, c) (by simp))).mono ?_
         rintro e_ w71 ⟨g71, rfl, hx, hb⟩
         refine ⟨_, rfl, ?_⟩
         have HL' := Aside0.mk (HL.out.add hb (q := ((some ⟨g71, 0, none⟩), 2, 2, (⟨5, 0, [b, c]⟩ : S24))) hx)
         clear HL hx hb
         have HL := HL'
         clear HL'
         refine hK.out _ _ ⟨three_c (HL.out.bs (p4, #[.int .i64 a.f0, .int .i64 a.f1, .slice Aa na ca], 24) (by simp)), three_c (HL.out.bs (p5, #[.int .i64 b.f0, .int .i64 b.f1, .slice Ab nb cb], 24) (by simp)), three_c (HL.out.bs (p6, #[.int .i64 c.f0, .int .i64 c.f1, .slice Ac nc cc], 24) (by simp)), three_c (HL.out.bs (p15, #[.int .i64 14, .int .i64 0, .slice (some ⟨gr, 0, none⟩) 3 3], 24) (by simp))⟩ (fun hHeld => ?_)
         clear hK K
         refine norm_ (a' := ?_) ?_ ?_
         rotate_left
         · show Act.put _ (some 71) _ = _
           simp only [Act.put, List.setIfInBounds_toArray, List.set_cons_zero, List.set_cons_succ, i64_w, i32_w]
           rfl
         refine one_ (i := 30) (N := some 72) (BB 133 103079215103) rfl rfl (one_of HT_.out (by kernel_rfl)) (by decide) (fun K hK => ?_)
         refine goes_ Tryd.func17 (by kernel_rfl) rfl #[.int .i64 5, .agg #[.int .i64 a.f0, .int .i64 a.f1, .slice Aa na ca], .agg #[.int .i64 5, .int .i64 0, .slice (some ⟨g71, 0, none⟩) 2 2]] (by rfl) rfl rfl (by (try simp only [List.map_toArray, List.map_cons, List.map_nil]); first | done | rfl) ?_
         refine (two1 5 a (⟨5, 0, [b, c]⟩ : S24) _ _ _ _ _ _ _ (HL.out.vs (Aa, na, ca, a) (by simp)) (HL.out.vs ((some ⟨g71, 0, none⟩), 2, 2, (⟨5, 0, [b, c]⟩ : S24)) (by simp))).mono ?_
         rintro e_ w72 ⟨g72, rfl, hx, hb⟩
         refine ⟨_, rfl, ?_⟩
         have HL' := Aside0.mk (HL.out.add hb (q := ((some ⟨g72, 0, none⟩), 2, 2, (⟨5, 0, [a, (⟨5, 0, [b, c]⟩ : S24)]⟩ : S24))) hx)
         clear HL hx hb
         have HL := HL'
         clear HL'
         refine hK.out _ _ ⟨three_c (HL.out.bs (p4, #[.int .i64 a.f0, .int .i64 a.f1, .slice Aa na ca], 24) (by simp)), three_c (HL.out.bs (p5, #[.int .i64 b.f0, .int .i64 b.f1, .slice Ab nb cb], 24) (by simp)), three_c (HL.out.bs (p6, #[.int .i64 c.f0, .int .i64 c.f1, .slice Ac nc cc], 24) (by simp)), three_c (HL.out.bs (p15, #[.int .i64 14, .int .i64 0, .slice (some ⟨gr, 0, none⟩) 3 3], 24) (by simp))⟩ (fun hHeld => ?_)
         clear hK K
         refine norm_ (a' := ?_) ?_ ?_
         rotate_left
         · show Act.put _ (some 72) _ = _
           simp only [Act.put, List.setIfInBounds_toArray, List.set_cons_zero, List.set_cons_succ, i64_w, i32_w]
           rfl
         refine one_ (i := 35) (N := some 77) (BB 133 137438953471) rfl rfl (one_of HT_.out (by kernel_rfl)) (by decide) (fun K hK => ?_)
         refine goes_ Tryd.func17 (by kernel_rfl) rfl #[.int .i64 5, .agg #[.int .i64 a.f0, .int .i64 a.f1, .slice Aa na ca], .agg #[.int .i64 b.f0, .int .i64 b.f1, .slice Ab nb cb]] (by rfl) rfl rfl (by (try simp only [List.map_toArray, List.map_cons, List.map_nil]); first | done | rfl) ?_
         refine (two1 5 a b _ _ _ _ _ _ _ (HL.out.vs (Aa, na, ca, a) (by simp)) (HL.out.vs (Ab, nb, cb, b) (by simp))).mono ?_
         rintro e_ w77 ⟨g77, rfl, hx, hb⟩
         refine ⟨_, rfl, ?_⟩
         have HL' := Aside0.mk (HL.out.add hb (q := ((some ⟨g77, 0, none⟩), 2, 2, (⟨5, 0, [a, b]⟩ : S24))) hx)
         clear HL hx hb
         have HL := HL'
         clear HL'
         refine hK.out _ _ ⟨three_c (HL.out.bs (p4, #[.int .i64 a.f0, .int .i64 a.f1, .slice Aa na ca], 24) (by simp)), three_c (HL.out.bs (p5, #[.int .i64 b.f0, .int .i64 b.f1, .slice Ab nb cb], 24) (by simp)), three_c (HL.out.bs (p6, #[.int .i64 c.f0, .int .i64 c.f1, .slice Ac nc cc], 24) (by simp)), three_c (HL.out.bs (p15, #[.int .i64 14, .int .i64 0, .slice (some ⟨gr, 0, none⟩) 3 3], 24) (by simp))⟩ (fun hHeld => ?_)
         clear hK K
         refine norm_ (a' := ?_) ?_ ?_
         rotate_left
         · show Act.put _ (some 77) _ = _
           simp only [Act.put, List.setIfInBounds_toArray, List.set_cons_zero, List.set_cons_succ, i64_w, i32_w]
           rfl
         refine one_ (i := 37) (N := some 79) (BB 133 274877906943) rfl rfl (one_of HT_.out (by kernel_rfl)) (by decide) (fun K hK => ?_)
         refine goes_ Tryd.func17 (by kernel_rfl) rfl #[.int .i64 5, .agg #[.int .i64 5, .int .i64 0, .slice (some ⟨g77, 0, none⟩) 2 2], .agg #[.int .i64 c.f0, .int .i64 c.f1, .slice Ac nc cc]] (by rfl) rfl rfl (by (try simp only [List.map_toArray, List.map_cons, List.map_nil]); first | done | rfl) ?_
         refine (two1 5 (⟨5, 0, [a, b]⟩ : S24) c _ _ _ _ _ _ _ (HL.out.vs ((some ⟨g77, 0, none⟩), 2, 2, (⟨5, 0, [a, b]⟩ : S24)) (by simp)) (HL.out.vs (Ac, nc, cc, c) (by simp))).mono ?_
         rintro e_ w79 ⟨g79, rfl, hx, hb⟩
         refine ⟨_, rfl, ?_⟩
         have HL' := Aside0.mk (HL.out.add hb (q := ((some ⟨g79, 0, none⟩), 2, 2, (⟨5, 0, [(⟨5, 0, [a, b]⟩ : S24), c]⟩ : S24))) hx)
         clear HL hx hb
         have HL := HL'
         clear HL'
         refine hK.out _ _ ⟨three_c (HL.out.bs (p4, #[.int .i64 a.f0, .int .i64 a.f1, .slice Aa na ca], 24) (by simp)), three_c (HL.out.bs (p5, #[.int .i64 b.f0, .int .i64 b.f1, .slice Ab nb cb], 24) (by simp)), three_c (HL.out.bs (p6, #[.int .i64 c.f0, .int .i64 c.f1, .slice Ac nc cc], 24) (by simp)), three_c (HL.out.bs (p15, #[.int .i64 14, .int .i64 0, .slice (some ⟨gr, 0, none⟩) 3 3], 24) (by simp))⟩ (fun hHeld => ?_)
         clear hK K
         refine norm_ (a' := ?_) ?_ ?_
         rotate_left
         · show Act.put _ (some 79) _ = _
           simp only [Act.put, List.setIfInBounds_toArray, List.set_cons_zero, List.set_cons_succ, i64_w, i32_w]
           rfl
         refine one_ (i := 38) (N := some 80) (BB 133 549755813887) rfl rfl (one_of HT_.out (by kernel_rfl)) (by decide) (fun K hK => ?_)
         refine goesF_ Tryd.func21 (by kernel_rfl) rfl #[.agg #[.int .i64 5, .int .i64 0, .slice (some ⟨g72, 0, none⟩) 2 2], .agg #[.int .i64 5, .int .i64 0, .slice (some ⟨g79, 0, none⟩) 2 2], .pointer (some ⟨p7, 0, none⟩)] #[.pointer (some ⟨p7, 0, none⟩)] (by rfl) rfl rfl (by rfl) (by (try simp only [List.map_toArray, List.map_cons, List.map_nil]); first | done | rfl) ?_
         obtain ⟨k_, hk_⟩ := HS3.out
         refine (same1 k_ (⟨5, 0, [a, (⟨5, 0, [b, c]⟩ : S24)]⟩ : S24) (⟨5, 0, [(⟨5, 0, [a, b]⟩ : S24), c]⟩ : S24) _ _ _ _ _ _ p7 r0 r1 r2 _ (HL.out.bs (p7, #[.int .i64 r0, .int .i64 r1, .int .i64 r2], 26) (by simp)) (HL.out.vs ((some ⟨g72, 0, none⟩), 2, 2, (⟨5, 0, [a, (⟨5, 0, [b, c]⟩ : S24)]⟩ : S24)) (by simp)) (HL.out.vs ((some ⟨g79, 0, none⟩), 2, 2, (⟨5, 0, [(⟨5, 0, [a, b]⟩ : S24), c]⟩ : S24)) (by simp)) hk_).mono ?_
         rintro e_ w80 ⟨rfl, hb⟩
         refine ⟨_, rfl, ?_⟩
         clear hk_
         have HL' := Aside0.mk (HL.out.step hb)
         clear HL hb HS3
         have HL := HL'
         clear HL'
         refine hK.out _ _ ⟨three_c (HL.out.bs (p4, #[.int .i64 a.f0, .int .i64 a.f1, .slice Aa na ca], 24) (by simp)), three_c (HL.out.bs (p5, #[.int .i64 b.f0, .int .i64 b.f1, .slice Ab nb cb], 24) (by simp)), three_c (HL.out.bs (p6, #[.int .i64 c.f0, .int .i64 c.f1, .slice Ac nc cc], 24) (by simp)), three_c (HL.out.bs (p15, #[.int .i64 14, .int .i64 0, .slice (some ⟨gr, 0, none⟩) 3 3], 24) (by simp))⟩ (fun hHeld => ?_)
         clear hK K
         refine norm_ (a' := ?_) ?_ ?_
         rotate_left
         · show Act.put _ (some 80) _ = _
           simp only [Act.put, List.setIfInBounds_toArray, List.set_cons_zero, List.set_cons_succ, i64_w, i32_w]
           rfl
         as_aux_lemma =>
          refine pure_ (i := 39) (N := some 81) (v := ?_) (a' := ?_) (BB 133 1099511627775) rfl rfl (any_of HT_.out (by kernel_rfl)) (fun _ _ _ h => h) (Or.inl ⟨by rfl, ?_⟩) ?_ ?_
          rotate_left
          · intro w'
            go_simp
            with_reducible rfl
          rotate_left
          · simp only [Act.put, List.setIfInBounds_toArray, List.set_cons_zero, List.set_cons_succ, i64_w, i32_w]
            rfl
          refine pure_ (i := 40) (N := some 82) (v := ?_) (a' := ?_) (BB 133 2199023255551) rfl rfl (any_of HT_.out (by kernel_rfl)) (fun _ _ _ h => h) (Or.inl ⟨by rfl, ?_⟩) ?_ ?_
          rotate_left
          · intro w'
            go_simp
            with_reducible rfl
          rotate_left
          · simp only [Act.put, List.setIfInBounds_toArray, List.set_cons_zero, List.set_cons_succ, i64_w, i32_w]
            rfl
          refine pure_ (i := 41) (N := some 83) (v := ?_) (a' := ?_) (BB 133 4398046511103) rfl rfl (any_of HT_.out (by kernel_rfl)) (fun _ _ _ h => h) (Or.inl ⟨by rfl, ?_⟩) ?_ ?_
          rotate_left
          · intro w'
            go_simp
            with_reducible rfl
          rotate_left
          · simp only [Act.put, List.setIfInBounds_toArray, List.set_cons_zero, List.set_cons_succ, i64_w, i32_w]
            rfl
          refine pure_ (i := 42) (N := some 84) (v := ?_) (a' := ?_) (BB 133 8796093022207) rfl rfl (any_of HT_.out (by kernel_rfl)) (fun _ _ _ h => h) (Or.inl ⟨by rfl, ?_⟩) ?_ ?_
          rotate_left
          · intro w'
            go_simp
            with_reducible rfl
          rotate_left
          · simp only [Act.put, List.setIfInBounds_toArray, List.set_cons_zero, List.set_cons_succ, i64_w, i32_w]
            rfl
          refine pure_ (i := 44) (N := some 86) (v := ?_) (a' := ?_) (BB 133 26388279066623) rfl rfl (any_of HT_.out (by kernel_rfl)) (fun _ _ _ h => h) (Or.inl ⟨by rfl, ?_⟩) ?_ ?_
          rotate_left
          · intro w'
            go_simp
            with_reducible rfl
          rotate_left
          · simp only [Act.put, List.setIfInBounds_toArray, List.set_cons_zero, List.set_cons_succ, i64_w, i32_w]
            rfl
          as_aux_lemma =>
           refine pure_ (i := 49) (N := some 91) (v := ?_) (a' := ?_) (BB 133 589338232487935) rfl rfl (any_of HT_.out (by kernel_rfl)) (fun _ _ _ h => h) (Or.inl ⟨by rfl, ?_⟩) ?_ ?_
           rotate_left
           · intro w'
             go_simp
             with_reducible rfl
           rotate_left
           · simp only [Act.put, List.setIfInBounds_toArray, List.set_cons_zero, List.set_cons_succ, i64_w, i32_w]
             rfl
           refine pure_ (i := 50) (N := some 92) (v := ?_) (a' := ?_) (BB 133 1715238139330559) rfl rfl (any_of HT_.out (by kernel_rfl)) (fun _ _ _ h => h) (Or.inl ⟨by rfl, ?_⟩) ?_ ?_
           rotate_left
           · intro w'
             go_simp
             with_reducible rfl
           rotate_left
           · simp only [Act.put, List.setIfInBounds_toArray, List.set_cons_zero, List.set_cons_succ, i64_w, i32_w]
             rfl
           refine pure_ (i := 54) (N := some 96) (v := ?_) (a' := ?_) (BB 133 19729636648812543) rfl rfl (any_of HT_.out (by kernel_rfl)) (fun _ _ _ h => h) (Or.inl ⟨by rfl, ?_⟩) ?_ ?_
           rotate_left
           · intro w'
             go_simp
             with_reducible rfl
           rotate_left
           · simp only [Act.put, List.setIfInBounds_toArray, List.set_cons_zero, List.set_cons_succ, i64_w, i32_w]
             rfl
           refine take_ (i := 43) (N := some 85) (v := ?_) (a' := ?_) (BB 133 19738432741834751) rfl rfl (take_ofW HT_.out HW_.out (by kernel_rfl)) (fun _ _ _ h => h) (Or.inl ⟨by rfl, ?_⟩) hHeld ?_ ?_
           rotate_left
           · rintro w' ⟨⟨s40, s41, s42⟩, ⟨s50, s51, s52⟩, ⟨s60, s61, s62⟩, ⟨s150, s151, s152⟩⟩
             go_simp
             with_reducible rfl
           rotate_left
           · simp only [Act.put, List.setIfInBounds_toArray, List.set_cons_zero, List.set_cons_succ, i64_w, i32_w]
             rfl
           refine take_ (i := 45) (N := some 87) (v := ?_) (a' := ?_) (BB 133 19773617113923583) rfl rfl (take_ofW HT_.out HW_.out (by kernel_rfl)) (fun _ _ _ h => h) (Or.inl ⟨by rfl, ?_⟩) hHeld ?_ ?_
           rotate_left
           · rintro w' ⟨⟨s40, s41, s42⟩, ⟨s50, s51, s52⟩, ⟨s60, s61, s62⟩, ⟨s150, s151, s152⟩⟩
             go_simp
             with_reducible rfl
           rotate_left
           · simp only [Act.put, List.setIfInBounds_toArray, List.set_cons_zero, List.set_cons_succ, i64_w, i32_w]
             rfl
           as_aux_lemma =>
            refine take_ (i := 46) (N := some 88) (v := ?_) (a' := ?_) (BB 133 19843985858101247) rfl rfl (take_ofW HT_.out HW_.out (by kernel_rfl)) (fun _ _ _ h => h) (Or.inl ⟨by rfl, ?_⟩) hHeld ?_ ?_
            rotate_left
            · rintro w' ⟨⟨s40, s41, s42⟩, ⟨s50, s51, s52⟩, ⟨s60, s61, s62⟩, ⟨s150, s151, s152⟩⟩
              go_simp
              with_reducible rfl
            rotate_left
            · simp only [Act.put, List.setIfInBounds_toArray, List.set_cons_zero, List.set_cons_succ, i64_w, i32_w]
              rfl
            refine take_ (i := 51) (N := some 93) (v := ?_) (a' := ?_) (BB 133 22095785671786495) rfl rfl (take_ofW HT_.out HW_.out (by kernel_rfl)) (fun _ _ _ h => h) (Or.inl ⟨by rfl, ?_⟩) hHeld ?_ ?_
            rotate_left
            · rintro w' ⟨⟨s40, s41, s42⟩, ⟨s50, s51, s52⟩, ⟨s60, s61, s62⟩, ⟨s150, s151, s152⟩⟩
              go_simp
              with_reducible rfl
            rotate_left
            · simp only [Act.put, List.setIfInBounds_toArray, List.set_cons_zero, List.set_cons_succ, i64_w, i32_w]
              rfl
            refine take_ (i := 52) (N := some 94) (v := ?_) (a' := ?_) (BB 133 26599385299156991) rfl rfl (take_ofW HT_.out HW_.out (by kernel_rfl)) (fun _ _ _ h => h) (Or.inl ⟨by rfl, ?_⟩) hHeld ?_ ?_
            rotate_left
            · rintro w' ⟨⟨s40, s41, s42⟩, ⟨s50, s51, s52⟩, ⟨s60, s61, s62⟩, ⟨s150, s151, s152⟩⟩
              go_simp
              with_reducible rfl
            rotate_left
            · simp only [Act.put, List.setIfInBounds_toArray, List.set_cons_zero, List.set_cons_succ, i64_w, i32_w]
              rfl
            refine take_ (i := 55) (N := some 97) (v := ?_) (a' := ?_) (BB 133 62628182318120959) rfl rfl (take_ofW HT_.out HW_.out (by kernel_rfl)) (fun _ _ _ h => h) (Or.inl ⟨by rfl, ?_⟩) hHeld ?_ ?_
            rotate_left
            · rintro w' ⟨⟨s40, s41, s42⟩, ⟨s50, s51, s52⟩, ⟨s60, s61, s62⟩, ⟨s150, s151, s152⟩⟩
              go_simp
              with_reducible rfl
            rotate_left
            · simp only [Act.put, List.setIfInBounds_toArray, List.set_cons_zero, List.set_cons_succ, i64_w, i32_w]
              rfl
            refine take_ (i := 56) (N := some 98) (v := ?_) (a' := ?_) (BB 133 134685776356048895) rfl rfl (take_ofW HT_.out HW_.out (by kernel_rfl)) (fun _ _ _ h => h) (Or.inl ⟨by rfl, ?_⟩) hHeld ?_ ?_
            rotate_left
            · rintro w' ⟨⟨s40, s41, s42⟩, ⟨s50, s51, s52⟩, ⟨s60, s61, s62⟩, ⟨s150, s151, s152⟩⟩
              go_simp
              with_reducible rfl
            rotate_left
            · simp only [Act.put, List.setIfInBounds_toArray, List.set_cons_zero, List.set_cons_succ, i64_w, i32_w]
              rfl
            as_aux_lemma =>
             refine one_ (i := 47) (N := some 89) (BB 133 134826513844404223) rfl rfl (one_of HT_.out (by kernel_rfl)) (by decide) (fun K hK => ?_)
             refine goes_ Tryd.func17 (by kernel_rfl) rfl #[.int .i64 5, .agg #[.int .i64 b.f0, .int .i64 b.f1, .slice Ab nb cb], .agg #[.int .i64 c.f0, .int .i64 c.f1, .slice Ac nc cc]] (by rfl) rfl rfl (by (try simp only [List.map_toArray, List.map_cons, List.map_nil]); first | done | rfl) ?_
             refine (two1 5 b c _ _ _ _ _ _ _ (HL.out.vs (Ab, nb, cb, b) (by simp)) (HL.out.vs (Ac, nc, cc, c) (by simp))).mono ?_
             rintro e_ w89 ⟨g89, rfl, hx, hb⟩
             refine ⟨_, rfl, ?_⟩
             have HL' := Aside0.mk (HL.out.add hb (q := ((some ⟨g89, 0, none⟩), 2, 2, (⟨5, 0, [b, c]⟩ : S24))) hx)
             clear HL hx hb
             have HL := HL'
             clear HL'
             refine hK.out _ _ ⟨three_c (HL.out.bs (p4, #[.int .i64 a.f0, .int .i64 a.f1, .slice Aa na ca], 24) (by simp)), three_c (HL.out.bs (p5, #[.int .i64 b.f0, .int .i64 b.f1, .slice Ab nb cb], 24) (by simp)), three_c (HL.out.bs (p6, #[.int .i64 c.f0, .int .i64 c.f1, .slice Ac nc cc], 24) (by simp)), three_c (HL.out.bs (p15, #[.int .i64 14, .int .i64 0, .slice (some ⟨gr, 0, none⟩) 3 3], 24) (by simp))⟩ (fun hHeld => ?_)
             clear hK K
             refine norm_ (a' := ?_) ?_ ?_
             rotate_left
             · show Act.put _ (some 89) _ = _
               simp only [Act.put, List.setIfInBounds_toArray, List.set_cons_zero, List.set_cons_succ, i64_w, i32_w]
               rfl
             refine one_ (i := 48) (N := some 90) (BB 133 135107988821114879) rfl rfl (one_of HT_.out (by kernel_rfl)) (by decide) (fun K hK => ?_)
             refine goes_ Tryd.func17 (by kernel_rfl) rfl #[.int .i64 7, .agg #[.int .i64 a.f0, .int .i64 a.f1, .slice Aa na ca], .agg #[.int .i64 5, .int .i64 0, .slice (some ⟨g89, 0, none⟩) 2 2]] (by rfl) rfl rfl (by (try simp only [List.map_toArray, List.map_cons, List.map_nil]); first | done | rfl) ?_
             refine (two1 7 a (⟨5, 0, [b, c]⟩ : S24) _ _ _ _ _ _ _ (HL.out.vs (Aa, na, ca, a) (by simp)) (HL.out.vs ((some ⟨g89, 0, none⟩), 2, 2, (⟨5, 0, [b, c]⟩ : S24)) (by simp))).mono ?_
             rintro e_ w90 ⟨g90, rfl, hx, hb⟩
             refine ⟨_, rfl, ?_⟩
             have HL' := Aside0.mk (HL.out.add hb (q := ((some ⟨g90, 0, none⟩), 2, 2, (⟨7, 0, [a, (⟨5, 0, [b, c]⟩ : S24)]⟩ : S24))) hx)
             clear HL hx hb
             have HL := HL'
             clear HL'
             refine hK.out _ _ ⟨three_c (HL.out.bs (p4, #[.int .i64 a.f0, .int .i64 a.f1, .slice Aa na ca], 24) (by simp)), three_c (HL.out.bs (p5, #[.int .i64 b.f0, .int .i64 b.f1, .slice Ab nb cb], 24) (by simp)), three_c (HL.out.bs (p6, #[.int .i64 c.f0, .int .i64 c.f1, .slice Ac nc cc], 24) (by simp)), three_c (HL.out.bs (p15, #[.int .i64 14, .int .i64 0, .slice (some ⟨gr, 0, none⟩) 3 3], 24) (by simp))⟩ (fun hHeld => ?_)
             clear hK K
             refine norm_ (a' := ?_) ?_ ?_
             rotate_left
             · show Act.put _ (some 90) _ = _
               simp only [Act.put, List.setIfInBounds_toArray, List.set_cons_zero, List.set_cons_succ, i64_w, i32_w]
               rfl
             refine one_ (i := 53) (N := some 95) (BB 133 144115188075855871) rfl rfl (one_of HT_.out (by kernel_rfl)) (by decide) (fun K hK => ?_)
             refine goes_ Tryd.func17 (by kernel_rfl) rfl #[.int .i64 7, .agg #[.int .i64 a.f0, .int .i64 a.f1, .slice Aa na ca], .agg #[.int .i64 b.f0, .int .i64 b.f1, .slice Ab nb cb]] (by rfl) rfl rfl (by (try simp only [List.map_toArray, List.map_cons, List.map_nil]); first | done | rfl) ?_
             refine (two1 7 a b _ _ _ _ _ _ _ (HL.out.vs (Aa, na, ca, a) (by simp)) (HL.out.vs (Ab, nb, cb, b) (by simp))).mono ?_
             rintro e_ w95 ⟨g95, rfl, hx, hb⟩
             refine ⟨_, rfl, ?_⟩
             have HL' := Aside0.mk (HL.out.add hb (q := ((some ⟨g95, 0, none⟩), 2, 2, (⟨7, 0, [a, b]⟩ : S24))) hx)
             clear HL hx hb
             have HL := HL'
             clear HL'
             refine hK.out _ _ ⟨three_c (HL.out.bs (p4, #[.int .i64 a.f0, .int .i64 a.f1, .slice Aa na ca], 24) (by simp)), three_c (HL.out.bs (p5, #[.int .i64 b.f0, .int .i64 b.f1, .slice Ab nb cb], 24) (by simp)), three_c (HL.out.bs (p6, #[.int .i64 c.f0, .int .i64 c.f1, .slice Ac nc cc], 24) (by simp)), three_c (HL.out.bs (p15, #[.int .i64 14, .int .i64 0, .slice (some ⟨gr, 0, none⟩) 3 3], 24) (by simp))⟩ (fun hHeld => ?_)
             clear hK K
             refine norm_ (a' := ?_) ?_ ?_
             rotate_left
             · show Act.put _ (some 95) _ = _
               simp only [Act.put, List.setIfInBounds_toArray, List.set_cons_zero, List.set_cons_succ, i64_w, i32_w]
               rfl
             refine one_ (i := 57) (N := some 99) (BB 133 288230376151711743) rfl rfl (one_of HT_.out (by kernel_rfl)) (by decide) (fun K hK => ?_)
             refine goes_ Tryd.func17 (by kernel_rfl) rfl #[.int .i64 7, .agg #[.int .i64 a.f0, .int .i64 a.f1, .slice Aa na ca], .agg #[.int .i64 c.f0, .int .i64 c.f1, .slice Ac nc cc]] (by rfl) rfl rfl (by (try simp only [List.map_toArray, List.map_cons, List.map_nil]); first | done | rfl) ?_
             refine (two1 7 a c _ _ _ _ _ _ _ (HL.out.vs (Aa, na, ca, a) (by simp)) (HL.out.vs (Ac, nc, cc, c) (by simp))).mono ?_
             rintro e_ w99 ⟨g99, rfl, hx, hb⟩
             refine ⟨_, rfl, ?_⟩
             have HL' := Aside0.mk (HL.out.add hb (q := ((some ⟨g99, 0, none⟩), 2, 2, (⟨7, 0, [a, c]⟩ : S24))) hx)
             clear HL hx hb
             have HL := HL'
             clear HL'
             refine hK.out _ _ ⟨three_c (HL.out.bs (p4, #[.int .i64 a.f0, .int .i64 a.f1, .slice Aa na ca], 24) (by simp)), three_c (HL.out.bs (p5, #[.int .i64 b.f0, .int .i64 b.f1, .slice Ab nb cb], 24) (by simp)), three_c (HL.out.bs (p6, #[.int .i64 c.f0, .int .i64 c.f1, .slice Ac nc cc], 24) (by simp)), three_c (HL.out.bs (p15, #[.int .i64 14, .int .i64 0, .slice (some ⟨gr, 0, none⟩) 3 3], 24) (by simp))⟩ (fun hHeld => ?_)
             clear hK K
             refine norm_ (a' := ?_) ?_ ?_
             rotate_left
             · show Act.put _ (some 99) _ = _
               simp only [Act.put, List.setIfInBounds_toArray, List.set_cons_zero, List.set_cons_succ, i64_w, i32_w]
               rfl
             refine one_ (i := 58) (N := some 100) (BB 133 576460752303423487) rfl rfl (one_of HT_.out (by kernel_rfl)) (by decide) (fun K hK => ?_)
             refine goes_ Tryd.func17 (by kernel_rfl) rfl #[.int .i64 5, .agg #[.int .i64 7, .int .i64 0, .slice (some ⟨g95, 0, none⟩) 2 2], .agg #[.int .i64 7, .int .i64 0, .slice (some ⟨g99, 0, none⟩) 2 2]] (by rfl) rfl rfl (by (try simp only [List.map_toArray, List.map_cons, List.map_nil]); first | done | rfl) ?_
             refine (two1 5 (⟨7, 0, [a, b]⟩ : S24) (⟨7, 0, [a, c]⟩ : S24) _ _ _ _ _ _ _ (HL.out.vs ((some ⟨g95, 0, none⟩), 2, 2, (⟨7, 0, [a, b]⟩ : S24)) (by simp)) (HL.out.vs ((some ⟨g99, 0, none⟩), 2, 2, (⟨7, 0, [a, c]⟩ : S24)) (by simp))).mono ?_
             rintro e_ w100 ⟨g100, rfl, hx, hb⟩
             refine ⟨_, rfl, ?_⟩
             have HL' := Aside0.mk (HL.out.add hb (q := ((some ⟨g100, 0, none⟩), 2, 2, (⟨5, 0, [(⟨7, 0, [a, b]⟩ : S24), (⟨7, 0, [a, c]⟩ : S24)]⟩ : S24))) hx)
             clear HL hx hb
             have HL := HL'
             clear HL'
             refine hK.out _ _ ⟨three_c (HL.out.bs (p4, #[.int .i64 a.f0, .int .i64 a.f1, .slice Aa na ca], 24) (by simp)), three_c (HL.out.bs (p5, #[.int .i64 b.f0, .int .i64 b.f1, .slice Ab nb cb], 24) (by simp)), three_c (HL.out.bs (p6, #[.int .i64 c.f0, .int .i64 c.f1, .slice Ac nc cc], 24) (by simp)), three_c (HL.out.bs (p15, #[.int .i64 14, .int .i64 0, .slice (some ⟨gr, 0, none⟩) 3 3], 24) (by simp))⟩ (fun hHeld => ?_)
             clear hK K
             refine norm_ (a' := ?_) ?_ ?_
             rotate_left
             · show Act.put _ (some 100) _ = _
               simp only [Act.put, List.setIfInBounds_toArray, List.set_cons_zero, List.set_cons_succ, i64_w, i32_w]
               rfl
             as_aux_lemma =>
              refine one_ (i := 59) (N := some 101) (BB 133 1152921504606846975) rfl rfl (one_of HT_.out (by kernel_rfl)) (by decide) (fun K hK => ?_)
              refine goesF_ Tryd.func21 (by kernel_rfl) rfl #[.agg #[.int .i64 7, .int .i64 0, .slice (some ⟨g90, 0, none⟩) 2 2], .agg #[.int .i64 5, .int .i64 0, .slice (some ⟨g100, 0, none⟩) 2 2], .pointer (some ⟨p7, 0, none⟩)] #[.pointer (some ⟨p7, 0, none⟩)] (by rfl) rfl rfl (by rfl) (by (try simp only [List.map_toArray, List.map_cons, List.map_nil]); first | done | rfl) ?_
              obtain ⟨k_, hk_⟩ := HS4.out
              refine (same1 k_ (⟨7, 0, [a, (⟨5, 0, [b, c]⟩ : S24)]⟩ : S24) (⟨5, 0, [(⟨7, 0, [a, b]⟩ : S24), (⟨7, 0, [a, c]⟩ : S24)]⟩ : S24) _ _ _ _ _ _ p7 r0 r1 r2 _ (HL.out.bs (p7, #[.int .i64 r0, .int .i64 r1, .int .i64 r2], 26) (by simp)) (HL.out.vs ((some ⟨g90, 0, none⟩), 2, 2, (⟨7, 0, [a, (⟨5, 0, [b, c]⟩ : S24)]⟩ : S24)) (by simp)) (HL.out.vs ((some ⟨g100, 0, none⟩), 2, 2, (⟨5, 0, [(⟨7, 0, [a, b]⟩ : S24), (⟨7, 0, [a, c]⟩ : S24)]⟩ : S24)) (by simp)) hk_).mono ?_
              rintro e_ w101 ⟨rfl, hb⟩
              refine ⟨_, rfl, ?_⟩
              clear hk_
              have HL' := Aside0.mk (HL.out.step hb)
              clear HL hb HS4
              have HL := HL'
              clear HL'
              refine hK.out _ _ ⟨three_c (HL.out.bs (p4, #[.int .i64 a.f0, .int .i64 a.f1, .slice Aa na ca], 24) (by simp)), three_c (HL.out.bs (p5, #[.int .i64 b.f0, .int .i64 b.f1, .slice Ab nb cb], 24) (by simp)), three_c (HL.out.bs (p6, #[.int .i64 c.f0, .int .i64 c.f1, .slice Ac nc cc], 24) (by simp)), three_c (HL.out.bs (p15, #[.int .i64 14, .int .i64 0, .slice (some ⟨gr, 0, none⟩) 3 3], 24) (by simp))⟩ (fun hHeld => ?_)
              clear hK K
              refine norm_ (a' := ?_) ?_ ?_
              rotate_left
              · show Act.put _ (some 101) _ = _
                simp only [Act.put, List.setIfInBounds_toArray, List.set_cons_zero, List.set_cons_succ, i64_w, i32_w]
                rfl
              refine pure_ (i := 60) (N := some 102) (v := ?_) (a' := ?_) (BB 133 2305843009213693951) rfl rfl (any_of HT_.out (by kernel_rfl)) (fun _ _ _ h => h) (Or.inl ⟨by rfl, ?_⟩) ?_ ?_
              rotate_left
              · intro w'
                go_simp
                with_reducible rfl
              rotate_left
              · simp only [Act.put, List.setIfInBounds_toArray, List.set_cons_zero, List.set_cons_succ, i64_w, i32_w]
                rfl
              refine pure_ (i := 61) (N := some 103) (v := ?_) (a' := ?_) (BB 133 4611686018427387903) rfl rfl (any_of HT_.out (by kernel_rfl)) (fun _ _ _ h => h) (Or.inl ⟨by rfl, ?_⟩) ?_ ?_
              rotate_left
              · intro w'
                go_simp
                with_reducible rfl
              rotate_left
              · simp only [Act.put, List.setIfInBounds_toArray, List.set_cons_zero, List.set_cons_succ, i64_w, i32_w]
                rfl
              refine pure_ (i := 62) (N := some 104) (v := ?_) (a' := ?_) (BB 133 9223372036854775807) rfl rfl (any_of HT_.out (by kernel_rfl)) (fun _ _ _ h => h) (Or.inl ⟨by rfl, ?_⟩) ?_ ?_
              rotate_left
              · intro w'
                go_simp
                with_reducible rfl
              rotate_left
              · simp only [Act.put, List.setIfInBounds_toArray, List.set_cons_zero, List.set_cons_succ, i64_w, i32_w]
                rfl
              refine pure_ (i := 63) (N := some 105) (v := ?_) (a' := ?_) (BB 133 18446744073709551615) rfl rfl (any_of HT_.out (by kernel_rfl)) (fun _ _ _ h => h) (Or.inl ⟨by rfl, ?_⟩) ?_ ?_
              rotate_left
              · intro w'
                go_simp
                with_reducible rfl
              rotate_left
              · simp only [Act.put, List.setIfInBounds_toArray, List.set_cons_zero, List.set_cons_succ, i64_w, i32_w]
                rfl
              as_aux_lemma =>
               refine pure_ (i := 67) (N := some 109) (v := ?_) (a' := ?_) (BB 133 166020696663385964543) rfl rfl (any_of HT_.out (by kernel_rfl)) (fun _ _ _ h => h) (Or.inl ⟨by rfl, ?_⟩) ?_ ?_
               rotate_left
               · intro w'
                 go_simp
                 with_reducible rfl
               rotate_left
               · simp only [Act.put, List.setIfInBounds_toArray, List.set_cons_zero, List.set_cons_succ, i64_w, i32_w]
                 rfl
               refine pure_ (i := 69) (N := some 111) (v := ?_) (a' := ?_) (BB 133 756316507022091616255) rfl rfl (any_of HT_.out (by kernel_rfl)) (fun _ _ _ h => h) (Or.inl ⟨by rfl, ?_⟩) ?_ ?_
               rotate_left
               · intro w'
                 go_simp
                 with_reducible rfl
               rotate_left
               · simp only [Act.put, List.setIfInBounds_toArray, List.set_cons_zero, List.set_cons_succ, i64_w, i32_w]
                 rfl
               refine take_ (i := 64) (N := some 106) (v := ?_) (a' := ?_) (BB 133 774763251095801167871) rfl rfl (take_ofW HT_.out HW_.out (by kernel_rfl)) (fun _ _ _ h => h) (Or.inl ⟨by rfl, ?_⟩) hHeld ?_ ?_
               rotate_left
               · rintro w' ⟨⟨s40, s41, s42⟩, ⟨s50, s51, s52⟩, ⟨s60, s61, s62⟩, ⟨s150, s151, s152⟩⟩
                 go_simp
                 with_reducible rfl
               rotate_left
               · simp only [Act.put, List.setIfInBounds_toArray, List.set_cons_zero, List.set_cons_succ, i64_w, i32_w]
                 rfl
               refine take_ (i := 65) (N := some 107) (v := ?_) (a' := ?_) (BB 133 811656739243220271103) rfl rfl (take_ofW HT_.out HW_.out (by kernel_rfl)) (fun _ _ _ h => h) (Or.inl ⟨by rfl, ?_⟩) hHeld ?_ ?_
               rotate_left
               · rintro w' ⟨⟨s40, s41, s42⟩, ⟨s50, s51, s52⟩, ⟨s60, s61, s62⟩, ⟨s150, s151, s152⟩⟩
                 go_simp
                 with_reducible rfl
               rotate_left
               · simp only [Act.put, List.setIfInBounds_toArray, List.set_cons_zero, List.set_cons_succ, i64_w, i32_w]
                 rfl
               refine take_ (i := 68) (N := some 110) (v := ?_) (a' := ?_) (BB 133 1106804644422573096959) rfl rfl (take_ofW HT_.out HW_.out (by kernel_rfl)) (fun _ _ _ h => h) (Or.inl ⟨by rfl, ?_⟩) hHeld ?_ ?_
               rotate_left
               · rintro w' ⟨⟨s40, s41, s42⟩, ⟨s50, s51, s52⟩, ⟨s60, s61, s62⟩, ⟨s150, s151, s152⟩⟩
                 go_simp
                 with_reducible rfl
               rotate_left
               · simp only [Act.put, List.setIfInBounds_toArray, List.set_cons_zero, List.set_cons_succ, i64_w, i32_w]
                 rfl
               as_aux_lemma =>
                refine take_ (i := 70) (N := some 112) (v := ?_) (a' := ?_) (BB 133 2287396265139984400383) rfl rfl (take_ofW HT_.out HW_.out (by kernel_rfl)) (fun _ _ _ h => h) (Or.inl ⟨by rfl, ?_⟩) hHeld ?_ ?_
                rotate_left
                · rintro w' ⟨⟨s40, s41, s42⟩, ⟨s50, s51, s52⟩, ⟨s60, s61, s62⟩, ⟨s150, s151, s152⟩⟩
                  go_simp
                  with_reducible rfl
                rotate_left
                · simp only [Act.put, List.setIfInBounds_toArray, List.set_cons_zero, List.set_cons_succ, i64_w, i32_w]
                  rfl
                refine one_ (i := 66) (N := some 108) (BB 133 2361183241434822606847) rfl rfl (one_of HT_.out (by kernel_rfl)) (by decide) (fun K hK => ?_)
                refine goes_ Tryd.func17 (by kernel_rfl) rfl #[.int .i64 6, .agg #[.int .i64 a.f0, .int .i64 a.f1, .slice Aa na ca], .agg #[.int .i64 b.f0, .int .i64 b.f1, .slice Ab nb cb]] (by rfl) rfl rfl (by (try simp only [List.map_toArray, List.map_cons, List.map_nil]); first | done | rfl) ?_
                refine (two1 6 a b _ _ _ _ _ _ _ (HL.out.vs (Aa, na, ca, a) (by simp)) (HL.out.vs (Ab, nb, cb, b) (by simp))).mono ?_
                rintro e_ w108 ⟨g108, rfl, hx, hb⟩
                refine ⟨_, rfl, ?_⟩
                have HL' := Aside0.mk (HL.out.add hb (q := ((some ⟨g108, 0, none⟩), 2, 2, (⟨6, 0, [a, b]⟩ : S24))) hx)
                clear HL hx hb
                have HL := HL'
                clear HL'
                refine hK.out _ _ ⟨three_c (HL.out.bs (p4, #[.int .i64 a.f0, .int .i64 a.f1, .slice Aa na ca], 24) (by simp)), three_c (HL.out.bs (p5, #[.int .i64 b.f0, .int .i64 b.f1, .slice Ab nb cb], 24) (by simp)), three_c (HL.out.bs (p6, #[.int .i64 c.f0, .int .i64 c.f1, .slice Ac nc cc], 24) (by simp)), three_c (HL.out.bs (p15, #[.int .i64 14, .int .i64 0, .slice (some ⟨gr, 0, none⟩) 3 3], 24) (by simp))⟩ (fun hHeld => ?_)
                clear hK K
                refine norm_ (a' := ?_) ?_ ?_
                rotate_left
                · show Act.put _ (some 108) _ = _
                  simp only [Act.put, List.setIfInBounds_toArray, List.set_cons_zero, List.set_cons_succ, i64_w, i32_w]
                  rfl
                refine one_ (i := 71) (N := some 113) (BB 133 4722366482869645213695) rfl rfl (one_of HT_.out (by kernel_rfl)) (by decide) (fun K hK => ?_)
                refine goes_ Tryd.func19 (by kernel_rfl) rfl #[.int .i64 (-1)] (by rfl) rfl rfl (by (try simp only [List.map_toArray, List.map_cons, List.map_nil]); first | done | rfl) ?_
                refine (konst0 (-1) _).mono ?_
                rintro e_ w113 ⟨rfl, hb⟩
                refine ⟨_, rfl, ?_⟩
                have HL' := Aside0.mk (HL.out.add hb (q := (none, 0, 0, (⟨1, -1, []⟩ : S24))) (XV.nil _ 1 (-1)))
                clear HL hb
                have HL := HL'
                clear HL'
                refine hK.out _ _ ⟨three_c (HL.out.bs (p4, #[.int .i64 a.f0, .int .i64 a.f1, .slice Aa na ca], 24) (by simp)), three_c (HL.out.bs (p5, #[.int .i64 b.f0, .int .i64 b.f1, .slice Ab nb cb], 24) (by simp)), three_c (HL.out.bs (p6, #[.int .i64 c.f0, .int .i64 c.f1, .slice Ac nc cc], 24) (by simp)), three_c (HL.out.bs (p15, #[.int .i64 14, .int .i64 0, .slice (some ⟨gr, 0, none⟩) 3 3], 24) (by simp))⟩ (fun hHeld => ?_)
                clear hK K
                refine norm_ (a' := ?_) ?_ ?_
                rotate_left
                · show Act.put _ (some 113) _ = _
                  simp only [Act.put, List.setIfInBounds_toArray, List.set_cons_zero, List.set_cons_succ, i64_w, i32_w]
                  rfl
                refine one_ (i := 72) (N := some 114) (BB 133 9444732965739290427391) rfl rfl (one_of HT_.out (by kernel_rfl)) (by decide) (fun K hK => ?_)
                refine goes_ Tryd.func17 (by kernel_rfl) rfl #[.int .i64 7, .agg #[.int .i64 b.f0, .int .i64 b.f1, .slice Ab nb cb], .agg #[.int .i64 1, .int .i64 (-1), .slice none 0 0]] (by rfl) rfl rfl (by (try simp only [List.map_toArray, List.map_cons, List.map_nil]); first | done | rfl) ?_
                refine (two1 7 b (⟨1, -1, []⟩ : S24) _ _ _ _ _ _ _ (HL.out.vs (Ab, nb, cb, b) (by simp)) (HL.out.vs (none, 0, 0, (⟨1, -1, []⟩ : S24)) (by simp))).mono ?_
                rintro e_ w114 ⟨g114, rfl, hx, hb⟩
                refine ⟨_, rfl, ?_⟩
                have HL' := Aside0.mk (HL.out.add hb (q := ((some ⟨g114, 0, none⟩), 2, 2, (⟨7, 0, [b, (⟨1, -1, []⟩ : S24)]⟩ : S24))) hx)
                clear HL hx hb
                have HL := HL'
                clear HL'
                refine hK.out _ _ ⟨three_c (HL.out.bs (p4, #[.int .i64 a.f0, .int .i64 a.f1, .slice Aa na ca], 24) (by simp)), three_c (HL.out.bs (p5, #[.int .i64 b.f0, .int .i64 b.f1, .slice Ab nb cb], 24) (by simp)), three_c (HL.out.bs (p6, #[.int .i64 c.f0, .int .i64 c.f1, .slice Ac nc cc], 24) (by simp)), three_c (HL.out.bs (p15, #[.int .i64 14, .int .i64 0, .slice (some ⟨gr, 0, none⟩) 3 3], 24) (by simp))⟩ (fun hHeld => ?_)
                clear hK K
                refine norm_ (a' := ?_) ?_ ?_
                rotate_left
                · show Act.put _ (some 114) _ = _
                  simp only [Act.put, List.setIfInBounds_toArray, List.set_cons_zero, List.set_cons_succ, i64_w, i32_w]
                  rfl
                refine one_ (i := 73) (N := some 115) (BB 133 18889465931478580854783) rfl rfl (one_of HT_.out (by kernel_rfl)) (by decide) (fun K hK => ?_)
                refine goes_ Tryd.func17 (by kernel_rfl) rfl #[.int .i64 5, .agg #[.int .i64 a.f0, .int .i64 a.f1, .slice Aa na ca], .agg #[.int .i64 7, .int .i64 0, .slice (some ⟨g114, 0, none⟩) 2 2]] (by rfl) rfl rfl (by (try simp only [List.map_toArray, List.map_cons, List.map_nil]); first | done | rfl) ?_
                refine (two1 5 a (⟨7, 0, [b, (⟨1, -1, []⟩ : S24)]⟩ : S24) _ _ _ _ _ _ _ (HL.out.vs (Aa, na, ca, a) (by simp)) (HL.out.vs ((some ⟨g114, 0, none⟩), 2, 2, (⟨7, 0, [b, (⟨1, -1, []⟩ : S24)]⟩ : S24)) (by simp))).mono ?_
                rintro e_ w115 ⟨g115, rfl, hx, hb⟩
                refine ⟨_, rfl, ?_⟩
                have HL' := Aside0.mk (HL.out.add hb (q := ((some ⟨g115, 0, none⟩), 2, 2, (⟨5, 0, [a, (⟨7, 0, [b, (⟨1, -1, []⟩ : S24)]⟩ : S24)]⟩ : S24))) hx)
                clear HL hx hb
                have HL := HL'
                clear HL'
                refine hK.out _ _ ⟨three_c (HL.out.bs (p4, #[.int .i64 a.f0, .int .i64 a.f1, .slice Aa na ca], 24) (by simp)), three_c (HL.out.bs (p5, #[.int .i64 b.f0, .int .i64 b.f1, .slice Ab nb cb], 24) (by simp)), three_c (HL.out.bs (p6, #[.int .i64 c.f0, .int .i64 c.f1, .slice Ac nc cc], 24) (by simp)), three_c (HL.out.bs (p15, #[.int .i64 14, .int .i64 0, .slice (some ⟨gr, 0, none⟩) 3 3], 24) (by simp))⟩ (fun hHeld => ?_)
                clear hK K
                refine norm_ (a' := ?_) ?_ ?_
                rotate_left
                · show Act.put _ (some 115) _ = _
                  simp only [Act.put, List.setIfInBounds_toArray, List.set_cons_zero, List.set_cons_succ, i64_w, i32_w]
                  rfl
                as_aux_lemma =>
                 refine one_ (i := 74) (N := some 116) (BB 133 37778931862957161709567) rfl rfl (one_of HT_.out (by kernel_rfl)) (by decide) (fun K hK => ?_)
                 refine goesF_ Tryd.func21 (by kernel_rfl) rfl #[.agg #[.int .i64 6, .int .i64 0, .slice (some ⟨g108, 0, none⟩) 2 2], .agg #[.int .i64 5, .int .i64 0, .slice (some ⟨g115, 0, none⟩) 2 2], .pointer (some ⟨p7, 0, none⟩)] #[.pointer (some ⟨p7, 0, none⟩)] (by rfl) rfl rfl (by rfl) (by (try simp only [List.map_toArray, List.map_cons, List.map_nil]); first | done | rfl) ?_
                 obtain ⟨k_, hk_⟩ := HS5.out
                 refine (same1 k_ (⟨6, 0, [a, b]⟩ : S24) (⟨5, 0, [a, (⟨7, 0, [b, (⟨1, -1, []⟩ : S24)]⟩ : S24)]⟩ : S24) _ _ _ _ _ _ p7 r0 r1 r2 _ (HL.out.bs (p7, #[.int .i64 r0, .int .i64 r1, .int .i64 r2], 26) (by simp)) (HL.out.vs ((some ⟨g108, 0, none⟩), 2, 2, (⟨6, 0, [a, b]⟩ : S24)) (by simp)) (HL.out.vs ((some ⟨g115, 0, none⟩), 2, 2, (⟨5, 0, [a, (⟨7, 0, [b, (⟨1, -1, []⟩ : S24)]⟩ : S24)]⟩ : S24)) (by simp)) hk_).mono ?_
                 rintro e_ w116 ⟨rfl, hb⟩
                 refine ⟨_, rfl, ?_⟩
                 clear hk_
                 have HL' := Aside0.mk (HL.out.step hb)
                 clear HL hb HS5
                 have HL := HL'
                 clear HL'
                 refine hK.out _ _ ⟨three_c (HL.out.bs (p4, #[.int .i64 a.f0, .int .i64 a.f1, .slice Aa na ca], 24) (by simp)), three_c (HL.out.bs (p5, #[.int .i64 b.f0, .int .i64 b.f1, .slice Ab nb cb], 24) (by simp)), three_c (HL.out.bs (p6, #[.int .i64 c.f0, .int .i64 c.f1, .slice Ac nc cc], 24) (by simp)), three_c (HL.out.bs (p15, #[.int .i64 14, .int .i64 0, .slice (some ⟨gr, 0, none⟩) 3 3], 24) (by simp))⟩ (fun hHeld => ?_)
                 clear hK K
                 refine norm_ (a' := ?_) ?_ ?_
                 rotate_left
                 · show Act.put _ (some 116) _ = _
                   simp only [Act.put, List.setIfInBounds_toArray, List.set_cons_zero, List.set_cons_succ, i64_w, i32_w]
                   rfl
                 refine pure_ (i := 75) (N := some 117) (v := ?_) (a' := ?_) (BB 133 75557863725914323419135) rfl rfl (any_of HT_.out (by kernel_rfl)) (fun _ _ _ h => h) (Or.inl ⟨by rfl, ?_⟩) ?_ ?_
                 rotate_left
                 · intro w'
                   go_simp
                   with_reducible rfl
                 rotate_left
                 · simp only [Act.put, List.setIfInBounds_toArray, List.set_cons_zero, List.set_cons_succ, i64_w, i32_w]
                   rfl
                 refine pure_ (i := 76) (N := some 118) (v := ?_) (a' := ?_) (BB 133 151115727451828646838271) rfl rfl (any_of HT_.out (by kernel_rfl)) (fun _ _ _ h => h) (Or.inl ⟨by rfl, ?_⟩) ?_ ?_
                 rotate_left
                 · intro w'
                   go_simp
                   with_reducible rfl
                 rotate_left
                 · simp only [Act.put, List.setIfInBounds_toArray, List.set_cons_zero, List.set_cons_succ, i64_w, i32_w]
                   rfl
                 refine pure_ (i := 77) (N := some 119) (v := ?_) (a' := ?_) (BB 133 302231454903657293676543) rfl rfl (any_of HT_.out (by kernel_rfl)) (fun _ _ _ h => h) (Or.inl ⟨by rfl, ?_⟩) ?_ ?_
                 rotate_left
                 · intro w'
                   go_simp
                   with_reducible rfl
                 rotate_left
                 · simp only [Act.put, List.setIfInBounds_toArray, List.set_cons_zero, List.set_cons_succ, i64_w, i32_w]
                   rfl
                 refine take_ (i := 78) (N := some 120) (v := ?_) (a' := ?_) (BB 133 604462909807314587353087) rfl rfl (take_ofW HT_.out HW_.out (by kernel_rfl)) (fun _ _ _ h => h) (Or.inl ⟨by rfl, ?_⟩) hHeld ?_ ?_
                 rotate_left
                 · rintro w' ⟨⟨s40, s41, s42⟩, ⟨s50, s51, s52⟩, ⟨s60, s61, s62⟩, ⟨s150, s151, s152⟩⟩
                   go_simp
                   with_reducible rfl
                 rotate_left
                 · simp only [Act.put, List.setIfInBounds_toArray, List.set_cons_zero, List.set_cons_succ, i64_w, i32_w]
                   rfl
                 as_aux_lemma =>
                  refine take_ (i := 79) (N := some 121) (v := ?_) (a' := ?_) (BB 133 1208925819614629174706175) rfl rfl (take_ofW HT_.out HW_.out (by kernel_rfl)) (fun _ _ _ h => h) (Or.inl ⟨by rfl, ?_⟩) hHeld ?_ ?_
                  rotate_left
                  · rintro w' ⟨⟨s40, s41, s42⟩, ⟨s50, s51, s52⟩, ⟨s60, s61, s62⟩, ⟨s150, s151, s152⟩⟩
                    go_simp
                    with_reducible rfl
                  rotate_left
                  · simp only [Act.put, List.setIfInBounds_toArray, List.set_cons_zero, List.set_cons_succ, i64_w, i32_w]
                    rfl
                  refine one_ (i := 80) (N := some 122) (BB 133 2417851639229258349412351) rfl rfl (one_of HT_.out (by kernel_rfl)) (by decide) (fun K hK => ?_)
                  refine goesF_ Tryd.func21 (by kernel_rfl) rfl #[.agg #[.int .i64 14, .int .i64 0, .slice (some ⟨gr, 0, none⟩) 3 3], .agg #[.int .i64 a.f0, .int .i64 a.f1, .slice Aa na ca], .pointer (some ⟨p7, 0, none⟩)] #[.pointer (some ⟨p7, 0, none⟩)] (by rfl) rfl rfl (by rfl) (by (try simp only [List.map_toArray, List.map_cons, List.map_nil]); first | done | rfl) ?_
                  obtain ⟨k_, hk_⟩ := HS6.out
                  refine (same1 k_ (⟨14, 0, [c, a, a]⟩ : S24) a _ _ _ _ _ _ p7 r0 r1 r2 _ (HL.out.bs (p7, #[.int .i64 r0, .int .i64 r1, .int .i64 r2], 26) (by simp)) (HL.out.vs ((some ⟨gr, 0, none⟩), 3, 3, (⟨14, 0, [c, a, a]⟩ : S24)) (by simp)) (HL.out.vs (Aa, na, ca, a) (by simp)) hk_).mono ?_
                  rintro e_ w122 ⟨rfl, hb⟩
                  refine ⟨_, rfl, ?_⟩
                  clear hk_
                  have HL' := Aside0.mk (HL.out.step hb)
                  clear HL hb HS6
                  have HL := HL'
                  clear HL'
                  refine hK.out _ _ ⟨three_c (HL.out.bs (p4, #[.int .i64 a.f0, .int .i64 a.f1, .slice Aa na ca], 24) (by simp)), three_c (HL.out.bs (p5, #[.int .i64 b.f0, .int .i64 b.f1, .slice Ab nb cb], 24) (by simp)), three_c (HL.out.bs (p6, #[.int .i64 c.f0, .int .i64 c.f1, .slice Ac nc cc], 24) (by simp)), three_c (HL.out.bs (p15, #[.int .i64 14, .int .i64 0, .slice (some ⟨gr, 0, none⟩) 3 3], 24) (by simp))⟩ (fun hHeld => ?_)
                  clear hK K
                  refine norm_ (a' := ?_) ?_ ?_
                  rotate_left
                  · show Act.put _ (some 122) _ = _
                    simp only [Act.put, List.setIfInBounds_toArray, List.set_cons_zero, List.set_cons_succ, i64_w, i32_w]
                    rfl
                  refine pure_ (i := 81) (N := some 123) (v := ?_) (a' := ?_) (BB 133 4835703278458516698824703) rfl rfl (any_of HT_.out (by kernel_rfl)) (fun _ _ _ h => h) (Or.inl ⟨by rfl, ?_⟩) ?_ ?_
                  rotate_left
                  · intro w'
                    go_simp
                    with_reducible rfl
                  rotate_left
                  · simp only [Act.put, List.setIfInBounds_toArray, List.set_cons_zero, List.set_cons_succ, i64_w, i32_w]
                    rfl
                  refine pure_ (i := 82) (N := some 124) (v := ?_) (a' := ?_) (BB 133 9671406556917033397649407) rfl rfl (any_of HT_.out (by kernel_rfl)) (fun _ _ _ h => h) (Or.inl ⟨by rfl, ?_⟩) ?_ ?_
                  rotate_left
                  · intro w'
                    go_simp
                    with_reducible rfl
                  rotate_left
                  · simp only [Act.put, List.setIfInBounds_toArray, List.set_cons_zero, List.set_cons_succ, i64_w, i32_w]
                    rfl
                  refine pure_ (i := 83) (N := some 125) (v := ?_) (a' := ?_) (BB 133 19342813113834066795298815) rfl rfl (any_of HT_.out (by kernel_rfl)) (fun _ _ _ h => h) (Or.inl ⟨by rfl, ?_⟩) ?_ ?_
                  rotate_left
                  · intro w'
                    go_simp
                    with_reducible rfl
                  rotate_left
                  · simp only [Act.put, List.setIfInBounds_toArray, List.set_cons_zero, List.set_cons_succ, i64_w, i32_w]
                    rfl
                  as_aux_lemma =>
                   refine take_ (i := 84) (N := some 126) (v := ?_) (a' := ?_) (BB 133 38685626227668133590597631) rfl rfl (take_ofW HT_.out HW_.out (by kernel_rfl)) (fun _ _ _ h => h) (Or.inl ⟨by rfl, ?_⟩) hHeld ?_ ?_
                   rotate_left
                   · rintro w' ⟨⟨s40, s41, s42⟩, ⟨s50, s51, s52⟩, ⟨s60, s61, s62⟩, ⟨s150, s151, s152⟩⟩
                     go_simp
                     with_reducible rfl
                   rotate_left
                   · simp only [Act.put, List.setIfInBounds_toArray, List.set_cons_zero, List.set_cons_succ, i64_w, i32_w]
                     rfl
                   refine take_ (i := 85) (N := some 127) (v := ?_) (a' := ?_) (BB 133 77371252455336267181195263) rfl rfl (take_ofW HT_.out HW_.out (by kernel_rfl)) (fun _ _ _ h => h) (Or.inl ⟨by rfl, ?_⟩) hHeld ?_ ?_
                   rotate_left
                   · rintro w' ⟨⟨s40, s41, s42⟩, ⟨s50, s51, s52⟩, ⟨s60, s61, s62⟩, ⟨s150, s151, s152⟩⟩
                     go_simp
                     with_reducible rfl
                   rotate_left
                   · simp only [Act.put, List.setIfInBounds_toArray, List.set_cons_zero, List.set_cons_succ, i64_w, i32_w]
                     rfl
                   refine one_ (i := 86) (N := some 128) (BB 133 154742504910672534362390527) rfl rfl (one_of HT_.out (by kernel_rfl)) (by decide) (fun K hK => ?_)
                   refine goes_ Tryd.func17 (by kernel_rfl) rfl #[.int .i64 10, .agg #[.int .i64 a.f0, .int .i64 a.f1, .slice Aa na ca], .agg #[.int .i64 a.f0, .int .i64 a.f1, .slice Aa na ca]] (by rfl) rfl rfl (by (try simp only [List.map_toArray, List.map_cons, List.map_nil]); first | done | rfl) ?_
                   refine (two1 10 a a _ _ _ _ _ _ _ (HL.out.vs (Aa, na, ca, a) (by simp)) (HL.out.vs (Aa, na, ca, a) (by simp))).mono ?_
                   rintro e_ w128 ⟨g128, rfl, hx, hb⟩
                   refine ⟨_, rfl, ?_⟩
                   have HL' := Aside0.mk (HL.out.add hb (q := ((some ⟨g128, 0, none⟩), 2, 2, (⟨10, 0, [a, a]⟩ : S24))) hx)
                   clear HL hx hb
                   have HL := HL'
                   clear HL'
                   refine hK.out _ _ ⟨three_c (HL.out.bs (p4, #[.int .i64 a.f0, .int .i64 a.f1, .slice Aa na ca], 24) (by simp)), three_c (HL.out.bs (p5, #[.int .i64 b.f0, .int .i64 b.f1, .slice Ab nb cb], 24) (by simp)), three_c (HL.out.bs (p6, #[.int .i64 c.f0, .int .i64 c.f1, .slice Ac nc cc], 24) (by simp)), three_c (HL.out.bs (p15, #[.int .i64 14, .int .i64 0, .slice (some ⟨gr, 0, none⟩) 3 3], 24) (by simp))⟩ (fun hHeld => ?_)
                   clear hK K
                   refine norm_ (a' := ?_) ?_ ?_
                   rotate_left
                   · show Act.put _ (some 128) _ = _
                     simp only [Act.put, List.setIfInBounds_toArray, List.set_cons_zero, List.set_cons_succ, i64_w, i32_w]
                     rfl
                   refine one_ (i := 87) (N := some 129) (BB 133 309485009821345068724781055) rfl rfl (one_of HT_.out (by kernel_rfl)) (by decide) (fun K hK => ?_)
                   refine goes_ Tryd.func19 (by kernel_rfl) rfl #[.int .i64 0] (by rfl) rfl rfl (by (try simp only [List.map_toArray, List.map_cons, List.map_nil]); first | done | rfl) ?_
                   refine (konst0 (0) _).mono ?_
                   rintro e_ w129 ⟨rfl, hb⟩
                   refine ⟨_, rfl, ?_⟩
                   have HL' := Aside0.mk (HL.out.add hb (q := (none, 0, 0, (⟨1, 0, []⟩ : S24))) (XV.nil _ 1 (0)))
                   clear HL hb
                   have HL := HL'
                   clear HL'
                   refine hK.out _ _ ⟨three_c (HL.out.bs (p4, #[.int .i64 a.f0, .int .i64 a.f1, .slice Aa na ca], 24) (by simp)), three_c (HL.out.bs (p5, #[.int .i64 b.f0, .int .i64 b.f1, .slice Ab nb cb], 24) (by simp)), three_c (HL.out.bs (p6, #[.int .i64 c.f0, .int .i64 c.f1, .slice Ac nc cc], 24) (by simp)), three_c (HL.out.bs (p15, #[.int .i64 14, .int .i64 0, .slice (some ⟨gr, 0, none⟩) 3 3], 24) (by simp))⟩ (fun hHeld => ?_)
                   clear hK K
                   refine norm_ (a' := ?_) ?_ ?_
                   rotate_left
                   · show Act.put _ (some 129) _ = _
                     simp only [Act.put, List.setIfInBounds_toArray, List.set_cons_zero, List.set_cons_succ, i64_w, i32_w]
                     rfl
                   refine one_ (i := 88) (N := some 130) (BB 133 618970019642690137449562111) rfl rfl (one_of HT_.out (by kernel_rfl)) (by decide) (fun K hK => ?_)
                   refine goesF_ Tryd.func21 (by kernel_rfl) rfl #[.agg #[.int .i64 10, .int .i64 0, .slice (some ⟨g128, 0, none⟩) 2 2], .agg #[.int .i64 1, .int .i64 0, .slice none 0 0], .pointer (some ⟨p7, 0, none⟩)] #[.pointer (some ⟨p7, 0, none⟩)] (by rfl) rfl rfl (by rfl) (by (try simp only [List.map_toArray, List.map_cons, List.map_nil]); first | done | rfl) ?_
                   obtain ⟨k_, hk_⟩ := HS7.out
                   refine (same1 k_ (⟨10, 0, [a, a]⟩ : S24) (⟨1, 0, []⟩ : S24) _ _ _ _ _ _ p7 r0 r1 r2 _ (HL.out.bs (p7, #[.int .i64 r0, .int .i64 r1, .int .i64 r2], 26) (by simp)) (HL.out.vs ((some ⟨g128, 0, none⟩), 2, 2, (⟨10, 0, [a, a]⟩ : S24)) (by simp)) (HL.out.vs (none, 0, 0, (⟨1, 0, []⟩ : S24)) (by simp)) hk_).mono ?_
                   rintro e_ w130 ⟨rfl, hb⟩
                   refine ⟨_, rfl, ?_⟩
                   clear hk_
                   have HL' := Aside0.mk (HL.out.step hb)
                   clear HL hb HS7
                   have HL := HL'
                   clear HL'
                   refine hK.out _ _ ⟨three_c (HL.out.bs (p4, #[.int .i64 a.f0, .int .i64 a.f1, .slice Aa na ca], 24) (by simp)), three_c (HL.out.bs (p5, #[.int .i64 b.f0, .int .i64 b.f1, .slice Ab nb cb], 24) (by simp)), three_c (HL.out.bs (p6, #[.int .i64 c.f0, .int .i64 c.f1, .slice Ac nc cc], 24) (by simp)), three_c (HL.out.bs (p15, #[.int .i64 14, .int .i64 0, .slice (some ⟨gr, 0, none⟩) 3 3], 24) (by simp))⟩ (fun hHeld => ?_)
                   clear hK K
                   refine norm_ (a' := ?_) ?_ ?_
                   rotate_left
                   · show Act.put _ (some 130) _ = _
                     simp only [Act.put, List.setIfInBounds_toArray, List.set_cons_zero, List.set_cons_succ, i64_w, i32_w]
                     rfl
                   as_aux_lemma =>
                    refine pure_ (i := 89) (N := some 131) (v := ?_) (a' := ?_) (BB 133 1237940039285380274899124223) rfl rfl (any_of HT_.out (by kernel_rfl)) (fun _ _ _ h => h) (Or.inl ⟨by rfl, ?_⟩) ?_ ?_
                    rotate_left
                    · intro w'
                      go_simp
                      with_reducible rfl
                    rotate_left
                    · simp only [Act.put, List.setIfInBounds_toArray, List.set_cons_zero, List.set_cons_succ, i64_w, i32_w]
                      rfl
                    refine pure_ (i := 90) (N := some 132) (v := ?_) (a' := ?_) (BB 133 2475880078570760549798248447) rfl rfl (any_of HT_.out (by kernel_rfl)) (fun _ _ _ h => h) (Or.inl ⟨by rfl, ?_⟩) ?_ ?_
                    rotate_left
                    · intro w'
                      go_simp
                      with_reducible rfl
                    rotate_left
                    · simp only [Act.put, List.setIfInBounds_toArray, List.set_cons_zero, List.set_cons_succ, i64_w, i32_w]
                      rfl
                    refine pure_ (i := 91) (N := some 133) (v := ?_) (a' := ?_) (BB 133 4951760157141521099596496895) rfl rfl (any_of HT_.out (by kernel_rfl)) (fun _ _ _ h => h) (Or.inl ⟨by rfl, ?_⟩) ?_ ?_
                    rotate_left
                    · intro w'
                      go_simp
                      with_reducible rfl
                    rotate_left
                    · simp only [Act.put, List.setIfInBounds_toArray, List.set_cons_zero, List.set_cons_succ, i64_w, i32_w]
                      rfl
                    refine take_ (i := 92) (N := some 134) (v := ?_) (a' := ?_) (BB 133 9903520314283042199192993791) rfl rfl (take_ofW HT_.out HW_.out (by kernel_rfl)) (fun _ _ _ h => h) (Or.inl ⟨by rfl, ?_⟩) hHeld ?_ ?_
                    rotate_left
                    · rintro w' ⟨⟨s40, s41, s42⟩, ⟨s50, s51, s52⟩, ⟨s60, s61, s62⟩, ⟨s150, s151, s152⟩⟩
                      go_simp
                      with_reducible rfl
                    rotate_left
                    · simp only [Act.put, List.setIfInBounds_toArray, List.set_cons_zero, List.set_cons_succ, i64_w, i32_w]
                      rfl
                    refine take_ (i := 93) (N := some 135) (v := ?_) (a' := ?_) (BB 133 19807040628566084398385987583) rfl rfl (take_ofW HT_.out HW_.out (by kernel_rfl)) (fun _ _ _ h => h) (Or.inl ⟨by rfl, ?_⟩) hHeld ?_ ?_
                    rotate_left
                    · rintro w' ⟨⟨s40, s41, s42⟩, ⟨s50, s51, s52⟩, ⟨s60, s61, s62⟩, ⟨s150, s151, s152⟩⟩
                      go_simp
                      with_reducible rfl
                    rotate_left
                    · simp only [Act.put, List.setIfInBounds_toArray, List.set_cons_zero, List.set_cons_succ, i64_w, i32_w]
                      rfl
                    as_aux_lemma =>
                     refine one_ (i := 94) (N := some 136) (BB 133 39614081257132168796771975167) rfl rfl (one_of HT_.out (by kernel_rfl)) (by decide) (fun K hK => ?_)
                     refine goes_ Tryd.func17 (by kernel_rfl) rfl #[.int .i64 13, .agg #[.int .i64 a.f0, .int .i64 a.f1, .slice Aa na ca], .agg #[.int .i64 a.f0, .int .i64 a.f1, .slice Aa na ca]] (by rfl) rfl rfl (by (try simp only [List.map_toArray, List.map_cons, List.map_nil]); first | done | rfl) ?_
                     refine (two1 13 a a _ _ _ _ _ _ _ (HL.out.vs (Aa, na, ca, a) (by simp)) (HL.out.vs (Aa, na, ca, a) (by simp))).mono ?_
                     rintro e_ w136 ⟨g136, rfl, hx, hb⟩
                     refine ⟨_, rfl, ?_⟩
                     have HL' := Aside0.mk (HL.out.add hb (q := ((some ⟨g136, 0, none⟩), 2, 2, (⟨13, 0, [a, a]⟩ : S24))) hx)
                     clear HL hx hb
                     have HL := HL'
                     clear HL'
                     refine hK.out _ _ ⟨three_c (HL.out.bs (p4, #[.int .i64 a.f0, .int .i64 a.f1, .slice Aa na ca], 24) (by simp)), three_c (HL.out.bs (p5, #[.int .i64 b.f0, .int .i64 b.f1, .slice Ab nb cb], 24) (by simp)), three_c (HL.out.bs (p6, #[.int .i64 c.f0, .int .i64 c.f1, .slice Ac nc cc], 24) (by simp)), three_c (HL.out.bs (p15, #[.int .i64 14, .int .i64 0, .slice (some ⟨gr, 0, none⟩) 3 3], 24) (by simp))⟩ (fun hHeld => ?_)
                     clear hK K
                     refine norm_ (a' := ?_) ?_ ?_
                     rotate_left
                     · show Act.put _ (some 136) _ = _
                       simp only [Act.put, List.setIfInBounds_toArray, List.set_cons_zero, List.set_cons_succ, i64_w, i32_w]
                       rfl
                     refine one_ (i := 95) (N := some 137) (BB 133 79228162514264337593543950335) rfl rfl (one_of HT_.out (by kernel_rfl)) (by decide) (fun K hK => ?_)
                     refine goes_ Tryd.func19 (by kernel_rfl) rfl #[.int .i64 1] (by rfl) rfl rfl (by (try simp only [List.map_toArray, List.map_cons, List.map_nil]); first | done | rfl) ?_
                     refine (konst0 (1) _).mono ?_
                     rintro e_ w137 ⟨rfl, hb⟩
                     refine ⟨_, rfl, ?_⟩
                     have HL' := Aside0.mk (HL.out.add hb (q := (none, 0, 0, (⟨1, 1, []⟩ : S24))) (XV.nil _ 1 (1)))
                     clear HL hb
                     have HL := HL'
                     clear HL'
                     refine hK.out _ _ ⟨three_c (HL.out.bs (p4, #[.int .i64 a.f0, .int .i64 a.f1, .slice Aa na ca], 24) (by simp)), three_c (HL.out.bs (p5, #[.int .i64 b.f0, .int .i64 b.f1, .slice Ab nb cb], 24) (by simp)), three_c (HL.out.bs (p6, #[.int .i64 c.f0, .int .i64 c.f1, .slice Ac nc cc], 24) (by simp)), three_c (HL.out.bs (p15, #[.int .i64 14, .int .i64 0, .slice (some ⟨gr, 0, none⟩) 3 3], 24) (by simp))⟩ (fun hHeld => ?_)
                     clear hK K
                     refine norm_ (a' := ?_) ?_ ?_
                     rotate_left
                     · show Act.put _ (some 137) _ = _
                       simp only [Act.put, List.setIfInBounds_toArray, List.set_cons_zero, List.set_cons_succ, i64_w, i32_w]
                       rfl
                     refine one_ (i := 96) (N := some 138) (BB 133 158456325028528675187087900671) rfl rfl (one_of HT_.out (by kernel_rfl)) (by decide) (fun K hK => ?_)
                     refine goesF_ Tryd.func21 (by kernel_rfl) rfl #[.agg #[.int .i64 13, .int .i64 0, .slice (some ⟨g136, 0, none⟩) 2 2], .agg #[.int .i64 1, .int .i64 1, .slice none 0 0], .pointer (some ⟨p7, 0, none⟩)] #[.pointer (some ⟨p7, 0, none⟩)] (by rfl) rfl rfl (by rfl) (by (try simp only [List.map_toArray, List.map_cons, List.map_nil]); first | done | rfl) ?_
                     obtain ⟨k_, hk_⟩ := HS8.out
                     refine (same1 k_ (⟨13, 0, [a, a]⟩ : S24) (⟨1, 1, []⟩ : S24) _ _ _ _ _ _ p7 r0 r1 r2 _ (HL.out.bs (p7, #[.int .i64 r0, .int .i64 r1, .int .i64 r2], 26) (by simp)) (HL.out.vs ((some ⟨g136, 0, none⟩), 2, 2, (⟨13, 0, [a, a]⟩ : S24)) (by simp)) (HL.out.vs (none, 0, 0, (⟨1, 1, []⟩ : S24)) (by simp)) hk_).mono ?_
                     rintro e_ w138 ⟨rfl, hb⟩
                     refine ⟨_, rfl, ?_⟩
                     clear hk_
                     have HL' := Aside0.mk (HL.out.step hb)
                     clear HL hb HS8
                     have HL := HL'
                     clear HL'
                     refine hK.out _ _ ⟨three_c (HL.out.bs (p4, #[.int .i64 a.f0, .int .i64 a.f1, .slice Aa na ca], 24) (by simp)), three_c (HL.out.bs (p5, #[.int .i64 b.f0, .int .i64 b.f1, .slice Ab nb cb], 24) (by simp)), three_c (HL.out.bs (p6, #[.int .i64 c.f0, .int .i64 c.f1, .slice Ac nc cc], 24) (by simp)), three_c (HL.out.bs (p15, #[.int .i64 14, .int .i64 0, .slice (some ⟨gr, 0, none⟩) 3 3], 24) (by simp))⟩ (fun hHeld => ?_)
                     clear hK K
                     refine norm_ (a' := ?_) ?_ ?_
                     rotate_left
                     · show Act.put _ (some 138) _ = _
                       simp only [Act.put, List.setIfInBounds_toArray, List.set_cons_zero, List.set_cons_succ, i64_w, i32_w]
                       rfl
                     refine pure_ (i := 97) (N := some 139) (v := ?_) (a' := ?_) (BB 133 316912650057057350374175801343) rfl rfl (any_of HT_.out (by kernel_rfl)) (fun _ _ _ h => h) (Or.inl ⟨by rfl, ?_⟩) ?_ ?_
                     rotate_left
                     · intro w'
                       go_simp
                       with_reducible rfl
                     rotate_left
                     · simp only [Act.put, List.setIfInBounds_toArray, List.set_cons_zero, List.set_cons_succ, i64_w, i32_w]
                       rfl
                     refine pure_ (i := 98) (N := some 140) (v := ?_) (a' := ?_) (BB 133 633825300114114700748351602687) rfl rfl (any_of HT_.out (by kernel_rfl)) (fun _ _ _ h => h) (Or.inl ⟨by rfl, ?_⟩) ?_ ?_
                     rotate_left
                     · intro w'
                       go_simp
                       with_reducible rfl
                     rotate_left
                     · simp only [Act.put, List.setIfInBounds_toArray, List.set_cons_zero, List.set_cons_succ, i64_w, i32_w]
                       rfl
                     as_aux_lemma =>
                      refine pure_ (i := 99) (N := some 141) (v := ?_) (a' := ?_) (BB 133 1267650600228229401496703205375) rfl rfl (any_of HT_.out (by kernel_rfl)) (fun _ _ _ h => h) (Or.inl ⟨by rfl, ?_⟩) ?_ ?_
                      rotate_left
                      · intro w'
                        go_simp
                        with_reducible rfl
                      rotate_left
                      · simp only [Act.put, List.setIfInBounds_toArray, List.set_cons_zero, List.set_cons_succ, i64_w, i32_w]
                        rfl
                      refine pure_ (i := 100) (N := some 142) (v := ?_) (a' := ?_) (BB 133 2535301200456458802993406410751) rfl rfl (any_of HT_.out (by kernel_rfl)) (fun _ _ _ h => h) (Or.inl ⟨by rfl, ?_⟩) ?_ ?_
                      rotate_left
                      · intro w'
                        go_simp
                        with_reducible rfl
                      rotate_left
                      · simp only [Act.put, List.setIfInBounds_toArray, List.set_cons_zero, List.set_cons_succ, i64_w, i32_w]
                        rfl
                      refine pure_ (i := 108) (N := some 150) (v := ?_) (a' := ?_) (BB 133 327053854858883185586149426987007) rfl rfl (any_of HT_.out (by kernel_rfl)) (fun _ _ _ h => h) (Or.inl ⟨by rfl, ?_⟩) ?_ ?_
                      rotate_left
                      · intro w'
                        go_simp
                        with_reducible rfl
                      rotate_left
                      · simp only [Act.put, List.setIfInBounds_toArray, List.set_cons_zero, List.set_cons_succ, i64_w, i32_w]
                        rfl
                      refine take_ (i := 101) (N := some 143) (v := ?_) (a' := ?_) (BB 133 329589156059339644389142833397759) rfl rfl (take_ofW HT_.out HW_.out (by kernel_rfl)) (fun _ _ _ h => h) (Or.inl ⟨by rfl, ?_⟩) hHeld ?_ ?_
                      rotate_left
                      · rintro w' ⟨⟨s40, s41, s42⟩, ⟨s50, s51, s52⟩, ⟨s60, s61, s62⟩, ⟨s150, s151, s152⟩⟩
                        go_simp
                        with_reducible rfl
                      rotate_left
                      · simp only [Act.put, List.setIfInBounds_toArray, List.set_cons_zero, List.set_cons_succ, i64_w, i32_w]
                        rfl
                      refine take_ (i := 102) (N := some 144) (v := ?_) (a' := ?_) (BB 133 334659758460252561995129646219263) rfl rfl (take_ofW HT_.out HW_.out (by kernel_rfl)) (fun _ _ _ h => h) (Or.inl ⟨by rfl, ?_⟩) hHeld ?_ ?_
                      rotate_left
                      · rintro w' ⟨⟨s40, s41, s42⟩, ⟨s50, s51, s52⟩, ⟨s60, s61, s62⟩, ⟨s150, s151, s152⟩⟩
                        go_simp
                        with_reducible rfl
                      rotate_left
                      · simp only [Act.put, List.setIfInBounds_toArray, List.set_cons_zero, List.set_cons_succ, i64_w, i32_w]
                        rfl
                      as_aux_lemma =>
                       refine take_ (i := 104) (N := some 146) (v := ?_) (a' := ?_) (BB 133 354942168063904232419076897505279) rfl rfl (take_ofW HT_.out HW_.out (by kernel_rfl)) (fun _ _ _ h => h) (Or.inl ⟨by rfl, ?_⟩) hHeld ?_ ?_
                       rotate_left
                       · rintro w' ⟨⟨s40, s41, s42⟩, ⟨s50, s51, s52⟩, ⟨s60, s61, s62⟩, ⟨s150, s151, s152⟩⟩
                         go_simp
                         with_reducible rfl
                       rotate_left
                       · simp only [Act.put, List.setIfInBounds_toArray, List.set_cons_zero, List.set_cons_succ, i64_w, i32_w]
                         rfl
                       refine take_ (i := 105) (N := some 147) (v := ?_) (a' := ?_) (BB 133 395506987271207573266971400077311) rfl rfl (take_ofW HT_.out HW_.out (by kernel_rfl)) (fun _ _ _ h => h) (Or.inl ⟨by rfl, ?_⟩) hHeld ?_ ?_
                       rotate_left
                       · rintro w' ⟨⟨s40, s41, s42⟩, ⟨s50, s51, s52⟩, ⟨s60, s61, s62⟩, ⟨s150, s151, s152⟩⟩
                         go_simp
                         with_reducible rfl
                       rotate_left
                       · simp only [Act.put, List.setIfInBounds_toArray, List.set_cons_zero, List.set_cons_succ, i64_w, i32_w]
                         rfl
                       refine take_ (i := 109) (N := some 151) (v := ?_) (a' := ?_) (BB 133 1044544094588061026833283441229823) rfl rfl (take_ofW HT_.out HW_.out (by kernel_rfl)) (fun _ _ _ h => h) (Or.inl ⟨by rfl, ?_⟩) hHeld ?_ ?_
                       rotate_left
                       · rintro w' ⟨⟨s40, s41, s42⟩, ⟨s50, s51, s52⟩, ⟨s60, s61, s62⟩, ⟨s150, s151, s152⟩⟩
                         go_simp
                         with_reducible rfl
                       rotate_left
                       · simp only [Act.put, List.setIfInBounds_toArray, List.set_cons_zero, List.set_cons_succ, i64_w, i32_w]
                         rfl
                       refine take_ (i := 110) (N := some 152) (v := ?_) (a' := ?_) (BB 133 2342618309221767933965907523534847) rfl rfl (take_ofW HT_.out HW_.out (by kernel_rfl)) (fun _ _ _ h => h) (Or.inl ⟨by rfl, ?_⟩) hHeld ?_ ?_
                       rotate_left
                       · rintro w' ⟨⟨s40, s41, s42⟩, ⟨s50, s51, s52⟩, ⟨s60, s61, s62⟩, ⟨s150, s151, s152⟩⟩
                         go_simp
                         with_reducible rfl
                       rotate_left
                       · simp only [Act.put, List.setIfInBounds_toArray, List.set_cons_zero, List.set_cons_succ, i64_w, i32_w]
                         rfl
                       refine one_ (i := 103) (N := some 145) (BB 133 2352759514023593769177881149177855) rfl rfl (one_of HT_.out (by kernel_rfl)) (by decide) (fun K hK => ?_)
                       refine goes_ Tryd.func17 (by kernel_rfl) rfl #[.int .i64 8, .agg #[.int .i64 a.f0, .int .i64 a.f1, .slice Aa na ca], .agg #[.int .i64 b.f0, .int .i64 b.f1, .slice Ab nb cb]] (by rfl) rfl rfl (by (try simp only [List.map_toArray, List.map_cons, List.map_nil]); first | done | rfl) ?_
                       refine (two1 8 a b _ _ _ _ _ _ _ (HL.out.vs (Aa, na, ca, a) (by simp)) (HL.out.vs (Ab, nb, cb, b) (by simp))).mono ?_
                       rintro e_ w145 ⟨g145, rfl, hx, hb⟩
                       refine ⟨_, rfl, ?_⟩
                       have HL' := Aside0.mk (HL.out.add hb (q := ((some ⟨g145, 0, none⟩), 2, 2, (⟨8, 0, [a, b]⟩ : S24))) hx)
                       clear HL hx hb
                       have HL := HL'
                       clear HL'
                       refine hK.out _ _ ⟨three_c (HL.out.bs (p4, #[.int .i64 a.f0, .int .i64 a.f1, .slice Aa na ca], 24) (by simp)), three_c (HL.out.bs (p5, #[.int .i64 b.f0, .int .i64 b.f1, .slice Ab nb cb], 24) (by simp)), three_c (HL.out.bs (p6, #[.int .i64 c.f0, .int .i64 c.f1, .slice Ac nc cc], 24) (by simp)), three_c (HL.out.bs (p15, #[.int .i64 14, .int .i64 0, .slice (some ⟨gr, 0, none⟩) 3 3], 24) (by simp))⟩ (fun hHeld => ?_)
                       clear hK K
                       refine norm_ (a' := ?_) ?_ ?_
                       rotate_left
                       · show Act.put _ (some 145) _ = _
                         simp only [Act.put, List.setIfInBounds_toArray, List.set_cons_zero, List.set_cons_succ, i64_w, i32_w]
                         rfl
                       as_aux_lemma =>
                        refine one_ (i := 106) (N := some 148) (BB 133 2433889152438200450873670154321919) rfl rfl (one_of HT_.out (by kernel_rfl)) (by decide) (fun K hK => ?_)
                        refine goes_ Tryd.func17 (by kernel_rfl) rfl #[.int .i64 9, .agg #[.int .i64 a.f0, .int .i64 a.f1, .slice Aa na ca], .agg #[.int .i64 b.f0, .int .i64 b.f1, .slice Ab nb cb]] (by rfl) rfl rfl (by (try simp only [List.map_toArray, List.map_cons, List.map_nil]); first | done | rfl) ?_
                        refine (two1 9 a b _ _ _ _ _ _ _ (HL.out.vs (Aa, na, ca, a) (by simp)) (HL.out.vs (Ab, nb, cb, b) (by simp))).mono ?_
                        rintro e_ w148 ⟨g148, rfl, hx, hb⟩
                        refine ⟨_, rfl, ?_⟩
                        have HL' := Aside0.mk (HL.out.add hb (q := ((some ⟨g148, 0, none⟩), 2, 2, (⟨9, 0, [a, b]⟩ : S24))) hx)
                        clear HL hx hb
                        have HL := HL'
                        clear HL'
                        refine hK.out _ _ ⟨three_c (HL.out.bs (p4, #[.int .i64 a.f0, .int .i64 a.f1, .slice Aa na ca], 24) (by simp)), three_c (HL.out.bs (p5, #[.int .i64 b.f0, .int .i64 b.f1, .slice Ab nb cb], 24) (by simp)), three_c (HL.out.bs (p6, #[.int .i64 c.f0, .int .i64 c.f1, .slice Ac nc cc], 24) (by simp)), three_c (HL.out.bs (p15, #[.int .i64 14, .int .i64 0, .slice (some ⟨gr, 0, none⟩) 3 3], 24) (by simp))⟩ (fun hHeld => ?_)
                        clear hK K
                        refine norm_ (a' := ?_) ?_ ?_
                        rotate_left
                        · show Act.put _ (some 148) _ = _
                          simp only [Act.put, List.setIfInBounds_toArray, List.set_cons_zero, List.set_cons_succ, i64_w, i32_w]
                          rfl
                        refine one_ (i := 107) (N := some 149) (BB 133 2596148429267413814265248164610047) rfl rfl (one_of HT_.out (by kernel_rfl)) (by decide) (fun K hK => ?_)
                        refine goes_ Tryd.func17 (by kernel_rfl) rfl #[.int .i64 5, .agg #[.int .i64 8, .int .i64 0, .slice (some ⟨g145, 0, none⟩) 2 2], .agg #[.int .i64 9, .int .i64 0, .slice (some ⟨g148, 0, none⟩) 2 2]] (by rfl) rfl rfl (by (try simp only [List.map_toArray, List.map_cons, List.map_nil]); first | done | rfl) ?_
                        refine (two1 5 (⟨8, 0, [a, b]⟩ : S24) (⟨9, 0, [a, b]⟩ : S24) _ _ _ _ _ _ _ (HL.out.vs ((some ⟨g145, 0, none⟩), 2, 2, (⟨8, 0, [a, b]⟩ : S24)) (by simp)) (HL.out.vs ((some ⟨g148, 0, none⟩), 2, 2, (⟨9, 0, [a, b]⟩ : S24)) (by simp))).mono ?_
                        rintro e_ w149 ⟨g149, rfl, hx, hb⟩
                        refine ⟨_, rfl, ?_⟩
                        have HL' := Aside0.mk (HL.out.add hb (q := ((some ⟨g149, 0, none⟩), 2, 2, (⟨5, 0, [(⟨8, 0, [a, b]⟩ : S24), (⟨9, 0, [a, b]⟩ : S24)]⟩ : S24))) hx)
                        clear HL hx hb
                        have HL := HL'
                        clear HL'
                        refine hK.out _ _ ⟨three_c (HL.out.bs (p4, #[.int .i64 a.f0, .int .i64 a.f1, .slice Aa na ca], 24) (by simp)), three_c (HL.out.bs (p5, #[.int .i64 b.f0, .int .i64 b.f1, .slice Ab nb cb], 24) (by simp)), three_c (HL.out.bs (p6, #[.int .i64 c.f0, .int .i64 c.f1, .slice Ac nc cc], 24) (by simp)), three_c (HL.out.bs (p15, #[.int .i64 14, .int .i64 0, .slice (some ⟨gr, 0, none⟩) 3 3], 24) (by simp))⟩ (fun hHeld => ?_)
                        clear hK K
                        refine norm_ (a' := ?_) ?_ ?_
                        rotate_left
                        · show Act.put _ (some 149) _ = _
                          simp only [Act.put, List.setIfInBounds_toArray, List.set_cons_zero, List.set_cons_succ, i64_w, i32_w]
                          rfl
                        refine one_ (i := 111) (N := some 153) (BB 133 5192296858534827628530496329220095) rfl rfl (one_of HT_.out (by kernel_rfl)) (by decide) (fun K hK => ?_)
                        refine goes_ Tryd.func17 (by kernel_rfl) rfl #[.int .i64 5, .agg #[.int .i64 a.f0, .int .i64 a.f1, .slice Aa na ca], .agg #[.int .i64 b.f0, .int .i64 b.f1, .slice Ab nb cb]] (by rfl) rfl rfl (by (try simp only [List.map_toArray, List.map_cons, List.map_nil]); first | done | rfl) ?_
                        refine (two1 5 a b _ _ _ _ _ _ _ (HL.out.vs (Aa, na, ca, a) (by simp)) (HL.out.vs (Ab, nb, cb, b) (by simp))).mono ?_
                        rintro e_ w153 ⟨g153, rfl, hx, hb⟩
                        refine ⟨_, rfl, ?_⟩
                        have HL' := Aside0.mk (HL.out.add hb (q := ((some ⟨g153, 0, none⟩), 2, 2, (⟨5, 0, [a, b]⟩ : S24))) hx)
                        clear HL hx hb
                        have HL := HL'
                        clear HL'
                        refine hK.out _ _ ⟨three_c (HL.out.bs (p4, #[.int .i64 a.f0, .int .i64 a.f1, .slice Aa na ca], 24) (by simp)), three_c (HL.out.bs (p5, #[.int .i64 b.f0, .int .i64 b.f1, .slice Ab nb cb], 24) (by simp)), three_c (HL.out.bs (p6, #[.int .i64 c.f0, .int .i64 c.f1, .slice Ac nc cc], 24) (by simp)), three_c (HL.out.bs (p15, #[.int .i64 14, .int .i64 0, .slice (some ⟨gr, 0, none⟩) 3 3], 24) (by simp))⟩ (fun hHeld => ?_)
                        clear hK K
                        refine norm_ (a' := ?_) ?_ ?_
                        rotate_left
                        · show Act.put _ (some 153) _ = _
                          simp only [Act.put, List.setIfInBounds_toArray, List.set_cons_zero, List.set_cons_succ, i64_w, i32_w]
                          rfl
                        refine one_ (i := 112) (N := some 154) (BB 133 10384593717069655257060992658440191) rfl rfl (one_of HT_.out (by kernel_rfl)) (by decide) (fun K hK => ?_)
                        refine goesF_ Tryd.func21 (by kernel_rfl) rfl #[.agg #[.int .i64 5, .int .i64 0, .slice (some ⟨g149, 0, none⟩) 2 2], .agg #[.int .i64 5, .int .i64 0, .slice (some ⟨g153, 0, none⟩) 2 2], .pointer (some ⟨p7, 0, none⟩)] #[.pointer (some ⟨p7, 0, none⟩)] (by rfl) rfl rfl (by rfl) (by (try simp only [List.map_toArray, List.map_cons, List.map_nil]); first | done | rfl) ?_
                        obtain ⟨k_, hk_⟩ := HS9.out
                        refine (same1 k_ (⟨5, 0, [(⟨8, 0, [a, b]⟩ : S24), (⟨9, 0, [a, b]⟩ : S24)]⟩ : S24) (⟨5, 0, [a, b]⟩ : S24) _ _ _ _ _ _ p7 r0 r1 r2 _ (HL.out.bs (p7, #[.int .i64 r0, .int .i64 r1, .int .i64 r2], 26) (by simp)) (HL.out.vs ((some ⟨g149, 0, none⟩), 2, 2, (⟨5, 0, [(⟨8, 0, [a, b]⟩ : S24), (⟨9, 0, [a, b]⟩ : S24)]⟩ : S24)) (by simp)) (HL.out.vs ((some ⟨g153, 0, none⟩), 2, 2, (⟨5, 0, [a, b]⟩ : S24)) (by simp)) hk_).mono ?_
                        rintro e_ w154 ⟨rfl, hb⟩
                        refine ⟨_, rfl, ?_⟩
                        clear hk_
                        have HL' := Aside0.mk (HL.out.step hb)
                        clear HL hb HS9
                        have HL := HL'
                        clear HL'
                        refine hK.out _ _ ⟨three_c (HL.out.bs (p4, #[.int .i64 a.f0, .int .i64 a.f1, .slice Aa na ca], 24) (by simp)), three_c (HL.out.bs (p5, #[.int .i64 b.f0, .int .i64 b.f1, .slice Ab nb cb], 24) (by simp)), three_c (HL.out.bs (p6, #[.int .i64 c.f0, .int .i64 c.f1, .slice Ac nc cc], 24) (by simp)), three_c (HL.out.bs (p15, #[.int .i64 14, .int .i64 0, .slice (some ⟨gr, 0, none⟩) 3 3], 24) (by simp))⟩ (fun hHeld => ?_)
                        clear hK K
                        refine norm_ (a' := ?_) ?_ ?_
                        rotate_left
                        · show Act.put _ (some 154) _ = _
                          simp only [Act.put, List.setIfInBounds_toArray, List.set_cons_zero, List.set_cons_succ, i64_w, i32_w]
                          rfl
                        refine pure_ (i := 113) (N := some 155) (v := ?_) (a' := ?_) (BB 133 20769187434139310514121985316880383) rfl rfl (any_of HT_.out (by kernel_rfl)) (fun _ _ _ h => h) (Or.inl ⟨by rfl, ?_⟩) ?_ ?_
                        rotate_left
                        · intro w'
                          go_simp
                          with_reducible rfl
                        rotate_left
                        · simp only [Act.put, List.setIfInBounds_toArray, List.set_cons_zero, List.set_cons_succ, i64_w, i32_w]
                          rfl
                        as_aux_lemma =>
                         refine pure_ (i := 114) (N := some 156) (v := ?_) (a' := ?_) (BB 133 41538374868278621028243970633760767) rfl rfl (any_of HT_.out (by kernel_rfl)) (fun _ _ _ h => h) (Or.inl ⟨by rfl, ?_⟩) ?_ ?_
                         rotate_left
                         · intro w'
                           go_simp
                           with_reducible rfl
                         rotate_left
                         · simp only [Act.put, List.setIfInBounds_toArray, List.set_cons_zero, List.set_cons_succ, i64_w, i32_w]
                           rfl
                         refine pure_ (i := 115) (N := some 157) (v := ?_) (a' := ?_) (BB 133 83076749736557242056487941267521535) rfl rfl (any_of HT_.out (by kernel_rfl)) (fun _ _ _ h => h) (Or.inl ⟨by rfl, ?_⟩) ?_ ?_
                         rotate_left
                         · intro w'
                           go_simp
                           with_reducible rfl
                         rotate_left
                         · simp only [Act.put, List.setIfInBounds_toArray, List.set_cons_zero, List.set_cons_succ, i64_w, i32_w]
                           rfl
                         refine pure_ (i := 116) (N := some 158) (v := ?_) (a' := ?_) (BB 133 166153499473114484112975882535043071) rfl rfl (any_of HT_.out (by kernel_rfl)) (fun _ _ _ h => h) (Or.inl ⟨by rfl, ?_⟩) ?_ ?_
                         rotate_left
                         · intro w'
                           go_simp
                           with_reducible rfl
                         rotate_left
                         · simp only [Act.put, List.setIfInBounds_toArray, List.set_cons_zero, List.set_cons_succ, i64_w, i32_w]
                           rfl
                         refine pure_ (i := 120) (N := some 162) (v := ?_) (a' := ?_) (BB 133 1495381495258030357016782942815387647) rfl rfl (any_of HT_.out (by kernel_rfl)) (fun _ _ _ h => h) (Or.inl ⟨by rfl, ?_⟩) ?_ ?_
                         rotate_left
                         · intro w'
                           go_simp
                           with_reducible rfl
                         rotate_left
                         · simp only [Act.put, List.setIfInBounds_toArray, List.set_cons_zero, List.set_cons_succ, i64_w, i32_w]
                           rfl
                         refine take_ (i := 117) (N := some 159) (v := ?_) (a' := ?_) (BB 133 1661534994731144841129758825350430719) rfl rfl (take_ofW HT_.out HW_.out (by kernel_rfl)) (fun _ _ _ h => h) (Or.inl ⟨by rfl, ?_⟩) hHeld ?_ ?_
                         rotate_left
                         · rintro w' ⟨⟨s40, s41, s42⟩, ⟨s50, s51, s52⟩, ⟨s60, s61, s62⟩, ⟨s150, s151, s152⟩⟩
                           go_simp
                           with_reducible rfl
                         rotate_left
                         · simp only [Act.put, List.setIfInBounds_toArray, List.set_cons_zero, List.set_cons_succ, i64_w, i32_w]
                           rfl
                         as_aux_lemma =>
                          refine take_ (i := 118) (N := some 160) (v := ?_) (a' := ?_) (BB 133 1993841993677373809355710590420516863) rfl rfl (take_ofW HT_.out HW_.out (by kernel_rfl)) (fun _ _ _ h => h) (Or.inl ⟨by rfl, ?_⟩) hHeld ?_ ?_
                          rotate_left
                          · rintro w' ⟨⟨s40, s41, s42⟩, ⟨s50, s51, s52⟩, ⟨s60, s61, s62⟩, ⟨s150, s151, s152⟩⟩
                            go_simp
                            with_reducible rfl
                          rotate_left
                          · simp only [Act.put, List.setIfInBounds_toArray, List.set_cons_zero, List.set_cons_succ, i64_w, i32_w]
                            rfl
                          refine take_ (i := 121) (N := some 163) (v := ?_) (a' := ?_) (BB 133 4652297985247205555163324710981206015) rfl rfl (take_ofW HT_.out HW_.out (by kernel_rfl)) (fun _ _ _ h => h) (Or.inl ⟨by rfl, ?_⟩) hHeld ?_ ?_
                          rotate_left
                          · rintro w' ⟨⟨s40, s41, s42⟩, ⟨s50, s51, s52⟩, ⟨s60, s61, s62⟩, ⟨s150, s151, s152⟩⟩
                            go_simp
                            with_reducible rfl
                          rotate_left
                          · simp only [Act.put, List.setIfInBounds_toArray, List.set_cons_zero, List.set_cons_succ, i64_w, i32_w]
                            rfl
                          refine take_ (i := 122) (N := some 164) (v := ?_) (a' := ?_) (BB 133 9969209968386869046778552952102584319) rfl rfl (take_ofW HT_.out HW_.out (by kernel_rfl)) (fun _ _ _ h => h) (Or.inl ⟨by rfl, ?_⟩) hHeld ?_ ?_
                          rotate_left
                          · rintro w' ⟨⟨s40, s41, s42⟩, ⟨s50, s51, s52⟩, ⟨s60, s61, s62⟩, ⟨s150, s151, s152⟩⟩
                            go_simp
                            with_reducible rfl
                          rotate_left
                          · simp only [Act.put, List.setIfInBounds_toArray, List.set_cons_zero, List.set_cons_succ, i64_w, i32_w]
                            rfl
                          refine take_ (i := 124) (N := some 166) (v := ?_) (a' := ?_) (BB 133 31236857900945523013239465916588097535) rfl rfl (take_ofW HT_.out HW_.out (by kernel_rfl)) (fun _ _ _ h => h) (Or.inl ⟨by rfl, ?_⟩) hHeld ?_ ?_
                          rotate_left
                          · rintro w' ⟨⟨s40, s41, s42⟩, ⟨s50, s51, s52⟩, ⟨s60, s61, s62⟩, ⟨s150, s151, s152⟩⟩
                            go_simp
                            with_reducible rfl
                          rotate_left
                          · simp only [Act.put, List.setIfInBounds_toArray, List.set_cons_zero, List.set_cons_succ, i64_w, i32_w]
                            rfl
                          refine take_ (i := 125) (N := some 167) (v := ?_) (a' := ?_) (BB 133 73772153766062830946161291845559123967) rfl rfl (take_ofW HT_.out HW_.out (by kernel_rfl)) (fun _ _ _ h => h) (Or.inl ⟨by rfl, ?_⟩) hHeld ?_ ?_
                          rotate_left
                          · rintro w' ⟨⟨s40, s41, s42⟩, ⟨s50, s51, s52⟩, ⟨s60, s61, s62⟩, ⟨s150, s151, s152⟩⟩
                            go_simp
                            with_reducible rfl
                          rotate_left
                          · simp only [Act.put, List.setIfInBounds_toArray, List.set_cons_zero, List.set_cons_succ, i64_w, i32_w]
                            rfl
                          as_aux_lemma =>
                           refine one_ (i := 119) (N := some 161) (BB 133 74436767763955288882613195375699296255) rfl rfl (one_of HT_.out (by kernel_rfl)) (by decide) (fun K hK => ?_)
                           refine goes_ Tryd.func17 (by kernel_rfl) rfl #[.int .i64 12, .agg #[.int .i64 a.f0, .int .i64 a.f1, .slice Aa na ca], .agg #[.int .i64 b.f0, .int .i64 b.f1, .slice Ab nb cb]] (by rfl) rfl rfl (by (try simp only [List.map_toArray, List.map_cons, List.map_nil]); first | done | rfl) ?_
                           refine (two1 12 a b _ _ _ _ _ _ _ (HL.out.vs (Aa, na, ca, a) (by simp)) (HL.out.vs (Ab, nb, cb, b) (by simp))).mono ?_
                           rintro e_ w161 ⟨g161, rfl, hx, hb⟩
                           refine ⟨_, rfl, ?_⟩
                           have HL' := Aside0.mk (HL.out.add hb (q := ((some ⟨g161, 0, none⟩), 2, 2, (⟨12, 0, [a, b]⟩ : S24))) hx)
                           clear HL hx hb
                           have HL := HL'
                           clear HL'
                           refine hK.out _ _ ⟨three_c (HL.out.bs (p4, #[.int .i64 a.f0, .int .i64 a.f1, .slice Aa na ca], 24) (by simp)), three_c (HL.out.bs (p5, #[.int .i64 b.f0, .int .i64 b.f1, .slice Ab nb cb], 24) (by simp)), three_c (HL.out.bs (p6, #[.int .i64 c.f0, .int .i64 c.f1, .slice Ac nc cc], 24) (by simp)), three_c (HL.out.bs (p15, #[.int .i64 14, .int .i64 0, .slice (some ⟨gr, 0, none⟩) 3 3], 24) (by simp))⟩ (fun hHeld => ?_)
                           clear hK K
                           refine norm_ (a' := ?_) ?_ ?_
                           rotate_left
                           · show Act.put _ (some 161) _ = _
                             simp only [Act.put, List.setIfInBounds_toArray, List.set_cons_zero, List.set_cons_succ, i64_w, i32_w]
                             rfl
                           refine one_ (i := 123) (N := some 165) (BB 133 85070591730234615865843651857942052863) rfl rfl (one_of HT_.out (by kernel_rfl)) (by decide) (fun K hK => ?_)
                           refine goes_ Tryd.func17 (by kernel_rfl) rfl #[.int .i64 12, .agg #[.int .i64 b.f0, .int .i64 b.f1, .slice Ab nb cb], .agg #[.int .i64 a.f0, .int .i64 a.f1, .slice Aa na ca]] (by rfl) rfl rfl (by (try simp only [List.map_toArray, List.map_cons, List.map_nil]); first | done | rfl) ?_
                           refine (two1 12 b a _ _ _ _ _ _ _ (HL.out.vs (Ab, nb, cb, b) (by simp)) (HL.out.vs (Aa, na, ca, a) (by simp))).mono ?_
                           rintro e_ w165 ⟨g165, rfl, hx, hb⟩
                           refine ⟨_, rfl, ?_⟩
                           have HL' := Aside0.mk (HL.out.add hb (q := ((some ⟨g165, 0, none⟩), 2, 2, (⟨12, 0, [b, a]⟩ : S24))) hx)
                           clear HL hx hb
                           have HL := HL'
                           clear HL'
                           refine hK.out _ _ ⟨three_c (HL.out.bs (p4, #[.int .i64 a.f0, .int .i64 a.f1, .slice Aa na ca], 24) (by simp)), three_c (HL.out.bs (p5, #[.int .i64 b.f0, .int .i64 b.f1, .slice Ab nb cb], 24) (by simp)), three_c (HL.out.bs (p6, #[.int .i64 c.f0, .int .i64 c.f1, .slice Ac nc cc], 24) (by simp)), three_c (HL.out.bs (p15, #[.int .i64 14, .int .i64 0, .slice (some ⟨gr, 0, none⟩) 3 3], 24) (by simp))⟩ (fun hHeld => ?_)
                           clear hK K
                           refine norm_ (a' := ?_) ?_ ?_
                           rotate_left
                           · show Act.put _ (some 165) _ = _
                             simp only [Act.put, List.setIfInBounds_toArray, List.set_cons_zero, List.set_cons_succ, i64_w, i32_w]
                             rfl
                           refine one_ (i := 126) (N := some 168) (BB 133 170141183460469231731687303715884105727) rfl rfl (one_of HT_.out (by kernel_rfl)) (by decide) (fun K hK => ?_)
                           refine goes_ Tryd.func17 (by kernel_rfl) rfl #[.int .i64 13, .agg #[.int .i64 a.f0, .int .i64 a.f1, .slice Aa na ca], .agg #[.int .i64 b.f0, .int .i64 b.f1, .slice Ab nb cb]] (by rfl) rfl rfl (by (try simp only [List.map_toArray, List.map_cons, List.map_nil]); first | done | rfl) ?_
                           refine (two1 13 a b _ _ _ _ _ _ _ (HL.out.vs (Aa, na, ca, a) (by simp)) (HL.out.vs (Ab, nb, cb, b) (by simp))).mono ?_
                           rintro e_ w168 ⟨g168, rfl, hx, hb⟩
                           refine ⟨_, rfl, ?_⟩
                           have HL' := Aside0.mk (HL.out.add hb (q := ((some ⟨g168, 0, none⟩), 2, 2, (⟨13, 0, [a, b]⟩ : S24))) hx)
                           clear HL hx hb
                           have HL := HL'
                           clear HL'
                           refine hK.out _ _ ⟨three_c (HL.out.bs (p4, #[.int .i64 a.f0, .int .i64 a.f1, .slice Aa na ca], 24) (by simp)), three_c (HL.out.bs (p5, #[.int .i64 b.f0, .int .i64 b.f1, .slice Ab nb cb], 24) (by simp)), three_c (HL.out.bs (p6, #[.int .i64 c.f0, .int .i64 c.f1, .slice Ac nc cc], 24) (by simp)), three_c (HL.out.bs (p15, #[.int .i64 14, .int .i64 0, .slice (some ⟨gr, 0, none⟩) 3 3], 24) (by simp))⟩ (fun hHeld => ?_)
                           clear hK K
                           refine norm_ (a' := ?_) ?_ ?_
                           rotate_left
                           · show Act.put _ (some 168) _ = _
                             simp only [Act.put, List.setIfInBounds_toArray, List.set_cons_zero, List.set_cons_succ, i64_w, i32_w]
                             rfl
                           refine one_ (i := 127) (N := some 169) (BB 133 340282366920938463463374607431768211455) rfl rfl (one_of HT_.out (by kernel_rfl)) (by decide) (fun K hK => ?_)
                           refine goes_ Tryd.func17 (by kernel_rfl) rfl #[.int .i64 5, .agg #[.int .i64 12, .int .i64 0, .slice (some ⟨g165, 0, none⟩) 2 2], .agg #[.int .i64 13, .int .i64 0, .slice (some ⟨g168, 0, none⟩) 2 2]] (by rfl) rfl rfl (by (try simp only [List.map_toArray, List.map_cons, List.map_nil]); first | done | rfl) ?_
                           refine (two1 5 (⟨12, 0, [b, a]⟩ : S24) (⟨13, 0, [a, b]⟩ : S24) _ _ _ _ _ _ _ (HL.out.vs ((some ⟨g165, 0, none⟩), 2, 2, (⟨12, 0, [b, a]⟩ : S24)) (by simp)) (HL.out.vs ((some ⟨g168, 0, none⟩), 2, 2, (⟨13, 0, [a, b]⟩ : S24)) (by simp))).mono ?_
                           rintro e_ w169 ⟨g169, rfl, hx, hb⟩
                           refine ⟨_, rfl, ?_⟩
                           have HL' := Aside0.mk (HL.out.add hb (q := ((some ⟨g169, 0, none⟩), 2, 2, (⟨5, 0, [(⟨12, 0, [b, a]⟩ : S24), (⟨13, 0, [a, b]⟩ : S24)]⟩ : S24))) hx)
                           clear HL hx hb
                           have HL := HL'
                           clear HL'
                           refine hK.out _ _ ⟨three_c (HL.out.bs (p4, #[.int .i64 a.f0, .int .i64 a.f1, .slice Aa na ca], 24) (by simp)), three_c (HL.out.bs (p5, #[.int .i64 b.f0, .int .i64 b.f1, .slice Ab nb cb], 24) (by simp)), three_c (HL.out.bs (p6, #[.int .i64 c.f0, .int .i64 c.f1, .slice Ac nc cc], 24) (by simp)), three_c (HL.out.bs (p15, #[.int .i64 14, .int .i64 0, .slice (some ⟨gr, 0, none⟩) 3 3], 24) (by simp))⟩ (fun hHeld => ?_)
                           clear hK K
                           refine norm_ (a' := ?_) ?_ ?_
                           rotate_left
                           · show Act.put _ (some 169) _ = _
                             simp only [Act.put, List.setIfInBounds_toArray, List.set_cons_zero, List.set_cons_succ, i64_w, i32_w]
                             rfl
                           refine one_ (i := 128) (N := some 170) (BB 133 680564733841876926926749214863536422911) rfl rfl (one_of HT_.out (by kernel_rfl)) (by decide) (fun K hK => ?_)
                           refine goes_ Tryd.func17 (by kernel_rfl) rfl #[.int .i64 5, .agg #[.int .i64 12, .int .i64 0, .slice (some ⟨g161, 0, none⟩) 2 2], .agg #[.int .i64 5, .int .i64 0, .slice (some ⟨g169, 0, none⟩) 2 2]] (by rfl) rfl rfl (by (try simp only [List.map_toArray, List.map_cons, List.map_nil]); first | done | rfl) ?_
                           refine (two1 5 (⟨12, 0, [a, b]⟩ : S24) (⟨5, 0, [(⟨12, 0, [b, a]⟩ : S24), (⟨13, 0, [a, b]⟩ : S24)]⟩ : S24) _ _ _ _ _ _ _ (HL.out.vs ((some ⟨g161, 0, none⟩), 2, 2, (⟨12, 0, [a, b]⟩ : S24)) (by simp)) (HL.out.vs ((some ⟨g169, 0, none⟩), 2, 2, (⟨5, 0, [(⟨12, 0, [b, a]⟩ : S24), (⟨13, 0, [a, b]⟩ : S24)]⟩ : S24)) (by simp))).mono ?_
                           rintro e_ w170 ⟨g170, rfl, hx, hb⟩
                           refine ⟨_, rfl, ?_⟩
                           have HL' := Aside0.mk (HL.out.add hb (q := ((some ⟨g170, 0, none⟩), 2, 2, (⟨5, 0, [(⟨12, 0, [a, b]⟩ : S24), (⟨5, 0, [(⟨12, 0, [b, a]⟩ : S24), (⟨13, 0, [a, b]⟩ : S24)]⟩ : S24)]⟩ : S24))) hx)
                           clear HL hx hb
                           have HL := HL'
                           clear HL'
                           refine hK.out _ _ ⟨three_c (HL.out.bs (p4, #[.int .i64 a.f0, .int .i64 a.f1, .slice Aa na ca], 24) (by simp)), three_c (HL.out.bs (p5, #[.int .i64 b.f0, .int .i64 b.f1, .slice Ab nb cb], 24) (by simp)), three_c (HL.out.bs (p6, #[.int .i64 c.f0, .int .i64 c.f1, .slice Ac nc cc], 24) (by simp)), three_c (HL.out.bs (p15, #[.int .i64 14, .int .i64 0, .slice (some ⟨gr, 0, none⟩) 3 3], 24) (by simp))⟩ (fun hHeld => ?_)
                           clear hK K
                           refine norm_ (a' := ?_) ?_ ?_
                           rotate_left
                           · show Act.put _ (some 170) _ = _
                             simp only [Act.put, List.setIfInBounds_toArray, List.set_cons_zero, List.set_cons_succ, i64_w, i32_w]
                             rfl
                           as_aux_lemma =>
                            refine one_ (i := 129) (N := some 171) (BB 133 1361129467683753853853498429727072845823) rfl rfl (one_of HT_.out (by kernel_rfl)) (by decide) (fun K hK => ?_)
                            refine goes_ Tryd.func19 (by kernel_rfl) rfl #[.int .i64 1] (by rfl) rfl rfl (by (try simp only [List.map_toArray, List.map_cons, List.map_nil]); first | done | rfl) ?_
                            refine (konst0 (1) _).mono ?_
                            rintro e_ w171 ⟨rfl, hb⟩
                            refine ⟨_, rfl, ?_⟩
                            have HL' := Aside0.mk (HL.out.add hb (q := (none, 0, 0, (⟨1, 1, []⟩ : S24))) (XV.nil _ 1 (1)))
                            clear HL hb
                            have HL := HL'
                            clear HL'
                            refine hK.out _ _ ⟨three_c (HL.out.bs (p4, #[.int .i64 a.f0, .int .i64 a.f1, .slice Aa na ca], 24) (by simp)), three_c (HL.out.bs (p5, #[.int .i64 b.f0, .int .i64 b.f1, .slice Ab nb cb], 24) (by simp)), three_c (HL.out.bs (p6, #[.int .i64 c.f0, .int .i64 c.f1, .slice Ac nc cc], 24) (by simp)), three_c (HL.out.bs (p15, #[.int .i64 14, .int .i64 0, .slice (some ⟨gr, 0, none⟩) 3 3], 24) (by simp))⟩ (fun hHeld => ?_)
                            clear hK K
                            refine norm_ (a' := ?_) ?_ ?_
                            rotate_left
                            · show Act.put _ (some 171) _ = _
                              simp only [Act.put, List.setIfInBounds_toArray, List.set_cons_zero, List.set_cons_succ, i64_w, i32_w]
                              rfl
                            refine one_ (i := 130) (N := some 172) (BB 133 2722258935367507707706996859454145691647) rfl rfl (one_of HT_.out (by kernel_rfl)) (by decide) (fun K hK => ?_)
                            refine goesF_ Tryd.func21 (by kernel_rfl) rfl #[.agg #[.int .i64 5, .int .i64 0, .slice (some ⟨g170, 0, none⟩) 2 2], .agg #[.int .i64 1, .int .i64 1, .slice none 0 0], .pointer (some ⟨p7, 0, none⟩)] #[.pointer (some ⟨p7, 0, none⟩)] (by rfl) rfl rfl (by rfl) (by (try simp only [List.map_toArray, List.map_cons, List.map_nil]); first | done | rfl) ?_
                            obtain ⟨k_, hk_⟩ := HS10.out
                            refine (same1 k_ (⟨5, 0, [(⟨12, 0, [a, b]⟩ : S24), (⟨5, 0, [(⟨12, 0, [b, a]⟩ : S24), (⟨13, 0, [a, b]⟩ : S24)]⟩ : S24)]⟩ : S24) (⟨1, 1, []⟩ : S24) _ _ _ _ _ _ p7 r0 r1 r2 _ (HL.out.bs (p7, #[.int .i64 r0, .int .i64 r1, .int .i64 r2], 26) (by simp)) (HL.out.vs ((some ⟨g170, 0, none⟩), 2, 2, (⟨5, 0, [(⟨12, 0, [a, b]⟩ : S24), (⟨5, 0, [(⟨12, 0, [b, a]⟩ : S24), (⟨13, 0, [a, b]⟩ : S24)]⟩ : S24)]⟩ : S24)) (by simp)) (HL.out.vs (none, 0, 0, (⟨1, 1, []⟩ : S24)) (by simp)) hk_).mono ?_
                            rintro e_ w172 ⟨rfl, hb⟩
                            refine ⟨_, rfl, ?_⟩
                            clear hk_
                            have HL' := Aside0.mk (HL.out.step hb)
                            clear HL hb HS10
                            have HL := HL'
                            clear HL'
                            refine hK.out _ _ ⟨three_c (HL.out.bs (p4, #[.int .i64 a.f0, .int .i64 a.f1, .slice Aa na ca], 24) (by simp)), three_c (HL.out.bs (p5, #[.int .i64 b.f0, .int .i64 b.f1, .slice Ab nb cb], 24) (by simp)), three_c (HL.out.bs (p6, #[.int .i64 c.f0, .int .i64 c.f1, .slice Ac nc cc], 24) (by simp)), three_c (HL.out.bs (p15, #[.int .i64 14, .int .i64 0, .slice (some ⟨gr, 0, none⟩) 3 3], 24) (by simp))⟩ (fun hHeld => ?_)
                            clear hK K
                            refine norm_ (a' := ?_) ?_ ?_
                            rotate_left
                            · show Act.put _ (some 172) _ = _
                              simp only [Act.put, List.setIfInBounds_toArray, List.set_cons_zero, List.set_cons_succ, i64_w, i32_w]
                              rfl
                            refine pure_ (i := 131) (N := some 173) (v := ?_) (a' := ?_) (BB 133 5444517870735015415413993718908291383295) rfl rfl (any_of HT_.out (by kernel_rfl)) (fun _ _ _ h => h) (Or.inl ⟨by rfl, ?_⟩) ?_ ?_
                            rotate_left
                            · intro w'
                              go_simp
                              with_reducible rfl
                            rotate_left
                            · simp only [Act.put, List.setIfInBounds_toArray, List.set_cons_zero, List.set_cons_succ, i64_w, i32_w]
                              rfl
                            refine pure_ (i := 132) (N := some 8) (v := ?_) (a' := ?_) (BB 133 10889035741470030830827987437816582766591) rfl rfl (any_of HT_.out (by kernel_rfl)) (fun _ _ _ h => h) (Or.inl ⟨by rfl, ?_⟩) ?_ ?_
                            rotate_left
                            · intro w'
                              go_simp
                              with_reducible rfl
                            rotate_left
                            · simp only [Act.put, List.setIfInBounds_toArray, List.set_cons_zero, List.set_cons_succ, i64_w, i32_w]
                              rfl
                            refine done_ (done_of HT_.out (by kernel_rfl)) ?_
                            go_wp2_with fail
                            go_ret
                            exact ⟨rfl, HL.out.hb⟩
end Go.Proofs.YtdmfakgbiaaacaaDoor.X
namespace Go.Proofs.YtdmfakgbiaaacaaDoor.X
open Go.RowKit Go.Lib Go.Proofs Go.Proofs.YtdmfakgbiaaacaaDoorW.PrintWords Go.Proofs.YtdmfakgbiaaacaaDoorW.PrintLast Go.Proofs.YtdmfakgbiaaacaaDoorW.PrintMore Go.Proofs.YtdmfakgbiaaacaaDoor
set_option linter.unusedVariables false
open Classical in
noncomputable def leatlaw7_ExprLaws.f (a0_0 a0_1 : Int) (l0_2 : List S24) (a1_0 a1_1 : Int) (l1_2 : List S24) (a2_0 a2_1 : Int) (l2_2 : List S24) (a3_0 a3_1 a3_2 : Int) : Option Bool :=
  if Asked ⟨a0_0, a0_1, l0_2⟩ ∧ Asked ⟨a1_0, a1_1, l1_2⟩ ∧ Asked ⟨a2_0, a2_1, l2_2⟩ ∧ (∀ a b c : S24, a = ⟨a0_0, a0_1, l0_2⟩ → b = ⟨a1_0, a1_1, l1_2⟩ → c = ⟨a2_0, a2_1, l2_2⟩ → Pass a → Pass b → Pass c → SM a3_0 a3_1 a3_2 (⟨5, 0, [a, b]⟩ : S24) (⟨5, 0, [b, a]⟩ : S24) ∧ SM a3_0 a3_1 a3_2 (⟨7, 0, [a, b]⟩ : S24) (⟨7, 0, [b, a]⟩ : S24) ∧ SM a3_0 a3_1 a3_2 (⟨5, 0, [a, (⟨5, 0, [b, c]⟩ : S24)]⟩ : S24) (⟨5, 0, [(⟨5, 0, [a, b]⟩ : S24), c]⟩ : S24) ∧ SM a3_0 a3_1 a3_2 (⟨7, 0, [a, (⟨5, 0, [b, c]⟩ : S24)]⟩ : S24) (⟨5, 0, [(⟨7, 0, [a, b]⟩ : S24), (⟨7, 0, [a, c]⟩ : S24)]⟩ : S24) ∧ SM a3_0 a3_1 a3_2 (⟨6, 0, [a, b]⟩ : S24) (⟨5, 0, [a, (⟨7, 0, [b, (⟨1, -1, []⟩ : S24)]⟩ : S24)]⟩ : S24) ∧ SM a3_0 a3_1 a3_2 (⟨14, 0, [c, a, a]⟩ : S24) a ∧ SM a3_0 a3_1 a3_2 (⟨10, 0, [a, a]⟩ : S24) (⟨1, 0, []⟩ : S24) ∧ SM a3_0 a3_1 a3_2 (⟨13, 0, [a, a]⟩ : S24) (⟨1, 1, []⟩ : S24) ∧ SM a3_0 a3_1 a3_2 (⟨5, 0, [(⟨8, 0, [a, b]⟩ : S24), (⟨9, 0, [a, b]⟩ : S24)]⟩ : S24) (⟨5, 0, [a, b]⟩ : S24) ∧ SM a3_0 a3_1 a3_2 (⟨5, 0, [(⟨12, 0, [a, b]⟩ : S24), (⟨5, 0, [(⟨12, 0, [b, a]⟩ : S24), (⟨13, 0, [a, b]⟩ : S24)]⟩ : S24)]⟩ : S24) (⟨1, 1, []⟩ : S24)) then some true else none
theorem leatlaw7_ExprLaws.calls (a0_0 a0_1 : Int) (A0_2 : Option Addr) (c0_2 : Nat) (l0_2 : List S24) (a1_0 a1_1 : Int) (A1_2 : Option Addr) (c1_2 : Nat) (l1_2 : List S24) (a2_0 a2_1 : Int) (A2_2 : Option Addr) (c2_2 : Nat) (l2_2 : List S24) (a3_0 a3_1 a3_2 : Int) (r : Bool) (w : World) (htab : TabW w)
    (hr0_2 : Kd.C k24 w A0_2 l0_2.length l0_2) (hc0_2 : l0_2.length ≤ c0_2) (hr1_2 : Kd.C k24 w A1_2 l1_2.length l1_2) (hc1_2 : l1_2.length ≤ c1_2) (hr2_2 : Kd.C k24 w A2_2 l2_2.length l2_2) (hc2_2 : l2_2.length ≤ c2_2)
    (h : leatlaw7_ExprLaws.f a0_0 a0_1 l0_2 a1_0 a1_1 l1_2 a2_0 a2_1 l2_2 a3_0 a3_1 a3_2 = some r) :
    Calls Tryd.prog 7 #[.agg #[.int .i64 a0_0, .int .i64 a0_1, .slice A0_2 l0_2.length c0_2], .agg #[.int .i64 a1_0, .int .i64 a1_1, .slice A1_2 l1_2.length c1_2], .agg #[.int .i64 a2_0, .int .i64 a2_1, .slice A2_2 l2_2.length c2_2], .agg #[.int .i64 a3_0, .int .i64 a3_1, .int .i64 a3_2]] w fun e w' => e = .returned (.bool r) ∧ Below w.heap.size w w' := by
  unfold leatlaw7_ExprLaws.f at h
  split at h
  · rename_i hh
    obtain ⟨h0, h1, h2, h3⟩ := hh
    obtain rfl : true = r := Option.some.inj h
    exact laws0 ⟨a0_0, a0_1, l0_2⟩ ⟨a1_0, a1_1, l1_2⟩ ⟨a2_0, a2_1, l2_2⟩ A0_2 A1_2 A2_2 l0_2.length c0_2 l1_2.length c1_2 l2_2.length c2_2 a3_0 a3_1 a3_2 w htab ⟨rfl, hc0_2, hr0_2⟩ ⟨rfl, hc1_2, hr1_2⟩ ⟨rfl, hc2_2, hr2_2⟩ h0 h1 h2 (h3 _ _ _ rfl rfl rfl)
  · cases h
end Go.Proofs.YtdmfakgbiaaacaaDoor.X
