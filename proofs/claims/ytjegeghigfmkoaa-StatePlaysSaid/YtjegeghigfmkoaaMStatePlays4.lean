/- Plain lists: joining what meets, in any order, ends in one and the same list (up to its order). Conditions: those of the structure Mg. -/
import Derived.Test.YtjegeghigfmkoaaProg
namespace Go.Proofs.Ytjegeghigfmkoaa.Nf
set_option maxRecDepth 100000
set_option linter.unusedVariables false
structure Mg {α:Type} (hit:α→α→Prop) (jn:α→α→α):Prop where
 sym: ∀{x y},hit x y→hit y x
 comm: ∀{x y},hit x y→jn x y=jn y x
 turn: ∀{x y z},hit x y→hit x z→jn (jn x y) z=jn (jn x z) y
 mono: ∀{x y z},hit x y→hit x z→hit (jn x y) z
variable {α:Type} {hit:α→α→Prop} {jn:α→α→α}
inductive Red (hit:α→α→Prop) (jn:α→α→α):List α→List α→Prop
 |mk {l m r:List α} {x y:α}:l.Perm (x::y::r)→hit x y→m.Perm (jn x y::r)→Red hit jn l m
theorem Red.perm {l l' m m' :List α} (h:Red hit jn l m) (hl:l.Perm l') (hm:m.Perm m'):Red hit jn l' m' :=by
 obtain⟨h1,h2,h3⟩:=h;exact⟨hl.symm.trans h1,h2,hm.symm.trans h3⟩
theorem Red.out {l m:List α} (h:Red hit jn l m): ∃(x y:α) (r:List α),l.Perm (x::y::r)∧hit x y∧m.Perm (jn x y::r):=by
 obtain⟨h1,h2,h3⟩:=h;exact⟨_,_,_,h1,h2,h3⟩
theorem Red.len {l m:List α} (h:Red hit jn l m):l.length=m.length+1:=by
 obtain⟨h1,h2,h3⟩:=h;rw[h1.length_eq,h3.length_eq];simp
theorem Red.app {l m:List α} (h:Red hit jn l m) (c:List α):Red hit jn (l++c) (m++c):=by
 obtain⟨h1,h2,h3⟩:=h;exact⟨(h1.append_right c),h2,(h3.append_right c)⟩
theorem core (M:Mg hit jn) {a b c:α} {t m1 m2:List α} (h1:hit a b) (h2:hit a c) (e1:m1.Perm (jn a b::c::t)) (e2:m2.Perm (jn a c::b::t)): ∃n,Red hit jn m1 n∧Red hit jn m2 n:=
 ⟨jn (jn a b) c::t,⟨e1,M.mono h1 h2,.refl _⟩,⟨e2,M.mono h2 h1,by rw[M.turn h1 h2]⟩⟩
theorem mem_perm {l:List α} {x:α} (h:x ∈ l): ∃t,l.Perm (x::t):=by
 obtain⟨s,t,rfl⟩:=List.append_of_mem h;exact⟨s++t,List.perm_middle⟩
theorem diamond (M:Mg hit jn) {l m1 m2:List α} (h1:Red hit jn l m1) (h2:Red hit jn l m2):m1.Perm m2∨ ∃n,Red hit jn m1 n∧Red hit jn m2 n:=by
 obtain⟨x,y,r,hl1,hxy,e1⟩:=h1.out;obtain⟨u,v,s,hl2,huv,e2⟩:=h2.out;have hp:(x::y::r).Perm (u::v::s):=hl1.symm.trans hl2;have hu:u ∈ x::y::r:=hp.symm.subset (by simp);rcases List.mem_cons.1 hu with rfl|hu
 ·have hq:(y::r).Perm (v::s):=hp.cons_inv;have hy:y ∈ v::s:=hq.subset (by simp);rcases List.mem_cons.1 hy with rfl|hy
  ·exact .inl (e1.trans ((hq.cons_inv.cons _).trans e2.symm))
  ·obtain⟨t,ht⟩:=mem_perm hy;have hr:r.Perm (v::t):=((hq.trans (ht.cons _)).trans (.swap _ _ _)).cons_inv;exact .inr (core M hxy huv (e1.trans (hr.cons _)) (e2.trans (ht.cons _)))
 ·rcases List.mem_cons.1 hu with rfl|hu
  ·have hq:(x::r).Perm (v::s):=((List.Perm.swap _ _ _).trans hp).cons_inv;have hx:x ∈ v::s:=hq.subset (by simp);rcases List.mem_cons.1 hx with rfl|hx
   ·left;rw[M.comm hxy] at e1;exact e1.trans ((hq.cons_inv.cons _).trans e2.symm)
   ·obtain⟨t,ht⟩:=mem_perm hx;have hr:r.Perm (v::t):=((hq.trans (ht.cons _)).trans (.swap _ _ _)).cons_inv;rw[M.comm hxy] at e1;exact .inr (core M (M.sym hxy) huv (e1.trans (hr.cons _)) (e2.trans (ht.cons _)))
  ·obtain⟨r',hr'⟩:=mem_perm hu;have hq:(x::y::r').Perm (v::s):=by
    have h3:(x::y::r).Perm (u::x::y::r'):=by
     refine((hr'.cons y).cons x).trans ?_;exact((List.Perm.swap u y r').cons x).trans (.swap u x _)
    exact(h3.symm.trans hp).cons_inv
   have hv:v ∈ x::y::r' :=hq.symm.subset (by simp);rcases List.mem_cons.1 hv with rfl|hv
   ·have hs:s.Perm (y::r'):=hq.cons_inv.symm;rw[M.comm huv] at e2;exact .inr (core M hxy (M.sym huv) (e1.trans (hr'.cons _)) (e2.trans (hs.cons _)))
   ·rcases List.mem_cons.1 hv with rfl|hv
    ·have hs:s.Perm (x::r'):=(((List.Perm.swap _ _ _).trans hq).cons_inv).symm;rw[M.comm huv] at e2;rw[M.comm hxy] at e1;exact .inr (core M (M.sym hxy) (M.sym huv) (e1.trans (hr'.cons _)) (e2.trans (hs.cons _)))
    ·obtain⟨t,ht⟩:=mem_perm hv;have hs:s.Perm (x::y::t):=by
      have h3:(x::y::r').Perm (v::x::y::t):=by
       refine((ht.cons y).cons x).trans ?_;exact((List.Perm.swap v y t).cons x).trans (.swap v x _)
      exact(h3.symm.trans hq).cons_inv.symm
     right;refine⟨jn x y::jn u v::t,Red.mk (r:=jn x y::t) ((e1.trans ((hr'.trans (ht.cons u)).cons _)).trans ?_) huv (.swap _ _ _),Red.mk (r:=jn u v::t) ((e2.trans (hs.cons _)).trans ?_) hxy (.refl _)⟩
     ·exact(List.Perm.swap u (jn x y) (v::t)).trans ((List.Perm.swap v (jn x y) t).cons u)
     ·exact(List.Perm.swap x (jn u v) (y::t)).trans ((List.Perm.swap y (jn u v) t).cons x)
def Normal (hit:α→α→Prop) (l:List α):Prop:=l.Pairwise (fun x y=> ¬hit x y)
theorem Normal.perm (M:Mg hit jn) {l m:List α} (h:Normal hit l) (hp:l.Perm m):Normal hit m:=
 hp.pairwise h (fun {x y} h1 h2=>h1 (M.sym h2))
theorem Normal.no (M:Mg hit jn) {l m:List α} (h:Normal hit l): ¬Red hit jn l m:=by
 rintro ⟨h1,h2,h3⟩;have:=h.perm M h1;exact(List.pairwise_cons.1 this).1 _ (by simp) h2
theorem not_normal {l:List α} (h: ¬Normal hit l): ∃m,Red hit jn l m:=by
 induction l with
 |nil=>exact absurd List.Pairwise.nil h
 | cons a l ih=>
  by_cases h1: ∀b ∈ l,¬hit a b
  ·have h2: ¬Normal hit l:=fun h2=>h (List.pairwise_cons.2 ⟨h1,h2⟩)
   obtain⟨m,hm⟩:=ih h2;obtain⟨x,y,r,e1,e2,e3⟩:=hm.out;refine⟨jn x y::a::r,⟨(e1.cons a).trans ?_,e2,.refl _⟩⟩;exact(List.Perm.swap x a (y::r)).trans ((List.Perm.swap y a r).cons x)
  ·have ⟨b,hb,hab⟩: ∃b,b ∈ l∧hit a b:=by
    apply Classical.byContradiction;intro hn;exact h1 (fun b hb hab=>hn ⟨b,hb,hab⟩)
   obtain⟨t,ht⟩:=mem_perm hb;exact⟨jn a b::t,⟨ht.cons a,hab,.refl _⟩⟩
inductive RS (hit:α→α→Prop) (jn:α→α→α):List α→List α→Prop
 |done {l m:List α}:l.Perm m→RS hit jn l m
 |step {l l' m:List α}:Red hit jn l l'→RS hit jn l' m→RS hit jn l m
theorem RS.perm {l m l' m' :List α} (h:RS hit jn l m) (hl:l.Perm l') (hm:m.Perm m'):RS hit jn l' m' :=by
 induction h generalizing l' with
 |done h=>exact .done (hl.symm.trans (h.trans hm))
 |step h1 h2 ih=>exact .step (h1.perm hl (.refl _)) (ih (.refl _) hm)
theorem RS.trans {l m n:List α} (h:RS hit jn l m) (h2:RS hit jn m n):RS hit jn l n:=by
 induction h with
 |done h=>exact h2.perm h.symm (.refl _)
 |step h1 h3 ih=>exact .step h1 (ih h2)
theorem RS.app {l m:List α} (h:RS hit jn l m) (c:List α):RS hit jn (l++c) (m++c):=by
 induction h with
 |done h=>exact .done (h.append_right c)
 |step h1 h2 ih=>exact .step (h1.app c) ih
theorem RS.app2 {l m:List α} (h:RS hit jn l m) (c:List α):RS hit jn (c++l) (c++m):=
 (h.app c).perm List.perm_append_comm List.perm_append_comm
theorem exists_nf (M:Mg hit jn): ∀(n:Nat) (l:List α),l.length≤n→ ∃m,RS hit jn l m∧Normal hit m
 | n,l,hn=>by
  by_cases h:Normal hit l
  ·exact⟨l,.done (.refl _),h⟩
  ·obtain⟨l',hl'⟩:=not_normal (jn:=jn) h;have hlen:=hl'.len
   match n,hn with
   |0,hn=>omega
   |n+1,hn=>
    obtain⟨m,h1,h2⟩:=exists_nf M n l' (by omega);exact⟨m,.step hl' h1,h2⟩
theorem unique_aux (M:Mg hit jn): ∀(n:Nat) (l n1 n2:List α),l.length≤n→RS hit jn l n1→RS hit jn l n2→Normal hit n1→Normal hit n2→n1.Perm n2
 | n, l,n1,n2,hn,h1,h2,N1,N2=>by
  cases h1 with
  |done h1=>
   cases h2 with
   |done h2=>exact h1.symm.trans h2
   |step h2 h3=>exact absurd h2 ((N1.perm M h1.symm).no M)
  | @step _ l1 _ h1 g1=>
   cases h2 with
   |done h2=>exact absurd h1 ((N2.perm M h2.symm).no M)
   | @step _ l2 _ h2 g2=>
    have hlen:=h1.len;have hlen2:=h2.len
    match n,hn with
    |0,hn=>omega
    | n+1,hn=>
     rcases diamond M h1 h2 with hp|⟨m,k1,k2⟩
     ·exact unique_aux M n l1 n1 n2 (by omega) g1 (g2.perm hp.symm (.refl _)) N1 N2
     ·obtain⟨n3,g3,N3⟩:=exists_nf M m.length m (Nat.le_refl _);have p1:=unique_aux M n l1 n1 n3 (by omega) g1 (.step k1 g3) N1 N3;have p2:=unique_aux M n l2 n2 n3 (by omega) g2 (.step k2 g3) N2 N3;exact p1.trans p2.symm
theorem unique (M:Mg hit jn) {l n1 n2:List α} (h1:RS hit jn l n1) (h2:RS hit jn l n2) (N1:Normal hit n1) (N2:Normal hit n2):n1.Perm n2:=
 unique_aux M l.length l n1 n2 (Nat.le_refl _) h1 h2 N1 N2
end Go.Proofs.Ytjegeghigfmkoaa.Nf
