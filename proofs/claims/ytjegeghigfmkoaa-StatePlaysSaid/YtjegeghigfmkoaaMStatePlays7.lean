/- Plain arrays: a heap of numbers, one place out of order sifted up, or down. No conditions but those typed. -/
import Derived.Test.YtjegeghigfmkoaaProg
import Derived.Sort.WalkB12
import Derived.Sort.WalkC
namespace Go.Proofs.Ytjegeghigfmkoaa.T
open Go.Sort
set_option linter.unusedVariables false
set_option linter.unusedSimpArgs false
def par (i:Nat):Nat:=(i-1)/ 2
def Hp (n:Nat) (d:Array Int):Prop:= ∀i,0<i→i<n→d[par i]! ≤d[i]!
def HpUp (n j:Nat) (d:Array Int):Prop:=(∀i,0<i→i<n→i≠j→d[par i]! ≤d[i]!)∧ ∀i,0<i→i<n→par i=j→0<j→d[par j]! ≤d[i]!
def HpDn (n j:Nat) (d:Array Int):Prop:=(∀i,0<i→i<n→par i≠j→d[par i]! ≤d[i]!)∧ ∀i,0<i→i<n→par i=j→0<j→d[par j]! ≤d[i]!
theorem par_lt {i:Nat} (h:0<i):par i<i:=by unfold par;omega
theorem swpI {d:Array Int} {i j:Nat} (hi:i<d.size) (hj:j<d.size) (k:Nat):(swp d i j)[k]! =if k=j then d[i]! else if k=i then d[j]! else d[k]! :=by
 unfold swp;by_cases c:k=j
 ·subst c;rw[if_pos rfl,getElem!_set_same _ _ _ (by simpa using hj)]
 ·rw[if_neg c,getElem!_set_other _ _ _ _ c];by_cases c2:k=i
  ·subst c2;rw[if_pos rfl,getElem!_set_same _ _ _ hi]
  ·rw[if_neg c2,getElem!_set_other _ _ _ _ c2]
theorem up_stop {n j:Nat} {d:Array Int} (h:HpUp n j d) (hs:j=0∨d[par j]! ≤d[j]!):Hp n d:=fun i h0 hn=>by
 by_cases c:i=j
 ·subst c;rcases hs with rfl|hs
  ·omega
  ·exact hs
 ·exact h.1 i h0 hn c
theorem up_go {n j:Nat} {d:Array Int} (h:HpUp n j d) (hn:n≤d.size) (hj:j<n) (h0:0<j) (hs:d[j]! <d[par j]!):HpUp n (par j) (swp d (par j) j):=by
 have hp:=par_lt h0;have S:=fun k=>swpI (d:=d) (i:=par j) (j:=j) (by omega) (by omega) k
 constructor
 ·intro i hi hin hne;rw[S,S];by_cases c:i=j
  ·subst c;rw[if_neg (by omega),if_pos rfl,if_pos rfl];omega
  ·rw[if_neg c,if_neg hne];by_cases c2:par i=j
   ·rw[if_pos c2];exact h.2 i hi hin c2 h0
   ·rw[if_neg c2];by_cases c3:par i=par j
    ·rw[if_pos c3];have:=h.1 i hi hin c;rw[c3] at this;omega
    ·rw[if_neg c3];exact h.1 i hi hin c
 ·intro i hi hin hpi hp0;have hpp:=par_lt hp0;have h1:=h.1 (par j) hp0 (by omega) (by omega);rw[S,S,if_neg (by omega),if_neg (by omega)];by_cases c:i=j
  ·rw[if_pos c];exact h1
  ·rw[if_neg c,if_neg (by have:=par_lt hi;omega)];have h2:=h.1 i hi hin c;rw[hpi] at h2;exact Int.le_trans h1 h2
theorem dn_stop {n j:Nat} {d:Array Int} (h:HpDn n j d) (hs: ∀i,0<i→i<n→par i=j→d[j]! ≤d[i]!):Hp n d:=fun i h0 hn=>by
 by_cases c:par i=j
 ·rw[c];exact hs i h0 hn c
 ·exact h.1 i h0 hn c
theorem dn_go {n j m:Nat} {d:Array Int} (h:HpDn n j d) (hn:n≤d.size) (hj:j<n) (hm:m<n) (h0:0<m) (hp:par m=j) (hs:d[m]! <d[j]!) (hmin: ∀i,0<i→i<n→par i=j→d[m]! ≤d[i]!):HpDn n m (swp d j m):=by
 have hlt:=par_lt h0;have S:=fun k=>swpI (d:=d) (i:=j) (j:=m) (by omega) (by omega) k
 constructor
 ·intro i hi hin hne;rw[S,S,if_neg hne];by_cases c:par i=j
  ·rw[if_pos c];by_cases c1:i=m
   ·rw[if_pos c1];omega
   ·rw[if_neg c1,if_neg (by have:=par_lt hi;omega)];exact hmin i hi hin c
  ·rw[if_neg c];by_cases c1:i=m
   ·subst c1;exact absurd hp c
   ·rw[if_neg c1];by_cases c2:i=j
    ·rw[if_pos c2];subst c2;exact h.2 m h0 hm hp hi
    ·rw[if_neg c2];exact h.1 i hi hin c
 ·intro i hi hin hpi _;have hil:=par_lt hi;rw[S,S,hp,if_neg (by omega),if_pos rfl,if_neg (by omega),if_neg (by omega)];have:=h.1 i hi hin (by omega);rw[hpi] at this;exact this
theorem par_iff {i j:Nat} (h:0<i):par i=j↔i=2*j+1∨i=2*j+2:=by unfold par;omega
theorem hp_root {n:Nat} {d:Array Int} (h:Hp n d): ∀i,i<n→d[0]! ≤d[i]! :=by
 intro i
 induction i using Nat.strongRecOn with
 |ind i ih=>
  intro hi;rcases Nat.eq_zero_or_pos i with rfl|h0
  ·exact Int.le_refl _
  ·exact Int.le_trans (ih _ (par_lt h0) (by have:=par_lt h0;omega)) (h i h0 hi)
theorem swp_size' (d:Array Int) (i j:Nat):(swp d i j).size=d.size:=by unfold swp;simp
theorem swp_perm (d:Array Int) {i j:Nat} (hi:i<d.size) (hj:j<d.size):(swp d i j).toList.Perm d.toList:=by
 have h:=(swp_permIn d 0 d.size i j (Nat.zero_le _) hi (Nat.zero_le _) hj (Nat.le_refl _)).2.2;rw[Array.extract_size] at h;have e:(swp d i j).extract 0 d.size=swp d i j:=by rw[←swp_size' d i j,Array.extract_size]
 rw[e] at h;exact h
theorem hp_push {d:Array Int} (h:Hp d.size d) (x:Int):HpUp (d.push x).size d.size (d.push x):=by
 have G: ∀k,k<d.size→(d.push x)[k]! =d[k]! :=fun k hk=>by
  rw[getElem!_pos _ k (by simp;omega),getElem!_pos d k hk,Array.getElem_push_lt hk]
 rw[Array.size_push];constructor
 ·intro i h0 hi hne;have hp:=par_lt h0;rw[G _ (by omega),G _ (by omega)];exact h i h0 (by omega)
 ·intro i h0 hi hpi;have hp:=par_lt h0;omega
theorem hp_pop {d:Array Int} (h:Hp d.size d) {n:Nat} (hn:d.size=n+1):HpDn n 0 (swp d 0 n):=by
 have S:=fun k=>swpI (d:=d) (i:=0) (j:=n) (by omega) (by omega) k
 constructor
 ·intro i h0 hi hne;have hp:=par_lt h0;rw[S,S,if_neg (by omega),if_neg (by omega),if_neg (by omega),if_neg (by omega)];exact h i h0 (by omega)
 ·intro i h0 hi hpi hj;omega
end Go.Proofs.Ytjegeghigfmkoaa.T
