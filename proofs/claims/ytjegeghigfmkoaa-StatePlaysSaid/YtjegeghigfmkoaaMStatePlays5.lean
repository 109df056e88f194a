/- Plain lemmas on arrays: runs exchanged, blocks rotated. No conditions beyond those typed. -/
import Derived.Sort.LotA
namespace Go.Proofs.Ytjegeghigfmkoaa.So
open Go.Sort
set_option maxRecDepth 100000
set_option linter.unusedVariables false
set_option linter.unusedSimpArgs false
variable {α:Type} [Inhabited α]
def swapN (a b:Nat):Nat→Array α→Array α
 |0,d=>d
 |i+1,d=>swp (swapN a b i d) (a+i) (b+i)
theorem swapN_size (a b:Nat): ∀(n:Nat) (d:Array α),(swapN a b n d).size=d.size
 |0,_=>rfl
 |n+1,d=>by rw[swapN,size_swp,swapN_size a b n d]
theorem at_eq (d:Array α) {x y:Nat} (h:x=y):d[x]! =d[y]! :=by rw[h]
theorem swapN_get (a b:Nat): ∀(n:Nat) (d:Array α),a+n≤b→b+n≤d.size→ ∀t,(swapN a b n d)[t]! =if a≤t∧t<a+n then d[b+(t-a)]! else if b≤t∧t<b+n then d[a+(t-b)]! else d[t]!
 |0,d,h1,h2,t=>by rw[swapN,if_neg (by omega),if_neg (by omega)]
 | n +1,d,h1,h2,t=>by
  have ih:=swapN_get a b n d (by omega) (by omega);have hs:=swapN_size a b n d;rw[swapN];by_cases e1:t=a+n
  ·subst e1;rw[swp_left _ _ _ (by omega) (by omega),ih,if_neg (by omega),if_neg (by omega),if_pos (by omega)];exact at_eq d (by omega)
  ·by_cases e2:t=b+n
   ·subst e2;rw[swp_right _ _ _ (by omega),ih,if_neg (by omega),if_neg (by omega),if_neg (by omega),if_pos (by omega)];exact at_eq d (by omega)
   ·rw[swp_other _ _ _ _ e1 e2,ih];by_cases c1:a≤t∧t<a+n
    ·rw[if_pos c1,if_pos (by omega)]
    ·by_cases c2:b≤t∧t<b+n
     ·rw[if_neg c1,if_pos c2,if_neg (by omega),if_pos (by omega)]
     ·rw[if_neg c1,if_neg c2,if_neg (by omega),if_neg (by omega)]
theorem swapN_perm (a b lo hi:Nat): ∀(n:Nat) (d:Array α),a+n≤b→b+n≤hi→hi≤d.size→lo≤a→PermIn lo hi d (swapN a b n d)
 |0,d,_,_,_,_=>permIn_refl d lo hi
 |n+1,d,h1,h2,h3,h4=>permIn_trans _ _ _ lo hi (swapN_perm a b lo hi n d (by omega) (by omega) h3 h4) (swp_permIn _ lo hi (a+n) (b+n) (by omega) (by omega) (by omega) (by omega) (by rw[swapN_size];exact h3))
def Rot (lo m hi:Nat) (d d' :Array α):Prop:=d'.size=d.size∧ ∀t,d'[t]! =if lo≤t∧t<lo+(hi-m) then d[t+(m-lo)]! else if lo+(hi-m)≤t∧t<hi then d[t- (hi-m)]! else d[t]!
def rotGo (m:Nat):Nat→Nat→Nat→Array α→Array α
 |0,_,_,d=>d
 |f+1,i,j,d=>if i=j then swapN (m-i) m i d else if j<i then rotGo m f (i-j) j (swapN (m-i) m j d) else rotGo m f i (j-i) (swapN (m-i) (m+j-i) i d)
theorem rotGo_rot (m:Nat): ∀(f i j:Nat) (d:Array α),i+j≤f→0<i→0<j→i≤m→m+j≤d.size→Rot (m-i) m (m+j) d (rotGo m f i j d)
 |0,_,_,_,h,h1,_,_,_=>absurd h (by omega)
 | f +1,i,j,d,h,h1,h2,h3,h4=>by
  rw[rotGo];by_cases e:i=j
  ·subst e;rw[if_pos rfl];refine⟨swapN_size _ _ _ _,fun t=> ?_⟩;rw[swapN_get _ _ _ _ (by omega) (by omega)];by_cases c1:m-i≤t∧t<m-i+i
   ·rw[if_pos c1,if_pos (by omega)];exact at_eq d (by omega)
   ·by_cases c2:m≤t∧t<m+i
    ·rw[if_neg c1,if_pos c2,if_neg (by omega),if_pos (by omega)];exact at_eq d (by omega)
    ·rw[if_neg c1,if_neg c2,if_neg (by omega),if_neg (by omega)]
  ·rw [if_neg e];by_cases c:j<i
   ·rw[if_pos c];obtain⟨g1,g2⟩:=rotGo_rot m f (i-j) j (swapN (m-i) m j d) (by omega) (by omega) h2 (by omega) (by rw[swapN_size];omega);refine⟨by rw[g1,swapN_size],fun t=> ?_⟩;have g:=swapN_get (m-i) m j d (by omega) (by omega);rw[g2];by_cases c1:m- (i-j)≤t∧t<m- (i-j)+(m+j-m)
    ·rw[if_pos c1,g];by_cases c2:t+(m- (m- (i-j)))<m
     ·rw[if_neg (by omega),if_neg (by omega),if_pos (by omega)];exact at_eq d (by omega)
     ·by_cases c3:t<m-i+j
      ·rw[if_neg (by omega),if_pos (by omega),if_pos (by omega)];exact at_eq d (by omega)
      ·rw[if_neg (by omega),if_pos (by omega),if_neg (by omega),if_pos (by omega)];exact at_eq d (by omega)
    ·rw[if_neg c1];by_cases c2:m- (i-j)+(m+j-m)≤t∧t<m+j
     ·rw[if_pos c2,g,if_neg (by omega),if_neg (by omega),if_neg (by omega),if_pos (by omega)]
     ·rw[if_neg c2,g];by_cases c3:m-i≤t∧t<m-i+j
      ·rw[if_pos c3,if_pos (by omega)];exact at_eq d (by omega)
      ·rw[if_neg c3,if_neg (by omega),if_neg (by omega),if_neg (by omega)]
   ·rw[if_neg c];obtain⟨g1,g2⟩:=rotGo_rot m f i (j-i) (swapN (m-i) (m+j-i) i d) (by omega) h1 (by omega) (by omega) (by rw[swapN_size];omega);refine⟨by rw[g1,swapN_size],fun t=> ?_⟩;have g:=swapN_get (m-i) (m+j-i) i d (by omega) (by omega);rw[g2];by_cases c1:m-i≤t∧t<m-i+(m+(j-i)-m)
    ·rw[if_pos c1,g,if_neg (by omega),if_neg (by omega),if_pos (by omega)]
    ·rw[if_neg c1];by_cases c2:m-i+(m+(j-i)-m)≤t∧t<m+(j-i)
     ·rw[if_pos c2,g,if_pos (by omega),if_pos (by omega)];exact at_eq d (by omega)
     ·rw[if_neg c2,g,if_neg (by omega)];by_cases c3:m+j-i≤t∧t<m+j-i+i
      ·rw[if_pos c3,if_neg (by omega),if_pos (by omega)];exact at_eq d (by omega)
      ·rw[if_neg c3,if_neg (by omega),if_neg (by omega)]
theorem rotGo_perm (m lo hi:Nat): ∀(f i j:Nat) (d:Array α),i≤m→m+j≤hi→hi≤d.size→lo+i≤m→PermIn lo hi d (rotGo m f i j d)
 |0,i,j,d,_,_,_,_=>permIn_refl d lo hi
 | f+1,i,j,d,h1,h2,h3,h4=>by
  rw[rotGo];by_cases e:i=j
  ·subst e;rw[if_pos rfl];exact swapN_perm _ _ lo hi _ d (by omega) (by omega) h3 (by omega)
  ·rw[if_neg e];by_cases c:j<i
   ·rw[if_pos c];exact permIn_trans _ _ _ lo hi (swapN_perm _ _ lo hi _ d (by omega) (by omega) h3 (by omega)) (rotGo_perm m lo hi f (i-j) j _ (by omega) h2 (by rw[swapN_size];exact h3) (by omega))
   ·rw[if_neg c];exact permIn_trans _ _ _ lo hi (swapN_perm _ _ lo hi _ d (by omega) (by omega) h3 (by omega)) (rotGo_perm m lo hi f i (j-i) _ h1 (by omega) (by rw[swapN_size];exact h3) h4)
end Go.Proofs.Ytjegeghigfmkoaa.So
namespace Go.Proofs.Ytjegeghigfmkoaa.So
open Go.Sort
set_option maxRecDepth 100000
set_option linter.unusedVariables false
set_option linter.unusedSimpArgs false
variable {α:Type} [Inhabited α] {lt:α→α→Bool}
theorem SortedIn.le (hO:SWO lt) {a b:Nat} {d:Array α} (h:SortedIn lt a b d) {i j:Nat} (h1:a≤i) (h2:i≤j) (h3:j<b):lt d[j]! d[i]! =false:=by
 rcases Nat.lt_or_ge i j with c|c
 ·exact h i j h1 c h3
 ·obtain rfl:i=j:=by omega
  exact hO.irrefl _
theorem SortedIn.join (hO:SWO lt) {a m b:Nat} {d:Array α} (h1:SortedIn lt a m d) (h2:SortedIn lt m b d) (h: ∀t u,a≤t→t<m→m≤u→u<b→lt d[u]! d[t]! =false):SortedIn lt a b d:=by
 intro i j hi hij hj;rcases Nat.lt_or_ge j m with c|c
 ·exact h1 i j hi hij c
 ·rcases Nat.lt_or_ge i m with c'|c'
  ·exact h i j hi c' c hj
  ·exact h2 i j c' hij hj
theorem SortedIn.part {a b a' b' :Nat} {d:Array α} (h:SortedIn lt a b d) (h1:a≤a') (h2:b'≤b):SortedIn lt a' b' d:=fun i j hi hij hj=>h i j (by omega) hij (by omega)
theorem SortedIn.short {a b:Nat} {d:Array α} (h:b≤a+1):SortedIn lt a b d:=fun i j hi hij hj=>absurd hij (by omega)
theorem SortedIn.same {a b:Nat} {d d' :Array α} (h:SortedIn lt a b d) (he: ∀t,a≤t→t<b→d'[t]! =d[t]!):SortedIn lt a b d' :=fun i j hi hij hj=>by
 rw[he i hi (by omega),he j (by omega) hj];exact h i j hi hij hj
theorem SortedIn.moved {a b:Nat} {d d' :Array α} (x:Nat) (h:SortedIn lt (a+x) (b+x) d) (he: ∀t,a≤t→t<b→d'[t]! =d[t+x]!):SortedIn lt a b d' :=fun i j hi hij hj=>by
 rw[he i hi (by omega),he j (by omega) hj];exact h (i+x) (j+x) (by omega) (by omega) (by omega)
theorem SortedIn.back {a b:Nat} {d d' :Array α} (x:Nat) (h:SortedIn lt (a-x) (b-x) d) (hx:x≤a) (he: ∀t,a≤t→t<b→d'[t]! =d[t-x]!):SortedIn lt a b d' :=fun i j hi hij hj=>by
 rw[he i hi (by omega),he j (by omega) hj];exact h (i-x) (j-x) (by omega) (by omega) (by omega)
structure Split (lt:α→α→Bool) (a s mid e b:Nat) (d:Array α):Prop where
 l1:SortedIn lt a s d
 l2:SortedIn lt s mid d
 r1:SortedIn lt mid e d
 r2:SortedIn lt e b d
 cross: ∀t u,a≤t→t<mid→mid≤u→u<b→lt d[u]! d[t]! =false
theorem split_of (hO:SWO lt) {a s m e b mid:Nat} {d d' :Array α} (h1:SortedIn lt a m d) (h2:SortedIn lt m b d) (has:a≤s) (hsm:s≤m) (hme:m≤e) (heb:e≤b) (hmid:mid=s+(e-m)) (hr:Rot s m e d d')
  (H1: ∀t u,a≤t→t<s→e≤u→u<b→lt d[u]! d[t]! =false) (H2: ∀t u,m≤t→t<e→s≤u→u<m→lt d[u]! d[t]! =false):Split lt a s mid e b d' :=by
 subst hmid;have g1: ∀t,t<s→d'[t]! =d[t]! :=fun t h=>by rw[hr.2,if_neg (by omega),if_neg (by omega)]
 have g2: ∀t,s≤t→t<s+(e-m)→d'[t]! =d[t+(m-s)]! :=fun t h h'=>by rw[hr.2,if_pos (by omega)]
 have g3: ∀t,s+(e-m)≤t→t<e→d'[t]! =d[t- (e-m)]! :=fun t h h'=>by rw[hr.2,if_neg (by omega),if_pos (by omega)]
 have g4: ∀t,e≤t→d'[t]! =d[t]! :=fun t h=>by rw[hr.2,if_neg (by omega),if_neg (by omega)]
 refine⟨SortedIn.same (SortedIn.part h1 (Nat.le_refl _) hsm) (fun t _ h=>g1 t h),?_,?_,SortedIn.same (SortedIn.part h2 hme (Nat.le_refl _)) (fun t h _=>g4 t h),?_⟩
 ·exact SortedIn.moved (m-s) (SortedIn.part h2 (by omega) (by omega)) g2
 ·exact SortedIn.back (e-m) (SortedIn.part h1 (by omega) (by omega)) (by omega) g3
 ·intro t u ht ht' hu hu';rcases Nat.lt_or_ge t s with c|c
  ·rw[g1 t c];rcases Nat.lt_or_ge u e with c'|c'
   ·rw[g3 u hu c'];exact SortedIn.le hO h1 ht (by omega) (by omega)
   ·rw[g4 u c'];exact H1 t u ht c c' hu'
  ·rw[g2 t c ht'];rcases Nat.lt_or_ge u e with c'|c'
   ·rw[g3 u hu c'];exact H2 _ _ (by omega) (by omega) (by omega) (by omega)
   ·rw[g4 u c'];exact SortedIn.le hO h2 (by omega) (by omega) hu'
theorem split_done (hO:SWO lt) {a s mid e b:Nat} {d d1 d2:Array α} (h:Split lt a s mid e b d) (ham:a≤mid) (hmb:mid≤b) (hb:b≤d.size) (p1:PermIn a mid d d1) (s1:SortedIn lt a mid d1) (p2:PermIn mid b d1 d2) (s2:SortedIn lt mid b d2):
  PermIn a b d d2∧SortedIn lt a b d2:=by
 have hs1:d1.size=d.size:=p1.1;have hs2:d2.size=d1.size:=p2.1;refine⟨permIn_trans _ _ _ a b (permIn_mono d d1 a mid a b (Nat.le_refl _) hmb hb p1) (permIn_mono d1 d2 mid b a b ham (Nat.le_refl _) (by omega) p2),?_⟩;have s1' :SortedIn lt a mid d2:=SortedIn.same s1 (fun t _ ht=>p2.2.1 t (Or.inl ht));refine SortedIn.join hO s1' s2 (fun t u ht ht' hu hu'=> ?_);rw[p2.2.1 t (Or.inl ht')]
 -- left: t of d1 out of d's left; right: u of d2 out of d's right
 have R: ∀u,mid≤u→u<b→ ∀t,a≤t→t<mid→lt d1[u]! d1[t]! =false:=by
  intro u hu hu';rw[p1.2.1 u (Or.inr hu)];exact permIn_all d d1 a mid (fun x=>lt d[u]! x=false) (by omega) p1 (fun t h1 h2=>h.cross t u h1 h2 hu hu')
 exact permIn_all d1 d2 mid b (fun x=>lt x d1[t]! =false) (by omega) p2 (fun u h1 h2=>R u h1 h2 t ht ht') u hu hu'
def shL (a:Nat):Nat→Array α→Array α
 |0,d=>d
 |n+1,d=>swp (shL a n d) (a+n) (a+n+1)
theorem shL_size (a:Nat): ∀(n:Nat) (d:Array α),(shL a n d).size=d.size
 |0,_=>rfl
 |n+1,d=>by rw[shL,size_swp,shL_size a n d]
theorem shL_rot (a:Nat): ∀(n:Nat) (d:Array α),a+n<d.size→Rot a (a+1) (a+n+1) d (shL a n d)
 | 0,d,h=>⟨rfl,fun t=>by
   rw[if_neg (by omega)];by_cases c:a+(a+0+1- (a+1))≤t∧t<a+0+1
   ·rw[if_pos c];exact at_eq d (by omega)
   ·rw[if_neg c];rfl⟩
 | n+1,d,h=>by
  obtain⟨g1,g2⟩:=shL_rot a n d (by omega);refine⟨by rw[shL,size_swp,g1],fun t=> ?_⟩;rw[shL];by_cases e1:t=a+n
  ·subst e1;rw[swp_left _ _ _ (by omega) (by omega),g2,if_neg (by omega),if_neg (by omega),if_pos (by omega)];exact at_eq d (by omega)
  ·by_cases e2:t=a+n+1
   ·subst e2;rw[swp_right _ _ _ (by omega),g2,if_neg (by omega),if_pos (by omega),if_neg (by omega),if_pos (by omega)];exact at_eq d (by omega)
   ·rw[swp_other _ _ _ _ e1 e2,g2];by_cases c1:a≤t∧t<a+(a+n+1- (a+1))
    ·rw[if_pos c1,if_pos (by omega)]
    ·rw[if_neg c1,if_neg (by omega),if_neg (by omega),if_neg (by omega)]
theorem shL_perm (a lo hi:Nat): ∀(n:Nat) (d:Array α),lo≤a→a+n<hi→hi≤d.size→PermIn lo hi d (shL a n d)
 |0,d,_,_,_=>permIn_refl d lo hi
 |n+1,d,h1,h2,h3=>permIn_trans _ _ _ lo hi (shL_perm a lo hi n d h1 (by omega) h3) (swp_permIn _ lo hi (a+n) (a+n+1) (by omega) (by omega) (by omega) (by omega) (by rw[shL_size];exact h3))
def shR (m:Nat):Nat→Array α→Array α
 |0,d=>d
 |n+1,d=>swp (shR m n d) (m-n) (m-n-1)
theorem shR_size (m:Nat): ∀(n:Nat) (d:Array α),(shR m n d).size=d.size
 |0,_=>rfl
 |n+1,d=>by rw[shR,size_swp,shR_size m n d]
theorem shR_rot (m:Nat): ∀(n:Nat) (d:Array α),n≤m→m<d.size→Rot (m-n) m (m+1) d (shR m n d)
 | 0,d,_,h=>⟨rfl,fun t=>by
   by_cases c:m-0≤t∧t<m-0+(m+1-m)
   ·rw[if_pos c];exact at_eq d (by omega)
   ·rw[if_neg c,if_neg (by omega)];rfl⟩
 | n+1,d,hn,h=>by
  obtain⟨g1,g2⟩:=shR_rot m n d (by omega) h;refine⟨by rw[shR,size_swp,g1],fun t=> ?_⟩;rw[shR];by_cases e1:t=m-n
  ·subst e1;rw[swp_left _ _ _ (by omega) (by omega),g2,if_neg (by omega),if_neg (by omega),if_neg (by omega),if_pos (by omega)];exact at_eq d (by omega)
  ·by_cases e2:t=m-n-1
   ·subst e2;rw[swp_right _ _ _ (by omega),g2,if_pos (by omega),if_pos (by omega)];exact at_eq d (by omega)
   ·rw[swp_other _ _ _ _ e1 e2,g2,if_neg (by omega)];by_cases c1:m-n+(m+1-m)≤t∧t<m+1
    ·rw[if_pos c1,if_neg (by omega),if_pos (by omega)]
    ·rw[if_neg c1,if_neg (by omega),if_neg (by omega)]
theorem shR_perm (m lo hi:Nat): ∀(n:Nat) (d:Array α),lo+n≤m→m<hi→hi≤d.size→PermIn lo hi d (shR m n d)
 |0,d,_,_,_=>permIn_refl d lo hi
 |n+1,d,h1,h2,h3=>permIn_trans _ _ _ lo hi (shR_perm m lo hi n d (by omega) h2 h3) (swp_permIn _ lo hi (m-n) (m-n-1) (by omega) (by omega) (by omega) (by omega) (by rw[shR_size];exact h3))
theorem ins_left (hO:SWO lt) {a i b:Nat} {d:Array α} (hb:b≤d.size) (hai:a+1≤i) (hib:i≤b) (h:SortedIn lt (a+1) b d) (H1: ∀t,a+1≤t→t<i→lt d[t]! d[a]! =true) (H2: ∀t,i≤t→t<b→lt d[t]! d[a]! =false):
  PermIn a b d (shL a (i-1-a) d)∧SortedIn lt a b (shL a (i-1-a) d):=by
 refine⟨shL_perm a a b _ d (Nat.le_refl _) (by omega) hb,?_⟩;have hr:=shL_rot a (i-1-a) d (by omega);have e:a+(i-1-a)+1=i:=by omega
 rw[e] at hr;have sp:=split_of (mid:=a+(i- (a+1))) hO (SortedIn.short (a:=a) (b:=a+1) (by omega)) h (Nat.le_refl a) (by omega) hai hib rfl hr (fun t u h1 h2=>absurd h2 (by omega)) (fun t u h1 h2 h3 h4=>by
  obtain rfl:u=a:=by omega
  exact SWO.asymmA hO (H1 t h1 h2))
 refine SortedIn.join hO (SortedIn.join hO sp.l1 sp.l2 (fun t u h1 h2=>absurd h2 (by omega))) (SortedIn.join hO sp.r1 sp.r2 (fun t u h1 h2 h3 h4=> ?_)) sp.cross;rw[hr.2,if_neg (by omega),if_neg (by omega),hr.2,if_neg (by omega),if_pos (by omega),at_eq d (show t- (i- (a+1))=a by omega)];exact H2 u h3 h4
theorem ins_right (hO:SWO lt) {a i m:Nat} {d:Array α} (hb:m+1≤d.size) (hai:a≤i) (him:i≤m) (h:SortedIn lt a m d) (H1: ∀t,a≤t→t<i→lt d[m]! d[t]! =false) (H2: ∀t,i≤t→t<m→lt d[m]! d[t]! =true):
  PermIn a (m+1) d (shR m (m-i) d)∧SortedIn lt a (m+1) (shR m (m-i) d):=by
 refine⟨shR_perm m a (m+1) _ d (by omega) (by omega) hb,?_⟩;have hr:=shR_rot m (m-i) d (by omega) (by omega);have e:m- (m-i)=i:=by omega
 rw[e] at hr;have sp:=split_of (mid:=i+(m+1-m)) hO h (SortedIn.short (a:=m) (b:=m+1) (by omega)) hai him (by omega) (Nat.le_refl _) rfl hr (fun t u h1 h2 h3 h4=>absurd h4 (by omega)) (fun t u h1 h2 h3 h4=>by
  obtain rfl:t=m:=by omega
  exact SWO.asymmA hO (H2 u h3 h4))
 refine SortedIn.join hO (SortedIn.join hO sp.l1 sp.l2 (fun t u h1 h2 h3 h4=> ?_)) (SortedIn.join hO sp.r1 sp.r2 (fun t u h1 h2 h3 h4=>absurd h4 (by omega))) sp.cross;rw[hr.2,if_pos (by omega),hr.2,if_neg (by omega),if_neg (by omega),at_eq d (show u+(m-i)=m by omega)];exact H1 t h1 h2
end Go.Proofs.Ytjegeghigfmkoaa.So
namespace Go.Proofs.Ytjegeghigfmkoaa.So
open Go.Sort
set_option maxRecDepth 100000
set_option linter.unusedVariables false
set_option linter.unusedSimpArgs false
variable {α:Type} [Inhabited α] {lt:α→α→Bool}
inductive Runs (lt:α→α→Bool) (s n:Nat) (d:Array α):Nat→Prop
 |stop (x:Nat):n≤x→Runs lt s n d x
 |run (x:Nat):x<n→SortedIn lt x (min (x+s) n) d→Runs lt s n d (x+s)→Runs lt s n d x
inductive Front (lt:α→α→Bool) (s:Nat) (d:Array α):Nat→Prop
 |zero:Front lt s d 0
 |more (x:Nat):Front lt s d x→SortedIn lt x (x+s) d→Front lt s d (x+s)
theorem Runs.keep {s n x:Nat} {d d' :Array α} (h:Runs lt s n d x):(∀t,x≤t→d'[t]! =d[t]!)→Runs lt s n d' x:=by
 induction h with
 |stop x hx=>intro _;exact .stop x hx
 |run x hx hs _ ih=>intro he;exact .run x hx (SortedIn.same hs (fun t ht _=>he t ht)) (ih (fun t ht=>he t (by omega)))
theorem Front.keep {s x:Nat} {d d' :Array α} (h:Front lt s d x):(∀t,t<x→d'[t]! =d[t]!)→Front lt s d' x:=by
 induction h with
 |zero=>intro _;exact .zero
 |more x _ hs ih=>intro he;exact .more x (ih (fun t ht=>he t (by omega))) (SortedIn.same hs (fun t _ ht=>he t ht))
theorem Front.join {s n x:Nat} {d:Array α} (hs0:0<s) (h:Front lt s d x):x≤n→Runs lt s n d x→Runs lt s n d 0:=by
 induction h with
 |zero=>intro _ h;exact h
 |more x _ hs ih=>
  intro hn hr;refine ih (by omega) (.run x (by omega) ?_ hr);rw[Nat.min_eq_left hn];exact hs
theorem Runs.two {s n x:Nat} {d:Array α} (h:Runs lt s n d x) (hx:x+2*s≤n) (hs:0<s):SortedIn lt x (x+s) d∧SortedIn lt (x+s) (x+2*s) d∧Runs lt s n d (x+2*s):=by
 cases h with
 |stop _ h=>omega
 | run _ h1 h2 h3=>
  rw[Nat.min_eq_left (by omega)] at h2;cases h3 with
  |stop _ h=>omega
  |run _ g1 g2 g3=>
   rw[Nat.min_eq_left (by omega)] at g2;refine⟨h2,?_,?_⟩
   ·rw[show x+2*s=x+s+s by omega];exact g2
   ·rw[show x+2*s=x+s+s by omega];exact g3
theorem Runs.last {s n x:Nat} {d:Array α} (h:Runs lt s n d x) (h1:x+s<n) (h2:n<x+2*s):SortedIn lt x (x+s) d∧SortedIn lt (x+s) n d:=by
 cases h with
 |stop _ h=>omega
 | run _ q1 q2 q3=>
  rw[Nat.min_eq_left (by omega)] at q2;cases q3 with
  |stop _ h=>omega
  |run _ g1 g2 g3=>
   rw[Nat.min_eq_right (by omega)] at g2;exact⟨q2,g2⟩
theorem Runs.one {s n x:Nat} {d:Array α} (h:Runs lt s n d x) (h1:n≤x+s):SortedIn lt x n d:=by
 cases h with
 |stop _ h=>exact fun i j hi hij hj=>absurd hj (by omega)
 |run _ q1 q2 q3=>rw[Nat.min_eq_right h1] at q2;exact q2
theorem Runs.ofLast {s n x:Nat} {d:Array α} (h:SortedIn lt x n d) (h1:n≤x+s):Runs lt s n d x:=by
 rcases Nat.lt_or_ge x n with c|c
 ·refine .run x c ?_ (.stop _ h1);rw[Nat.min_eq_right h1];exact h
 ·exact .stop x c
end Go.Proofs.Ytjegeghigfmkoaa.So
