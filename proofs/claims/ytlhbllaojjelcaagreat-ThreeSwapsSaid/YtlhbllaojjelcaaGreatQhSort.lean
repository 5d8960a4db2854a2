/- Plain words for a stable sort in place: what swaps, shifts, rotations and merges make of a list. No program is named. -/
import Derived.WalkKit

set_option linter.unusedVariables false
namespace Go.Proofs.YtlhbllaojjelcaaGreat
def atL(xs:List Nat)(i:Nat):Nat:=xs.getD i 0
variable{i:Nat}{xs:List Nat}
theorem zrG(h:i<xs.length):xs[i]?=some (atL xs i):=by
 unfold atL;rw[List.getD_eq_getElem?_getD,List.getElem?_eq_getElem h];rfl
def swapL(xs:List Nat)(i j:Nat):List Nat:=(xs.set i (atL xs j)).set j (atL xs i)
theorem zjS(xs:List Nat)(i j:Nat):(swapL xs i j).length=xs.length:=by simp[swapL]
variable{k x:Nat}
theorem zkZ(hi:i<xs.length):atL (xs.set i x) k=if k=i then x else atL xs k:=by
 unfold atL;rw[List.getD_eq_getElem?_getD,List.getD_eq_getElem?_getD,List.getElem?_set];by_cases h:k=i
 . subst h;simp[hi]
 . rw[if_neg (fun e=>h e.symm),if_neg h]
variable{j:Nat}
theorem zeR(hi:i<xs.length)(hj:j<xs.length):atL (swapL xs i j) k=if k=j then atL xs i else if k=i then atL xs j else atL xs k:=by
 unfold swapL;rw[zkZ (by simpa using hj),zkZ hi]
theorem zjT{c:Nat}(hi:i<xs.length):(xs.set i x).count c+(if atL xs i=c then 1 else 0)=xs.count c+(if x=c then 1 else 0):=by
 induction xs generalizing i with
 |nil=>simp at hi
 |cons y l ih=>
  cases i with
  |zero=>
   simp only[List.set_cons_zero,List.count_cons,atL,List.getD_cons_zero];simp only[beq_iff_eq];omega
  |succ i=>
   simp only[List.length_cons]at hi;have:=ih (i:=i) (by omega);simp only[List.set_cons_succ,List.count_cons];have e:atL (y::l) (i+1)=atL l i:=by simp[atL]
   rw[e];omega
theorem zmP(hi:i<xs.length)(hj:j<xs.length):(swapL xs i j).Perm xs:=by
 rw[List.perm_iff_count];intro c;have h1:=zjT (xs:=xs.set i (atL xs j)) (i:=j) (x:=atL xs i) (c:=c) (by simpa using hj);have h2:=zjT (xs:=xs) (i:=i) (x:=atL xs j) (c:=c) hi;rw[zkZ hi]at h1;unfold swapL;by_cases e:j=i
 . subst e
   rw[if_pos rfl]at h1;omega
 . rw[if_neg e]at h1
   omega
structure Moves(a b:Nat)(xs ys:List Nat):Prop where
 len:ys.length=xs.length
 out:∀i,i<a\/b<=i->atL ys i=atL xs i
 inn:∀u,a<=u->u<b->∃u',a<=u'/\u'<b/\atL ys u=atL xs u'
 perm:ys.Perm xs
theorem Moves.refl(a b:Nat)(xs:List Nat):Moves a b xs xs:=⟨rfl,fun _ _=>rfl,fun u h1 h2=>⟨u,h1,h2,rfl⟩,List.Perm.refl _⟩
variable{ys:List Nat}{a b:Nat}
theorem Moves.trans{zs:List Nat}(h:Moves a b xs ys)(k:Moves a b ys zs):Moves a b xs zs:=
 ⟨k.len.trans h.len,fun i hi=>(k.out i hi).trans (h.out i hi),fun u h1 h2=>by
  obtain⟨v,v1,v2,e⟩:=k.inn u h1 h2;obtain⟨z,z1,z2,e2⟩:=h.inn v v1 v2
  exact⟨z,z1,z2,e.trans e2⟩,k.perm.trans h.perm⟩
theorem Moves.wide{a' b':Nat}(h:Moves a b xs ys)(h1:a'<=a)(h2:b<=b'):Moves a' b' xs ys:=
 ⟨h.len,fun i hi=>h.out i (by omega),fun u u1 u2=>by
  by_cases hu:a<=u/\u<b
  . obtain⟨v,v1,v2,e⟩:=h.inn u hu.1 hu.2
    exact⟨v,by omega,by omega,e⟩
  . exact⟨u,u1,u2,h.out u (by omega)⟩,h.perm⟩
theorem Moves.swap(hi:a<=i/\i<b)(hj:a<=j/\j<b)(hb:b<=xs.length):Moves a b xs (swapL xs i j):=by
 refine⟨zjS ..,fun k hk=> ?_,fun u h1 h2=> ?_,zmP (by omega) (by omega)⟩
 . rw[zeR (by omega) (by omega),if_neg (by omega),if_neg (by omega)]
 . rw[zeR (by omega) (by omega)]
   by_cases e:u=j
   . exact⟨i,hi.1,hi.2,by rw[if_pos e]⟩
   . by_cases e2:u=i
     . exact⟨j,hj.1,hj.2,by rw[if_neg e,if_pos e2]⟩
     . exact⟨u,h1,h2,by rw[if_neg e,if_neg e2]⟩
def ltK(key:Nat->Int)(x y:Nat):Prop:=key x<key y\/(key x=key y/\x<y)
variable{y:Nat}{key:Nat->Int}
theorem znV{z:Nat}(h:ltK key x y)(k:ltK key y z):ltK key x z:=by unfold ltK at*;omega
theorem znW(h:ltK key x y):key x<=key y:=by unfold ltK at h;omega
def Srt(key:Nat->Int)(xs:List Nat)(a b:Nat):Prop:=∀u v,a<=u->u<v->v<b->ltK key (atL xs u) (atL xs v)
section
variable {key:Nat->Int}
structure InsO(key:Nat->Int)(xs ys:List Nat)(a i:Nat):Prop where
 mv:Moves a i xs ys
 srt:Srt key ys a i
structure InsI(key:Nat->Int)(xs ys:List Nat)(a i j:Nat):Prop where
 mv:Moves a (i+1) xs ys
 aj:a<=j
 ji:j<=i
 here:atL ys j=atL xs i
 srt:∀u v,a<=u->u<v->v<i+1->u≠j->v≠j->ltK key (atL ys u) (atL ys v)
 low:∀v,j<v->v<i+1->ltK key (atL ys j) (atL ys v)
 raw:∀u,a<=u->u<i+1->u≠j->atL ys u<atL ys j
theorem InsO.start(xs:List Nat)(a:Nat):InsO key xs xs a (a+1):=⟨Moves.refl _ _ _,fun u v h1 h2 h3=>by omega⟩
theorem InsO.inner{xs ys:List Nat}{a i b:Nat}(h:InsO key xs ys a i)(hi:a<=i)(hb:i<b)(hinc:∀u v,a<=u->u<v->v<b->atL xs u<atL xs v):InsI key xs ys a i i:=by
 have he:atL ys i=atL xs i:=h.mv.out i (by omega);refine⟨h.mv.wide (Nat.le_refl _) (by omega),hi,Nat.le_refl _,he,fun u v h1 h2 h3 h4 h5=>h.srt u v h1 h2 (by omega),fun v h1 h2=>by omega,fun u h1 h2 h3=> ?_⟩;obtain⟨v,v1,v2,e⟩:=h.mv.inn u h1 (by omega);rw[e,he];exact hinc v i v1 v2 hb
theorem InsI.step{xs ys:List Nat}{a i j:Nat}(h:InsI key xs ys a i j)(hl:i<xs.length)(hj:a<j)(hk:key (atL ys j)<key (atL ys (j - 1))):InsI key xs (swapL ys j (j - 1)) a i (j - 1):=by
 have hji:=h.ji;have hly:=h.mv.len;have hs:∀k,atL (swapL ys j (j - 1)) k=if k=j - 1 then atL ys j else if k=j then atL ys (j - 1)else atL ys k:=fun k=>zeR (by omega) (by omega)
 refine⟨h.mv.trans (Moves.swap (by omega) (by omega) (by omega)),by omega,by omega,by rw[hs,if_pos rfl];exact h.here,fun u v h1 h2 h3 h4 h5=> ?_,fun v h1 h2=> ?_,fun u h1 h2 h3=> ?_⟩
 . rw[hs,hs,if_neg h4,if_neg h5]
   by_cases e1:u=j
   . rw[if_pos e1,if_neg (by omega)]
     exact h.srt (j - 1) v (by omega) (by omega) h3 (by omega) (by omega)
   . rw[if_neg e1]
     by_cases e2:v=j
     . rw[if_pos e2]
       exact h.srt u (j - 1) h1 (by omega) (by omega) e1 (by omega)
     . rw[if_neg e2]
       exact h.srt u v h1 h2 h3 e1 e2
 . rw[hs,hs,if_pos rfl,if_neg (by omega)]
   by_cases e:v=j
   . rw[if_pos e]
     exact .inl hk
   . rw[if_neg e]
     exact h.low v (by omega) h2
 . rw[hs,hs,if_pos rfl,if_neg h3]
   by_cases e:u=j
   . rw[if_pos e]
     exact h.raw (j - 1) (by omega) (by omega) (by omega)
   . rw[if_neg e]
     exact h.raw u h1 h2 e
theorem InsI.stop{xs ys:List Nat}{a i j:Nat}(h:InsI key xs ys a i j)(hs:j=a\/¬key (atL ys j)<key (atL ys (j - 1))):InsO key xs ys a (i+1):=by
 refine⟨h.mv,fun u v h1 h2 h3=> ?_⟩;by_cases e2:v=j
 . subst e2
   rcases hs with hs|hs
   . omega
   . have hr:=h.raw (v - 1) (by omega) (by omega) (by omega)
     have hlt:ltK key (atL ys (v - 1)) (atL ys v):=by unfold ltK;omega
     by_cases e:u=v - 1
     . rw[e];exact hlt
     . exact znV (h.srt u (v - 1) h1 (by omega) (by omega) (by omega) (by omega)) hlt
 . by_cases e1:u=j
   . subst e1
     exact h.low v h2 h3
   . exact h.srt u v h1 h2 h3 e1 e2
structure SwR(xs ys:List Nat)(a b n i:Nat):Prop where
 mv:Moves a (b+n) xs ys
 left:∀k,a<=k->k<a+i->atL ys k=atL xs (k - a+b)
 right:∀k,b<=k->k<b+i->atL ys k=atL xs (k - b+a)
 rest:∀k,(k<a\/a+i<=k)->(k<b\/b+i<=k)->atL ys k=atL xs k
theorem SwR.start(xs:List Nat)(a b n:Nat):SwR xs xs a b n 0:=⟨Moves.refl _ _ _,fun k h1 h2=>by omega,fun k h1 h2=>by omega,fun _ _ _=>rfl⟩
theorem SwR.step{xs ys:List Nat}{a b n i:Nat}(h:SwR xs ys a b n i)(hi:i<n)(hab:a+n<=b)(hb:b+n<=xs.length):SwR xs (swapL ys (a+i) (b+i)) a b n (i+1):=by
 have hly:=h.mv.len;have hs:∀k,atL (swapL ys (a+i) (b+i)) k=if k=b+i then atL ys (a+i)else if k=a+i then atL ys (b+i)else atL ys k:=fun k=>zeR (by omega) (by omega)
 have e1:=h.rest (a+i) (by omega) (by omega);have e2:=h.rest (b+i) (by omega) (by omega);refine⟨h.mv.trans (Moves.swap (by omega) (by omega) (by omega)),fun k h1 h2=> ?_,fun k h1 h2=> ?_,fun k h1 h2=> ?_⟩
 . rw[hs,if_neg (by omega)]
   by_cases e:k=a+i
   . rw[if_pos e,e2,e,show a+i - a+b=b+i by omega]
   . rw[if_neg e]
     exact h.left k h1 (by omega)
 . rw[hs]
   by_cases e:k=b+i
   . rw[if_pos e,e1,e,show b+i - b+a=a+i by omega]
   . rw[if_neg e,if_neg (by omega)]
     exact h.right k h1 (by omega)
 . rw[hs,if_neg (by omega),if_neg (by omega)]
   exact h.rest k (by omega) (by omega)
structure Rot(xs ys:List Nat)(a m b i j:Nat):Prop where
 mv:Moves a b xs ys
 bi:a+i<=m
 bj:m+j<=b
 done:∀k,a<=k->k<b->(k<m - i\/m+j<=k)->atL ys k=if k<a+(b - m)then atL xs (k - a+m)else atL xs (k - (a+(b - m))+a)
 one:∀k,m - i<=k->k<m - i+j->atL ys (k+i)=if k<a+(b - m)then atL xs (k - a+m)else atL xs (k - (a+(b - m))+a)
 two:∀k,m - i+j<=k->k<m+j->atL ys (k - j)=if k<a+(b - m)then atL xs (k - a+m)else atL xs (k - (a+(b - m))+a)
theorem Rot.start{xs:List Nat}{a m b:Nat}(h1:a<=m)(h2:m<=b):Rot xs xs a m b (m - a) (b - m):=by
 refine⟨Moves.refl _ _ _,by omega,by omega,fun k k1 k2 k3=>by omega,fun k k1 k2=> ?_,fun k k1 k2=> ?_⟩
 . rw[if_pos (by omega),show k+(m - a)=k - a+m by omega]
 . rw[if_neg (by omega),show k - (b - m)=k - (a+(b - m))+a by omega]
theorem Rot.left{xs ys zs:List Nat}{a m b i j:Nat}(h:Rot xs ys a m b i j)(hij:j<i)(hs:SwR ys zs (m - i) m j j):Rot xs zs a m b (i - j) j:=by
 have hbi:=h.bi;have hbj:=h.bj;refine⟨h.mv.trans (hs.mv.wide (by omega) (by omega)),by omega,by omega,fun k k1 k2 k3=> ?_,fun k k1 k2=> ?_,fun k k1 k2=> ?_⟩
 . by_cases c1:k<m - i\/m+j<=k
   . rw[hs.rest k (by omega) (by omega)]
     exact h.done k k1 k2 c1
   . rw[hs.left k (by omega) (by omega),<-h.one k (by omega) (by omega)]
     congr 1;omega
 . rw[hs.right (k+(i - j)) (by omega) (by omega),<-h.two k (by omega) (by omega)]
   congr 1;omega
 . rw[hs.rest (k - j) (by omega) (by omega)]
   exact h.two k (by omega) k2
theorem Rot.right{xs ys zs:List Nat}{a m b i j:Nat}(h:Rot xs ys a m b i j)(hij:i<j)(hs:SwR ys zs (m - i) (m+j - i) i i):Rot xs zs a m b i (j - i):=by
 have hbi:=h.bi;have hbj:=h.bj;refine⟨h.mv.trans (hs.mv.wide (by omega) (by omega)),by omega,by omega,fun k k1 k2 k3=> ?_,fun k k1 k2=> ?_,fun k k1 k2=> ?_⟩
 . by_cases c1:k<m - i\/m+j<=k
   . rw[hs.rest k (by omega) (by omega)]
     exact h.done k k1 k2 c1
   . rw[hs.right k (by omega) (by omega),<-h.two k (by omega) (by omega)]
     congr 1;omega
 . rw[hs.rest (k+i) (by omega) (by omega)]
   exact h.one k (by omega) (by omega)
 . rw[hs.left (k - (j - i)) (by omega) (by omega),<-h.one k (by omega) (by omega)]
   congr 1;omega
structure Rotd(xs ys:List Nat)(a m b:Nat):Prop where
 mv:Moves a b xs ys
 one:∀k,a<=k->k<a+(b - m)->atL ys k=atL xs (k - a+m)
 two:∀k,a+(b - m)<=k->k<b->atL ys k=atL xs (k - (a+(b - m))+a)
theorem Rot.stop{xs ys zs:List Nat}{a m b i:Nat}(h:Rot xs ys a m b i i)(h1:a<=m)(h2:m<=b)(hs:SwR ys zs (m - i) m i i):Rotd xs zs a m b:=by
 have hbi:=h.bi;have hbj:=h.bj
 have key:∀k,a<=k->k<b->atL zs k=if k<a+(b - m)then atL xs (k - a+m)else atL xs (k - (a+(b - m))+a):=by
  intro k k1 k2;by_cases c1:k<m - i\/m+i<=k
  . rw[hs.rest k (by omega) (by omega)]
    exact h.done k k1 k2 c1
  . by_cases c2:k<m
    . rw[hs.left k (by omega) (by omega),<-h.one k (by omega) (by omega)]
      congr 1;omega
    . rw[hs.right k (by omega) (by omega),<-h.two k (by omega) (by omega)]
      congr 1;omega
 refine⟨h.mv.trans (hs.mv.wide (by omega) (by omega)),fun k k1 k2=> ?_,fun k k1 k2=> ?_⟩
 . rw[key k k1 (by omega),if_pos k2]
 . rw[key k (by omega) k2,if_neg (by omega)]
theorem Rotd.none{xs:List Nat}{a m b:Nat}(h:a=m\/m=b)(h1:a<=m)(h2:m<=b):Rotd xs xs a m b:=by
 refine⟨Moves.refl _ _ _,fun k k1 k2=> ?_,fun k k1 k2=> ?_⟩<;>(congr 1;omega)
structure MgP(key:Nat->Int)(xs:List Nat)(a m b:Nat):Prop where
 am:a<m
 mb:m<b
 bl:b<=xs.length
 left:Srt key xs a m
 right:Srt key xs m b
 sep:∀u v,a<=u->u<m->m<=v->v<b->atL xs u<atL xs v
structure MgD(key:Nat->Int)(xs ys:List Nat)(a b:Nat):Prop where
 mv:Moves a b xs ys
 srt:Srt key ys a b
structure ShL(xs ys:List Nat)(a k:Nat):Prop where
 mv:Moves a (k+1) xs ys
 gone:∀u,a<=u->u<k->atL ys u=atL xs (u+1)
 here:atL ys k=atL xs a
theorem ShL.start(xs:List Nat)(a:Nat):ShL xs xs a a:=⟨Moves.refl _ _ _,fun u h1 h2=>by omega,rfl⟩
theorem ShL.step{xs ys:List Nat}{a k:Nat}(h:ShL xs ys a k)(hak:a<=k)(hk:k+1<xs.length):ShL xs (swapL ys k (k+1)) a (k+1):=by
 have hly:=h.mv.len;have hs:∀u,atL (swapL ys k (k+1)) u=if u=k+1 then atL ys k else if u=k then atL ys (k+1)else atL ys u:=fun u=>zeR (by omega) (by omega)
 refine⟨(h.mv.wide (Nat.le_refl _) (by omega)).trans (Moves.swap (by omega) (by omega) (by omega)),fun u h1 h2=> ?_,by rw[hs,if_pos rfl];exact h.here⟩;rw[hs,if_neg (by omega)];by_cases e:u=k
 . rw[if_pos e,h.mv.out (k+1) (by omega),e]
 . rw[if_neg e]
   exact h.gone u h1 (by omega)
theorem ShL.merged{xs ys:List Nat}{a b i:Nat}(hp:MgP key xs a (a+1) b)(hi:a+1<=i)(hib:i<=b)(h:ShL xs ys a (i - 1))(h1:∀u,a+1<=u->u<i->key (atL xs u)<key (atL xs a))(h2:∀u,i<=u->u<b->¬key (atL xs u)<key (atL xs a)):MgD key xs ys a b:=by
 have hlow:∀u,a+1<=u->u<i->ltK key (atL xs u) (atL xs a):=fun u u1 u2=>.inl (h1 u u1 u2)
 have hup:∀u,i<=u->u<b->ltK key (atL xs a) (atL xs u):=fun u u1 u2=>by
  have:=h2 u u1 u2;have:=hp.sep a u (by omega) (by omega) (by omega) u2;unfold ltK;omega
 have hv:∀u,a<=u->u<b->atL ys u=if u<i - 1 then atL xs (u+1)else if u=i - 1 then atL xs a else atL xs u:=by
  intro u u1 u2;by_cases c:u<i - 1
  . rw[if_pos c];exact h.gone u u1 c
  . rw[if_neg c]
    by_cases c2:u=i - 1
    . rw[if_pos c2,c2];exact h.here
    . rw[if_neg c2];exact h.mv.out u (by omega)
 refine⟨h.mv.wide (Nat.le_refl _) (by omega),fun u v u1 u2 u3=> ?_⟩;rw[hv u u1 (by omega),hv v (by omega) u3];by_cases c1:u<i - 1
 . rw[if_pos c1]
   by_cases d1:v<i - 1
   . rw[if_pos d1]
     exact hp.right (u+1) (v+1) (by omega) (by omega) (by omega)
   . rw[if_neg d1]
     by_cases d2:v=i - 1
     . rw[if_pos d2]
       exact hlow (u+1) (by omega) (by omega)
     . rw[if_neg d2]
       exact hp.right (u+1) v (by omega) (by omega) u3
 . rw[if_neg c1,if_neg (show¬v<i - 1 by omega),if_neg (show¬v=i - 1 by omega)]
   by_cases c2:u=i - 1
   . rw[if_pos c2]
     exact hup v (by omega) u3
   . rw[if_neg c2]
     exact hp.right u v (by omega) u2 u3
structure ShR(xs ys:List Nat)(k m:Nat):Prop where
 mv:Moves k (m+1) xs ys
 gone:∀u,k<u->u<m+1->atL ys u=atL xs (u - 1)
 here:atL ys k=atL xs m
theorem ShR.start(xs:List Nat)(m:Nat):ShR xs xs m m:=⟨Moves.refl _ _ _,fun u h1 h2=>by omega,rfl⟩
theorem ShR.step{xs ys:List Nat}{k m:Nat}(h:ShR xs ys k m)(hk0:0<k)(hkm:k<=m)(hm:m<xs.length):ShR xs (swapL ys k (k - 1)) (k - 1) m:=by
 have hly:=h.mv.len;have hs:∀u,atL (swapL ys k (k - 1)) u=if u=k - 1 then atL ys k else if u=k then atL ys (k - 1)else atL ys u:=fun u=>zeR (by omega) (by omega)
 refine⟨(h.mv.wide (by omega) (Nat.le_refl _)).trans (Moves.swap (by omega) (by omega) (by omega)),fun u h1 h2=> ?_,by rw[hs,if_pos rfl];exact h.here⟩;rw[hs,if_neg (by omega)];by_cases e:u=k
 . rw[if_pos e,h.mv.out (k - 1) (by omega),e]
 . rw[if_neg e]
   exact h.gone u (by omega) h2
theorem ShR.merged{xs ys:List Nat}{a m i:Nat}(hp:MgP key xs a m (m+1))(hi:a<=i)(him:i<=m)(h:ShR xs ys i m)(h1:∀u,a<=u->u<i->¬key (atL xs m)<key (atL xs u))(h2:∀u,i<=u->u<m->key (atL xs m)<key (atL xs u)):MgD key xs ys a (m+1):=by
 have hlow:∀u,a<=u->u<i->ltK key (atL xs u) (atL xs m):=fun u u1 u2=>by
  have:=h1 u u1 u2;have:=hp.sep u m u1 (by omega) (by omega) (by omega);unfold ltK;omega
 have hup:∀u,i<=u->u<m->ltK key (atL xs m) (atL xs u):=fun u u1 u2=>.inl (h2 u u1 u2)
 have hv:∀u,a<=u->u<m+1->atL ys u=if u<i then atL xs u else if u=i then atL xs m else atL xs (u - 1):=by
  intro u u1 u2;by_cases c:u<i
  . rw[if_pos c];exact h.mv.out u (by omega)
  . rw[if_neg c]
    by_cases c2:u=i
    . rw[if_pos c2,c2];exact h.here
    . rw[if_neg c2];exact h.gone u (by omega) u2
 refine⟨h.mv.wide hi (Nat.le_refl _),fun u v u1 u2 u3=> ?_⟩;rw[hv u u1 (by omega),hv v (by omega) u3];by_cases c1:u<i
 . rw[if_pos c1]
   by_cases d1:v<i
   . rw[if_pos d1]
     exact hp.left u v u1 u2 (by omega)
   . rw[if_neg d1]
     by_cases d2:v=i
     . rw[if_pos d2]
       exact hlow u u1 c1
     . rw[if_neg d2]
       exact hp.left u (v - 1) u1 (by omega) (by omega)
 . rw[if_neg c1,if_neg (show¬v<i by omega),if_neg (show¬v=i by omega)]
   by_cases c2:u=i
   . rw[if_pos c2]
     exact hup (v - 1) (by omega) (by omega)
   . rw[if_neg c2]
     exact hp.left (u - 1) (v - 1) (by omega) (by omega) (by omega)
structure Find(key:Nat->Int)(xs:List Nat)(p s0 r0 s r:Nat):Prop where
 s0s:s0<=s
 sr:s<=r
 rr0:r<=r0
 low:∀c,s0<=c->c<s->¬key (atL xs (p - c))<key (atL xs c)
 up:∀c,r<=c->c<r0->key (atL xs (p - c))<key (atL xs c)
theorem Find.start{xs:List Nat}{p s0 r0:Nat}(h:s0<=r0):Find key xs p s0 r0 s0 r0:=⟨Nat.le_refl _,h,Nat.le_refl _,fun c h1 h2=>by omega,fun c h1 h2=>by omega⟩
theorem zcN{xs:List Nat}{a b u v:Nat}(h:Srt key xs a b)(h1:a<=u)(h2:u<=v)(h3:v<b):key (atL xs u)<=key (atL xs v):=by
 by_cases e:u=v
 . rw[e];exact Int.le_refl _
 . exact znW (h u v h1 (by omega) h3)
structure Mid(a m b p s0 r0:Nat):Prop where
 as0:a<=s0
 r0m:r0<=m
 s0r0:s0<=r0
 right:∀c,s0<=c->c<r0->m<=p - c/\p - c<b/\c<=p
theorem Find.low_{xs:List Nat}{a m b p s0 r0 s r c:Nat}(hp:MgP key xs a m b)(hm:Mid a m b p s0 r0)(h:Find key xs p s0 r0 s r)(h1:s<=c)(h2:c<r)(hk:¬key (atL xs (p - c))<key (atL xs c)):Find key xs p s0 r0 (c+1) r:=by
 have k1:=h.s0s;have k2:=h.rr0;have k3:=hm.as0;have k4:=hm.r0m;refine⟨by omega,by omega,k2,fun d d1 d2=> ?_,h.up⟩;have r1:=hm.right d d1 (by omega);have r2:=hm.right c (by omega) (by omega);have e1:=zcN hp.left (u:=d) (v:=c) (by omega) (by omega) (by omega);have e2:=zcN hp.right (u:=p - c) (v:=p - d) (by omega) (by omega) (by omega);omega
theorem Find.up_{xs:List Nat}{a m b p s0 r0 s r c:Nat}(hp:MgP key xs a m b)(hm:Mid a m b p s0 r0)(h:Find key xs p s0 r0 s r)(h1:s<=c)(h2:c<r)(hk:key (atL xs (p - c))<key (atL xs c)):Find key xs p s0 r0 s c:=by
 have k1:=h.s0s;have k2:=h.rr0;have k3:=hm.as0;have k4:=hm.r0m;refine⟨k1,h1,by omega,h.low,fun d d1 d2=> ?_⟩;have r1:=hm.right d (by omega) d2;have r2:=hm.right c (by omega) (by omega);have e1:=zcN hp.left (u:=c) (v:=d) (by omega) (by omega) (by omega);have e2:=zcN hp.right (u:=p - d) (v:=p - c) (by omega) (by omega) (by omega);omega
structure zcK(key:Nat->Int)(xs ys:List Nat)(a m b s mid e:Nat):Prop where
 mv:Moves a b xs ys
 bd:a<=s/\s<=mid/\mid<=e/\e<=b/\a<mid/\mid<b
 l1:Srt key ys a s
 l2:Srt key ys s mid
 r1:Srt key ys mid e
 r2:Srt key ys e b
 sepl:∀u v,a<=u->u<s->s<=v->v<mid->atL ys u<atL ys v
 sepr:∀u v,mid<=u->u<e->e<=v->v<b->atL ys u<atL ys v
 cross:∀u v,a<=u->u<mid->mid<=v->v<b->ltK key (atL ys u) (atL ys v)
theorem zqH{xs ys:List Nat}{a m b s mid s0 r0:Nat}(hp:MgP key xs a m b)(hmid:mid=(a+b) / 2)(h2:a+2<=b)(h0:(mid<m/\s0=mid+m - b/\r0=mid)\/(m<=mid/\s0=a/\r0=m))(hf:Find key xs (mid+m - 1) s0 r0 s s)(hr:Rotd xs ys s m (mid+m - s)):zcK key xs ys a m b s mid (mid+m - s):=by
 have am:=hp.am;have mb:=hp.mb;have k1:=hf.s0s;have k2:=hf.rr0;have hsm:s<=m/\s<=mid:=by omega
 have hsa:a<=s:=by omega
 have heb:mid+m - s<=b:=by omega
 have hw:s+(mid+m - s - m)=mid:=by omega
 have o1:=hr.one;have o2:=hr.two;rw[hw]at o1 o2;have va:∀u,a<=u->u<s->atL ys u=atL xs u:=fun u u1 u2=>hr.mv.out u (by omega)
 have vb:∀u,mid+m - s<=u->atL ys u=atL xs u:=fun u u1=>hr.mv.out u (by omega)
 refine⟨hr.mv.wide hsa heb,by omega,fun u v u1 u2 u3=> ?_,fun u v u1 u2 u3=> ?_,fun u v u1 u2 u3=> ?_,fun u v u1 u2 u3=> ?_,fun u v u1 u2 u3 u4=> ?_,fun u v u1 u2 u3 u4=> ?_,fun u v u1 u2 u3 u4=> ?_⟩
 . rw[va u u1 (by omega),va v (by omega) u3]
   exact hp.left u v u1 u2 (by omega)
 . rw[o1 u u1 (by omega),o1 v (by omega) u3]
   exact hp.right _ _ (by omega) (by omega) (by omega)
 . rw[o2 u u1 (by omega),o2 v (by omega) u3]
   exact hp.left _ _ (by omega) (by omega) (by omega)
 . rw[vb u u1,vb v (by omega)]
   exact hp.right u v (by omega) u2 u3
 . rw[va u u1 u2,o1 v u3 u4]
   exact hp.sep _ _ u1 (by omega) (by omega) (by omega)
 . rw[o2 u u1 u2,vb v u3]
   exact hp.sep _ _ (by omega) (by omega) (by omega) u4
 .
  by_cases cu:u<s
  . rw[va u u1 cu]
    by_cases cv:v<mid+m - s
    . rw[o2 v u3 cv]
      exact hp.left _ _ u1 (by omega) (by omega)
    . rw[vb v (by omega)]
      have hs0:s0<s:=by
       rcases h0 with⟨c1,c2,c3⟩|⟨c1,c2,c3⟩<;>omega
      have hl:=hf.low (s - 1) (by omega) (by omega);rw[show mid+m - 1 - (s - 1)=mid+m - s by omega]at hl;have e1:=zcN hp.left (u:=u) (v:=s - 1) u1 (by omega) (by omega);have e2:=zcN hp.right (u:=mid+m - s) (v:=v) (by omega) (by omega) u4;have e3:=hp.sep u v u1 (by omega) (by omega) u4;unfold ltK;omega
  . rw[o1 u (by omega) u2]
    by_cases cv:v<mid+m - s
    . rw[o2 v u3 cv]
      have hr0:s<r0:=by
       rcases h0 with⟨c1,c2,c3⟩|⟨c1,c2,c3⟩<;>omega
      have hu:=hf.up s (Nat.le_refl _) hr0;have e1:=zcN hp.left (u:=s) (v:=v - mid+s) (by omega) (by omega) (by omega);have e2:=zcN hp.right (u:=u - s+m) (v:=mid+m - 1 - s) (by omega) (by omega) (by omega);exact .inl (by omega)
    . rw[vb v (by omega)]
      exact hp.right _ _ (by omega) (by omega) u4
theorem zcK.leftP{xs ys:List Nat}{a m b s mid e:Nat}(h:zcK key xs ys a m b s mid e)(hb:b<=xs.length)(h1:a<s)(h2:s<mid):MgP key ys a s mid:=
 ⟨h1,h2,by rw[h.mv.len];have:=h.bd;omega,h.l1,h.l2,h.sepl⟩
theorem zcK.left{xs ys zs:List Nat}{a m b s mid e:Nat}(h:zcK key xs ys a m b s mid e)(hm:MgD key ys zs a mid):Srt key zs a mid/\zcK key xs zs a m b mid mid e:=by
 have hbd:=h.bd;have ho:∀u,mid<=u->atL zs u=atL ys u:=fun u hu=>hm.mv.out u (by omega)
 refine⟨hm.srt,h.mv.trans (hm.mv.wide (Nat.le_refl _) (by omega)),by omega,hm.srt,fun u v u1 u2 u3=>by omega,fun u v u1 u2 u3=> ?_,fun u v u1 u2 u3=> ?_,fun u v u1 u2 u3 u4=>by omega,fun u v u1 u2 u3 u4=> ?_,fun u v u1 u2 u3 u4=> ?_⟩
 . rw[ho u u1,ho v (by omega)];exact h.r1 u v u1 u2 u3
 . rw[ho u (by omega),ho v (by omega)];exact h.r2 u v u1 u2 u3
 . rw[ho u u1,ho v (by omega)];exact h.sepr u v u1 u2 u3 u4
 . obtain⟨w,w1,w2,ew⟩:=hm.mv.inn u u1 u2
   rw[ew,ho v u3];exact h.cross w v w1 w2 u3 u4
theorem zcK.left_none{xs ys:List Nat}{a m b s mid e:Nat}(h:zcK key xs ys a m b s mid e)(hn:¬(a<s/\s<mid)):MgD key ys ys a mid:=by
 have hbd:=h.bd;refine⟨Moves.refl _ _ _,fun u v u1 u2 u3=> ?_⟩;by_cases c:s<=u
 . exact h.l2 u v c u2 u3
 . exact h.l1 u v u1 u2 (by omega)
theorem zcK.rightP{xs ys:List Nat}{a m b s mid e:Nat}(h:zcK key xs ys a m b s mid e)(hb:b<=xs.length)(h1:mid<e)(h2:e<b):MgP key ys mid e b:=
 ⟨h1,h2,by rw[h.mv.len];exact hb,h.r1,h.r2,h.sepr⟩
theorem zcK.right_none{xs ys:List Nat}{a m b s mid e:Nat}(h:zcK key xs ys a m b s mid e)(hn:¬(mid<e/\e<b)):MgD key ys ys mid b:=by
 have hbd:=h.bd;refine⟨Moves.refl _ _ _,fun u v u1 u2 u3=> ?_⟩;by_cases c:e<=u
 . exact h.r2 u v c u2 u3
 . exact h.r1 u v u1 u2 (by omega)
theorem zcK.done{xs ys zs:List Nat}{a m b s mid e:Nat}(h:zcK key xs ys a m b s mid e)(hs:Srt key ys a mid)(hm:MgD key ys zs mid b):MgD key xs zs a b:=by
 have hbd:=h.bd;have ho:∀u,u<mid->atL zs u=atL ys u:=fun u hu=>hm.mv.out u (by omega)
 refine⟨h.mv.trans (hm.mv.wide (by omega) (Nat.le_refl _)),fun u v u1 u2 u3=> ?_⟩;by_cases cu:mid<=u
 . exact hm.srt u v cu u2 u3
 . by_cases cv:mid<=v
   . obtain⟨w,w1,w2,ew⟩:=hm.mv.inn v cv u3
     rw[ho u (by omega),ew];exact h.cross u w u1 (by omega) w1 w2
   . rw[ho u (by omega),ho v (by omega)]
     exact hs u v u1 u2 (by omega)
end
section
variable {key:Nat->Int}
structure Seg(key:Nat->Int)(ys:List Nat)(a b:Nat):Prop where
 srt:Srt key ys a b
 home:∀u,a<=u->u<b->a<=atL ys u/\atL ys u<b
theorem Seg.raw{xs ys:List Nat}{a b:Nat}(hr:∀u,a<=u->u<b->atL xs u=u)(h:InsO key xs ys a b):Seg key ys a b:=
 ⟨h.srt,fun u u1 u2=>by
  obtain⟨v,v1,v2,e⟩:=h.mv.inn u u1 u2;rw[e,hr v v1 v2]
  exact⟨v1,v2⟩⟩
theorem Seg.other{ys zs:List Nat}{a b c d:Nat}(h:Seg key ys c d)(m:Moves a b ys zs)(hd:d<=a\/b<=c):Seg key zs c d:=by
 have e:∀u,c<=u->u<d->atL zs u=atL ys u:=fun u u1 u2=>m.out u (by omega)
 refine⟨fun u v u1 u2 u3=> ?_,fun u u1 u2=> ?_⟩
 . rw[e u u1 (by omega),e v (by omega) u3];exact h.srt u v u1 u2 u3
 . rw[e u u1 u2];exact h.home u u1 u2
theorem Seg.two{ys:List Nat}{a m b:Nat}(h:Seg key ys a m)(k:Seg key ys m b)(h1:a<m)(h2:m<b)(hb:b<=ys.length):MgP key ys a m b:=
 ⟨h1,h2,hb,h.srt,k.srt,fun u v u1 u2 v1 v2=>by
  have:=(h.home u u1 u2).2;have:=(k.home v v1 v2).1
  omega⟩
theorem Seg.merged{ys zs:List Nat}{a m b:Nat}(h:Seg key ys a m)(k:Seg key ys m b)(h1:a<=m)(h2:m<=b)(d:MgD key ys zs a b):Seg key zs a b:=
 ⟨d.srt,fun u u1 u2=>by
  obtain⟨v,v1,v2,e⟩:=d.mv.inn u u1 u2;rw[e];by_cases c:v<m
  . have:=h.home v v1 c
    omega
  . have:=k.home v (by omega) v2
    omega⟩
def zgs(key:Nat->Int)(ys:List Nat)(n s:Nat):Prop:=∀lo,s∣lo->lo<=n->Seg key ys lo (min (lo+s) n)
structure Cut(key:Nat->Int)(ys:List Nat)(n s a:Nat):Prop where
 done:∀lo,s∣lo->lo<a->Seg key ys lo (lo+s)
 raw:∀u,a<=u->u<n->atL ys u=u
theorem zcC{t lo a:Nat}(h:t∣lo)(k:t∣a)(hl:lo<a):lo+t<=a:=by
 obtain⟨x,rfl⟩:=h;obtain⟨y,rfl⟩:=k;have hxy:x<y:=Nat.lt_of_mul_lt_mul_left hl;have:=Nat.mul_le_mul_left t (show x+1<=y from hxy)
 rwa[Nat.mul_succ]at this
theorem zjU{n u:Nat}(h:u<n):atL (List.range n) u=u:=by
 unfold atL;rw[List.getD_eq_getElem?_getD,List.getElem?_range h];rfl
theorem Cut.start(n s:Nat):Cut key (List.range n) n s 0:=⟨fun lo h1 h2=>by omega,fun u _ hu=>zjU hu⟩
theorem Cut.next{ys zs:List Nat}{n s a:Nat}(h:Cut key ys n s a)(ha:s∣a)(hn:a+s<=n)(hi:InsO key ys zs a (a+s)):Cut key zs n s (a+s):=by
 refine⟨fun lo h1 h2=> ?_,fun u u1 u2=> ?_⟩
 . by_cases c:lo<a
   . exact(h.done lo h1 c).other hi.mv (.inl (zcC h1 ha c))
   . have e:lo=a:=by
      rcases Nat.lt_or_ge a lo with g|g
      . have:=zcC ha h1 g;omega
      . omega
     subst e;exact Seg.raw (fun u u1 u2=>h.raw u u1 (by omega)) hi
 . rw[hi.mv.out u (by omega)]
   exact h.raw u (by omega) u2
theorem Cut.last{ys zs:List Nat}{n s a:Nat}(h:Cut key ys n s a)(ha:s∣a)(han:a<=n)(hn:n<a+s)(hi:InsO key ys zs a n):zgs key zs n s:=by
 intro lo h1 h2;by_cases c:lo<a
 . have:=zcC h1 ha c
   rw[Nat.min_eq_left (by omega)];exact(h.done lo h1 c).other hi.mv (.inl this)
 . have e:lo=a:=by
    rcases Nat.lt_or_ge a lo with g|g
    . have:=zcC ha h1 g;omega
    . omega
   subst e;rw[Nat.min_eq_right (by omega)];exact Seg.raw (fun u u1 u2=>h.raw u u1 (by omega)) hi
structure Lvl(key:Nat->Int)(ys:List Nat)(n s a:Nat):Prop where
 done:∀lo,2*s∣lo->lo<a->Seg key ys lo (lo+2*s)
 rest:∀lo,s∣lo->a<=lo->lo<=n->Seg key ys lo (min (lo+s) n)
theorem Lvl.start{ys:List Nat}{n s:Nat}(h:zgs key ys n s):Lvl key ys n s 0:=⟨fun lo h1 h2=>by omega,fun lo h1 _ h3=>h lo h1 h3⟩
theorem zjg{s a:Nat}(h:2*s∣a):s∣a:=Nat.dvd_trans (Nat.dvd_mul_left s 2) h
theorem Lvl.segs{ys:List Nat}{n s a:Nat}(h:Lvl key ys n s a)(ha:2*s∣a)(hn:a+s<=n):Seg key ys a (a+s)/\Seg key ys (a+s) (min (a+2*s) n):=by
 have h1:=h.rest a (zjg ha) (Nat.le_refl _) (by omega);have h2:=h.rest (a+s) (Nat.dvd_add (zjg ha) (Nat.dvd_refl s)) (by omega) hn;rw[Nat.min_eq_left hn]at h1;rw[Nat.add_assoc,<-Nat.two_mul]at h2;exact⟨h1,h2⟩
theorem Lvl.pre{ys:List Nat}{n s a b:Nat}(h:Lvl key ys n s a)(ha:2*s∣a)(hn:a+s<n)(hs:0<s)(hl:ys.length=n)(hb:b=min (a+2*s) n):MgP key ys a (a+s) b:=by
 obtain⟨h1,h2⟩:=h.segs ha (by omega);subst hb;exact h1.two h2 (by omega) (by omega) (by omega)
theorem Lvl.next{ys zs:List Nat}{n s a:Nat}(h:Lvl key ys n s a)(ha:2*s∣a)(hn:a+2*s<=n)(hs:0<s)(d:MgD key ys zs a (a+2*s)):Lvl key zs n s (a+2*s):=by
 obtain⟨h1,h2⟩:=h.segs ha (by omega);rw[Nat.min_eq_left hn]at h2;refine⟨fun lo l1 l2=> ?_,fun lo l1 l2 l3=>(h.rest lo l1 (by omega) l3).other d.mv (.inr l2)⟩;by_cases c:lo<a
 . exact(h.done lo l1 c).other d.mv (.inl (zcC l1 ha c))
 . have e:lo=a:=by
    rcases Nat.lt_or_ge a lo with g|g
    . have:=zcC ha l1 g;omega
    . omega
   subst e;exact h1.merged h2 (by omega) (by omega) d
theorem Lvl.last{ys zs:List Nat}{n s a:Nat}(h:Lvl key ys n s a)(ha:2*s∣a)(hn:n<a+2*s)(hm:a+s<n)(d:MgD key ys zs a n):zgs key zs n (2*s):=by
 obtain⟨h1,h2⟩:=h.segs ha (by omega);rw[Nat.min_eq_right (by omega)]at h2;intro lo l1 l2;by_cases c:lo<a
 . have:=zcC l1 ha c
   rw[Nat.min_eq_left (by omega)];exact(h.done lo l1 c).other d.mv (.inl this)
 . have e:lo=a:=by
    rcases Nat.lt_or_ge a lo with g|g
    . have:=zcC ha l1 g;omega
    . omega
   subst e;rw[Nat.min_eq_right (by omega)];exact h1.merged h2 (by omega) (by omega) d
theorem Lvl.stop{ys:List Nat}{n s a:Nat}(h:Lvl key ys n s a)(ha:2*s∣a)(han:a<=n)(hn:n<a+2*s)(hm:¬a+s<n):zgs key ys n (2*s):=by
 intro lo l1 l2;by_cases c:lo<a
 . have:=zcC l1 ha c
   rw[Nat.min_eq_left (by omega)];exact h.done lo l1 c
 . have e:lo=a:=by
    rcases Nat.lt_or_ge a lo with g|g
    . have:=zcC ha l1 g;omega
    . omega
   subst e;have:=h.rest lo (zjg l1) (Nat.le_refl _) l2;rw[Nat.min_eq_right (by omega)]at this⊢;exact this
theorem zgs.all{ys:List Nat}{n s:Nat}(h:zgs key ys n s)(hs:n<=s):Srt key ys 0 n:=by
 have:=(h 0 (Nat.dvd_zero s) (Nat.zero_le _)).srt
 rwa[Nat.min_eq_right (by omega)]at this
def insK(key:Nat->Int)(x:Nat)(l:List Nat):List Nat:=l.takeWhile (fun y=>decide (key y<=key x))++x::l.dropWhile (fun y=>decide (key y<=key x))
def sortK(key:Nat->Int):Nat->List Nat
 |0=>[]
 |n+1=>insK key n (sortK key n)
theorem zjV(key:Nat->Int)(x:Nat)(l:List Nat):(insK key x l).Perm (x::l):=by
 unfold insK;refine List.perm_middle.trans ?_;rw[List.takeWhile_append_dropWhile]
theorem zcf(key:Nat->Int):∀n,(sortK key n).Perm (List.range n)
 |0=>List.Perm.refl _
 |n+1=>by
  rw[List.range_succ];refine(zjV key n (sortK key n)).trans ?_;refine((zcf key n).cons n).trans ?_;exact(List.perm_append_comm (l₁:=[n]) (l₂:=List.range n))
theorem zcL(key:Nat->Int)(n:Nat):(sortK key n).length=n:=by rw[(zcf key n).length_eq,List.length_range]
theorem zbl{n i:Nat}:i∈sortK key n<->i<n:=by rw[(zcf key n).mem_iff,List.mem_range]
theorem zjW{x:Nat}:∀{l:List Nat},l.Pairwise (ltK key)->(∀y∈l,y<x)->(insK key x l).Pairwise (ltK key)
 |[],_,_=>by simp[insK]
 |y::l,h,hx=>by
  rw[List.pairwise_cons]at h;by_cases c:key y<=key x
  . have e:insK key x (y::l)=y::insK key x l:=by simp[insK,c]
    rw[e,List.pairwise_cons];refine⟨fun z hz=> ?_,zjW h.2 (fun z hz=>hx z (List.mem_cons_of_mem _ hz))⟩;rw[(zjV key x l).mem_iff]at hz;rcases List.mem_cons.1 hz with rfl|hz
    . have:=hx y List.mem_cons_self
      unfold ltK;omega
    . exact h.1 z hz
  . have e:insK key x (y::l)=x::y::l:=by simp[insK,c]
    rw[e,List.pairwise_cons,List.pairwise_cons];refine⟨fun z hz=> ?_,h.1,h.2⟩;rcases List.mem_cons.1 hz with rfl|hz
    . left;omega
    . have:=znW (h.1 z hz)
      left;omega
theorem zfY(key:Nat->Int):∀n,(sortK key n).Pairwise (ltK key)
 |0=>List.Pairwise.nil
 |n+1=>zjW (zfY key n) (fun y hy=>zbl.1 hy)
theorem zla{n:Nat}{ys:List Nat}(hp:ys.Perm (List.range n))(h:Srt key ys 0 n):ys=sortK key n:=by
 have hl:ys.length=n:=by rw[hp.length_eq,List.length_range]
 refine List.Perm.eq_of_pairwise (le:=ltK key) (fun a b _ _ h1 h2=>by unfold ltK at h1 h2;omega) ?_ (zfY key n) (hp.trans (zcf key n).symm);rw[List.pairwise_iff_getElem];intro i j hi hj hij;have:=h i j (Nat.zero_le _) hij (by omega);unfold atL at this;rw[List.getD_eq_getElem?_getD,List.getD_eq_getElem?_getD,List.getElem?_eq_getElem hi,List.getElem?_eq_getElem hj]at this;exact this
end
end Go.Proofs.YtlhbllaojjelcaaGreat
