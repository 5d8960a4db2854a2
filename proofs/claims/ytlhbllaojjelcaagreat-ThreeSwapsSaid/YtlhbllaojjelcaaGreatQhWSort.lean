/- Contracts of Go's stable sort of whole numbers, in place. -/
import Derived.Test.YtlhbllaojjelcaaGreatQhSort
import Derived.Test.YtlhbllaojjelcaaGreatQhW7

set_option linter.unusedVariables false
set_option maxRecDepth 100000
set_option maxHeartbeats 4000000
namespace Go.Proofs.YtlhbllaojjelcaaGreat
open Go.RowKit Tryz
section
variable {w0 w w':World} {e:TypeId} {g n c:Nat} {ys:List Nat}
theorem Own.numL(h:Own w0 w e 1 (some ⟨g,0,none⟩) n c (ys.map iv)):ys.length=n:=by have:=h.reads.len;simpa using this
theorem Own.numAt(h:Own w0 w e 1 (some ⟨g,0,none⟩) n c (ys.map iv)){k:Nat}(hk:k<n):w.cell? ⟨g,k,none⟩=some (.int .i64 (atL ys k:Int)):=by
 obtain⟨b,off,hA,_,hc⟩:=h.reads.at_ (by omega);cases hA;have:=hc k _ (by rw[List.getElem?_map,zrG (by have:=h.numL;omega)];rfl);simpa[iv] using this
theorem Own.free(h:Own w0 w e 1 (some ⟨g,0,none⟩) n c (ys.map iv))(k:Nat):w.frozen? ⟨g,k,none⟩=false:=by
 rcases h.row.2 with⟨hv,_⟩|⟨g',cap,cur,hv,_,hh,_⟩
 . cases hv
 . cases hv
   simp[World.frozen?,hh]
theorem Own.swapN(h:Own w0 w e 1 (some ⟨g,0,none⟩) n c (ys.map iv))(i j:Nat):
 Own w0 ((w.setCell ⟨g,i,none⟩ (.int .i64 (atL ys j:Int))).setCell ⟨g,j,none⟩ (.int .i64 (atL ys i:Int))) e 1 (some ⟨g,0,none⟩) n c ((swapL ys i j).map iv):=by
 have:=(h.put i (.int .i64 (atL ys j:Int))).put j (.int .i64 (atL ys i:Int));unfold swapL;rw[List.map_set,List.map_set];exact this
end
variable{f:Value}{xs:List Nat}{g n c a b m:Nat}{w0 w:World}
theorem zgf(own:Own w0 w 3 1 (some ⟨g,0,none⟩) n c (xs.map iv))(hab:a+m<=b)(hb:b+m<=n)(hn:n<=1000000000000):
 Calls prog 188 #[.slice (some ⟨g,0,none⟩) n c,.int .i64 (a:Int),.int .i64 (b:Int),.int .i64 (m:Int),f] w fun e w'=>e=.returned (.tuple #[])/\∃ys,SwR xs ys a b m m/\Own w0 w' 3 1 (some ⟨g,0,none⟩) n c (ys.map iv)/\Only g w w':=by
 have hxl:=own.numL
 go_enter func188,ntmps188
 go_wp2
 go_loopw [10] (fun i wr=>∃(k:Nat)(ys:List Nat),k<=m/\i=.int .i64 k/\Hid (SwR xs ys a b m k)/\Own w0 wr 3 1 (some ⟨g,0,none⟩) n c (ys.map iv)/\Only g w wr) (fun i _=>m - (intOf i).toNat)
 case atStart=>exact⟨0,xs,Nat.zero_le _,rfl,SwR.start xs a b m,own,Only.refl g w⟩
 case round=>
  obtain⟨k,ys,hk,rfl,hS,ownY,hO⟩:=hrel;by_cases hlt:k<m
  . have hltI:(k:Int)<m:=by omega
    have c1:=ownY.numAt (k:=a+k) (by omega);have c2:=ownY.numAt (k:=b+k) (by omega);have f1:=ownY.free (a+k);have f2:=ownY.free (b+k)
    go_wp2
    go_region
    go_wp2
    go_roundw
    case rel=>
     refine⟨k+1,_,by omega,by go_num,hS.out.step hlt hab (by omega),(ownY.swapN (a+k) (b+k)).drew,?_⟩;exact((hO.set _ _).set _ _).ext (Ext.refl _).drew
    case measure=>simp[intOf];omega
  . obtain rfl:k=m:=by omega
    go_wp2
    go_end0
    exact⟨rfl,ys,hS.out,ownY,hO⟩
theorem zrr(own:Own w0 w 3 1 (some ⟨g,0,none⟩) n c (xs.map iv))(ham:a<m)(hmb:m<b)(hb:b<=n)(hn:n<=1000000000000):
 Calls prog 180 #[.slice (some ⟨g,0,none⟩) n c,.int .i64 (a:Int),.int .i64 (m:Int),.int .i64 (b:Int),f] w fun e w'=>e=.returned (.tuple #[])/\∃ys,Rotd xs ys a m b/\Own w0 w' 3 1 (some ⟨g,0,none⟩) n c (ys.map iv)/\Only g w w':=by
 have hxl:=own.numL;have h1:IntKind.i64.wrap ((m:Int) - a)=((m - a:Nat):Int):=by rw[IntWalk.i64_in _ (by omega)];omega
 have h2:IntKind.i64.wrap ((b:Int) - m)=((b - m:Nat):Int):=by rw[IntWalk.i64_in _ (by omega)];omega
 have k1:(m:Int) - a=((m - a:Nat):Int):=by omega
 have k2:(b:Int) - m=((b - m:Nat):Int):=by omega
 go_enter func180,ntmps180
 go_wp2
 go_loopw [10,11] (fun u v wr=>∃(i j:Nat)(ys:List Nat),0<i/\0<j/\u=.int .i64 i/\v=.int .i64 j/\Hid (Rot xs ys a m b i j)/\Own w0 wr 3 1 (some ⟨g,0,none⟩) n c (ys.map iv)/\Only g w wr) (fun u v _=>(intOf u).toNat+(intOf v).toNat)
 case atStart=>exact⟨m - a,b - m,xs,by omega,by omega,by go_num,by go_num,Rot.start (by omega) (by omega),own,Only.refl g w⟩
 case round=>
  obtain⟨i,j,ys,hi,hj,rfl,rfl,hR,ownY,hO⟩:=hrel;have hbi:=hR.out.bi;have hbj:=hR.out.bj;have q1:(m:Int) - i=((m - i:Nat):Int):=by omega
  rcases Nat.lt_trichotomy i j with hij|rfl|hij
  . have q2:(m:Int)+j - i=((m+j - i:Nat):Int):=by omega
    have q3:((i:Int) !=j)=true:=by rw[bne_iff_ne];omega
    have q4:decide ((j:Int)<i)=false:=decide_eq_false (by omega);have hc:=zgf (a:=m - i) (b:=m+j - i) (m:=i) (f:=f) ownY (by omega) (by omega) hn;rw[<-q1,<-q2]at hc;have Hc:=zsp hc;clear hc q1 q2
    go_wp2_with (go_at_call 188;refine Hc.out.mono ?_;rintro e w1 ⟨rfl,zs,hS,own1,O1⟩)
    go_roundw
    case rel=>exact⟨i,j - i,zs,by omega,by omega,by go_num,by go_num,hR.out.right hij hS,own1,hO.trans O1⟩
    case measure=>simp[intOf];omega
  . have q3:((i:Int) !=i)=false:=by simp
    have hc:=zgf (a:=m - i) (b:=m) (m:=i) (f:=f) ownY (by omega) (by omega) hn;rw[<-q1]at hc;have Hc:=zsp hc;clear hc q1
    go_wp2_with (go_at_call 188;refine Hc.out.mono ?_;rintro e w1 ⟨rfl,zs,hS,own1,O1⟩)
    go_end0
    exact⟨rfl,zs,hR.out.stop (by omega) (by omega) hS,own1,hO.trans O1⟩
  . have q3:((i:Int) !=j)=true:=by rw[bne_iff_ne];omega
    have q4:decide ((j:Int)<i)=true:=decide_eq_true (by omega);have hc:=zgf (a:=m - i) (b:=m) (m:=j) (f:=f) ownY (by omega) (by omega) hn;rw[<-q1]at hc;have Hc:=zsp hc;clear hc q1
    go_wp2_with (go_at_call 188;refine Hc.out.mono ?_;rintro e w1 ⟨rfl,zs,hS,own1,O1⟩)
    go_roundw
    case rel=>exact⟨i - j,j,zs,by omega,by omega,by go_num,by go_num,hR.out.left hij hS,own1,hO.trans O1⟩
    case measure=>simp[intOf];omega
variable{N:Nat}
theorem Moves.all{ys:List Nat}(h:Moves a b xs ys)(hb:b<=n)(hx:∀u,u<n->atL xs u<N):∀u,u<n->atL ys u<N:=by
 intro u hu;by_cases c:a<=u/\u<b
 . obtain⟨v,v1,v2,e⟩:=h.inn u c.1 c.2
   rw[e];exact hx v (by omega)
 . rw[h.out u (by omega)]
   exact hx u hu
def cmpI(x y:Int):Int:=if x<y then -1 else if y<x then 1 else 0
variable{x y:Int}
theorem zjs(h:x<y):cmpI x y= -1:=if_pos h
theorem zjt(h:¬x<y):¬cmpI x y<0:=by unfold cmpI;rw[if_neg h];split<;>omega
def CmpF(gf:FuncId)(lb:Array Value)(key:Nat->Int)(N g:Nat)(wS:World):Prop:=
 ∀(W:World)(x y:Nat),Only g wS W->x<N->y<N->Calls prog gf (#[.int .i64 (x:Int),.int .i64 (y:Int)]++lb) W fun e W'=>e=.returned (.int .i64 (cmpI (key x) (key y)))/\Ext W W'
variable{lb:Array Value}{gf:FuncId}{key:Nat->Int}{wS:World}
theorem zrs(eg:∀args w,(callFunc gf args).run prog w=.ok (.enter gf args) w)(hcmp:CmpF gf lb key N g wS)(own:Own w0 w 3 1 (some ⟨g,0,none⟩) n c (xs.map iv))(hS:Only g wS w)(hx:∀u,u<n->atL xs u<N)(hab:a<b)(hb:b<=n)(hn:n<=1000000000000)(hinc:∀u v,a<=u->u<v->v<b->atL xs u<atL xs v):
 Calls prog 162 #[.slice (some ⟨g,0,none⟩) n c,.int .i64 (a:Int),.int .i64 (b:Int),.func (.func gf) #[] lb] w fun e w'=>e=.returned (.tuple #[])/\∃ys,InsO key xs ys a b/\Own w0 w' 3 1 (some ⟨g,0,none⟩) n c (ys.map iv)/\Only g w w':=by
 have hxl:=own.numL;have Hx:=zsp hx;have Hinc:=zsp hinc;have Hcmp:=zsp hcmp;clear hx hinc hcmp
 go_enter func162,ntmps162
 go_wp2
 go_loopw [8,9] (fun u _ wr=>∃(i:Nat)(ys:List Nat),a<i/\i<=b/\u=.int .i64 i/\Hid (InsO key xs ys a i)/\Own w0 wr 3 1 (some ⟨g,0,none⟩) n c (ys.map iv)/\Only g w wr) (fun u _ _=>b - (intOf u).toNat)
 case atStart=>exact⟨a+1,xs,by omega,by omega,by go_num,InsO.start xs a,own,Only.refl g w⟩
 case round=>
  obtain⟨i,ys,hai,hib,rfl,hI,ownY,hO⟩:=hrel;by_cases hlt:i<b
  . have hltI:(i:Int)<b:=by omega
    go_wp2
    go_loopw [9] (fun v wq=>∃(j:Nat)(zs:List Nat),a<=j/\j<=i/\v=.int .i64 j/\Hid (InsI key xs zs a i j)/\Own w0 wq 3 1 (some ⟨g,0,none⟩) n c (zs.map iv)/\Only g w wq) (fun v _=>(intOf v).toNat)
    case atStart=>exact⟨i,ys,by omega,Nat.le_refl _,rfl,hI.out.inner (by omega) hlt Hinc.out,ownY,hO⟩
    case round=>
     obtain⟨j,zs,haj,hji,rfl,hJ,ownZ,hP⟩:=hrel
     rename World=>wq
     by_cases hj:a<j
     . obtain⟨p,rfl⟩:∃p,j=p+1:=⟨j - 1,by omega⟩
       have hjI:(a:Int)<p+1:=by omega
       have z1:(p:Int)+1<n:=by omega
       have z2:(p:Int)<n:=by omega
       have z3:¬(p:Int)+1<0:=by omega
       have z4:(0:Int)<=p+1:=by omega
       have z5:((p:Int)+1).toNat=p+1:=by omega
       have z6:IntKind.i64.wrap ((p:Int)+1 - 1)=(p:Int):=by rw[IntWalk.i64_in _ (by omega)];omega
       have z7:IntKind.i64.wrap (p:Int)=(p:Int):=IntWalk.i64_in _ (by omega);have z8:(0:Int)<=p:=by omega
       have z9:¬(p:Int)<0:=by omega
       have c1:=ownZ.numAt (k:=p+1) (by omega);have c2:=ownZ.numAt (k:=p) (by omega);have hall:=hJ.out.mv.all (n:=n) (N:=N) (by omega) Hx.out;have hc:=fun W h=>Hcmp.out W (atL zs (p+1)) (atL zs p) h (hall (p+1) (by omega)) (hall p (by omega))
       have hS':=hS.trans hP;have hlq:g<wq.heap.size:=ownZ.base.2;by_cases hk:key (atL zs (p+1))<key (atL zs p)
       . rw[zjs hk]at hc
         have Hc:=zsp hc;have Hk:=zsp hk;clear hc hk hall
         go_wp2_with fail
         go_region_held3 (fun W=>Ext wq W/\∀b o,b<wq.heap.size->W.cell? ⟨b,o,none⟩=wq.cell? ⟨b,o,none⟩) ((refine Ext.keep ?_;repeat with_reducible (first|assumption|exact Ext.refl _|refine Ext.alloc ?_ _|refine Ext.drew ?_|refine Ext.drewN ?_ _|refine Ext.setCell ?_ (by first|omega|(simp<;>omega)) _))) (first|(go_split_ands;go_at_fn gf;refine(Hc.out _ (hS'.ext (by with_reducible assumption))).mono ?_;rintro e w1 ⟨rfl,E1⟩;have q0:Ext wq w1:=Ext.trans (by with_reducible assumption) E1))
         rename Ext wq w1/\_=>hh
         clear hh c1 c2;have own1:=ownZ.up q0;have d1:=own1.numAt (k:=p+1) (by omega);have d2:=own1.numAt (k:=p) (by omega);have f1:=own1.free (p+1);have f2:=own1.free p
         go_wp2
         go_region
         go_wp2
         go_roundw
         case rel=>
          refine⟨p,_,by omega,by omega,by go_num,?_,(own1.swapN (p+1) p).drew,?_⟩
          . show InsI _ _ _ _ _ _
            have:=hJ.out.step (by omega) hj (by simpa using Hk.out);simpa using this
          . exact(((hP.ext q0).set _ _).set _ _).ext (Ext.refl _).drew
         case measure=>simp[intOf]
       . have hr:=zjt hk
         generalize cmpI (key (atL zs (p+1))) (key (atL zs p))=r at hc hr;have hrd:decide (r<0)=false:=decide_eq_false hr;have Hc:=zsp hc;have Hk:=zsp hk;clear hc hk hall hr
         go_wp2_with fail
         go_region_held3 (fun W=>Ext wq W/\∀b o,b<wq.heap.size->W.cell? ⟨b,o,none⟩=wq.cell? ⟨b,o,none⟩) ((refine Ext.keep ?_;repeat with_reducible (first|assumption|exact Ext.refl _|refine Ext.alloc ?_ _|refine Ext.drew ?_|refine Ext.drewN ?_ _|refine Ext.setCell ?_ (by first|omega|(simp<;>omega)) _))) (first|(go_split_ands;go_at_fn gf;refine(Hc.out _ (hS'.ext (by with_reducible assumption))).mono ?_;rintro e w1 ⟨rfl,E1⟩;have q0:Ext wq w1:=Ext.trans (by with_reducible assumption) E1))
         rename Ext wq w1/\_=>hh
         clear hh c1 c2
         go_wp2
         go_roundw
         case rel=>exact⟨i+1,zs,by omega,by omega,by go_num,hJ.out.stop (.inr (by simpa using Hk.out)),ownZ.up q0,hP.ext q0⟩
         case measure=>simp[intOf];omega
     . obtain rfl:j=a:=by omega
       go_wp2
       go_quiet (fail)
       go_wp2
       go_roundw
       case rel=>exact⟨i+1,zs,by omega,by omega,by go_num,hJ.out.stop (.inl rfl),ownZ.up xx,hP.ext xx⟩
       case measure=>simp[intOf];omega
  . obtain rfl:i=b:=by omega
    go_wp2
    go_end0
    exact⟨rfl,ys,hI.out,ownY,hO⟩
theorem zrt(eg:∀args w,(callFunc gf args).run prog w=.ok (.enter gf args) w)(hcmp:CmpF gf lb key N g wS)(own:Own w0 w 3 1 (some ⟨g,0,none⟩) n c (xs.map iv))(hS:Only g wS w)(hx:∀u,u<n->atL xs u<N)(hp:MgP key xs a (a+1) b)(hb:b<=n)(hn:n<=1000000000000):
 Calls prog 163 #[.slice (some ⟨g,0,none⟩) n c,.int .i64 (a:Int),.int .i64 ((a+1:Nat):Int),.int .i64 (b:Int),.func (.func gf) #[] lb] w fun e w'=>e=.returned (.tuple #[])/\∃ys,MgD key xs ys a b/\Own w0 w' 3 1 (some ⟨g,0,none⟩) n c (ys.map iv)/\Only g w w':=by
 have hxl:=own.numL;have hmb:=hp.mb;have Hx:=zsp hx;have Hcmp:=zsp hcmp;have Hp:=zsp hp;have q1:(a:Int)+1 - a=1:=by omega
 clear hx hcmp hp
 go_enter func163,ntmps163
 go_wp2
 go_loopw [10,11] (fun u v wr=>∃(i j:Nat),a+1<=i/\i<=j/\j<=b/\u=.int .i64 i/\v=.int .i64 j/\Hid (∀q,a+1<=q->q<i->key (atL xs q)<key (atL xs a))/\Hid (∀q,j<=q->q<b->¬key (atL xs q)<key (atL xs a))/\Ext w wr) (fun u v _=>(intOf v).toNat - (intOf u).toNat)
 case atStart=>exact⟨a+1,b,by omega,by omega,by omega,by go_num,rfl,fun q h1 h2=>by omega,fun q h1 h2=>by omega,Ext.refl w⟩
 case round=>
  obtain⟨i,j,hi,hij,hjb,rfl,rfl,hL,hU,hE⟩:=hrel;by_cases hlt:i<j
  . have hltI:(i:Int)<j:=by omega
    obtain⟨h,hh⟩:∃h,h=(i+j) / 2:=⟨_,rfl⟩
    have hhI:((i:Int)+j) / 2=(h:Int):=by omega
    have hih:i<=h:=by omega
    have hhj:h<j:=by omega
    have z1:(h:Int)<n:=by omega
    have z2:(a:Int)<n:=by omega
    have z3:(0:Int)<=h:=by omega
    have z4:(0:Int)<=a:=by omega
    have ownR:=own.up hE;have c1:=ownR.numAt (k:=h) (by omega);have c2:=ownR.numAt (k:=a) (by omega);have hc:=fun W h'=>Hcmp.out W (atL xs h) (atL xs a) h' (Hx.out h (by omega)) (Hx.out a (by omega))
    have hS':=hS.ext hE;have hlq:g<wr.heap.size:=ownR.base.2;clear hh;by_cases hk:key (atL xs h)<key (atL xs a)
    . rw[zjs hk]at hc
      have Hc:=zsp hc;have Hk:=zsp hk;clear hc hk
      go_wp2_with fail
      go_region_held3 (fun W=>Ext wr W/\∀b o,b<wr.heap.size->W.cell? ⟨b,o,none⟩=wr.cell? ⟨b,o,none⟩) ((refine Ext.keep ?_;repeat with_reducible (first|assumption|exact Ext.refl _|refine Ext.alloc ?_ _|refine Ext.drew ?_|refine Ext.drewN ?_ _|refine Ext.setCell ?_ (by first|omega|(simp<;>omega)) _))) (first|(go_split_ands;go_at_fn gf;refine(Hc.out _ (hS'.ext (by with_reducible assumption))).mono ?_;rintro e w1 ⟨rfl,E1⟩;have q0:Ext wr w1:=Ext.trans (by with_reducible assumption) E1))
      rename Ext wr w1/\_=>hh
      clear hh c1 c2
      go_wp2
      go_roundw
      case rel=>
       refine⟨h+1,by omega,j,by omega,hjb,by omega,rfl,fun q h1 h2=> ?_,hU,hE.trans q0⟩;have:=zcN Hp.out.right (u:=q) (v:=h) h1 (by omega) (by omega);have:=Hk.out;omega
      case measure=>simp[intOf];omega
    . have hr:=zjt hk
      generalize cmpI (key (atL xs h)) (key (atL xs a))=r at hc hr;have hrd:decide (r<0)=false:=decide_eq_false hr;have Hc:=zsp hc;have Hk:=zsp hk;clear hc hk hr
      go_wp2_with fail
      go_region_held3 (fun W=>Ext wr W/\∀b o,b<wr.heap.size->W.cell? ⟨b,o,none⟩=wr.cell? ⟨b,o,none⟩) ((refine Ext.keep ?_;repeat with_reducible (first|assumption|exact Ext.refl _|refine Ext.alloc ?_ _|refine Ext.drew ?_|refine Ext.drewN ?_ _|refine Ext.setCell ?_ (by first|omega|(simp<;>omega)) _))) (first|(go_split_ands;go_at_fn gf;refine(Hc.out _ (hS'.ext (by with_reducible assumption))).mono ?_;rintro e w1 ⟨rfl,E1⟩;have q0:Ext wr w1:=Ext.trans (by with_reducible assumption) E1))
      rename Ext wr w1/\_=>hh
      clear hh c1 c2
      go_wp2
      go_roundw
      case rel=>
       refine⟨i,by omega,h,by omega,by omega,rfl,rfl,hL,fun q h1 h2=> ?_,hE.trans q0⟩;have:=zcN Hp.out.right (u:=h) (v:=q) (by omega) h1 h2;have:=Hk.out;omega
      case measure=>simp[intOf];omega
  . obtain rfl:i=j:=by omega
    obtain⟨i0,rfl⟩:∃i0,i=i0+1:=⟨i - 1,by omega⟩
    have z0:(i0:Int)+1 - 1=i0:=by omega
    go_wp2
    go_loopw [13] (fun v wq=>∃(k:Nat)(zs:List Nat),a<=k/\k<=i0/\v=.int .i64 k/\Hid (ShL xs zs a k)/\Own w0 wq 3 1 (some ⟨g,0,none⟩) n c (zs.map iv)/\Only g w wq) (fun v _=>i0 - (intOf v).toNat)
    case atStart=>exact⟨a,xs,by omega,by omega,rfl,ShL.start xs a,own.up hE,(Only.refl g w).ext hE⟩
    case round=>
     obtain⟨k,zs,hak,hki,rfl,hZ,ownZ,hO⟩:=hrel
     rename World=>wq
     by_cases hlt2:k<i0
     . have hlt2I:(k:Int)<i0:=by omega
       have c1:=ownZ.numAt (k:=k+1) (by omega);have c2:=ownZ.numAt (k:=k) (by omega);have f1:=ownZ.free (k+1);have f2:=ownZ.free k;have z1:(k:Int)<n:=by omega
       have z2:(k:Int)+1<n:=by omega
       have z3:((k:Int)+1).toNat=k+1:=by omega
       go_wp2
       go_region
       go_wp2
       go_roundw
       case rel=>exact⟨k+1,_,by omega,by omega,by go_num,hZ.out.step hak (by omega),(ownZ.swapN k (k+1)).drew,((hO.set _ _).set _ _).ext (Ext.refl _).drew⟩
       case measure=>simp[intOf];omega
     . obtain rfl:k=i0:=by omega
       go_wp2
       ((try simp only[Exit.inBlock,Exit.then]);refine bodyPost_ret (results_none rfl _ _ _) rfl ?_)
       refine⟨rfl,zs,ShL.merged Hp.out (i:=k+1) (by omega) (by omega) (by simpa using hZ.out) hL.out (fun u h1 h2=>by have:=hU.out u h1 h2;omega),ownZ,hO⟩
theorem zru(eg:∀args w,(callFunc gf args).run prog w=.ok (.enter gf args) w)(hcmp:CmpF gf lb key N g wS)(own:Own w0 w 3 1 (some ⟨g,0,none⟩) n c (xs.map iv))(hS:Only g wS w)(hx:∀u,u<n->atL xs u<N)(hp:MgP key xs a m (m+1))(h1:a+1<m)(hb:m+1<=n)(hn:n<=1000000000000):
 Calls prog 163 #[.slice (some ⟨g,0,none⟩) n c,.int .i64 (a:Int),.int .i64 (m:Int),.int .i64 ((m+1:Nat):Int),.func (.func gf) #[] lb] w fun e w'=>e=.returned (.tuple #[])/\∃ys,MgD key xs ys a (m+1)/\Own w0 w' 3 1 (some ⟨g,0,none⟩) n c (ys.map iv)/\Only g w w':=by
 have hxl:=own.numL;have Hx:=zsp hx;have Hcmp:=zsp hcmp;have Hp:=zsp hp;have q0:(((m:Int) - a)==1)=false:=by rw[beq_eq_false_iff_ne];omega
 have q1:(m:Int)+1 - m=1:=by omega
 clear hx hcmp hp
 go_enter func163,ntmps163
 go_wp2
 go_loopw [14,15] (fun u v wr=>∃(i j:Nat),a<=i/\i<=j/\j<=m/\u=.int .i64 i/\v=.int .i64 j/\Hid (∀q,a<=q->q<i->¬key (atL xs m)<key (atL xs q))/\Hid (∀q,j<=q->q<m->key (atL xs m)<key (atL xs q))/\Ext w wr) (fun u v _=>(intOf v).toNat - (intOf u).toNat)
 case atStart=>exact⟨a,m,by omega,by omega,by omega,rfl,rfl,fun q h1 h2=>by omega,fun q h1 h2=>by omega,Ext.refl w⟩
 case round=>
  obtain⟨i,j,hi,hij,hjb,rfl,rfl,hL,hU,hE⟩:=hrel;by_cases hlt:i<j
  . have hltI:(i:Int)<j:=by omega
    obtain⟨h,hh⟩:∃h,h=(i+j) / 2:=⟨_,rfl⟩
    have hhI:((i:Int)+j) / 2=(h:Int):=by omega
    have hih:i<=h:=by omega
    have hhj:h<j:=by omega
    have z1:(h:Int)<n:=by omega
    have z2:(m:Int)<n:=by omega
    have z3:(0:Int)<=h:=by omega
    have z4:(0:Int)<=m:=by omega
    have ownR:=own.up hE;have c1:=ownR.numAt (k:=h) (by omega);have c2:=ownR.numAt (k:=m) (by omega);have hc:=fun W h'=>Hcmp.out W (atL xs m) (atL xs h) h' (Hx.out m (by omega)) (Hx.out h (by omega))
    have hS':=hS.ext hE;have hlq:g<wr.heap.size:=ownR.base.2;clear hh;by_cases hk:key (atL xs m)<key (atL xs h)
    . rw[zjs hk]at hc
      have Hc:=zsp hc;have Hk:=zsp hk;clear hc hk
      go_wp2_with fail
      go_region_held3 (fun W=>Ext wr W/\∀b o,b<wr.heap.size->W.cell? ⟨b,o,none⟩=wr.cell? ⟨b,o,none⟩) ((refine Ext.keep ?_;repeat with_reducible (first|assumption|exact Ext.refl _|refine Ext.alloc ?_ _|refine Ext.drew ?_|refine Ext.drewN ?_ _|refine Ext.setCell ?_ (by first|omega|(simp<;>omega)) _))) (first|(go_split_ands;go_at_fn gf;refine(Hc.out _ (hS'.ext (by with_reducible assumption))).mono ?_;rintro e w1 ⟨rfl,E1⟩;have q0:Ext wr w1:=Ext.trans (by with_reducible assumption) E1))
      rename Ext wr w1/\_=>hh
      clear hh c1 c2
      go_wp2
      go_roundw
      case rel=>
       refine⟨i,by omega,h,by omega,by omega,rfl,rfl,hL,fun q h1 h2=> ?_,hE.trans q0⟩;have:=zcN Hp.out.left (u:=h) (v:=q) (by omega) h1 h2;have:=Hk.out;omega
      case measure=>simp[intOf];omega
    . have hr:=zjt hk
      generalize cmpI (key (atL xs m)) (key (atL xs h))=r at hc hr;have hrd:decide (r<0)=false:=decide_eq_false hr;have Hc:=zsp hc;have Hk:=zsp hk;clear hc hk hr
      go_wp2_with fail
      go_region_held3 (fun W=>Ext wr W/\∀b o,b<wr.heap.size->W.cell? ⟨b,o,none⟩=wr.cell? ⟨b,o,none⟩) ((refine Ext.keep ?_;repeat with_reducible (first|assumption|exact Ext.refl _|refine Ext.alloc ?_ _|refine Ext.drew ?_|refine Ext.drewN ?_ _|refine Ext.setCell ?_ (by first|omega|(simp<;>omega)) _))) (first|(go_split_ands;go_at_fn gf;refine(Hc.out _ (hS'.ext (by with_reducible assumption))).mono ?_;rintro e w1 ⟨rfl,E1⟩;have q0:Ext wr w1:=Ext.trans (by with_reducible assumption) E1))
      rename Ext wr w1/\_=>hh
      clear hh c1 c2
      go_wp2
      go_roundw
      case rel=>
       refine⟨h+1,by omega,j,by omega,hjb,by omega,rfl,fun q h1 h2=> ?_,hU,hE.trans q0⟩;have:=zcN Hp.out.left (u:=q) (v:=h) h1 (by omega) (by omega);have:=Hk.out;omega
      case measure=>simp[intOf];omega
  . obtain rfl:i=j:=by omega
    go_wp2
    go_loopw [17] (fun v wq=>∃(k:Nat)(zs:List Nat),i<=k/\k<=m/\v=.int .i64 k/\Hid (ShR xs zs k m)/\Own w0 wq 3 1 (some ⟨g,0,none⟩) n c (zs.map iv)/\Only g w wq) (fun v _=>(intOf v).toNat)
    case atStart=>exact⟨m,xs,by omega,by omega,rfl,ShR.start xs m,own.up hE,(Only.refl g w).ext hE⟩
    case round=>
     obtain⟨k,zs,hak,hki,rfl,hZ,ownZ,hO⟩:=hrel
     rename World=>wq
     by_cases hlt2:i<k
     . obtain⟨p,rfl⟩:∃p,k=p+1:=⟨k - 1,by omega⟩
       have hlt2I:(i:Int)<p+1:=by omega
       have c1:=ownZ.numAt (k:=p+1) (by omega);have c2:=ownZ.numAt (k:=p) (by omega);have f1:=ownZ.free (p+1);have f2:=ownZ.free p;have z1:(p:Int)<n:=by omega
       have z2:(p:Int)+1<n:=by omega
       have z3:((p:Int)+1).toNat=p+1:=by omega
       go_wp2
       go_region
       go_wp2
       go_roundw
       case rel=>
        refine⟨p,swapL zs (p+1) p,by omega,by omega,rfl,?_,(ownZ.swapN (p+1) p).drew,((hO.set _ _).set _ _).ext (Ext.refl _).drew⟩;show ShR _ _ _ _;have:=hZ.out.step (by omega) (by omega) (by omega);simpa using this
       case measure=>simp[intOf]
     . obtain rfl:k=i:=by omega
       go_wp2
       ((try simp only[Exit.inBlock,Exit.then]);refine bodyPost_ret (results_none rfl _ _ _) rfl ?_)
       refine⟨rfl,zs,ShR.merged Hp.out (i:=k) (by omega) (by omega) hZ.out (fun u h1 h2=>by have:=hL.out u h1 h2;omega) hU.out,ownZ,hO⟩
def MrgK(gf:FuncId)(lb:Array Value)(key:Nat->Int)(N g n c:Nat)(w0 wS:World)(k:Nat):Prop:=
 ∀(w:World)(a m b:Nat)(xs:List Nat),b - a<=k->Own w0 w 3 1 (some ⟨g,0,none⟩) n c (xs.map iv)->Only g wS w->(∀u,u<n->atL xs u<N)->MgP key xs a m b->b<=n->
  Calls prog 163 #[.slice (some ⟨g,0,none⟩) n c,.int .i64 (a:Int),.int .i64 (m:Int),.int .i64 (b:Int),.func (.func gf) #[] lb] w fun e w'=>e=.returned (.tuple #[])/\∃ys,MgD key xs ys a b/\Own w0 w' 3 1 (some ⟨g,0,none⟩) n c (ys.map iv)/\Only g w w'
theorem zrv{K:Nat}(eg:∀args w,(callFunc gf args).run prog w=.ok (.enter gf args) w)(hcmp:CmpF gf lb key N g wS)(hK:MrgK gf lb key N g n c w0 wS K)(own:Own w0 w 3 1 (some ⟨g,0,none⟩) n c (xs.map iv))(hS:Only g wS w)(hx:∀u,u<n->atL xs u<N)(hp:MgP key xs a m b)(hk:b - a<=K+1)(h1:a+1<m)(h2:m+1<b)(hb:b<=n)(hn:n<=1000000000000):
 Calls prog 163 #[.slice (some ⟨g,0,none⟩) n c,.int .i64 (a:Int),.int .i64 (m:Int),.int .i64 (b:Int),.func (.func gf) #[] lb] w fun e w'=>e=.returned (.tuple #[])/\∃ys,MgD key xs ys a b/\Own w0 w' 3 1 (some ⟨g,0,none⟩) n c (ys.map iv)/\Only g w w':=by
 have hxl:=own.numL;have Hx:=zsp hx;have Hcmp:=zsp hcmp;have Hp:=zsp hp;have HK:=zsp hK;have q0:(((m:Int) - a)==1)=false:=by rw[beq_eq_false_iff_ne];omega
 have q1:(((b:Int) - m)==1)=false:=by rw[beq_eq_false_iff_ne];omega
 obtain⟨mid,hmid⟩:∃mid,mid=(a+b) / 2:=⟨_,rfl⟩
 have hmidI:((a:Int)+b) / 2=(mid:Int):=by omega
 obtain⟨p,hpp⟩:∃p,p+1=mid+m:=⟨mid+m - 1,by omega⟩
 have hpI:(mid:Int)+m - 1=(p:Int):=by omega
 obtain⟨s0,r0,hsr⟩:∃s0 r0,(mid<m/\s0=mid+m - b/\r0=mid)\/(m<=mid/\s0=a/\r0=m):=by
  by_cases h:mid<m
  . exact⟨_,_,.inl ⟨h,rfl,rfl⟩⟩
  . exact⟨_,_,.inr ⟨by omega,rfl,rfl⟩⟩
 have hM:Mid a m b p s0 r0:=⟨by omega,by omega,by omega,fun c h1 h2=>by omega⟩
 have hMs:=hM.as0;have hMr:=hM.r0m;have hMsr:=hM.s0r0;have HHm:=zsp hmid;have Hsr:=zsp hsr;have HM:=zsp hM;have Hpp:=zsp hpp;have hrm:r0<=mid:=by omega
 have hpre:((mid:Int)<m/\(mid:Int)+m - b=(s0:Int)/\(mid:Int)=r0)\/(¬(mid:Int)<m/\(a:Int)=s0/\(m:Int)=r0):=by
  rcases hsr with⟨e1,e2,e3⟩|⟨e1,e2,e3⟩
  . exact .inl ⟨by omega,by omega,by omega⟩
  . exact .inr ⟨by omega,by omega,by omega⟩
 clear hx hcmp hp hK hsr hM hmid hpp
 go_enter func163,ntmps163
 go_upto_if 140 with fail
 go_cut [20,21] (fun u v wz=>u=.int .i64 (s0:Int)/\v=.int .i64 (r0:Int)/\wz=w)
 case first=>as_aux_lemma=>
  have HPre:=zsp hpre;by_cases k1:(mid:Int)<m
  . clear hpre
    go_wp2
    go_meet
    exact⟨congrArg (Value.int .i64) (by have:=HPre.out;omega),congrArg (Value.int .i64) (by have:=HPre.out;omega),rfl⟩
  . clear hpre
    go_wp2
    go_meet
    exact⟨congrArg (Value.int .i64) (by have:=HPre.out;omega),congrArg (Value.int .i64) (by have:=HPre.out;omega),rfl⟩
 case rest=>as_aux_lemma=>
  obtain⟨rfl,rfl,rfl⟩:=hcut;clear hpre
  go_wp2
  go_loopw [20,21] (fun u v wr=>∃(s r:Nat),s0<=s/\s<=r/\r<=r0/\u=.int .i64 s/\v=.int .i64 r/\Hid (Find key xs p s0 r0 s r)/\Ext wc wr) (fun u v _=>(intOf v).toNat - (intOf u).toNat)
  case atStart=>exact⟨s0,r0,by omega,by omega,by omega,by go_num,by go_num,Find.start (by omega),Ext.refl wc⟩
  case round=>as_aux_lemma=>
   obtain⟨s,r,hs,hsr,hr,rfl,rfl,hF,hE⟩:=hrel;by_cases hlt:s<r
   . have hltI:(s:Int)<r:=by omega
     obtain⟨h,hh⟩:∃h,h=(s+r) / 2:=⟨_,rfl⟩
     have hhI:((s:Int)+r) / 2=(h:Int):=by omega
     have hih:s<=h:=by omega
     have hhj:h<r:=by omega
     have hpc:=HM.out.right h (by omega) (by omega);obtain⟨d,hd⟩:∃d,d=p - h:=⟨_,rfl⟩
     have hdI:(p:Int) - h=(d:Int):=by omega
     have z0:IntKind.i64.wrap ((p:Int) - h)=(d:Int):=by rw[IntWalk.i64_in _ (by omega)];omega
     have z1:(h:Int)<n:=by omega
     have z2:(d:Int)<n:=by omega
     have z3:(0:Int)<=h:=by omega
     have z4:(0:Int)<=d:=by omega
     have z5:IntKind.i64.wrap (d:Int)=(d:Int):=IntWalk.i64_in _ (by omega);have ownR:=own.up hE;have c1:=ownR.numAt (k:=h) (by omega);have c2:=ownR.numAt (k:=d) (by omega);have hc:=fun W h'=>Hcmp.out W (atL xs d) (atL xs h) h' (Hx.out d (by omega)) (Hx.out h (by omega))
     have hS':=hS.ext hE;have hlq:g<wr.heap.size:=ownR.base.2;have Hd:=zsp hd;clear hh hd;by_cases hk:key (atL xs d)<key (atL xs h)
     . rw[zjs hk]at hc
       have Hc:=zsp hc;have Hk:=zsp hk;clear hc hk
       go_wp2_with fail
       go_region_held3 (fun W=>Ext wr W/\∀b o,b<wr.heap.size->W.cell? ⟨b,o,none⟩=wr.cell? ⟨b,o,none⟩) ((refine Ext.keep ?_;repeat with_reducible (first|assumption|exact Ext.refl _|refine Ext.alloc ?_ _|refine Ext.drew ?_|refine Ext.drewN ?_ _|refine Ext.setCell ?_ (by first|omega|(simp<;>omega)) _))) (first|(go_split_ands;go_at_fn gf;refine(Hc.out _ (hS'.ext (by with_reducible assumption))).mono ?_;rintro e w1 ⟨rfl,E1⟩;have q0:Ext wr w1:=Ext.trans (by with_reducible assumption) E1))
       rename Ext wr w1/\_=>hh
       clear hh c1 c2
       go_wp2
       go_roundw
       case rel=>as_aux_lemma=>
        refine⟨s,h,by omega,by omega,by omega,rfl,by go_num,?_,hE.trans q0⟩;show Find _ _ _ _ _ _ _;have:=Hk.out;rw[Hd.out]at this;exact hF.out.up_ Hp.out HM.out hih hhj this
       case measure=>simp[intOf];omega
     . have hr0:=zjt hk
       generalize cmpI (key (atL xs d)) (key (atL xs h))=q at hc hr0;have hrd:decide (q<0)=false:=decide_eq_false hr0;have Hc:=zsp hc;have Hk:=zsp hk;clear hc hk hr0
       go_wp2_with fail
       go_region_held3 (fun W=>Ext wr W/\∀b o,b<wr.heap.size->W.cell? ⟨b,o,none⟩=wr.cell? ⟨b,o,none⟩) ((refine Ext.keep ?_;repeat with_reducible (first|assumption|exact Ext.refl _|refine Ext.alloc ?_ _|refine Ext.drew ?_|refine Ext.drewN ?_ _|refine Ext.setCell ?_ (by first|omega|(simp<;>omega)) _))) (first|(go_split_ands;go_at_fn gf;refine(Hc.out _ (hS'.ext (by with_reducible assumption))).mono ?_;rintro e w1 ⟨rfl,E1⟩;have q0:Ext wr w1:=Ext.trans (by with_reducible assumption) E1))
       rename Ext wr w1/\_=>hh
       clear hh c1 c2
       go_wp2
       go_roundw
       case rel=>as_aux_lemma=>
        refine⟨h+1,r,by omega,by omega,hr,by go_num,rfl,?_,hE.trans q0⟩;show Find _ _ _ _ _ _ _;have:=Hk.out;rw[Hd.out]at this;exact hF.out.low_ Hp.out HM.out hih hhj (by omega)
       case measure=>simp[intOf];omega
   . obtain rfl:s=r:=by omega
     obtain⟨e,he⟩:∃e,e=mid+m - s:=⟨_,rfl⟩
     have heI:(mid:Int)+m - s=(e:Int):=by omega
     have hsm:s<=m:=by omega
     have hsmid:s<=mid:=by omega
     have hse:mid<=e/\m<=e/\e<=b/\a<=s:=by have:=Hsr.out;omega
     have hpe:p=mid+m - 1:=by have:=Hpp.out;omega
     have hHal:∀ys,Rotd xs ys s m e->zcK key xs ys a m b s mid e:=fun ys h=>by
      have hf:=hF.out;rw[hpe]at hf;rw[he]at h⊢;exact zqH Hp.out HHm.out (by omega) Hsr.out hf h
     have Hal:=zsp hHal;have He:=zsp he;have ownR:=own.up hE;have hSR:=hS.ext hE;have hOR:Only g wc wr:=(Only.refl g wc).ext hE;clear hHal he hpe hlt
     go_upto_region 39 with fail
     go_cut [185] (fun t wz=>t=.bool (decide (s<m/\m<e))/\wz=wr)
     case first=>as_aux_lemma=>
      by_cases h1:s<m
      . have k1:(s:Int)<m:=by omega
        by_cases h2:m<e
        . have k2:(m:Int)<e:=by omega
          go_wp2
          go_meet
          exact⟨congrArg Value.bool (decide_eq_true (p:=s<m/\m<e) ⟨h1,h2⟩).symm,rfl⟩
        . have k2:¬(m:Int)<e:=by omega
          go_wp2
          go_meet
          exact⟨congrArg Value.bool (decide_eq_false (p:=s<m/\m<e) (by omega)).symm,rfl⟩
      . have k1:¬(s:Int)<m:=by omega
        go_wp2
        go_meet
        exact⟨congrArg Value.bool (decide_eq_false (p:=s<m/\m<e) (by omega)).symm,rfl⟩
     case rest=>as_aux_lemma=>
      rename World=>wx
      obtain⟨rfl,rfl⟩:=hcut;generalize hT:decide (s<m/\m<e)=T
      go_upto_if 185 with fail
      go_cut [24] (fun t wz=>t=.int .i64 (e:Int)/\∃ys,Hid (zcK key xs ys a m b s mid e)/\Own w0 wz 3 1 (some ⟨g,0,none⟩) n c (ys.map iv)/\Only g wc wz)
      case first=>as_aux_lemma=>
       rcases T with _|_
       . have hT':=of_decide_eq_false hT
         go_wp2
         go_meet
         exact⟨rfl,xs,Hal.out xs (Rotd.none (by omega) (by omega) (by omega)),ownR,hOR⟩
       . have hT':=of_decide_eq_true hT
         go_wp2_with (go_at_call 180;refine(zrr ownR (a:=s) (m:=m) (b:=e) (by omega) (by omega) (by omega) hn).mono ?_;rintro x w1 ⟨rfl,ys,hRo,own1,O1⟩)
         go_meet
         exact⟨rfl,ys,Hal.out ys hRo,own1,hOR.trans O1⟩
      case rest=>as_aux_lemma=>
       rename World=>wv
       obtain⟨rfl,ys,hH,own1,O1⟩:=hcut;clear hT T;have hS1:=hS.trans O1;have hall1:=hH.out.mv.all (n:=n) (N:=N) (by omega) Hx.out
       go_upto_region 41 with fail
       go_cut [199] (fun t wz=>t=.bool (decide (a<s/\s<mid))/\wz=wv)
       case first=>as_aux_lemma=>
        by_cases h1:a<s
        . have k1:(a:Int)<s:=by omega
          by_cases h2:s<mid
          . have k2:(s:Int)<mid:=by omega
            go_wp2
            go_meet
            exact⟨congrArg Value.bool (decide_eq_true (p:=a<s/\s<mid) ⟨h1,h2⟩).symm,rfl⟩
          . have k2:¬(s:Int)<mid:=by omega
            go_wp2
            go_meet
            exact⟨congrArg Value.bool (decide_eq_false (p:=a<s/\s<mid) (by omega)).symm,rfl⟩
        . have k1:¬(a:Int)<s:=by omega
          go_wp2
          go_meet
          exact⟨congrArg Value.bool (decide_eq_false (p:=a<s/\s<mid) (by omega)).symm,rfl⟩
       case rest=>as_aux_lemma=>
        rename World=>wx
        obtain⟨rfl,rfl⟩:=hcut;generalize hT:decide (a<s/\s<mid)=T
        go_upto_if 199 with fail
        go_cut [24] (fun t wz=>t=.int .i64 (e:Int)/\∃zs,Hid (Srt key zs a mid/\zcK key xs zs a m b mid mid e)/\Own w0 wz 3 1 (some ⟨g,0,none⟩) n c (zs.map iv)/\Only g wc wz)
        case first=>as_aux_lemma=>
         rcases T with _|_
         . have hT':=of_decide_eq_false hT
           go_wp2
           go_meet
           exact⟨rfl,ys,hH.out.left (hH.out.left_none hT'),own1,O1⟩
         . have hT':=of_decide_eq_true hT
           go_wp2_with (go_at_call 163;refine(HK.out _ a s mid ys (by omega) own1 hS1 hall1 (hH.out.leftP (by omega) hT'.1 hT'.2) (by omega)).mono ?_;rintro x w2 ⟨rfl,zs,hD,own2,O2⟩)
           go_meet
           exact⟨rfl,zs,hH.out.left hD,own2,O1.trans O2⟩
        case rest=>as_aux_lemma=>
         rename World=>wu
         obtain⟨rfl,zs,hH2,own2,O2⟩:=hcut;clear hT T;have hS2:=hS.trans O2;have hall2:=hH2.out.2.mv.all (n:=n) (N:=N) (by omega) Hx.out;by_cases h1:mid<e
         . have k1:(mid:Int)<e:=by omega
           by_cases h2:e<b
           . have k2:(e:Int)<b:=by omega
             go_wp2_with (go_at_call 163;refine(HK.out _ mid e b zs (by omega) own2 hS2 hall2 (hH2.out.2.rightP (by have:=hxl;omega) h1 h2) (by omega)).mono ?_;rintro x w3 ⟨rfl,qs,hD,own3,O3⟩)
             go_end0
             exact⟨rfl,qs,hH2.out.2.done hH2.out.1 hD,own3,O2.trans O3⟩
           . have k2:¬(e:Int)<b:=by omega
             go_wp2
             go_end0
             exact⟨rfl,zs,hH2.out.2.done hH2.out.1 (hH2.out.2.right_none (by omega)),own2,O2⟩
         . have k1:¬(mid:Int)<e:=by omega
           go_wp2
           go_end0
           exact⟨rfl,zs,hH2.out.2.done hH2.out.1 (hH2.out.2.right_none (by omega)),own2,O2⟩
theorem zqy{w0 wS:World}{g n c N:Nat}{key:Nat->Int}{gf:FuncId}{lb:Array Value}(eg:∀args w,(callFunc gf args).run prog w=.ok (.enter gf args) w)(hcmp:CmpF gf lb key N g wS)(hn:n<=1000000000000):
 ∀k,MrgK gf lb key N g n c w0 wS k
 |0=>fun w a m b xs hk own hS hx hp hb=>by have:=hp.am;have:=hp.mb;omega
 |k+1=>fun w a m b xs hk own hS hx hp hb=>by
  have h1:=hp.am;have h2:=hp.mb;by_cases c1:m=a+1
  . subst c1
    exact zrt eg hcmp own hS hx hp hb hn
  . by_cases c2:b=m+1
    . subst c2
      exact zru eg hcmp own hS hx hp (by omega) hb hn
    . exact zrv eg hcmp (zqy eg hcmp hn k) own hS hx hp hk (by omega) (by omega) hb hn
variable{A:Option Addr}
theorem zmv(ha:a<=1000000000000):
 Calls prog 162 #[.slice A n c,.int .i64 (a:Int),.int .i64 (a:Int),f] w fun e w'=>e=.returned (.tuple #[])/\w'=w:=by
 go_enter func162,ntmps162
 go_wp2
 go_loopw [8] (fun u wr=>u=.int .i64 ((a:Int)+1)/\wr=w) (fun _ _=>0)
 case atStart=>exact⟨rfl,rfl⟩
 case round=>
  obtain⟨rfl,rfl⟩:=hrel
  go_wp2
  go_end0
  exact⟨rfl,rfl⟩
theorem ziG(eg:∀args w,(callFunc gf args).run prog w=.ok (.enter gf args) w)(hcmp:CmpF gf lb key N g wS)(own:Own w0 w 3 1 (some ⟨g,0,none⟩) n c (xs.map iv))(hS:Only g wS w)(hx:∀u,u<n->atL xs u<N)(hab:a<=b)(hb:b<=n)(hn:n<=1000000000000)(hinc:∀u v,a<=u->u<v->v<b->atL xs u<atL xs v):
 Calls prog 162 #[.slice (some ⟨g,0,none⟩) n c,.int .i64 (a:Int),.int .i64 (b:Int),.func (.func gf) #[] lb] w fun e w'=>e=.returned (.tuple #[])/\∃ys,InsO key xs ys a b/\Own w0 w' 3 1 (some ⟨g,0,none⟩) n c (ys.map iv)/\Only g w w':=by
 by_cases h:a=b
 . subst h
   refine(zmv (by omega)).mono ?_;rintro e w1 ⟨rfl,rfl⟩;exact⟨rfl,xs,⟨Moves.refl _ _ _,fun u v h1 h2 h3=>by omega⟩,own,Only.refl _ _⟩
 . exact zrs eg hcmp own hS hx (by omega) hb hn hinc
theorem zrw(eg:∀args w,(callFunc gf args).run prog w=.ok (.enter gf args) w)(hcmp:CmpF gf lb key n g w)(own:Own w0 w 3 1 (some ⟨g,0,none⟩) n c ((List.range n).map iv))(hn:n<=1000000000000):
 Calls prog 129 #[.slice (some ⟨g,0,none⟩) n c,.int .i64 (n:Int),.func (.func gf) #[] lb] w fun e w'=>e=.returned (.tuple #[])/\Own w0 w' 3 1 (some ⟨g,0,none⟩) n c ((sortK key n).map iv)/\Only g w w':=by
 have hall0:∀u,u<n->atL (List.range n) u<n:=fun u hu=>by rw[zjU hu];exact hu
 have hM:=zqy (w0:=w0) (c:=c) eg hcmp hn n;have Hcmp:=zsp hcmp;have HM:=zsp hM;have Hall0:=zsp hall0;clear hcmp hM hall0
 go_enter func129,ntmps129
 go_wp2
 go_loopw [7,8] (fun u v wr=>∃(a:Nat)(ys:List Nat),a<=n/\u=.int .i64 a/\v=.int .i64 ((a:Int)+20)/\Hid (20∣a/\Cut key ys n 20 a/\Moves 0 n (List.range n) ys)/\Own w0 wr 3 1 (some ⟨g,0,none⟩) n c (ys.map iv)/\Only g w wr) (fun u _ _=>n - (intOf u).toNat)
 case atStart=>exact⟨0,List.range n,by omega,rfl,rfl,⟨Nat.dvd_zero _,Cut.start n 20,Moves.refl _ _ _⟩,own,Only.refl g w⟩
 case round=>
  obtain⟨a,ys,ha,rfl,rfl,hC,ownY,hO⟩:=hrel;have hall:=hC.out.2.2.all (n:=n) (N:=n) (Nat.le_refl _) Hall0.out;by_cases hlt:a+20<=n
  . have hltI:(a:Int)+20<=n:=by omega
    have hc:=ziG (a:=a) (b:=a+20) eg Hcmp.out ownY hO hall (by omega) hlt hn (fun u v h1 h2 h3=>by rw[hC.out.2.1.raw u h1 (by omega),hC.out.2.1.raw v (by omega) (by omega)];exact h2);have Hc:=zsp hc;clear hc
    go_wp2_with (go_at_call 162;refine Hc.out.mono ?_;rintro e w1 ⟨rfl,zs,hI,own1,O1⟩)
    go_roundw
    case rel=>exact⟨a+20,zs,hlt,by go_num,by go_num,⟨Nat.dvd_add hC.out.1 (Nat.dvd_refl _),hC.out.2.1.next hC.out.1 hlt hI,hC.out.2.2.trans (hI.mv.wide (Nat.zero_le _) hlt)⟩,own1,hO.trans O1⟩
    case measure=>simp[intOf];omega
  . have hltI:¬(a:Int)+20<=n:=by omega
    have hc:=ziG (a:=a) (b:=n) eg Hcmp.out ownY hO hall ha (Nat.le_refl _) hn (fun u v h1 h2 h3=>by rw[hC.out.2.1.raw u h1 (by omega),hC.out.2.1.raw v (by omega) (by omega)];exact h2);have Hc:=zsp hc;clear hc
    go_wp2_with (go_at_call 162;refine Hc.out.mono ?_;rintro e w1 ⟨rfl,zs,hI,own1,O1⟩)
    have hB:Hid (zgs key zs n 20/\Moves 0 n (List.range n) zs):=⟨hC.out.2.1.last hC.out.1 ha (by omega) hI,hC.out.2.2.trans (hI.mv.wide (Nat.zero_le _) (Nat.le_refl _))⟩
    have hO1:=hO.trans O1;clear Hc hC hI hall O1
    go_loopw [6,7,8,9] (fun t _ _ _ wr=>∃(s:Nat)(ys:List Nat),0<s/\t=.int .i64 s/\s<=2000000000000/\Hid (zgs key ys n s/\Moves 0 n (List.range n) ys)/\Own w0 wr 3 1 (some ⟨g,0,none⟩) n c (ys.map iv)/\Only g w wr) (fun t _ _ _ _=>n - (intOf t).toNat)
    case atStart=>exact⟨20,zs,by omega,rfl,by omega,hB,own1,hO1⟩
    case round=>as_aux_lemma=>
     obtain⟨s,ys,hs,rfl,hs2,hB2,own2,hO2⟩:=hrel;by_cases hlt2:s<n
     . have hlt2I:(s:Int)<n:=by omega
       go_wp2
       go_loopw [7,8] (fun u v wq=>∃(a:Nat)(qs:List Nat),a<=n/\u=.int .i64 a/\v=.int .i64 ((a:Int)+2*s)/\Hid (2*s∣a/\Lvl key qs n s a/\Moves 0 n (List.range n) qs)/\Own w0 wq 3 1 (some ⟨g,0,none⟩) n c (qs.map iv)/\Only g w wq) (fun u _ _=>n - (intOf u).toNat)
       case atStart=>exact⟨0,ys,by omega,rfl,by go_num,⟨Nat.dvd_zero _,Lvl.start hB2.out.1,hB2.out.2⟩,own2,hO2⟩
       case round=>
        obtain⟨a,qs,ha,rfl,rfl,hL,own3,hO3⟩:=hrel;have hall:=hL.out.2.2.all (n:=n) (N:=n) (Nat.le_refl _) Hall0.out;have hql:=own3.numL;by_cases hb:a+2*s<=n
        . have hbI:(a:Int)+2*s<=n:=by omega
          have hp:=hL.out.2.1.pre hL.out.1 (by omega) hs hql (b:=a+2*s) (by omega);have hc:=HM.out _ a (a+s) (a+2*s) qs (by omega) own3 hO3 hall hp hb;have Hc:=zsp hc;clear hc hp
          go_wp2_with (go_at_call 163;refine Hc.out.mono ?_;rintro e w4 ⟨rfl,rs,hD,own4,O4⟩)
          go_roundw
          case rel=>exact⟨a+2*s,rs,hb,by go_num,by go_num,⟨Nat.dvd_add hL.out.1 (Nat.dvd_refl _),hL.out.2.1.next hL.out.1 hb hs hD,hL.out.2.2.trans (hD.mv.wide (Nat.zero_le _) hb)⟩,own4,hO3.trans O4⟩
          case measure=>simp[intOf];omega
        . have hbI:¬(a:Int)+2*s<=n:=by omega
          by_cases hm:a+s<n
          . have hmI:(a:Int)+s<n:=by omega
            have hp:=hL.out.2.1.pre hL.out.1 (by omega) hs hql (b:=n) (by omega);have hc:=HM.out _ a (a+s) n qs (by omega) own3 hO3 hall hp (Nat.le_refl _);have Hc:=zsp hc;clear hc hp
            go_wp2_with (go_at_call 163;refine Hc.out.mono ?_;rintro e w4 ⟨rfl,rs,hD,own4,O4⟩)
            go_roundw
            case rel=>exact⟨2*s,rs,by omega,by go_num,by omega,⟨hL.out.2.1.last hL.out.1 (by omega) hm hD,hL.out.2.2.trans (hD.mv.wide (Nat.zero_le _) (Nat.le_refl _))⟩,own4,hO3.trans O4⟩
            case measure=>simp[intOf];omega
          . have hmI:¬(a:Int)+s<n:=by omega
            go_wp2
            go_roundw
            case rel=>exact⟨2*s,qs,by omega,by go_num,by omega,⟨hL.out.2.1.stop hL.out.1 ha (by omega) hm,hL.out.2.2⟩,own3,hO3⟩
            case measure=>simp[intOf];omega
     . have hlt2I:¬(s:Int)<n:=by omega
       go_wp2
       go_end0
       rw[<-zla hB2.out.2.perm (hB2.out.1.all (by omega))];exact⟨rfl,own2,hO2⟩
theorem zSort(eg:∀args w,(callFunc gf args).run prog w=.ok (.enter gf args) w)(hcmp:CmpF gf lb key n g w)(own:Own w0 w 3 1 (some ⟨g,0,none⟩) n c ((List.range n).map iv))(hn:n<=1000000000000):
 Calls prog 88 #[.slice (some ⟨g,0,none⟩) n c,.func (.func gf) #[] lb] w fun e w'=>e=.returned (.tuple #[])/\Own w0 w' 3 1 (some ⟨g,0,none⟩) n c ((sortK key n).map iv)/\Only g w w':=by
 have hc:=zrw eg hcmp own hn;have Hc:=zsp hc;clear hc hcmp
 go_enter func88,ntmps88
 go_wp2_with (go_at_call 129;refine Hc.out.mono ?_;rintro e w1 ⟨rfl,own1,O1⟩)
 go_end0
 exact⟨rfl,own1,O1⟩
theorem zso:
 Calls prog 88 #[.slice none 0 0,f] w fun e w'=>e=.returned (.tuple #[])/\w'=w:=by
 have hc:Calls prog 129 #[.slice none 0 0,.int .i64 ((0:Nat):Int),f] w fun e w'=>e=.returned (.tuple #[])/\w'=w:=by
  have hi:=zmv (w:=w) (A:=none) (n:=0) (c:=0) (a:=0) (f:=f) (by omega);have Hi:=zsp hi;clear hi
  go_enter func129,ntmps129
  go_wp2
  go_loopw [7,8] (fun u v wr=>u=.int .i64 0/\v=.int .i64 20/\wr=w) (fun _ _ _=>0)
  case atStart=>exact⟨rfl,rfl,rfl⟩
  case round=>
   obtain⟨rfl,rfl,rfl⟩:=hrel
   go_wp2_with (go_at_call 162;refine Hi.out.mono ?_;rintro e w1 ⟨rfl,rfl⟩)
   rename World=>wz
   go_loopw [6,7,8,9] (fun t _ _ _ wq=>t=.int .i64 20/\wq=wz) (fun _ _ _ _ _=>0)
   case atStart=>exact⟨rfl,rfl⟩
   case round=>
    obtain⟨rfl,rfl⟩:=hrel
    go_wp2
    go_end0
    exact⟨rfl,rfl⟩
 have Hc:=zsp hc;clear hc
 go_enter func88,ntmps88
 go_wp2_with (go_at_call 129;refine Hc.out.mono ?_;rintro e w1 ⟨rfl,rfl⟩)
 go_end0
 exact⟨rfl,rfl⟩
theorem zNaN(x:Int)(w:World):Calls prog 130 #[.int .i64 x] w fun e w'=>e=.returned (.bool false)/\w'=w:=by
 go_enter func130,ntmps130
 go_wp2
 go_ret
 exact⟨by simp,rfl⟩
theorem zpS(x y:Int)(w:World):Calls prog 90 #[.int .i64 x,.int .i64 y] w fun e w'=>e=.returned (.int .i64 (cmpI x y))/\w'=w:=by
 have h:=fun x=>zNaN x w
 rcases Int.lt_trichotomy x y with hxy|hxy|hxy
 . have e:cmpI x y= -1:=if_pos hxy
   rw[e]
   go_enter func90,ntmps90
   go_wp2_with (go_at_call 130;refine(h _).mono ?_;rintro e w1 ⟨rfl,rfl⟩)
   go_ret
   exact⟨rfl,rfl⟩
 . subst hxy
   have e:cmpI x x=0:=by unfold cmpI;simp
   rw[e];have d:decide (x<x)=false:=by simp
   go_enter func90,ntmps90
   go_wp2_with (go_at_call 130;refine(h _).mono ?_;rintro e w1 ⟨rfl,rfl⟩)
   go_ret
   exact⟨rfl,rfl⟩
 . have e:cmpI x y=1:=by unfold cmpI;rw[if_neg (by omega),if_pos hxy]
   rw[e];have d:¬x<y:=by omega
   go_enter func90,ntmps90
   go_wp2_with (go_at_call 130;refine(h _).mono ?_;rintro e w1 ⟨rfl,rfl⟩)
   go_ret
   exact⟨rfl,rfl⟩
def keyF(fs:List zaa)(i:Nat):Int:=((fs[i]?).map (·.number)).getD 0
variable{fs:List zaa}
theorem zdi{i:Nat}{f:zaa}(h:fs[i]?=some f):keyF fs i=f.number:=by unfold keyF;rw[h];rfl
variable{s:ByteArray}
theorem zpT{x y:Nat}(hf:zax w A n c fs)(c0:w.cell? ⟨b,0,none⟩=some (.string s))(c1:w.cell? ⟨b,1,none⟩=some (.slice A n c))(hx:x<n)(hy:y<n)(hn:n<=1000000000000):
 Calls prog 89 #[.int .i64 (x:Int),.int .i64 (y:Int),.pointer (some ⟨b,0,none⟩)] w fun e w'=>e=.returned (.int .i64 (cmpI (keyF fs x) (keyF fs y)))/\Ext w w':=by
 obtain⟨b1,off1,f1,rfl,h1,_,hb1,d0,d1,d2,d3,d4,d5⟩:=hf.field hx;obtain⟨b2,off2,f2,hA,h2,_,hb2,e0,e1,e2,e3,e4,e5⟩:=hf.field hy;cases hA;have hb:=World.block_lt_of_cell? w _ c1;simp only at hb;rw[zdi h1,zdi h2];have hxI:(x:Int)<n:=by omega
 have hyI:(y:Int)<n:=by omega
 have hc:=fun W=>zpS f1.number f2.number W
 have Hc:=zsp hc;clear hc hf h1 h2 d0 d2 d3 d4 d5 e0 e2 e3 e4 e5
 go_enter func89,ntmps89
 go_wp2_with fail
 go_region_held3 (fun W=>Ext w W/\∀b o,b<w.heap.size->W.cell? ⟨b,o,none⟩=w.cell? ⟨b,o,none⟩) ((refine Ext.keep ?_;repeat with_reducible (first|assumption|exact Ext.refl _|refine Ext.alloc ?_ _|refine Ext.drew ?_|refine Ext.drewN ?_ _|refine Ext.setCell ?_ (by first|omega|(simp<;>omega)) _))) (first|(go_split_ands;go_at_call 90;refine(Hc.out _).mono ?_;rintro e w1 ⟨rfl,rfl⟩))
 all_goals
  go_wp2
  go_ret
  exact⟨rfl,xx⟩
theorem zlC(hf:zax w A n c fs)(hn:n<=1000000000000):
 Calls prog 53 #[.agg #[.string s,.slice A n c]] w fun e w'=>∃A' c',e=.returned (.slice A' n c')/\Own w w' 3 1 A' n c' ((sortK (keyF fs) n).map iv):=by
 have eg:∀args w,(callFunc 89 args).run prog w=.ok (.enter 89 args) w:=enters_of func89 (by kernel_rfl) rfl;have hz:=fun W f=>zso (w:=W) (f:=f)
 go_enter func53,ntmps53
 go_wp2
 have B:=Ext.new_blk (Ext.refl (w.alloc (.cells #[.string s,.slice A n c] 64)));have X1:Ext w (w.alloc (.cells #[.string s,.slice A n c] 64)):=xx;generalize w.alloc (.cells #[.string s,.slice A n c] 64)=w1 at*;generalize w.heap.size=b at*
 go_loopw [3,8] (fun u i wr=>∃(k:Nat)(A2:Option Addr)(c2:Nat),k<=n/\i=.int .i64 (k:Int)/\u=.slice A2 k c2/\(k=0->A2=none/\c2=0)/\Own w1 wr 3 1 A2 k c2 ((List.range k).map iv)) (fun _ i _=>n - (intOf i).toNat)
 case atStart=>exact⟨0,none,0,by omega,rfl,rfl,fun _=>⟨rfl,rfl⟩,Own.nil (Ext.refl _) _ _⟩
 case round=>
  obtain⟨k,A2,c2,hk,rfl,rfl,h00,own⟩:=hrel;by_cases hlt:k<n
  . have hltI:(k:Int)<n:=by omega
    go_wp2_with (at_builtin;refine zcq elemI rfl (.tmp 11) (.tmp 13) rfl rfl own rfl (by simp) rfl (by omega) (by unfold maxLen;omega) ?_;intro A4 c4 w4 own4 g4)
    go_roundw
    case rel=>
     refine⟨k+1,A4,c4,by omega,by go_num,rfl,fun h=>by omega,?_⟩;rw[List.range_succ,List.map_append];exact own4
    case measure=>simp[intOf];omega
  . obtain rfl:k=n:=by omega
    by_cases h0:k=0
    . subst h0
      obtain⟨rfl,rfl⟩:=h00 rfl
      go_wp2_with (go_at_call 88;refine(hz _ _).mono ?_;rintro e w2 ⟨rfl,rfl⟩)
      go_ret
      exact⟨none,0,rfl,own.since X1⟩
    . obtain⟨g,rfl⟩:∃g,A2=some ⟨g,0,none⟩:=by
       rcases own.row.2 with⟨hv,h⟩|⟨g,cap,cur,hv,_⟩
       . omega
       . cases hv;exact⟨g,rfl⟩
      have hbase:=own.base
      have hcmp:CmpF 89 #[.pointer (some ⟨b,0,none⟩)] (keyF fs) k g wr:=by
       intro W x y hO hx hy;have XW:Ext w1 W:=hO.toExt own.ext hbase.1;exact zpT (hf.up (X1.trans XW)) (XW.of_cell (B.cell 0)) (XW.of_cell (B.cell 1)) hx hy hn
      have hc:=zSort eg hcmp own hn;have Hc:=zsp hc;clear hc hcmp
      go_wp2_with (go_at_call 88;refine Hc.out.mono ?_;rintro e w2 ⟨rfl,own2,O2⟩)
      go_ret
      exact⟨_,c2,rfl,own2.since X1⟩
end Go.Proofs.YtlhbllaojjelcaaGreat
