/- Words of my own for memory: two rows of one element type, the call's own, that lie apart. No program is named. -/
import Derived.Test.YtpicpebolghcfaaGreatDoorQlInv2
import Derived.Test.YtpicpebolghcfaaGreatDoorQlW72

set_option linter.unusedVariables false
set_option linter.unusedSimpArgs false
set_option maxRecDepth 100000
set_option maxHeartbeats 2000000
namespace Go.Proofs.YtpicpebolghcfaaGreatDoor
open Go.RowKit Tryz
end Go.Proofs.YtpicpebolghcfaaGreatDoor
namespace Go.Proofs.YtpicpebolghcfaaGreatDoor
open Go.RowKit Go.Shelf Tryz
variable{n c:Nat}{A:Option Addr}{w:World}
theorem zjc{w':World}{size:Nat}{xs:List Value}(h:Reads w A n c size xs){ob:Option Nat}(hg:w.grownBy w' ob)(hne:∀a,A=some a->some a.block≠ob):Reads w' A n c size xs:=
 ⟨h.1,h.2,h.3,fun hn=>by
  obtain⟨b,off,e,hb,hc⟩:=h.4 hn;refine⟨b,off,e,Nat.lt_of_lt_of_le hb hg.size,fun j u hj=> ?_⟩;rw[World.cell?_of_block (hg.block b hb (hne _ e))]
  exact hc j u hj⟩
def zda(N:Nat)(whole vs:List UInt8):List UInt8:=whole.take N++(Lib.uvarint vs.length++vs)
variable{N:Nat}
theorem zrK{w0:World}{B V:Option Addr}{m d vn vc T K:Nat}{xs whole vs:List UInt8}(own:Own w0 w 5 1 A n c (xs.map bv))(hwh:zac w0 B m d whole)(hv:zac w V vn vc vs)(hne:∀a,V=some a->some a.block≠(Value.slice A n c).ownBlock)(ht:tagV whole=(T,K,N,0))(hn:n<=500000000000)(hm:m<=1000000000)(hvn:vn<=400000000000):
 Calls prog 120 #[.slice A n c,.slice B m d,.slice V vn vc] w fun e w'=>∃A' n' c',e=.returned (.slice A' n' c')/\n'=n+(zda N whole vs).length/\Own w0 w' 5 1 A' n' c' ((xs++zda N whole vs).map bv):=by
 have hwl:=hwh.length;have hvl:=hv.length;have hbd:=zhv whole;rw[ht]at hbd;simp only at hbd;have hNm:N<=m:=by omega
 have htr:=fun W (h:Ext w W)=>tRead ((hwh.up own.ext).up h) ht
 obtain⟨B2,k2,hcutr⟩:=zgR elemB hwh .i64 (m:=N) hNm;have hcut1:∀W:World,(Instr.slice 24 (.slice B m d) none (some (.int .i64 N)) none).run prog W=.ok (.slice B2 N d) W:=k2;have hcut2:zac w0 B2 N d (whole.take N):=by unfold zac;rw[List.map_take];simpa using hcutr
 have hput:=fun(W:World)(A':Option Addr)(c':Nat)(h:zac W A' (n+N) c' (xs++whole.take N))=>vPut (x:=(vn:Int)) h (by omega) (by omega) (by omega)
 rw[Int.toNat_natCast]at hput;obtain⟨ul,hul⟩:∃ul,ul=(Lib.uvarint vn).length:=⟨_,rfl⟩
 have hul10:(Lib.uvarint vn).length<=10:=Lib.uvarint_length64 (by omega)
 have hal:(zda N whole vs).length=N+(ul+vn):=by
  unfold zda;rw[List.length_append,List.length_append,List.length_take,hvl,hul];omega
 rw[<-hul]at hput;have hul11:ul<=10:=by omega
 have Htr:=zsz htr;have Hput:=zsz hput;have Hal:=zsz hal;have Hvl:=zsz hvl;have Hne:=zsz hne;have Hcut2:=zsz hcut2;have Hv:=zsz hv;clear htr hput hal hvl hne hcut2 hv hcutr k2 hbd hul10 hul hwl hwh
 go_enter func120,ntmps120
 go_wp2_with (first
  |(go_at_call 141;refine(Htr.out _ xx).mono ?_;rintro e w1 ⟨rfl,E1⟩)
  |(at_builtin;refine zaK elemB rfl (.tmp 16) (.tmp 19) rfl rfl ((own.up E1).alloc _) rfl ((Hcut2.out.up own.ext).up (E1.alloc _)) (zdZ _) (by omega) (by unfold maxLen;omega) ?_;intro A3 c3 w3 own3 g3 m3;have hv3:=zjc (Hv.out.up ((E1).alloc _)) g3 Hne.out;rw[<-List.map_append]at own3)
  |(go_at_call 78;refine(Hput.out _ _ _ own3.bytes).mono ?_;rintro e w4 ⟨A4,c4,rfl,own4⟩;have hv4:=zac.up hv3 own4.ext)
  |(at_builtin;refine zaK elemB rfl (.tmp 24) (.tmp 25) rfl rfl own4 rfl hv4 (zdZ _) (by omega) (by unfold maxLen;omega) ?_;intro A5 c5 w5 own5 g5 m5;rw[<-List.map_append]at own5))
 go_ret
 refine⟨A5,_,c5,rfl,by rw[Hal.out];omega,?_⟩;have h5:=own5.since own3.ext;unfold zda;rw[Hvl.out];simpa[List.append_assoc] using h5
def lastU(L:List ViewD)(x:Int):Nat->Int
 |0=> -1
 |k+1=>match L[k]? with
  |none=>lastU L x k
  |some v=>if(v.r.n:Int)=x then k else lastU L x k
variable{L:List ViewD}
theorem uLast{x:Int}(h:Reads w A n c 7 (L.flatMap viewC))(hn:n<=1000000000):
 Calls prog 119 #[.slice A n c,.int .i64 x] w fun e w'=>e=.returned (.int .i64 (lastU L x n))/\Ext w w':=by
 have H:=zsz h;clear h;obtain⟨R,hR⟩:∃R,R=lastU L x n:=⟨_,rfl⟩
 rw[<-hR];have HR:=zsz hR;clear hR
 go_enter func119,ntmps119
 go_wp2_with fail
 go_loopw [5] (fun t wr=>∃(q:Nat),q<=n/\t=.int .i64 ((q:Int) - 1)/\Ext w wr/\Hid (lastU L x q=R)) (fun t _=>(intOf t+1).toNat)
 case atStart=>exact⟨n,Nat.le_refl _,rfl,Ext.refl _,zsz HR.out.symm⟩
 case round=>
  obtain⟨q,hq,rfl,X,hRq⟩:=hrel;rcases q with _|q
  . have h0:R= -1:=hRq.out.symm
    subst h0
    go_wp2
    go_ret
    exact⟨rfl,X⟩
  . have hlt:q<n:=by omega
    obtain⟨b,off,v,rfl,hv,hb,c0,c1,c2,c3,c4,c5,c6⟩:=H.out.view' hlt
    have hst:lastU L x (q+1)=if(v.r.n:Int)=x then(q:Int)else lastU L x q:=by
     conv=>lhs;unfold lastU
     rw[hv]
    have hq1:((q+1:Nat):Int) - 1=q:=by omega
    have hqn:(q:Int)<n:=by omega
    have hq0:(0:Int)<=q:=by omega
    rw[hq1];replace c0:=X.of_cell c0;replace hb:=Nat.lt_of_lt_of_le hb X.size;by_cases hx:(v.r.n:Int)=x
    . rw[if_pos hx]at hst
      have hR2:R=q:=by rw[<-hRq.out,hst]
      subst hR2;have hx2:((v.r.n:Int)==x)=true:=by rw[beq_iff_eq];exact hx
      clear hst hv c1 c2 c3 c4 c5 c6 hx
      go_wp2
      go_ret
      exact⟨rfl,X⟩
    . rw[if_neg hx]at hst
      have hR2:lastU L x q=R:=by rw[<-hRq.out,hst]
      have HR2:=zsz hR2;have hx2:((v.r.n:Int)==x)=false:=by rw[beq_eq_false_iff_ne];exact hx
      clear hst hv c1 c2 c3 c4 c5 c6 hx hR2 hRq
      go_wp2
      go_roundw
      case rel=>exact⟨q,by omega,by go_num,X,HR2⟩
      case measure=>simp[intOf]
def zdb(rec:List UInt8->Bool->List UInt8)(x:Int)(one drop put:Bool)(bs:List UInt8)(z:Int)(i:Nat)(v:ViewD):List UInt8:=
 if¬(v.r.n:Int)=x\/(one=true/\drop=false)then spanB bs v.r.f v.r.t else if one=true then[]else
  zda (tagV (spanB bs v.r.f v.r.t)).2.2.1 (spanB bs v.r.f v.r.t) (rec (zak bs v) (put&&decide ((i:Int)=z)))
def zbg(g:Nat->ViewD->List UInt8)(L:List ViewD)(q:Nat):List UInt8:=(List.range q).flatMap fun i=>match L[i]? with
 |none=>[]
 |some v=>g i v
theorem zhj(g:Nat->ViewD->List UInt8)(L:List ViewD):zbg g L 0=[]:=rfl
variable{q:Nat}{g:Nat->ViewD->List UInt8}
theorem zeZ{v:ViewD}(h:L[q]?=some v):zbg g L (q+1)=zbg g L q++g q v:=by
 unfold zbg;rw[List.range_succ,List.flatMap_append,List.flatMap_cons,List.flatMap_nil,List.append_nil,h]
variable{r:Nat}
theorem zfa(g:Nat->ViewD->List UInt8)(L:List ViewD)(h:q<=r):(zbg g L q).length<=(zbg g L r).length:=by
 induction r with
 |zero=>
  have:q=0:=by omega
  subst this;exact Nat.le_refl _
 |succ r ih=>
  by_cases hq:q=r+1
  . subst hq
    exact Nat.le_refl _
  . have:=ih (by omega)
    unfold zbg at this⊢;rw[List.range_succ,List.flatMap_append,List.length_append];omega
def ofU(S:List MsgD)(m:Nat)(x:Int):Nat:=match zbj S m x with
 |none=>0
 |some f=>f.of_.toNat
def setB(S:List MsgD)(drop:Bool)(extra:List UInt8):List Int->Nat->List UInt8->Bool->List UInt8
 |[],_,_,_=>[]
 |x::l,m,bs,put=>zbg (zdb (fun b p=>setB S drop extra l (ofU S m x) b p) x (decide (l=[])) drop put bs (lastU (zae (zar S m) bs).1 x (zae (zar S m) bs).1.length)) (zae (zar S m) bs).1 (zae (zar S m) bs).1.length++
   (if put=false then[]else if l=[]then extra else if lastU (zae (zar S m) bs).1 x (zae (zar S m) bs).1.length<0 then lenB x (setB S drop extra l (ofU S m x) [] true)else[])
theorem zmb{bs:List UInt8}{r:Rec}(h:nextV bs r.f=(r,0)):∃N,tagV (spanB bs r.f r.t)=(r.n,r.w,N,0)/\N<=r.a - r.f:=by
 have hh:=zkf h;generalize spanB bs r.f r.t=sp at*;unfold headV at hh;split at hh
 . rename_i h1
   have:=congrArg (fun x:Nat×Nat×Nat×Nat×Nat=>x.2.2.2.2) hh;simp only at this;exact absurd this h1
 . rename_i h1
   split at hh
   . rename_i h2
     have:=congrArg (fun x:Nat×Nat×Nat×Nat×Nat=>x.2.2.2.2) hh;simp only at this;exact absurd this h2
   . split at hh
     . have:=congrArg (fun x:Nat×Nat×Nat×Nat×Nat=>x.2.2.2.2) hh
       simp at this
     . simp only[Prod.mk.injEq]at hh
       obtain⟨e1,e2,e3,_,_⟩:=hh;refine⟨(tagV sp).2.2.1,?_,by omega⟩;rcases ht:tagV sp with⟨T,V,N,C⟩
       rw[ht]at e1 e2 h1;simp only at e1 e2 h1⊢;rw[e1,e2,show C=0 by omega]
theorem zmc:∀(L:List ViewD)(p e:Nat),LinkV p L e->∀q,((L.take q).map fun v=>v.r.t - v.r.f).sum<=e - p
 |[],p,e,_,q=>by simp
 |v::L,p,e,h,0=>by simp
 |v::L,p,e,h,q+1=>by
  obtain⟨h1,h2,h3⟩:=h;have ih:=zmc L v.r.t e h3 q;have hle:=LinkV.le h3;rw[List.take_succ_cons,List.map_cons,List.sum_cons];omega
variable{E:Nat}
theorem zmd{B:Nat}{z:Int}(hs:∀q,((L.take q).map fun v=>v.r.t - v.r.f).sum<=B)(hg:∀i v,L[i]?=some v->(g i v).length<=c*(v.r.t - v.r.f)+if(i:Int)=z then E else 0):∀q,q<=L.length->(zbg g L q).length<=c*B+E:=by
 have key:∀q,q<=L.length->(zbg g L q).length<=c*((L.take q).map fun v=>v.r.t - v.r.f).sum+if z<(q:Int)then E else 0:=by
  intro q
  induction q with
  |zero=>
   intro _;simp[zhj]
  |succ q ih=>
   intro hq;have ihq:=ih (by omega);obtain⟨v,hv⟩:∃v,L[q]?=some v:=⟨_,List.getElem?_eq_getElem (by omega)⟩
   have hgv:=hg q v hv;rw[zeZ hv,List.length_append,List.take_add_one,hv,List.map_append,List.sum_append];simp only[Option.toList_some,List.map_cons,List.map_nil,List.sum_cons,List.sum_nil,Nat.add_zero];rw[Nat.mul_add];by_cases hz:(q:Int)=z
   . rw[if_pos hz]at hgv
     rw[if_neg (by omega)]at ihq;rw[if_pos (by omega)];omega
   . rw[if_neg hz]at hgv
     by_cases hz2:z<(q:Int)
     . rw[if_pos hz2]at ihq
       rw[if_pos (by omega)];omega
     . rw[if_neg hz2]at ihq
       rw[if_neg (by omega)];omega
 intro q hq;have h1:=key q hq;have h2:=Nat.mul_le_mul_left c (hs q);split at h1<;>omega
theorem zos(x:Int)(v:List UInt8)(h:v.length<=100000000000):(lenB x v).length<=20+v.length:=by
 unfold lenB;split
 . rename_i hr
   have:=zcv hr h;omega
 . simp
theorem zil(fs:List zab)(bs:List UInt8):∀q,(((zae fs bs).1.take q).map fun v=>v.r.t - v.r.f).sum<=bs.length:=by
 intro q;by_cases h:(zae fs bs).2.2=0
 . exact zmc _ 0 bs.length (zhE fs bs bs.length 0 (by omega) (Nat.zero_le _) h) q
 . rw[(zdd fs bs).2.2.1 h]
   simp
theorem zkY{A V k:Nat}(hc:c=11+10*k)(hA:1<=A)(hN:N<=A)(hr:r<=(1+10*k)*V+E):N+(10+r)<=c*(A+V)+E:=by
 have h1:11*A<=c*A:=Nat.mul_le_mul_right A (by omega);have h2:(1+10*k)*V<=c*V:=Nat.mul_le_mul_right V (by omega);rw[Nat.mul_add];generalize c*A=cA at*;generalize c*V=cV at*;generalize (1+10*k)*V=kV at*;omega
theorem zhk(S:List MsgD)(drop:Bool)(extra:List UInt8)(he:extra.length<=1000000):∀(way:List Int)(m:Nat)(bs:List UInt8)(put:Bool),way.length<=65->bs.length<=1000000->
 (setB S drop extra way m bs put).length<=(1+10*way.length)*bs.length+(if put=true then extra.length+20*way.length else 0)
 |[],m,bs,put,_,_=>by simp[setB]
 |x::l,m,bs,put,hw,hb=>by
  have ih:=fun(b:List UInt8)(p:Bool)(h:b.length<=1000000)=>zhk S drop extra he l (ofU S m x) b p (by simp at hw;omega) h
  have hw2:l.length<=64:=by simp at hw;omega
  unfold setB;have hs:=zil (zar S m) bs;have hbd:=fun v hv=>zbO (fs:=zar S m) (bs:=bs) (v:=v) hv
  have hea:=fun v hv=>(zbI (zar S m) bs v hv).1
  generalize (zae (zar S m) bs).1=L at*;generalize hz:lastU L x L.length=z at*;obtain⟨E0,hE0⟩:∃E0,E0=extra.length+20*l.length:=⟨_,rfl⟩
  obtain⟨E,hE⟩:∃E,E=if put=true/\0<=z/\l≠ []then E0 else 0:=⟨_,rfl⟩
  obtain⟨c,hc⟩:∃c,c=11+10*l.length:=⟨_,rfl⟩
  have hfr:=zmd (c:=c) (E:=E) (B:=bs.length) (z:=z) (g:=zdb (fun b p=>setB S drop extra l (ofU S m x) b p) x (decide (l=[])) drop put bs z) hs (fun i v hv=>by
   have hb1:=hbd v (List.mem_of_getElem? hv);have hwl:=zax bs (a:=v.r.f) (t:=v.r.t) (by omega);have hvl:=zax bs (a:=v.r.a) (t:=v.r.t) (by omega);have hcp:v.r.t - v.r.f<=c*(v.r.t - v.r.f):=Nat.le_mul_of_pos_left _ (by omega);unfold zdb;split
   . rw[hwl]
     omega
   . split
     . simp
     . rename_i _ hl
       have hl':l≠ []:=fun e=>hl (by simp[e])
       obtain⟨N,ht,hN⟩:=zmb (hea v (List.mem_of_getElem? hv));rw[ht];simp only;have hr:=ih (zak bs v) (put&&decide ((i:Int)=z)) (by unfold zak;omega)
       have hlen:(setB S drop extra l (ofU S m x) (zak bs v) (put&&decide ((i:Int)=z))).length<18446744073709551616:=by
        have h1:(1+10*l.length)*(zak bs v).length<=641*1000000:=Nat.mul_le_mul (by omega) (by unfold zak;omega);split at hr<;>omega
       have hu:=zdL _ hlen;unfold zda;rw[List.length_append,List.length_append,List.length_take]
       have hE2:(if(put&&decide ((i:Int)=z))=true then extra.length+20*l.length else 0)=if(i:Int)=z then E else 0:=by
        rw[hE,<-hE0];by_cases hiz:(i:Int)=z
        . have hz0:(0:Int)<=z:=by omega
          cases put<;>simp[hiz,hz0,hl']
        . simp[hiz]
       rw[hE2]at hr;have hvl2:(zak bs v).length=v.r.t - v.r.a:=hvl;have hpb:=zkY (A:=v.r.a - v.r.f) (V:=v.r.t - v.r.a) (k:=l.length) (N:=N) (E:=if(i:Int)=z then E else 0) hc (by omega) hN (by rw[hvl2]at hr;exact hr);have hT:v.r.a - v.r.f+(v.r.t - v.r.a)=v.r.t - v.r.f:=by omega
       rw[hT]at hpb;have hmin:min N (spanB bs v.r.f v.r.t).length<=N:=Nat.min_le_left _ _
       omega) L.length (Nat.le_refl _)
  rw[List.length_append];have hcw:(1+10*(x::l).length)=c:=by rw[List.length_cons,hc];omega
  rw[hcw]
  have htail:(if put=false then[]else if l=[]then extra else if z<0 then lenB x (setB S drop extra l (ofU S m x) [] true)else[]).length+E<=(if put=true then extra.length+20*(x::l).length else 0):=by
   cases put with
   |false=>simp at hE⊢;exact hE
   |true=>
    simp only[Bool.true_eq_false,if_false,if_true,List.length_cons];by_cases hl:l=[]
    . rw[if_pos hl]
      have:E=0:=by rw[hE];simp[hl]
      omega
    . rw[if_neg hl]
      by_cases hz0:z<0
      . rw[if_pos hz0]
        have hE1:E=0:=by
         rw[hE,if_neg];rintro⟨_,h,_⟩;omega
        have hr:=ih [] true (by simp);simp only[List.length_nil,Nat.mul_zero,Nat.zero_add,if_true]at hr;have:=zos x (setB S drop extra l (ofU S m x) [] true) (by omega);omega
      . rw[if_neg hz0]
        have hE1:E=E0:=by
         rw[hE,if_pos ⟨rfl,by omega,hl⟩]
        simp only[List.length_nil];omega
  omega
end Go.Proofs.YtpicpebolghcfaaGreatDoor
