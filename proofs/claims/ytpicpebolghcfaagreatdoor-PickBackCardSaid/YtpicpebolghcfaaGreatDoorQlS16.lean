/- Plain words of layers 15 and 17: meanings, joined. -/
import Derived.Test.YtpicpebolghcfaaGreatDoorQlW14u

set_option linter.unusedVariables false
namespace Go.Proofs.YtpicpebolghcfaaGreatDoor
open Go.RowKit
section
variable {S:List MsgD} {d m:Nat} {M:MsgD}
theorem zfM{fs:List zab}{bs:List UInt8}{v:ViewD}(h:lookV fs bs 0=(v,0)):headV bs=(v.r.n,v.r.w,v.r.a,v.r.t,0)/\v.r.f=0/\0<v.r.a/\v.r.a<=v.r.t/\v.r.t<=bs.length/\v.r=⟨v.r.n,v.r.w,0,v.r.a,v.r.t⟩:=by
 obtain⟨h1,h2,h3,h4,h5⟩:=zci (zbW h).1;rw[List.drop_zero]at h1;refine⟨h1,h2,h3,h4,h5,?_⟩;obtain⟨⟨a1,a2,a3,a4,a5⟩,_,_⟩:=v;simp only at h2;subst h2;rfl
theorem zcR(S:List MsgD)(d m:Nat):(zai S d m []).2=0:=by
 rw[zaQ];unfold zdA;rcases S[m]? with _|M
 . rfl
 . simp only
   rw[zha (by simp)]
theorem zmS(hm:S[m]?=some M){bs:List UInt8}(h:(zai S d m bs).2=0)(hne:bs≠ []):
 ∃v,lookV M.fields bs 0=(v,0)/\0<v.r.t/\v.r.t<=bs.length/\(zai S d m (bs.take v.r.t)).2=0/\(zai S d m (bs.drop v.r.t)).2=0/\(∀s,0<s->s<v.r.t->(zai S d m (bs.take s)).2≠0)/\
  (zae M.fields bs).1=v::(zae M.fields (bs.drop v.r.t)).1.map (ViewD.shift v.r.t):=by
 have hpos:0<bs.length:=by cases bs with|nil=>exact absurd rfl hne|cons a l=>simp
 have h0:=h;rw[zaQ,zaA hm]at h;rcases hl:lookV M.fields bs 0 with⟨v,C⟩
 have hC:C=0:=by
  by_cases e:C=0
  . exact e
  . have:=h.1
    unfold zae at this;rw[zaR hpos hl e]at this;exact this
 subst hC;obtain⟨g1,g2,g3,g4,g5,g6⟩:=zfM hl;have hsplit:bs=bs.take v.r.t++bs.drop v.r.t:=(List.take_append_drop _ _).symm;have htl:(bs.take v.r.t).length=v.r.t:=by rw[List.length_take];omega
 have hone:zae M.fields (bs.take v.r.t)=([v],0,0):=by
  refine zeD (T:=v.r.n) (V:=v.r.w) (a:=v.r.a) ?_ ?_
  . rw[htl];exact zei g1 (Nat.le_refl _)
  . rw[htl,<-g6];exact(zbW hl).2
 have hv1:v∈(zae M.fields bs).1:=by
  unfold zae;have hh:=h.1;unfold zae at hh;rw[zbE (zaB M.fields bs) hpos hl]at hh⊢;unfold pre at hh⊢;split
  . simp
  . rw[if_neg ‹_›]at hh;exact absurd hh ‹_›
 have hval:=h.2 v hv1
 have hleft:(zai S d m (bs.take v.r.t)).2=0:=by
  rw[zaQ,zaA hm,hone];refine⟨rfl,fun u hu=> ?_⟩;simp only[List.mem_singleton]at hu;subst hu;rw[<-zhc (a:=bs.take u.r.t) _ (bs.drop u.r.t) (by rw[htl];exact Nat.le_refl _),<-hsplit];exact hval
 have hright:(zai S d m (bs.drop v.r.t)).2=0:=by
  have:=(zcP (bs.drop v.r.t) hleft).1;rw[<-hsplit]at this;exact this.1 h0
 refine⟨v,rfl,by omega,g5,hleft,hright,fun s hs hst hbad=> ?_,?_⟩
 . rw[zaQ,zaA hm]at hbad
   have hsl:(bs.take s).length=s:=by rw[List.length_take];omega
   rcases hl2:lookV M.fields (bs.take s) 0 with⟨u,K⟩
   have hK:K=0:=by
    by_cases e:K=0
    . exact e
    . have:=hbad.1
      unfold zae at this;rw[zaR (by omega) hl2 e]at this;exact this
   subst hK;obtain⟨f1,_,_,_,f5,_⟩:=zfM hl2;have f6:=zgt f1 (bs.drop s);rw[List.take_append_drop,g1]at f6;simp only[Prod.mk.injEq]at f6;omega
 . have hr2:=hright
   rw[zaQ,zaA hm]at hr2;have ha:=zbM (l:=M.fields) (a:=bs.take v.r.t) (b:=bs.drop v.r.t) (by rw[hone]);rw[<-hsplit,if_pos hr2.1,hone,htl]at ha;rw[ha];rfl
end
section
variable {fs:List zab} {a b:List UInt8} {i:Nat} {f:zab}
theorem zjD(k:Nat)(L:List ViewD)(i:Nat):zah (L.map (ViewD.shift k)) i=(zah L i).map (ViewD.shift k):=by
 unfold zah;rw[List.filter_map];rfl
theorem ziZ(L K:List ViewD)(i:Nat):zah (L++K) i=zah L i++zah K i:=List.filter_append ..
theorem zfN(a b:List UInt8){v:ViewD}(h:v.r.t<=a.length):zak (a++b) v=zak a v:=zfo a b h
theorem zeW(a b:List UInt8)(v:ViewD):zak (a++b) (v.shift a.length)=zak b v:=by
 have:=zex a b v.r.a v.r.t;rw[Nat.add_comm a.length,Nat.add_comm a.length]at this;exact this
theorem zgV(a b:List UInt8)(v:ViewD):spanB (a++b) (v.shift a.length).r.f (v.shift a.length).r.t=spanB b v.r.f v.r.t:=by
 have:=zex a b v.r.f v.r.t;rw[Nat.add_comm a.length,Nat.add_comm a.length]at this;exact this
theorem zcp{α β:Type}{g h:α->List β}:∀{l:List α},(∀x∈l,g x=h x)->l.flatMap g=l.flatMap h
 |[],_=>rfl
 |x::l,e=>by
  rw[List.flatMap_cons,List.flatMap_cons,e x List.mem_cons_self,zcp (l:=l) (fun y hy=>e y (List.mem_cons_of_mem _ hy))]
theorem zic(ha:(zae fs a).2.2=0)(hb:(zae fs b).2.2=0):(zae fs (a++b)).1=(zae fs a).1++(zae fs b).1.map (ViewD.shift a.length):=by
 rw[zbM ha,if_pos hb]
theorem zeu(ha:(zae fs a).2.2=0)(hb:(zae fs b).2.2=0)(i:Nat):zah (zae fs (a++b)).1 i=zah (zae fs a).1 i++(zah (zae fs b).1 i).map (ViewD.shift a.length):=by
 rw[zic ha hb,ziZ,zjD]
theorem zev(ha:(zae fs a).2.2=0)(hb:(zae fs b).2.2=0)(f:zab)(i:Nat):
 (zah (zae fs (a++b)).1 i).flatMap (zaz f (a++b))=(zah (zae fs a).1 i).flatMap (zaz f a)++(zah (zae fs b).1 i).flatMap (zaz f b):=by
 rw[zeu ha hb,List.flatMap_append,List.flatMap_map];congr 1
 . refine zcp fun v hv=> ?_
   unfold zaz;rw[zfN a b (zbn hv).2.2.2]
 . refine zcp fun v hv=> ?_
   unfold zaz;rw[zeW];rfl
theorem zcq(ha:(zae fs a).2.2=0)(hb:(zae fs b).2.2=0)(f:zab)(i:Nat):
 (zah (zae fs (a++b)).1 i).flatMap (zaj f (a++b))=(zah (zae fs a).1 i).flatMap (zaj f a)++(zah (zae fs b).1 i).flatMap (zaj f b):=by
 rw[zeu ha hb,List.flatMap_append,List.flatMap_map];congr 1
 . refine zcp fun v hv=> ?_
   unfold zaj;rw[zfN a b (zbn hv).2.2.2]
 . refine zcp fun v hv=> ?_
   unfold zaj;rw[zeW];rfl
theorem zja(ha:(zae fs a).2.2=0)(hb:(zae fs b).2.2=0):
 (((zae fs (a++b)).1.filter fun v=>decide (v.field<0)).map fun v=>textO (spanB (a++b) v.r.f v.r.t))=
   (((zae fs a).1.filter fun v=>decide (v.field<0)).map fun v=>textO (spanB a v.r.f v.r.t))++(((zae fs b).1.filter fun v=>decide (v.field<0)).map fun v=>textO (spanB b v.r.f v.r.t)):=by
 rw[zic ha hb,List.filter_append,List.map_append,List.filter_map,List.map_map];congr 1
 . refine List.map_congr_left fun v hv=> ?_
   have:=zbO (List.mem_filter.1 hv).1;rw[zfo a b this.2.2]
 . refine List.map_congr_left fun v hv=> ?_
   show textO (spanB (a++b) (v.shift a.length).r.f (v.shift a.length).r.t)=_;rw[zgV]
end
section
variable {fs:List zab} {a b bs:List UInt8} {i:Nat} {f:zab} {sub:Nat->List UInt8->MsgT} {sj:Nat->MsgT->MsgT->MsgT}
theorem zid(hf:fs[i]?=some f)(hne:zah (zae fs bs).1 i≠ []):(zaf f.kind=true/\(zah (zae fs bs).1 i).flatMap (zaj f bs)=[]/\(f.rep=false->(zah (zae fs bs).1 i).flatMap (zaz f bs)≠ []))\/
 (zaf f.kind=false/\(zah (zae fs bs).1 i).flatMap (zaz f bs)=[]/\(zah (zae fs bs).1 i).flatMap (zaj f bs)≠ []):=by
 rcases hn:zaf f.kind with _|_
 . refine .inr ⟨rfl,?_,?_⟩
   . rw[List.flatMap_eq_nil_iff]
     intro v hv;rcases zbN (zbn hv).1 (zbn hv).2.1 hf with⟨_,_,q⟩|⟨q,_⟩
     . rw[hn]at q
       cases q
     . unfold zaz
       rw[q,hn];rfl
   . obtain⟨v,l,hl⟩:=List.exists_cons_of_ne_nil hne
     have hv:v∈zah (zae fs bs).1 i:=by rw[hl];exact List.mem_cons_self
     intro q;rw[List.flatMap_eq_nil_iff]at q;have h1:=q v hv;rcases zbN (zbn hv).1 (zbn hv).2.1 hf with⟨_,_,q⟩|⟨q,_⟩
     . rw[hn]at q
       cases q
     . unfold zaj at h1
       rw[q,hn]at h1;cases h1
 . refine .inl ⟨rfl,zdR hn _,fun hr=> ?_⟩
   obtain⟨v,l,hl⟩:=List.exists_cons_of_ne_nil hne;have hv:v∈zah (zae fs bs).1 i:=by rw[hl];exact List.mem_cons_self
   intro q;rw[List.flatMap_eq_nil_iff]at q;have h1:=q v hv;rcases zbN (zbn hv).1 (zbn hv).2.1 hf with⟨_,q,_⟩|⟨q,_⟩
   . rw[hr]at q
     cases q
   . unfold zaz at h1
     rw[q,hn]at h1;cases h1
end
section
variable {v:ValT} {F:List Nat} {N:Nat->Int} {g:Nat->Option ValT}
end
theorem zeM{α β:Type}{g h:α->Option β}:∀{l:List α},(∀x∈l,g x=h x)->l.filterMap g=l.filterMap h
 |[],_=>rfl
 |x::l,e=>by
  rw[List.filterMap_cons,List.filterMap_cons,e x List.mem_cons_self,zeM (l:=l) (fun y hy=>e y (List.mem_cons_of_mem _ hy))]
theorem zie{N:Nat->Int}{g:Nat->Option ValT}:∀{F:List Nat},F.Pairwise (fun i j=>N i<N j)->(∀i u,g i=some u->u.number=N i)->∀{j:Nat},j∈F->(F.filterMap g).find? (fun u=>u.number==N j)=g j
 |[],_,_,j,hj=>by cases hj
 |i::F,hp,hg,j,hj=>by
  rw[List.pairwise_cons]at hp;rw[List.filterMap_cons];by_cases hij:i=j
  . subst hij
    rcases hgi:g i with _|u
    . simp only
      rw[List.find?_eq_none];intro x hx;obtain⟨k,hk,hgk⟩:=List.mem_filterMap.1 hx;have:=hg k x hgk;have:=hp.1 k hk;simp;omega
    . simp only
      rw[List.find?_cons_of_pos];simpa using hg i u hgi
  . have hjF:j∈F:=by
     rcases List.mem_cons.1 hj with h|h
     . exact absurd h.symm hij
     . exact h
    have ih:=zie hp.2 hg hjF;rcases hgi:g i with _|u
    . simp only
      exact ih
    . simp only
      rw[List.find?_cons_of_neg,ih];have:=hg i u hgi;have:=hp.1 j hjF;simp;omega
section
variable {S:List MsgD} {m:Nat} {M:MsgD} {fs:List zab} {bs:List UInt8} {i:Nat} {f:zab} {sub:Nat->List UInt8->MsgT} {sj:Nat->MsgT->MsgT->MsgT}
theorem zjE(hR:zan S=true)(hM:S[m]?=some M):(sortK (keyF M.fields) M.fields.length).Pairwise (fun i j=>keyF M.fields i<keyF M.fields j):=by
 refine(zia (keyF M.fields) M.fields.length).imp_of_mem (fun{i j} hi hj h=> ?_);have h1:=zdw.1 hi;have h2:=zdw.1 hj;have e1:=List.getElem?_eq_getElem h1;have e2:=List.getElem?_eq_getElem h2;have k1:=zgf e1;have k2:=zgf e2;have q1:=(zdO hR hM e1).2;have q2:=(zdO hR hM e2).2;unfold ltK at h;by_cases he:keyF M.fields i=keyF M.fields j
 . exfalso
   rw[k1,k2]at he;rw[he,q2]at q1;omega
 . omega
theorem zgm{L:List ViewD}{u:ValT}(h:zbS sub fs bs L i=some u):u.number=keyF fs i/\manyU u≠0/\∃f,fs[i]?=some f:=by
 obtain⟨f,hf,_,rfl,hm⟩:=znF h;exact⟨(zgf hf).symm,hm,f,hf⟩
theorem zgn{e o:Nat}:∀{L:List ViewD},(∀v∈L,v.run=false/\(zai S e o (zak bs v)).2=0)->zaf f.kind=false->(zai S e o (L.flatMap (zaj f bs)).flatten).2=0
 |[],_,_=>zcR S e o
 |v::L,h,hn=>by
  have h1:=h v List.mem_cons_self;have ih:=zgn (L:=L) (fun u hu=>h u (List.mem_cons_of_mem _ hu)) hn
  have hp:zaj f bs v=[zak bs v]:=by
   unfold zaj;rw[h1.1,hn];rfl
  rw[List.flatMap_cons,hp,List.flatten_append];rw[show([zak bs v]:List (List UInt8)).flatten=zak bs v by simp];exact(zcP _ h1.2).1.2 ih
end
end Go.Proofs.YtpicpebolghcfaaGreatDoor
namespace Go.Proofs.YtpicpebolghcfaaGreatDoor
open Go.RowKit
open Go.Lib (uvarint)
theorem zmT{T V:Nat}{v:List UInt8}(hr:zaw (T:Int) (V:Int)=true)(hf:fitsV (V:Int) v=true)(hl:v.length<18446744073709551616):
 ∃q,headV (putB (T:Int) (V:Int) v)=(T,V,q,(putB (T:Int) (V:Int) v).length,0)/\q<=(putB (T:Int) (V:Int) v).length/\spanB (putB (T:Int) (V:Int) v) q (putB (T:Int) (V:Int) v).length=v:=by
 have hw:=hr;unfold zaw at hw;have hw:=of_decide_eq_true hw;unfold fitsV at hf;have hf:=of_decide_eq_true hf
 have key:∃a',(if(V:Int)=2 then uvarint v.length else[]).length=a'/\sizeV V ((if(V:Int)=2 then uvarint v.length else[])++v)=(a',v.length,0):=by
  rcases(show V=0\/V=1\/V=5\/V=2 by omega)with rfl|rfl|rfl|rfl
  . have h1:(readV v).2.2=0/\(readV v).2.1=v.length:=by
     rcases hf with⟨_,h1,h2⟩|⟨h,_⟩|⟨h,_⟩|h
     . exact⟨h1,h2⟩
     . omega
     . omega
     . omega
    refine⟨0,by simp,?_⟩;simp;unfold sizeV;rw[if_pos rfl,h1.1,h1.2]
  . have h1:v.length=8:=by
     rcases hf with⟨h,_⟩|⟨_,h⟩|⟨h,_⟩|h
     . omega
     . exact h
     . omega
     . omega
    refine⟨0,by simp,?_⟩;unfold sizeV;simp[h1]
  . have h1:v.length=4:=by
     rcases hf with⟨h,_⟩|⟨h,_⟩|⟨_,h⟩|h
     . omega
     . omega
     . exact h
     . omega
    refine⟨0,by simp,?_⟩;unfold sizeV;simp[h1]
  . refine⟨(uvarint v.length).length,by simp,?_⟩
    have hru:=zch v.length v hl;unfold sizeV;simp[hru]
 obtain⟨a',k1,k4⟩:=key;have hput:putB (T:Int) (V:Int) v=tagB (T:Int) (V:Int)++((if(V:Int)=2 then uvarint v.length else[])++v):=rfl;have hlen:(putB (T:Int) (V:Int) v).length=(tagB (T:Int) (V:Int)).length+a'+v.length:=by rw[hput,List.length_append,List.length_append,k1];omega
 have hhead:headV (putB (T:Int) (V:Int) v)=(T,V,(tagB (T:Int) (V:Int)).length+a',(putB (T:Int) (V:Int) v).length,0):=by
  rw[hlen];refine zcz (by rw[hput];exact zpk hr _) ?_ (by rw[hlen];omega);rw[hput,List.drop_left];exact k4
 refine⟨(tagB (T:Int) (V:Int)).length+a',hhead,by rw[hlen];omega,?_⟩;unfold spanB;rw[List.take_length,hput,<-List.drop_drop,List.drop_left,<-k1,List.drop_left]
section
variable {fs:List zab} {i:Nat} {f:zab}
theorem zgW{T V:Nat}{v:List UInt8}{k:Int}{run:Bool}(hr:zaw (T:Int) (V:Int)=true)(hf:fitsV (V:Int) v=true)(hl:v.length<18446744073709551616)(hs:∀r:Rec,r.n=T->r.w=V->seenV fs r=(⟨r,k,run⟩,0)):
 ∃u:ViewD,zae fs (putB (T:Int) (V:Int) v)=([u],0,0)/\u.field=k/\u.run=run/\zak (putB (T:Int) (V:Int) v) u=v/\spanB (putB (T:Int) (V:Int) v) u.r.f u.r.t=putB (T:Int) (V:Int) v:=by
 obtain⟨q,h1,h2,h3⟩:=zmT hr hf hl;refine⟨⟨⟨T,V,0,q,(putB (T:Int) (V:Int) v).length⟩,k,run⟩,zeD h1 (hs _ rfl rfl),rfl,rfl,h3,?_⟩;unfold spanB;rw[List.take_length];rfl
theorem zdz:∀{cs:List (List UInt8)},(∀c∈cs,(zae fs c).2.2=0)->(zae fs cs.flatten).2.2=0
 |[],_=>by rw[List.flatten_nil,zaZ]
 |c::cs,h=>by
  have ih:=zdz (cs:=cs) (fun d hd=>h d (List.mem_cons_of_mem _ hd));rw[List.flatten_cons,zbM (h c List.mem_cons_self),if_pos ih]
theorem zjF(f:zab)(i:Nat):∀{cs:List (List UInt8)},(∀c∈cs,(zae fs c).2.2=0)->
 (zah (zae fs cs.flatten).1 i).flatMap (zaz f cs.flatten)=cs.flatMap fun c=>(zah (zae fs c).1 i).flatMap (zaz f c)
 |[],_=>by
  rw[List.flatten_nil,zaZ];rfl
 |c::cs,h=>by
  have ih:=zjF f i (cs:=cs) (fun d hd=>h d (List.mem_cons_of_mem _ hd));rw[List.flatten_cons,zev (h c List.mem_cons_self) (zdz (fun d hd=>h d (List.mem_cons_of_mem _ hd))),ih,List.flatMap_cons]
theorem zif(f:zab)(i:Nat):∀{cs:List (List UInt8)},(∀c∈cs,(zae fs c).2.2=0)->
 (zah (zae fs cs.flatten).1 i).flatMap (zaj f cs.flatten)=cs.flatMap fun c=>(zah (zae fs c).1 i).flatMap (zaj f c)
 |[],_=>by
  rw[List.flatten_nil,zaZ];rfl
 |c::cs,h=>by
  have ih:=zif f i (cs:=cs) (fun d hd=>h d (List.mem_cons_of_mem _ hd));rw[List.flatten_cons,zcq (h c List.mem_cons_self) (zdz (fun d hd=>h d (List.mem_cons_of_mem _ hd))),ih,List.flatMap_cons]
theorem zkN(i:Nat):∀{cs:List (List UInt8)},(∀c∈cs,(zae fs c).2.2=0)->(zah (zae fs cs.flatten).1 i=[]<->∀c∈cs,zah (zae fs c).1 i=[])
 |[],_=>by
  rw[List.flatten_nil,zaZ];simp[zah]
 |c::cs,h=>by
  have ih:=zkN i (cs:=cs) (fun d hd=>h d (List.mem_cons_of_mem _ hd));rw[List.flatten_cons,zeu (h c List.mem_cons_self) (zdz (fun d hd=>h d (List.mem_cons_of_mem _ hd))),List.append_eq_nil_iff,List.map_eq_nil_iff,ih];simp
theorem zof:∀{cs:List (List UInt8)},(∀c∈cs,(zae fs c).2.2=0)->
 (((zae fs cs.flatten).1.filter fun v=>decide (v.field<0)).map fun v=>textO (spanB cs.flatten v.r.f v.r.t))=cs.flatMap fun c=>((zae fs c).1.filter fun v=>decide (v.field<0)).map fun v=>textO (spanB c v.r.f v.r.t)
 |[],_=>by
  rw[List.flatten_nil,zaZ];rfl
 |c::cs,h=>by
  have ih:=zof (cs:=cs) (fun d hd=>h d (List.mem_cons_of_mem _ hd));rw[List.flatten_cons,zja (h c List.mem_cons_self) (zdz (fun d hd=>h d (List.mem_cons_of_mem _ hd))),ih,List.flatMap_cons]
end
section
variable {S:List MsgD} {m:Nat} {M:MsgD} {i:Nat} {f:zab} {se:Nat->MsgT->List UInt8} {v:ValT}
theorem zgF(hR:zan S=true)(hM:S[m]?=some M)(hf:M.fields[i]?=some f){r:Rec}(hn:(r.n:Int)=f.number):
 seenV M.fields r=if(f.rep&&zaf f.kind&&r.w==2)=true then(⟨r,(i:Int),true⟩,0)else if kindB f.kind=true/\wireI f.kind=(r.w:Int)then(⟨r,(i:Int),false⟩,0)else(ViewD.zero,6):=by
 refine zbD (h:= ?_) hf;rw[hn];exact(zdO hR hM hf).2
theorem zbl(hR:zan S=true)(hM:S[m]?=some M)(hf:M.fields[i]?=some f):(∃T:Nat,f.number=(T:Int))/\1<=f.number/\f.number<=536870911/\kindB f.kind=true:=by
 obtain⟨_,_,h3,_,h5,_⟩:=zcW ((zbd hR hM).2.2.2 i f hf);unfold zcs at h3;simp only[Bool.and_eq_true,decide_eq_true_eq]at h3;exact⟨⟨f.number.toNat,by omega⟩,by omega,by omega,h5⟩
structure Chunk(fs:List zab)(i:Nat)(f:zab)(c:List UInt8)(ws:List Nat)(ps:List (List UInt8)):Prop where
 ok:(zae fs c).2.2=0
 own:zah (zae fs c).1 i≠ []
 other:∀k,k≠i->zah (zae fs c).1 k=[]
 words:(zah (zae fs c).1 i).flatMap (zaz f c)=ws
 pieces:(zah (zae fs c).1 i).flatMap (zaj f c)=ps
 unk:((zae fs c).1.filter fun v=>decide (v.field<0))=[]
theorem zjb{fs:List zab}{T V:Nat}{val:List UInt8}{run:Bool}(hr:zaw (T:Int) (V:Int)=true)(hf:fitsV (V:Int) val=true)(hl:val.length<18446744073709551616)(hs:∀r:Rec,r.n=T->r.w=V->seenV fs r=(⟨r,(i:Int),run⟩,0)):Chunk fs i f (putB (T:Int) (V:Int) val) (ziG f run val) (zgg f run val):=by
 obtain⟨u,h1,h2,h3,h4,_⟩:=zgW hr hf hl hs
 have hi:zah [u] i=[u]:=by
  unfold zah;simp[h2]
 refine⟨by rw[h1],by rw[h1,hi];simp,fun k hk=> ?_,?_,?_,?_⟩
 . rw[h1]
   unfold zah;simp[h2];omega
 . rw[h1,hi,List.flatMap_singleton,zoY,h3,h4]
 . rw[h1,hi,List.flatMap_singleton,znC,h3,h4]
 . rw[h1]
   simp[h2]
theorem zcC{T:Nat}{V:Int}(h1:1<=(T:Int))(h2:(T:Int)<=536870911)(h:V=0\/V=1\/V=2\/V=5):zaw (T:Int) V=true:=by
 unfold zaw;exact decide_eq_true ⟨h1,h2,h⟩
theorem zgX{k:Int}(hk:zaf k=true){w:Nat}(hw:w<18446744073709551616):∃V:Nat,wireI k=(V:Int)/\((V:Int)=0\/(V:Int)=1\/(V:Int)=2\/(V:Int)=5)/\fitsV (V:Int) (putS k w)=true:=by
 have hc:=zfz k hw;have hk':=zdg hk;rcases zcd hk with⟨h1,h2⟩|⟨h1,h9,h2⟩|⟨h1,h9,h2⟩
 . refine⟨1,h2,by decide,?_⟩
   rw[zry h1];unfold fitsV;refine decide_eq_true (.inr (.inl ⟨rfl,?_⟩));simp[zdv]
 . refine⟨5,h2,by decide,?_⟩
   rw[zsr h1 h9];unfold fitsV;refine decide_eq_true (.inr (.inr (.inl ⟨rfl,?_⟩)));simp[zdv]
 . refine⟨0,h2,by decide,?_⟩
   rw[zss h1 h9];have hv:=zch (zaF k w) [] hc;rw[List.append_nil]at hv;unfold fitsV;refine decide_eq_true (.inl ⟨rfl,?_,?_⟩)
   . rw[hv]
   . rw[hv]
theorem zkO(hR:zan S=true)(hM:S[m]?=some M)(hf:M.fields[i]?=some f)(hn:zaf f.kind=false){val:List UInt8}(hl:val.length<18446744073709551616):
 Chunk M.fields i f (putB f.number 2 val) [] [val]:=by
 obtain⟨⟨T,hT⟩,n1,n2,hk⟩:=zbl hR hM hf
 have hw2:wireI f.kind=2:=by
  unfold kindB at hk;have hk':=of_decide_eq_true hk;unfold zaf at hn;have hn':=of_decide_eq_false hn;unfold wireI;rw[if_neg (by omega),if_neg (by omega),if_neg (by omega)]
 have h:=zjb (i:=i) (f:=f) (fs:=M.fields) (T:=T) (V:=2) (val:=val) (run:=false) (zcC (by omega) (by omega) (by decide)) (ziM _) hl (fun r h1 h2=>by
  rw[zgF hR hM hf (by rw[h1,hT]),hn]
  simp[hk,hw2,h2])
 rw[hT]
 have e1:ziG f false val=[]:=by
  unfold ziG;rw[hn];rfl
 have e2:zgg f false val=[val]:=by
  unfold zgg;rw[hn];rfl
 rw[e1,e2]at h;exact h
end
end Go.Proofs.YtpicpebolghcfaaGreatDoor
namespace Go.Proofs.YtpicpebolghcfaaGreatDoor
open Go.RowKit
section
variable {S:List MsgD} {m:Nat} {M:MsgD} {fs:List zab} {bs:List UInt8} {i:Nat} {f:zab} {sub:Nat->List UInt8->MsgT}
end
theorem zcS{S:List MsgD}{d m:Nat}:∀{cs:List (List UInt8)},(∀c∈cs,(zai S d m c).2=0)->(zai S d m cs.flatten).2=0
 |[],_=>by
  rw[List.flatten_nil];exact zcR S d m
 |c::cs,h=>by
  rw[List.flatten_cons];exact(zcP _ (h c List.mem_cons_self)).1.2 (zcS (cs:=cs) (fun e he=>h e (List.mem_cons_of_mem _ he)))
theorem zfO{S:List MsgD}{d m:Nat}{M:MsgD}(hM:S[m]?=some M){T V:Nat}{val:List UInt8}{k:Int}{run:Bool}(hr:zaw (T:Int) (V:Int)=true)(hf:fitsV (V:Int) val=true)(hl:val.length<18446744073709551616)(hs:∀r:Rec,r.n=T->r.w=V->seenV M.fields r=(⟨r,k,run⟩,0))(hv:∀(c:List UInt8)(u:ViewD),u.field=k->u.run=run->zak c u=val->(zbc (subC S d) M.fields c u).2=0):(zai S d m (putB (T:Int) (V:Int) val)).2=0:=by
 obtain⟨u,h1,h2,h3,h4,_⟩:=zgW hr hf hl hs;rw[zaQ,zaA hM,h1];refine⟨rfl,fun w hw=> ?_⟩;rw[List.mem_singleton]at hw;subst hw;exact hv _ _ h2 h3 h4
end Go.Proofs.YtpicpebolghcfaaGreatDoor
