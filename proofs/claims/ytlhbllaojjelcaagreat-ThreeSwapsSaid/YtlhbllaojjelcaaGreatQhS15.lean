/- Plain words of layers 15 and 17: meanings, joined. -/
import Derived.Test.YtlhbllaojjelcaaGreatQhW14o

set_option linter.unusedVariables false
namespace Go.Proofs.YtlhbllaojjelcaaGreat
open Go.RowKit
section
variable {S:List MsgD} {d m:Nat} {M:MsgD}
theorem zfL{fs:List zaa}{bs:List UInt8}{v:ViewD}(h:lookV fs bs 0=(v,0)):headV bs=(v.r.n,v.r.w,v.r.a,v.r.t,0)/\v.r.f=0/\0<v.r.a/\v.r.a<=v.r.t/\v.r.t<=bs.length/\v.r=⟨v.r.n,v.r.w,0,v.r.a,v.r.t⟩:=by
 obtain⟨h1,h2,h3,h4,h5⟩:=zbu (zbZ h).1;rw[List.drop_zero]at h1;refine⟨h1,h2,h3,h4,h5,?_⟩;obtain⟨⟨a1,a2,a3,a4,a5⟩,_,_⟩:=v;simp only at h2;subst h2;rfl
theorem zhN(S:List MsgD)(d m:Nat):(zaq S d m []).2=0:=by
 rw[zbj];unfold zdz;rcases S[m]? with _|M
 . rfl
 . simp only
   rw[zgX (by simp)]
theorem zmw(hm:S[m]?=some M){bs:List UInt8}(h:(zaq S d m bs).2=0)(hne:bs≠ []):
 ∃v,lookV M.fields bs 0=(v,0)/\0<v.r.t/\v.r.t<=bs.length/\(zaq S d m (bs.take v.r.t)).2=0/\(zaq S d m (bs.drop v.r.t)).2=0/\(∀s,0<s->s<v.r.t->(zaq S d m (bs.take s)).2≠0)/\
  (zac M.fields bs).1=v::(zac M.fields (bs.drop v.r.t)).1.map (ViewD.shift v.r.t):=by
 have hpos:0<bs.length:=by cases bs with|nil=>exact absurd rfl hne|cons a l=>simp
 have h0:=h;rw[zbj,zaK hm]at h;rcases hl:lookV M.fields bs 0 with⟨v,C⟩
 have hC:C=0:=by
  by_cases e:C=0
  . exact e
  . have:=h.1
    unfold zac at this;rw[zaR hpos hl e]at this;exact this
 subst hC;obtain⟨g1,g2,g3,g4,g5,g6⟩:=zfL hl;have hsplit:bs=bs.take v.r.t++bs.drop v.r.t:=(List.take_append_drop _ _).symm;have htl:(bs.take v.r.t).length=v.r.t:=by rw[List.length_take];omega
 have hone:zac M.fields (bs.take v.r.t)=([v],0,0):=by
  refine zfZ (T:=v.r.n) (V:=v.r.w) (a:=v.r.a) ?_ ?_
  . rw[htl];exact zgt g1 (Nat.le_refl _)
  . rw[htl,<-g6];exact(zbZ hl).2
 have hv1:v∈(zac M.fields bs).1:=by
  unfold zac;have hh:=h.1;unfold zac at hh;rw[zby (zaz M.fields bs) hpos hl]at hh⊢;unfold pre at hh⊢;split
  . simp
  . rw[if_neg ‹_›]at hh;exact absurd hh ‹_›
 have hval:=h.2 v hv1
 have hleft:(zaq S d m (bs.take v.r.t)).2=0:=by
  rw[zbj,zaK hm,hone];refine⟨rfl,fun u hu=> ?_⟩;simp only[List.mem_singleton]at hu;subst hu;rw[<-zgZ (a:=bs.take u.r.t) _ (bs.drop u.r.t) (by rw[htl];exact Nat.le_refl _),<-hsplit];exact hval
 have hright:(zaq S d m (bs.drop v.r.t)).2=0:=by
  have:=(zdQ (bs.drop v.r.t) hleft).1;rw[<-hsplit]at this;exact this.1 h0
 refine⟨v,rfl,by omega,g5,hleft,hright,fun s hs hst hbad=> ?_,?_⟩
 . rw[zbj,zaK hm]at hbad
   have hsl:(bs.take s).length=s:=by rw[List.length_take];omega
   rcases hl2:lookV M.fields (bs.take s) 0 with⟨u,K⟩
   have hK:K=0:=by
    by_cases e:K=0
    . exact e
    . have:=hbad.1
      unfold zac at this;rw[zaR (by omega) hl2 e]at this;exact this
   subst hK;obtain⟨f1,_,_,_,f5,_⟩:=zfL hl2;have f6:=zgq f1 (bs.drop s);rw[List.take_append_drop,g1]at f6;simp only[Prod.mk.injEq]at f6;omega
 . have hr2:=hright
   rw[zbj,zaK hm]at hr2;have ha:=zdY (l:=M.fields) (a:=bs.take v.r.t) (b:=bs.drop v.r.t) (by rw[hone]);rw[<-hsplit,if_pos hr2.1,hone,htl]at ha;rw[ha];rfl
end
section
variable {fs:List zaa} {a b:List UInt8} {i:Nat} {f:zaa}
theorem zjy(k:Nat)(L:List ViewD)(i:Nat):zaf (L.map (ViewD.shift k)) i=(zaf L i).map (ViewD.shift k):=by
 unfold zaf;rw[List.filter_map];rfl
theorem ziN(L K:List ViewD)(i:Nat):zaf (L++K) i=zaf L i++zaf K i:=List.filter_append ..
theorem zhO(a b:List UInt8){v:ViewD}(h:v.r.t<=a.length):zal (a++b) v=zal a v:=zfq a b h
theorem zgS(a b:List UInt8)(v:ViewD):zal (a++b) (v.shift a.length)=zal b v:=by
 have:=zeN a b v.r.a v.r.t;rw[Nat.add_comm a.length,Nat.add_comm a.length]at this;exact this
theorem zkH(a b:List UInt8)(v:ViewD):spanB (a++b) (v.shift a.length).r.f (v.shift a.length).r.t=spanB b v.r.f v.r.t:=by
 have:=zeN a b v.r.f v.r.t;rw[Nat.add_comm a.length,Nat.add_comm a.length]at this;exact this
theorem zcr{α β:Type}{g h:α->List β}:∀{l:List α},(∀x∈l,g x=h x)->l.flatMap g=l.flatMap h
 |[],_=>rfl
 |x::l,e=>by
  rw[List.flatMap_cons,List.flatMap_cons,e x List.mem_cons_self,zcr (l:=l) (fun y hy=>e y (List.mem_cons_of_mem _ hy))]
theorem zhP(ha:(zac fs a).2.2=0)(hb:(zac fs b).2.2=0):(zac fs (a++b)).1=(zac fs a).1++(zac fs b).1.map (ViewD.shift a.length):=by
 rw[zdY ha,if_pos hb]
theorem ziO(ha:(zac fs a).2.2=0)(hb:(zac fs b).2.2=0)(i:Nat):zaf (zac fs (a++b)).1 i=zaf (zac fs a).1 i++(zaf (zac fs b).1 i).map (ViewD.shift a.length):=by
 rw[zhP ha hb,ziN,zjy]
theorem zmx(ha:(zac fs a).2.2=0)(hb:(zac fs b).2.2=0)(f:zaa)(i:Nat):
 (zaf (zac fs (a++b)).1 i).flatMap (zaw f (a++b))=(zaf (zac fs a).1 i).flatMap (zaw f a)++(zaf (zac fs b).1 i).flatMap (zaw f b):=by
 rw[ziO ha hb,List.flatMap_append,List.flatMap_map];congr 1
 . refine zcr fun v hv=> ?_
   unfold zaw;rw[zhO a b (zaW hv).2.2.2]
 . refine zcr fun v hv=> ?_
   unfold zaw;rw[zgS];rfl
theorem zkI(ha:(zac fs a).2.2=0)(hb:(zac fs b).2.2=0)(f:zaa)(i:Nat):
 (zaf (zac fs (a++b)).1 i).flatMap (zam f (a++b))=(zaf (zac fs a).1 i).flatMap (zam f a)++(zaf (zac fs b).1 i).flatMap (zam f b):=by
 rw[ziO ha hb,List.flatMap_append,List.flatMap_map];congr 1
 . refine zcr fun v hv=> ?_
   unfold zam;rw[zhO a b (zaW hv).2.2.2]
 . refine zcr fun v hv=> ?_
   unfold zam;rw[zgS];rfl
theorem zpb(ha:(zac fs a).2.2=0)(hb:(zac fs b).2.2=0):
 (((zac fs (a++b)).1.filter fun v=>decide (v.field<0)).map fun v=>textO (spanB (a++b) v.r.f v.r.t))=
   (((zac fs a).1.filter fun v=>decide (v.field<0)).map fun v=>textO (spanB a v.r.f v.r.t))++(((zac fs b).1.filter fun v=>decide (v.field<0)).map fun v=>textO (spanB b v.r.f v.r.t)):=by
 rw[zhP ha hb,List.filter_append,List.map_append,List.filter_map,List.map_map];congr 1
 . refine List.map_congr_left fun v hv=> ?_
   have:=zcv (List.mem_filter.1 hv).1;rw[zfq a b this.2.2]
 . refine List.map_congr_left fun v hv=> ?_
   show textO (spanB (a++b) (v.shift a.length).r.f (v.shift a.length).r.t)=_;rw[zkH]
end
section
variable {fs:List zaa} {a b bs:List UInt8} {i:Nat} {f:zaa} {sub:Nat->List UInt8->MsgT} {sj:Nat->MsgT->MsgT->MsgT}
theorem zeK(hf:fs[i]?=some f)(hne:zaf (zac fs bs).1 i≠ []):(zad f.kind=true/\(zaf (zac fs bs).1 i).flatMap (zam f bs)=[]/\(f.rep=false->(zaf (zac fs bs).1 i).flatMap (zaw f bs)≠ []))\/
 (zad f.kind=false/\(zaf (zac fs bs).1 i).flatMap (zaw f bs)=[]/\(zaf (zac fs bs).1 i).flatMap (zam f bs)≠ []):=by
 rcases hn:zad f.kind with _|_
 . refine .inr ⟨rfl,?_,?_⟩
   . rw[List.flatMap_eq_nil_iff]
     intro v hv;rcases zcV (zaW hv).1 (zaW hv).2.1 hf with⟨_,_,q⟩|⟨q,_⟩
     . rw[hn]at q
       cases q
     . unfold zaw
       rw[q,hn];rfl
   . obtain⟨v,l,hl⟩:=List.exists_cons_of_ne_nil hne
     have hv:v∈zaf (zac fs bs).1 i:=by rw[hl];exact List.mem_cons_self
     intro q;rw[List.flatMap_eq_nil_iff]at q;have h1:=q v hv;rcases zcV (zaW hv).1 (zaW hv).2.1 hf with⟨_,_,q⟩|⟨q,_⟩
     . rw[hn]at q
       cases q
     . unfold zam at h1
       rw[q,hn]at h1;cases h1
 . refine .inl ⟨rfl,zfz hn _,fun hr=> ?_⟩
   obtain⟨v,l,hl⟩:=List.exists_cons_of_ne_nil hne;have hv:v∈zaf (zac fs bs).1 i:=by rw[hl];exact List.mem_cons_self
   intro q;rw[List.flatMap_eq_nil_iff]at q;have h1:=q v hv;rcases zcV (zaW hv).1 (zaW hv).2.1 hf with⟨_,q,_⟩|⟨q,_⟩
   . rw[hr]at q
     cases q
   . unfold zaw at h1
     rw[q,hn]at h1;cases h1
theorem zkJ(f:zaa)(ws:List Nat)(ps:List (List UInt8)):manyU (zaM sub f ws ps)=(zaZ f ws).length+(zas f ps).length:=by
 unfold manyU zaM;by_cases h:f.kind=17
 . simp[h]
 . simp[h]
end
section
variable {v:ValT} {F:List Nat} {N:Nat->Int} {g:Nat->Option ValT}
end
theorem zcA{α β:Type}{g h:α->Option β}:∀{l:List α},(∀x∈l,g x=h x)->l.filterMap g=l.filterMap h
 |[],_=>rfl
 |x::l,e=>by
  rw[List.filterMap_cons,List.filterMap_cons,e x List.mem_cons_self,zcA (l:=l) (fun y hy=>e y (List.mem_cons_of_mem _ hy))]
section
variable {S:List MsgD} {m:Nat} {M:MsgD} {fs:List zaa} {bs:List UInt8} {i:Nat} {f:zaa} {sub:Nat->List UInt8->MsgT} {sj:Nat->MsgT->MsgT->MsgT}
theorem zek(hR:zan S=true)(hM:S[m]?=some M):(sortK (keyF M.fields) M.fields.length).Pairwise (fun i j=>keyF M.fields i<keyF M.fields j):=by
 refine(zfY (keyF M.fields) M.fields.length).imp_of_mem (fun{i j} hi hj h=> ?_);have h1:=zbl.1 hi;have h2:=zbl.1 hj;have e1:=List.getElem?_eq_getElem h1;have e2:=List.getElem?_eq_getElem h2;have k1:=zdi e1;have k2:=zdi e2;have q1:=(zaQ hR hM e1).2;have q2:=(zaQ hR hM e2).2;unfold ltK at h;by_cases he:keyF M.fields i=keyF M.fields j
 . exfalso
   rw[k1,k2]at he;rw[he,q2]at q1;omega
 . omega
theorem zgi{L:List ViewD}{u:ValT}(h:zcl sub fs bs L i=some u):u.number=keyF fs i/\manyU u≠0/\∃f,fs[i]?=some f:=by
 obtain⟨f,hf,_,rfl,hm⟩:=zdF h;exact⟨(zdi hf).symm,hm,f,hf⟩
theorem zdj{e o:Nat}:∀{L:List ViewD},(∀v∈L,v.run=false/\(zaq S e o (zal bs v)).2=0)->zad f.kind=false->(zaq S e o (L.flatMap (zam f bs)).flatten).2=0
 |[],_,_=>zhN S e o
 |v::L,h,hn=>by
  have h1:=h v List.mem_cons_self;have ih:=zdj (L:=L) (fun u hu=>h u (List.mem_cons_of_mem _ hu)) hn
  have hp:zam f bs v=[zal bs v]:=by
   unfold zam;rw[h1.1,hn];rfl
  rw[List.flatMap_cons,hp,List.flatten_append];rw[show([zal bs v]:List (List UInt8)).flatten=zal bs v by simp];exact(zdQ _ h1.2).1.2 ih
end
end Go.Proofs.YtlhbllaojjelcaaGreat
namespace Go.Proofs.YtlhbllaojjelcaaGreat
open Go.RowKit
open Go.Lib (uvarint)
theorem zmy{T V:Nat}{v:List UInt8}(hr:zao (T:Int) (V:Int)=true)(hf:fitsV (V:Int) v=true)(hl:v.length<18446744073709551616):
 ∃q,headV (putB (T:Int) (V:Int) v)=(T,V,q,(putB (T:Int) (V:Int) v).length,0)/\q<=(putB (T:Int) (V:Int) v).length/\spanB (putB (T:Int) (V:Int) v) q (putB (T:Int) (V:Int) v).length=v:=by
 have hw:=hr;unfold zao at hw;have hw:=of_decide_eq_true hw;unfold fitsV at hf;have hf:=of_decide_eq_true hf
 have key:∃a',(if(V:Int)=2 then uvarint v.length else[]).length=a'/\sizeV V ((if(V:Int)=2 then uvarint v.length else[])++v)=(a',v.length,0):=by
  rcases(show V=0\/V=1\/V=5\/V=2 by omega)with rfl|rfl|rfl|rfl
  . have h1:(readV v).2.2=0/\(readV v).2.1=v.length:=by
     rcases hf with⟨_,h1,h2⟩|⟨h,_⟩|⟨h,_⟩|h
     . exact⟨h1,h2⟩
     . omega
     . omega
     . omega
    refine⟨0,by simp,?_⟩;simp;unfold sizeV;rw[if_pos rfl,h1.1,h1.2]
  . have h1:v.length=8:=by
     rcases hf with⟨h,_⟩|⟨_,h⟩|⟨h,_⟩|h
     . omega
     . exact h
     . omega
     . omega
    refine⟨0,by simp,?_⟩;unfold sizeV;simp[h1]
  . have h1:v.length=4:=by
     rcases hf with⟨h,_⟩|⟨h,_⟩|⟨_,h⟩|h
     . omega
     . omega
     . exact h
     . omega
    refine⟨0,by simp,?_⟩;unfold sizeV;simp[h1]
  . refine⟨(uvarint v.length).length,by simp,?_⟩
    have hru:=zcS v.length v hl;unfold sizeV;simp[hru]
 obtain⟨a',k1,k4⟩:=key;have hput:putB (T:Int) (V:Int) v=tagB (T:Int) (V:Int)++((if(V:Int)=2 then uvarint v.length else[])++v):=rfl;have hlen:(putB (T:Int) (V:Int) v).length=(tagB (T:Int) (V:Int)).length+a'+v.length:=by rw[hput,List.length_append,List.length_append,k1];omega
 have hhead:headV (putB (T:Int) (V:Int) v)=(T,V,(tagB (T:Int) (V:Int)).length+a',(putB (T:Int) (V:Int) v).length,0):=by
  rw[hlen];refine zcT (by rw[hput];exact zoz hr _) ?_ (by rw[hlen];omega);rw[hput,List.drop_left];exact k4
 refine⟨(tagB (T:Int) (V:Int)).length+a',hhead,by rw[hlen];omega,?_⟩;unfold spanB;rw[List.take_length,hput,<-List.drop_drop,List.drop_left,<-k1,List.drop_left]
section
variable {fs:List zaa} {i:Nat} {f:zaa}
theorem zkK{T V:Nat}{v:List UInt8}{k:Int}{run:Bool}(hr:zao (T:Int) (V:Int)=true)(hf:fitsV (V:Int) v=true)(hl:v.length<18446744073709551616)(hs:∀r:Rec,r.n=T->r.w=V->seenV fs r=(⟨r,k,run⟩,0)):
 ∃u:ViewD,zac fs (putB (T:Int) (V:Int) v)=([u],0,0)/\u.field=k/\u.run=run/\zal (putB (T:Int) (V:Int) v) u=v/\spanB (putB (T:Int) (V:Int) v) u.r.f u.r.t=putB (T:Int) (V:Int) v:=by
 obtain⟨q,h1,h2,h3⟩:=zmy hr hf hl;refine⟨⟨⟨T,V,0,q,(putB (T:Int) (V:Int) v).length⟩,k,run⟩,zfZ h1 (hs _ rfl rfl),rfl,rfl,h3,?_⟩;unfold spanB;rw[List.take_length];rfl
end
def zaU(se:Nat->MsgT->List UInt8)(f:zaa)(v:ValT):List (List UInt8):=
 if zad f.kind=true then
  if f.rep=true then[putB f.number 2 (packW f.kind v.words)]else v.words.map fun w=>putB f.number (wireI f.kind) (putS f.kind w)
 else(v.texts.map fun t=>putB f.number 2 t.data.toList)++v.subs.map fun y=>putB f.number 2 (se f.of_.toNat y)
def encC(se:Nat->MsgT->List UInt8)(S:List MsgD)(m:Nat)(x:MsgT):List (List UInt8):=match S[m]? with
 |none=>[]
 |some M=>(x.vals.flatMap fun v=>match M.fields.find? (fun f=>f.number==v.number)with
  |none=>[]
  |some f=>zaU se f v)++x.unk.map fun t=>t.data.toList
def encV(S:List MsgD):Nat->Nat->MsgT->List UInt8
 |0,m,x=>(encC (fun _ _=>[]) S m x).flatten
 |d+1,m,x=>(encC (encV S d) S m x).flatten
def zbB(rs:Nat->MsgT->Prop)(f:zaa)(v:ValT):Prop:=
 v.number=f.number/\manyU v≠0/\(f.rep=false->manyU v=1)/\
  ((zad f.kind=true/\v.texts=[]/\v.subs=[]/\∀w∈v.words,w<18446744073709551616/\zay f.kind w=w)\/
    (zad f.kind=false/\kindB f.kind=true/\f.kind≠17/\v.words=[]/\v.subs=[]/\(f.kind=15->∀t∈v.texts,zcO t.data.toList=true))\/
    (f.kind=17/\v.words=[]/\v.texts=[]/\∀y∈v.subs,rs f.of_.toNat y))
def zaO(rs:Nat->MsgT->Prop)(S:List MsgD)(m:Nat)(x:MsgT):Prop:=∃M,S[m]?=some M/\x.vals.Pairwise (fun u v=>u.number<v.number)/\
 (∀v∈x.vals,∃(i:Nat)(f:zaa),M.fields[i]?=some f/\zbB rs f v)/\
 ∀t∈x.unk,∃T V a,headV t.data.toList=(T,V,a,t.data.toList.length,0)/\M.fields.find? (fun f=>f.number==(T:Int))=none
def zaE(S:List MsgD):Nat->Nat->MsgT->Prop
 |0=>zaO (fun _ _=>False) S
 |d+1=>zaO (zaE S d) S
theorem zgT{N:Nat->Int}:∀{F:List Nat},F.Pairwise (fun i j=>N i<N j)->∀{X:List ValT},X.Pairwise (fun u v=>u.number<v.number)->(∀v∈X,∃i∈F,N i=v.number)->F.filterMap (fun i=>X.find? (fun u=>u.number==N i))=X
 |[],_,X,_,h=>by
  rcases X with _|⟨x,X⟩
  . rfl
  . obtain⟨i,hi,_⟩:=h x List.mem_cons_self
    cases hi
 |i::F,hp,X,hX,h=>by
  rw[List.pairwise_cons]at hp;rw[List.filterMap_cons];rcases X with _|⟨x,X⟩
  . simp
  . rw[List.pairwise_cons]at hX
    by_cases hx:N i=x.number
    . have h1:(x::X).find? (fun u=>u.number==N i)=some x:=List.find?_cons_of_pos (by simp[hx])
      rw[h1];simp only;congr 1
      have ih:=zgT hp.2 hX.2 (fun v hv=>by
       obtain⟨k,hk,hkv⟩:=h v (List.mem_cons_of_mem _ hv);rcases List.mem_cons.1 hk with rfl|hk
       . have:=hX.1 v hv
         omega
       . exact⟨k,hk,hkv⟩)
      rw[<-ih];refine zcA fun k hk=> ?_
      rw[List.find?_cons_of_neg,ih];have:=hp.1 k hk;simp;omega
    . have hlt:N i<x.number:=by
       obtain⟨k,hk,hkv⟩:=h x List.mem_cons_self;rcases List.mem_cons.1 hk with rfl|hk
       . exact absurd hkv hx
       . have:=hp.1 k hk
         omega
      have h1:(x::X).find? (fun u=>u.number==N i)=none:=by
       rw[List.find?_eq_none];intro u hu;rcases List.mem_cons.1 hu with rfl|hu
       . simp
         omega
       . have:=hX.1 u hu
         simp;omega
      rw[h1];simp only
      exact zgT hp.2 (X:=x::X) (List.pairwise_cons.2 hX) (fun v hv=>by
       obtain⟨k,hk,hkv⟩:=h v hv;rcases List.mem_cons.1 hk with rfl|hk
       . exfalso
         rcases List.mem_cons.1 hv with rfl|hv
         . exact hx hkv
         . have:=hX.1 v hv
           omega
       . exact⟨k,hk,hkv⟩)
section
variable {S:List MsgD} {m:Nat} {M:MsgD} {i:Nat} {f:zaa} {se:Nat->MsgT->List UInt8} {v:ValT}
theorem ziP(hR:zan S=true)(hM:S[m]?=some M)(hf:M.fields[i]?=some f){r:Rec}(hn:(r.n:Int)=f.number):
 seenV M.fields r=if(f.rep&&zad f.kind&&r.w==2)=true then(⟨r,(i:Int),true⟩,0)else if kindB f.kind=true/\wireI f.kind=(r.w:Int)then(⟨r,(i:Int),false⟩,0)else(ViewD.zero,6):=by
 refine zbx (h:= ?_) hf;rw[hn];exact(zaQ hR hM hf).2
theorem zbC(hR:zan S=true)(hM:S[m]?=some M)(hf:M.fields[i]?=some f):(∃T:Nat,f.number=(T:Int))/\1<=f.number/\f.number<=536870911/\kindB f.kind=true:=by
 obtain⟨_,_,h3,_,h5,_⟩:=zeO ((zbk hR hM).2.2.2 i f hf);unfold zcy at h3;simp only[Bool.and_eq_true,decide_eq_true_eq]at h3;exact⟨⟨f.number.toNat,by omega⟩,by omega,by omega,h5⟩
theorem zbL{T:Nat}{V:Int}(h1:1<=(T:Int))(h2:(T:Int)<=536870911)(h:V=0\/V=1\/V=2\/V=5):zao (T:Int) V=true:=by
 unfold zao;exact decide_eq_true ⟨h1,h2,h⟩
theorem zfk{k:Int}(hk:zad k=true){w:Nat}(hw:w<18446744073709551616):∃V:Nat,wireI k=(V:Int)/\((V:Int)=0\/(V:Int)=1\/(V:Int)=2\/(V:Int)=5)/\fitsV (V:Int) (putS k w)=true:=by
 have hc:=zcJ k hw;have hk':=zdV hk;rcases zds hk with⟨h1,h2⟩|⟨h1,h9,h2⟩|⟨h1,h9,h2⟩
 . refine⟨1,h2,by decide,?_⟩
   rw[zoQ h1];unfold fitsV;refine decide_eq_true (.inr (.inl ⟨rfl,?_⟩));simp[zaB]
 . refine⟨5,h2,by decide,?_⟩
   rw[zqq h1 h9];unfold fitsV;refine decide_eq_true (.inr (.inr (.inl ⟨rfl,?_⟩)));simp[zaB]
 . refine⟨0,h2,by decide,?_⟩
   rw[zqr h1 h9];have hv:=zcS (zay k w) [] hc;rw[List.append_nil]at hv;unfold fitsV;refine decide_eq_true (.inl ⟨rfl,?_,?_⟩)
   . rw[hv]
   . rw[hv]
theorem zfl(n w:Int)(v:List UInt8):v.length<=(putB n w v).length:=by
 unfold putB;rw[List.length_append,List.length_append];omega
end
theorem zaD{cs:List (List UInt8)}{c:List UInt8}(h:c∈cs):c.length<=cs.flatten.length:=by
 induction cs with
 |nil=>cases h
 |cons d cs ih=>
  rw[List.flatten_cons,List.length_append];rcases List.mem_cons.1 h with rfl|h
  . omega
  . have:=ih h
    omega
theorem zry{S:List MsgD}{m:Nat}{M:MsgD}{se:Nat->MsgT->List UInt8}(hR:zan S=true)(hM:S[m]?=some M){x:MsgT}{v:ValT}(hv:v∈x.vals){f:zaa}(hf:f∈M.fields)(hn:v.number=f.number)(h17:f.kind=17){y:MsgT}(hy:y∈v.subs):(se f.of_.toNat y).length<=(encC se S m x).flatten.length:=by
 obtain⟨i,hi⟩:=List.getElem?_of_mem hf;have hfind:M.fields.find? (fun g=>g.number==f.number)=some f:=(zaX (p:=fun g:zaa=>decide (g.number=f.number)) (l:=M.fields)).2 i f (zaQ hR hM hi).2 hi
 have hc:putB f.number 2 (se f.of_.toNat y)∈encC se S m x:=by
  unfold encC;rw[hM];refine List.mem_append_left _ (List.mem_flatMap.2 ⟨v,hv,?_⟩);rw[hn,hfind];simp only;unfold zaU;rw[if_neg (by rw[h17];decide)];exact List.mem_append_right _ (List.mem_map.2 ⟨y,hy,rfl⟩)
 exact Nat.le_trans (zfl _ _ _) (zaD hc)
end Go.Proofs.YtlhbllaojjelcaaGreat
namespace Go.Proofs.YtlhbllaojjelcaaGreat
open Go.RowKit
section
variable {S:List MsgD} {m:Nat} {M:MsgD} {fs:List zaa} {bs:List UInt8} {i:Nat} {f:zaa} {sub:Nat->List UInt8->MsgT}
theorem zkL(f:zaa)(bs:List UInt8)(v:ViewD):∀w∈zaw f bs v,w<18446744073709551616/\zay f.kind w=w:=by
 intro w hw;unfold zaw at hw;split at hw
 . unfold zbR at hw
   split at hw
   . obtain⟨x,_,rfl⟩:=List.mem_map.1 hw
     exact⟨(zcU f.kind x.1).1,zfb f.kind x.1⟩
   . cases hw
 . split at hw
   . rw[List.mem_singleton]at hw
     subst hw;exact⟨(zcU f.kind (zal bs v)).1,zfb f.kind (zal bs v)⟩
   . cases hw
theorem zmz{f:zaa}{ws:List Nat}{w:Nat}(h:w∈zaZ f ws):w∈ws:=by
 unfold zaZ at h;split at h
 . exact h
 . exact zhm h
theorem ziQ{v:ViewD}(hv:v∈(zac fs bs).1)(hn:v.field<0):∃T V a,headV (textO (spanB bs v.r.f v.r.t)).data.toList=(T,V,a,(textO (spanB bs v.r.f v.r.t)).data.toList.length,0)/\fs.find? (fun f=>f.number==(T:Int))=none:=by
 obtain⟨h1,h2⟩:=zdg fs bs v hv;have hh:=znZ h1;refine⟨v.r.n,v.r.w,v.r.a - v.r.f,hh,?_⟩;rcases zmU fs v.r with⟨q,_⟩|⟨k,f,q1,q2,q3,q4,q5⟩
 . exact q
 . rw[q5]at h2
   exfalso;split at h2
   . injection h2 with h2 _
     rw[<-h2]at hn;simp at hn;omega
   . split at h2
     . injection h2 with h2 _
       rw[<-h2]at hn;simp at hn;omega
     . injection h2 with _ h2
       cases h2
theorem zkM(hM:S[m]?=some M){d:Nat}(hb:(zaq S d m bs).2=0){rs:Nat->MsgT->Prop}{u:ValT}(hu:zcl sub M.fields bs (zac M.fields bs).1 i=some u)(hrs:∀(f:zaa),M.fields[i]?=some f->f.kind=17->∀x:List UInt8,x.length+1<=bs.length->(∀e,d=e+1->(zaq S e f.of_.toNat x).2=0)->d≠0->rs f.of_.toNat (sub f.of_.toNat x)):
 ∃f,M.fields[i]?=some f/\zbB rs f u:=by
 rw[zbj,zaK hM]at hb;obtain⟨f,hf,hne,rfl,hm⟩:=zdF hu
 have hsmall:∀x∈zas f ((zaf (zac M.fields bs).1 i).flatMap (zam f bs)),x.length+1<=bs.length:=fun x hx=>by
  rw[zdE]at hx;exact zdp hf hne hx
 have hthings:=zeK hf hne
 have hkb:kindB f.kind=true:=by
  obtain⟨v,l,hl⟩:=List.exists_cons_of_ne_nil hne;have hv:v∈zaf (zac M.fields bs).1 i:=by rw[hl];exact List.mem_cons_self
  rcases zcV (zaW hv).1 (zaW hv).2.1 hf with⟨_,_,q⟩|⟨_,q⟩
  . unfold zad at q
    have:=of_decide_eq_true q;unfold kindB;exact decide_eq_true (by omega)
  . exact q
 refine⟨f,hf,rfl,hm,fun hr=> ?_,?_⟩
 . have h1:=zkJ (sub:=sub) f ((zaf (zac M.fields bs).1 i).flatMap (zaw f bs)) ((zaf (zac M.fields bs).1 i).flatMap (zam f bs))
   have hw1:(zaZ f ((zaf (zac M.fields bs).1 i).flatMap (zaw f bs))).length<=1:=by
    unfold zaZ;rw[if_neg (by simp[hr])];exact zex _
   rcases hthings with⟨q,hp,_⟩|⟨q,hw,_⟩
   . have:(zas f ((zaf (zac M.fields bs).1 i).flatMap (zam f bs))).length=0:=by
      rw[hp];unfold zas;rw[if_neg (by simp[hr]),if_neg (zbb q)];rfl
     omega
   . have h2:(zaZ f ((zaf (zac M.fields bs).1 i).flatMap (zaw f bs))).length=0:=by
      rw[hw];unfold zaZ;rw[if_neg (by simp[hr])];rfl
     have h3:(zas f ((zaf (zac M.fields bs).1 i).flatMap (zam f bs))).length<=1:=by
      unfold zas;rw[if_neg (by simp[hr])];split
      . simp
      . exact zex _
     omega
 . have hown:∀v∈zaf (zac M.fields bs).1 i,zad f.kind=false->v.run=false:=fun v hv hn=>by
    rcases zcV (zaW hv).1 (zaW hv).2.1 hf with⟨_,_,q⟩|⟨q,_⟩
    . rw[hn]at q
      cases q
    . exact q
   rcases hthings with⟨q,hp,_⟩|⟨q,hw,_⟩
   . refine .inl ⟨q,?_,?_,fun w hw=> ?_⟩
     . unfold zaM
       rw[hp];show(if f.kind=17 then[]else(zas f []).map textO)=[]
       rw[if_neg (zbb q)];unfold zas;split
       . rfl
       . rw[if_neg (zbb q)]
         rfl
     . unfold zaM
       show(if f.kind=17 then _ else[])=[]
       rw[if_neg (zbb q)]
     . obtain⟨v,_,hv⟩:=List.mem_flatMap.1 (zmz hw)
       exact zkL f bs v w hv
   . have hw0:(zaM sub f ((zaf (zac M.fields bs).1 i).flatMap (zaw f bs)) ((zaf (zac M.fields bs).1 i).flatMap (zam f bs))).words=[]:=by
      unfold zaM;rw[hw];show zaZ f []=[]
      unfold zaZ;split<;>rfl
     by_cases h17:f.kind=17
     . refine .inr (.inr ⟨h17,hw0,?_,fun y hy=> ?_⟩)
       . unfold zaM
         show(if f.kind=17 then[]else _)=[]
         rw[if_pos h17]
       . have hy':y∈(if f.kind=17 then(zas f ((zaf (zac M.fields bs).1 i).flatMap (zam f bs))).map (sub f.of_.toNat)else[]):=hy
         rw[if_pos h17]at hy';obtain⟨x,hx,rfl⟩:=List.mem_map.1 hy'
         have hd0:d≠0:=by
          rintro rfl;obtain⟨v,l,hl⟩:=List.exists_cons_of_ne_nil hne;have hv:v∈zaf (zac M.fields bs).1 i:=by rw[hl];exact List.mem_cons_self
          have h1:=(zcw (S:=S) (d:=0) (bs:=bs) (zaW hv).2.1 hf (hown v hv q) h17).1 rfl;have h2:=hb.2 v (zaW hv).1;rw[h1]at h2;cases h2
         refine hrs f hf h17 x (hsmall x hx) (fun e he=> ?_) hd0;subst he
         have hval:∀v∈zaf (zac M.fields bs).1 i,v.run=false/\(zaq S e f.of_.toNat (zal bs v)).2=0:=fun v hv=>by
          refine⟨hown v hv q,?_⟩;have h1:=(zcw (S:=S) (d:=e+1) (bs:=bs) (zaW hv).2.1 hf (hown v hv q) h17).2 e rfl;have h2:=hb.2 v (zaW hv).1;rw[h1.1]at h2;exact h2
         unfold zas at hx;split at hx
         . obtain⟨v,hv,hxv⟩:=List.mem_flatMap.1 hx
           unfold zam at hxv;rw[(hval v hv).1,q]at hxv;have hxv:x∈ [zal bs v]:=hxv;rw[List.mem_singleton]at hxv;subst hxv;exact(hval v hv).2
         . rw[List.mem_singleton]at hx
           subst hx;exact zdj hval q
     . refine .inr (.inl ⟨q,hkb,h17,hw0,?_,fun h15 t ht=> ?_⟩)
       . unfold zaM
         show(if f.kind=17 then _ else[])=[]
         rw[if_neg h17]
       . have ht':t∈(if f.kind=17 then[]else(zas f ((zaf (zac M.fields bs).1 i).flatMap (zam f bs))).map textO):=ht
         rw[if_neg h17]at ht';obtain⟨x,hx,rfl⟩:=List.mem_map.1 ht'
         have hx2:x∈(zaf (zac M.fields bs).1 i).flatMap (zam f bs):=by
          unfold zas at hx;split at hx
          . exact hx
          . exact zhm hx
         obtain⟨v,hv,hxv⟩:=List.mem_flatMap.1 hx2;have hr:=hown v hv q;unfold zam at hxv;rw[hr,q]at hxv;have hxv:x∈ [zal bs v]:=hxv;rw[List.mem_singleton]at hxv;subst hxv;have h1:=(zdR (subC S d) none (bs:=bs) (zaW hv).2.1 hf hr h15).1;have h2:=hb.2 v (zaW hv).1;rw[h1]at h2;show zcO (zal bs v)=true;by_cases hT:zcO (spanB bs v.r.a v.r.t)=true
         . exact hT
         . simp[hT]at h2
end
variable{M:MsgD}{d m:Nat}{S:List MsgD}
theorem zhQ(hR:zan S=true){D:Nat}{bs:List UInt8}(hM:S[m]?=some M)(hb:(zaq S d m bs).2=0)(rs:Nat->MsgT->Prop)(hrs:∀(i:Nat)(f:zaa),M.fields[i]?=some f->f.kind=17->∀x:List UInt8,x.length+1<=bs.length->(∀e,d=e+1->(zaq S e f.of_.toNat x).2=0)->d≠0->rs f.of_.toNat (ofV S D f.of_.toNat x)):zaO rs S m (ofV S (D+1) m bs):=by
 refine⟨M,hM,?_,fun v hv=> ?_,fun t ht=> ?_⟩
 . show(ofM (ofV S D) S m bs).vals.Pairwise _
   unfold ofM;rw[hM];show List.Pairwise _ ((sortK (keyF M.fields) M.fields.length).filterMap _);rw[List.pairwise_filterMap];refine(zek hR hM).imp (fun{a b} hab u hu v hv=> ?_);rw[(zgi hu).1,(zgi hv).1];exact hab
 . have hv':v∈(sortK (keyF M.fields) M.fields.length).filterMap (zcl (ofV S D) M.fields bs (zac M.fields bs).1):=by
    have:v∈(ofM (ofV S D) S m bs).vals:=hv;unfold ofM at this;rw[hM]at this;exact this
   obtain⟨i,_,hi⟩:=List.mem_filterMap.1 hv';obtain⟨f,hf,hr⟩:=zkM (rs:=rs) hM hb hi (fun f hf h17 x hx he hd=>hrs i f hf h17 x hx he hd);exact⟨i,f,hf,hr⟩
 . have ht':t∈(((zac M.fields bs).1.filter fun v=>decide (v.field<0)).map fun v=>textO (spanB bs v.r.f v.r.t)):=by
    have:t∈(ofM (ofV S D) S m bs).unk:=ht;unfold ofM at this;rw[hM]at this;exact this
   obtain⟨v,hv,rfl⟩:=List.mem_map.1 ht';exact ziQ (List.mem_filter.1 hv).1 (by simpa using (List.mem_filter.1 hv).2)
theorem zlH{S:List MsgD}(hR:zan S=true):∀(d D m:Nat)(bs:List UInt8),m<S.length->(zaq S d m bs).2=0->bs.length<=D->zaE S d m (ofV S D m bs)
 |0,D,m,bs,hm,hb,hD=>by
  obtain⟨M,hM⟩:∃M,S[m]?=some M:=⟨_,List.getElem?_eq_getElem hm⟩
  rw[zji S D (D+1) m bs hD (by omega)];exact zhQ hR hM hb _ (fun i f hf h17 x hx he hd=>absurd rfl hd)
 |e+1,D,m,bs,hm,hb,hD=>by
  obtain⟨M,hM⟩:∃M,S[m]?=some M:=⟨_,List.getElem?_eq_getElem hm⟩
  rw[zji S D (D+1) m bs hD (by omega)];refine zhQ hR hM hb _ (fun i f hf h17 x hx he _=> ?_);obtain⟨o,ho1,ho2⟩:=zcj hR hM hf h17;have hno:f.of_.toNat=o:=by rw[ho1];rfl
  have h0:=he e rfl;rw[hno]at h0⊢;exact zlH hR e D o x ho2 h0 (by omega)
theorem zhR{S:List MsgD}{d m:Nat}:∀{cs:List (List UInt8)},(∀c∈cs,(zaq S d m c).2=0)->(zaq S d m cs.flatten).2=0
 |[],_=>by
  rw[List.flatten_nil];exact zhN S d m
 |c::cs,h=>by
  rw[List.flatten_cons];exact(zdQ _ (h c List.mem_cons_self)).1.2 (zhR (cs:=cs) (fun e he=>h e (List.mem_cons_of_mem _ he)))
variable{k:Int}
theorem zeL(hM:S[m]?=some M){T V:Nat}{val:List UInt8}{run:Bool}(hr:zao (T:Int) (V:Int)=true)(hf:fitsV (V:Int) val=true)(hl:val.length<18446744073709551616)(hs:∀r:Rec,r.n=T->r.w=V->seenV M.fields r=(⟨r,k,run⟩,0))(hv:∀(c:List UInt8)(u:ViewD),u.field=k->u.run=run->zal c u=val->(zbi (subC S d) M.fields c u).2=0):(zaq S d m (putB (T:Int) (V:Int) val)).2=0:=by
 obtain⟨u,h1,h2,h3,h4,_⟩:=zkK hr hf hl hs;rw[zbj,zaK hM,h1];refine⟨rfl,fun w hw=> ?_⟩;rw[List.mem_singleton]at hw;subst hw;exact hv _ _ h2 h3 h4
theorem znC{ws:List Nat}(hk:zad k=true)(h:∀w∈ws,w<18446744073709551616/\zay k w=w):codeV k (packW k ws)=0:=by
 have h1:=zmO hk (ws:=ws) (fun w hw=>(h w hw).1);refine zfW (fun j x hx=> ?_);rw[h1,List.getElem?_map]at hx;rcases hj:ws[j]? with _|w
 . rw[hj]at hx
   cases hx
 . rw[hj]at hx
   cases hx;rfl
variable{rs:Nat->MsgT->Prop}{se:Nat->MsgT->List UInt8}
theorem zkN{i:Nat}{f:zaa}{v:ValT}(hR:zan S=true)(hM:S[m]?=some M)(hf:M.fields[i]?=some f)(hv:zbB rs f v)(hl:∀c∈zaU se f v,c.length<18446744073709551616)(hsub:f.kind=17->∀y∈v.subs,∃e,d=e+1/\(zaq S e f.of_.toNat (se f.of_.toNat y)).2=0):∀c∈zaU se f v,(zaq S d m c).2=0:=by
 obtain⟨⟨T,hT⟩,n1,n2,hkb⟩:=zbC hR hM hf;obtain⟨_,hm,h1,hk⟩:=hv;have hr2:zao (T:Int) ((2:Nat):Int)=true:=zbL (by omega) (by omega) (by decide);intro c hc;have hlc:=hl c hc;rcases hn:zad f.kind with _|_
 . have hw2:wireI f.kind=2:=by
    unfold kindB at hkb;have hk':=of_decide_eq_true hkb;unfold zad at hn;have hn':=of_decide_eq_false hn;unfold wireI;rw[if_neg (by omega),if_neg (by omega),if_neg (by omega)]
   have hs:∀r:Rec,r.n=T->r.w=2->seenV M.fields r=(⟨r,(i:Int),false⟩,0):=fun r h1 h2=>by
    rw[ziP hR hM hf (by rw[h1,hT]),hn];simp[hkb,hw2,h2]
   unfold zaU at hc;rw[hn]at hc;have hc:c∈(v.texts.map fun t=>putB f.number 2 t.data.toList)++v.subs.map fun y=>putB f.number 2 (se f.of_.toNat y):=hc
   rcases List.mem_append.1 hc with hc|hc
   . obtain⟨t,ht,rfl⟩:=List.mem_map.1 hc
     have:=zfl f.number 2 t.data.toList;rw[hT];refine zeL hM hr2 (zoy _) (by omega) hs (fun c u h1 h2 h3=> ?_);rcases hk with⟨q,_⟩|⟨_,_,h17,_,_,h15⟩|⟨_,_,q,_⟩
     . rw[hn]at q
       cases q
     . by_cases k15:f.kind=15
       . rw[(zdR (subC S d) none h1 hf h2 k15).1]
         have:=h15 k15 t ht;rw[<-h3]at this;have this:zcO (spanB c u.r.a u.r.t)=true:=this;simp[this]
       . rw[(zdl (subC S d) none h1 hf h2 k15 h17).1]
     . rw[q]at ht
       cases ht
   . obtain⟨y,hy,rfl⟩:=List.mem_map.1 hc
     have:=zfl f.number 2 (se f.of_.toNat y)
     have h17:f.kind=17:=by
      rcases hk with⟨q,_⟩|⟨_,_,_,_,q,_⟩|⟨q,_⟩
      . rw[hn]at q
        cases q
      . rw[q]at hy
        cases hy
      . exact q
     obtain⟨e,rfl,he⟩:=hsub h17 y hy;rw[hT];refine zeL hM hr2 (zoy _) (by omega) hs (fun c u h1 h2 h3=> ?_);rw[((zcw (S:=S) (d:=e+1) (bs:=c) h1 hf h2 h17).2 e rfl).1];show(zaq S e f.of_.toNat (zal c u)).2=0;rw[h3];exact he
 . have hw:∀w∈v.words,w<18446744073709551616/\zay f.kind w=w:=by
    rcases hk with⟨_,_,_,q⟩|⟨q,_⟩|⟨q,_⟩
    . exact q
    . rw[hn]at q
      cases q
    . exact absurd q (zbb hn)
   have h15:¬f.kind=15:=by
    intro q;rw[q]at hn;cases hn
   unfold zaU at hc;rw[hn]at hc;rcases hr:f.rep with _|_
   . rw[hr]at hc
     have hc:c∈v.words.map fun w=>putB f.number (wireI f.kind) (putS f.kind w):=hc
     obtain⟨w,hwm,rfl⟩:=List.mem_map.1 hc;obtain⟨V,hV,hV2,hfit⟩:=zfk hn (hw w hwm).1;have:=(zbg (k:=f.kind) (hw w hwm).1).2;rw[hT,hV];refine zeL (k:=(i:Int)) (run:=false) hM (zbL (by omega) (by omega) hV2) hfit (by omega) (fun r h1 h2=> ?_) (fun c u h1 h2 h3=> ?_)
     . rw[ziP hR hM hf (by rw[h1,hT]),hr]
       simp[hkb,hV,h2]
     . rw[(zdl (subC S d) none h1 hf h2 h15 (zbb hn)).1]
   . rw[hr]at hc
     have hc:c∈ [putB f.number 2 (packW f.kind v.words)]:=hc;rw[List.mem_singleton]at hc;subst hc;have:=zfl f.number 2 (packW f.kind v.words);rw[hT];refine zeL (k:=(i:Int)) (run:=true) hM hr2 (zoy _) (by omega) (fun r h1 h2=> ?_) (fun c u h1 h2 h3=> ?_)
     . rw[ziP hR hM hf (by rw[h1,hT]),hn,hr,h2]
       rfl
     . rw[(zfN (subC S d) none h1 hf h2).1]
       show codeV f.kind (zal c u)=0;rw[h3];exact znC hn hw
theorem ziR(hM:S[m]?=some M){t:List UInt8}(h:∃T V a,headV t=(T,V,a,t.length,0)/\M.fields.find? (fun f=>f.number==(T:Int))=none):(zaq S d m t).2=0:=by
 obtain⟨T,V,a,h1,h2⟩:=h
 have hs:seenV M.fields ⟨T,V,0,a,t.length⟩=(⟨⟨T,V,0,a,t.length⟩, -1,false⟩,0):=by
  refine zbw ?_;rcases zaL (numP (T:Int)) M.fields with⟨q,_⟩|⟨k,f,_,q2,q3,_⟩
  . exact q
  . rw[List.find?_eq_none]at h2
    exact absurd q3 (h2 f (List.mem_of_getElem? q2))
 rw[zbj,zaK hM,zfZ h1 hs];refine⟨rfl,fun w hw=> ?_⟩;rw[List.mem_singleton]at hw;subst hw;rw[(zhb (subC S d) none rfl).1]
theorem zhS(hR:zan S=true)(hM:S[m]?=some M){x:MsgT}(hx:zaO rs S m x)(hl:(encC se S m x).flatten.length<18446744073709551616)(hsub:∀v∈x.vals,∀f:zaa,f∈M.fields->v.number=f.number->f.kind=17->∀y∈v.subs,rs f.of_.toNat y->∃e,d=e+1/\(zaq S e f.of_.toNat (se f.of_.toNat y)).2=0):(zaq S d m (encC se S m x).flatten).2=0:=by
 obtain⟨M',hM',_,hv,hu⟩:=hx;rw[hM]at hM';cases hM';refine zhR fun c hc=> ?_
 have hcl:=Nat.lt_of_le_of_lt (zaD hc) hl;have hmem:∀c'∈encC se S m x,c'.length<18446744073709551616:=fun c' hc'=>Nat.lt_of_le_of_lt (zaD hc') hl
 unfold encC at hc hmem;rw[hM]at hc hmem;rcases List.mem_append.1 hc with hc|hc
 . obtain⟨v,hvm,hc⟩:=List.mem_flatMap.1 hc
   obtain⟨i,f,hf,hr⟩:=hv v hvm
   have hfind:M.fields.find? (fun g=>g.number==v.number)=some f:=by
    rw[hr.1];exact(zaX (p:=fun g:zaa=>decide (g.number=f.number)) (l:=M.fields)).2 i f (zaQ hR hM hf).2 hf
   rw[hfind]at hc;refine zkN hR hM hf hr (fun c' hc'=>hmem c' (List.mem_append_left _ (List.mem_flatMap.2 ⟨v,hvm,by rw[hfind];exact hc'⟩))) (fun h17 y hy=> ?_) c hc;refine hsub v hvm f (List.mem_of_getElem? hf) hr.1 h17 y hy ?_;rcases hr.2.2.2 with⟨_,_,q,_⟩|⟨_,_,_,_,q,_⟩|⟨_,_,_,q⟩
   . rw[q]at hy
     cases hy
   . rw[q]at hy
     cases hy
   . exact q y hy
 . obtain⟨t,ht,rfl⟩:=List.mem_map.1 hc
   exact ziR hM (hu t ht)
theorem zjz{S:List MsgD}(hR:zan S=true):∀(d m:Nat)(x:MsgT),zaE S d m x->(encV S d m x).length<18446744073709551616->(zaq S d m (encV S d m x)).2=0
 |0,m,x,hx,hl=>by
  have hx':zaO (fun _ _=>False) S m x:=hx;obtain⟨M,hM,_⟩:=id hx';have e:encV S 0 m x=(encC (fun _ _=>[]) S m x).flatten:=by rw[encV]
  rw[e]at hl⊢;exact zhS hR hM hx' hl (fun v hvm f hf hn h17 y hy q=>q.elim)
 |d+1,m,x,hx,hl=>by
  have hx':zaO (zaE S d) S m x:=hx;obtain⟨M,hM,_⟩:=id hx';have e:encV S (d+1) m x=(encC (encV S d) S m x).flatten:=by rw[encV]
  rw[e]at hl⊢;refine zhS hR hM hx' hl (fun v hvm f hf hn h17 y hy q=>⟨d,rfl,?_⟩);have hin:=zry (se:=encV S d) hR hM hvm hf hn h17 hy;exact zjz hR d _ y q (by omega)
end Go.Proofs.YtlhbllaojjelcaaGreat
