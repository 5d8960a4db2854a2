/- Plain words: the bytes of a view, a text. -/
import Derived.Test.YtlhbllaojjelcaaGreatQhM14
import Derived.Test.YtlhbllaojjelcaaGreatQhW9
import Derived.Test.YtlhbllaojjelcaaGreatQhWSort

set_option linter.unusedVariables false
namespace Go.Proofs.YtlhbllaojjelcaaGreat
open Go.RowKit Tryz
def zal(bs:List UInt8)(v:ViewD):List UInt8:=spanB bs v.r.a v.r.t
def textO(b:List UInt8):ByteArray:=⟨b.toArray⟩
def zaw(f:zaa)(bs:List UInt8)(v:ViewD):List Nat:=
 if v.run=true then(zbR f.kind (zal bs v)).1 else if zad f.kind=true then[(readS f.kind (zal bs v)).1]else[]
def zam(f:zaa)(bs:List UInt8)(v:ViewD):List (List UInt8):=
 if v.run=true then[]else if zad f.kind=true then[]else[zal bs v]
variable{α:Type}
def lastO(l:List α):List α:=l.drop (l.length - 1)
def zqO(f:zaa)(bs:List UInt8)(vs:List ViewD):List Nat:=if f.rep=true then vs.flatMap (zaw f bs)else lastO (vs.flatMap (zaw f bs))
def zfy(f:zaa)(bs:List UInt8)(vs:List ViewD):List (List UInt8):=
 if f.rep=true then vs.flatMap (zam f bs)else if f.kind=17 then[(vs.flatMap (zam f bs)).flatten]else lastO (vs.flatMap (zam f bs))
def zpZ(sub:Nat->List UInt8->MsgT)(f:zaa)(bs:List UInt8)(vs:List ViewD):Option ValT:=
 let ps:=zfy f bs vs;let u:ValT:=⟨(),(),(),f.number,zqO f bs vs,if f.kind=17 then[]else ps.map textO,if f.kind=17 then ps.map (sub f.of_.toNat)else[]⟩
 if u.words.length+u.texts.length+u.subs.length=0 then none else some u
def zaf(L:List ViewD)(i:Nat):List ViewD:=L.filter fun v=>v.field==(i:Int)
def zcl(sub:Nat->List UInt8->MsgT)(fs:List zaa)(bs:List UInt8)(L:List ViewD)(i:Nat):Option ValT:=
 match fs[i]? with
 |none=>none
 |some f=>if zaf L i=[]then none else zpZ sub f bs (zaf L i)
def ofM(sub:Nat->List UInt8->MsgT)(S:List MsgD)(m:Nat)(bs:List UInt8):MsgT:=match S[m]? with
 |none=>.mk () () [] []
 |some M=>.mk () () ((sortK (keyF M.fields) M.fields.length).filterMap (zcl sub M.fields bs (zac M.fields bs).1))
  (((zac M.fields bs).1.filter fun v=>decide (v.field<0)).map fun v=>textO (spanB bs v.r.f v.r.t))
def ofV(S:List MsgD):Nat->Nat->List UInt8->MsgT
 |0=>ofM (fun _ _=>.mk () () [] []) S
 |d+1=>ofM (ofV S d) S
variable{v:ViewD}{i k:Nat}{L:List ViewD}
theorem zeS(h:L[k]?=some v)(hv:v.field=(i:Int)):zaf (L.take (k+1)) i=zaf (L.take k) i++[v]:=by
 unfold zaf;rw[zap _ _ _ h,List.filter_append];simp[hv]
theorem zew(h:L[k]?=some v)(hv:¬v.field=(i:Int)):zaf (L.take (k+1)) i=zaf (L.take k) i:=by
 unfold zaf;rw[zap _ _ _ h,List.filter_append];simp[hv]
theorem zex(l:List α):(lastO l).length<=1:=by
 unfold lastO;rw[List.length_drop];omega
theorem ziw(l:List α)(x:α):lastO (l++[x])=[x]:=by
 unfold lastO;simp
theorem zhl:lastO ([]:List α)=[]:=rfl
def zcp(v:ViewD):Nat:=v.r.t - v.r.a+1
def zaG(L:List ViewD):Nat:=(L.map zcp).sum
theorem zaY(L:List ViewD)(v:ViewD):zaG (v::L)=zcp v+zaG L:=rfl
theorem zdZ(q:ViewD->Bool):∀L:List ViewD,zaG (L.filter q)<=zaG L
 |[]=>Nat.le_refl _
 |v::L=>by
  have ih:=zdZ q L;rw[zaY];by_cases h:q v=true
  . rw[List.filter_cons_of_pos h,zaY]
    omega
  . rw[List.filter_cons_of_neg h]
    omega
theorem zea(L:List ViewD)(k:Nat):zaG (L.take k)<=zaG L:=by
 have h:zaG L=zaG (L.take k)+zaG (L.drop k):=by
  unfold zaG;rw[<-List.sum_append,<-List.map_append,List.take_append_drop]
 omega
theorem zix(h:v∈L):zcp v<=zaG L:=by
 induction L with
 |nil=>cases h
 |cons u L ih=>
  rw[zaY];rcases List.mem_cons.1 h with rfl|h
  . omega
  . have:=ih h
    omega
theorem zmX(l:List zaa)(bs:List UInt8):∀(m p:Nat),bs.length - p<=m->p<=bs.length->zaG (scan (lookV l bs) ViewD.to bs.length p).1<=bs.length - p:=by
 intro m
 induction m with
 |zero=>
  intro p hm hp;rw[zaA (by omega)];exact Nat.zero_le _
 |succ m ih=>
  intro p hm hp;by_cases he:p=bs.length
  . rw[zaA (by omega)]
    exact Nat.zero_le _
  . rcases hs:lookV l bs p with⟨v,C⟩
    have hlt:p<bs.length:=by omega
    by_cases hC:C=0
    . subst hC
      have h1:=zaz l bs p hlt (by rw[hs]);rw[hs]at h1;simp only at h1;have hn:=zbu (zbZ hs).1;rw[zby (zaz l bs) hlt hs];have:=ih v.to (by omega) h1.2;have hto:v.to=v.r.t:=rfl;have hw:zcp v=v.r.t - v.r.a+1:=rfl;have hto2:=h1.2;rw[hto]at this hto2;unfold pre;split
      . have:zaG (v::(scan (lookV l bs) ViewD.to bs.length v.to).1)<=bs.length - p:=by
         rw[zaY,hto];omega
        exact this
      . exact Nat.zero_le _
    . rw[zaR hlt hs hC]
      exact Nat.zero_le _
theorem zdn(l:List zaa)(bs:List UInt8):zaG (zac l bs).1<=bs.length:=by
 have:=zmX l bs bs.length 0 (by omega) (Nat.zero_le _);exact Nat.le_trans this (by omega)
theorem zey(L:List ViewD)(i:Nat):zaG (zaf L i)<=zaG L:=zdZ _ L
theorem zeb(k:Int)(bs:List UInt8):(zbR k bs).1.length<=bs.length+1:=by
 have h:=zhi k bs;unfold zbR;split
 . simpa using h
 . simp
theorem zlh(f:zaa)(bs:List UInt8)(v:ViewD)(h:v.r.t<=bs.length):(zaw f bs v).length<=zcp v:=by
 unfold zaw;split
 . have h1:=zeb f.kind (zal bs v)
   have h2:(zal bs v).length=v.r.t - v.r.a:=zaI bs h;unfold zcp;omega
 . split
   . unfold zcp
     simp
   . simp
theorem zdo(f:zaa)(bs:List UInt8):∀L:List ViewD,(∀v∈L,v.r.t<=bs.length)->(L.flatMap (zaw f bs)).length<=zaG L
 |[],_=>Nat.zero_le _
 |v::L,h=>by
  have ih:=zdo f bs L (fun u hu=>h u (List.mem_cons_of_mem _ hu));have:=zlh f bs v (h v List.mem_cons_self);rw[List.flatMap_cons,List.length_append,zaY];omega
theorem zkd(f:zaa)(bs:List UInt8)(v:ViewD)(h:v.r.t<=bs.length):(zam f bs v).length+(zam f bs v).flatten.length<=zcp v/\(zam f bs v).length<=1:=by
 have h2:(zal bs v).length=v.r.t - v.r.a:=zaI bs h;unfold zam zcp;split
 . simp
 . split
   . simp
   . simp
     omega
theorem zdD(f:zaa)(bs:List UInt8):∀L:List ViewD,(∀v∈L,v.r.t<=bs.length)->(L.flatMap (zam f bs)).length+(L.flatMap (zam f bs)).flatten.length<=zaG L/\(L.flatMap (zam f bs)).length<=L.length
 |[],_=>⟨Nat.zero_le _,Nat.zero_le _⟩
 |v::L,h=>by
  have ih:=zdD f bs L (fun u hu=>h u (List.mem_cons_of_mem _ hu));have:=zkd f bs v (h v List.mem_cons_self);rw[List.flatMap_cons,List.length_append,zaY,List.flatten_append,List.length_append,List.length_cons];omega
variable{x bs:List UInt8}{f:zaa}
theorem zlZ(h:∀v∈L,v.r.a<=v.r.t/\v.r.t<=bs.length)(hx:x∈L.flatMap (zam f bs)):x.length+1<=zaG L:=by
 obtain⟨v,hv,hx⟩:=List.mem_flatMap.1 hx;have h2:(zal bs v).length=v.r.t - v.r.a:=zaI bs (h v hv).2;have h3:=zix hv;unfold zam at hx;unfold zcp at h3;split at hx
 . cases hx
 . split at hx
   . cases hx
   . rw[List.mem_singleton]at hx
     subst hx;omega
theorem zhm{l:List α}{x:α}(h:x∈lastO l):x∈l:=List.mem_of_mem_drop h
theorem zke(hn:L≠ [])(h:∀v∈L,v.r.a<=v.r.t/\v.r.t<=bs.length)(hw:zaG L<=bs.length)(hk:f.kind=17->∀v∈L,v.run=false)(hx:x∈zfy f bs L):
 x.length+1<=bs.length:=by
 unfold zfy at hx;split at hx
 . exact Nat.le_trans (zlZ h hx) hw
 . split at hx
   . rename_i h17
     rw[List.mem_singleton]at hx;subst hx;have h1:=zdD f bs L (fun v hv=>(h v hv).2);rcases L with _|⟨v,L⟩
     . exact absurd rfl hn
     . have hr:=hk h17 v List.mem_cons_self
       have hp:zam f bs v=[zal bs v]:=by
        unfold zam;rw[hr,if_neg (by simp),if_neg];rw[h17]
        decide
       rw[List.flatMap_cons,hp]at h1⊢;have h2:=h1.1;simp only[List.length_append,List.length_cons,List.length_nil]at h2;omega
   . exact Nat.le_trans (zlZ h (zhm hx)) hw
def zhn(f:zaa)(run:Bool)(val:List UInt8):List Nat:=
 if run=true then(zbR f.kind val).1 else if zad f.kind=true then[(readS f.kind val).1]else[]
def zfc(f:zaa)(run:Bool)(val:List UInt8):List (List UInt8):=if run=true then[]else if zad f.kind=true then[]else[val]
def zaZ(f:zaa)(ws:List Nat):List Nat:=if f.rep=true then ws else lastO ws
def zas(f:zaa)(ps:List (List UInt8)):List (List UInt8):=if f.rep=true then ps else if f.kind=17 then[ps.flatten]else lastO ps
def zaM(sub:Nat->List UInt8->MsgT)(f:zaa)(ws:List Nat)(ps:List (List UInt8)):ValT:=
 ⟨(),(),(),f.number,zaZ f ws,if f.kind=17 then[]else(zas f ps).map textO,if f.kind=17 then(zas f ps).map (sub f.of_.toNat)else[]⟩
variable{τ:Type}
def manyU{σ:Type}(u:ValG τ σ):Nat:=u.words.length+u.texts.length+u.subs.length
theorem zez(sub:Nat->List UInt8->MsgT)(f:zaa)(bs:List UInt8)(vs:List ViewD):
 zpZ sub f bs vs=if manyU (zaM sub f (vs.flatMap (zaw f bs)) (vs.flatMap (zam f bs)))=0 then none else some (zaM sub f (vs.flatMap (zaw f bs)) (vs.flatMap (zam f bs))):=rfl
theorem zmY(u:ValG τ (MsgX τ)):manyU (bareV u)=manyU u:=by
 unfold manyU bareV;simp
theorem zdE(f:zaa)(bs:List UInt8)(vs:List ViewD):zas f (vs.flatMap (zam f bs))=zfy f bs vs:=rfl
theorem zdu{β:Type}{l:List α}{x:α}(g:α->Option β)(h:l[k]?=some x):(l.take (k+1)).filterMap g=(l.take k).filterMap g++(g x).toList:=by
 rw[zap _ _ _ h,List.filterMap_append];rcases hg:g x with _|y
 . simp[hg]
 . simp[hg]
variable{fs:List zaa}
theorem zho(h:v∈(zac fs bs).1):
 v.field= -1\/∃(k:Nat)(f:zaa),v.field=(k:Int)/\fs[k]?=some f/\((v.run=true/\f.rep=true/\zad f.kind=true)\/(v.run=false/\kindB f.kind=true)):=by
 have h2:=(zdg fs bs v h).2;rcases zaL (numP (v.r.n:Int)) fs with⟨h1,_⟩|⟨k,f,h1,hf,_⟩
 . rw[zbw h1]at h2
   injection h2 with h2 _;left;rw[<-h2]
 . rw[zbx h1 hf]at h2
   right;split at h2
   . rename_i hc
     injection h2 with h2 _;rw[Bool.and_eq_true,Bool.and_eq_true]at hc;exact⟨k,f,by rw[<-h2],hf,.inl ⟨by rw[<-h2],hc.1.1,hc.1.2⟩⟩
   . split at h2
     . rename_i hc
       injection h2 with h2 _;exact⟨k,f,by rw[<-h2],hf,.inr ⟨by rw[<-h2],hc.1⟩⟩
     . injection h2 with _ h2
       cases h2
theorem zcV(h:v∈(zac fs bs).1)(hi:v.field=(i:Int))(hf:fs[i]?=some f):(v.run=true/\f.rep=true/\zad f.kind=true)\/(v.run=false/\kindB f.kind=true):=by
 rcases zho h with e|⟨k,f',e1,e2,e3⟩
 . omega
 . have hk:k=i:=by omega
   subst hk;rw[hf]at e2;cases e2;exact e3
theorem zfz(h:zad f.kind=true)(l:List ViewD):l.flatMap (zam f bs)=[]:=by
 rw[List.flatMap_eq_nil_iff];intro v _;unfold zam;split
 . rfl
 . rfl
theorem zbb{k:Int}(h:zad k=true):k≠17:=by
 unfold zad at h;have:=of_decide_eq_true h;omega
section
variable {fs:List zaa} {bs:List UInt8} {i:Nat} {f:zaa} {sub sub':Nat->List UInt8->MsgT} {S:List MsgD}
theorem zaW{v:ViewD}(hv:v∈zaf (zac fs bs).1 i):v∈(zac fs bs).1/\v.field=(i:Int)/\v.r.a<=v.r.t/\v.r.t<=bs.length:=by
 have h1:=(List.mem_filter.1 hv).1;have h2:=(List.mem_filter.1 hv).2;have h3:=zcv h1;exact⟨h1,by simpa using h2,h3.2.1,h3.2.2⟩
theorem zfA:zaG (zaf (zac fs bs).1 i)<=bs.length:=Nat.le_trans (zey _ i) (zdn fs bs)
theorem zdp(hf:fs[i]?=some f)(hne:zaf (zac fs bs).1 i≠ []){x:List UInt8}(hx:x∈zfy f bs (zaf (zac fs bs).1 i)):x.length+1<=bs.length:=by
 refine zke hne (fun v hv=>(zaW hv).2.2) zfA (fun h17 v hv=> ?_) hx;rcases zcV (zaW hv).1 (zaW hv).2.1 hf with⟨_,_,q⟩|⟨q,_⟩
 . exact absurd h17 (zbb q)
 . exact q
theorem zdF{L:List ViewD}{u:ValT}(h:zcl sub fs bs L i=some u):∃f,fs[i]?=some f/\zaf L i≠ []/\u=zaM sub f ((zaf L i).flatMap (zaw f bs)) ((zaf L i).flatMap (zam f bs))/\manyU u≠0:=by
 unfold zcl at h;split at h
 . cases h
 . rename_i f hf
   split at h
   . cases h
   . rename_i hne
     rw[zez]at h;split at h
     . cases h
     . rename_i hm
       injection h with h;subst h;exact⟨f,hf,hne,rfl,hm⟩
theorem zli{f:zaa}{ws:List Nat}{ps:List (List UInt8)}(h:∀x∈zas f ps,sub f.of_.toNat x=sub' f.of_.toNat x):zaM sub f ws ps=zaM sub' f ws ps:=by
 unfold zaM;congr 1;split
 . exact List.map_congr_left h
 . rfl
theorem zhp{m:Nat}(h:∀m' b',b'.length<bs.length->sub m' b'=sub' m' b'):ofM sub S m bs=ofM sub' S m bs:=by
 unfold ofM;split
 . rfl
 . rename_i M hM
   congr 1;refine congrArg (fun g=>List.filterMap g _) (funext fun i=> ?_);unfold zcl;split
   . rfl
   . rename_i f hf
     split
     . rfl
     . rename_i hne
       rw[zez,zez,zli (sub:=sub) (sub':=sub') (f:=f)];intro x hx;rw[zdE]at hx;have:=zdp hf hne hx;exact h _ _ (by omega)
theorem zji(S:List MsgD):∀(d d' m:Nat)(bs:List UInt8),bs.length<=d->bs.length<=d'->ofV S d m bs=ofV S d' m bs:=by
 intro d
 induction d with
 |zero=>
  intro d' m bs h1 h2;rcases d' with _|d'
  . rfl
  . exact zhp (fun m' b' h=>by omega)
 |succ d ih=>
  intro d' m bs h1 h2;rcases d' with _|d'
  . exact zhp (fun m' b' h=>by omega)
  . exact zhp (fun m' b' h=>ih d' m' b' (by omega) (by omega))
theorem zoe{B:Nat}{f:zaa}{ws:List Nat}{ps:List (List UInt8)}(hw:ws.length<=B)(hp:ps.length+1<=B):(zaM sub f ws ps).words.length<=B/\(zaM sub f ws ps).texts.length<=B/\(zaM sub f ws ps).subs.length<=B:=by
 have h1:(zaZ f ws).length<=ws.length:=by
  unfold zaZ;split
  . exact Nat.le_refl _
  . unfold lastO
    rw[List.length_drop];omega
 have h2:(zas f ps).length<=ps.length+1:=by
  unfold zas;split
  . omega
  . split
    . simp
    . have:=zex ps
      omega
 unfold zaM;refine⟨by show(zaZ f ws).length<=B;omega,?_,?_⟩
 . show(if f.kind=17 then[]else(zas f ps).map textO).length<=B
   split
   . simp
   . rw[List.length_map]
     omega
 . show(if f.kind=17 then(zas f ps).map (sub f.of_.toNat)else[]).length<=B
   split
   . rw[List.length_map]
     omega
   . simp
end
structure Trees(w wr:World)(b3:Nat)(A:Option Addr)(old:Nat->Prop)(ys:List MsgR):Prop where
 at_:∀y∈ys,zah wr y
 away:∀y∈ys,∀b,UsesT y b->b≠b3/\(Value.slice A 0 0).ownBlock≠some b
 from_:∀y∈ys,∀b,UsesT y b->old b\/w.heap.size<=b
 size:w.heap.size<=wr.heap.size
section
variable {w wr w':World} {b3:Nat} {A A':Option Addr} {old:Nat->Prop} {ys:List MsgR}
theorem Trees.nil(h:w.heap.size<=wr.heap.size):Trees w wr b3 A old []:=⟨(fun y h=>by cases h),(fun y h=>by cases h),(fun y h=>by cases h),h⟩
theorem Trees.up(h:Trees w wr b3 A old ys)(k:Ext wr w'):Trees w w' b3 A old ys:=⟨fun y hy=>(h.at_ y hy).up k,h.away,h.from_,Nat.le_trans h.size k.size⟩
theorem Trees.lt(h:Trees w wr b3 A old ys):∀y∈ys,∀b,UsesT y b->b<wr.heap.size:=fun y hy b hb=>(h.at_ y hy).lt hb
theorem Trees.snoc(h:Trees w wr b3 A old ys){y:MsgR}(hy:zah wr y)(ha:∀b,UsesT y b->b≠b3/\(Value.slice A 0 0).ownBlock≠some b)(hf:∀b,UsesT y b->old b\/w.heap.size<=b):Trees w wr b3 A old (ys++[y]):=by
 refine⟨fun z hz=> ?_,fun z hz=> ?_,fun z hz=> ?_,h.size⟩
 all_goals
  rcases List.mem_append.1 hz with hz|hz
 . exact h.at_ z hz
 . rw[List.mem_singleton]at hz;subst hz;exact hy
 . exact h.away z hz
 . rw[List.mem_singleton]at hz;subst hz;exact ha
 . exact h.from_ z hz
 . rw[List.mem_singleton]at hz;subst hz;exact hf
theorem Trees.grow(h:Trees w wr b3 A old ys){W:World}(hE:Ext wr W){n c:Nat}(hg:W.grownBy w' (Value.slice A n c).ownBlock)(hm:Moved W A A'):Trees w w' b3 A' old ys:=by
 have hS:Stays (fun b=>(Value.slice A 0 0).ownBlock≠some b) W w':=Stays.grown hg (fun k hk=>by rw[zak A n c 0 0]at hk;exact fun q=>q hk);refine⟨fun y hy=>((h.at_ y hy).up hE).stays hS (fun b hb=>(h.away y hy b hb).2),fun y hy b hb=>⟨(h.away y hy b hb).1,?_⟩,h.from_,Nat.le_trans h.size (Nat.le_trans hE.size hS.size)⟩;have hlt:=h.lt y hy b hb;have hsz:=hE.size;rcases hm with e|e
 . rw[e];exact(h.away y hy b hb).2
 . rw[e]
   intro q;injection q with q;omega
theorem Trees.store(h:Trees w wr b3 A old ys)(o:Nat)(u:Value):Trees w (wr.setCell ⟨b3,o,none⟩ u) b3 A old ys:=
 ⟨fun y hy=>(h.at_ y hy).stays ((Stays.refl (fun b=>b≠b3) wr).set (fun e=>e rfl) u) (fun b hb=>(h.away y hy b hb).1),h.away,h.from_,by simpa[World.setCell] using h.size⟩
end
theorem BlkT.set_far{w:World}{b:Nat}{t:TypeId}{cs:Array Value}(h:BlkT w b t cs){b':Nat}(o:Nat)(hb:b'≠b)(u:Value):BlkT (w.setCell ⟨b',o,none⟩ u) b t cs:=h.far (p:=⟨b',o,none⟩) (fun e=>hb e.symm) u
theorem zjj:Elem prog 25 9 1 16:=Elem.mk' (z:=.string ⟨#[]⟩) underlying25 (by kernel_rfl) rfl (by omega)
structure ValsT(w wr:World)(b3:Nat)(A:Option Addr)(old:Nat->Prop)(U:Sl)(us:List ByteArray)(ys:List ValR):Prop where
 at_:∀y∈ys,ValAt wr y
 unk:zbG wr U us
 away:∀y∈ys,∀b,UsesV y b->b≠b3/\(Value.slice A 0 0).ownBlock≠some b
 awayU:∀b,UsesA U.1 us.length b->b≠b3/\(Value.slice A 0 0).ownBlock≠some b
 from_:∀y∈ys,∀b,UsesV y b->old b\/w.heap.size<=b
 size:w.heap.size<=wr.heap.size
section
variable {w wr w':World} {b3:Nat} {A A':Option Addr} {old:Nat->Prop} {U:Sl} {us:List ByteArray} {ys:List ValR}
theorem ValsT.up(h:ValsT w wr b3 A old U us ys)(k:Ext wr w'):ValsT w w' b3 A old U us ys:=⟨fun y hy=>(h.at_ y hy).up k,h.unk.up k,h.away,h.awayU,h.from_,Nat.le_trans h.size k.size⟩
theorem ValsT.lt(h:ValsT w wr b3 A old U us ys):∀y∈ys,∀b,UsesV y b->b<wr.heap.size:=fun y hy b hb=>(h.at_ y hy).lt hb
theorem ValsT.snoc(h:ValsT w wr b3 A old U us ys){y:ValR}(hy:ValAt wr y)(ha:∀b,UsesV y b->b≠b3/\(Value.slice A 0 0).ownBlock≠some b)(hf:∀b,UsesV y b->old b\/w.heap.size<=b):ValsT w wr b3 A old U us (ys++[y]):=by
 refine⟨fun z hz=> ?_,h.unk,fun z hz=> ?_,h.awayU,fun z hz=> ?_,h.size⟩
 all_goals
  rcases List.mem_append.1 hz with hz|hz
 . exact h.at_ z hz
 . rw[List.mem_singleton]at hz;subst hz;exact hy
 . exact h.away z hz
 . rw[List.mem_singleton]at hz;subst hz;exact ha
 . exact h.from_ z hz
 . rw[List.mem_singleton]at hz;subst hz;exact hf
theorem ValsT.grow(h:ValsT w wr b3 A old U us ys){W:World}(hE:Ext wr W){n c:Nat}(hg:W.grownBy w' (Value.slice A n c).ownBlock)(hm:Moved W A A'):ValsT w w' b3 A' old U us ys:=by
 have hS:Stays (fun b=>(Value.slice A 0 0).ownBlock≠some b) W w':=Stays.grown hg (fun k hk=>by rw[zak A n c 0 0]at hk;exact fun q=>q hk)
 have hnew:∀b,b<wr.heap.size->(Value.slice A 0 0).ownBlock≠some b->(Value.slice A' 0 0).ownBlock≠some b:=by
  intro b hlt h0;have hsz:=hE.size;rcases hm with e|e
  . rw[e];exact h0
  . rw[e]
    intro q;injection q with q;omega
 exact⟨fun y hy=>((h.at_ y hy).up hE).stays hS (fun b hb=>(h.away y hy b hb).2),(h.unk.up hE).stays hS (fun b hb=>(h.awayU b hb).2),
  fun y hy b hb=>⟨(h.away y hy b hb).1,hnew b (h.lt y hy b hb) (h.away y hy b hb).2⟩,fun b hb=>⟨(h.awayU b hb).1,hnew b (h.unk.at_.uses_lt hb) (h.awayU b hb).2⟩,h.from_,Nat.le_trans h.size (Nat.le_trans hE.size hS.size)⟩
theorem ValsT.store(h:ValsT w wr b3 A old U us ys)(o:Nat)(u:Value):ValsT w (wr.setCell ⟨b3,o,none⟩ u) b3 A old U us ys:=
 ⟨fun y hy=>(h.at_ y hy).stays ((Stays.refl (fun b=>b≠b3) wr).set (fun e=>e rfl) u) (fun b hb=>(h.away y hy b hb).1),h.unk.stays ((Stays.refl (fun b=>b≠b3) wr).set (fun e=>e rfl) u) (fun b hb=>(h.awayU b hb).1),h.away,h.awayU,h.from_,by simpa[World.setCell] using h.size⟩
end
end Go.Proofs.YtlhbllaojjelcaaGreat
