/- What a law is handed, in my own words for memory. No program is named. -/
import Derived.Test.YtpicpebolghcfaaGreatDoorQlLib
import Derived.ProofKit
import Derived.OpenShut
import Derived.ShutString
import Derived.ChangeOld
import Derived.MapKept
import Derived.Carry
import Derived.ChangeMaps4
import Derived.WideKeyEntry
import Derived.Maps.Keyed

set_option linter.unusedVariables false
namespace Go.Proofs.YtpicpebolghcfaaGreatDoor
open Go.ChangeShapes Go.WideShapes Go.ChangeAt Go.RowKit
variable{zs:List Int}{n c:Nat}{x:Addr}{w:World}
theorem ziV{k:IntKind}(hl:n<=c)(hm:c<=maxLen)(hz:zs.length=c)(hcell:∀i,i<zs.length->w.cell? (x.add i)=some (.int k (zs.getD i 0))):Reads w (some x) n c 1 ((zs.take n).map (Value.int k)):=by
 refine⟨by simp;omega,hl,hm,fun hn=> ?_⟩;obtain⟨b,off,spot⟩:=x;have h0:=hcell 0 (by omega);have hspot:spot=none:=by simpa[Addr.add] using World.cell?_spot h0
 subst hspot;have hb:=World.block_lt_of_cell? w _ h0;refine⟨b,off,rfl,by simpa[Addr.add] using hb,fun j u hu=> ?_⟩
 have hj:j<zs.length:=by
  rcases Nat.lt_or_ge j zs.length with h|h
  . exact h
  . rw[List.getElem?_eq_none (by simp;omega)]at hu;cases hu
 have hjn:j<n:=by
  rcases Nat.lt_or_ge j n with h|h
  . exact h
  . rw[List.getElem?_eq_none (by simp;omega)]at hu;cases hu
 have:=hcell j hj;rw[zdM]at this;rw[this];rw[List.getElem?_map,List.getElem?_take_of_lt hjn,List.getElem?_eq_getElem hj]at hu;simp only[Option.map_some,Option.some.injEq]at hu;rw[<-hu];simp[List.getD,List.getElem?_eq_getElem hj]
theorem ziW(hl:n<=c)(hm:c<=maxLen)(hz:zs.length=c)(hcell:∀i,i<zs.length->w.cell? (x.add i)=some (.int .u8 (zs.getD i 0)))(hw:∀z∈zs,(Lit.int .u8 z).wf=true):
 zac w (some x) n c ((zs.take n).map fun z=>z.toNat.toUInt8):=by
 have h:=ziV hl hm hz hcell;unfold zac
 have e:((zs.take n).map fun z=>z.toNat.toUInt8).map bv=(zs.take n).map (Value.int .u8):=by
  rw[List.map_map];apply List.map_congr_left;intro z hz';have hz2:=hw z (List.mem_of_mem_take hz');have hb:=bounds_u8 hz2;simp only[Function.comp_apply];rw[bv_of _ (by omega)];congr 1;omega
 rw[e];exact h
theorem zoe(w:World):zac w none 0 0 []:=Reads.nil w 1
end Go.Proofs.YtpicpebolghcfaaGreatDoor
namespace Go.Proofs.YtpicpebolghcfaaGreatDoor
open Go.RowKit Go.MapKept
open Go.ChangeMaps (setBlock)
def MapI(w:World)(b:Nat)(q:IntKind)(M:List (Int×Value)):Prop:=
 ∃es clock,w.heap[b]?=some (.map es clock)/\es.toList.map (fun e=>(e.key,e.val))=M.map (fun p=>(Value.int q p.1,p.2))
def findI(k:Int):List (Int×Value)->Nat->Option (Nat×Value)
 |[],_=>none
 |p::r,i=>if k=p.1 then some (i,p.2)else findI k r (i+1)
def valI(k:Int):List (Int×Value)->Option Value
 |[]=>none
 |p::r=>if k=p.1 then some p.2 else valI k r
theorem zgS(k:Int):∀(M:List (Int×Value))(i:Nat),(findI k M i).map (·.2)=valI k M
 |[],_=>rfl
 |p::r,i=>by
  unfold findI valI;split
  . rfl
  . exact zgS k r (i+1)
theorem zeV(q:IntKind)(k:Int):∀(es:List MapEntry)(M:List (Int×Value))(i:Nat),es.map (fun e=>(e.key,e.val))=M.map (fun p=>(Value.int q p.1,p.2))->
 Instr.findNow (.int q) (.int q k) es i=some (findI k M i)
 |[],[],_,_=>rfl
 |[],_::_,_,h=>by simp at h
 |_::_,[],_,h=>by simp at h
 |e::es,p::M,i,h=>by
  simp only[List.map_cons,List.cons.injEq,Prod.mk.injEq]at h;obtain⟨⟨h1,h2⟩,h3⟩:=h;have ih:=zeV q k es M (i+1) h3;unfold Instr.findNow;rw[h1];simp only[Instr.sameNow,if_true];unfold findI;by_cases hk:k=p.1
  . rw[if_pos hk,show(k==p.1)=true from by simpa using hk,h2]
  . rw[if_neg hk,show(k==p.1)=false from by simpa using hk]
    exact ih
section
variable {P:Program} {w w':World} {b:Nat} {q:IntKind} {M:List (Int×Value)} {t k e:TypeId}
theorem MapI.made(w:World)(q:IntKind):MapI (w.alloc (.map #[] 0)) w.heap.size q []:=⟨#[],0,(heap_alloc w _).1,rfl⟩
theorem MapI.look(h:MapI w b q M)(ht:P.underlying t=some (.map k e))(hk:P.underlying k=some (.int q)){z:Value}(hz:(zeroValue e).run P w=.ok z w)(x:Int):
 (Instr.lookup t (.map (some b)) (.int q x) false).run P w=.ok ((valI x M).getD z) w/\
 (Instr.lookup t (.map (some b)) (.int q x) true).run P w=.ok (.tuple #[(valI x M).getD z,.bool (valI x M).isSome]) w:=by
 obtain⟨es,clock,hb,hm⟩:=h;have hf:=zeV q x es.toList M 0 hm;have hr:=run_findKey (P:=P) (w:=w) (kt:=k) hk hf;have hv:=zgS x M 0;have hc:(Instr.checkKey es.isEmpty 10000 k (.int q x)).run P w=.ok () w:=run_checkKey hk (by simp[IsKey]) _ _;rcases hfi:findI x M 0 with _|⟨i,v⟩
 . rw[hfi]at hv hr
   simp only[Option.map_none]at hv;rw[<-hv];constructor<;>simp[Instr.lookup,run_underlying ht,Go.MapKept.run_getObj_map hb,hc,hr,hz,Result.andThen]
 . rw[hfi]at hv hr
   simp only[Option.map_some]at hv;rw[<-hv];constructor<;>simp[Instr.lookup,run_underlying ht,Go.MapKept.run_getObj_map hb,hc,hr,Result.andThen]
theorem MapI.put(h:MapI w b q M)(ht:P.underlying t=some (.map k e))(hk:P.underlying k=some (.int q)){x:Int}(hx:valI x M=none)(v:Value):
 ∃w',(Instr.mapUpdate t (.map (some b)) (.int q x) v).run P w=.ok () w'/\MapI w' b q (M++[(x,v)])/\w.grownBy w' (some b):=by
 obtain⟨es,clock,hb,hm⟩:=h;have hf:=zeV q x es.toList M 0 hm;have hv:=zgS x M 0;rw[hx]at hv
 have hn:findI x M 0=none:=by
  rcases hfi:findI x M 0 with _|⟨i,v⟩
  . rfl
  . rw[hfi]at hv;simp at hv
 rw[hn]at hf;have hr:=run_findKey (P:=P) (w:=w) (kt:=k) hk hf;have hc:(Instr.checkKey false 10000 k (.int q x)).run P w=.ok () w:=run_checkKey hk (by simp[IsKey]) _ _;refine⟨setBlock w b (.map (es.push {key:=.int q x,val:=v,born:=clock}) (clock+1)),?_,?_,?_⟩
 . simp[Instr.mapUpdate,run_underlying ht,Go.MapKept.run_getObj_map hb,hc,hr,Go.MapKept.run_setObj_map _ hb,Result.andThen,setBlock]
 . refine⟨_,_,(heap_set hb).1,?_⟩
   simp[hm]
 . exact⟨rfl,rfl,rfl,by simp[setBlock],fun r _ hr=>(heap_set hb).2 r (fun e=>hr (by rw[e]))⟩
theorem Ext.put{w0:World}(h:Ext w0 w)(hg:w.grownBy w' (some b))(hb:w0.heap.size<=b):Ext w0 w':=
 Below.grown h hg h.size (fun k hk=>by cases hk;exact hb)
theorem ziX{ops:Array Oper}{rest:List Oper}{o:Oper}{a:Act}{Q:Exit->Act->World->Prop}(hgd:o.guard=none)(m x v:Operand)(ho:o.op=.insert t m x v)(ht:P.underlying t=some (.map k e))(hk:P.underlying k=some (.int q))(hm:a.eval m=.map (some b))(h:MapI w b q M){n:Int}{val:Value}(hx:a.eval x=.int q n)(hv:a.eval v=val)(hn:valI n M=none)(kk:∀w',MapI w' b q (M++[(n,val)])->w.grownBy w' (some b)->wpList P ops Q rest (a.put o.dst undef) w'):wpList P ops Q (o::rest) a w:=by
 refine wpList_plain hgd fun K' hK'=> ?_
 obtain⟨w',hrun,r1,r2⟩:=h.put ht hk hn val;unfold Oper.wp;simp[execOp,ho,hm,hx,hv,hrun,Result.andThen];exact hK' _ _ (kk w' r1 r2)
end
end Go.Proofs.YtpicpebolghcfaaGreatDoor
namespace Go.Proofs.YtpicpebolghcfaaGreatDoor
open Go.RowKit Go.MapKept
open Go.ChangeMaps (setBlock modify_eq_set)
open Go.WideElems (findIdx_born findIdx_arr set_self)
structure KeyB(P:Program)(k:TypeId){K:Type}(enc:K->Value)(ok:K->Prop):Prop where
 keyed:Maps.Keyed P k
 key:∀x,ok x->∃l,keyOf P k (enc x)=some l
 inj:∀x y,enc x=enc y->x=y
variable{K:Type}
def MapV(w:World)(b:Nat)(enc:K->Value)(ok:K->Prop)(M:List (K×Value)):Prop:=
 ∃(es:Array MapEntry)(clock:Nat),w.heap[b]?=some (.map es clock)/\Stamped es clock/\es.toList.map (fun e=>(e.key,e.val))=M.map (fun p=>(enc p.1,p.2))/\∀p∈M,ok p.1
def MapE(w:World)(b:Nat)(enc:K->Value)(ok:K->Prop)(M:List (K×Value))(x:K)(st:Nat):Prop:=
 ∃(es:Array MapEntry)(clock j:Nat)(e0:MapEntry),w.heap[b]?=some (.map es clock)/\Stamped es clock/\es.toList.map (fun e=>(e.key,e.val))=M.map (fun p=>(enc p.1,p.2))/\(∀p∈M,ok p.1)/\es[j]?=some e0/\e0.born=st/\e0.key=enc x
section
variable {K:Type} [DecidableEq K]
def getV(x:K):List (K×Value)->Option Value
 |[]=>none
 |p::r=>if p.1=x then some p.2 else getV x r
def putV(x:K)(v:Value):List (K×Value)->List (K×Value)
 |[]=>[(x,v)]
 |p::r=>if p.1=x then(x,v)::r else p::putV x v r
theorem zbQ{x:K}:∀{M:List (K×Value)},(∀p∈M,p.1≠x)->getV x M=none
 |[],_=>rfl
 |p::r,h=>by
  unfold getV;rw[if_neg (h p (.head _))];exact zbQ (fun q hq=>h q (.tail _ hq))
theorem zdN(x:K)(v:Value):∀M:List (K×Value),getV x (putV x v M)=some v
 |[]=>by simp[putV,getV]
 |p::r=>by
  unfold putV;split
  . simp[getV]
  . rename_i h
    unfold getV;rw[if_neg h];exact zdN x v r
theorem ziY(x:K)(v z:Value):∀M:List (K×Value),putV x v (putV x z M)=putV x v M
 |[]=>by simp[putV]
 |p::r=>by
  by_cases h:p.1=x
  . simp[putV,h]
  . simp[putV,h,ziY x v z r]
theorem zet{x:K}{v:Value}:∀{M:List (K×Value)},(∀p∈M,p.1≠x)->putV x v M=M++[(x,v)]
 |[],_=>rfl
 |p::r,h=>by
  unfold putV;rw[if_neg (h p (.head _)),zet (fun q hq=>h q (.tail _ hq))];rfl
theorem zjC{x:K}{v:Value}:∀{M:List (K×Value)},getV x M=some v->putV x v M=M
 |[],h=>by simp[getV]at h
 |p::r,h=>by
  unfold getV at h;unfold putV;split
  . rename_i he
    rw[if_pos he]at h;cases h;rw[<-he]
  . rename_i he
    rw[if_neg he]at h;rw[zjC h]
theorem zgT{ok:K->Prop}{x:K}(hx:ok x)(v:Value):∀{M:List (K×Value)},(∀p∈M,ok p.1)->∀p∈putV x v M,ok p.1
 |[],_,p,hp=>by
  simp only[putV,List.mem_singleton]at hp;subst hp;exact hx
 |q::r,h,p,hp=>by
  unfold putV at hp;split at hp
  . rcases List.mem_cons.1 hp with rfl|hp
    . exact hx
    . exact h p (.tail _ hp)
  . rcases List.mem_cons.1 hp with rfl|hp
    . exact h _ (.head _)
    . exact zgT hx v (fun q' hq'=>h q' (.tail _ hq')) p hp
theorem zgU{P:Program}{k:TypeId}{enc:K->Value}{ok:K->Prop}(B:KeyB P k enc ok){es:List MapEntry}{M:List (K×Value)}(hm:es.map (fun e=>(e.key,e.val))=M.map (fun p=>(enc p.1,p.2)))(hok:∀p∈M,ok p.1)(hd:(es.map (·.key)).Nodup){x:K}(hx:ok x)(w:World):
 ((Instr.findKey k (enc x) es).run P w=.ok none w/\(∀e∈es,e.key≠enc x)/\(∀p∈M,p.1≠x))\/
 ∃j e,(Instr.findKey k (enc x) es).run P w=.ok (some (j,e.val)) w/\es[j]?=some e/\e.key=enc x/\getV x M=some e.val:=by
 obtain⟨l,hl⟩:=B.key x hx
 have hkeys:∀e∈es,∃l,keyOf P k e.key=some l:=by
  intro e he;have:(e.key,e.val)∈M.map (fun p=>(enc p.1,p.2)):=by rw[<-hm];exact List.mem_map.2 ⟨e,he,rfl⟩
  obtain⟨p,hp,e1⟩:=List.mem_map.1 this;simp only[Prod.mk.injEq]at e1;obtain⟨l',hl'⟩:=B.key p.1 (hok p hp);exact⟨l',by rw[<-e1.1];exact hl'⟩
 rcases B.keyed.find w hl es hkeys with⟨h1,h2⟩|⟨j,e,h1,h2,h3⟩
 . refine .inl ⟨h1,h2,fun p hp e1=> ?_⟩
   have:(enc p.1,p.2)∈es.map (fun e=>(e.key,e.val)):=by rw[hm];exact List.mem_map.2 ⟨p,hp,rfl⟩
   obtain⟨e,he,e2⟩:=List.mem_map.1 this;simp only[Prod.mk.injEq]at e2;exact h2 e he (by rw[e2.1,e1])
 . refine .inr ⟨j,e,h1,h2,h3,?_⟩
   have aux:∀(es:List MapEntry)(M:List (K×Value))(j:Nat),es.map (fun e=>(e.key,e.val))=M.map (fun p=>(enc p.1,p.2))->(es.map (·.key)).Nodup->es[j]?=some e->getV x M=some e.val:=by
    intro es
    induction es with
    |nil=>intro M j _ _ hj;simp at hj
    |cons a r ih=>
     intro M j hM hN hj
     cases M with
     |nil=>simp at hM
     |cons p R=>
      simp only[List.map_cons,List.cons.injEq,Prod.mk.injEq]at hM;simp only[List.map_cons,List.nodup_cons]at hN
      cases j with
      |zero=>
       simp only[List.getElem?_cons_zero,Option.some.injEq]at hj;subst hj;unfold getV;rw[if_pos (B.inj _ _ (by rw[<-hM.1.1,h3])),hM.1.2]
      |succ j=>
       simp only[List.getElem?_cons_succ]at hj;unfold getV;rw[if_neg]
       . exact ih R j hM.2 hN.2 hj
       . intro e1
         refine hN.1 (List.mem_map.2 ⟨e,List.mem_of_getElem? hj,?_⟩);rw[h3,hM.1.1,e1]
   exact aux es M j hm hd h2
theorem zkL{enc:K->Value}(hinj:∀x y,enc x=enc y->x=y){x:K}{v:Value}:∀{es:List MapEntry}{M:List (K×Value)}{j:Nat}{e:MapEntry},
 es.map (fun e=>(e.key,e.val))=M.map (fun p=>(enc p.1,p.2))->(es.map (·.key)).Nodup->es[j]?=some e->e.key=enc x->
 (es.modify j (fun e=>{e with key:=enc x,val:=v})).map (fun e=>(e.key,e.val))=(putV x v M).map (fun p=>(enc p.1,p.2))
 |[],_,_,_,_,_,h,_=>by simp at h
 |a::r,[],_,_,h,_,_,_=>by simp at h
 |a::r,p::R,0,e,hM,hN,hj,hk=>by
  simp only[List.map_cons,List.cons.injEq,Prod.mk.injEq]at hM;simp only[List.getElem?_cons_zero,Option.some.injEq]at hj;subst hj;have:p.1=x:=hinj _ _ (by rw[<-hM.1.1,hk]);unfold putV;rw[if_pos this];simp[List.modify_zero_cons,hM.2]
 |a::r,p::R,j+1,e,hM,hN,hj,hk=>by
  simp only[List.map_cons,List.cons.injEq,Prod.mk.injEq]at hM;simp only[List.map_cons,List.nodup_cons]at hN;simp only[List.getElem?_cons_succ]at hj
  have:¬p.1=x:=by
   intro e1;refine hN.1 (List.mem_map.2 ⟨e,List.mem_of_getElem? hj,?_⟩);rw[hk,hM.1.1,e1]
  unfold putV;rw[if_neg this];simp only[List.modify_succ_cons,List.map_cons,hM.1.1,hM.1.2,List.cons.injEq,true_and];exact zkL hinj hM.2 hN.2 hj hk
end
section
variable {K:Type} {w w':World} {b:Nat} {enc:K->Value} {ok:K->Prop} {M:List (K×Value)}
theorem MapV.lt(h:MapV w b enc ok M):b<w.heap.size:=by
 obtain⟨es,clock,hb,_⟩:=h;exact(Array.getElem?_eq_some_iff.1 hb).1
theorem MapV.same(h:MapV w b enc ok M)(hE:w'.heap[b]?=w.heap[b]?):MapV w' b enc ok M:=by
 obtain⟨es,clock,hb,h⟩:=h;exact⟨es,clock,hE.trans hb,h⟩
theorem MapV.up(h:MapV w b enc ok M)(hE:Ext w w'):MapV w' b enc ok M:=h.same (hE.block b h.lt)
theorem MapE.map{x:K}{st:Nat}(h:MapE w b enc ok M x st):MapV w b enc ok M:=by
 obtain⟨es,clock,_,_,hb,h1,h2,h3,_⟩:=h;exact⟨es,clock,hb,h1,h2,h3⟩
theorem MapV.made(w:World)(enc:K->Value)(ok:K->Prop):MapV (w.alloc (.map #[] 0)) w.heap.size enc ok []:=⟨#[],0,(heap_alloc w _).1,stamped_empty 0,rfl,by simp⟩
end
theorem zbR(w:World)(b:Nat)(o:Obj){o':Obj}(hb:w.heap[b]?=some o'):w.grownBy (setBlock w b o) (some b):=
 ⟨rfl,rfl,rfl,by simp[setBlock],fun r _ hr=>(heap_set hb).2 r (fun e=>hr (by rw[e]))⟩
theorem Ext.into{w0 w w':World}{b:Nat}(h:Ext w0 w)(hg:w.grownBy w' (some b))(hb:w0.heap.size<=b):Ext w0 w':=
 Below.grown h hg h.size (fun k hk=>by cases hk;exact hb)
section
variable {K:Type} [DecidableEq K] {P:Program} {w w':World} {b:Nat} {enc:K->Value} {ok:K->Prop} {M:List (K×Value)} {t k e:TypeId}
theorem MapV.look(h:MapV w b enc ok M)(B:KeyB P k enc ok)(ht:P.underlying t=some (.map k e)){z:Value}(hz:∀u,(zeroValue e).run P u=.ok z u){x:K}(hx:ok x):
 (Instr.lookup t (.map (some b)) (enc x) false).run P w=.ok ((getV x M).getD z) w/\
 (Instr.lookup t (.map (some b)) (enc x) true).run P w=.ok (.tuple #[(getV x M).getD z,.bool (getV x M).isSome]) w:=by
 obtain⟨es,clock,hb,hs,hm,hok⟩:=h;obtain⟨l,hl⟩:=B.key x hx;have hc:=fun em=>B.keyed.check w em hl
 rcases zgU B hm hok hs.2.2 hx w with⟨h1,_,h2⟩|⟨j,e,h1,_,_,h2⟩
 . rw[zbQ h2]
   constructor<;>simp[Instr.lookup,run_underlying ht,Go.MapKept.run_getObj_map hb,hc,h1,hz,Result.andThen]
 . rw[h2]
   constructor<;>simp[Instr.lookup,run_underlying ht,Go.MapKept.run_getObj_map hb,hc,h1,Result.andThen]
theorem MapV.put(h:MapV w b enc ok M)(B:KeyB P k enc ok)(ht:P.underlying t=some (.map k e)){x:K}(hx:ok x)(v:Value):
 ∃w',(Instr.mapUpdate t (.map (some b)) (enc x) v).run P w=.ok () w'/\MapV w' b enc ok (putV x v M)/\w.grownBy w' (some b):=by
 obtain⟨es,clock,hb,hs,hm,hok⟩:=h;obtain⟨l,hl⟩:=B.key x hx;have hc:=fun em=>B.keyed.check w em hl
 rcases zgU B hm hok hs.2.2 hx w with⟨h1,h3,h2⟩|⟨j,e0,h1,h4,h3,h2⟩
 . refine⟨setBlock w b (.map (es.push {key:=enc x,val:=v,born:=clock}) (clock+1)),?_,⟨_,_,(heap_set hb).1,stamped_push hs h3,?_,zgT hx v hok⟩,zbR w b _ hb⟩
   . simp[Instr.mapUpdate,run_underlying ht,Go.MapKept.run_getObj_map hb,hc,h1,Go.MapKept.run_setObj_map _ hb,Result.andThen,setBlock]
   . rw[zet h2]
     simp[hm]
 . have hj:es[j]?=some e0:=by simpa using h4
   refine⟨setBlock w b (.map (es.modify j (fun e=>{e with key:=enc x,val:=v})) clock),?_,⟨_,_,(heap_set hb).1,stamped_modify hs j _ (fun _ _=>rfl) (fun e' he' hj'=> ?_),?_,zgT hx v hok⟩,zbR w b _ hb⟩
   . simp[Instr.mapUpdate,run_underlying ht,Go.MapKept.run_getObj_map hb,hc,h1,hj,h3,B.keyed.stays w hl,Go.MapKept.run_setObj_map _ hb,Result.andThen,setBlock]
   . rw[hj]at hj'
     cases hj';exact h3.symm
   . rw[Array.toList_modify]
     exact zkL B.inj hm hs.2.2 h4 h3
theorem MapV.entry(h:MapV w b enc ok M)(B:KeyB P k enc ok)(ht:P.underlying t=some (.map k e)){z:Value}(hz:∀u,(zeroValue e).run P u=.ok z u){x:K}(hx:ok x):
 ∃st w',(Instr.mapEntry t (.map (some b)) (enc x)).run P w=.ok (.tuple #[(getV x M).getD z,.int .i64 (st:Nat)]) w'/\MapE w' b enc ok (putV x ((getV x M).getD z) M) x st/\w.grownBy w' (some b):=by
 obtain⟨es,clock,hb,hs,hm,hok⟩:=h;obtain⟨l,hl⟩:=B.key x hx;have hc:=fun em=>B.keyed.check w em hl
 rcases zgU B hm hok hs.2.2 hx w with⟨h1,h3,h2⟩|⟨j,e0,h1,h4,h3,h2⟩
 . rw[zbQ h2,Option.getD_none]
   refine⟨clock,setBlock w b (.map (es.push {key:=enc x,val:=z,born:=clock}) (clock+1)),?_,⟨_,_,es.size,_,(heap_set hb).1,stamped_push hs h3,?_,zgT hx z hok,by simp;rfl,rfl,rfl⟩,zbR w b _ hb⟩
   . simp[Instr.mapEntry,run_underlying ht,Go.MapKept.run_getObj_map hb,hc,h1,hz,Go.MapKept.run_setObj_map _ hb,Result.andThen,setBlock,goInt]
   . rw[zet h2]
     simp[hm]
 . have hj:es[j]?=some e0:=by simpa using h4
   have hsame:es.modify j (fun e=>{e with key:=enc x})=es:=by
    apply Array.ext';rw[Array.toList_modify,modify_eq_set _ _ _ _ h4];have:({e0 with key:=enc x}:MapEntry)=e0:=by rw[<-h3]
    rw[this];exact set_self _ _ _ h4
   rw[h2,Option.getD_some,zjC h2];refine⟨e0.born,setBlock w b (.map es clock),?_,⟨es,clock,j,e0,(heap_set hb).1,hs,hm,hok,hj,rfl,h3⟩,zbR w b _ hb⟩;simp[Instr.mapEntry,run_underlying ht,Go.MapKept.run_getObj_map hb,hc,h1,hj,h3,B.keyed.stays w hl,hsame,Go.MapKept.run_setObj_map _ hb,Result.andThen,setBlock,goInt]
theorem MapE.store{x:K}{st:Nat}(h:MapE w b enc ok M x st)(hinj:∀x y,enc x=enc y->x=y)(hx:ok x)(v:Value):
 ∃w',(Instr.entryStore t (.map (some b)) (.int .i64 (st:Nat)) v).run P w=.ok () w'/\MapV w' b enc ok (putV x v M)/\w.grownBy w' (some b):=by
 obtain⟨es,clock,j,e0,hb,hs,hm,hok,hj,hst,hk⟩:=h;subst hst;have h4:es.toList[j]?=some e0:=by simpa using hj
 have hidx:es.findIdx? (fun e=>((e.born:Nat):Int)==((e0.born:Nat):Int))=some j:=by
  rw[findIdx_arr];exact findIdx_born hs.2.1 h4
 have hmod:es.modify j (fun e=>{e with val:=v})=es.modify j (fun e'=>{e' with key:=enc x,val:=v}):=by
  apply Array.ext';rw[Array.toList_modify,Array.toList_modify,modify_eq_set _ _ _ _ h4,modify_eq_set _ _ _ _ h4,<-hk]
 refine⟨setBlock w b (.map (es.modify j (fun e=>{e with key:=enc x,val:=v})) clock),?_,⟨_,_,(heap_set hb).1,stamped_modify hs j _ (fun _ _=>rfl) (fun e' he' hj'=> ?_),?_,zgT hx v hok⟩,zbR w b _ hb⟩
 . simp[Instr.entryStore,Go.MapKept.run_getObj_map hb,asInt,asIntOf,hidx,hmod,Go.MapKept.run_setObj_map _ hb,Result.andThen,setBlock]
 . rw[hj]at hj'
   cases hj';exact hk.symm
 . rw[Array.toList_modify]
   exact zkL hinj hm hs.2.2 h4 hk
end
theorem zkM{P:Program}{k:TypeId}(hk:P.underlying k=some .string):KeyB P k (fun s:ByteArray=>Value.string s) (fun s=>s.size<=maxLen):=
 ⟨Maps.string_keyed hk,fun x hx=>⟨_,by simp[keyOf,hk,mapKey,hx];rfl⟩,fun x y h=>by cases h;rfl⟩
end Go.Proofs.YtpicpebolghcfaaGreatDoor
