/- Contracts of Go's stable sort of whole numbers, in place. -/
import Derived.Test.YtpicpebolghcfaaGreatDoorQlW14o
import Derived.BigRegion
import Derived.Deep.CutBlock
import Derived.StillTailTactics

set_option linter.unusedVariables false
namespace Go.Proofs.YtpicpebolghcfaaGreatDoor
open Go.RowKit
section
variable {w0 w w':World} {e:TypeId} {g n c:Nat} {ys:List Nat}
end
def keyF(fs:List zab)(i:Nat):Int:=((fs[i]?).map (·.number)).getD 0
variable{f:zab}{i:Nat}{fs:List zab}
theorem zgf(h:fs[i]?=some f):keyF fs i=f.number:=by unfold keyF;rw[h];rfl
def zaz(f:zab)(bs:List UInt8)(v:ViewD):List Nat:=
 if v.run=true then(zaD f.kind (zak bs v)).1 else if zaf f.kind=true then[(readS f.kind (zak bs v)).1]else[]
def zaj(f:zab)(bs:List UInt8)(v:ViewD):List (List UInt8):=
 if v.run=true then[]else if zaf f.kind=true then[]else[zak bs v]
variable{α:Type}
def lastO(l:List α):List α:=l.drop (l.length - 1)
def zrk(f:zab)(bs:List UInt8)(vs:List ViewD):List Nat:=if f.rep=true then vs.flatMap (zaz f bs)else lastO (vs.flatMap (zaz f bs))
def zdr(f:zab)(bs:List UInt8)(vs:List ViewD):List (List UInt8):=
 if f.rep=true then vs.flatMap (zaj f bs)else if f.kind=17 then[(vs.flatMap (zaj f bs)).flatten]else lastO (vs.flatMap (zaj f bs))
def zqI(sub:Nat->List UInt8->MsgT)(f:zab)(bs:List UInt8)(vs:List ViewD):Option ValT:=
 let ps:=zdr f bs vs;let u:ValT:=⟨(),(),(),f.number,zrk f bs vs,if f.kind=17 then[]else ps.map textO,if f.kind=17 then ps.map (sub f.of_.toNat)else[]⟩
 if u.words.length+u.texts.length+u.subs.length=0 then none else some u
def zah(L:List ViewD)(i:Nat):List ViewD:=L.filter fun v=>v.field==(i:Int)
def zbS(sub:Nat->List UInt8->MsgT)(fs:List zab)(bs:List UInt8)(L:List ViewD)(i:Nat):Option ValT:=
 match fs[i]? with
 |none=>none
 |some f=>if zah L i=[]then none else zqI sub f bs (zah L i)
def ofM(sub:Nat->List UInt8->MsgT)(S:List MsgD)(m:Nat)(bs:List UInt8):MsgT:=match S[m]? with
 |none=>.mk () () [] []
 |some M=>.mk () () ((sortK (keyF M.fields) M.fields.length).filterMap (zbS sub M.fields bs (zae M.fields bs).1))
  (((zae M.fields bs).1.filter fun v=>decide (v.field<0)).map fun v=>textO (spanB bs v.r.f v.r.t))
def ofV(S:List MsgD):Nat->Nat->List UInt8->MsgT
 |0=>ofM (fun _ _=>.mk () () [] []) S
 |d+1=>ofM (ofV S d) S
variable{v:ViewD}{k:Nat}{L:List ViewD}
theorem znz(h:L[k]?=some v)(hv:v.field=(i:Int)):zah (L.take (k+1)) i=zah (L.take k) i++[v]:=by
 unfold zah;rw[zaC _ _ _ h,List.filter_append];simp[hv]
theorem zoW(h:L[k]?=some v)(hv:¬v.field=(i:Int)):zah (L.take (k+1)) i=zah (L.take k) i:=by
 unfold zah;rw[zaC _ _ _ h,List.filter_append];simp[hv]
theorem zki(l:List α):(lastO l).length<=1:=by
 unfold lastO;rw[List.length_drop];omega
theorem zeE(l:List α)(x:α):lastO (l++[x])=[x]:=by
 unfold lastO;simp
def zeO(v:ViewD):Nat:=v.r.t - v.r.a+1
def zbJ(L:List ViewD):Nat:=(L.map zeO).sum
theorem zcu(L:List ViewD)(v:ViewD):zbJ (v::L)=zeO v+zbJ L:=rfl
theorem zfC(q:ViewD->Bool):∀L:List ViewD,zbJ (L.filter q)<=zbJ L
 |[]=>Nat.le_refl _
 |v::L=>by
  have ih:=zfC q L;rw[zcu];by_cases h:q v=true
  . rw[List.filter_cons_of_pos h,zcu]
    omega
  . rw[List.filter_cons_of_neg h]
    omega
theorem zls(L:List ViewD)(k:Nat):zbJ (L.take k)<=zbJ L:=by
 have h:zbJ L=zbJ (L.take k)+zbJ (L.drop k):=by
  unfold zbJ;rw[<-List.sum_append,<-List.map_append,List.take_append_drop]
 omega
theorem znA(h:v∈L):zeO v<=zbJ L:=by
 induction L with
 |nil=>cases h
 |cons u L ih=>
  rw[zcu];rcases List.mem_cons.1 h with rfl|h
  . omega
  . have:=ih h
    omega
theorem znB(l:List zab)(bs:List UInt8):∀(m p:Nat),bs.length - p<=m->p<=bs.length->zbJ (scan (lookV l bs) ViewD.to bs.length p).1<=bs.length - p:=by
 intro m
 induction m with
 |zero=>
  intro p hm hp;rw[zaE (by omega)];exact Nat.zero_le _
 |succ m ih=>
  intro p hm hp;by_cases he:p=bs.length
  . rw[zaE (by omega)]
    exact Nat.zero_le _
  . rcases hs:lookV l bs p with⟨v,C⟩
    have hlt:p<bs.length:=by omega
    by_cases hC:C=0
    . subst hC
      have h1:=zaB l bs p hlt (by rw[hs]);rw[hs]at h1;simp only at h1;have hn:=zci (zbW hs).1;rw[zbE (zaB l bs) hlt hs];have:=ih v.to (by omega) h1.2;have hto:v.to=v.r.t:=rfl;have hw:zeO v=v.r.t - v.r.a+1:=rfl;have hto2:=h1.2;rw[hto]at this hto2;unfold pre;split
      . have:zbJ (v::(scan (lookV l bs) ViewD.to bs.length v.to).1)<=bs.length - p:=by
         rw[zcu,hto];omega
        exact this
      . exact Nat.zero_le _
    . rw[zaR hlt hs hC]
      exact Nat.zero_le _
theorem zej(l:List zab)(bs:List UInt8):zbJ (zae l bs).1<=bs.length:=by
 have:=znB l bs bs.length 0 (by omega) (Nat.zero_le _);exact Nat.le_trans this (by omega)
theorem zek(L:List ViewD)(i:Nat):zbJ (zah L i)<=zbJ L:=zfC _ L
theorem zfD(k:Int)(bs:List UInt8):(zaD k bs).1.length<=bs.length+1:=by
 have h:=zhz k bs;unfold zaD;split
 . simpa using h
 . simp
theorem zlt(f:zab)(bs:List UInt8)(v:ViewD)(h:v.r.t<=bs.length):(zaz f bs v).length<=zeO v:=by
 unfold zaz;split
 . have h1:=zfD f.kind (zak bs v)
   have h2:(zak bs v).length=v.r.t - v.r.a:=zax bs h;unfold zeO;omega
 . split
   . unfold zeO
     simp
   . simp
theorem zmz(f:zab)(bs:List UInt8):∀L:List ViewD,(∀v∈L,v.r.t<=bs.length)->(L.flatMap (zaz f bs)).length<=zbJ L
 |[],_=>Nat.zero_le _
 |v::L,h=>by
  have ih:=zmz f bs L (fun u hu=>h u (List.mem_cons_of_mem _ hu));have:=zlt f bs v (h v List.mem_cons_self);rw[List.flatMap_cons,List.length_append,zcu];omega
theorem zkj(f:zab)(bs:List UInt8)(v:ViewD)(h:v.r.t<=bs.length):(zaj f bs v).length+(zaj f bs v).flatten.length<=zeO v/\(zaj f bs v).length<=1:=by
 have h2:(zak bs v).length=v.r.t - v.r.a:=zax bs h;unfold zaj zeO;split
 . simp
 . split
   . simp
   . simp
     omega
theorem zhI(f:zab)(bs:List UInt8):∀L:List ViewD,(∀v∈L,v.r.t<=bs.length)->(L.flatMap (zaj f bs)).length+(L.flatMap (zaj f bs)).flatten.length<=zbJ L/\(L.flatMap (zaj f bs)).length<=L.length
 |[],_=>⟨Nat.zero_le _,Nat.zero_le _⟩
 |v::L,h=>by
  have ih:=zhI f bs L (fun u hu=>h u (List.mem_cons_of_mem _ hu));have:=zkj f bs v (h v List.mem_cons_self);rw[List.flatMap_cons,List.length_append,zcu,List.flatten_append,List.length_append,List.length_cons];omega
variable{x bs:List UInt8}
theorem zmA(h:∀v∈L,v.r.a<=v.r.t/\v.r.t<=bs.length)(hx:x∈L.flatMap (zaj f bs)):x.length+1<=zbJ L:=by
 obtain⟨v,hv,hx⟩:=List.mem_flatMap.1 hx;have h2:(zak bs v).length=v.r.t - v.r.a:=zax bs (h v hv).2;have h3:=znA hv;unfold zaj at hx;unfold zeO at h3;split at hx
 . cases hx
 . split at hx
   . cases hx
   . rw[List.mem_singleton]at hx
     subst hx;omega
theorem zoX{l:List α}{x:α}(h:x∈lastO l):x∈l:=List.mem_of_mem_drop h
theorem zkk(hn:L≠ [])(h:∀v∈L,v.r.a<=v.r.t/\v.r.t<=bs.length)(hw:zbJ L<=bs.length)(hk:f.kind=17->∀v∈L,v.run=false)(hx:x∈zdr f bs L):
 x.length+1<=bs.length:=by
 unfold zdr at hx;split at hx
 . exact Nat.le_trans (zmA h hx) hw
 . split at hx
   . rename_i h17
     rw[List.mem_singleton]at hx;subst hx;have h1:=zhI f bs L (fun v hv=>(h v hv).2);rcases L with _|⟨v,L⟩
     . exact absurd rfl hn
     . have hr:=hk h17 v List.mem_cons_self
       have hp:zaj f bs v=[zak bs v]:=by
        unfold zaj;rw[hr,if_neg (by simp),if_neg];rw[h17]
        decide
       rw[List.flatMap_cons,hp]at h1⊢;have h2:=h1.1;simp only[List.length_append,List.length_cons,List.length_nil]at h2;omega
   . exact Nat.le_trans (zmA h (zoX hx)) hw
def ziG(f:zab)(run:Bool)(val:List UInt8):List Nat:=
 if run=true then(zaD f.kind val).1 else if zaf f.kind=true then[(readS f.kind val).1]else[]
def zgg(f:zab)(run:Bool)(val:List UInt8):List (List UInt8):=if run=true then[]else if zaf f.kind=true then[]else[val]
theorem zoY(f:zab)(bs:List UInt8)(v:ViewD):zaz f bs v=ziG f v.run (zak bs v):=rfl
theorem znC(f:zab)(bs:List UInt8)(v:ViewD):zaj f bs v=zgg f v.run (zak bs v):=rfl
def zaG(f:zab)(ws:List Nat):List Nat:=if f.rep=true then ws else lastO ws
def zaJ(f:zab)(ps:List (List UInt8)):List (List UInt8):=if f.rep=true then ps else if f.kind=17 then[ps.flatten]else lastO ps
def zaX(sub:Nat->List UInt8->MsgT)(f:zab)(ws:List Nat)(ps:List (List UInt8)):ValT:=
 ⟨(),(),(),f.number,zaG f ws,if f.kind=17 then[]else(zaJ f ps).map textO,if f.kind=17 then(zaJ f ps).map (sub f.of_.toNat)else[]⟩
variable{τ:Type}
def manyU{σ:Type}(u:ValG τ σ):Nat:=u.words.length+u.texts.length+u.subs.length
theorem zbT(sub:Nat->List UInt8->MsgT)(f:zab)(bs:List UInt8)(vs:List ViewD):
 zqI sub f bs vs=if manyU (zaX sub f (vs.flatMap (zaz f bs)) (vs.flatMap (zaj f bs)))=0 then none else some (zaX sub f (vs.flatMap (zaz f bs)) (vs.flatMap (zaj f bs))):=rfl
theorem znD(u:ValG τ (MsgX τ)):manyU (bareV u)=manyU u:=by
 unfold manyU bareV;simp
theorem znE(f:zab)(bs:List UInt8)(vs:List ViewD):zaJ f (vs.flatMap (zaj f bs))=zdr f bs vs:=rfl
theorem zeP{β:Type}{l:List α}{x:α}(g:α->Option β)(h:l[k]?=some x):(l.take (k+1)).filterMap g=(l.take k).filterMap g++(g x).toList:=by
 rw[zaC _ _ _ h,List.filterMap_append];rcases hg:g x with _|y
 . simp[hg]
 . simp[hg]
theorem zoZ(h:v∈(zae fs bs).1):
 v.field= -1\/∃(k:Nat)(f:zab),v.field=(k:Int)/\fs[k]?=some f/\((v.run=true/\f.rep=true/\zaf f.kind=true)\/(v.run=false/\kindB f.kind=true)):=by
 have h2:=(zbI fs bs v h).2;rcases zaL (numP (v.r.n:Int)) fs with⟨h1,_⟩|⟨k,f,h1,hf,_⟩
 . rw[zbL h1]at h2
   injection h2 with h2 _;left;rw[<-h2]
 . rw[zbD h1 hf]at h2
   right;split at h2
   . rename_i hc
     injection h2 with h2 _;rw[Bool.and_eq_true,Bool.and_eq_true]at hc;exact⟨k,f,by rw[<-h2],hf,.inl ⟨by rw[<-h2],hc.1.1,hc.1.2⟩⟩
   . split at h2
     . rename_i hc
       injection h2 with h2 _;exact⟨k,f,by rw[<-h2],hf,.inr ⟨by rw[<-h2],hc.1⟩⟩
     . injection h2 with _ h2
       cases h2
theorem zbN(h:v∈(zae fs bs).1)(hi:v.field=(i:Int))(hf:fs[i]?=some f):(v.run=true/\f.rep=true/\zaf f.kind=true)\/(v.run=false/\kindB f.kind=true):=by
 rcases zoZ h with e|⟨k,f',e1,e2,e3⟩
 . omega
 . have hk:k=i:=by omega
   subst hk;rw[hf]at e2;cases e2;exact e3
theorem zdR(h:zaf f.kind=true)(l:List ViewD):l.flatMap (zaj f bs)=[]:=by
 rw[List.flatMap_eq_nil_iff];intro v _;unfold zaj;split
 . rfl
 . rfl
theorem zlu{P C:Nat}(hv:zae fs bs=(L,P,C))(hf:fs[i]?=some f)(h:zaf f.kind=false):(zah (L.take k) i).flatMap (zaz f bs)=[]:=by
 rw[List.flatMap_eq_nil_iff];intro v hm;have h1:v∈(zae fs bs).1:=by rw[hv];exact List.mem_of_mem_take (List.mem_filter.1 hm).1
 have h2:v.field=(i:Int):=by have:=(List.mem_filter.1 hm).2;simpa using this
 rcases zbN h1 h2 hf with⟨_,_,h3⟩|⟨h3,_⟩
 . rw[h]at h3
   cases h3
 . unfold zaz
   rw[h3,h];rfl
theorem zbC{k:Int}(h:zaf k=true):k≠17:=by
 unfold zaf at h;have:=of_decide_eq_true h;omega
section
variable {fs:List zab} {bs:List UInt8} {i:Nat} {f:zab} {sub sub':Nat->List UInt8->MsgT} {S:List MsgD}
theorem zbn{v:ViewD}(hv:v∈zah (zae fs bs).1 i):v∈(zae fs bs).1/\v.field=(i:Int)/\v.r.a<=v.r.t/\v.r.t<=bs.length:=by
 have h1:=(List.mem_filter.1 hv).1;have h2:=(List.mem_filter.1 hv).2;have h3:=zbO h1;exact⟨h1,by simpa using h2,h3.2.1,h3.2.2⟩
theorem zpa:zbJ (zah (zae fs bs).1 i)<=bs.length:=Nat.le_trans (zek _ i) (zej fs bs)
theorem zel(hf:fs[i]?=some f)(hne:zah (zae fs bs).1 i≠ []){x:List UInt8}(hx:x∈zdr f bs (zah (zae fs bs).1 i)):x.length+1<=bs.length:=by
 refine zkk hne (fun v hv=>(zbn hv).2.2) zpa (fun h17 v hv=> ?_) hx;rcases zbN (zbn hv).1 (zbn hv).2.1 hf with⟨_,_,q⟩|⟨q,_⟩
 . exact absurd h17 (zbC q)
 . exact q
theorem znF{L:List ViewD}{u:ValT}(h:zbS sub fs bs L i=some u):∃f,fs[i]?=some f/\zah L i≠ []/\u=zaX sub f ((zah L i).flatMap (zaz f bs)) ((zah L i).flatMap (zaj f bs))/\manyU u≠0:=by
 unfold zbS at h;split at h
 . cases h
 . rename_i f hf
   split at h
   . cases h
   . rename_i hne
     rw[zbT]at h;split at h
     . cases h
     . rename_i hm
       injection h with h;subst h;exact⟨f,hf,hne,rfl,hm⟩
theorem zlv{f:zab}{ws:List Nat}{ps:List (List UInt8)}(h:∀x∈zaJ f ps,sub f.of_.toNat x=sub' f.of_.toNat x):zaX sub f ws ps=zaX sub' f ws ps:=by
 unfold zaX;congr 1;split
 . exact List.map_congr_left h
 . rfl
theorem zhJ{m:Nat}(h:∀m' b',b'.length<bs.length->sub m' b'=sub' m' b'):ofM sub S m bs=ofM sub' S m bs:=by
 unfold ofM;split
 . rfl
 . rename_i M hM
   congr 1;refine congrArg (fun g=>List.filterMap g _) (funext fun i=> ?_);unfold zbS;split
   . rfl
   . rename_i f hf
     split
     . rfl
     . rename_i hne
       rw[zbT,zbT,zlv (sub:=sub) (sub':=sub') (f:=f)];intro x hx;rw[znE]at hx;have:=zel hf hne hx;exact h _ _ (by omega)
theorem zfE(S:List MsgD):∀(d d' m:Nat)(bs:List UInt8),bs.length<=d->bs.length<=d'->ofV S d m bs=ofV S d' m bs:=by
 intro d
 induction d with
 |zero=>
  intro d' m bs h1 h2;rcases d' with _|d'
  . rfl
  . exact zhJ (fun m' b' h=>by omega)
 |succ d ih=>
  intro d' m bs h1 h2;rcases d' with _|d'
  . exact zhJ (fun m' b' h=>by omega)
  . exact zhJ (fun m' b' h=>ih d' m' b' (by omega) (by omega))
end
section
variable {w0 w w' w'':World} {s:Nat->Prop}
theorem BlkT.stays{b:Nat}{t:TypeId}{cs:Array Value}(h:BlkT w b t cs)(k:Stays s w w')(hs:s b):BlkT w' b t cs:=(k.block b hs h.lt).trans h
theorem Own.new_lt{e:TypeId}{size n c b:Nat}{A:Option Addr}{xs:List Value}(h:Own w0 w e size A n c xs)(hb:(Value.slice A 0 0).ownBlock=some b):w0.heap.size<=b/\b<w.heap.size:=h.row.lt b (by rw[zaV A n c 0 0];exact hb)
end
structure ziH where
 b:Nat
 f:zab
 A:Option Addr
 c:Nat
 ws:List Nat
 B:Option Addr
 d:Nat
 vs:List BRow
section
variable {w0 w w':World} {s:Nat->Prop} {p p':ziH} {b:Nat}
end
section
variable {w0 w W w2:World} {p:ziH} {A':Option Addr} {c':Nat}
end
section
variable {w0 wr w':World} {base:Nat} {fs:List zab} {bs:List UInt8} {V V':Nat->List ViewD} {E:Nat->Option ziH} {R R':Nat->Prop} {s:Nat->Prop}
end
section
variable {w w':World} {bm:Nat} {E:Nat->Option ziH} {s:Nat->Prop}
end
section
variable {w0 w w' wb w3:World}
end
theorem Reads.row_uses{w0 w:World}{e:TypeId}{size n c b:Nat}{A:Option Addr}{xs:List Value}(hb:UsesA A n b)(h:Own w0 w e size A n c xs):(Value.slice A 0 0).ownBlock=some b:=by
 obtain⟨_,p,rfl,rfl⟩:=hb;rfl
def zbt(f:zab)(ps:List (List UInt8)):List ByteArray:=if f.kind=17 then[]else(zaJ f ps).map textO
def zdW(sub:Nat->List UInt8->MsgT)(f:zab)(ps:List (List UInt8)):List MsgT:=if f.kind=17/\f.rep=true then ps.map (sub f.of_.toNat)else[]
def zcl(f:zab)(ps:List (List UInt8)):List UInt8:=if f.kind=17/\f.rep=false then ps.flatten else[]
structure RIn(w1 wr:World)(f:zab)(ws:List Nat)(ts:List ByteArray)(js:List UInt8)(ys:List MsgR)(W:Option Addr)(wn wc:Nat)(T:Option Addr)(tn tc:Nat)(X:Option Addr)(xn xc:Nat)(J:Option Addr)(jn jc:Nat):Prop where
 fld:BlkT wr w1.heap.size 43 #[.string f.name,.int .i64 f.number,.int .i64 f.kind,.bool f.rep,.bool f.packed,.int .i64 f.of_]
 val:BlkT wr (w1.heap.size+1) 48 #[.int .i64 f.number,.slice W wn wc,.slice T tn tc,.slice X xn xc]
 words:Own w1 wr 68 1 W wn wc (ws.map uv)
 wordsL:wn=ws.length
 small:∀x∈ws,x<18446744073709551616
 texts:Own w1 wr 9 1 T tn tc (ts.map strV)
 textsL:tn=ts.length
 sizes:∀t∈ts,t.size<=maxLen
 subs:Own w1 wr 40 2 X xn xc (ys.flatMap treeC)
 subsL:xn=ys.length
 trees:∀y∈ys,zay wr y
 away:∀y∈ys,∀b,UsesT y b->w1.heap.size+2<=b/\(Value.slice X 0 0).ownBlock≠some b
 join:Own w1 wr 5 1 J jn jc (js.map bv)
 joinL:jn=js.length
section
variable {w1 wr w' w7 W0:World} {f:zab} {ws:List Nat} {ts:List ByteArray} {js:List UInt8} {ys:List MsgR} {W:Option Addr} {wn wc:Nat} {T:Option Addr} {tn tc:Nat} {X:Option Addr} {xn xc:Nat} {J:Option Addr} {jn jc:Nat}
theorem RIn.up(h:RIn w1 wr f ws ts js ys W wn wc T tn tc X xn xc J jn jc)(k:Ext wr w'):RIn w1 w' f ws ts js ys W wn wc T tn tc X xn xc J jn jc:=
 ⟨h.fld.up k,h.val.up k,h.words.up k,h.wordsL,h.small,h.texts.up k,h.textsL,h.sizes,h.subs.up k,h.subsL,fun y hy=>(h.trees y hy).up k,h.away,h.join.up k,h.joinL⟩
theorem RIn.reset(h:RIn w1 wr f ws ts js ys W wn wc T tn tc X xn xc J jn jc)(hy:ys=[]):
 RIn w1 ((wr.setCell ⟨w1.heap.size+1,1,none⟩ (.slice none 0 0)).setCell ⟨w1.heap.size+1,2,none⟩ (.slice none 0 0)) f [] [] js ys none 0 0 none 0 0 X xn xc J jn jc:=by
 subst hy;have hl:w1.heap.size<=w1.heap.size+1:=Nat.le_succ _;have h2:=h.val.set_ 1 (.slice none 0 0);have X1:=(h.words.ext.setCell (p:=⟨w1.heap.size+1,1,none⟩) hl (.slice none 0 0)).setCell (p:=⟨w1.heap.size+1,2,none⟩) hl (.slice none 0 0);refine⟨(h.fld.set_far 1 (by omega) _).set_far 2 (by omega) _,?_,Own.nil X1 _ _,rfl,(fun x hx=>by cases hx),Own.nil X1 _ _,rfl,(fun x hx=>by cases hx),?_,h.subsL,(fun y hy=>by cases hy),(fun y hy=>by cases hy),?_,h.joinL⟩
 . have:=h2.set_ 2 (.slice none 0 0)
   simpa using this
 . exact(h.subs.far h.val (by decide) hl 1 _).far h2 (by decide) hl 2 _
 . exact(h.join.far h.val (by decide) hl 1 _).far h2 (by decide) hl 2 _
theorem RIn.more_words(h:RIn w1 wr f ws ts js ys W wn wc T tn tc X xn xc J jn jc)(hy:ys=[])(E0:Ext wr W0){l:List Nat}{m:Nat}(hm:l.length=m)(hs:∀x∈l,x<18446744073709551616){A7:Option Addr}{c7:Nat}(own7:Own w1 w7 68 1 A7 (wn+m) c7 (ws.map uv++l.map uv))(g7:W0.grownBy w7 (Value.slice W wn wc).ownBlock):
 RIn w1 (w7.setCell ⟨w1.heap.size+1,1,none⟩ (.slice A7 (wn+m) c7)) f (ws++l) ts js ys A7 (wn+m) c7 T tn tc X xn xc J jn jc:=by
 subst hy;subst hm;have hl:w1.heap.size<=w1.heap.size+1:=Nat.le_succ _;have h0:=h.up E0;have hv:=h0.val.beside h0.words (by decide) g7;refine⟨(h0.fld.beside h0.words (by decide) g7).set_far 1 (by omega) _,?_,?_,by rw[List.length_append,h.wordsL],?_,?_,h.textsL,h.sizes,?_,h.subsL,(fun y hy=>by cases hy),(fun y hy=>by cases hy),?_,h.joinL⟩
 . have:=hv.set_ 1 (.slice A7 (wn+l.length) c7)
   simpa using this
 . rw[List.map_append]
   exact own7.far hv (by decide) hl 1 _
 . intro x hx
   rcases List.mem_append.1 hx with hx|hx
   . exact h.small x hx
   . exact hs x hx
 . exact(h0.texts.beside h0.words (by decide) (Ext.refl _) g7 own7.ext).far hv (by decide) hl 1 _
 . exact(h0.subs.beside h0.words (by decide) (Ext.refl _) g7 own7.ext).far hv (by decide) hl 1 _
 . exact(h0.join.beside h0.words (by decide) (Ext.refl _) g7 own7.ext).far hv (by decide) hl 1 _
theorem RIn.more_text(h:RIn w1 wr f ws ts js ys W wn wc T tn tc X xn xc J jn jc)(hy:ys=[])(E0:Ext wr W0){t:ByteArray}(hs:t.size<=maxLen){A7:Option Addr}{c7:Nat}(own7:Own w1 w7 9 1 A7 (tn+1) c7 (ts.map strV++[.string t]))(g7:W0.grownBy w7 (Value.slice T tn tc).ownBlock):
 RIn w1 (w7.setCell ⟨w1.heap.size+1,2,none⟩ (.slice A7 (tn+1) c7)) f ws (ts++[t]) js ys W wn wc A7 (tn+1) c7 X xn xc J jn jc:=by
 subst hy;have hl:w1.heap.size<=w1.heap.size+1:=Nat.le_succ _;have h0:=h.up E0;have hv:=h0.val.beside h0.texts (by decide) g7;refine⟨(h0.fld.beside h0.texts (by decide) g7).set_far 2 (by omega) _,?_,?_,h.wordsL,h.small,?_,by rw[List.length_append,h.textsL];rfl,?_,?_,h.subsL,(fun y hy=>by cases hy),(fun y hy=>by cases hy),?_,h.joinL⟩
 . have:=hv.set_ 2 (.slice A7 (tn+1) c7)
   simpa using this
 . exact(h0.words.beside h0.texts (by decide) (Ext.refl _) g7 own7.ext).far hv (by decide) hl 2 _
 . rw[List.map_append]
   exact own7.far hv (by decide) hl 2 _
 . intro x hx
   rcases List.mem_append.1 hx with hx|hx
   . exact h.sizes x hx
   . rw[List.mem_singleton]at hx
     subst hx;exact hs
 . exact(h0.subs.beside h0.texts (by decide) (Ext.refl _) g7 own7.ext).far hv (by decide) hl 2 _
 . exact(h0.join.beside h0.texts (by decide) (Ext.refl _) g7 own7.ext).far hv (by decide) hl 2 _
theorem RIn.more_join(h:RIn w1 wr f ws ts js ys W wn wc T tn tc X xn xc J jn jc)(hy:ys=[]){v:List UInt8}{m:Nat}(hm:v.length=m){A7:Option Addr}{c7:Nat}(own7:Own w1 w7 5 1 A7 (jn+m) c7 (js.map bv++v.map bv))(g7:wr.grownBy w7 (Value.slice J jn jc).ownBlock):
 RIn w1 w7 f ws ts (js++v) ys W wn wc T tn tc X xn xc A7 (jn+m) c7:=by
 subst hy;subst hm;refine⟨h.fld.beside h.join (by decide) g7,h.val.beside h.join (by decide) g7,h.words.beside h.join (by decide) (Ext.refl _) g7 own7.ext,h.wordsL,h.small,h.texts.beside h.join (by decide) (Ext.refl _) g7 own7.ext,h.textsL,h.sizes,h.subs.beside h.join (by decide) (Ext.refl _) g7 own7.ext,h.subsL,(fun y hy=>by cases hy),(fun y hy=>by cases hy),?_,by rw[List.length_append,h.joinL]⟩;rw[List.map_append];exact own7
theorem RIn.more_sub(h:RIn w1 wr f ws ts js ys W wn wc T tn tc X xn xc J jn jc){w5:World}(E0:Ext wr w5){y:MsgR}(hy:zay w5 y)(hu:∀b,UsesT y b->wr.heap.size<=b){ob:Obj}{A7:Option Addr}{c7:Nat}(own7:Own w1 w7 40 2 A7 (xn+1) c7 (ys.flatMap treeC++treeC y))(g7:(w5.alloc ob).grownBy w7 (Value.slice X xn xc).ownBlock)(m7:Moved (w5.alloc ob) X A7):
 RIn w1 (w7.setCell ⟨w1.heap.size+1,3,none⟩ (.slice A7 (xn+1) c7)) f ws ts js (ys++[y]) W wn wc T tn tc A7 (xn+1) c7 J jn jc:=by
 have hl:w1.heap.size<=w1.heap.size+1:=Nat.le_succ _;have h0:=h.up (E0.alloc ob);have hv:=h0.val.beside h0.subs (by decide) g7;have hvl:=h.val.lt;have hsz:w5.heap.size<(w5.alloc ob).heap.size:=by simp
 have hS:Stays (fun b=>(Value.slice X 0 0).ownBlock≠some b/\b≠w1.heap.size+1) (w5.alloc ob) (w7.setCell ⟨w1.heap.size+1,3,none⟩ (.slice A7 (xn+1) c7)):=
  (Stays.grown g7 (fun b hb q=>q.1 (by rw[zaV X xn xc 0 0]at hb;exact hb))).set (fun q=>q.2 rfl) _
 have hall:∀z∈ys++[y],zay w5 z/\∀b,UsesT z b->w1.heap.size+2<=b/\(Value.slice X 0 0).ownBlock≠some b:=by
  intro z hz;rcases List.mem_append.1 hz with hz|hz
  . exact⟨(h.trees z hz).up E0,h.away z hz⟩
  . rw[List.mem_singleton]at hz
    subst hz;refine⟨hy,fun b hb=> ?_⟩;have:=hu b hb;refine⟨by omega,fun q=> ?_⟩;have:=(h.subs.new_lt q).2;omega
 refine⟨(h0.fld.beside h0.subs (by decide) g7).set_far 3 (by omega) _,?_,?_,h.wordsL,h.small,?_,h.textsL,h.sizes,?_,by rw[List.length_append,h.subsL];rfl,fun z hz=> ?_,fun z hz b hb=> ?_,?_,h.joinL⟩
 . have:=hv.set_ 3 (.slice A7 (xn+1) c7)
   simpa using this
 . exact(h0.words.beside h0.subs (by decide) (Ext.refl _) g7 own7.ext).far hv (by decide) hl 3 _
 . exact(h0.texts.beside h0.subs (by decide) (Ext.refl _) g7 own7.ext).far hv (by decide) hl 3 _
 . rw[List.flatMap_append]
   have:=own7.far hv (by decide) hl 3 (.slice A7 (xn+1) c7);simpa using this
 . refine((hall z hz).1.up ((Ext.refl w5).alloc ob)).stays hS (fun b hb=> ?_)
   have:=(hall z hz).2 b hb;exact⟨this.2,by omega⟩
 . have h1:=(hall z hz).2 b hb
   refine⟨h1.1,?_⟩;rcases m7 with q|q
   . rw[q]
     exact h1.2
   . rw[q]
     intro r;injection r with r;have:=(hall z hz).1.lt hb;omega
 . exact(h0.join.beside h0.subs (by decide) (Ext.refl _) g7 own7.ext).far hv (by decide) hl 3 _
theorem RIn.one_sub(h:RIn w1 wr f ws ts js [] W wn wc T tn tc X xn xc J jn jc){w5:World}(E0:Ext wr w5){y:MsgR}(hy:zay w5 y)(hu:∀b,UsesT y b->wr.heap.size<=b):
 RIn w1 ((w5.alloc (.cells (treeC y).toArray 40)).setCell ⟨w1.heap.size+1,3,none⟩ (.slice (some ⟨w5.heap.size,0,none⟩) 1 1)) f ws ts js [y] W wn wc T tn tc (some ⟨w5.heap.size,0,none⟩) 1 1 J jn jc:=by
 have hl:w1.heap.size<=w1.heap.size+1:=Nat.le_succ _;have h5:=h.up E0;have h0:=h5.up ((Ext.refl w5).alloc (.cells (treeC y).toArray 40));have hvl:=h.val.lt;have hv5:=h5.val.lt;have hsz:=E0.size;have hrow:Own w1 (w5.alloc (.cells (treeC y).toArray 40)) 40 2 (some ⟨w5.heap.size,0,none⟩) 1 1 (treeC y):=Own.made h5.words.ext _ _ (by unfold maxLen;omega) rfl;have hfar:=hrow.far h0.val (by decide) hl 3 (.slice (some ⟨w5.heap.size,0,none⟩) 1 1);refine⟨h0.fld.set_far 3 (by omega) _,?_,h0.words.far h0.val (by decide) hl 3 _,h.wordsL,h.small,h0.texts.far h0.val (by decide) hl 3 _,h.textsL,h.sizes,?_,rfl,fun z hz=> ?_,fun z hz b hb=> ?_,h0.join.far h0.val (by decide) hl 3 _,h.joinL⟩
 . have:=h0.val.set_ 3 (.slice (some ⟨w5.heap.size,0,none⟩) 1 1)
   simpa using this
 . simpa using hfar
 . rw[List.mem_singleton]at hz
   subst hz;refine(hy.up ((Ext.refl w5).alloc _)).stays ((Stays.refl (fun b=>b≠w1.heap.size+1) _).set (fun q=>q rfl) _) (fun b hb=> ?_);have:=hu b hb;omega
 . rw[List.mem_singleton]at hz
   subst hz;have h1:=hu b hb;have h2:=hy.lt hb;refine⟨by omega,fun q=> ?_⟩;injection q with q;have q':w5.heap.size=b:=q;omega
theorem RIn.done(h:RIn w1 wr f ws ts js ys W wn wc T tn tc X xn xc J jn jc)(hok:f.Ok){u:ValR}(hu:u=⟨(W,wc),(T,tc),(X,xc),f.number,ws,ts,ys⟩):
 BlkT wr (w1.heap.size+1) 48 #[.int .i64 u.number,.slice u.a.1 u.words.length u.a.2,.slice u.b.1 u.texts.length u.b.2,.slice u.c.1 u.subs.length u.c.2]/\ValAt wr u/\∀b,UsesV u b->w1.heap.size<=b:=by
 subst hu;have hw:=h.wordsL;have ht:=h.textsL;have hx:=h.subsL;subst hw;subst ht;subst hx;refine⟨h.val,⟨⟨?_,h.words.reads,h.small,⟨h.texts.reads,h.sizes⟩,h.subs.reads⟩,h.trees⟩,fun b hb=> ?_⟩
 . have:=hok.number
   exact⟨by show -9223372036854775808<=f.number;omega,by show f.number<9223372036854775808;omega⟩
 . rcases hb with(hb|hb|hb)|⟨y,hy,hb⟩
   . exact h.words.uses_new hb
   . exact h.texts.uses_new hb
   . exact h.subs.uses_new hb
   . have:=(h.away y hy b hb).1
     omega
end
theorem zkl(hr:f.rep=true)(ws l:List Nat):zaG f (ws++l)=zaG f ws++l:=by
 unfold zaG;rw[if_pos hr,if_pos hr]
theorem zqh(hr:f.rep=false)(ws:List Nat)(x:Nat):zaG f (ws++[x])=[x]:=by
 unfold zaG;rw[if_neg (by simp[hr]),zeE]
theorem zpb(hk:f.kind≠17)(hr:f.rep=true)(ps:List (List UInt8))(v:List UInt8):zbt f (ps++[v])=zbt f ps++[textO v]:=by
 unfold zbt zaJ;simp[hk,hr]
theorem zqi(hk:f.kind≠17)(hr:f.rep=false)(ps:List (List UInt8))(v:List UInt8):zbt f (ps++[v])=[textO v]:=by
 unfold zbt zaJ;rw[if_neg hk,if_neg (by simp[hr]),if_neg hk,zeE];rfl
theorem zgh(hk:f.kind=17)(ps:List (List UInt8)):zbt f ps=[]:=if_pos hk
theorem znG(hk:f.kind=17)(hr:f.rep=false)(ps:List (List UInt8))(v:List UInt8):zcl f (ps++[v])=zcl f ps++v:=by
 unfold zcl;rw[if_pos ⟨hk,hr⟩,if_pos ⟨hk,hr⟩,List.flatten_append];simp
theorem zeF(h:f.kind≠17\/f.rep=true)(ps:List (List UInt8)):zcl f ps=[]:=by
 unfold zcl;rw[if_neg];rintro⟨h1,h2⟩;rcases h with h|h
 . exact h h1
 . rw[h]at h2
   cases h2
variable{sub:Nat->List UInt8->MsgT}
theorem znH(hk:f.kind=17)(hr:f.rep=true)(ps:List (List UInt8))(v:List UInt8):zdW sub f (ps++[v])=zdW sub f ps++[sub f.of_.toNat v]:=by
 unfold zdW;rw[if_pos ⟨hk,hr⟩,if_pos ⟨hk,hr⟩,List.map_append];rfl
theorem zds(h:f.kind≠17\/f.rep=false)(ps:List (List UInt8)):zdW sub f ps=[]:=by
 unfold zdW;rw[if_neg];rintro⟨h1,h2⟩;rcases h with h|h
 . exact h h1
 . rw[h]at h2
   cases h2
theorem zem(sub:Nat->List UInt8->MsgT)(f:zab):zaG f []=[]/\zbt f []=[]/\zcl f []=[]/\zdW sub f []=[]:=by
 refine⟨?_,?_,?_,?_⟩
 . unfold zaG
   split<;>rfl
 . unfold zbt zaJ
   split
   . rfl
   . split
     . rfl
     . rfl
 . unfold zcl
   split<;>rfl
 . unfold zdW
   split<;>rfl
theorem zkm{ws:List Nat}{ps:List (List UInt8)}:zaX sub f ws ps=⟨(),(),(),f.number,zaG f ws,zbt f ps,if f.kind=17/\f.rep=false then[sub f.of_.toNat (zcl f ps)]else zdW sub f ps⟩:=by
 unfold zaX zbt zdW zcl zaJ;by_cases h17:f.kind=17
 . rcases hr:f.rep with _|_
   . simp[h17]
   . simp[h17]
 . simp[h17]
def unkO(bs:List UInt8)(L:List ViewD):List ByteArray:=(L.filter fun v=>decide (v.field<0)).map fun v=>textO (spanB bs v.r.f v.r.t)
theorem zmB(h:L[k]?=some v)(hv:v.field<0):unkO bs (L.take (k+1))=unkO bs (L.take k)++[textO (spanB bs v.r.f v.r.t)]:=by
 unfold unkO;rw[zaC _ _ _ h,List.filter_append,List.map_append];simp[hv]
theorem zpc(h:L[k]?=some v)(hv:¬v.field<0):unkO bs (L.take (k+1))=unkO bs (L.take k):=by
 unfold unkO;rw[zaC _ _ _ h,List.filter_append,List.map_append];simp[hv]
theorem zrl(bs:List UInt8)(L:List ViewD)(k:Nat):(unkO bs (L.take k)).length<=L.length:=by
 unfold unkO;rw[List.length_map];refine Nat.le_trans (List.length_filter_le _ _) ?_;rw[List.length_take];omega
theorem zkn(k:Int)(bs:List UInt8):∀x∈(zaD k bs).1,x<18446744073709551616:=by
 intro x hx;unfold zaD at hx;split at hx
 . obtain⟨v,_,rfl⟩:=List.mem_map.1 hx
   exact(zfA k v.1).1
 . cases hx
end Go.Proofs.YtpicpebolghcfaaGreatDoor
namespace Go.Proofs.YtpicpebolghcfaaGreatDoor
open Go.RowKit Go.Shelf
section
variable {w w5 wr:World} {bm:Nat} {fs:List zab} {bs:List UInt8} {L:List ViewD} {nm:ByteArray} {MA:Option Addr} {Mn Mc k:Nat} {E:Nat->Option ziH} {U:Option Addr} {un uc:Nat} {v:ViewD}
end
section
variable {w w6 wq wz:World} {base:Nat} {fs:List zab} {bs:List UInt8} {L:List ViewD} {E:Nat->Option ziH} {order:List Nat} {U:Option Addr} {un uc j:Nat} {V:Option Addr} {vn vc:Nat} {ys:List ValR}
end
end Go.Proofs.YtpicpebolghcfaaGreatDoor
