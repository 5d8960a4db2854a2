/- Plain words of layer 18: the normal form, field by field, is the meaning's bytes; and how long it is at most. -/
import Derived.Test.YtlhbllaojjelcaaGreatQhS15

set_option linter.unusedVariables false
namespace Go.Proofs.YtlhbllaojjelcaaGreat
open Go.RowKit
def unkW(bs:List UInt8)(L:List ViewD):List ByteArray:=(L.filter fun v=>decide (v.field<0)).map fun v=>textO (spanB bs v.r.f v.r.t)
def zbv(se:Nat->MsgT->List UInt8)(sub:Nat->List UInt8->MsgT)(f:zaa)(ws:List Nat)(ps:List (List UInt8)):List UInt8:=
 if manyU (zaM sub f ws ps)=0 then[]else(zaU se f (zaM sub f ws ps)).flatten
def zbW(se:Nat->MsgT->List UInt8)(sub:Nat->List UInt8->MsgT)(fs:List zaa)(bs:List UInt8)(L:List ViewD)(i:Nat):List UInt8:=match fs[i]? with
 |none=>[]
 |some f=>if zaf L i=[]then[]else zbv se sub f ((zaf L i).flatMap (zaw f bs)) ((zaf L i).flatMap (zam f bs))
section
variable {se:Nat->MsgT->List UInt8} {sub:Nat->List UInt8->MsgT} {f:zaa} {bs:List UInt8} {fs:List zaa} {L:List ViewD} {S:List MsgD} {m:Nat} {M:MsgD}
theorem zbM{i:Nat}(hf:fs[i]?=some f)(hne:zaf L i≠ []):zbW se sub fs bs L i=zbv se sub f ((zaf L i).flatMap (zaw f bs)) ((zaf L i).flatMap (zam f bs)):=by
 unfold zbW;rw[hf];simp only;rw[if_neg hne]
theorem zbN{i:Nat}(hne:zaf L i=[]):zbW se sub fs bs L i=[]:=by
 unfold zbW;rcases fs[i]? with _|f
 . rfl
 . simp only
   rw[if_pos hne]
theorem zcs(hn:zad f.kind=true)(hr:f.rep=true){ws:List Nat}:zbv se sub f ws []=if ws=[]then[]else putB f.number 2 (packW f.kind ws):=by
 have h17:=zbb hn
 have hu:zaM sub f ws []=⟨(),(),(),f.number,ws,[],[]⟩:=by
  unfold zaM zaZ zas;simp[hr,h17]
 unfold zbv;rw[hu];unfold zaU manyU;rw[if_pos hn,if_pos hr];rcases ws with _|⟨x,ws⟩
 . rfl
 . simp
theorem zda(hn:zad f.kind=true)(hr:f.rep=false){ws:List Nat}{x:Nat}:zbv se sub f (ws++[x]) []=putB f.number (wireI f.kind) (putS f.kind x):=by
 have h17:=zbb hn
 have hu:zaM sub f (ws++[x]) []=⟨(),(),(),f.number,[x],[],[]⟩:=by
  unfold zaM zaZ zas;simp[hr,h17,ziw,zhl]
 unfold zbv;rw[hu];unfold zaU manyU;simp[hn,hr]
theorem zct(hk:f.kind=17)(hr:f.rep=false){ps:List (List UInt8)}:zbv se sub f [] ps=putB f.number 2 (se f.of_.toNat (sub f.of_.toNat ps.flatten)):=by
 have hn:¬zad f.kind=true:=by rw[hk];decide
 have hu:zaM sub f [] ps=⟨(),(),(),f.number,[],[],[sub f.of_.toNat ps.flatten]⟩:=by
  unfold zaM zaZ zas;simp[hr,hk,zhl]
 unfold zbv;rw[hu];unfold zaU manyU;rw[if_neg hn];simp
theorem zcu(hk:f.kind=17)(hr:f.rep=true){ps:List (List UInt8)}:zbv se sub f [] ps=(ps.map fun x=>putB f.number 2 (se f.of_.toNat (sub f.of_.toNat x))).flatten:=by
 have hn:¬zad f.kind=true:=by rw[hk];decide
 have hu:zaM sub f [] ps=⟨(),(),(),f.number,[],[],ps.map (sub f.of_.toNat)⟩:=by
  unfold zaM zaZ zas;simp[hr,hk]
 unfold zbv;rw[hu];unfold zaU manyU;rw[if_neg hn];rcases ps with _|⟨x,ps⟩
 . rfl
 . simp[Function.comp_def]
theorem zcd(hn:zad f.kind=false)(hk:f.kind≠17)(hr:f.rep=true){ps:List (List UInt8)}:zbv se sub f [] ps=(ps.map fun x=>putB f.number 2 x).flatten:=by
 have hn:¬zad f.kind=true:=by rw[hn];decide
 have hu:zaM sub f [] ps=⟨(),(),(),f.number,[],ps.map textO,[]⟩:=by
  unfold zaM zaZ zas;simp[hr,hk]
 unfold zbv;rw[hu];unfold zaU manyU;rw[if_neg hn];rcases ps with _|⟨x,ps⟩
 . rfl
 . simp[Function.comp_def,textO]
theorem zdb(hn:zad f.kind=false)(hk:f.kind≠17)(hr:f.rep=false){ps:List (List UInt8)}{x:List UInt8}:zbv se sub f [] (ps++[x])=putB f.number 2 x:=by
 have hn:¬zad f.kind=true:=by rw[hn];decide
 have hu:zaM sub f [] (ps++[x])=⟨(),(),(),f.number,[],[textO x],[]⟩:=by
  unfold zaM zaZ zas;simp[hr,hk,ziw,zhl]
 unfold zbv;rw[hu];unfold zaU manyU;rw[if_neg hn];simp[textO]
theorem zeT{α β:Type}{g:α->Option β}{h:β->List (List UInt8)}{k:α->List UInt8}:∀{l:List α},(∀i∈l,k i=match g i with|none=>[]|some v=>(h v).flatten)->((l.filterMap g).flatMap h).flatten=l.flatMap k
 |[],_=>rfl
 |i::l,e=>by
  have ih:=zeT (g:=g) (h:=h) (k:=k) (l:=l) (fun j hj=>e j (List.mem_cons_of_mem _ hj));have e1:=e i List.mem_cons_self;rw[List.filterMap_cons,List.flatMap_cons,e1,<-ih];rcases g i with _|v
  . rfl
  . simp
theorem zhT(hR:zan S=true)(hM:S[m]?=some M):(encC se S m (ofM sub S m bs)).flatten=
 (sortK (keyF M.fields) M.fields.length).flatMap (zbW se sub M.fields bs (zac M.fields bs).1)++(unkW bs (zac M.fields bs).1).flatMap fun t=>t.data.toList:=by
 unfold encC ofM;rw[hM];simp only;rw[List.flatten_append];congr 1
 . refine zeT fun i hi=> ?_
   rcases hp:zcl sub M.fields bs (zac M.fields bs).1 i with _|u
   . unfold zbW
     unfold zcl at hp;rcases hf:M.fields[i]? with _|f
     . rfl
     . rw[hf]at hp
       simp only at hp⊢;split
       . rfl
       . rename_i hne
         rw[if_neg hne,zez]at hp;unfold zbv;split at hp
         . rename_i h0
           rw[if_pos h0]
         . cases hp
   . obtain⟨f,hf,hne,hu,hm⟩:=zdF hp
     have hun:u.number=f.number:=by rw[hu];rfl
     have hfind:M.fields.find? (fun g:zaa=>g.number==u.number)=some f:=by
      rw[hun];exact(zaX (p:=fun g:zaa=>decide (g.number=f.number)) (l:=M.fields)).2 i f (zaQ hR hM hf).2 hf
     simp only[hfind];rw[zbM hf hne];unfold zbv;rw[<-hu,if_neg hm]
end
theorem ziS(f:zaa)(bs:List UInt8)(L:List ViewD):∀x∈L.flatMap (zaw f bs),x<18446744073709551616:=by
 intro x hx;obtain⟨v,_,hv⟩:=List.mem_flatMap.1 hx;unfold zaw at hv;split at hv
 . unfold zbR at hv
   split at hv
   . obtain⟨u,_,rfl⟩:=List.mem_map.1 hv
     exact(zcU f.kind u.1).1
   . cases hv
 . split at hv
   . rw[List.mem_singleton]at hv
     subst hv;exact(zcU f.kind _).1
   . cases hv
theorem zhU(bs:List UInt8):∀L:List ViewD,(∀v∈L,v.r.f<v.r.a/\v.r.a<=v.r.t/\v.r.t<=bs.length)->zaG L<=(L.flatMap fun v=>spanB bs v.r.f v.r.t).length
 |[],_=>Nat.zero_le _
 |v::L,h=>by
  have ih:=zhU bs L (fun u hu=>h u (List.mem_cons_of_mem _ hu));have h1:=h v List.mem_cons_self;rw[zaY,List.flatMap_cons,List.length_append]
  have:(spanB bs v.r.f v.r.t).length=v.r.t - v.r.f:=by
   unfold spanB;rw[List.length_drop,List.length_take];omega
  unfold zcp;omega
theorem zlI{g:Nat->Nat}{c:Nat}{k:Int}:∀{F:List Nat},F.Nodup->(F.map fun i:Nat=>if k==(i:Int)then c+g i else g i).sum<=c+(F.map g).sum
 |[],_=>Nat.zero_le _
 |j::F,h=>by
  rw[List.nodup_cons]at h;rw[List.map_cons,List.map_cons,List.sum_cons,List.sum_cons];by_cases hj:k=(j:Int)
  . have e:(F.map fun i:Nat=>if k==(i:Int)then c+g i else g i)=F.map g:=List.map_congr_left fun i hi=>by
     rw[if_neg];simp only[beq_iff_eq];intro q;have:i=j:=by omega
     subst this;exact h.1 hi
    rw[e,if_pos (by simp[hj])];omega
  . have ih:=zlI (g:=g) (c:=c) (k:=k) h.2
    rw[if_neg (by simp[hj])];omega
theorem zel{F:List Nat}(hF:F.Nodup):∀L:List ViewD,(F.map fun i=>zaG (zaf L i)).sum<=zaG (L.filter fun v=> !decide (v.field<0))
 |[]=>by
  have:(F.map fun i=>zaG (zaf [] i))=F.map fun _=>0:=rfl
  rw[this]
  have:∀l:List Nat,(l.map fun _=>0).sum=0:=fun l=>by induction l with
   |nil=>rfl
   |cons x l ih=>rw[List.map_cons,List.sum_cons,ih]
  rw[this];exact Nat.zero_le _
 |v::L=>by
  have ih:=zel hF L
  have e:(fun i:Nat=>zaG (zaf (v::L) i))=fun i:Nat=>if v.field==(i:Int)then zcp v+zaG (zaf L i)else zaG (zaf L i):=by
   funext i;unfold zaf;rw[List.filter_cons];split
   . rw[zaY]
   . rfl
  rw[e,List.filter_cons];by_cases hv:v.field<0
  . have e2:(F.map fun i:Nat=>if v.field==(i:Int)then zcp v+zaG (zaf L i)else zaG (zaf L i))=F.map fun i=>zaG (zaf L i):=List.map_congr_left fun i hi=>by
     rw[if_neg];simp only[beq_iff_eq];omega
    rw[e2,if_neg (by simp[hv])];exact ih
  . have h2:=zlI (g:=fun i=>zaG (zaf L i)) (c:=zcp v) (k:=v.field) hF
    rw[if_pos (by simpa using hv),zaY];omega
section
variable {se:Nat->MsgT->List UInt8} {sub:Nat->List UInt8->MsgT} {f:zaa} {bs:List UInt8} {fs:List zaa} {S:List MsgD} {m:Nat} {M:MsgD}
theorem zgF{n w:Int}(h:zao n w=true){c:Nat}{g:List UInt8->List UInt8}:∀{ps:List (List UInt8)},(∀x∈ps,(g x).length<=c*x.length/\(g x).length<=100000000000)->1<=c->(ps.map fun x=>putB n w (g x)).flatten.length<=15*ps.length+c*ps.flatten.length
 |[],_,_=>Nat.zero_le _
 |x::ps,hp,hc=>by
  have ih:=zgF h (ps:=ps) (fun y hy=>hp y (List.mem_cons_of_mem _ hy)) hc;have h1:=hp x List.mem_cons_self;have h2:=zdh h (v:=g x) h1.2;rw[List.map_cons,List.flatten_cons,List.flatten_cons,List.length_append,List.length_append,List.length_cons,Nat.mul_add,Nat.mul_add];omega
theorem zjA(hR:zan S=true)(hM:S[m]?=some M){i:Nat}(hf:M.fields[i]?=some f)(hne:zaf (zac M.fields bs).1 i≠ [])(hb:bs.length<=100000)(hsub:∀x:List UInt8,x.length+1<=bs.length->(se f.of_.toNat (sub f.of_.toNat x)).length<=32*x.length):
 (zbW se sub M.fields bs (zac M.fields bs).1 i).length<=32*zaG (zaf (zac M.fields bs).1 i):=by
 rw[zbM hf hne];obtain⟨⟨T,hT⟩,n1,n2,hkb⟩:=zbC hR hM hf;have hbd:∀v∈zaf (zac M.fields bs).1 i,v.r.t<=bs.length:=fun v hv=>(zaW hv).2.2.2
 have hW:=zfA (fs:=M.fields) (bs:=bs) (i:=i);have hw1:=zdo f bs _ hbd;have hp1:=(zdD f bs _ hbd).1;have h64:=ziS f bs (zaf (zac M.fields bs).1 i)
 have hpos:1<=zaG (zaf (zac M.fields bs).1 i):=by
  rcases hv:zaf (zac M.fields bs).1 i with _|⟨v,l⟩
  . exact absurd hv hne
  . rw[zaY]
    unfold zcp;omega
 have hth:=zeK hf hne;have hpl:∀x∈(zaf (zac M.fields bs).1 i).flatMap (zam f bs),x.length<=((zaf (zac M.fields bs).1 i).flatMap (zam f bs)).flatten.length:=fun x hx=>zaD hx
 generalize hws:(zaf (zac M.fields bs).1 i).flatMap (zaw f bs)=ws at*;generalize hps:(zaf (zac M.fields bs).1 i).flatMap (zam f bs)=ps at*;generalize zaG (zaf (zac M.fields bs).1 i)=W at*;have r2:zao f.number 2=true:=by rw[hT];exact zbL (by omega) (by omega) (by decide)
 rcases hth with⟨hn,rfl,hw0⟩|⟨hn,rfl,hp0⟩
 . rcases hr:f.rep with _|_
   . have hw0:=hw0 hr
     obtain⟨l,x,rfl⟩:∃l x,ws=l++[x]:=⟨_,_,(List.dropLast_concat_getLast hw0).symm⟩
     rw[zda hn hr];have hx:=h64 x (by simp);obtain⟨V,hV,hV2,_⟩:=zfk hn hx;have h1:=(zbg (k:=f.kind) hx).2;have h2:=zdh (number:=f.number) (wire:=wireI f.kind) (by rw[hT,hV];exact zbL (by omega) (by omega) hV2) (v:=putS f.kind x) (by omega);omega
   . rw[zcs hn hr]
     split
     . exact Nat.zero_le _
     . have h1:=zfx f.kind ws h64
       have h2:=zdh r2 (v:=packW f.kind ws) (by omega);omega
 . have hnl:1<=ps.length:=by
    rcases ps with _|⟨x,l⟩
    . exact absurd rfl hp0
    . simp
   by_cases hk:f.kind=17
   . rcases hr:f.rep with _|_
     . rw[zct hk hr]
       have h1:=hsub ps.flatten (by omega);have h2:=zdh r2 (v:=se f.of_.toNat (sub f.of_.toNat ps.flatten)) (by omega);omega
     . rw[zcu hk hr]
       have h1:=zgF r2 (c:=32) (g:=fun x=>se f.of_.toNat (sub f.of_.toNat x)) (ps:=ps) (fun x hx=>by
        have:=hpl x hx;have:=hsub x (by omega)
        exact⟨this,by omega⟩) (by omega)
       omega
   . rcases hr:f.rep with _|_
     . obtain⟨l,x,rfl⟩:∃l x,ps=l++[x]:=⟨_,_,(List.dropLast_concat_getLast hp0).symm⟩
       rw[zdb hn hk hr];have:=hpl x (by simp);have h2:=zdh r2 (v:=x) (by omega);omega
     . rw[zcd hn hk hr]
       have h1:=zgF r2 (c:=1) (g:=fun x=>x) (ps:=ps) (fun x hx=>by
        have:=hpl x hx
        exact⟨by omega,by omega⟩) (by omega)
       omega
theorem ziT{α:Type}{g:α->List UInt8}{c:α->Nat}:∀{l:List α},(∀x∈l,(g x).length<=32*c x)->(l.flatMap g).length<=32*(l.map c).sum
 |[],_=>Nat.zero_le _
 |x::l,h=>by
  have ih:=ziT (g:=g) (c:=c) (l:=l) (fun y hy=>h y (List.mem_cons_of_mem _ hy));have h1:=h x List.mem_cons_self;rw[List.flatMap_cons,List.length_append,List.map_cons,List.sum_cons,Nat.mul_add];omega
theorem ziU(bs:List UInt8)(L:List ViewD):((unkW bs L).flatMap fun t=>t.data.toList)=(L.filter fun v=>decide (v.field<0)).flatMap fun v=>spanB bs v.r.f v.r.t:=by
 unfold unkW;rw[List.flatMap_map];rfl
theorem zgG(bs:List UInt8)(q:ViewD->Bool):∀L:List ViewD,((L.filter fun v=> !q v).flatMap fun v=>spanB bs v.r.f v.r.t).length+((L.filter q).flatMap fun v=>spanB bs v.r.f v.r.t).length=(L.flatMap fun v=>spanB bs v.r.f v.r.t).length
 |[]=>rfl
 |v::L=>by
  have ih:=zgG bs q L;rw[List.filter_cons,List.filter_cons,List.flatMap_cons,List.length_append];rcases hq:q v with _|_
  . rw[if_pos (by simp),if_neg (by simp),List.flatMap_cons,List.length_append]
    omega
  . rw[if_neg (by simp),if_pos (by simp),List.flatMap_cons,List.length_append]
    omega
theorem zpc{l:List zaa}{bs:List UInt8}(h:(zac l bs).2.2=0):((zac l bs).1.flatMap fun v=>spanB bs v.r.f v.r.t).length=bs.length:=by
 rcases hv:zac l bs with⟨L,P,C⟩
 rw[hv]at h;have hC:C=0:=h;subst hC;have h1:=zmT hv;have h2:=zgG bs unkP L;unfold keptB lens unkB at h1
 have h3:(fun v:ViewD=> !unkP v)=zeu:=by
  funext v;unfold unkP zeu;rfl
 rw[h3]at h2
 have h4:∀K:List ViewD,((K.map fun v=>spanB bs v.r.f v.r.t).map List.length).sum=(K.flatMap fun v=>spanB bs v.r.f v.r.t).length:=fun K=>by
  rw[List.length_flatMap,List.map_map];rfl
 rw[h4]at h1;show(L.flatMap _).length=_;omega
theorem zkO(l:List zaa)(bs:List UInt8):((zac l bs).1.flatMap fun v=>spanB bs v.r.f v.r.t).length<=bs.length:=by
 by_cases h:(zac l bs).2.2=0
 . rw[zpc h]
   exact Nat.le_refl _
 . have:=(zft (zaz l bs) bs.length 0 (by omega)).1 h
   have e:(zac l bs).1=[]:=this;rw[e];exact Nat.zero_le _
theorem zhV(hR:zan S=true)(hM:S[m]?=some M)(hb:bs.length<=100000)(hsub:∀(o:Nat)(x:List UInt8),x.length+1<=bs.length->(se o (sub o x)).length<=32*x.length):(encC se S m (ofM sub S m bs)).flatten.length<=32*bs.length:=by
 rw[zhT hR hM,ziU,List.length_append];have hn:(sortK (keyF M.fields) M.fields.length).Nodup:=(zcf (keyF M.fields) M.fields.length).nodup_iff.2 List.nodup_range
 have h1:=ziT (g:=zbW se sub M.fields bs (zac M.fields bs).1) (c:=fun i=>zaG (zaf (zac M.fields bs).1 i)) (l:=sortK (keyF M.fields) M.fields.length) (fun i hi=>by
  by_cases hne:zaf (zac M.fields bs).1 i=[]
  . rw[zbN hne]
    exact Nat.zero_le _
  . have hil:=zbl.1 hi
    exact zjA hR hM (List.getElem?_eq_getElem hil) hne hb (fun x hx=>hsub _ x hx))
 have h2:=zel hn (zac M.fields bs).1;have h3:=zgG bs (fun v=>decide (v.field<0)) (zac M.fields bs).1;have h4:=zkO M.fields bs;have h5:=zhU bs ((zac M.fields bs).1.filter fun v=> !decide (v.field<0)) (fun v hv=>zcv (List.mem_filter.1 hv).1);omega
theorem zfm{S:List MsgD}(hR:zan S=true):∀(D m:Nat)(bs:List UInt8),bs.length<=100000->(encV S D m (ofV S D m bs)).length<=32*bs.length
 |0,m,bs,hb=>by
  rcases hM:S[m]? with _|M
  . rw[encV]
    unfold encC;rw[hM];exact Nat.zero_le _
  . rw[encV,ofV]
    exact zhV hR hM hb (fun o x _=>Nat.zero_le _)
 |D+1,m,bs,hb=>by
  rcases hM:S[m]? with _|M
  . rw[encV]
    unfold encC;rw[hM];exact Nat.zero_le _
  . rw[encV,ofV]
    exact zhV hR hM hb (fun o x hx=>zfm hR D o x (by omega))
end
end Go.Proofs.YtlhbllaojjelcaaGreat
namespace Go.Proofs.YtlhbllaojjelcaaGreat
open Go.RowKit
open Go.Lib (uvarint uvarint_small uvarint_big uvarint_pos)
theorem zce:∀(y x:Nat),x<=y->(uvarint x).length<=(uvarint y).length:=by
 intro y
 induction y using Nat.strongRecOn with
 |ind y ih=>
  intro x h;by_cases hx:x<128
  . rw[uvarint_small hx]
    exact uvarint_pos y
  . rw[uvarint_big (by omega),uvarint_big (x:=y) (by omega),List.length_cons,List.length_cons]
    have:=ih (y / 128) (by omega) (x / 128) (by omega);omega
theorem zem(x y:Nat):(uvarint (x+y)).length<=(uvarint x).length+(uvarint y).length:=by
 by_cases h:x+y<128
 . rw[uvarint_small h]
   have:=uvarint_pos x;have:=uvarint_pos y;simp;omega
 . rw[uvarint_big (by omega),List.length_cons]
   by_cases hxy:x<=y
   . have:=zce y ((x+y) / 128) (by omega)
     have:=uvarint_pos x;omega
   . have:=zce x ((x+y) / 128) (by omega)
     have:=uvarint_pos y;omega
theorem zcB(n:Int)(v:List UInt8):(putB n 2 v).length=(tagB n 2).length+(uvarint v.length).length+v.length:=by
 unfold putB;rw[if_pos rfl,List.length_append,List.length_append];omega
theorem zgU{n:Int}{x y z:List UInt8}(h:z.length<=x.length+y.length):(putB n 2 z).length<=(putB n 2 x).length+(putB n 2 y).length:=by
 rw[zcB,zcB,zcB];have h1:=zce _ _ h;have h2:=zem x.length y.length;omega
theorem zhW(k:Int)(b:List Nat):∀a:List Nat,packW k (a++b)=packW k a++packW k b
 |[]=>rfl
 |x::l=>by
  rw[List.cons_append,packW,packW,zhW k b l,List.append_assoc]
section
variable {se:Nat->MsgT->List UInt8} {sub:Nat->List UInt8->MsgT} {f:zaa} {a b:List UInt8} {fs:List zaa} {S:List MsgD} {m:Nat} {M:MsgD}
theorem zcX{k:Int}(h:kindB k=true)(hn:zad k=false):wireI k=2:=by
 unfold kindB at h;have h:=of_decide_eq_true h;unfold zad at hn;have hn:=of_decide_eq_false hn;unfold wireI;rw[if_neg (by omega),if_neg (by omega),if_neg (by omega)]
theorem znD{α:Type}{l:List α}(h:l≠ []):∃k x,l=k++[x]:=⟨_,_,(List.dropLast_concat_getLast h).symm⟩
theorem zkP{wa wb:List Nat}{pa pb:List (List UInt8)}(ha:(zad f.kind=true/\pa=[]/\(f.rep=false->wa≠ []))\/(zad f.kind=false/\wa=[]/\pa≠ []))(hb:(zad f.kind=true/\pb=[]/\(f.rep=false->wb≠ []))\/(zad f.kind=false/\wb=[]/\pb≠ []))(hsub:f.kind=17->f.rep=false->(se f.of_.toNat (sub f.of_.toNat (pa.flatten++pb.flatten))).length<=(se f.of_.toNat (sub f.of_.toNat pa.flatten)).length+(se f.of_.toNat (sub f.of_.toNat pb.flatten)).length):
 (zbv se sub f (wa++wb) (pa++pb)).length<=(zbv se sub f wa pa).length+(zbv se sub f wb pb).length:=by
 rcases ha with⟨hn,rfl,hwa⟩|⟨hn,rfl,hpa⟩
 . rcases hb with⟨_,rfl,hwb⟩|⟨q,_⟩
   . rcases hr:f.rep with _|_
     . obtain⟨k,x,rfl⟩:=znD (hwb hr)
       rw[List.append_nil,<-List.append_assoc,zda hn hr,zda hn hr];omega
     . rw[List.append_nil,zcs hn hr,zcs hn hr,zcs hn hr]
       by_cases h1:wa=[]
       . subst h1
         rw[List.nil_append,if_pos rfl];omega
       . by_cases h2:wb=[]
         . subst h2
           rw[List.append_nil,if_neg h1];omega
         . rw[if_neg (by simp[h1]),if_neg h1,if_neg h2]
           exact zgU (by rw[zhW,List.length_append];exact Nat.le_refl _)
   . rw[hn]at q
     cases q
 . rcases hb with⟨q,_⟩|⟨_,rfl,hpb⟩
   . rw[hn]at q
     cases q
   . rw[List.append_nil]
     by_cases hk:f.kind=17
     . rcases hr:f.rep with _|_
       . rw[zct hk hr,zct hk hr,zct hk hr,List.flatten_append]
         exact zgU (hsub hk hr)
       . rw[zcu hk hr,zcu hk hr,zcu hk hr,List.map_append,List.flatten_append,List.length_append]
         exact Nat.le_refl _
     . rcases hr:f.rep with _|_
       . obtain⟨k,x,rfl⟩:=znD hpb
         rw[<-List.append_assoc,zdb hn hk hr,zdb hn hk hr];omega
       . rw[zcd hn hk hr,zcd hn hk hr,zcd hn hk hr,List.map_append,List.flatten_append,List.length_append]
         exact Nat.le_refl _
theorem zkQ{i:Nat}(ha:(zac fs a).2.2=0)(hb:(zac fs b).2.2=0)(hf:fs[i]?=some f)(hsub:f.kind=17->f.rep=false->zaf (zac fs a).1 i≠ []->zaf (zac fs b).1 i≠ []->(se f.of_.toNat (sub f.of_.toNat (((zaf (zac fs a).1 i).flatMap (zam f a)).flatten++((zaf (zac fs b).1 i).flatMap (zam f b)).flatten))).length<=(se f.of_.toNat (sub f.of_.toNat ((zaf (zac fs a).1 i).flatMap (zam f a)).flatten)).length+(se f.of_.toNat (sub f.of_.toNat ((zaf (zac fs b).1 i).flatMap (zam f b)).flatten)).length):
 (zbW se sub fs (a++b) (zac fs (a++b)).1 i).length<=(zbW se sub fs a (zac fs a).1 i).length+(zbW se sub fs b (zac fs b).1 i).length:=by
 have hw:=zmx ha hb f i;have hp:=zkI ha hb f i;have hv:=ziO ha hb i;by_cases h1:zaf (zac fs a).1 i=[]
 . by_cases h2:zaf (zac fs b).1 i=[]
   . rw[zbN (by rw[hv,h1,h2];rfl)]
     exact Nat.zero_le _
   . rw[zbM hf (by rw[hv,h1];simpa using h2),zbN h1,zbM hf h2,hw,hp,h1,List.flatMap_nil,List.flatMap_nil,List.nil_append,List.nil_append]
     omega
 . by_cases h2:zaf (zac fs b).1 i=[]
   . rw[zbM hf (by rw[hv,h2];simpa using h1),zbN h2,zbM hf h1,hw,hp,h2,List.flatMap_nil,List.flatMap_nil,List.append_nil,List.append_nil]
     omega
   . rw[zbM hf (by rw[hv];simp[h1]),zbM hf h1,zbM hf h2,hw,hp]
     exact zkP (zeK hf h1) (zeK hf h2) (fun hk hr=>hsub hk hr h1 h2)
theorem zjB{α:Type}{g h k:α->List UInt8}:∀{l:List α},(∀x∈l,(g x).length<=(h x).length+(k x).length)->(l.flatMap g).length<=(l.flatMap h).length+(l.flatMap k).length
 |[],_=>Nat.zero_le _
 |x::l,e=>by
  have ih:=zjB (g:=g) (h:=h) (k:=k) (l:=l) (fun y hy=>e y (List.mem_cons_of_mem _ hy));have h1:=e x List.mem_cons_self;simp only[List.flatMap_cons,List.length_append];omega
theorem zgV{d i:Nat}{c:List UInt8}(hR:zan S=true)(hM:S[m]?=some M)(hf:M.fields[i]?=some f)(h17:f.kind=17)(hc:(zaq S d m c).2=0)(hne:zaf (zac M.fields c).1 i≠ []):
 ∃e,d=e+1/\∀v∈zaf (zac M.fields c).1 i,v.run=false/\(zaq S e f.of_.toNat (zal c v)).2=0:=by
 rw[zbj,zaK hM]at hc
 have hrun:∀v∈zaf (zac M.fields c).1 i,v.run=false:=fun v hv=>by
  rcases zcV (zaW hv).1 (zaW hv).2.1 hf with⟨_,_,q⟩|⟨q,_⟩
  . exact absurd h17 (zbb q)
  . exact q
 obtain⟨v,l,hvl⟩:=List.exists_cons_of_ne_nil hne;have hv:v∈zaf (zac M.fields c).1 i:=by rw[hvl];exact List.mem_cons_self
 rcases d with _|e
 . have h1:=(zcw (S:=S) (d:=0) (bs:=c) (zaW hv).2.1 hf (hrun v hv) h17).1 rfl
   have h2:=hc.2 v (zaW hv).1;rw[h1]at h2;cases h2
 . refine⟨e,rfl,fun u hu=>⟨hrun u hu,?_⟩⟩
   have h1:=(zcw (S:=S) (d:=e+1) (bs:=c) (zaW hu).2.1 hf (hrun u hu) h17).2 e rfl;have h2:=hc.2 u (zaW hu).1;rw[h1.1]at h2;exact h2
theorem zjC(hR:zan S=true)(hM:S[m]?=some M){d:Nat}(ha:(zaq S d m a).2=0)(hb:(zaq S d m b).2=0)(hsub:∀(e o:Nat)(x y:List UInt8),d=e+1->o<S.length->(zaq S e o x).2=0->(zaq S e o y).2=0->(se o (sub o (x++y))).length<=(se o (sub o x)).length+(se o (sub o y)).length):
 (encC se S m (ofM sub S m (a++b))).flatten.length<=(encC se S m (ofM sub S m a)).flatten.length+(encC se S m (ofM sub S m b)).flatten.length:=by
 have hva:(zac M.fields a).2.2=0:=by rw[zbj,zaK hM]at ha;exact ha.1
 have hvb:(zac M.fields b).2.2=0:=by rw[zbj,zaK hM]at hb;exact hb.1
 rw[zhT hR hM,zhT hR hM,zhT hR hM];have hu:unkW (a++b) (zac M.fields (a++b)).1=unkW a (zac M.fields a).1++unkW b (zac M.fields b).1:=zpb hva hvb;rw[hu,List.flatMap_append];simp only[List.length_append]
 have h1:=zjB (g:=zbW se sub M.fields (a++b) (zac M.fields (a++b)).1) (h:=zbW se sub M.fields a (zac M.fields a).1) (k:=zbW se sub M.fields b (zac M.fields b).1) (l:=sortK (keyF M.fields) M.fields.length) (fun i hi=>by
  have hil:=zbl.1 hi;have hf:=List.getElem?_eq_getElem hil;refine zkQ hva hvb hf (fun h17 hr h1 h2=> ?_);obtain⟨o,ho1,ho2⟩:=zcj hR hM hf h17;have hnum:zad (M.fields[i]).kind=false:=by rw[h17];rfl
  obtain⟨e,rfl,ea⟩:=zgV hR hM hf h17 ha h1;obtain⟨e',he',eb⟩:=zgV hR hM hf h17 hb h2;obtain rfl:e'=e:=by omega
  exact hsub e' _ _ _ rfl (by rw[ho1];exact ho2) (zdj ea hnum) (zdj eb hnum))
 omega
theorem zlJ{S:List MsgD}(hR:zan S=true):∀(D d m:Nat)(a b:List UInt8),m<S.length->(zaq S d m a).2=0->(zaq S d m b).2=0->
 (encV S D m (ofV S D m (a++b))).length<=(encV S D m (ofV S D m a)).length+(encV S D m (ofV S D m b)).length
 |0,d,m,a,b,hm,ha,hb=>by
  rw[encV,encV,encV,ofV];exact zjC hR (List.getElem?_eq_getElem hm) ha hb (fun _ _ _ _ _ _ _ _=>Nat.zero_le _)
 |D+1,d,m,a,b,hm,ha,hb=>by
  rw[encV,encV,encV,ofV];exact zjC hR (List.getElem?_eq_getElem hm) ha hb (fun e o x y _ ho hx hy=>zlJ hR D e o x y ho hx hy)
end
end Go.Proofs.YtlhbllaojjelcaaGreat
namespace Go.Proofs.YtlhbllaojjelcaaGreat
open Go.RowKit
section
variable {S:List MsgD}
theorem zaO.mono{rs rs':Nat->MsgT->Prop}(h:∀m x,rs m x->rs' m x){m:Nat}{x:MsgT}(hx:zaO rs S m x):zaO rs' S m x:=by
 obtain⟨M,hM,hp,hv,hu⟩:=hx;refine⟨M,hM,hp,fun v hvm=> ?_,hu⟩;obtain⟨i,f,hf,h1,h2,h3,h4⟩:=hv v hvm;refine⟨i,f,hf,h1,h2,h3,?_⟩;rcases h4 with h4|h4|⟨h4,h5,h6,h7⟩
 . exact .inl h4
 . exact .inr (.inl h4)
 . exact .inr (.inr ⟨h4,h5,h6,fun y hy=>h _ _ (h7 y hy)⟩)
theorem zaE.succ:∀{d m:Nat}{x:MsgT},zaE S d m x->zaE S (d+1) m x
 |0,m,x,h=>by
  have h':zaO (fun _ _=>False) S m x:=h;exact h'.mono (fun _ _ q=>q.elim)
 |d+1,m,x,h=>by
  have h':zaO (zaE S d) S m x:=h;exact h'.mono (fun _ _ q=>zaE.succ q)
theorem zaE.more{d m:Nat}{x:MsgT}(h:zaE S d m x):∀{D:Nat},d<=D->zaE S D m x:=by
 intro D hD
 induction D with
 |zero=>obtain rfl:d=0:=by omega
        exact h
 |succ D ih=>
  by_cases e:d=D+1
  . subst e
    exact h
  . exact zaE.succ (ih (by omega))
theorem zhX(hR:zan S=true){m:Nat}{x:MsgT}{rs:Nat->MsgT->Prop}(hx:zaO rs S m x){se se':Nat->MsgT->List UInt8}(h:∀o y,rs o y->se o y=se' o y):encC se S m x=encC se' S m x:=by
 obtain⟨M,hM,_,hv,_⟩:=hx;unfold encC;rw[hM];simp only;congr 1;refine zcr fun v hvm=> ?_
 obtain⟨i,f,hf,h1,_,_,h4⟩:=hv v hvm
 have hfind:M.fields.find? (fun g=>g.number==v.number)=some f:=by
  rw[h1];exact(zaX (p:=fun g:zaa=>decide (g.number=f.number)) (l:=M.fields)).2 i f (zaQ hR hM hf).2 hf
 rw[hfind];simp only;unfold zaU;split
 . rfl
 . congr 1
   refine List.map_congr_left fun y hy=> ?_
   rcases h4 with⟨_,_,q,_⟩|⟨_,_,_,_,q,_⟩|⟨_,_,_,q⟩
   . rw[q]at hy
     cases hy
   . rw[q]at hy
     cases hy
   . rw[h _ _ (q y hy)]
theorem zjD(hR:zan S=true):∀{d D m:Nat}{x:MsgT},zaE S d m x->d<=D->encV S D m x=encV S d m x
 |0,0,m,x,h,_=>rfl
 |0,D+1,m,x,h,_=>by
  have h':zaO (fun _ _=>False) S m x:=h;rw[encV,encV,zhX hR h' (se':=fun _ _=>[]) (fun _ _ q=>q.elim)]
 |d+1,0,m,x,h,hD=>absurd hD (by omega)
 |d+1,D+1,m,x,h,hD=>by
  have h':zaO (zaE S d) S m x:=h;rw[encV,encV,zhX hR h' (se':=encV S d) (fun o y q=>zjD hR q (by omega))]
def meanB(S:List MsgD)(m:Nat)(bs:List UInt8):MsgT:=ofV S 100000 m bs
def normB(S:List MsgD)(m:Nat)(bs:List UInt8):List UInt8:=encV S 100000 m (meanB S m bs)
theorem zhY(hR:zan S=true){d m:Nat}{bs:List UInt8}(hm:m<S.length)(h:(zaq S d m bs).2=0)(hb:bs.length<=100000):zaE S d m (meanB S m bs):=zlH hR d 100000 m bs hm h hb
end
end Go.Proofs.YtlhbllaojjelcaaGreat
namespace Go.Proofs.YtlhbllaojjelcaaGreat
open Go.RowKit
open Go.Lib (uvarint uvarint_small uvarint_big uvarint_pos)
theorem zjE:∀(bs:List UInt8)(i x l:Nat),readI i bs=(x,l,0)->(uvarint x).length<=l
 |[],i,x,l,h=>by
  rw[readI]at h;cases h
 |b::r,i,x,l,h=>by
  rw[readI]at h;split at h
  . cases h
  . split at h
    . rename_i hb
      simp only[Prod.mk.injEq]at h;obtain⟨rfl,rfl,_⟩:=h;rw[uvarint_small hb];simp
    . split at h
      . rename_i hc
        simp only[Prod.mk.injEq]at h;obtain⟨rfl,rfl,_⟩:=h;rcases hr:readI (i+1) r with⟨y,k,C⟩
        rw[hr]at hc;simp only at hc;subst hc;have ih:=zjE r (i+1) y k hr;simp only;by_cases hx:b.toNat % 128+128*y<128
        . rw[uvarint_small hx]
          simp
        . rw[uvarint_big (by omega),List.length_cons]
          have:(b.toNat % 128+128*y) / 128=y:=by omega
          rw[this];omega
      . rename_i hc
        simp only[Prod.mk.injEq]at h;exact absurd h.2.2 hc
variable{x:Nat}{bs:List UInt8}
theorem zgW{l:Nat}(h:readV bs=(x,l,0)):(uvarint x).length<=l:=zjE bs 0 x l h
theorem zhZ:∀(k x:Nat),128^k<=x->k+1<=(uvarint x).length
 |0,x,_=>uvarint_pos x
 |k+1,x,h=>by
  have h1:1<=128^k:=Nat.pos_of_ne_zero (by simp);rw[Nat.pow_succ]at h;rw[uvarint_big (by omega),List.length_cons];have:=zhZ k (x / 128) (by omega);omega
theorem ziV{y:Nat}(h:x / 8=y / 8):(uvarint x).length=(uvarint y).length:=by
 by_cases hx:x<128
 . rw[uvarint_small hx,uvarint_small (by omega)]
   simp
 . rw[uvarint_big (by omega),uvarint_big (x:=y) (by omega),List.length_cons,List.length_cons]
   have:x / 128=y / 128:=by omega
   rw[this]
theorem znE(k:Int)(hx:x<18446744073709551616):(uvarint (zay k x)).length<=2*(uvarint x).length:=by
 have hp:=uvarint_pos x;have h10:=Lib.uvarint_length64 (zcJ k hx);by_cases hle:zay k x<=x
 . have:=zce _ _ hle
   omega
 . have hb:268435456<=x:=by
    unfold zay at hle;split at hle
    . unfold wideI zbp at hle
      by_cases h5:(2147483648:Int)<=(x:Int) % 4294967296
      . omega
      . rw[if_neg h5,if_pos (by omega)]at hle
        omega
    . split at hle
      . split at hle<;>omega
      . split at hle<;>omega
   have:=zhZ 4 x (by simpa using hb);omega
variable{k:Int}
theorem zia(h:k<9/\1<=bs.length\/9<=k/\k<12/\bs.length=4\/12<=k/\bs.length=8):(putS k (readS k bs).1).length<=2*bs.length:=by
 rcases h with⟨h1,h2⟩|⟨h1,h2,h3⟩|⟨h1,h2⟩
 . unfold putS
   rw[if_neg (by omega),if_neg (by omega),zfb];unfold readS;have h0:(uvarint 0).length=1:=by rw[uvarint_small (by omega)];simp
   split
   . show(uvarint 0).length<=_
     omega
   . rw[if_neg (by omega),if_neg (by omega)]
     split
     . rename_i hc
       have hv:=zgW (bs:=bs) (x:=(readV bs).1) (l:=(readV bs).2.1) (by rw[<-hc.1]);have:=znE k (zbt bs).1;show(uvarint (zay k (readV bs).1)).length<=_;omega
     . show(uvarint 0).length<=_
       omega
 . unfold putS
   rw[if_neg (by omega),if_pos (by omega),zaB];omega
 . unfold putS
   rw[if_pos (by omega),zaB];omega
theorem zib{k:Int}:∀(f:Nat)(bs:List UInt8),bs.length<=f->(packW k ((valsF k f bs).map fun u=>(readS k u.1).1)).length<=2*bs.length+(if∃u∈valsF k f bs,u.2≠0 then 10 else 0)
 |0,bs,h=>by
  rw[valsF];exact Nat.zero_le _
 |f+1,bs,h=>by
  rw[valsF];split
  . exact Nat.zero_le _
  . split
    . rename_i hne hc
      rcases zdW k bs with⟨_,s1,s2⟩|⟨q,_⟩
      . have ih:=zib (k:=k) f (bs.drop (stepN k bs).1) (by rw[List.length_drop];omega)
        rw[List.length_drop]at ih;have htl:(bs.take (stepN k bs).1).length=(stepN k bs).1:=by rw[List.length_take];omega
        have h1:=zia (k:=k) (bs:=bs.take (stepN k bs).1) (by
         rw[htl];unfold stepN at hc s1⊢;by_cases h9:k<9
         . rw[if_pos h9]at s1⊢
           exact .inl ⟨h9,s1⟩
         . rw[if_neg h9]at hc⊢
           by_cases h12:k<12
           . rw[if_pos h12]at hc⊢
             split at hc
             . cases hc
             . rw[if_neg ‹_›]
               exact .inr (.inl ⟨by omega,h12,rfl⟩)
           . rw[if_neg h12]at hc⊢
             split at hc
             . cases hc
             . rw[if_neg ‹_›]
               exact .inr (.inr ⟨by omega,rfl⟩))
        rw[htl]at h1;simp only[List.map_cons,packW,List.length_append];by_cases he:∃u∈valsF k f (bs.drop (stepN k bs).1),u.2≠0
        . rw[if_pos he]at ih
          obtain⟨u,hu,hu2⟩:=he;rw[if_pos ⟨u,List.mem_cons_of_mem _ hu,hu2⟩];omega
        . rw[if_neg he]at ih
          omega
      . exact absurd hc q
    . rename_i hne hc
      rw[if_pos ⟨_,List.mem_singleton.2 rfl,hc⟩];have:=(zbg (k:=k) (zcU k ([]:List UInt8)).1).2;simp only[List.map_cons,List.map_nil,packW,List.append_nil];omega
theorem znF(k:Int)(bs:List UInt8):(packW k (zbR k bs).1).length<=2*bs.length:=by
 unfold zbR;split
 . rename_i hc
   unfold valsV;split
   . rename_i hk
     have:codeV k bs=2:=by
      unfold codeV valsV;rw[if_pos hk];rfl
     rw[hc]at this;cases this
   . rename_i hk
     have h1:=zib (k:=k) bs.length bs (Nat.le_refl _);rw[if_neg]at h1
     . exact h1
     . rintro⟨u,hu,h2⟩
       obtain⟨j,hj⟩:=List.getElem?_of_mem hu;have:=zfw (k:=k) (bs:=bs) (j:=j) (x:=u) (by unfold valsV;rw[if_neg hk];exact hj) h2;rw[hc]at this;exact h2 this.symm
 . exact Nat.zero_le _
theorem zpd{T V a t:Nat}(h:headV bs=(T,V,a,t,0)):
 (∀w:Nat,w<8->(tagB (T:Int) (w:Int)).length<=a)/\(V=2->∀w:Nat,w<8->(tagB (T:Int) (w:Int)).length+(uvarint (t - a)).length<=a)/\(V=0->1<=t - a)/\(V=1->t - a=8)/\(V=5->t - a=4):=by
 rcases zcz bs with⟨C,h1,h2,_⟩|⟨T',V',N,a',g,ht,hs,h3,h4,h5⟩
 . rw[h]at h1
   simp only[Prod.mk.injEq]at h1;exact absurd h1.2.2.2.2.symm h2
 . rw[h]at h5
   simp only[Prod.mk.injEq]at h5;obtain⟨rfl,rfl,rfl,rfl,_⟩:=h5
   have htag:∀w:Nat,w<8->(tagB (T:Int) (w:Int)).length<=N:=by
    intro w hw;unfold tagV at ht;split at ht
    . rename_i hc
      simp only[Prod.mk.injEq]at ht;exact absurd ht.2.2.2 hc
    . rename_i hc
      have hc:(readV bs).2.2=0:=by simpa using hc
      split at ht
      . simp only[Prod.mk.injEq]at ht
        obtain⟨e1,e2,e3,_⟩:=ht;have hv:=zgW (bs:=bs) (x:=(readV bs).1) (l:=(readV bs).2.1) (by rw[<-hc]);rw[e3]at hv;unfold tagB;rw[ziV (y:=(readV bs).1) (by omega)];exact hv
      . simp only[Prod.mk.injEq]at ht
        exact absurd ht.2.2.2 (by decide)
   have hsz:∀x l c,readV (bs.drop N)=(x,l,c)->c=0->1<=l/\(uvarint x).length<=l:=fun x l c e hc=>by
    subst hc;have h1:=(zbt (bs.drop N)).2.2.2.2.1;rw[e]at h1;exact⟨h1 rfl,zgW e⟩
   rcases hr:readV (bs.drop N)with⟨x,l,c⟩
   have hz:=hsz x l c hr;unfold sizeV at hs;rw[hr]at hs;have e1:N+a'+g - (N+a')=g:=by omega
   rw[e1];refine⟨fun w hw=>by have:=htag w hw;omega,fun hV w hw=> ?_,fun hV=> ?_,fun hV=> ?_,fun hV=> ?_⟩
   . subst hV
     rw[if_neg (by omega),if_neg (by omega),if_neg (by omega)]at hs;simp only[Prod.mk.injEq]at hs;obtain⟨rfl,rfl,rfl⟩:=hs;have:=htag w hw;have:=hz rfl;omega
   . subst hV
     rw[if_pos rfl]at hs;simp only[Prod.mk.injEq]at hs;obtain⟨rfl,rfl,rfl⟩:=hs;exact(hz rfl).1
   . subst hV
     rw[if_neg (by omega),if_pos rfl]at hs;simp only[Prod.mk.injEq]at hs;omega
   . subst hV
     rw[if_neg (by omega),if_neg (by omega),if_pos rfl]at hs;simp only[Prod.mk.injEq]at hs;omega
theorem znG{l:List zaa}{v:ViewD}(h:seenV l v.r=(v,0)){i:Nat}{f:zaa}(hi:v.field=(i:Int))(hf:l[i]?=some f):
 f.number=(v.r.n:Int)/\((v.run=true/\f.rep=true/\zad f.kind=true/\v.r.w=2)\/(v.run=false/\kindB f.kind=true/\wireI f.kind=(v.r.w:Int))):=by
 rcases zaL (numP (v.r.n:Int)) l with⟨h1,_⟩|⟨k,g,h1,h2,h3,_⟩
 . rw[zbw h1]at h
   simp only[Prod.mk.injEq,and_true]at h;rw[<-h]at hi;simp only at hi;omega
 . have hnum:g.number=(v.r.n:Int):=by
    unfold numP at h3;simpa using h3
   have hk:∀{b:Bool},(⟨v.r,(k:Int),b⟩:ViewD)=v->k=i/\b=v.run:=fun{b} e=>by
    constructor
    . rw[<-e]at hi
      simp only at hi;omega
    . rw[<-e]
   rw[zbx h1 h2]at h;split at h
   . rename_i hc
     simp only[Prod.mk.injEq,and_true]at h;obtain⟨rfl,hb⟩:=hk h;rw[h2]at hf;cases hf;simp only[Bool.and_eq_true,beq_iff_eq]at hc;exact⟨hnum,.inl ⟨hb.symm,hc.1.1,hc.1.2,hc.2⟩⟩
   . split at h
     . rename_i hc
       simp only[Prod.mk.injEq,and_true]at h;obtain⟨rfl,hb⟩:=hk h;rw[h2]at hf;cases hf;exact⟨hnum,.inr ⟨hb.symm,hc.1,hc.2⟩⟩
     . simp only[Prod.mk.injEq]at h
       exact absurd h.2 (by decide)
theorem zlK{α:Type}{g:α->List UInt8}{c:Nat}{j:α}(hc:(g j).length<=c):∀{l:List α},l.Nodup->(∀x∈l,x≠j->g x=[])->(l.flatMap g).length<=c
 |[],_,_=>Nat.zero_le _
 |x::l,hn,h=>by
  rw[List.nodup_cons]at hn;rw[List.flatMap_cons,List.length_append];by_cases e:x=j
  . subst e
    have:l.flatMap g=[]:=by
     rw[List.flatMap_eq_nil_iff];intro y hy;exact h y (List.mem_cons_of_mem _ hy) (fun e=>hn.1 (by rw[<-e];exact hy))
    rw[this];simpa using hc
  . rw[h x List.mem_cons_self e]
    have:=zlK hc hn.2 (fun y hy=>h y (List.mem_cons_of_mem _ hy));simpa using this
theorem zeM(h:kindB k=true):(k<9/\wireI k=0)\/(9<=k/\k<12/\wireI k=5)\/(12<=k/\k<15/\wireI k=1)\/(15<=k/\wireI k=2):=by
 unfold kindB at h;have h:=of_decide_eq_true h;unfold wireI;by_cases h8:k<=8
 . rw[if_pos h8]
   exact .inl ⟨by omega,rfl⟩
 . rw[if_neg h8]
   by_cases h11:k<=11
   . rw[if_pos h11]
     exact .inr (.inl ⟨by omega,by omega,rfl⟩)
   . rw[if_neg h11]
     by_cases h14:k<=14
     . rw[if_pos h14]
       exact .inr (.inr (.inl ⟨by omega,by omega,rfl⟩))
     . rw[if_neg h14]
       exact .inr (.inr (.inr ⟨by omega,rfl⟩))
section
variable {se:Nat->MsgT->List UInt8} {sub:Nat->List UInt8->MsgT} {f:zaa} {bs:List UInt8} {fs:List zaa} {S:List MsgD} {m:Nat} {M:MsgD}
theorem zmA{n w:Int}{v:List UInt8}(hw:w≠2):(putB n w v).length=(tagB n w).length+v.length:=by
 unfold putB;rw[if_neg hw,List.length_append,List.length_append];simp
theorem zjF(hR:zan S=true)(hM:S[m]?=some M){v:ViewD}(hv:(zac M.fields bs).1=[v])(hl:lookV M.fields bs 0=(v,0))(ht:v.r.t=bs.length){d:Nat}(hb:(zaq S d m bs).2=0)(hsub:∀(e o:Nat)(x:List UInt8),d=e+1->o<S.length->(zaq S e o x).2=0->x.length+1<=bs.length->(se o (sub o x)).length<=2*x.length):
 (encC se S m (ofM sub S m bs)).flatten.length<=2*bs.length:=by
 obtain⟨g1,g2,g3,g4,g5,g6⟩:=zfL hl;have hseen:=(zbZ hl).2;rw[zhT hR hM,ziU,List.length_append];have hn:(sortK (keyF M.fields) M.fields.length).Nodup:=(zcf (keyF M.fields) M.fields.length).nodup_iff.2 List.nodup_range
 have hvl:(zal bs v).length=v.r.t - v.r.a:=by
  unfold zal;exact zaI bs (by omega)
 by_cases hneg:v.field<0
 . have hz:(sortK (keyF M.fields) M.fields.length).flatMap (zbW se sub M.fields bs (zac M.fields bs).1)=[]:=by
    rw[List.flatMap_eq_nil_iff];intro i _;refine zbN ?_;rw[hv];unfold zaf;rw[List.filter_cons,if_neg (by simp only[beq_iff_eq];omega)];rfl
   rw[hz,hv,List.filter_cons,if_pos (by simpa using hneg)];simp only[List.filter_nil,List.flatMap_cons,List.flatMap_nil,List.append_nil,List.length_nil];rw[zaI bs (by omega)];omega
 . obtain⟨i,hi⟩:=Int.eq_ofNat_of_zero_le (show 0<=v.field by omega)
   have hu:((zac M.fields bs).1.filter fun v=>decide (v.field<0))=[]:=by
    rw[hv,List.filter_cons,if_neg (by simpa using hneg)];rfl
   rw[hu]
   have hV:zaf (zac M.fields bs).1 i=[v]:=by
    rw[hv];unfold zaf;rw[List.filter_cons,if_pos (by simp[hi])];rfl
   have hmem:v∈(zac M.fields bs).1:=by rw[hv];exact List.mem_singleton.2 rfl
   obtain⟨f,hf⟩:∃f,M.fields[i]?=some f:=by
    rcases zho hmem with q|⟨k,f,e1,e2,_⟩
    . omega
    . obtain rfl:k=i:=by omega
      exact⟨f,e2⟩
   have hone:(zbW se sub M.fields bs (zac M.fields bs).1 i).length<=2*bs.length:=by
    rw[zbM hf (by rw[hV];simp),hV];simp only[List.flatMap_cons,List.flatMap_nil,List.append_nil];obtain⟨q1,q2⟩:=znG hseen hi hf;obtain⟨s1,s2,s3,s4,s5⟩:=zpd g1;rw[<-q1]at s1 s2;rcases q2 with⟨r1,r2,r3,r4⟩|⟨r1,r2,r3⟩
    . have hw:zaw f bs v=(zbR f.kind (zal bs v)).1:=by
       unfold zaw;rw[if_pos r1]
      have hp:zam f bs v=[]:=by
       unfold zam;rw[if_pos r1]
      rw[hp,zcs r3 r2];split
      . exact Nat.zero_le _
      . have h1:=znF f.kind (zal bs v)
        rw[<-hw,hvl]at h1;have h2:=s2 r4 2 (by omega);have h3:=zce _ _ h1;have h4:=zem (v.r.t - v.r.a) (v.r.t - v.r.a);rw[<-Nat.two_mul]at h4;rw[zcB];have h5:((2:Nat):Int)=2:=rfl;rw[h5]at h2;omega
    . rcases hnb:zad f.kind with _|_
      . have hw:zaw f bs v=[]:=by
         unfold zaw;rw[r1,hnb];rfl
        have hp:zam f bs v=[zal bs v]:=by
         unfold zam;rw[r1,hnb];rfl
        have hV2:v.r.w=2:=by
         have:=zcX r2 hnb;omega
        have h2:=s2 hV2 2 (by omega);have h5:((2:Nat):Int)=2:=rfl;rw[h5]at h2;rw[hw,hp];by_cases h17:f.kind=17
        . obtain⟨o,ho1,ho2⟩:=zcj hR hM hf h17
          obtain⟨e,hde,ev⟩:=zgV hR hM hf h17 hb (by rw[hV];simp);have h1:=hsub e f.of_.toNat (zal bs v) hde (by rw[ho1];exact ho2) (ev v (by rw[hV];exact List.mem_singleton.2 rfl)).2 (by omega);rw[hvl]at h1;have h3:=zce _ _ h1;have h4:=zem (v.r.t - v.r.a) (v.r.t - v.r.a);rw[<-Nat.two_mul]at h4;rcases hr:f.rep with _|_
          . rw[zct h17 hr]
            simp only[List.flatten_cons,List.flatten_nil,List.append_nil];rw[zcB];omega
          . rw[zcu h17 hr]
            simp only[List.map_cons,List.map_nil,List.flatten_cons,List.flatten_nil,List.append_nil];rw[zcB];omega
        . rcases hr:f.rep with _|_
          . have:=zdb (se:=se) (sub:=sub) hnb h17 hr (ps:=[]) (x:=zal bs v)
            rw[List.nil_append]at this;rw[this,zcB,hvl];omega
          . rw[zcd hnb h17 hr]
            simp only[List.map_cons,List.map_nil,List.flatten_cons,List.flatten_nil,List.append_nil];rw[zcB,hvl];omega
      . have hw:zaw f bs v=[(readS f.kind (zal bs v)).1]:=by
         unfold zaw;rw[r1,hnb];rfl
        have hp:zam f bs v=[]:=by
         unfold zam;rw[r1,hnb];rfl
        have h1:=zia (k:=f.kind) (bs:=zal bs v) (by
         rw[hvl];unfold zad at hnb;have hnb:=of_decide_eq_true hnb;rcases zeM r2 with⟨c1,c2⟩|⟨c1,c2,c3⟩|⟨c1,c2,c3⟩|⟨c1,_⟩
         . exact .inl ⟨c1,s3 (by omega)⟩
         . exact .inr (.inl ⟨c1,c2,s5 (by omega)⟩)
         . exact .inr (.inr ⟨c1,s4 (by omega)⟩)
         . omega)
        rw[hvl]at h1;rw[hw,hp];have hx:=(zcU f.kind (zal bs v)).1;have h10:=zbg (k:=f.kind) hx;rcases hr:f.rep with _|_
        . have:=zda (se:=se) (sub:=sub) hnb hr (ws:=[]) (x:=(readS f.kind (zal bs v)).1)
          rw[List.nil_append]at this;rw[this,r3]
          have hw8:v.r.w<8:=by
           rcases zeM r2 with⟨c1,c2⟩|⟨c1,c2,c3⟩|⟨c1,c2,c3⟩|⟨c1,_⟩<;>omega
          have hw2:(v.r.w:Int)≠2:=by
           unfold zad at hnb;have hnb:=of_decide_eq_true hnb;rcases zeM r2 with⟨c1,c2⟩|⟨c1,c2,c3⟩|⟨c1,c2,c3⟩|⟨c1,_⟩<;>omega
          have h2:=s1 v.r.w hw8;rw[zmA hw2];omega
        . rw[zcs hnb hr,if_neg (by simp)]
          have h2:=s1 2 (by omega);have h5:((2:Nat):Int)=2:=rfl;rw[h5]at h2;rw[zcB];simp only[packW,List.append_nil];rw[uvarint_small (x:=(putS f.kind (readS f.kind (zal bs v)).1).length) (by omega)];simp only[List.length_cons,List.length_nil];omega
   have h1:=zlK hone hn (fun x _ hx=>zbN (se:=se) (sub:=sub) (fs:=M.fields) (bs:=bs) (by
    rw[hv];unfold zaf;rw[List.filter_cons,if_neg (by simp only[beq_iff_eq];omega)]
    rfl))
   simpa using h1
theorem zfn{S:List MsgD}(hR:zan S=true):∀(n D d m:Nat)(bs:List UInt8),bs.length<=n->m<S.length->(zaq S d m bs).2=0->bs.length<=100000->(encV S D m (ofV S D m bs)).length<=2*bs.length
 |0,D,d,m,bs,hn,hm,hb,hl=>by
  have:=zfm hR D m bs hl;omega
 |n+1,D,d,m,bs,hn,hm,hb,hl=>by
  by_cases hne:bs=[]
  . have:=zfm hR D m bs hl
    rw[hne]at this⊢;simpa using this
  . obtain⟨M,hM⟩:∃M,S[m]?=some M:=⟨_,List.getElem?_eq_getElem hm⟩
    obtain⟨v,h1,h2,h3,h4,h5,_,h7⟩:=zmw hM hb hne;by_cases ht:v.r.t=bs.length
    . have hd0:bs.drop v.r.t=[]:=List.drop_of_length_le (by omega)
      rw[hd0,zmS]at h7;have hv:(zac M.fields bs).1=[v]:=h7;rcases D with _|D
      . rw[encV,ofV]
        exact zjF hR hM hv h1 ht hb (fun _ _ _ _ _ _ _=>Nat.zero_le _)
      . rw[encV,ofV]
        exact zjF hR hM hv h1 ht hb (fun e o x _ ho hx hxl=>zfn hR n D e o x (by omega) ho hx (by omega))
    . have hbs:bs.take v.r.t++bs.drop v.r.t=bs:=List.take_append_drop _ _
      have hb1:=zlJ hR D d m _ _ hm h4 h5;rw[hbs]at hb1;have htl:(bs.take v.r.t).length=v.r.t:=by rw[List.length_take];omega
      have hdl:(bs.drop v.r.t).length=bs.length - v.r.t:=List.length_drop;have i1:=zfn hR n D d m (bs.take v.r.t) (by omega) hm h4 (by omega);have i2:=zfn hR n D d m (bs.drop v.r.t) (by omega) hm h5 (by omega);omega
theorem zmB{S:List MsgD}(hR:zan S=true){d m:Nat}{bs:List UInt8}(hm:m<S.length)(h:(zaq S d m bs).2=0)(hb:bs.length<=100000):(normB S m bs).length<=2*bs.length:=zfn hR bs.length 100000 d m bs (Nat.le_refl _) hm h hb
end
end Go.Proofs.YtlhbllaojjelcaaGreat
namespace Go.Proofs.YtlhbllaojjelcaaGreat
open Go.RowKit
section
variable {S:List MsgD}
def RR(S:List MsgD)(m:Nat)(x:MsgT):Prop:=∃d,zaE S d m x
def RI(S:List MsgD)(root:Int)(x:MsgT):Prop:=0<=root/\RR S root.toNat x
theorem zbB.mono{rs rs':Nat->MsgT->Prop}{f:zaa}{v:ValT}(hv:zbB rs f v)(h:∀y∈v.subs,rs f.of_.toNat y->rs' f.of_.toNat y):zbB rs' f v:=by
 obtain⟨h1,h2,h3,h4⟩:=hv;refine⟨h1,h2,h3,?_⟩;rcases h4 with h4|h4|⟨h4,h5,h6,h7⟩
 . exact .inl h4
 . exact .inr (.inl h4)
 . exact .inr (.inr ⟨h4,h5,h6,fun y hy=>h y hy (h7 y hy)⟩)
theorem zpV{m:Nat}:∀{l:List MsgT},(∀y∈l,RR S m y)->∃d,∀y∈l,zaE S d m y
 |[],_=>⟨0,fun y hy=>by cases hy⟩
 |y::l,h=>by
  obtain⟨d,hd⟩:=zpV (l:=l) (fun z hz=>h z (List.mem_cons_of_mem _ hz));obtain⟨e,he⟩:=h y List.mem_cons_self;refine⟨max d e,fun z hz=> ?_⟩;rcases List.mem_cons.1 hz with rfl|hz
  . exact he.more (by omega)
  . exact(hd z hz).more (by omega)
theorem znH{M:MsgD}:∀{l:List ValT},(∀v∈l,∃(i:Nat)(f:zaa),M.fields[i]?=some f/\zbB (RR S) f v)->∃d,∀v∈l,∃(i:Nat)(f:zaa),M.fields[i]?=some f/\zbB (zaE S d) f v
 |[],_=>⟨0,fun y hy=>by cases hy⟩
 |v::l,h=>by
  obtain⟨d,hd⟩:=znH (l:=l) (fun z hz=>h z (List.mem_cons_of_mem _ hz));obtain⟨i,f,hf,hv⟩:=h v List.mem_cons_self;have hv':=hv;obtain⟨_,_,_,h4⟩:=hv'
  obtain⟨e,he⟩:∃e,zbB (zaE S e) f v:=by
   rcases h4 with h4|h4|⟨h4,h5,h6,h7⟩
   . exact⟨0,hv.mono fun y hy _=>by rw[h4.2.2.1]at hy;cases hy⟩
   . exact⟨0,hv.mono fun y hy _=>by rw[h4.2.2.2.2.1]at hy;cases hy⟩
   . obtain⟨e,he⟩:=zpV h7
     exact⟨e,hv.mono fun y hy _=>he y hy⟩
  refine⟨max d e,fun z hz=> ?_⟩;rcases List.mem_cons.1 hz with rfl|hz
  . exact⟨i,f,hf,he.mono fun y hy q=>q.more (by omega)⟩
  . obtain⟨j,g,hg,hz'⟩:=hd z hz
    exact⟨j,g,hg,hz'.mono fun y hy q=>q.more (by omega)⟩
theorem zpW{m:Nat}{x:MsgT}:RR S m x<->zaO (RR S) S m x:=by
 constructor
 . rintro⟨d,h⟩
   rcases d with _|d
   . have h':zaO (fun _ _=>False) S m x:=h
     exact h'.mono (fun _ _ q=>q.elim)
   . have h':zaO (zaE S d) S m x:=h
     exact h'.mono (fun _ _ q=>⟨d,q⟩)
 . rintro⟨M,hM,hp,hv,hu⟩
   obtain⟨d,hd⟩:=znH hv;exact⟨d+1,M,hM,hp,hd,hu⟩
def FitP(S:List MsgD)(f:zaa)(v:ValT):Prop:=
 manyU v≠0/\(f.rep=false->manyU v=1)/\
  ((zad f.kind=true/\v.texts=[]/\v.subs=[]/\∀w∈v.words,zay f.kind w=w)\/
    (zad f.kind=false/\kindB f.kind=true/\f.kind≠17/\v.words=[]/\v.subs=[]/\(f.kind=15->∀t∈v.texts,zcO t.data.toList=true))\/
    (f.kind=17/\v.words=[]/\v.texts=[]/\∀y∈v.subs,RI S f.of_ y))
def zci(fs:List zaa)(t:ByteArray):Prop:=∃T V a,headV t.data.toList=(T,V,a,t.data.toList.length,0)/\fs.find? (fun f=>f.number==(T:Int))=none
theorem znI{f:zaa}{v:ValT}(hn:v.number=f.number)(h0:f.kind=17->0<=f.of_)(h64:∀w∈v.words,w<18446744073709551616):zbB (RR S) f v<->FitP S f v:=by
 unfold zbB FitP;constructor
 . rintro⟨_,h2,h3,h4⟩
   refine⟨h2,h3,?_⟩;rcases h4 with⟨a,b,c,d⟩|h4|⟨h4,h5,h6,h7⟩
   . exact .inl ⟨a,b,c,fun w hw=>(d w hw).2⟩
   . exact .inr (.inl h4)
   . exact .inr (.inr ⟨h4,h5,h6,fun y hy=>⟨h0 h4,h7 y hy⟩⟩)
 . rintro⟨h2,h3,h4⟩
   refine⟨hn,h2,h3,?_⟩;rcases h4 with⟨a,b,c,d⟩|h4|⟨h4,h5,h6,h7⟩
   . exact .inl ⟨a,b,c,fun w hw=>⟨h64 w hw,d w hw⟩⟩
   . exact .inr (.inl h4)
   . exact .inr (.inr ⟨h4,h5,h6,fun y hy=>(h7 y hy).2⟩)
def valsP(ok:ValT->Prop):Int->List ValT->Prop
 |_,[]=>True
 |last,v::l=>last<v.number/\ok v/\valsP ok v.number l
theorem zjG{ok:ValT->Prop}:∀{last:Int}{l:List ValT},valsP ok last l<->(∀v∈l,last<v.number)/\l.Pairwise (fun u v=>u.number<v.number)/\∀v∈l,ok v
 |last,[]=>by simp[valsP]
 |last,v::l=>by
  unfold valsP;rw[zjG (last:=v.number) (l:=l)];simp only[List.mem_cons,List.pairwise_cons,forall_eq_or_imp];constructor
  . rintro⟨h1,h2,h3,h4,h5⟩
    exact⟨⟨h1,fun u hu=>by have:=h3 u hu;omega⟩,⟨h3,h4⟩,h2,h5⟩
  . rintro⟨⟨h1,_⟩,⟨h3,h4⟩,h2,h5⟩
    exact⟨h1,h2,h3,h4,h5⟩
def OkP(S:List MsgD)(M:MsgD)(v:ValT):Prop:=∃f,M.fields.find? (fun g=>g.number==v.number)=some f/\FitP S f v
theorem zrz(hR:zan S=true){m:Nat}{M:MsgD}(hM:S[m]?=some M){x:MsgT}(h64:∀v∈x.vals,∀w∈v.words,w<18446744073709551616):
 RI S (m:Int) x<->valsP (OkP S M) 0 x.vals/\∀t∈x.unk,zci M.fields t:=by
 unfold RI;rw[Int.toNat_natCast,zpW,zjG]
 have hfld:∀(i:Nat)(f:zaa),M.fields[i]?=some f->1<=f.number/\(f.kind=17->0<=f.of_):=fun i f hf=>by
  refine⟨(zdS (zeO ((zbk hR hM).2.2.2 i f hf)).2.2.1).1,fun h17=> ?_⟩;obtain⟨o,ho,_⟩:=zcj hR hM hf h17;omega
 constructor
 . rintro⟨_,M',hM',hp,hv,hu⟩
   rw[hM]at hM';cases hM';refine⟨⟨fun v hvm=> ?_,hp,fun v hvm=> ?_⟩,hu⟩
   . obtain⟨i,f,hf,h1,_⟩:=hv v hvm
     have:=(hfld i f hf).1;omega
   . obtain⟨i,f,hf,hF⟩:=hv v hvm
     refine⟨f,?_,(znI hF.1 (hfld i f hf).2 (h64 v hvm)).1 hF⟩;rw[hF.1];exact(zaX (p:=fun g:zaa=>decide (g.number=f.number)) (l:=M.fields)).2 i f (zaQ hR hM hf).2 hf
 . rintro⟨⟨_,hp,hv⟩,hu⟩
   refine⟨by omega,M,hM,hp,fun v hvm=> ?_,hu⟩;obtain⟨f,hf,hF⟩:=hv v hvm;have hn:f.number=v.number:=by simpa using List.find?_some hf
   obtain⟨i,hi⟩:=List.getElem?_of_mem (List.mem_of_find?_eq_some hf);exact⟨i,f,hi,(znI hn.symm (hfld i f hi).2 (h64 v hvm)).2 hF⟩
end
section
variable {fs:List zaa} {bs:List UInt8} {i:Nat} {f:zaa} {sub sub':Nat->List UInt8->MsgT} {S:List MsgD}
theorem zlL(hR:zan S=true){m:Nat}(hb:bs.length<=100000)(h:∀m' b',b'.length<bs.length->FitT 100000000 (sub m' b')):FitT 100000000 (ofM sub S m bs):=by
 unfold ofM;split
 . exact .mk _ (Nat.zero_le _) (Nat.zero_le _) (fun v hv=>by cases hv) (fun v hv=>by cases hv)
 . rename_i M hM
   have hn:=(zbk hR hM).2.2.1
   have hall:∀v∈(sortK (keyF M.fields) M.fields.length).filterMap (zcl sub M.fields bs (zac M.fields bs).1),∃i f,M.fields[i]?=some f/\zaf (zac M.fields bs).1 i≠ []/\v=zaM sub f ((zaf (zac M.fields bs).1 i).flatMap (zaw f bs)) ((zaf (zac M.fields bs).1 i).flatMap (zam f bs)):=fun v hv=>by
    obtain⟨i,_,hi⟩:=List.mem_filterMap.1 hv;obtain⟨f,h1,h2,h3,_⟩:=zdF hi;exact⟨i,f,h1,h2,h3⟩
   refine .mk _ ?_ ?_ (fun v hv=> ?_) (fun v hv y hy=> ?_)
   . refine Nat.le_trans (List.length_filterMap_le _ _) ?_
     rw[zcL];omega
   . show(List.map _ _).length<=_
     rw[List.length_map];have h1:=List.length_filter_le (fun v:ViewD=>decide (v.field<0)) (zac M.fields bs).1;have h2:=(zhd M.fields bs).2.1;omega
   . obtain⟨i,f,hf,hne,rfl⟩:=hall v hv
     have h1:=zdo f bs (zaf (zac M.fields bs).1 i) (fun v hv=>(zaW hv).2.2.2);have h2:=(zdD f bs (zaf (zac M.fields bs).1 i) (fun v hv=>(zaW hv).2.2.2)).1;have h3:=zfA (fs:=M.fields) (bs:=bs) (i:=i);exact zoe (by omega) (by omega)
   . obtain⟨i,f,hf,hne,rfl⟩:=hall v hv
     have hy':y∈(if f.kind=17 then(zas f ((zaf (zac M.fields bs).1 i).flatMap (zam f bs))).map (sub f.of_.toNat)else[]):=hy;split at hy'
     . obtain⟨x,hx,rfl⟩:=List.mem_map.1 hy'
       rw[zdE]at hx;have:=zdp hf hne hx;exact h _ _ (by omega)
     . cases hy'
theorem znJ(hR:zan S=true):∀(d m:Nat)(bs:List UInt8),bs.length<=100000->FitT 100000000 (ofV S d m bs)
 |0,m,bs,h=>zlL hR h (fun m' b' _=>.mk _ (Nat.zero_le _) (Nat.zero_le _) (fun v hv=>by cases hv) (fun v hv=>by cases hv))
 |d+1,m,bs,h=>zlL hR h (fun m' b' hb=>znJ hR d m' b' (by omega))
end
end Go.Proofs.YtlhbllaojjelcaaGreat
