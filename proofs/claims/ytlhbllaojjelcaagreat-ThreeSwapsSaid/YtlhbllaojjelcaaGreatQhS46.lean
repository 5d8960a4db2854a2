/- Plain words of layer 26: what becomes of three is no longer than the two, and no larger. No program is named. -/
import Derived.Test.YtlhbllaojjelcaaGreatQhW20f

set_option linter.unusedVariables false
namespace Go.Proofs.YtlhbllaojjelcaaGreat
open Go.RowKit
open Go.Lib (uvarint)
section
variable {rec:Three} {f:zaa} {S:List MsgD} {m:Nat} {M:MsgD} {se:Nat->MsgT->List UInt8}
def wE(se:Nat->MsgT->List UInt8)(fs:List zaa)(v:ValT):List UInt8:=(match fs.find? (fun f:zaa=>f.number==v.number)with|none=>[]|some f=>zaU se f v).flatten
theorem zeo(hM:S[m]?=some M)(x:MsgT):(encC se S m x).flatten=x.vals.flatMap (wE se M.fields)++x.unk.flatMap fun t=>t.data.toList:=by
 unfold encC;rw[hM];simp only;rw[List.flatten_append];congr 1
 . induction x.vals with
   |nil=>rfl
   |cons v l ih=>
    rw[List.flatMap_cons,List.flatMap_cons,List.flatten_append,ih];rfl
def oE(se:Nat->MsgT->List UInt8)(fs:List zaa)(v:Option ValT):Nat:=match v with
 |none=>0
 |some u=>(wE se fs u).length
theorem zdA(F:List Nat)(q:Nat->Option ValT)(fs:List zaa):((F.filterMap q).flatMap (wE se fs)).length=(F.map fun i=>oE se fs (q i)).sum:=by
 induction F with
 |nil=>rfl
 |cons i F ih=>
  rw[List.filterMap_cons,List.map_cons,List.sum_cons,<-ih];rcases q i with _|v
  . simp[oE]
  . rw[List.flatMap_cons,List.length_append]
    rfl
theorem zlQ{F:List Nat}{p a b:Nat->Nat}(h:∀i∈F,p i<=a i+b i):(F.map p).sum<=(F.map a).sum+(F.map b).sum:=by
 induction F with
 |nil=>exact Nat.zero_le _
 |cons i F ih=>
  have h1:=h i List.mem_cons_self;have h2:=ih (fun j hj=>h j (List.mem_cons_of_mem _ hj));simp only[List.map_cons,List.sum_cons];omega
theorem zie(hR:zan S=true)(hM:S[m]?=some M){i:Nat}(hf:M.fields[i]?=some f):M.fields.find? (fun g=>g.number==f.number)=some f:=
 (zaX (p:=fun g:zaa=>decide (g.number=f.number)) (l:=M.fields)).2 i f (zaQ hR hM hf).2 hf
theorem zmG(hR:zan S=true)(hM:S[m]?=some M){i:Nat}(hf:M.fields[i]?=some f){rs:Nat->MsgT->Prop}(hrec:∀(m:Nat)(o a b:MsgT)(way:Way),rs m a->rs m b->(se m (rec m o a b way).1).length<=(se m a).length+(se m b).length){o a b:Option ValT}{way:Way}(ha:∀v,a=some v->zbB rs f v)(hb:∀v,b=some v->zbB rs f v):oE se M.fields (zav rec f o a b way).1<=oE se M.fields a+oE se M.fields b:=by
 unfold zav;split
 . exact Nat.le_add_right _ _
 . split
   . exact Nat.le_add_left _ _
   . split
     . rename_i h4
       obtain⟨h17,hr,hna,hnb⟩:=h4;obtain⟨va,rfl⟩:=Option.ne_none_iff_exists'.1 hna;obtain⟨vb,rfl⟩:=Option.ne_none_iff_exists'.1 hnb;obtain⟨ya,sa,ea,ra⟩:=zcm (ha va rfl) h17 hr;obtain⟨yb,sb,eb,rb⟩:=zcm (hb vb rfl) h17 hr
       have hk:zad f.kind=false:=by
        rcases hk:zad f.kind with _|_
        . rfl
        . exact absurd h17 (zbb hk)
       have hff:=zie hR hM hf
       have one:∀(v:ValT)(y:MsgT),v.number=f.number->v.texts=[]->v.subs=[y]->oE se M.fields (some v)=(putB f.number 2 (se f.of_.toNat y)).length:=fun v y e1 e2 e3=>by
        show(wE se M.fields v).length=_;unfold wE;rw[e1,hff];simp only;unfold zaU;rw[if_neg (by rw[hk];decide),e2,e3];simp
       have ta:va.texts=[]:=by
        rcases(ha va rfl).2.2.2 with q|q|q
        . exact absurd h17 (zbb q.1)
        . exact absurd h17 q.2.2.1
        . exact q.2.2.1
       have tb:vb.texts=[]:=by
        rcases(hb vb rfl).2.2.2 with q|q|q
        . exact absurd h17 (zbb q.1)
        . exact absurd h17 q.2.2.1
        . exact q.2.2.1
       rw[one _ _ rfl rfl rfl,one va ya (ha va rfl).1 ta sa,one vb yb (hb vb rfl).1 tb sb,ea,eb];exact zgU (hrec _ _ _ _ _ ra rb)
     . exact Nat.le_add_right _ _
theorem zgl(hR:zan S=true){rs:Nat->MsgT->Prop}(hrec:∀(m:Nat)(o a b:MsgT)(way:Way),rs m a->rs m b->(se m (rec m o a b way).1).length<=(se m a).length+(se m b).length){o a b:MsgT}(ha:zaO rs S m a)(hb:zaO rs S m b)(way:Way):
 (encC se S m (zbS rec S m o a b way).1).flatten.length<=(encC se S m a).flatten.length+(encC se S m b).flatten.length:=by
 obtain⟨M,hM,_⟩:=id ha;rw[zeo hM,zeo hM,zeo hM,<-zdH hR hM ha,<-zdH hR hM hb]
 have e:(zbS rec S m o a b way).1=.mk () () ((sortK (keyF M.fields) M.fields.length).filterMap fun i=>(zbh rec M.fields o a b way i).1) (unkT o a b way).1:=by
  unfold zbS;rw[hM]
 rw[e];simp only[List.length_append]
 have h1:(((MsgX.mk () () ((sortK (keyF M.fields) M.fields.length).filterMap fun i=>(zbh rec M.fields o a b way i).1) (unkT o a b way).1:MsgT).vals).flatMap (wE se M.fields)).length<=(((sortK (keyF M.fields) M.fields.length).filterMap fun i=>sideT a (keyF M.fields i)).flatMap (wE se M.fields)).length+(((sortK (keyF M.fields) M.fields.length).filterMap fun i=>sideT b (keyF M.fields i)).flatMap (wE se M.fields)).length:=by
  show(((sortK (keyF M.fields) M.fields.length).filterMap fun i=>(zbh rec M.fields o a b way i).1).flatMap (wE se M.fields)).length<=_;rw[zdA,zdA,zdA];refine zlQ fun i hi=> ?_
  obtain⟨f,hf⟩:∃f,M.fields[i]?=some f:=⟨_,List.getElem?_eq_getElem (zbl.1 hi)⟩
  unfold zbh;rw[hf,zdi hf];exact zmG hR hM hf hrec (fun v hv=>zbP hR hM ha hf hv) (fun v hv=>zbP hR hM hb hf hv)
 have h2:(((MsgX.mk () () ((sortK (keyF M.fields) M.fields.length).filterMap fun i=>(zbh rec M.fields o a b way i).1) (unkT o a b way).1:MsgT).unk).flatMap fun t=>t.data.toList).length<=(a.unk.flatMap fun t=>t.data.toList).length+(b.unk.flatMap fun t=>t.data.toList).length:=by
  show((unkT o a b way).1.flatMap fun t=>t.data.toList).length<=_;unfold unkT;split
  . exact Nat.le_add_right _ _
  . split
    . exact Nat.le_add_left _ _
    . exact Nat.le_add_right _ _
 omega
theorem zgm(hR:zan S=true):∀(d m:Nat)(o a b:MsgT)(way:Way),zaE S d m a->zaE S d m b->(encV S d m (zcg S d m o a b way).1).length<=(encV S d m a).length+(encV S d m b).length
 |0,m,o,a,b,way,ha,hb=>zgl hR (rs:=fun _ _=>False) (fun _ _ _ _ _ h _=>h.elim) ha hb way
 |d+1,m,o,a,b,way,ha,hb=>zgl hR (fun m o a b way ha hb=>zgm hR d m o a b way ha hb) ha hb way
theorem zfr{x:MsgT}{N:Int}{v:ValT}(h:sideT x N=some v):v∈x.vals:=List.mem_of_find?_eq_some h
theorem ziW{B:Nat}{x:MsgT}(h:FitT B x)(N:Int):FitT B (subT (sideT x N)):=by
 rcases hs:sideT x N with _|v
 . exact .mk _ (Nat.zero_le _) (Nat.zero_le _) (fun v hv=>by cases hv) (fun v hv=>by cases hv)
 . show FitT B (v.subs.head?.getD (.mk () () [] []))
   rcases hq:v.subs with _|⟨y,l⟩
   . exact .mk _ (Nat.zero_le _) (Nat.zero_le _) (fun v hv=>by cases hv) (fun v hv=>by cases hv)
   . exact h.sub v (zfr hs) y (by rw[hq];exact List.mem_cons_self)
theorem zif{B:Nat}{x:MsgT}(h:zaS B x)(N:Int):zaS B (subT (sideT x N)):=by
 rcases hs:sideT x N with _|v
 . exact .mk _ (fun t ht=>by cases ht) (fun v hv=>by cases hv)
 . show zaS B (v.subs.head?.getD (.mk () () [] []))
   rcases hq:v.subs with _|⟨y,l⟩
   . exact .mk _ (fun t ht=>by cases ht) (fun v hv=>by cases hv)
   . exact h.sub v (zfr hs) y (by rw[hq];exact List.mem_cons_self)
theorem zep{fs:List zaa}{o a b:MsgT}{way:Way}{i:Nat}{v:ValT}(h:(zbh rec fs o a b way i).1=some v):
 v∈a.vals\/v∈b.vals\/∃f,fs[i]?=some f/\v=⟨(),(),(),f.number,[],[],[(rec f.of_.toNat (subT (sideT o f.number)) (subT (sideT a f.number)) (subT (sideT b f.number)) (way++[f.number])).1]⟩:=by
 unfold zbh at h;rcases hf:fs[i]? with _|f
 . rw[hf]at h
   cases h
 rw[hf]at h;simp only at h;unfold zav at h;split at h
 . exact .inl (zfr h)
 . split at h
   . exact .inr (.inl (zfr h))
   . split at h
     . simp only[Option.some.injEq]at h
       exact .inr (.inr ⟨f,rfl,h.symm⟩)
     . exact .inl (zfr h)
theorem zig{B:Nat}(hB:1<=B)(hn:∀M,S[m]?=some M->M.fields.length<=B)(hrec:∀(m:Nat)(o a b:MsgT)(way:Way),FitT B a->FitT B b->FitT B (rec m o a b way).1){o a b:MsgT}(ha:FitT B a)(hb:FitT B b)(way:Way):FitT B (zbS rec S m o a b way).1:=by
 unfold zbS;rcases hM:S[m]? with _|M
 . exact .mk _ (Nat.zero_le _) (Nat.zero_le _) (fun v hv=>by cases hv) (fun v hv=>by cases hv)
 simp only;refine .mk _ ?_ ?_ (fun v hv=> ?_) (fun v hv y hy=> ?_)
 . refine Nat.le_trans (List.length_filterMap_le _ _) ?_
   rw[zcL];exact hn M hM
 . show(unkT o a b way).1.length<=B
   unfold unkT;split
   . exact ha.unk
   . split
     . exact hb.unk
     . exact ha.unk
 . obtain⟨i,_,hi⟩:=List.mem_filterMap.1 hv
   rcases zep hi with h|h|⟨f,_,rfl⟩
   . exact ha.each v h
   . exact hb.each v h
   . exact⟨Nat.zero_le _,Nat.zero_le _,hB⟩
 . obtain⟨i,_,hi⟩:=List.mem_filterMap.1 hv
   rcases zep hi with h|h|⟨f,_,rfl⟩
   . exact ha.sub v h y hy
   . exact hb.sub v h y hy
   . have hy:=List.mem_singleton.1 (show y∈ [_]from hy)
     subst hy;exact hrec _ _ _ _ _ (ziW ha _) (ziW hb _)
theorem zfO{B:Nat}(hB:1<=B)(hn:∀(m:Nat) M,S[m]?=some M->M.fields.length<=B):∀(d m:Nat)(o a b:MsgT)(way:Way),FitT B a->FitT B b->FitT B (zcg S d m o a b way).1
 |0,m,o,a,b,way,ha,hb=>zig hB (hn m) (fun _ _ _ _ _ _ _=>.mk _ (Nat.zero_le _) (Nat.zero_le _) (fun v hv=>by cases hv) (fun v hv=>by cases hv)) ha hb way
 |d+1,m,o,a,b,way,ha,hb=>zig hB (hn m) (fun m o a b way=>zfO hB hn d m o a b way) ha hb way
theorem zgn{B:Nat}(hrec:∀(m:Nat)(o a b:MsgT)(way:Way),zaS B a->zaS B b->zaS B (rec m o a b way).1){o a b:MsgT}(ha:zaS B a)(hb:zaS B b)(way:Way):zaS B (zbS rec S m o a b way).1:=by
 unfold zbS;rcases hM:S[m]? with _|M
 . exact .mk _ (fun t ht=>by cases ht) (fun v hv=>by cases hv)
 simp only;refine .mk _ (fun t ht=> ?_) (fun v hv y hy=> ?_)
 . have ht:t∈(unkT o a b way).1:=ht
   unfold unkT at ht;split at ht
   . exact ha.unk t ht
   . split at ht
     . exact hb.unk t ht
     . exact ha.unk t ht
 . obtain⟨i,_,hi⟩:=List.mem_filterMap.1 hv
   rcases zep hi with h|h|⟨f,_,rfl⟩
   . exact ha.sub v h y hy
   . exact hb.sub v h y hy
   . have hy:=List.mem_singleton.1 (show y∈ [_]from hy)
     subst hy;exact hrec _ _ _ _ _ (zif ha _) (zif hb _)
theorem zgo{B:Nat}:∀(d m:Nat)(o a b:MsgT)(way:Way),zaS B a->zaS B b->zaS B (zcg S d m o a b way).1
 |0,m,o,a,b,way,ha,hb=>zgn (fun _ _ _ _ _ _ _=>.mk _ (fun t ht=>by cases ht) (fun v hv=>by cases hv)) ha hb way
 |d+1,m,o,a,b,way,ha,hb=>zgn (fun m o a b way=>zgo d m o a b way) ha hb way
end
end Go.Proofs.YtlhbllaojjelcaaGreat
