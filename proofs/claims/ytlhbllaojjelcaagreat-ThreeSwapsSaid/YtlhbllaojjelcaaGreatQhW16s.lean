/- Contracts of layer 26's reference: the drawn regions of One as laws of their own. (Printed by gen_w60.py.) -/
import Derived.Test.YtlhbllaojjelcaaGreatQhW59

set_option linter.unusedVariables false
set_option linter.unusedSimpArgs false
namespace Go.Proofs.YtlhbllaojjelcaaGreat
open Go.RowKit Go.Shelf
end Go.Proofs.YtlhbllaojjelcaaGreat
namespace Go.Proofs.YtlhbllaojjelcaaGreat
open Go.RowKit
open Go.Lib (uvarint)
theorem zkk(n:Nat):1<=(uvarint n).length:=by
 unfold uvarint;split<;>simp
theorem zfC(n w:Int)(v:List UInt8):1<=(putB n w v).length:=by
 have:=zkk ((8*n+w).toNat);unfold putB tagB;simp only[List.length_append];omega
section
variable {rec:Three} {f:zaa} {S:List MsgD} {m:Nat} {M:MsgD} {se:Nat->MsgT->List UInt8}
theorem zqT{rs:Nat->MsgT->Prop}{v:ValT}(hff:M.fields.find? (fun g=>g.number==v.number)=some f)(h:zbB rs f v):1<=(wE se M.fields v).length:=by
 obtain⟨_,h1,_,h2⟩:=h;unfold wE;rw[hff];simp only;unfold zaU;have one:∀(l:List (List UInt8))(x:List UInt8),x∈l->1<=x.length->1<=l.flatten.length:=fun l x hx hl=>Nat.le_trans hl (zaD hx)
 rcases h2 with⟨q1,q2,q3,_⟩|⟨q1,_,_,q2,q3,_⟩|⟨q1,q2,q3,_⟩
 . rw[if_pos q1]
   split
   . exact one _ _ List.mem_cons_self (zfC _ _ _)
   . unfold manyU at h1
     rw[q2,q3]at h1;rcases hw:v.words with _|⟨x,l⟩
     . rw[hw]at h1
       exact absurd rfl h1
     . exact one _ _ (List.mem_map_of_mem List.mem_cons_self) (zfC _ _ _)
 . rw[if_neg (by rw[q1];decide)]
   unfold manyU at h1;rw[q2,q3]at h1;rcases hw:v.texts with _|⟨x,l⟩
   . rw[hw]at h1
     exact absurd rfl h1
   . exact one _ (putB f.number 2 x.data.toList) (List.mem_append_left _ (by rw[List.map_cons];exact List.mem_cons_self)) (zfC _ _ _)
 . have hk:zad f.kind=false:=by
    rcases hk:zad f.kind with _|_
    . rfl
    . exact absurd q1 (zbb hk)
   rw[if_neg (by rw[hk];decide)];unfold manyU at h1;rw[q2,q3]at h1;rcases hw:v.subs with _|⟨x,l⟩
   . rw[hw]at h1
     exact absurd rfl h1
   . exact one _ (putB f.number 2 (se f.of_.toNat x)) (List.mem_append_right _ (by rw[List.map_cons];exact List.mem_cons_self)) (zfC _ _ _)
theorem zlm(hR:zan S=true)(hM:S[m]?=some M){i:Nat}(hf:M.fields[i]?=some f){rs:Nat->MsgT->Prop}(hrec:∀(m:Nat)(o a b:MsgT)(way:Way),rs m a->rs m b->(rec m o a b way).2.length<=(se m a).length+(se m b).length){o a b:Option ValT}{way:Way}(ha:∀v,a=some v->zbB rs f v)(hb:∀v,b=some v->zbB rs f v):(zav rec f o a b way).2.length<=oE se M.fields a+oE se M.fields b:=by
 have hff:=zie hR hM hf;have pos:∀v,zbB rs f v->1<=oE se M.fields (some v):=fun v hv=>zqT (se:=se) (by rw[hv.1];exact hff) hv
 by_cases h1:a=b
 . unfold zav
   rw[if_pos (.inl h1)];exact Nat.zero_le _
 by_cases h2:b=o
 . unfold zav
   rw[if_pos (.inr h2)];exact Nat.zero_le _
 by_cases h3:a=o
 . unfold zav
   rw[if_neg (fun q=>q.elim h1 h2),if_pos h3];exact Nat.zero_le _
 by_cases h4:f.kind=17/\f.rep=false/\a≠none/\b≠none
 . rw[zdG h1 h2 h3 h4]
   obtain⟨h17,hr,hna,hnb⟩:=h4;obtain⟨va,rfl⟩:=Option.ne_none_iff_exists'.1 hna;obtain⟨vb,rfl⟩:=Option.ne_none_iff_exists'.1 hnb;obtain⟨ya,sa,ea,ra⟩:=zcm (ha va rfl) h17 hr;obtain⟨yb,sb,eb,rb⟩:=zcm (hb vb rfl) h17 hr;have h5:=hrec f.of_.toNat (subT o) (subT (some va)) (subT (some vb)) way (by rw[ea];exact ra) (by rw[eb];exact rb);rw[ea,eb]at h5
   have hk:zad f.kind=false:=by
    rcases hk:zad f.kind with _|_
    . rfl
    . exact absurd h17 (zbb hk)
   have more:∀(v:ValT)(y:MsgT),v.number=f.number->v.subs=[y]->(se f.of_.toNat y).length<=oE se M.fields (some v):=fun v y e1 e3=>by
    show _<=(wE se M.fields v).length;unfold wE;rw[e1,hff];simp only;unfold zaU;rw[if_neg (by rw[hk];decide),e3];exact Nat.le_trans (zeA f.number _) (zaD (List.mem_append_right _ (by rw[List.map_cons];exact List.mem_cons_self)))
   have h6:=more va ya (ha va rfl).1 sa;have h7:=more vb yb (hb vb rfl).1 sb;rw[ea,eb];show(rec f.of_.toNat (subT o) ya yb way).2.length<=_;omega
 . rw[zbD h1 h2 h3 h4]
   rcases a with _|va
   . rcases b with _|vb
     . exact absurd rfl h1
     . have:=pos vb (hb vb rfl)
       show 1<=_;omega
   . have:=pos va (ha va rfl)
     show 1<=_;omega
theorem zmc{rs:Nat->MsgT->Prop}{x:MsgT}(hx:zaO rs S m x)(h:x.unk≠ []):1<=(x.unk.flatMap fun t=>t.data.toList).length:=by
 obtain⟨M,_,_,_,hu⟩:=hx;rcases hq:x.unk with _|⟨t,l⟩
 . exact absurd hq h
 . obtain⟨T,V,a,h1,_⟩:=hu t (by rw[hq];exact List.mem_cons_self)
   rw[List.flatMap_cons,List.length_append];rcases ht:t.data.toList with _|⟨c,r⟩
   . rw[ht]at h1
     have h3:(headV []).2.2.2.2=0:=congrArg (fun p:Nat×Nat×Nat×Nat×Nat=>p.2.2.2.2) h1;exact absurd h3 (by decide)
   . simp only[List.length_cons]
     omega
theorem zhu(hR:zan S=true){rs:Nat->MsgT->Prop}(hrec:∀(m:Nat)(o a b:MsgT)(way:Way),rs m a->rs m b->(rec m o a b way).2.length<=(se m a).length+(se m b).length){o a b:MsgT}(ha:zaO rs S m a)(hb:zaO rs S m b)(way:Way):
 (zbS rec S m o a b way).2.length<=(encC se S m a).flatten.length+(encC se S m b).flatten.length:=by
 obtain⟨M,hM,_⟩:=id ha;rw[zeo hM,zeo hM,List.length_append,List.length_append]
 conv=>rhs;rw[<-zdH hR hM ha,<-zdH hR hM hb]
 rw[zdA,zdA];unfold zbS;rw[hM];simp only;rw[List.length_append,List.length_flatMap]
 have h1:((sortK (keyF M.fields) M.fields.length).map fun i=>(zbh rec M.fields o a b way i).2.length).sum<=((sortK (keyF M.fields) M.fields.length).map fun i=>oE se M.fields (sideT a (keyF M.fields i))).sum+((sortK (keyF M.fields) M.fields.length).map fun i=>oE se M.fields (sideT b (keyF M.fields i))).sum:=by
  refine zlQ fun i hi=> ?_
  obtain⟨f,hf⟩:∃f,M.fields[i]?=some f:=⟨_,List.getElem?_eq_getElem (zbl.1 hi)⟩
  unfold zbh;rw[hf,zdi hf];exact zlm hR hM hf hrec (fun v hv=>zbP hR hM ha hf hv) (fun v hv=>zbP hR hM hb hf hv)
 have h2:(unkT o a b way).2.length<=(a.unk.flatMap fun t=>t.data.toList).length+(b.unk.flatMap fun t=>t.data.toList).length:=by
  unfold unkT;split
  . exact Nat.zero_le _
  . rename_i h
    split
    . exact Nat.zero_le _
    . have hne:a.unk≠b.unk:=fun e=>h (.inl e)
      show 1<=_;by_cases h3:a.unk=[]
      . have:=zmc hb (fun e=>hne (by rw[h3,e]))
        omega
      . have:=zmc ha h3
        omega
 omega
theorem zhv(hR:zan S=true):∀(d m:Nat)(o a b:MsgT)(way:Way),zaE S d m a->zaE S d m b->(zcg S d m o a b way).2.length<=(encV S d m a).length+(encV S d m b).length
 |0,m,o,a,b,way,ha,hb=>zhu hR (rs:=fun _ _=>False) (fun _ _ _ _ _ h _=>h.elim) ha hb way
 |d+1,m,o,a,b,way,ha,hb=>zhu hR (fun m o a b way ha hb=>zhv hR d m o a b way ha hb) ha hb way
end
end Go.Proofs.YtlhbllaojjelcaaGreat
namespace Go.Proofs.YtlhbllaojjelcaaGreat
open Go.RowKit
variable{bs:List UInt8}{m:Nat}{S:List MsgD}
theorem zkl{sub:Nat->List UInt8->MsgT}{B:Nat}(hb:bs.length<=B)(h:∀m' b',b'.length<bs.length->zaS B (sub m' b')):zaS B (ofM sub S m bs):=by
 unfold ofM;split
 . exact .mk _ (fun t ht=>by cases ht) (fun v hv=>by cases hv)
 . rename_i M hM
   have hall:∀v∈(sortK (keyF M.fields) M.fields.length).filterMap (zcl sub M.fields bs (zac M.fields bs).1),∃i f,M.fields[i]?=some f/\zaf (zac M.fields bs).1 i≠ []/\v=zaM sub f ((zaf (zac M.fields bs).1 i).flatMap (zaw f bs)) ((zaf (zac M.fields bs).1 i).flatMap (zam f bs)):=fun v hv=>by
    obtain⟨i,_,hi⟩:=List.mem_filterMap.1 hv;obtain⟨f,h1,h2,h3,_⟩:=zdF hi;exact⟨i,f,h1,h2,h3⟩
   refine .mk _ (fun t ht=> ?_) (fun v hv y hy=> ?_)
   . obtain⟨u,hu,rfl⟩:=List.mem_map.1 ht
     have hm:=(List.mem_filter.1 hu).1;have:=(zcv hm).2.2;show(spanB bs u.r.f u.r.t).length<=B;rw[zaI bs (by omega)];omega
   . obtain⟨i,f,hf,hne,rfl⟩:=hall v hv
     have hy':y∈(if f.kind=17 then(zas f ((zaf (zac M.fields bs).1 i).flatMap (zam f bs))).map (sub f.of_.toNat)else[]):=hy;split at hy'
     . obtain⟨x,hx,rfl⟩:=List.mem_map.1 hy'
       rw[zdE]at hx;have:=zdp hf hne hx;exact h _ _ (by omega)
     . cases hy'
theorem zmd{S:List MsgD}{B:Nat}:∀(d m:Nat)(bs:List UInt8),bs.length<=B->zaS B (ofV S d m bs)
 |0,m,bs,h=>zkl h (fun m' b' _=>.mk _ (fun t ht=>by cases ht) (fun v hv=>by cases hv))
 |d+1,m,bs,h=>zkl h (fun m' b' hb=>zmd d m' b' (by omega))
def zaV(S:List MsgD)(root:Int)(o a b:List UInt8)(d:Int):Nat:=if(zar S root o d).2≠0 then(zar S root o d).2 else if(zar S root a d).2≠0 then(zar S root a d).2 else(zar S root b d).2
noncomputable def zaH(S:List MsgD)(root d:Int)(o a b:List UInt8):MsgT×List Way:=zcg S d.toNat root.toNat (meanB S root.toNat o) (meanB S root.toNat a) (meanB S root.toNat b) []
noncomputable def zbr(S:List MsgD)(root d:Int)(o a b:List UInt8):List UInt8:=encV S d.toNat root.toNat (zaH S root d o a b).1
variable{d:Int}
theorem zpr(hC:(zar S (m:Int) bs d).2=0)(hb:bs.length<=100000):OfT S (m:Int) bs d=meanB S m bs:=by
 unfold OfT;rw[if_pos hC,Int.toNat_natCast];unfold meanB;exact zji S _ _ m bs (Nat.le_refl _) hb
structure OneB(S:List MsgD)(root d:Int)(bs:List UInt8):Prop where
 rr:zaE S d.toNat root.toNat (meanB S root.toNat bs)
 fit:FitT 1000000000 (meanB S root.toNat bs)
 texts:zaS 1000000000 (meanB S root.toNat bs)
 enc:encV S d.toNat root.toNat (meanB S root.toNat bs)=normB S root.toNat bs
 few:(normB S root.toNat bs).length<=2*bs.length
variable{o a b:List UInt8}{root:Int}
theorem zfe(h:zaV S root o a b d=0):(zar S root o d).2=0/\(zar S root a d).2=0/\(zar S root b d).2=0:=by
 unfold zaV at h;split at h
 . rename_i q
   exact absurd h q
 . rename_i q
   split at h
   . rename_i r
     exact absurd h r
   . rename_i r
     exact⟨by omega,by omega,h⟩
theorem oneB(h:(zar S root bs d).2=0)(hb:bs.length<=3125):OneB S root d bs:=by
 obtain⟨hR,r0,r1,d0,d1,hv⟩:=zcn h;have hm:root.toNat<S.length:=by omega
 have hr:=zhY hR hm hv (by omega);refine⟨hr,(znJ hR _ _ _ (by omega)).le (by omega),zmd _ _ _ (by omega),?_,zmB hR hm hv (by omega)⟩;unfold normB;exact(zjD hR hr (by omega)).symm
structure zrP(S:List MsgD)(root d:Int)(o a b:List UInt8):Prop where
 right:zaE S d.toNat root.toNat (zaH S root d o a b).1
 short:(zbr S root d o a b).length<=2*(a.length+b.length)
 few:(zaH S root d o a b).2.length<=2*(a.length+b.length)
 fit:FitT 1000000000000 (zaH S root d o a b).1
 texts:zaS 1000000000 (zaH S root d o a b).1
theorem zhw(hR:zan S=true)(hA:OneB S root d a)(hB:OneB S root d b):zrP S root d o a b:=by
 have h1:=hA.few;have h2:=hB.few;refine⟨zgv hR _ _ _ _ _ _ hA.rr hB.rr,?_,?_,zfO (by omega) (fun k M hM=>by have:=(zbk hR hM).2.2.1;omega) _ _ _ _ _ _ (hA.fit.le (by omega)) (hB.fit.le (by omega)),zgo _ _ _ _ _ _ hA.texts hB.texts⟩
 . have:=zgm hR d.toNat root.toNat (meanB S root.toNat o) _ _ [] hA.rr hB.rr
   rw[hA.enc,hB.enc]at this;show(encV S d.toNat root.toNat (zcg S d.toNat root.toNat (meanB S root.toNat o) (meanB S root.toNat a) (meanB S root.toNat b) []).1).length<=_;omega
 . have:=zhv hR d.toNat root.toNat (meanB S root.toNat o) _ _ [] hA.rr hB.rr
   rw[hA.enc,hB.enc]at this;show(zcg S d.toNat root.toNat (meanB S root.toNat o) (meanB S root.toNat a) (meanB S root.toNat b) []).2.length<=_;omega
end Go.Proofs.YtlhbllaojjelcaaGreat
namespace Go.Proofs.YtlhbllaojjelcaaGreat
open Go.RowKit Go.Shelf
theorem zeh{α β:Type}{g:α->List (List β)}:∀l:List α,(l.flatMap g).flatten=(l.map fun a=>(g a).flatten).flatten
 |[]=>rfl
 |a::l=>by rw[List.flatMap_cons,List.flatten_append,zeh l,List.map_cons,List.flatten_cons]
theorem zme(k:Int):∀l:List Nat,(∀x∈l,x<18446744073709551616)->l.length<=(packW k l).length
 |[],_=>Nat.zero_le _
 |x::l,h=>by
  have h1:=(zbg (k:=k) (h x List.mem_cons_self)).1;have h2:=zme k l (fun y hy=>h y (List.mem_cons_of_mem _ hy));rw[packW,List.length_append,List.length_cons];omega
theorem ziy{S:List MsgD}(hR:zan S=true){m i:Nat}{M:MsgD}{f:zaa}(hM:S[m]?=some M)(hf:M.fields[i]?=some f):zao f.number 2=true/\zao f.number (wireI f.kind)=true:=by
 obtain⟨⟨T,hT⟩,n1,n2,hkb⟩:=zbC hR hM hf;refine⟨by rw[hT];exact zbL (by omega) (by omega) (by decide),?_⟩;unfold kindB at hkb;have hkb:=of_decide_eq_true hkb;unfold wireI
 repeat' split
 all_goals
  rw[hT];exact zbL (by omega) (by omega) (by decide)
end Go.Proofs.YtlhbllaojjelcaaGreat
