/- Plain laws of layer 21 (update): a field set to the load that means its value leaves the meaning. -/
import Derived.Test.YtpicpebolghcfaaGreatDoorQlS64

set_option linter.unusedVariables false
set_option linter.unusedSimpArgs false
namespace Go.Proofs.YtpicpebolghcfaaGreatDoor
open Go.RowKit Go.Shelf
section
variable {S:List MsgD} {m:Nat} {M:MsgD} {g:zab} {i:Nat} {x:Int} {v:List UInt8} {dd:Int} {df:Nat}
theorem zir(hM:S[m]?=some M)(hf:M.fields[i]?=some g)(hx:idxB (numP x) M.fields=(i:Nat)){extra q:List UInt8}(hq:(zai S df m q).2=0):Doc S df m M.fields g i q (setB S true extra [x] m q false) false [] []:=by
 rw[zfu hM,if_pos rfl,List.append_nil,show decide (([]:List Int)=[])=true by simp];exact zjd hM hf hx _ _ q.length q (Nat.le_refl _) hq
theorem zla(hR:zan S=true)(hM:S[m]?=some M)(hf:M.fields[i]?=some g)(hc:codeL S g v dd=0)(hvl:v.length<=100000)(hvd:∀c∈zaW g v,(zai S df m c).2=0):
 Doc S df m M.fields g i [] (zal g v) (decide (zaW g v≠ [])) (wordsL g v) (zaT g v):=by
 obtain⟨c1,c2,c3,_⟩:=zeY hR hM hf hc hvl;exact Doc.behind rfl c1 hvd c2 c3
theorem zjP(hR:zan S=true)(hM:S[m]?=some M)(hf:M.fields[i]?=some g)(hx:idxB (numP x) M.fields=(i:Nat))(hc:codeL S g v dd=0)(hvl:v.length<=100000)(hvd:∀c∈zaW g v,(zai S df m c).2=0){q:List UInt8}(hq:(zai S df m q).2=0):
 Doc S df m M.fields g i q (setB S true (zal g v) [x] m q true) (decide (zaW g v≠ [])) (wordsL g v) (zaT g v):=by
 rw[zfu hM,if_neg (by simp),if_pos rfl,show decide (([]:List Int)=[])=true by simp];have:=(zjd hM hf hx (fun b p=>setB S true (zal g v) [] (ofU S m x) b p) true q.length q (Nat.le_refl _) hq).append (zla hR hM hf hc hvl hvd);simpa using this
theorem zjQ(hR:zan S=true)(hM:S[m]?=some M)(hf:M.fields[i]?=some g)(hx:idxB (numP x) M.fields=(i:Nat))(hc:codeL S g v dd=0)(hvl:v.length<=100000)(hvd:∀c∈zaW g v,(zai S df m c).2=0):∀(qs:List (List UInt8)),qs≠ []->(∀q∈qs,(zai S df m q).2=0)->
 Doc S df m M.fields g i qs.flatten ((setsP (fun b p=>setB S true (zal g v) [x] m b p) true qs).flatten) (decide (zaW g v≠ [])) (wordsL g v) (zaT g v)
 |[],h,_=>absurd rfl h
 |[q],_,hq=>by
  have:=zjP hR hM hf hx hc hvl hvd (hq q List.mem_cons_self);simpa[setsP] using this
 |q::q'::qs,_,hq=>by
  have d1:=zir (extra:=zal g v) hM hf hx (hq q List.mem_cons_self);have ih:=zjQ hR hM hf hx hc hvl hvd (q'::qs) (by simp) (fun r hr=>hq r (List.mem_cons_of_mem _ hr));have:=d1.append ih
  have hs:setsP (fun b p=>setB S true (zal g v) [x] m b p) true (q::q'::qs)=setB S true (zal g v) [x] m q false::setsP (fun b p=>setB S true (zal g v) [x] m b p) true (q'::qs):=by
   conv=>lhs;unfold setsP
   simp
  rw[hs,List.flatten_cons,List.flatten_cons];simpa using this
theorem zis(hre:(zal g v).length<=1000000){way:List Int}{q:List UInt8}{fl:Bool}(hw:way.length<=65)(hq:q.length<=1000000):(setB S true (zal g v) way m q fl).length<18446744073709551616:=by
 have h:=zhk S true (zal g v) hre way m q fl hw hq;have h1:(1+10*way.length)*q.length<=651*1000000:=Nat.mul_le_mul (by omega) hq;split at h<;>omega
theorem zit{n:Int}{f:zab}(hfa:zbj S m n=some f):∃M i,S[m]?=some M/\M.fields[i]?=some f/\idxB (numP n) M.fields=(i:Nat):=by
 rcases hM:S[m]? with _|M
 . unfold zbj at hfa
   rw[hM]at hfa;cases hfa
 . obtain⟨i,h1,h2⟩:=zbY hM hfa
   exact⟨M,i,rfl,h1,h2⟩
theorem zou(hR:zan S=true)(hc:codeL S g v dd=0)(hvl:v.length<=100000)(hre:(zal g v).length<=1000000)(hvd:∀(mf i_f:Nat)(Mf:MsgD),S[mf]?=some Mf->Mf.fields[i_f]?=some g->∀c∈zaW g v,(zai S df mf c).2=0){way:List Int}{m:Nat}(h:OnWay S m way g):
 ∀(d:Nat),d=df+(way.length - 1)->way.length<=65->∀(q:List UInt8)(fl:Bool),(zai S d m q).2=0->q.length<=1000000->(zai S d m (setB S true (zal g v) way m q fl)).2=0:=by
 induction h with
 | @last m n g hfa=>
   intro d hd hw q fl hq hql;obtain⟨M,i,hM,hf,hx⟩:=zit hfa;have hdd:d=df:=by rw[hd];simp
   subst hdd
   cases fl with
   |false=>exact(zir hM hf hx hq).valid
   |true=>exact(zjP hR hM hf hx hc hvl (hvd m i M hM hf) hq).valid
 | @step m n f g l hfa hk hr t ih=>
   intro d hd hw q fl hq hql;obtain⟨M,i,hM,hf,hx⟩:=zit hfa;have hll:0<l.length:=List.length_pos_iff.2 t.ne;obtain⟨e,he⟩:∃e,e=df+(l.length - 1):=⟨_,rfl⟩
   have hde:d=e+1:=by rw[hd,he,List.length_cons];omega
   subst hde;rw[List.length_cons]at hw
   have hrec:∀p fl,(zai S e f.of_.toNat p).2=0->p.length<=1000000->(zai S e f.of_.toNat (setB S true (zal g v) l f.of_.toNat p fl)).2=0/\(setB S true (zal g v) l f.of_.toNat p fl).length<18446744073709551616:=
    fun p fl h1 h2=>⟨ih hc hre hvd e he (by omega) p fl h1 h2,zis hre (by omega) h2⟩
   cases fl with
   |false=>exact(zjO hM hf hx hfa hk t.ne hrec hq hql).1.valid
   |true=>
    obtain⟨P,_,_,_,p4⟩:=zmf hR hM hf hx hfa hk t.ne hrec hq hql;exact p4.valid
theorem zpR(hR:zan S=true)(hc:codeL S g v dd=0)(hvl:v.length<=100000)(hre:(zal g v).length<=1000000)(hvd:∀(mf i_f:Nat)(Mf:MsgD),S[mf]?=some Mf->Mf.fields[i_f]?=some g->∀c∈zaW g v,(zai S df mf c).2=0){way:List Int}{m:Nat}(h:OnWay S m way g):
 ∀(d:Nat),d=df+(way.length - 1)->way.length<=65->∀(qs:List (List UInt8)),qs≠ []->(∀q∈qs,(zai S d m q).2=0/\q.length<=1000000)->zbk g (zao S m qs.flatten way)=true->(∀sub,zaX sub g (wordsL g v) (zaT g v)=zbr sub g (zao S m qs.flatten way))->
  ∀D,((setsP (fun b p=>setB S true (zal g v) way m b p) true qs).flatten).length<=D->qs.flatten.length<=D->ofV S D m ((setsP (fun b p=>setB S true (zal g v) way m b p) true qs).flatten)=ofV S D m qs.flatten:=by
 induction h with
 | @last m n g hfa=>
   intro d hd hw qs hne hqs hth hval D hD1 hD2;obtain⟨M,i,hM,hf,hx⟩:=zit hfa;have hdd:d=df:=by rw[hd];simp
   subst hdd;have hdoc:=zjQ hR hM hf hx hc hvl (hvd m i M hM hf) qs hne (fun q hq=>(hqs q hq).1);have hqv:(zai S d m qs.flatten).2=0:=zcS (fun q hq=>(hqs q hq).1);rw[zaQ,zaA hM]at hqv
   have hpw:zao S m qs.flatten [n]=(zah (zae M.fields qs.flatten).1 i).map (zak qs.flatten):=by
    have:zao S m qs.flatten [n]=zaU (zar S m) qs.flatten n:=by
     unfold zao;rw[if_pos rfl]
    rw[this,zcr hM hf hx]
   generalize (setsP (fun b p=>setB S true (zal g v) [n] m b p) true qs).flatten=out at*;rw[zfE S D (D+1) m out hD1 (by omega),zfE S D (D+1) m qs.flatten hD2 (by omega)];show ofM (ofV S D) S m out=ofM (ofV S D) S m qs.flatten;refine zqC hM hdoc ?_;have horig:=zlZ (sub:=ofV S D) hf hqv.2 hpw;rw[hth,if_pos rfl]at horig;rw[horig];have hsome:∃u,zbS (ofV S D) M.fields qs.flatten (zae M.fields qs.flatten).1 i=some u:=⟨_,horig⟩
   have hmany:=(zgm horig).2.1;have hvv:=hval (ofV S D);rw[<-hvv]at hmany⊢
   have hcs:zaW g v≠ []:=by
    intro hcs;obtain⟨_,c2,c3,_⟩:=zeY hR hM hf hc hvl;rw[hcs]at c2 c3;have hw0:wordsL g v=[]:=c2.symm;have hp0:zaT g v=[]:=c3.symm;rw[hw0,hp0]at hmany;by_cases hr:g.rep=true
    . apply hmany
      unfold manyU zaX zaG zaJ;simp[hr]
    . have hr2:g.rep=false:=by simpa using hr
      unfold zaW zaI runL at hcs;rw[hr2]at hcs;simp at hcs
   have hno:zah (zae M.fields out).1 i≠ []:=fun h2=>by
    have:=hdoc.own0.1 h2;simp[hcs]at this
   unfold zbS;rw[hf];simp only;rw[if_neg hno,zbT];have hw0:=hdoc.words0;have hp0:=hdoc.pieces0;unfold zcF at hw0;unfold zau at hp0;rw[hw0,hp0,if_neg hmany]
 | @step m n f g l hfa hk hr t ih=>
   intro d hd hw qs hne hqs hth hval D hD1 hD2;obtain⟨M,i,hM,hf,hx⟩:=zit hfa;have hll:0<l.length:=List.length_pos_iff.2 t.ne;obtain⟨e,he⟩:∃e,e=df+(l.length - 1):=⟨_,rfl⟩
   have hde:d=e+1:=by rw[hd,he,List.length_cons];omega
   subst hde;rw[List.length_cons]at hw
   have hrec:∀p fl,(zai S e f.of_.toNat p).2=0->p.length<=1000000->(zai S e f.of_.toNat (setB S true (zal g v) l f.of_.toNat p fl)).2=0/\(setB S true (zal g v) l f.of_.toNat p fl).length<18446744073709551616:=
    fun p fl h1 h2=>⟨zou hR hc hvl hre hvd t e he (by omega) p fl h1 h2,zis hre (by omega) h2⟩
   obtain⟨P,p1,p2,p3,p4⟩:=zmg hR hM hf hx hfa hk t.ne hrec qs hne hqs;have hnum:zaf f.kind=false:=by rw[hk];rfl
   have hqv:(zai S (e+1) m qs.flatten).2=0:=zcS (fun q hq=>(hqs q hq).1);have hqv2:=hqv;rw[zaQ,zaA hM]at hqv2;have hpd:zau M.fields f i qs.flatten=(zah (zae M.fields qs.flatten).1 i).map (zak qs.flatten):=zdm hf hnum;have hpn:zaU (zar S m) qs.flatten n=zau M.fields f i qs.flatten:=by rw[hpd,zcr hM hf hx]
   have hpw:zao S m qs.flatten (n::l)=zao S f.of_.toNat P.flatten l:=by
    conv=>lhs;unfold zao
    rw[if_neg t.ne,hfa];simp only;rw[hpn,p2]
   rw[hpw]at hth hval
   have hpne:zau M.fields f i qs.flatten≠ []:=by
    intro h0;rw[h0]at p2;rw[p2]at hth
    have hz:zao S f.of_.toNat ([]:List (List UInt8)).flatten l=[]:=by
     have:=(zbZ S l f.of_.toNat ([]:List (List UInt8)).flatten).2;exact List.eq_nil_of_length_eq_zero (by simpa using this)
    rw[hz,zfs]at hth;cases hth
   have hqne:zah (zae M.fields qs.flatten).1 i≠ []:=fun h0=>by rw[hpd,h0]at hpne;exact hpne rfl
   have hone:zah (zae M.fields ((setsP (fun b p=>setB S true (zal g v) (n::l) m b p) true qs).flatten)).1 i≠ []:=fun h0=>by
    have:=p4.own0.1 h0;cases this
   have hls1:=zel (x:=((zah (zae M.fields qs.flatten).1 i).flatMap (zaj f qs.flatten)).flatten) hf hqne (by unfold zdr;rw[if_neg (by simp[hr]),if_pos hk];simp);have hls2:=zel (x:=((zah (zae M.fields ((setsP (fun b p=>setB S true (zal g v) (n::l) m b p) true qs).flatten)).1 i).flatMap (zaj f ((setsP (fun b p=>setB S true (zal g v) (n::l) m b p) true qs).flatten))).flatten) hf hone (by unfold zdr;rw[if_neg (by simp[hr]),if_pos hk];simp);have hp0:=p4.pieces0;have hw0:=p4.words0;unfold zau at hp0;unfold zcF at hw0;rw[hp0]at hls2
   have hls1':P.flatten.length+1<=qs.flatten.length:=by
    rw[p2];exact hls1
   generalize (setsP (fun b p=>setB S true (zal g v) (n::l) m b p) true qs).flatten=out at*;obtain⟨D',rfl⟩:∃D',D=D'+1:=⟨D - 1,by omega⟩
   show ofM (ofV S D') S m out=ofM (ofV S D') S m qs.flatten;refine zqC hM p4 ?_;have hsub:=ih hc hre hvd e he (by omega) P p1 p3 hth hval D' (by omega) (by omega)
   have hwq:(zah (zae M.fields qs.flatten).1 i).flatMap (zaz f qs.flatten)=[]:=by
    rcases zid hf hqne with⟨q,_⟩|⟨_,q,_⟩
    . rw[hnum]at q
      cases q
    . exact q
   unfold zbS;rw[hf];simp only;rw[if_neg hone,if_neg hqne,zbT,zbT,hp0,hw0,hwq];have hpq:(zah (zae M.fields qs.flatten).1 i).flatMap (zaj f qs.flatten)=zau M.fields f i qs.flatten:=rfl;rw[hpq]
   have hvu:zaX (ofV S D') f [] (setsP (fun b p=>setB S true (zal g v) l f.of_.toNat b p) true P)=zaX (ofV S D') f [] (zau M.fields f i qs.flatten):=by
    have e1:∀X,zaJ f X=[X.flatten]:=fun X=>by unfold zaJ;rw[if_neg (by simp[hr]),if_pos hk]
    unfold zaX;rw[e1,e1,List.map_cons,List.map_cons,List.map_nil,List.map_nil,List.map_cons,List.map_cons,List.map_nil,List.map_nil,hsub,p2];simp[hk]
   rw[hvu]
end
theorem zng(ps:List (List UInt8)):toldP ps=(ps.map (partL true)).flatten:=by
 unfold toldP;rw[List.flatMap_def];congr 1
theorem znh{ps:List (List UInt8)}(h:∀p∈ps,p.length<18446744073709551616):zaI true (toldP ps)=ps.map fun p=>(p,0):=by
 unfold zaI;rw[if_pos rfl,zng];exact zhn ps h _ (Nat.le_refl _)
theorem zov{k:Int}{p:List UInt8}(hk:zaf k=true)(h:stepN k p=(p.length,0)):fitsV (wireI k) p=true:=by
 have hb:=zjG hk;unfold stepN at h;unfold fitsV wireI;rw[decide_eq_true_iff];by_cases h8:k<9
 . rw[if_pos h8]at h
   rw[if_pos (by omega)];simp only[Prod.mk.injEq]at h;exact .inl ⟨rfl,h.2,h.1⟩
 . rw[if_neg h8]at h
   rw[if_neg (by omega)];by_cases h11:k<12
   . rw[if_pos h11]at h
     rw[if_pos (by omega)];split at h
     . simp at h
     . simp only[Prod.mk.injEq]at h
       exact .inr (.inr (.inl ⟨rfl,h.1.symm⟩))
   . rw[if_neg h11]at h
     rw[if_neg (by omega),if_pos (by omega)];split at h
     . simp at h
     . simp only[Prod.mk.injEq]at h
       exact .inr (.inl ⟨rfl,h.1.symm⟩)
def FineP(S:List MsgD)(g:zab)(df:Nat)(p:List UInt8):Prop:=
 (g.kind=15->zca p=true)/\(g.kind=17->∃e,df=e+1/\(zai S e g.of_.toNat p).2=0)/\(zaf g.kind=true->g.rep=false->stepN g.kind p=(p.length,0)/\1<=p.length)
theorem zni{S:List MsgD}(hR:zan S=true){way:List Int}{m:Nat}{g:zab}(h:OnWay S m way g):∀(d:Nat)(bs:List UInt8),(zai S d m bs).2=0->zao S m bs way≠ []->∃df,d=df+(way.length - 1)/\∀p∈zao S m bs way,FineP S g df p:=by
 induction h with
 | @last m n g hfa=>
   intro d bs hv hne;obtain⟨M,i,hM,hf,hx⟩:=zit hfa;rw[zaQ,zaA hM]at hv
   have hpw:zao S m bs [n]=(zah (zae M.fields bs).1 i).map (zak bs):=by
    have:zao S m bs [n]=zaU (zar S m) bs n:=by
     unfold zao;rw[if_pos rfl]
    rw[this,zcr hM hf hx]
   refine⟨d,by simp,fun p hp=> ?_⟩;rw[hpw]at hp;obtain⟨v,hvm,rfl⟩:=List.mem_map.1 hp;have hb:=zbn hvm;have hc:=hv.2 v hb.1
   have hrun:(g.rep=false\/zaf g.kind=false)->v.run=false:=fun h=>by
    rcases zbN hb.1 hb.2.1 hf with⟨_,q1,q2⟩|⟨q,_⟩
    . rcases h with h|h
      . rw[h]at q1
        cases q1
      . rw[h]at q2
        cases q2
    . exact q
   refine⟨fun h15=> ?_,fun h17=> ?_,fun hn hr=> ?_⟩
   . have hr:=hrun (.inr (by rw[h15];rfl))
     rw[(zcZ (subC S d) none hb.2.1 hf hr h15).1]at hc;simp only at hc;by_cases ht:zca (spanB bs v.r.a v.r.t)=true
     . exact ht
     . rw[if_neg ht]at hc
       cases hc
   . have hr:=hrun (.inr (by rw[h17];rfl))
     rcases d with _|e
     . rw[(zbq (S:=S) (d:=0) (bs:=bs) hb.2.1 hf hr h17).1 rfl]at hc
       cases hc
     . rw[((zbq (S:=S) (d:=e+1) (bs:=bs) hb.2.1 hf hr h17).2 e rfl).1]at hc
       exact⟨e,rfl,hc⟩
   . have hr2:=hrun (.inl hr)
     exact zeX hb.1 hb.2.1 hf hr2 hn
 | @step m n f g l hfa hk hr t ih=>
   intro d bs hv hne;obtain⟨M,i,hM,hf,hx⟩:=zit hfa;have hv0:=hv;rw[zaQ,zaA hM]at hv;have hpn:zaU (zar S m) bs n=(zah (zae M.fields bs).1 i).map (zak bs):=zcr hM hf hx
   have hpw:zao S m bs (n::l)=zao S f.of_.toNat (zaU (zar S m) bs n).flatten l:=by
    conv=>lhs;unfold zao
    rw[if_neg t.ne,hfa]
   rw[hpw]at hne⊢;have hll:0<l.length:=List.length_pos_iff.2 t.ne
   have hne2:zah (zae M.fields bs).1 i≠ []:=fun h0=>by
    rw[hpn,h0]at hne
    have hz:zao S f.of_.toNat (([]:List ViewD).map (zak bs)).flatten l=[]:=by
     have:=(zbZ S l f.of_.toNat (([]:List ViewD).map (zak bs)).flatten).2;exact List.eq_nil_of_length_eq_zero (by simpa using this)
    exact hne hz
   have hnum:zaf f.kind=false:=by rw[hk];rfl
   have hvr:∀v∈zah (zae M.fields bs).1 i,v.run=false:=fun v hv1=>by
    rcases zbN (zbn hv1).1 (zbn hv1).2.1 hf with⟨_,_,q⟩|⟨q,_⟩
    . exact absurd hk (zbC q)
    . exact q
   obtain⟨e,hde⟩:∃e,d=e+1:=by
    obtain⟨v,L,hvl⟩:=List.exists_cons_of_ne_nil hne2;have hv1:v∈zah (zae M.fields bs).1 i:=by rw[hvl];exact List.mem_cons_self
    rcases d with _|e
    . have h1:=(zbq (S:=S) (d:=0) (bs:=bs) (zbn hv1).2.1 hf (hvr v hv1) hk).1 rfl
      have h2:=hv.2 v (zbn hv1).1;rw[h1]at h2;cases h2
    . exact⟨e,rfl⟩
   subst hde
   have hval:(zai S e f.of_.toNat (zaU (zar S m) bs n).flatten).2=0:=by
    rw[hpn];refine zcS (fun c hc=> ?_);obtain⟨v,hv1,rfl⟩:=List.mem_map.1 hc;have h1:=(zbq (S:=S) (d:=e+1) (bs:=bs) (zbn hv1).2.1 hf (hvr v hv1) hk).2 e rfl;have h2:=hv.2 v (zbn hv1).1;rw[h1.1]at h2;exact h2
   obtain⟨df,h1,h2⟩:=ih e _ hval hne;exact⟨df,by rw[List.length_cons];omega,h2⟩
end Go.Proofs.YtpicpebolghcfaaGreatDoor
