/- Plain laws of layer 22: the value of a meaning at a way, out of the pieces at that way. -/
import Derived.Test.YtpicpebolghcfaaGreatDoorQlS18b

set_option linter.unusedVariables false
set_option linter.unusedSimpArgs false
namespace Go.Proofs.YtpicpebolghcfaaGreatDoor
open Go.RowKit Go.Shelf
def getM(x:MsgT)(n:Int):Option ValT:=x.vals.find? fun v=>v.number==n
def atM:List Int->MsgT->Option ValT
 |[],_=>none
 |n::l,x=>match getM x n with
  |none=>none
  |some v=>if l=[]then some v else match v.subs with
   |[]=>none
   |y::_=>atM l y
def zec:List Int->MsgT->Prop
 |[],_=>True
 |n::l,x=>l≠ []->∀v,getM x n=some v->∃y ys,v.subs=y::ys/\zec l y
def zbr(sub:Nat->List UInt8->MsgT)(f:zab)(ps:List (List UInt8)):ValT:=
 ⟨(),(),(),f.number,if zaf f.kind=true then(zaD f.kind (loadP f ps)).1 else[],if zaf f.kind=true\/f.kind=17 then[]else(zcf f ps).map textO,
   if f.kind=17 then(zcf f ps).map (sub f.of_.toNat)else[]⟩
section
variable {S:List MsgD} {m:Nat} {M:MsgD} {x:Int} {f:zab} {i:Nat} {bs:List UInt8}
theorem zfr(hf:M.fields[i]?=some f)(hx:idxB (numP x) M.fields=(i:Nat)):(zae M.fields bs).1.filter (ofP x)=zah (zae M.fields bs).1 i:=by
 unfold zah;refine List.filter_congr fun v hv=> ?_
 obtain⟨h1,h2⟩:=zbI M.fields bs v hv;have hof:ofP x v=decide ((v.r.n:Int)=x):=by unfold ofP;simp[Bool.beq_eq_decide_eq]
 rw[hof];rw[Bool.eq_iff_iff,decide_eq_true_iff,beq_iff_eq];rcases zdE M.fields v.r with⟨hno,hs⟩|⟨k,g,hg,hk,hp,hi,hs⟩
 . rw[hs]at h2
   have e:=congrArg (fun x:ViewD×Nat=>x.1.field) h2;simp only at e;constructor
   . intro h
     rw[h]at hno;rcases zaL (numP x) M.fields with⟨hI,_⟩|⟨j,g,hI,hg,_⟩
     . rw[hI]at hx
       omega
     . rw[zbm.2 j g hI hg]at hno
       cases hno
   . intro h
     omega
 . have e:v.field=(k:Int):=by
    rw[hs]at h2;split at h2
    . have:=congrArg (fun x:ViewD×Nat=>x.1.field) h2
      simp only at this;omega
    . split at h2
      . have:=congrArg (fun x:ViewD×Nat=>x.1.field) h2
        simp only at this;omega
      . have:=congrArg Prod.snd h2
        simp at this
   rw[e];constructor
   . intro h
     rw[h,hx]at hi;omega
   . intro h
     obtain rfl:k=i:=by omega
     rw[hf]at hk;cases hk;have h1:f.number=(v.r.n:Int):=by unfold numP at hp;simpa using hp
     rcases zaL (numP x) M.fields with⟨hI,_⟩|⟨j,g,hI,hg2,hq,_⟩
     . rw[hI]at hx
       omega
     . rw[hI]at hx
       obtain rfl:j=k:=by omega
       rw[hf]at hg2;cases hg2;unfold numP at hq;have:f.number=x:=by simpa using hq
       omega
theorem zcr(hM:S[m]?=some M)(hf:M.fields[i]?=some f)(hx:idxB (numP x) M.fields=(i:Nat)):zaU (zar S m) bs x=(zah (zae M.fields bs).1 i).map (zak bs):=by
 unfold zaU zar;rw[hM];simp only;rw[zfr hf hx]
theorem zdm(hf:M.fields[i]?=some f)(hn:zaf f.kind=false):(zah (zae M.fields bs).1 i).flatMap (zaj f bs)=(zah (zae M.fields bs).1 i).map (zak bs):=by
 have:∀L:List ViewD,(∀v∈L,v.run=false)->L.flatMap (zaj f bs)=L.map (zak bs):=by
  intro L
  induction L with
  |nil=>intro _;rfl
  |cons v L ih=>
   intro h;rw[List.flatMap_cons,List.map_cons,ih (fun u hu=>h u (List.mem_cons_of_mem _ hu))];unfold zaj;rw[h v List.mem_cons_self,hn];rfl
 refine this _ fun v hv=> ?_
 rcases zbN (zbn hv).1 (zbn hv).2.1 hf with⟨_,_,q⟩|⟨q,_⟩
 . rw[hn]at q
   cases q
 . exact q
theorem zik{S:List MsgD}{d:Nat}(hf:M.fields[i]?=some f)(hn:zaf f.kind=true)(hc:∀v∈(zae M.fields bs).1,(zbc (subC S d) M.fields bs v).2=0){v:ViewD}(hv:v∈zah (zae M.fields bs).1 i):
 zaD f.kind (zak bs v)=(zaz f bs v,0)/\codeV f.kind (zak bs v)=0:=by
 have hb:=zbn hv;rcases hr:v.run with _|_
 . obtain⟨s1,s2⟩:=zeX hb.1 hb.2.1 hf hr hn
   have hw:=zgY hn s1 s2
   have ho:zaz f bs v=[(readS f.kind (zak bs v)).1]:=by
    unfold zaz;rw[if_neg (by rw[hr];simp),if_pos hn]
   refine⟨by rw[hw,ho],?_⟩;unfold codeV;rw[zlS hn s1 s2];rfl
 . have h1:=(zdB (bs:=bs) (subC S d) none hb.2.1 hf hr).1
   have h2:=hc v hb.1;rw[h1]at h2;have h3:codeV f.kind (zak bs v)=0:=h2
   have ho:zaz f bs v=(zaD f.kind (zak bs v)).1:=by
    unfold zaz;rw[if_pos hr]
   refine⟨?_,h3⟩;rw[ho];have:(zaD f.kind (zak bs v)).2=0:=h3;rw[<-this]
theorem znb{k:Int}{a b:List UInt8}(ha:codeV k a=0)(hb:codeV k b=0):(zaD k (a++b)).1=(zaD k a).1++(zaD k b).1:=by
 unfold zaD;rw[zgz ha,if_pos ha,if_pos hb,if_pos hb,zgy ha,List.map_append]
theorem zey{k:Int}(hk:zaf k=true):∀(l:List (List UInt8)),(∀b∈l,codeV k b=0)->(zaD k l.flatten).1=l.flatMap (fun b=>(zaD k b).1)/\codeV k l.flatten=0
 |[],_=>by
  have hv:valsV k []=[]:=by
   unfold valsV;rw[if_neg (by rw[hk];simp)];rfl
  have hc:codeV k []=0:=by unfold codeV;rw[hv];rfl
  refine⟨?_,hc⟩;show(zaD k []).1=[]
  unfold zaD;rw[if_pos hc,hv];rfl
 |b::l,h=>by
  obtain⟨h1,h2⟩:=zey hk l (fun x hx=>h x (List.mem_cons_of_mem _ hx));have hb:=h b List.mem_cons_self;rw[List.flatten_cons,List.flatMap_cons,znb hb h2,h1,zgz hb];exact⟨rfl,h2⟩
theorem znc{k:Int}{b:List UInt8}(hk:zaf k=true)(hc:codeV k b=0):(zaD k b).1.length=0<->b.length=0:=by
 rw[zkP];unfold zgv;rw[if_pos hc];unfold valsV;rw[if_neg (by rw[hk];simp)];rcases b with _|⟨c,l⟩
 . simp[valsF]
 . simp only[List.length_cons]
   unfold valsF;rw[if_neg (by simp)];split<;>simp
theorem znd{α:Type}{l:List α}{x:α}(h:l.getLast?=some x):lastO l=[x]:=by
 rcases List.eq_nil_or_concat l with rfl|⟨a,y,rfl⟩
 . simp at h
 . rw[List.concat_eq_append]at h⊢
   rw[zeE];simp at h;rw[h]
theorem zjK{α β:Type}{l:List α}{g h:α->List β}(e:∀x∈l,g x=h x):l.flatMap g=l.flatMap h:=by
 induction l with
 |nil=>rfl
 |cons a l ih=>rw[List.flatMap_cons,List.flatMap_cons,e a List.mem_cons_self,ih (fun x hx=>e x (List.mem_cons_of_mem _ hx))]
theorem zfS{f:zab}{ps:List (List UInt8)}(h:runP f=false):zbk f ps=decide (0<ps.length):=by
 unfold zbk;rw[if_neg (by rw[h];simp)]
theorem zlZ{sub:Nat->List UInt8->MsgT}{d:Nat}(hf:M.fields[i]?=some f)(hc:∀v∈(zae M.fields bs).1,(zbc (subC S d) M.fields bs v).2=0){ps:List (List UInt8)}(hps:ps=(zah (zae M.fields bs).1 i).map (zak bs)):
 zbS sub M.fields bs (zae M.fields bs).1 i=if zbk f ps=true then some (zbr sub f ps)else none:=by
 unfold zbS;rw[hf];simp only;by_cases hV:zah (zae M.fields bs).1 i=[]
 . rw[if_pos hV]
   rw[hV]at hps;have:ps=[]:=by simpa using hps
   rw[this]
   have:zbk f []=false:=by
    unfold zbk;split<;>simp
   rw[if_neg (by rw[this];simp)]
 . rw[if_neg hV,zbT]
   have hpn:ps≠ []:=by rw[hps];simpa using hV
   have hpl:0<ps.length:=List.length_pos_iff.2 hpn;rcases hn:zaf f.kind with _|_
   . have hrun:runP f=false:=by unfold runP;rw[hn];simp
     have hw:(zah (zae M.fields bs).1 i).flatMap (zaz f bs)=[]:=by
      rcases zid hf hV with⟨q,_⟩|⟨_,q,_⟩
      . rw[hn]at q
        cases q
      . exact q
     rw[zdm hf hn,<-hps,hw];have ht:zbk f ps=true:=by rw[zfS hrun];simpa using hpl
     have hpp:zaJ f ps=zcf f ps:=by
      unfold zaJ zcf;by_cases hr:f.rep=true
      . rw[if_pos hr,if_pos hr]
      . rw[if_neg hr,if_neg hr]
        have hr2:f.rep=false:=by simpa using hr
        by_cases h17:f.kind=17
        . rw[if_pos h17,zeJ h17 hr2]
        . rw[if_neg h17,zcJ h17 hr2]
          rcases hl:ps.getLast? with _|y
          . rw[List.getLast?_eq_none_iff]at hl
            exact absurd hl hpn
          . rw[znd hl]
            unfold lastP;rw[hl];rfl
     have hpw:zaG f []=[]:=by
      unfold zaG lastO;split<;>simp
     have htl:0<(zcf f ps).length:=by
      unfold zcf;split
      . exact hpl
      . simp
     have hv:zaX sub f [] ps=zbr sub f ps:=by
      unfold zaX zbr;rw[hpw,hpp];by_cases h17:f.kind=17
      . rw[h17]at hn
        simp[hn,h17]
      . simp[hn,h17]
     have hm:manyU (zbr sub f ps)≠0:=by
      unfold manyU zbr;by_cases h17:f.kind=17
      . simp only[hn,h17,if_true,or_true,List.length_map]
        omega
      . simp only[hn,h17,if_false,or_false,List.length_map,Bool.false_eq_true]
        omega
     rw[hv,if_neg hm,ht,if_pos rfl]
   . have h17:=zbC hn
     have hvw:=fun v hv=>zik (S:=S) (d:=d) (bs:=bs) hf hn hc (v:=v) hv
     have hws:(zah (zae M.fields bs).1 i).flatMap (zaz f bs)=ps.flatMap (fun b=>(zaD f.kind b).1):=by
      rw[hps,List.flatMap_map];refine zjK fun v hv=> ?_
      rw[(hvw v hv).1]
     have hcode:∀b∈ps,codeV f.kind b=0:=fun b hb=>by
      rw[hps]at hb;obtain⟨v,hv,rfl⟩:=List.mem_map.1 hb;exact(hvw v hv).2
     rw[zdR hn,hws]
     have hpp:zaJ f []=[]:=by
      unfold zaJ lastO;rw[if_neg h17];split<;>simp
     obtain⟨w1,w2⟩:=zey hn ps hcode;by_cases hr:f.rep=true
     . have hrun:runP f=true:=by unfold runP;rw[hr,hn];rfl
       have hv:zaX sub f (ps.flatMap fun b=>(zaD f.kind b).1) []=zbr sub f ps:=by
        unfold zaX zbr zaG;rw[hpp,zeI hrun,w1];simp[hn,h17,hr]
       have hm:manyU (zbr sub f ps)=(zaD f.kind ps.flatten).1.length:=by
        unfold manyU zbr;simp[hn,h17,zeI hrun]
       have hwn:=znc hn w2;have ht:zbk f ps=decide (0<ps.flatten.length):=by unfold zbk;rw[if_pos hrun]
       rw[hv,hm,ht];by_cases h0:ps.flatten.length=0
       . rw[if_pos (hwn.2 h0),if_neg (by rw[h0];simp)]
       . rw[if_neg (fun h=>h0 (hwn.1 h)),if_pos (by rw[decide_eq_true_iff];omega)]
     . have hr2:f.rep=false:=by simpa using hr
       have hrun:runP f=false:=by unfold runP;rw[hr2];rfl
       have ht:zbk f ps=true:=by rw[zfS hrun];simpa using hpl
       obtain⟨a,y,hay⟩:∃a y,ps=a++[y]:=by
        rcases List.eq_nil_or_concat ps with h|⟨a,y,h⟩
        . exact absurd h hpn
        . exact⟨a,y,by rw[h,List.concat_eq_append]⟩
       have hy:y∈ps:=by rw[hay];simp
       obtain⟨v,hv,hvy⟩:=List.mem_map.1 (by rw[hps]at hy;exact hy)
       have hone:∃w,(zaD f.kind y).1=[w]:=by
        have hb:=zbn hv;rcases hrn:v.run with _|_
        . obtain⟨s1,s2⟩:=zeX hb.1 hb.2.1 hf hrn hn
          rw[<-hvy,zgY hn s1 s2];exact⟨_,rfl⟩
        . rcases zbN hb.1 hb.2.1 hf with⟨_,q,_⟩|⟨q,_⟩
          . exact absurd q hr
          . rw[hrn]at q
            cases q
       obtain⟨w,hw⟩:=hone;have hlast:lastP ps=y:=by unfold lastP;rw[hay];simp
       have hv:zaX sub f (ps.flatMap fun b=>(zaD f.kind b).1) []=zbr sub f ps:=by
        unfold zaX zbr zaG;rw[hpp,zcJ h17 hr2,hlast,hw,if_neg hr,hay,List.flatMap_append,List.flatMap_cons,List.flatMap_nil,List.append_nil,hw,zeE];simp[hn,h17]
       have hm:manyU (zbr sub f ps)≠0:=by
        unfold manyU zbr;rw[zcJ h17 hr2,hlast,hw];simp[hn]
       rw[hv,if_neg hm,ht,if_pos rfl]
theorem zqA(hR:zan S=true)(hM:S[m]?=some M){sub:Nat->List UInt8->MsgT}{d:Nat}(hx:zbj S m x=some f)(hc:∀v∈(zae M.fields bs).1,(zbc (subC S d) M.fields bs v).2=0):
 getM (ofM sub S m bs) x=if zbk f (zaU (zar S m) bs x)=true then some (zbr sub f (zaU (zar S m) bs x))else none:=by
 obtain⟨i,hf,hi⟩:=zbY hM hx
 have hfx:f.number=x:=by
  unfold zbj at hx;rw[hM]at hx;have:=List.find?_some hx;unfold numP at this;simpa using this
 have hl:i<M.fields.length:=by
  rcases Nat.lt_or_ge i M.fields.length with h|h
  . exact h
  . rw[List.getElem?_eq_none h]at hf
    cases hf
 have hk:keyF M.fields i=x:=by rw[zgf hf,hfx]
 have hfp:=zie (g:=zbS sub M.fields bs (zae M.fields bs).1) (zjE hR hM) (fun i u h=>(zgm h).1) (j:=i) (zdw.2 hl);rw[hk]at hfp;unfold getM ofM;rw[hM];show List.find? _ ((sortK (keyF M.fields) M.fields.length).filterMap (zbS sub M.fields bs (zae M.fields bs).1))=_;rw[hfp];exact zlZ hf hc (zcr hM hf hi)
theorem zoo{S:List MsgD}{d:Nat}(hf:M.fields[i]?=some f)(hn:zaf f.kind=true)(hc:∀v∈(zae M.fields bs).1,(zbc (subC S d) M.fields bs v).2=0){ps:List (List UInt8)}(hps:ps=(zah (zae M.fields bs).1 i).map (zak bs)):codeV f.kind ps.flatten=0:=by
 refine(zey hn ps (fun b hb=> ?_)).2;rw[hps]at hb;obtain⟨v,hv,rfl⟩:=List.mem_map.1 hb;exact(zik (S:=S) (d:=d) (bs:=bs) hf hn hc hv).2
theorem zfs(f:zab):zbk f []=false:=by
 unfold zbk;split<;>simp
theorem at_of(hR:zan S=true){way:List Int}{m:Nat}{f:zab}(h:OnWay S m way f):∀(bs:List UInt8)(D d:Nat),m<S.length->bs.length<=D->(zai S d m bs).2=0->
 ∃D',(∀b∈zcf f (zao S m bs way),zbk f (zao S m bs way)=true->f.kind=17->b.length<=D')/\(atM way (ofV S D m bs)=if zbk f (zao S m bs way)=true then some (zbr (ofV S D') f (zao S m bs way))else none)/\zec way (ofV S D m bs)/\(zaf f.kind=true->codeV f.kind (zao S m bs way).flatten=0):=by
 induction h with
 | @last m n f h=>
   intro bs D d hm hl hv;obtain⟨M,hM⟩:∃M,S[m]?=some M:=⟨_,List.getElem?_eq_getElem hm⟩
   rw[zaQ,zaA hM]at hv
   have hw:zao S m bs [n]=zaU (zar S m) bs n:=by
    unfold zao;rw[if_pos rfl]
   rw[hw,zfE S D (bs.length+1) m bs hl (by omega)];refine⟨bs.length,fun b hb ht h17=> ?_,?_,fun h=>absurd rfl h,fun hn=> ?_⟩
   . have hle:=zbK (zar S m) bs n
     unfold zcf at hb;by_cases hr:f.rep=true
     . rw[if_pos hr]at hb
       have:=zcx hb;omega
     . rw[if_neg hr,List.mem_singleton,zeJ h17 (by simpa using hr)]at hb
       rw[hb];exact hle
   . unfold atM
     have hg:=zqA (bs:=bs) (x:=n) hR hM (sub:=ofV S bs.length) h hv.2
     show(match getM (ofM (ofV S bs.length) S m bs) n with
      |none=>none
      |some v=>if([]:List Int)=[]then some v else match v.subs with
       |[]=>none
       |y::_=>atM [] y)=_
     rw[hg];by_cases ht:zbk f (zaU (zar S m) bs n)=true
     . rw[if_pos ht]
       simp
     . rw[if_neg ht]
   . obtain⟨i,hf,hi⟩:=zbY hM h
     exact zoo hf hn hv.2 (zcr hM hf hi)
 | @step m n f g l h hk hr t ih=>
   intro bs D d hm hl hv;obtain⟨M,hM⟩:∃M,S[m]?=some M:=⟨_,List.getElem?_eq_getElem hm⟩
   rw[zaQ,zaA hM]at hv
   have hw:zao S m bs (n::l)=zao S f.of_.toNat (zaU (zar S m) bs n).flatten l:=by
    conv=>lhs;unfold zao
    rw[if_neg t.ne,h]
   rw[hw,zfE S D (bs.length+1) m bs hl (by omega)];have hg:=zqA (bs:=bs) (x:=n) hR hM (sub:=ofV S bs.length) h hv.2
   have hat:atM (n::l) (ofV S (bs.length+1) m bs)=(match getM (ofM (ofV S bs.length) S m bs) n with
    |none=>none
    |some v=>if l=[]then some v else match v.subs with
     |[]=>none
     |y::_=>atM l y):=by
    conv=>lhs;unfold atM
    rfl
   have hsol:zec (n::l) (ofV S (bs.length+1) m bs)=(l≠ []->∀v,getM (ofM (ofV S bs.length) S m bs) n=some v->∃y ys,v.subs=y::ys/\zec l y):=by
    conv=>lhs;unfold zec
    rfl
   rw[hat,hsol,hg];have hle:=zbK (zar S m) bs n;obtain⟨i,hf,hi⟩:=zbY hM h;have hpn:=zcr (bs:=bs) hM hf hi;generalize zaU (zar S m) bs n=ps at*;have hrun:runP f=false:=by unfold runP;rw[hr];rfl
   by_cases hps:ps=[]
   . subst hps
     rw[zfs,if_neg (by simp)]
     have hz:zao S f.of_.toNat ([]:List (List UInt8)).flatten l=[]:=by
      have:=(zbZ S l f.of_.toNat ([]:List (List UInt8)).flatten).2;exact List.eq_nil_of_length_eq_zero (by simpa using this)
     rw[hz,zfs];refine⟨0,?_,rfl,?_,fun hn=>(zey hn [] (fun b hb=>by cases hb)).2⟩
     . intro b _ q
       cases q
     . intro _ v q
       cases q
   . have hpl:0<ps.length:=List.length_pos_iff.2 hps
     rw[zfS hrun,if_pos (by simpa using hpl)]
     have hsub:(zbr (ofV S bs.length) f ps).subs=[ofV S bs.length f.of_.toNat ps.flatten]:=by
      unfold zbr zcf;rw[zeJ hk hr];simp[hk,hr]
     obtain⟨o,ho1,ho2⟩:=zbV hR hM hf hk;have hno:f.of_.toNat=o:=by rw[ho1];rfl
     have hnum:zaf f.kind=false:=by rw[hk];rfl
     have hVne:zah (zae M.fields bs).1 i≠ []:=fun e=>by rw[e]at hpn;exact hps (by simpa using hpn)
     have hvr:∀v∈zah (zae M.fields bs).1 i,v.run=false:=fun v hv=>by
      rcases zbN (zbn hv).1 (zbn hv).2.1 hf with⟨_,_,q⟩|⟨q,_⟩
      . exact absurd hk (zbC q)
      . exact q
     obtain⟨e,hde⟩:∃e,d=e+1:=by
      obtain⟨v,L,hvl⟩:=List.exists_cons_of_ne_nil hVne;have hv1:v∈zah (zae M.fields bs).1 i:=by rw[hvl];exact List.mem_cons_self
      rcases d with _|e
      . have h1:=(zbq (S:=S) (d:=0) (bs:=bs) (zbn hv1).2.1 hf (hvr v hv1) hk).1 rfl
        have h2:=hv.2 v (zbn hv1).1;rw[h1]at h2;cases h2
      . exact⟨e,rfl⟩
     subst hde
     have hval:(zai S e o ps.flatten).2=0:=by
      have:=zgn (S:=S) (bs:=bs) (f:=f) (e:=e) (o:=o) (L:=zah (zae M.fields bs).1 i) (fun v hv1=>⟨hvr v hv1,by
       have h1:=(zbq (S:=S) (d:=e+1) (bs:=bs) (zbn hv1).2.1 hf (hvr v hv1) hk).2 e rfl;have h2:=hv.2 v (zbn hv1).1;rw[h1.1,hno]at h2
       exact h2⟩) hnum
      rw[zdm hf hnum,<-hpn]at this;exact this
     rw[hno]at ih⊢;obtain⟨D',q1,q2,q3,q4⟩:=ih ps.flatten bs.length e ho2 hle hval;refine⟨D',q1,?_,?_,q4⟩
     . simp only[if_neg t.ne,hsub,hno]
       exact q2
     . intro _ v hv
       injection hv with hv;subst hv;exact⟨_,[],hsub,by rw[hno];exact q3⟩
end
end Go.Proofs.YtpicpebolghcfaaGreatDoor
