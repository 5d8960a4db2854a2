/- Plain laws of layer 21 (update): a message's records, changed one by one; pieces, one behind the other. -/
import Derived.Test.YtpicpebolghcfaaGreatDoorQlS61

set_option linter.unusedVariables false
set_option linter.unusedSimpArgs false
namespace Go.Proofs.YtpicpebolghcfaaGreatDoor
open Go.RowKit Go.Shelf
def setsP(rec:List UInt8->Bool->List UInt8)(put:Bool):List (List UInt8)->List (List UInt8)
 |[]=>[]
 |p::P=>rec p (put&&decide (P=[]))::setsP rec put P
theorem zhl(rec:List UInt8->Bool->List UInt8):∀P,setsP rec false P=P.map fun p=>rec p false
 |[]=>rfl
 |p::P=>by
  unfold setsP;rw[zhl rec P];rfl
theorem zio(rec:List UInt8->Bool->List UInt8){Q:List (List UInt8)}(hQ:Q≠ []):∀P,(P.map fun p=>rec p false)++setsP rec true Q=setsP rec true (P++Q)
 |[]=>rfl
 |p::P=>by
  have ih:=zio rec hQ P;rw[List.map_cons,List.cons_append,List.cons_append,ih]
  conv=>rhs;unfold setsP
  have:decide (P++Q=[])=false:=by simp[hQ]
  rw[this];rfl
section
variable {S:List MsgD} {m:Nat} {M:MsgD} {f:zab} {i:Nat} {x:Int} {e:Nat}
theorem zhm(hf:M.fields[i]?=some f)(hx:idxB (numP x) M.fields=(i:Nat))(h17:f.kind=17)(b:List UInt8):(!hasU x (zae M.fields b).1)=decide (zau M.fields f i b=[]):=by
 have hn:zaf f.kind=false:=by rw[h17];rfl
 unfold zau;rw[zdm hf hn,<-zfr hf hx];rw[Bool.eq_iff_iff,Bool.not_eq_true',decide_eq_true_iff,List.map_eq_nil_iff,List.filter_eq_nil_iff,Bool.eq_false_iff];constructor
 . intro h v hv hp
   refine h (zew.2 ⟨v,hv,?_⟩);unfold ofP at hp;simpa using hp
 . intro h h2
   obtain⟨v,hv,hvx⟩:=zew.1 h2;refine h v hv ?_;unfold ofP;simpa using hvx
theorem zkZ(hM:S[m]?=some M)(hf:M.fields[i]?=some f)(hx:idxB (numP x) M.fields=(i:Nat))(h17:f.kind=17)(rec:List UInt8->Bool->List UInt8)(put:Bool){B:Nat}(hrec:∀p fl,(zai S e f.of_.toNat p).2=0->p.length<=B->(zai S e f.of_.toNat (rec p fl)).2=0/\(rec p fl).length<18446744073709551616):∀(n:Nat)(bs:List UInt8),bs.length<=n->bs.length<=B->(zai S (e+1) m bs).2=0->
 Doc S (e+1) m M.fields f i bs (stepU rec x false true put bs (zae M.fields bs).1) (decide (zau M.fields f i bs≠ [])) [] (setsP rec put (zau M.fields f i bs))/\∀p∈zau M.fields f i bs,(zai S e f.of_.toNat p).2=0/\p.length<=B
 |0,bs,hn,_,_=>by
  have:bs=[]:=List.eq_nil_of_length_eq_zero (by omega);subst this;have hp:zau M.fields f i []=[]:=by unfold zau;rw[zaZ];rfl
  rw[hp,zaZ];exact⟨Doc.nil,fun p h=>by cases h⟩
 |n+1,bs,hn,hB,hv=>by
  by_cases hne:bs=[]
  . subst hne
    have hp:zau M.fields f i []=[]:=by unfold zau;rw[zaZ];rfl
    rw[hp,zaZ];exact⟨Doc.nil,fun p h=>by cases h⟩
  . obtain⟨v,a,b,rfl,ha,hva,h0,ht,hv1,hv2,hL⟩:=zot hM hv hne
    have hal:0<a.length:=List.length_pos_iff.2 ha;rw[List.length_append]at hn hB;obtain⟨ih,ihp⟩:=zkZ hM hf hx h17 rec put hrec n b (by omega) (by omega) hv2;have hoka:(zae M.fields a).2.2=0:=by rw[hva]
    have hpab:zau M.fields f i (a++b)=zau M.fields f i a++zau M.fields f i b:=zcq hoka ih.okq f i;rw[hL];unfold stepU;rw[zfb,zim,h0,ht,zin,zfN a b (v:=v) (by omega)];by_cases hxn:(v.r.n:Int)=x
    . have hfi:=(zft hf hx hva).1 hxn
      have hvm:v∈(zae M.fields a).1:=by rw[hva];exact List.mem_singleton.2 rfl
      have hrun:v.run=false:=by
       rcases zbN hvm hfi hf with⟨_,_,q⟩|⟨q,_⟩
       . exact absurd h17 (zbC q)
       . exact q
      have hnum:zaf f.kind=false:=by rw[h17];rfl
      have hpa:zau M.fields f i a=[zak a v]:=by
       unfold zau;rw[hva,zbs,if_pos hfi];unfold zaj;simp[hrun,hnum]
      have hvp:(zai S e f.of_.toNat (zak a v)).2=0:=by
       have h1:=hv1;rw[zaQ,zaA hM]at h1;have h2:=h1.2 v hvm;rw[((zbq (S:=S) (d:=e+1) (bs:=a) hfi hf hrun h17).2 e rfl).1]at h2;exact h2
      have hvb:=zbO hvm
      have hvl:(zak a v).length<=B:=by
       have:=zax a (a:=v.r.a) (t:=v.r.t) hvb.2.2;unfold zak;omega
      obtain⟨r1,r2⟩:=hrec (zak a v) (put&& !hasU x (zae M.fields b).1) hvp hvl;rw[if_neg (by simp[hxn]),if_neg (by simp)];obtain⟨u,u1,u2,u3,u4,u5⟩:=zne (e:=e) hM hf h17 hva h0 ht hfi r1 r2;rw[hpab,hpa,zhm hf hx h17]at*;generalize hp':rec (zak a v) (put&&decide (zau M.fields f i b=[]))=p' at*
      have hd1:Doc S (e+1) m M.fields f i a (zda (tagV a).2.2.1 a p') true [] [p']:=by
       refine Doc.turn hva hfi (by rw[u1]) u5 (fun k hk=>by rw[u1,zbs,if_neg (by omega)]) (by rw[u1];simp[u2]) (by rw[u1,zbs,if_pos u2];simp) ?_ ?_
       . unfold zcF
         rw[u1,zbs,if_pos u2];unfold zaz;simp[u3,hnum]
       . unfold zau
         rw[u1,zbs,if_pos u2];unfold zaj;simp[u3,hnum,u4]
      have:=hd1.append ih;refine⟨?_,?_⟩
      . simpa[setsP,hp'] using this
      . intro p hp
        rw[List.singleton_append]at hp;rcases List.mem_cons.1 hp with rfl|hp
        . exact⟨hvp,hvl⟩
        . exact ihp p hp
    . have hfi:v.field≠(i:Int):=fun h=>hxn ((zft hf hx hva).2 h)
      have hpa:zau M.fields f i a=[]:=by
       unfold zau;rw[hva,zbs,if_neg hfi];rfl
      rw[if_pos (.inl hxn),hpab,hpa,List.nil_append];exact⟨by simpa using (Doc.keep (f:=f) hva hv1 hfi).append ih,ihp⟩
end
variable{x:Int}
theorem zjL{L:List ViewD}:lastU L x L.length<0<->hasU x L=false:=by
 constructor
 . intro h
   rw[Bool.eq_false_iff];intro h2
   have key:∀k,(∃j v,j<k/\L[j]?=some v/\(v.r.n:Int)=x)->0<=lastU L x k:=by
    intro k
    induction k with
    |zero=>
     rintro⟨j,v,hj,_⟩;omega
    |succ k ih=>
     rintro⟨j,v,hj,hv,hx⟩;unfold lastU;rcases hu:L[k]? with _|u
     . simp only
       refine ih ⟨j,v,?_,hv,hx⟩;rcases Nat.lt_or_ge j k with h|h
       . exact h
       . have:j=k:=by omega
         subst this;rw[hu]at hv;cases hv
     . simp only
       by_cases hux:(u.r.n:Int)=x
       . rw[if_pos hux]
         omega
       . rw[if_neg hux]
         refine ih ⟨j,v,?_,hv,hx⟩;rcases Nat.lt_or_ge j k with h|h
         . exact h
         . have:j=k:=by omega
           subst this;rw[hu]at hv;cases hv;exact absurd hx hux
   obtain⟨v,hv,hx⟩:=zew.1 h2;obtain⟨j,hj⟩:=List.mem_iff_getElem?.1 hv;have:=key L.length ⟨j,v,(List.getElem?_eq_some_iff.1 hj).1,hj,hx⟩;omega
 . intro h
   rw[zig (fun j v hj hv hx=>by
    have:hasU x L=true:=zew.2 ⟨v,List.mem_of_getElem? hv,hx⟩;rw[h]at this
    cases this)]
   omega
theorem zfu{S:List MsgD}{drop:Bool}{extra:List UInt8}{l:List Int}{m:Nat}{M:MsgD}(hM:S[m]?=some M)(bs:List UInt8)(put:Bool):
 setB S drop extra (x::l) m bs put=stepU (fun b p=>setB S drop extra l (ofU S m x) b p) x (decide (l=[])) drop put bs (zae M.fields bs).1++
  (if put=false then[]else if l=[]then extra else if hasU x (zae M.fields bs).1=false then lenB x (setB S drop extra l (ofU S m x) [] true)else[]):=by
 have hfo:zar S m=M.fields:=by unfold zar;rw[hM]
 conv=>lhs;unfold setB
 rw[hfo,zmU];congr 1;by_cases h:hasU x (zae M.fields bs).1=false
 . rw[if_pos h,if_pos (zjL.2 h)]
 . rw[if_neg h,if_neg (fun q=>h (zjL.1 q))]
section
variable {S:List MsgD} {d m:Nat} {M:MsgD} {f:zab} {i:Nat} {x:Int} {e:Nat}
theorem Doc.behind{fs:List zab}{cs:List (List UInt8)}{ws:List Nat}{ps:List (List UInt8)}(hfs:fs=M.fields)(h:∀c∈cs,∃w p,Chunk fs i f c w p)(hv:∀c∈cs,(zai S d m c).2=0)(hw:(cs.flatMap fun c=>zcF fs f i c)=ws)(hp:(cs.flatMap fun c=>zau fs f i c)=ps):Doc S d m fs f i [] cs.flatten (decide (cs≠ [])) ws ps:=by
 subst hfs
 have hok:∀c∈cs,(zae M.fields c).2.2=0:=fun c hc=>by
  obtain⟨_,_,k⟩:=h c hc;exact k.ok
 have hn:=zaZ M.fields
 have hoth:∀k,k≠i->zah (zae M.fields cs.flatten).1 k=[]:=fun k hk=>(zkN k hok).2 (fun c hc=>by
  obtain⟨_,_,q⟩:=h c hc
  exact q.other k hk)
 refine⟨by rw[hn],zdz hok,zcS hv,fun k hk=> ?_,fun k g hk=> ?_,fun k g hk=> ?_,?_,?_,?_,?_⟩
 . rw[hoth k hk,hn]
   simp[zah]
 . unfold zcF
   rw[hoth k hk,hn];rfl
 . unfold zau
   rw[hoth k hk,hn];rfl
 . unfold unkD
   rw[zof hok,hn]
   have:(cs.flatMap fun c=>((zae M.fields c).1.filter fun v=>decide (v.field<0)).map fun v=>textO (spanB c v.r.f v.r.t))=[]:=by
    rw[List.flatMap_eq_nil_iff];intro c hc;obtain⟨_,_,k⟩:=h c hc;rw[k.unk];rfl
   rw[this];rfl
 . rw[zkN i hok,decide_eq_false_iff_not,Decidable.not_not]
   constructor
   . intro hc
     rcases cs with _|⟨c,cs⟩
     . rfl
     . obtain⟨_,_,k⟩:=h c List.mem_cons_self
       exact absurd (hc c List.mem_cons_self) k.own
   . intro hc c hcm
     rw[hc]at hcm;cases hcm
 . unfold zcF
   rw[zjF f i hok];exact hw
 . unfold zau
   rw[zif f i hok];exact hp
theorem zqC{sub:Nat->List UInt8->MsgT}{q out:List UInt8}{nz:Bool}{ws:List Nat}{ps:List (List UInt8)}(hM:S[m]?=some M)(h:Doc S d m M.fields f i q out nz ws ps)(hi:zbS sub M.fields out (zae M.fields out).1 i=zbS sub M.fields q (zae M.fields q).1 i):ofM sub S m out=ofM sub S m q:=by
 unfold ofM;rw[hM];simp only;congr 1
 . refine zeM fun k _=> ?_
   by_cases hk:k=i
   . rw[hk]
     exact hi
   . unfold zbS
     rcases M.fields[k]? with _|g
     . rfl
     . simp only
       by_cases h0:zah (zae M.fields q).1 k=[]
       . rw[if_pos h0,if_pos ((h.own k hk).2 h0)]
       . rw[if_neg h0,if_neg (fun q2=>h0 ((h.own k hk).1 q2)),zbT,zbT]
         have hw:=h.words k g hk;have hp:=h.pieces k g hk;unfold zcF at hw;unfold zau at hp;rw[hw,hp]
 . exact h.unk
end
end Go.Proofs.YtpicpebolghcfaaGreatDoor
namespace Go.Proofs.YtpicpebolghcfaaGreatDoor
open Go.RowKit
open Go.Lib (uvarint)
section
variable {S:List MsgD} {m i:Nat} {M:MsgD} {f:zab} {sub:Nat->List UInt8->MsgT}
def zal(f:zab)(bs:List UInt8):List UInt8:=(zaW f bs).flatten
theorem zhn:∀(ps:List (List UInt8)),(∀p∈ps,p.length<18446744073709551616)->∀k,((ps.map (partL true)).flatten).length<=k->zaY k ((ps.map (partL true)).flatten)=ps.map fun p=>(p,0)
 |[],_,k,_=>by cases k<;>rfl
 |p::ps,h,0,hk=>by
  have:=Go.Lib.uvarint_pos p.length;rw[List.map_cons,List.flatten_cons,zjJ]at hk;simp only[List.length_append]at hk;omega
 |p::ps,h,k+1,hk=>by
  have hp:=h p List.mem_cons_self;have hu:=Go.Lib.uvarint_pos p.length;rw[List.map_cons,List.flatten_cons,zjJ,List.append_assoc]at hk⊢;have hr:=zch p.length (p++((ps.map (partL true)).flatten)) hp
  have hit:itemN (uvarint p.length++(p++((ps.map (partL true)).flatten)))=((uvarint p.length).length,p.length,0):=by
   unfold itemN;rw[hr];simp only;rw[if_neg (by simp),if_neg (by simp only[List.length_append];omega)]
  have hne:uvarint p.length++(p++((ps.map (partL true)).flatten))≠ []:=by
   intro e;have:=congrArg List.length e;simp only[List.length_append,List.length_nil]at this;omega
  rw[zhM hne (by rw[hit]),hit];simp only
  have e1:(uvarint p.length++(p++((ps.map (partL true)).flatten))).drop ((uvarint p.length).length+p.length)=((ps.map (partL true)).flatten):=by
   rw[<-List.append_assoc,List.drop_left' (by simp)]
  have e2:((uvarint p.length++(p++((ps.map (partL true)).flatten))).drop (uvarint p.length).length).take p.length=p:=by
   rw[List.drop_left' rfl,List.take_left' rfl]
  rw[e1,e2,zhn ps (fun q hq=>h q (List.mem_cons_of_mem _ hq)) k (by simp only[List.length_append]at hk;omega)];rfl
end
section
variable {S:List MsgD} {m i:Nat} {M:MsgD} {f:zab}
theorem zjM(hR:zan S=true)(hM:S[m]?=some M)(hf:M.fields[i]?=some f){bs:List UInt8}{d:Int}(hc:codeL S f bs d=0)(hr:runL f=false):∀x∈zaI f.rep bs,(zaw f.number (wireI f.kind)&&fitsV (wireI f.kind) x.1)=true:=by
 have h0:argsL S f d=0:=by
  by_cases h0:argsL S f d=0
  . exact h0
  . rw[zen h0]at hc
    exact absurd hc h0
 rw[zdi h0 hr]at hc;obtain⟨⟨T,hT⟩,n1,n2,hkb⟩:=zbl hR hM hf;intro x hx;rw[Bool.and_eq_true];rcases hn:zaf f.kind with _|_
 . rw[zfQ hkb hn,hT]
   exact⟨zcC (by omega) (by omega) (by decide),ziM _⟩
 . obtain⟨V,hV,hV2,_⟩:=zgX hn (w:=0) (by decide)
   have h1:=(zlY (zfg hc x hx).2).1 hn;rw[zhV hn x.1]at h1
   have hfit:fitsV (wireI f.kind) x.1=true:=by
    by_cases h:fitsV (wireI f.kind) x.1=true
    . exact h
    . rw[if_neg h]at h1
      cases h1
   rw[hV]at hfit⊢;rw[hT];exact⟨zcC (by omega) (by omega) hV2,hfit⟩
theorem zfv(hR:zan S=true)(hM:S[m]?=some M)(hf:M.fields[i]?=some f):zaw f.number 2=true:=by
 obtain⟨⟨T,hT⟩,n1,n2,hkb⟩:=zbl hR hM hf;rw[hT];exact zcC (by omega) (by omega) (by decide)
end
end Go.Proofs.YtpicpebolghcfaaGreatDoor
namespace Go.Proofs.YtpicpebolghcfaaGreatDoor
open Go.RowKit
theorem ziq:∀(f:Nat)(bs:List UInt8),((zaY f bs).map fun x=>x.1.length+1).sum<=bs.length+1
 |0,bs=>by simp[zaY]
 |f+1,bs=>by
  have hn:=zmC bs;unfold zaY;by_cases hb:bs=[]
  . rw[if_pos hb]
    simp
  . rw[if_neg hb]
    by_cases h0:(itemN bs).2.2=0
    . rw[if_pos h0]
      have ih:=ziq f (bs.drop ((itemN bs).1+(itemN bs).2.1));rcases hn with⟨_,h1,h2,_⟩|⟨h1,_⟩
      . rw[List.length_drop]at ih
        rw[List.map_cons,List.sum_cons,List.length_take,List.length_drop];omega
      . exact absurd h0 h1
    . rw[if_neg h0]
      simp
theorem zjN{n w:Int}:∀(l:List (List UInt8×Nat)),(∀x∈l,zaw n w=true/\x.1.length<=100000)->((l.map fun x=>putB n w x.1).flatten).length<=16*(l.map fun x=>x.1.length+1).sum
 |[],_=>by simp
 |x::l,h=>by
  have ih:=zjN l (fun y hy=>h y (List.mem_cons_of_mem _ hy));obtain⟨h1,h2⟩:=h x List.mem_cons_self;have:=zcv h1 (v:=x.1) (by omega);rw[List.map_cons,List.flatten_cons,List.length_append,List.map_cons,List.sum_cons];omega
theorem zqU{l:List Nat}{x:Nat}(h:x∈l):x<=l.sum:=by
 induction l with
 |nil=>cases h
 |cons a l ih=>
  rw[List.sum_cons];rcases List.mem_cons.1 h with rfl|h
  . omega
  . have:=ih h
    omega
variable{f:zab}{m:Nat}{S:List MsgD}
theorem znf(hR:zan S=true){i:Nat}{M:MsgD}(hM:S[m]?=some M)(hf:M.fields[i]?=some f){bs:List UInt8}{d:Int}(hc:codeL S f bs d=0)(hl:bs.length<=50000):(zal f bs).length<=1000000:=by
 have hsum:((zaI f.rep bs).map fun x=>x.1.length+1).sum<=bs.length+1:=by
  unfold zaI;split
  . exact ziq _ _
  . simp
 unfold zal zaW;by_cases hr:runL f=true
 . rw[if_pos hr]
   split
   . simp
   . have hrb:=zfv hR hM hf
     have:=zcv hrb (v:=bs) (by omega);simp;omega
 . have hr2:runL f=false:=by simpa using hr
   rw[if_neg hr];have hp:=zjM hR hM hf hc hr2
   have:=zjN (n:=f.number) (w:=wireI f.kind) (zaI f.rep bs) (fun x hx=>by
    have h1:=hp x hx;rw[Bool.and_eq_true]at h1;refine⟨h1.1,?_⟩;have:=zqU (List.mem_map.2 ⟨x,hx,rfl⟩:x.1.length+1∈(zaI f.rep bs).map fun x=>x.1.length+1)
    omega)
   omega
theorem OnWay.mem{way:List Int}(h:OnWay S m way f):∃(m' i:Nat)(M:MsgD),S[m']?=some M/\M.fields[i]?=some f:=by
 induction h with
 | @last m n f h=>
   rcases hM:S[m]? with _|M
   . unfold zbj at h
     rw[hM]at h;cases h
   . obtain⟨j,hj,_⟩:=zbY hM h
     exact⟨m,j,M,hM,hj⟩
 |step _ _ _ _ ih=>exact ih
end Go.Proofs.YtpicpebolghcfaaGreatDoor
namespace Go.Proofs.YtpicpebolghcfaaGreatDoor
open Go.RowKit Go.Shelf
section
variable {S:List MsgD} {d m:Nat} {M:MsgD} {f:zab} {i:Nat} {x:Int} {e:Nat} {extra:List UInt8} {l:List Int}
theorem zme(hx:zbj S m x=some f):ofU S m x=f.of_.toNat:=by unfold ofU;rw[hx]
theorem zjO(hM:S[m]?=some M)(hf:M.fields[i]?=some f)(hx:idxB (numP x) M.fields=(i:Nat))(hfa:zbj S m x=some f)(h17:f.kind=17)(hl:l≠ []){B:Nat}(hrec:∀p fl,(zai S e f.of_.toNat p).2=0->p.length<=B->(zai S e f.of_.toNat (setB S true extra l f.of_.toNat p fl)).2=0/\(setB S true extra l f.of_.toNat p fl).length<18446744073709551616){q:List UInt8}(hq:(zai S (e+1) m q).2=0)(hB:q.length<=B):
 Doc S (e+1) m M.fields f i q (setB S true extra (x::l) m q false) (decide (zau M.fields f i q≠ [])) [] ((zau M.fields f i q).map fun p=>setB S true extra l f.of_.toNat p false)/\∀p∈zau M.fields f i q,(zai S e f.of_.toNat p).2=0/\p.length<=B:=by
 have h:=zkZ (e:=e) hM hf hx h17 (fun b p=>setB S true extra l f.of_.toNat b p) false (B:=B) hrec q.length q (Nat.le_refl _) hB hq;rw[zfu hM,zme hfa,if_pos rfl,List.append_nil,show decide (l=[])=false by simp[hl]];rw[zhl]at h;exact h
theorem zmf(hR:zan S=true)(hM:S[m]?=some M)(hf:M.fields[i]?=some f)(hx:idxB (numP x) M.fields=(i:Nat))(hfa:zbj S m x=some f)(h17:f.kind=17)(hl:l≠ []){B:Nat}(hrec:∀p fl,(zai S e f.of_.toNat p).2=0->p.length<=B->(zai S e f.of_.toNat (setB S true extra l f.of_.toNat p fl)).2=0/\(setB S true extra l f.of_.toNat p fl).length<18446744073709551616){q:List UInt8}(hq:(zai S (e+1) m q).2=0)(hB:q.length<=B):
 ∃P,P≠ []/\P.flatten=(zau M.fields f i q).flatten/\(∀p∈P,(zai S e f.of_.toNat p).2=0/\p.length<=B)/\Doc S (e+1) m M.fields f i q (setB S true extra (x::l) m q true) true [] (setsP (fun b p=>setB S true extra l f.of_.toNat b p) true P):=by
 obtain⟨h,hp⟩:=zkZ (e:=e) hM hf hx h17 (fun b p=>setB S true extra l f.of_.toNat b p) true (B:=B) hrec q.length q (Nat.le_refl _) hB hq;rw[zfu hM,zme hfa,if_neg (by simp),if_neg hl,show decide (l=[])=false by simp[hl]];have hh:=zhm hf hx h17 q;by_cases h0:zau M.fields f i q=[]
 . have hu:hasU x (zae M.fields q).1=false:=by
    rw[h0]at hh;simpa using hh
   rw[if_pos hu];rw[h0]at h;obtain⟨r1,r2⟩:=hrec [] true (zcR S e _) (by simp);have hnum:zaf f.kind=false:=by rw[h17];rfl
   obtain⟨c1,c2⟩:=zgs (d:=e) hR hM hf hnum (val:=setB S true extra l f.of_.toNat [] true) (fun h15=>by omega) (fun _=>r1) r2
   have hfx:f.number=x:=by
    unfold zbj at hfa;rw[hM]at hfa;have:=List.find?_some hfa;unfold numP at this;simpa using this
   have hlb:lenB x (setB S true extra l f.of_.toNat [] true)=putB f.number (wireI f.kind) (setB S true extra l f.of_.toNat [] true):=by
    unfold lenB;rw[<-hfx,if_pos (zfv hR hM hf),h17];rfl
   rw[hlb]
   have hd:=Doc.behind (S:=S) (d:=e+1) (m:=m) (M:=M) (f:=f) (i:=i) (cs:=[putB f.number (wireI f.kind) (setB S true extra l f.of_.toNat [] true)]) (ws:=[]) (ps:=[setB S true extra l f.of_.toNat [] true]) rfl (fun c hc=>by
    rw[List.mem_singleton]at hc;subst hc
    exact⟨_,_,c1⟩) (fun c hc=>by
    rw[List.mem_singleton]at hc;subst hc
    exact c2) (by rw[List.flatMap_singleton];exact c1.words) (by rw[List.flatMap_singleton];exact c1.pieces)
   refine⟨[[]],by simp,by rw[h0];rfl,fun p hp=> ?_,?_⟩
   . rw[List.mem_singleton]at hp
     subst hp;exact⟨zcR S e _,by simp⟩
   . have:=h.append hd
     rw[List.append_nil]at this;simpa[setsP] using this
 . have hu:¬hasU x (zae M.fields q).1=false:=by
    intro h2;rw[h2]at hh;have:zau M.fields f i q=[]:=by simpa using hh
    exact h0 this
   rw[if_neg hu,List.append_nil];rw[show decide (zau M.fields f i q≠ [])=true by simp[h0]]at h;exact⟨_,h0,rfl,hp,h⟩
theorem zmg(hR:zan S=true)(hM:S[m]?=some M)(hf:M.fields[i]?=some f)(hx:idxB (numP x) M.fields=(i:Nat))(hfa:zbj S m x=some f)(h17:f.kind=17)(hl:l≠ []){B:Nat}(hrec:∀p fl,(zai S e f.of_.toNat p).2=0->p.length<=B->(zai S e f.of_.toNat (setB S true extra l f.of_.toNat p fl)).2=0/\(setB S true extra l f.of_.toNat p fl).length<18446744073709551616):∀(qs:List (List UInt8)),qs≠ []->(∀q∈qs,(zai S (e+1) m q).2=0/\q.length<=B)->
 ∃P,P≠ []/\P.flatten=(zau M.fields f i qs.flatten).flatten/\(∀p∈P,(zai S e f.of_.toNat p).2=0/\p.length<=B)/\
  Doc S (e+1) m M.fields f i qs.flatten ((setsP (fun b p=>setB S true extra (x::l) m b p) true qs).flatten) true [] (setsP (fun b p=>setB S true extra l f.of_.toNat b p) true P)
 |[],h,_=>absurd rfl h
 |[q],_,hq=>by
  obtain⟨q1,q2⟩:=hq q List.mem_cons_self;obtain⟨P,p1,p2,p3,p4⟩:=zmf hR hM hf hx hfa h17 hl hrec q1 q2;refine⟨P,p1,?_,p3,?_⟩
  . simpa using p2
  . simpa[setsP] using p4
 |q::q'::qs,_,hq=>by
  obtain⟨q1,q2⟩:=hq q List.mem_cons_self;obtain⟨d1,d2⟩:=zjO hM hf hx hfa h17 hl hrec q1 q2;obtain⟨P,p1,p2,p3,p4⟩:=zmg hR hM hf hx hfa h17 hl hrec (q'::qs) (by simp) (fun r hr=>hq r (List.mem_cons_of_mem _ hr));refine⟨zau M.fields f i q++P,by simp[p1],?_,fun p hp=> ?_,?_⟩
  . have h9:(q::q'::qs).flatten=q++(q'::qs).flatten:=List.flatten_cons
    have:zau M.fields f i (q++(q'::qs).flatten)=zau M.fields f i q++zau M.fields f i (q'::qs).flatten:=zcq d1.okq p4.okq f i;rw[List.flatten_append,p2,h9,this,List.flatten_append]
  . rcases List.mem_append.1 hp with hp|hp
    . exact d2 p hp
    . exact p3 p hp
  . have:=d1.append p4
    rw[zio _ p1,Bool.or_true,List.append_nil]at this
    have hs:setsP (fun b p=>setB S true extra (x::l) m b p) true (q::q'::qs)=setB S true extra (x::l) m q false::setsP (fun b p=>setB S true extra (x::l) m b p) true (q'::qs):=by
     conv=>lhs;unfold setsP
     simp
    rw[hs,List.flatten_cons,List.flatten_cons];exact this
end
end Go.Proofs.YtpicpebolghcfaaGreatDoor
