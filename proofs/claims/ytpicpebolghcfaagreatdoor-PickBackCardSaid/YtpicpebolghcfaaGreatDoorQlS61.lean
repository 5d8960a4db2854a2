/- Plain laws of layer 21 (update): what bytes with a field set hold. -/
import Derived.Test.YtpicpebolghcfaaGreatDoorQlS55
import Derived.Test.YtpicpebolghcfaaGreatDoorQlS41

set_option linter.unusedVariables false
set_option linter.unusedSimpArgs false
namespace Go.Proofs.YtpicpebolghcfaaGreatDoor
open Go.RowKit Go.Shelf
def zcF(fs:List zab)(f:zab)(i:Nat)(bs:List UInt8):List Nat:=(zah (zae fs bs).1 i).flatMap (zaz f bs)
def zau(fs:List zab)(f:zab)(i:Nat)(bs:List UInt8):List (List UInt8):=(zah (zae fs bs).1 i).flatMap (zaj f bs)
def unkD(fs:List zab)(bs:List UInt8):List ByteArray:=((zae fs bs).1.filter fun v=>decide (v.field<0)).map fun v=>textO (spanB bs v.r.f v.r.t)
structure Doc(S:List MsgD)(d m:Nat)(fs:List zab)(f:zab)(i:Nat)(q out:List UInt8)(nz:Bool)(ws:List Nat)(ps:List (List UInt8)):Prop where
 okq:(zae fs q).2.2=0
 ok:(zae fs out).2.2=0
 valid:(zai S d m out).2=0
 own:∀k,k≠i->(zah (zae fs out).1 k=[]<->zah (zae fs q).1 k=[])
 words:∀k g,k≠i->zcF fs g k out=zcF fs g k q
 pieces:∀k g,k≠i->zau fs g k out=zau fs g k q
 unk:unkD fs out=unkD fs q
 own0:zah (zae fs out).1 i=[]<->nz=false
 words0:zcF fs f i out=ws
 pieces0:zau fs f i out=ps
section
variable {S:List MsgD} {d m:Nat} {M:MsgD} {f:zab} {i:Nat} {x:Int}
theorem Doc.nil:Doc S d m M.fields f i [] [] false [] []:=by
 have hv:=zaZ M.fields;refine⟨by rw[hv],by rw[hv],zcR S d m,fun k _=>Iff.rfl,fun k g _=>rfl,fun k g _=>rfl,rfl,?_,?_,?_⟩
 . rw[hv]
   simp[zah]
 . unfold zcF
   rw[hv];rfl
 . unfold zau
   rw[hv];rfl
theorem Doc.append{fs:List zab}{q1 o1 q2 o2:List UInt8}{z1 z2:Bool}{w1 w2:List Nat}{p1 p2:List (List UInt8)}(h1:Doc S d m fs f i q1 o1 z1 w1 p1)(h2:Doc S d m fs f i q2 o2 z2 w2 p2):
 Doc S d m fs f i (q1++q2) (o1++o2) (z1||z2) (w1++w2) (p1++p2):=by
 refine⟨by rw[zbM h1.okq,if_pos h2.okq],by rw[zbM h1.ok,if_pos h2.ok],(zcP o2 h1.valid).1.2 h2.valid,fun k hk=> ?_,fun k g hk=> ?_,fun k g hk=> ?_,?_,?_,?_,?_⟩
 . rw[zeu h1.ok h2.ok,zeu h1.okq h2.okq,List.append_eq_nil_iff,List.append_eq_nil_iff,List.map_eq_nil_iff,List.map_eq_nil_iff,h1.own k hk,h2.own k hk]
 . unfold zcF
   rw[zev h1.ok h2.ok,zev h1.okq h2.okq];exact congr (congrArg _ (h1.words k g hk)) (h2.words k g hk)
 . unfold zau
   rw[zcq h1.ok h2.ok,zcq h1.okq h2.okq];exact congr (congrArg _ (h1.pieces k g hk)) (h2.pieces k g hk)
 . unfold unkD
   rw[zja h1.ok h2.ok,zja h1.okq h2.okq];exact congr (congrArg _ h1.unk) h2.unk
 . rw[zeu h1.ok h2.ok,List.append_eq_nil_iff,List.map_eq_nil_iff,h1.own0,h2.own0]
   cases z1<;>cases z2<;>simp
 . unfold zcF
   rw[zev h1.ok h2.ok];exact congr (congrArg _ h1.words0) h2.words0
 . unfold zau
   rw[zcq h1.ok h2.ok];exact congr (congrArg _ h1.pieces0) h2.pieces0
theorem zbs(v:ViewD)(k:Nat):zah [v] k=if v.field=(k:Int)then[v]else[]:=by
 unfold zah;by_cases h:v.field=(k:Int)
 . rw[if_pos h]
   simp[h]
 . rw[if_neg h]
   simp[h]
theorem Doc.keep{h:List UInt8}{v:ViewD}(hv:zae M.fields h=([v],0,0))(hval:(zai S d m h).2=0)(hf:v.field≠(i:Int)):Doc S d m M.fields f i h h false [] []:=by
 refine⟨by rw[hv],by rw[hv],hval,fun k _=>Iff.rfl,fun k g _=>rfl,fun k g _=>rfl,rfl,?_,?_,?_⟩
 . rw[hv,zbs,if_neg hf]
   simp
 . unfold zcF
   rw[hv,zbs,if_neg hf];rfl
 . unfold zau
   rw[hv,zbs,if_neg hf];rfl
theorem Doc.turn{h o:List UInt8}{v:ViewD}{nz:Bool}{ws:List Nat}{ps:List (List UInt8)}(hv:zae M.fields h=([v],0,0))(hf:v.field=(i:Int))(ok:(zae M.fields o).2.2=0)(hval:(zai S d m o).2=0)(hoth:∀k,k≠i->zah (zae M.fields o).1 k=[])(hunk:((zae M.fields o).1.filter fun v=>decide (v.field<0))=[])(h0:zah (zae M.fields o).1 i=[]<->nz=false)(hw:zcF M.fields f i o=ws)(hp:zau M.fields f i o=ps):
 Doc S d m M.fields f i h o nz ws ps:=by
 have hq:∀k,k≠i->zah (zae M.fields h).1 k=[]:=fun k hk=>by
  rw[hv,zbs,if_neg];omega
 refine⟨by rw[hv],ok,hval,fun k hk=> ?_,fun k g hk=> ?_,fun k g hk=> ?_,?_,h0,hw,hp⟩
 . rw[hoth k hk,hq k hk]
 . unfold zcF
   rw[hoth k hk,hq k hk];rfl
 . unfold zau
   rw[hoth k hk,hq k hk];rfl
 . unfold unkD
   rw[hunk,hv];simp[hf]
theorem Doc.drop_{h:List UInt8}{v:ViewD}(hv:zae M.fields h=([v],0,0))(hf:v.field=(i:Int)):Doc S d m M.fields f i h [] false [] []:=by
 have hn:=zaZ M.fields;exact Doc.turn hv hf (by rw[hn]) (zcR S d m) (fun k _=>by rw[hn];rfl) (by rw[hn];rfl) (by rw[hn];simp[zah]) (by unfold zcF;rw[hn];rfl) (by unfold zau;rw[hn];rfl)
theorem zim(x:Int)(k:Nat)(L:List ViewD):hasU x (L.map (ViewD.shift k))=hasU x L:=by
 unfold hasU;rw[List.any_map];rfl
theorem zfb(rec:List UInt8->Bool->List UInt8)(x:Int)(one drop put:Bool)(a b:List UInt8):∀L:List ViewD,stepU rec x one drop put (a++b) (L.map (ViewD.shift a.length))=stepU rec x one drop put b L
 |[]=>rfl
 |v::L=>by
  have ih:=zfb rec x one drop put a b L;rw[List.map_cons];unfold stepU;rw[ih,zgV,zeW,zim];have:((ViewD.shift a.length v).r.n:Int)=v.r.n:=rfl;rw[this]
theorem zot(hM:S[m]?=some M){bs:List UInt8}(h:(zai S d m bs).2=0)(hne:bs≠ []):∃(v:ViewD)(a b:List UInt8),bs=a++b/\a≠ []/\zae M.fields a=([v],0,0)/\v.r.f=0/\v.r.t=a.length/\(zai S d m a).2=0/\(zai S d m b).2=0/\
 (zae M.fields bs).1=v::(zae M.fields b).1.map (ViewD.shift a.length):=by
 obtain⟨v,g1,g2,g3,g4,g5,_,g7⟩:=zmS hM h hne;obtain⟨q1,q2,q3,q4,q5,q6⟩:=zfM g1;have htl:(bs.take v.r.t).length=v.r.t:=by rw[List.length_take];omega
 refine⟨v,bs.take v.r.t,bs.drop v.r.t,(List.take_append_drop _ _).symm,fun e=> ?_,?_,q2,htl.symm,g4,g5,by rw[htl];exact g7⟩
 . rw[e]at htl
   simp at htl;omega
 . refine zeD (T:=v.r.n) (V:=v.r.w) (a:=v.r.a) ?_ ?_
   . rw[htl]
     exact zei q1 (Nat.le_refl _)
   . rw[htl,<-q6]
     exact(zbW g1).2
theorem zin(a b:List UInt8):spanB (a++b) 0 a.length=a:=by
 unfold spanB;rw[List.take_left];rfl
end
section
variable {S:List MsgD} {d m:Nat} {M:MsgD} {f:zab} {i:Nat} {x:Int}
theorem zft(hf:M.fields[i]?=some f)(hx:idxB (numP x) M.fields=(i:Nat)){a:List UInt8}{v:ViewD}(hv:zae M.fields a=([v],0,0)):(v.r.n:Int)=x<->v.field=(i:Int):=by
 have h:=zfr (bs:=a) hf hx;rw[hv]at h;simp only at h;rw[zbs]at h;have ho:ofP x v=decide ((v.r.n:Int)=x):=by unfold ofP;simp[Bool.beq_eq_decide_eq]
 constructor
 . intro hn
   by_cases hi:v.field=(i:Int)
   . exact hi
   . rw[if_neg hi,List.filter_cons_of_pos (by rw[ho];simpa using hn)]at h
     cases h
 . intro hi
   by_cases hn:(v.r.n:Int)=x
   . exact hn
   . rw[if_pos hi,List.filter_cons_of_neg (by rw[ho];simpa using hn)]at h
     cases h
theorem zjd(hM:S[m]?=some M)(hf:M.fields[i]?=some f)(hx:idxB (numP x) M.fields=(i:Nat))(rec:List UInt8->Bool->List UInt8)(put:Bool):∀(n:Nat)(bs:List UInt8),bs.length<=n->(zai S d m bs).2=0->
 Doc S d m M.fields f i bs (stepU rec x true true put bs (zae M.fields bs).1) false [] []
 |0,bs,hn,_=>by
  have:bs=[]:=List.eq_nil_of_length_eq_zero (by omega);subst this;rw[zaZ];exact Doc.nil
 |n+1,bs,hn,hv=>by
  by_cases hne:bs=[]
  . subst hne
    rw[zaZ];exact Doc.nil
  . obtain⟨v,a,b,rfl,ha,hva,h0,ht,hv1,hv2,hL⟩:=zot hM hv hne
    have hal:0<a.length:=List.length_pos_iff.2 ha;have ih:=zjd hM hf hx rec put n b (by rw[List.length_append]at hn;omega) hv2;rw[hL];unfold stepU;rw[zfb,h0,ht,zin];by_cases hxn:(v.r.n:Int)=x
    . rw[if_neg (by simp[hxn]),if_pos rfl]
      exact(Doc.drop_ hva ((zft hf hx hva).1 hxn)).append ih
    . rw[if_pos (.inl hxn)]
      exact(Doc.keep hva hv1 (fun h=>hxn ((zft hf hx hva).2 h))).append ih
theorem zne{e:Nat}(hM:S[m]?=some M)(hf:M.fields[i]?=some f)(h17:f.kind=17){a p:List UInt8}{v:ViewD}(hv:zae M.fields a=([v],0,0))(h0:v.r.f=0)(ht:v.r.t=a.length)(hfi:v.field=(i:Int))(hp:(zai S e f.of_.toNat p).2=0)(hl:p.length<18446744073709551616):
 ∃u:ViewD,zae M.fields (zda (tagV a).2.2.1 a p)=([u],0,0)/\u.field=(i:Int)/\u.run=false/\zak (zda (tagV a).2.2.1 a p) u=p/\(zai S (e+1) m (zda (tagV a).2.2.1 a p)).2=0:=by
 have hvm:v∈(zae M.fields a).1:=by rw[hv];exact List.mem_singleton.2 rfl
 obtain⟨h1,h2⟩:=zbI M.fields a v hvm;obtain⟨N,htag,hN⟩:=zmb h1;rw[h0,ht]at htag;have hsa:spanB a 0 a.length=a:=by unfold spanB;simp
 rw[hsa]at htag;have hbd:=zhv a;rw[htag]at hbd;simp only at hbd
 have hw2:v.r.w=2:=by
  rcases zdE M.fields v.r with⟨_,hs⟩|⟨k,g,hg,hk,hpn,hi,hs⟩
  . rw[hs]at h2
    have:=congrArg (fun x:ViewD×Nat=>x.1.field) h2;simp only at this;omega
  . have hnk:zaf f.kind=false:=by rw[h17];rfl
    have hki:k=i:=by
     rw[hs]at h2;split at h2
     . have:=congrArg (fun x:ViewD×Nat=>x.1.field) h2
       simp only at this;omega
     . split at h2
       . have:=congrArg (fun x:ViewD×Nat=>x.1.field) h2
         simp only at this;omega
       . have:=congrArg Prod.snd h2
         simp at this
    subst hki;rw[hf]at hk;cases hk;rw[hs,if_neg (by rw[hnk];simp)]at h2;by_cases hd:kindB f.kind=true/\wireI f.kind=(v.r.w:Int)
    . have:=hd.2
      rw[h17]at this;have h3:wireI 17=2:=rfl;omega
    . rw[if_neg hd]at h2
      have:=congrArg Prod.snd h2;simp at this
 have hseen:∀r:Rec,r.n=v.r.n->r.w=v.r.w->seenV M.fields r=(⟨r,(i:Int),false⟩,0):=by
  intro r hrn hrw;have hnk:zaf f.kind=false:=by rw[h17];rfl
  rcases zdE M.fields v.r with⟨_,hs⟩|⟨k,g,hg,hk,hpn,hi,hs⟩
  . rw[hs]at h2
    have:=congrArg (fun x:ViewD×Nat=>x.1.field) h2;simp only at this;omega
  . have hki:k=i:=by
     rw[hs]at h2;split at h2
     . have:=congrArg (fun x:ViewD×Nat=>x.1.field) h2
       simp only at this;omega
     . split at h2
       . have:=congrArg (fun x:ViewD×Nat=>x.1.field) h2
         simp only at this;omega
       . have:=congrArg Prod.snd h2
         simp at this
    subst hki;rcases zdE M.fields r with⟨hno,hs2⟩|⟨k2,g2,hg2,hk2,hpn2,hi2,hs2⟩
    . rw[hrn,hg]at hno
      cases hno
    . rw[hrn,hi]at hi2
      have hkk:k2=k:=by omega
      subst hkk;rw[hf]at hk2;cases hk2;rw[hs2,if_neg (by rw[hnk];simp),if_pos ⟨by rw[h17];rfl,by rw[h17,hrw,hw2];rfl⟩]
 rw[htag];simp only;unfold zda
 have hpre:tagV (a.take N)=(v.r.n,v.r.w,N,0):=by
  obtain⟨W,w1,w2,w3,w4⟩:=zjh htag;have:=zji (zdq w1 (m:=N) (Nat.le_refl _)) (by rw[w2,w3];exact w4)
  rwa[w2,w3]at this
 have htn:(a.take N).length=N:=by rw[List.length_take];omega
 have hru:=zch p.length p hl
 have hhead:headV (a.take N++(Lib.uvarint p.length++p))=(v.r.n,v.r.w,N+(Lib.uvarint p.length).length,N+(Lib.uvarint p.length).length+p.length,0):=by
  refine zcz (zhx hpre _) ?_ (by rw[List.length_append,List.length_append,htn];omega)
  have hdl:(a.take N++(Lib.uvarint p.length++p)).drop N=Lib.uvarint p.length++p:=by
   have h9:(a.take N++(Lib.uvarint p.length++p)).drop (a.take N).length=Lib.uvarint p.length++p:=List.drop_left;rw[htn]at h9;exact h9
  rw[hdl,hw2];unfold sizeV;simp[hru]
 have htot:(a.take N++(Lib.uvarint p.length++p)).length=N+(Lib.uvarint p.length).length+p.length:=by rw[List.length_append,List.length_append,htn];omega
 rw[<-htot]at hhead;have hone:=zeD hhead (hseen ⟨v.r.n,v.r.w,0,N+(Lib.uvarint p.length).length,(a.take N++(Lib.uvarint p.length++p)).length⟩ rfl rfl)
 have hval:zak (a.take N++(Lib.uvarint p.length++p)) ⟨⟨v.r.n,v.r.w,0,N+(Lib.uvarint p.length).length,(a.take N++(Lib.uvarint p.length++p)).length⟩,(i:Int),false⟩=p:=by
  unfold zak spanB;simp only;rw[List.take_length,<-List.append_assoc];have:N+(Lib.uvarint p.length).length=(a.take N++Lib.uvarint p.length).length:=by rw[List.length_append,htn]
  rw[this];exact List.drop_left
 refine⟨_,hone,rfl,rfl,hval,?_⟩;rw[zaQ,zaA hM,hone];refine⟨rfl,fun w hw=> ?_⟩;rw[List.mem_singleton]at hw;subst hw;have h3:=(zbq (S:=S) (d:=e+1) (bs:=a.take N++(Lib.uvarint p.length++p)) (v:=⟨⟨v.r.n,v.r.w,0,N+(Lib.uvarint p.length).length,(a.take N++(Lib.uvarint p.length++p)).length⟩,(i:Int),false⟩) rfl hf rfl h17).2 e rfl;rw[h3.1];have h4:spanB (a.take N++(Lib.uvarint p.length++p)) (N+(Lib.uvarint p.length).length) (a.take N++(Lib.uvarint p.length++p)).length=p:=hval;simp only;rw[h4];exact hp
end
end Go.Proofs.YtpicpebolghcfaaGreatDoor
