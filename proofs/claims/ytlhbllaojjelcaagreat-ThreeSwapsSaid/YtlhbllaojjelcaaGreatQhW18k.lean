/- Contracts of layer 18: the form of valid bytes. -/
import Derived.Test.YtlhbllaojjelcaaGreatQhW18f7
import Derived.Test.YtlhbllaojjelcaaGreatQhW18g

set_option linter.unusedVariables false
set_option maxRecDepth 100000
set_option maxHeartbeats 4000000
namespace Go.Proofs.YtlhbllaojjelcaaGreat
open Go.RowKit Go.Shelf Tryz
section
variable {S:List MsgD} {m:Nat} {M:MsgD} {bs:List UInt8} {se:Nat->MsgT->List UInt8} {sub:Nat->List UInt8->MsgT}
theorem zpy(hR:zan S=true)(hM:S[m]?=some M){i:Nat}{f:zaa}(hf:M.fields[i]?=some f):(zac M.fields bs).1.filter (numV f.number)=zaf (zac M.fields bs).1 i:=by
 unfold zaf;refine List.filter_congr fun v hv=> ?_
 have hs:=(zdg M.fields bs v hv).2;by_cases hneg:v.field<0
 . unfold numV
   rw[decide_eq_true hneg];have:(v.field==(i:Int))=false:=by simp;omega
   rw[this];rfl
 . obtain⟨k,hk⟩:=Int.eq_ofNat_of_zero_le (show 0<=v.field by omega)
   obtain⟨g,hg⟩:∃g,M.fields[k]?=some g:=by
    rcases zho hv with q|⟨k',g,e1,e2,_⟩
    . omega
    . obtain rfl:k'=k:=by omega
      exact⟨g,e2⟩
   obtain⟨hn,_⟩:=znG hs hk hg;unfold numV;rw[decide_eq_false hneg,Bool.not_false,Bool.true_and,hk,Bool.eq_iff_iff];simp only[beq_iff_eq];constructor
   . intro e
     have h1:=(zaQ hR hM hg).2;have h2:=(zaQ hR hM hf).2;have:g.number=f.number:=by rw[hn,e]
     rw[this,h2]at h1;omega
   . intro e
     obtain rfl:k=i:=by omega
     rw[hg]at hf;cases hf;exact hn.symm
theorem zoq(hR:zan S=true)(hM:S[m]?=some M)(hb:bs.length<=100000)(hsub:∀(o:Nat)(x:List UInt8),x.length<=100000->(se o (sub o x)).length<=32*x.length)(j:Nat):
 (((sortK (keyF M.fields) M.fields.length).take j).flatMap (zbW se sub M.fields bs (zac M.fields bs).1)).length<=32*bs.length:=by
 have hn:(sortK (keyF M.fields) M.fields.length).Nodup:=(zcf (keyF M.fields) M.fields.length).nodup_iff.2 List.nodup_range;have hn2:((sortK (keyF M.fields) M.fields.length).take j).Nodup:=List.Sublist.nodup (List.take_sublist _ _) hn
 have h1:=ziT (g:=zbW se sub M.fields bs (zac M.fields bs).1) (c:=fun i=>zaG (zaf (zac M.fields bs).1 i)) (l:=(sortK (keyF M.fields) M.fields.length).take j) (fun i hi=>by
  by_cases hne:zaf (zac M.fields bs).1 i=[]
  . rw[zbN hne]
    exact Nat.zero_le _
  . have hil:=zbl.1 (List.mem_of_mem_take hi)
    exact zjA hR hM (List.getElem?_eq_getElem hil) hne hb (fun x hx=>hsub _ x (by omega)))
 have h2:=zel hn2 (zac M.fields bs).1;have h3:=zdZ (fun v=> !decide (v.field<0)) (zac M.fields bs).1;have h4:=zdn M.fields bs;omega
theorem zlo{l:List Nat}{j i:Nat}{g:Nat->List UInt8}(h:l[j]?=some i):(l.take (j+1)).flatMap g=(l.take j).flatMap g++g i:=by
 rw[List.take_add_one,h,List.flatMap_append];simp
theorem zpz(hR:zan S=true)(hM:S[m]?=some M){i:Nat}{f:zaa}(hf:M.fields[i]?=some f):(zad f.kind=false->∀v∈zaf (zac M.fields bs).1 i,v.run=false)/\(f.rep=false->∀v∈zaf (zac M.fields bs).1 i,v.run=false):=by
 constructor
 . intro hk v hv
   rcases zcV (zaW hv).1 (zaW hv).2.1 hf with⟨_,_,q⟩|⟨q,_⟩
   . rw[hk]at q
     cases q
   . exact q
 . intro hr v hv
   rcases zcV (zaW hv).1 (zaW hv).2.1 hf with⟨_,q,_⟩|⟨q,_⟩
   . rw[hr]at q
     cases q
   . exact q
end
variable{S:List MsgV}
theorem nStep{d:Nat}{se:Nat->MsgT->List UInt8}{sub:Nat->List UInt8->MsgT}(hR:zan (S.map MsgV.d)=true)(hd:d<=100000)(hsm:∀(o:Nat)(x:List UInt8),x.length<=100000->(se o (sub o x)).length<=32*x.length)(ih:NormP S d se sub):
 NormP S (d+1) (fun m x=>(encC se (S.map MsgV.d) m x).flatten) (ofM sub (S.map MsgV.d)):=by
 intro w SA sn sc m A n c bs hS hm hb hn;have hSl:=hS.length;have hbl:=hb.length;obtain⟨b1,off1,M,hSA,hM,hf,hnm,hb1,s0,s1⟩:=hS.msg (k:=m) (by omega);subst hSA;have hMd:(S.map MsgV.d)[m]?=some M.d:=by rw[List.getElem?_map,hM];rfl
 have hMr:=zbk hR hMd;have hfl:M.d.fields.length=M.n:=hf.length;have hMn:M.n<=1000000:=by have:=hMr.2.2.1;omega
 rcases hv:zac M.d.fields bs with⟨L,P,C⟩
 have hL1:(zac M.d.fields bs).1=L:=by rw[hv]
 have hga:=fun W (h1:zax W M.A M.n M.c M.d.fields)(h2:zab W A n c bs)=>zqV (nm:=M.d.name) h1 (by omega) h2 (by omega) hv
 have hso:=fun W (h:Ext w W)=>zlC (s:=M.d.name) (hf.up h) (show M.n<=1000000000000 by omega)
 have hple:=zoq (bs:=bs) hR hMd (by omega) hsm;have hall:=zhT (se:=se) (sub:=sub) (bs:=bs) hR hMd;rw[hL1]at hple hall;rw[ziU]at hall;rw[hfl]at hple hall;have hord:∀i,i∈sortK (keyF M.d.fields) M.n->i<M.n:=fun i hi=>zbl.1 hi
 have hol:(sortK (keyF M.d.fields) M.n).length=M.n:=zcL _ _;show Calls _ _ _ w (fun e w'=>∃A' c',e=.returned (.slice A' (encC se (S.map MsgV.d) m (ofM sub (S.map MsgV.d) m bs)).flatten.length c')/\Own w w' 5 1 A' (encC se (S.map MsgV.d) m (ofM sub (S.map MsgV.d) m bs)).flatten.length c' ((encC se (S.map MsgV.d) m (ofM sub (S.map MsgV.d) m bs)).flatten.map bv));rw[hall]
 have hpre:∀(i:Nat)(f:zaa)(wq:World)(xs:List UInt8)(V:Option Addr)(vn vc:Nat)(R:RowG),M.d.fields[i]?=some f->Own w wq 5 1 V vn vc (xs.map bv)->vn=xs.length->vn<=100000000->Ext w wq->zaf L i≠ []->R.vs=zaf L i->Reads wq R.A R.vs.length R.c 7 (R.vs.flatMap viewC)->
  Calls prog 80 #[.slice V vn vc,.slice (some ⟨b1,off1,none⟩) sn sc,zau f,.slice A n c,.slice R.A R.vs.length R.c] wq (zbY w wq (xs++zbW se sub M.d.fields bs L i)):=by
  intro i f wq xs V vn vc R hfi own hvn hv8 hX hne hRv hrd;obtain⟨⟨T,hT⟩,n1,n2,hkb⟩:=zbC hR hMd hfi;have hruns:=zpz (bs:=bs) hR hMd hfi;rw[hL1]at hruns;have hown:zaG (zaf L i)<=bs.length:=by have:=zfA (fs:=M.d.fields) (bs:=bs) (i:=i);rwa[hL1]at this
  have hbdv:∀v∈zaf L i,v.r.a<=v.r.t/\v.r.t<=bs.length:=fun v hv=>by rw[<-hL1]at hv;exact(zaW hv).2.2
  have hr2:zao f.number 2=true:=by rw[hT];exact zbL (by omega) (by omega) (by decide)
  have hrw:zao f.number (wireI f.kind)=true:=by
   rcases zeM hkb with⟨_,q⟩|⟨_,_,q⟩|⟨_,_,q⟩|⟨_,q⟩
   . rw[hT,q];exact zbL (by omega) (by omega) (by decide)
   . rw[hT,q];exact zbL (by omega) (by omega) (by decide)
   . rw[hT,q];exact zbL (by omega) (by omega) (by decide)
   . rw[hT,q];exact zbL (by omega) (by omega) (by decide)
  have hp:zbW se sub M.d.fields bs L i=zbv se sub f ((zaf L i).flatMap (zaw f bs)) ((zaf L i).flatMap (zam f bs)):=zbM hfi hne;rw[hp,<-hRv];refine zrQ (d:=d) ih hsm ⟨own,hvn,hv8,hS.up hX,hb.up hX,by omega,hrd,by rw[hRv];exact hne,by rw[hRv];exact hbdv,by rw[hRv];exact hown,hkb,hr2,hrw,by rw[hRv];exact hruns.1,by rw[hRv];exact hruns.2⟩ (by omega) (fun hk=> ?_);obtain⟨o,h1,h2⟩:=zcj hR hMd hfi hk;exact⟨o,h1,by simpa using h2⟩
 have hnv:∀(i:Nat)(f:zaa),M.d.fields[i]?=some f->L.filter (numV f.number)=zaf L i:=fun i f hfi=>by have:=zpy (bs:=bs) hR hMd hfi;rwa[hL1]at this
 have hnum:∀(i:Nat)(f:zaa),M.d.fields[i]?=some f->0<=f.number/\f.number<=536870911:=fun i f hfi=>by
  obtain⟨⟨T,hT⟩,n1,n2,hkb⟩:=zbC hR hMd hfi;omega
 obtain⟨g,hg⟩:∃g,g=zbW se sub M.d.fields bs L:=⟨_,rfl⟩
 have hg0:∀i,zaf L i=[]->g i=[]:=fun i h=>by rw[hg];exact zbN h
 obtain⟨uk,huk⟩:∃uk,uk=unkL bs L:=⟨_,rfl⟩
 have hukl:uk.length<=bs.length:=by
  have h1:=zkO M.d.fields bs;have h2:=zop bs (L:=L) (fun v h=>(by rw[<-hL1]at h;have:=zcv h;omega)) L.length;rw[List.take_length]at h2;rw[hL1]at h1;rw[huk];omega
 have huk':((L.filter fun v=>decide (v.field<0)).flatMap fun v=>spanB bs v.r.f v.r.t)=uk:=by rw[huk];rfl
 rw[huk',<-hg];rw[<-hg]at hpre hple;rw[<-huk]at hga;obtain⟨F,hF⟩:∃F,F=(sortK (keyF M.d.fields) M.n).flatMap g++uk:=⟨_,rfl⟩
 rw[<-hF];have HF:=zsp hF;clear hF;have Hga:=zsp hga;have Hso:=zsp hso;have Hple:=zsp hple;have Hord:=zsp hord;have Hpre:=zsp hpre;have Hnv:=zsp hnv;have Hnum:=zsp hnum;have Hg0:=zsp hg0;have Hf:=zsp hf;have Hb:=zsp hb;have HS:=zsp hS;clear hga hso hple hord hpre hnv hnum hg0 hv hL1 hall hMr hMd hM hR ih hsm hg huk huk' hf hb hS;generalize sortK (keyF M.d.fields) M.n=order at*;have hsn:m<sn:=by omega
 go_enter func50,ntmps50
 go_wp2_with (first
  |(go_at_call 79;refine(Hga.out _ (Hf.out.up xx) (Hb.out.up xx)).mono ?_;rintro e w1 ⟨bm,E,U,uc,rfl,hG,hU,hRd,hEv,E1'⟩;have E1:Ext w w1:=Ext.trans xx E1';have s2:=E1.of_cell s0;have s3:=E1.of_cell s1;have hb2:=Nat.lt_of_lt_of_le hb1 E1.size;clear s0 s1)
  |(go_at_call 53;refine(Hso.out _ (E1.trans xx)).mono ?_;rintro e w2 ⟨A6,c6,rfl,own6⟩))
 have B1:=(BlkT.new w1 148 #[.map (some bm),.slice U uk.length uc] rfl).up own6.ext;have E2:Ext w1 w2:=((Ext.refl w1).alloc _).trans own6.ext;have p0:w2.cell? ⟨w1.heap.size,0,none⟩=some (.map (some bm)):=B1.cell 0;have p1:w2.cell? ⟨w1.heap.size,1,none⟩=some (.slice U uk.length uc):=B1.cell 1;have pl:=B1.lt;have s4:=E2.of_cell s2;have s5:=E2.of_cell s3;have hb4:=Nat.lt_of_lt_of_le hb2 E2.size;have hO:=own6.reads;have hG2:=hG.up E2;have hRd2:=fun i=>(hRd i).ext E2
 have hU2:=hU.up E2;have X2:=E1.trans E2;generalize w1.heap.size=bp at*;have HG:=zsp hG2;have HRd:=zsp hRd2;have HEv:=zsp hEv;have HU:=zsp hU2;have HO:=zsp hO;clear hG hRd hEv hU hG2 hRd2 hU2 hO B1 own6 s2 s3 hb2 E2 E1 E1'
 go_loopw [8,25] (fun u i wq=>∃(j:Nat)(V:Option Addr)(vn vc:Nat),j<=M.n/\i=.int .i64 (j:Int)/\u=.slice V vn vc/\vn=((order.take j).flatMap g).length/\Own w wq 5 1 V vn vc (((order.take j).flatMap g).map bv)/\Ext w2 wq) (fun _ i _=>M.n - (intOf i).toNat)
 case atStart=>exact⟨0,none,0,0,Nat.zero_le _,rfl,rfl,rfl,Own.nil X2 _ _,Ext.refl _⟩
 case round=>
  rename World=>wq
  obtain⟨j,V,vn,vc,hj,rfl,rfl,hvn,own,Xq⟩:=hrel;have q0:=Xq.of_cell p0;have q1:=Xq.of_cell p1;have ql:=Nat.lt_of_lt_of_le pl Xq.size;have t0:=Xq.of_cell s4;have t1:=Xq.of_cell s5;have tl:=Nat.lt_of_lt_of_le hb4 Xq.size;have hvl:=Hple.out j;rw[<-hvn]at hvl;clear p0 p1 s4 s5;by_cases hlt:j<M.n
  . have hltI:(j:Int)<M.n:=by omega
    obtain⟨i,hij⟩:∃i,order[j]?=some i:=⟨_,List.getElem?_eq_getElem (by rw[hol];omega)⟩
    have him:=Hord.out i (List.mem_of_getElem? hij);obtain⟨b9,off9,hA6,hb9,hc9⟩:=(HO.out.ext Xq).at_ (by omega);have e9:wq.cell? ⟨b9,off9+j,none⟩=some (.int .i64 (i:Int)):=hc9 j _ (by rw[List.getElem?_map,hij];rfl);subst hA6;obtain⟨b8,off8,f,hA8,hfi,hok,hb8,g0,g1,g2,g3,g4,g5⟩:=(Hf.out.up (X2.trans Xq)).field him;rw[hA8]at t1;have hnumf:=Hnum.out i f hfi;have r1:=((HG.out.up Xq).up ((Ext.refl wq).alloc (.cells #[.string f.name,.int .i64 f.number,.int .i64 f.kind,.bool f.rep,.bool f.packed,.int .i64 f.of_] 61))).look (n:=f.number) ⟨by omega,by omega⟩;have hEf:=HEv.out f.number;rw[Hnv.out i f hfi]at hEf;have hrdf:=HRd.out f.number;have hstep:=zlo (g:=g) hij;have Hstep:=zsp hstep;have Hvn:=zsp hvn;have Hown:=zsp own;rcases hRE:E f.number with⟨AE,cE,vsE⟩
    rw[hRE]at r1 hEf hrdf;simp only at r1 hEf hrdf;by_cases hne:zaf L i=[]
    . rw[hne]at hEf
      subst hEf;rw[List.length_nil]at r1;clear hA8 hRE hrdf hstep hvn own hij hfi hc9
      go_wp2
      go_roundw
      case rel=>exact⟨j+1,V,vn,vc,by omega,by go_num,rfl,by rw[Hstep.out,Hg0.out i hne,List.append_nil];exact Hvn.out,by rw[Hstep.out,Hg0.out i hne,List.append_nil];exact Hown.out.alloc _,Xq.alloc _⟩
      case measure=>simp[intOf];omega
    . have hcall:=fun(W:World)(X:Ext wq W)=>Hpre.out i f W ((order.take j).flatMap g) V vn vc ⟨AE,cE,vsE⟩ hfi (own.up X) hvn (by omega) ((X2.trans Xq).trans X) hne hEf (hrdf.ext (Xq.trans X))
      have hpos:1<=vsE.length:=by
       rcases vsE with _|⟨v,l⟩
       . exact absurd hEf.symm hne
       . simp
      have hposI:(0:Int)<(vsE.length:Int):=by omega
      have hcall2:∀W,Ext wq W->Calls prog 80 #[.slice V vn vc,.slice (some ⟨b1,off1,none⟩) sn sc,zau f,.slice A n c,.slice AE vsE.length cE] W fun e w'=>∃A' n' c',e=.returned (.slice A' n' c')/\Hid (n'=((order.take (j+1)).flatMap g).length)/\Own w w' 5 1 A' n' c' (((order.take (j+1)).flatMap g).map bv)/\Ext W w':=fun W X=>by
       refine(hcall W X).mono ?_;rintro e w' ⟨A',c',h1,h2,h3⟩;rw[<-hstep]at h1 h2;exact⟨A',_,c',h1,zsp rfl,h2,h3⟩
      unfold zau at hcall2;have Hcall:=zsp hcall2;clear hA8 hRE hrdf hstep hvn own hij hfi hc9 hcall hcall2 hEf
      go_wp2_with (go_at_call 80;refine(Hcall.out _ xx).mono ?_;rintro e w7 ⟨A5,n5,c5,rfl,hn5,own5,X5⟩;have X7:Ext w2 w7:=Xq.trans (Ext.trans xx X5))
      go_roundw
      case rel=>exact⟨j+1,A5,n5,c5,by omega,by go_num,rfl,hn5.out,own5,X7⟩
      case measure=>simp[intOf];omega
  . obtain rfl:j=M.n:=by omega
    have hltI:¬(M.n:Int)<M.n:=by omega
    rw[List.take_of_length_le (by omega)]at hvn own;have hU3:=HU.out.up Xq;have Hown:=zsp own;have Hvn:=zsp hvn;have HU3:=zsp hU3;clear own hU3 hvn
    go_wp2_with (at_builtin;refine zaT elemB rfl (.tmp 52) (.tmp 54) rfl rfl (Hown.out.up xx) rfl (HU3.out.up xx) (zgh _) (by omega) (by unfold maxLen;omega) ?_;intro A8 c8 w8 own8 g8)
    go_ret
    have hlen:F.length=vn+uk.length:=by rw[HF.out,List.length_append,Hvn.out]
    refine⟨A8,c8,by rw[hlen];rfl,?_⟩;rw[hlen,HF.out,List.map_append];exact own8
theorem nForm{S:List MsgV}(hR:zan (S.map MsgV.d)=true):∀d,d<=100000->NormP S (d+1) (encV (S.map MsgV.d) d) (ofV (S.map MsgV.d) d)
 |0,_=>nStep (d:=0) (se:=fun _ _=>[]) (sub:=fun _ _=>.mk () () [] []) hR (Nat.zero_le _) (fun _ _ _=>Nat.zero_le _) (fun w SA sn sc m A n c bs _ _ _ h=>absurd h (Nat.not_lt_zero n))
 |d+1,h=>nStep hR (by omega) (fun o x hx=>zfm hR d o x hx) (nForm hR d (by omega))
def formB(S:List MsgD)(root:Int)(bs:List UInt8)(d:Int):List UInt8:=if(zar S root bs d).2=0 then normB S root.toNat bs else[]
variable{bs:List UInt8}{root d:Int}
theorem zcn{S:List MsgD}(h:(zar S root bs d).2=0):zan S=true/\0<=root/\root<S.length/\0<=d/\d<=64/\(zaq S d.toNat root.toNat bs).2=0:=by
 unfold zar at h;by_cases h0:argsV S root d=0
 . rw[if_pos h0]at h
   unfold argsV at h0;split at h0
   . cases h0
   . rename_i hr
     split at h0
     . cases h0
     . exact⟨by simpa using hr,by omega,by omega,by omega,by omega,h⟩
 . rw[if_neg h0]at h
   exact absurd h h0
variable{w:World}{n c:Nat}{A:Option Addr}
theorem zqc{B:Option Addr}{n' c':Nat}(hs:zaj w A n c S)(hb:zab w B n' c' bs)(hn:n'<=100000):
 Calls prog 23 #[.slice A n c,.int .i64 root,.slice B n' c',.int .i64 d] w fun e w'=>∃A' c2,e=.returned (.tuple #[.slice A' (formB (S.map MsgV.d) root bs d).length c2,.int .u8 ((zar (S.map MsgV.d) root bs d).2:Nat)])/\
  Own w w' 5 1 A' (formB (S.map MsgV.d) root bs d).length c2 ((formB (S.map MsgV.d) root bs d).map bv):=by
 have hc:=fun W (h:zaj W A n c S)(h2:zab W B n' c' bs)=>zpY (root:=root) (d:=d) h h2 (by omega)
 have Hc:=zsp hc;clear hc;by_cases h0:(zar (S.map MsgV.d) root bs d).2=0
 . obtain⟨hR,r1,r2,_⟩:=zcn h0
   obtain⟨m,rfl⟩:=Int.eq_ofNat_of_zero_le r1;have hm:m<S.length:=by simpa using r2
   have ho:=fun W (h:zaj W A n c S)(h2:zab W B n' c' bs)=>nForm hR 100000 (Nat.le_refl _) W A n c m B n' c' bs h hm h2 (by omega)
   have hO:formB (S.map MsgV.d) (m:Int) bs d=encV (S.map MsgV.d) 100000 m (ofV (S.map MsgV.d) 100000 m bs):=by unfold formB;rw[if_pos h0];rfl
   rw[hO];generalize encV (S.map MsgV.d) 100000 m (ofV (S.map MsgV.d) 100000 m bs)=F at*;have Ho:=zsp ho;clear ho hO;generalize zar (S.map MsgV.d) (m:Int) bs d=V at*;obtain⟨p,C⟩:=V;simp only at h0 Hc⊢;subst h0
   go_enter func23,ntmps23
   go_wp2_with (first
    |(go_at_call 49;refine(Hc.out _ (hs.up xx) (hb.up xx)).mono ?_;rintro e w1 ⟨rfl,E1'⟩;have E1:Ext w w1:=Ext.trans xx E1')
    |(go_at_call 50;refine(Ho.out _ (hs.up xy) (hb.up xy)).mono ?_;rintro e w2 ⟨A2,c2,rfl,own2⟩;have own3:=own2.since xy))
   go_ret2
   exact⟨A2,c2,rfl,own3⟩
 . have hO:formB (S.map MsgV.d) root bs d=[]:=if_neg h0
   rw[hO];generalize zar (S.map MsgV.d) root bs d=V at*;obtain⟨p,C⟩:=V;simp only at h0 Hc⊢;have h0':¬((C:Int)=0):=by omega
   go_enter func23,ntmps23
   go_wp2_with (go_at_call 49;refine(Hc.out _ (hs.up xx) (hb.up xx)).mono ?_;rintro e w1 ⟨rfl,E1'⟩;have E1:Ext w w1:=Ext.trans xx E1')
   go_ret2
   exact⟨none,0,rfl,Own.nil E1 _ _⟩
theorem Reads.rec'{l:List Rec}(h:Reads w A n c 5 (l.flatMap recC)){k:Nat}(hk:k<n):
 ∃b off v,A=some ⟨b,off,none⟩/\l[k]?=some v/\b<w.heap.size/\w.cell? ⟨b,off+k*5,none⟩=some (.int .i64 (v.n:Int))/\w.cell? ⟨b,off+k*5+1,none⟩=some (.int .i64 (v.w:Int))/\
  w.cell? ⟨b,off+k*5+2,none⟩=some (.int .i64 (v.f:Int))/\w.cell? ⟨b,off+k*5+3,none⟩=some (.int .i64 (v.a:Int))/\w.cell? ⟨b,off+k*5+4,none⟩=some (.int .i64 (v.t:Int)):=by
 obtain⟨b,off,r,e,hx,hb,hj⟩:=h.elem (size:=5) (fun _=>rfl) (by omega) hk;exact⟨b,off,r,e,hx,hb,hj 0 _ rfl,hj 1 _ rfl,hj 2 _ rfl,hj 3 _ rfl,hj 4 _ rfl⟩
end Go.Proofs.YtlhbllaojjelcaaGreat
