/- Contracts of layer 21 (update): one step of (*change).at. -/
import Derived.Test.YtpicpebolghcfaaGreatDoorQlW100
import Derived.Test.YtpicpebolghcfaaGreatDoorQlW99
import Derived.Test.YtpicpebolghcfaaGreatDoorQlS55

set_option linter.unusedVariables false
set_option linter.unusedSimpArgs false
set_option maxRecDepth 100000
set_option maxHeartbeats 8000000
namespace Go.Proofs.YtpicpebolghcfaaGreatDoor
open Go.RowKit Go.Shelf Tryz
def zgb(bs:List UInt8)(w:World)(e:Ending)(w':World):Prop:=∃A' n' c',e=.returned (.slice A' n' c')/\Hid (n'=bs.length)/\Own w w' 5 1 A' n' c' (bs.map bv)
theorem uAtS{S:List MsgV}{A EA B C:Option Addr}{n c en ec nb cb k kcc m kc:Nat}{x:Int}{l:List Int}{f:zab}{bs extra:List UInt8}{drop pp put:Bool}{w:World}(hR:zan (S.map MsgV.d)=true)(hs:zag w A n c S)(hm:m<n)(hf:zbj (S.map MsgV.d) m x=some f)(hch:BlkT w kc 155 #[.slice A n c,.bool drop,.slice EA en ec,.bool pp])(hex:zac w EA en ec extra)(hen:en<=1000000)(hb:zac w B nb cb bs)(hnb:nb<=1000000)(hk:k=l.length+1)(hk2:k<=65)(hw:Reads w C k kcc 1 ((x::l).map wyV))(h2:l≠ []->∀(W:World)(B2 C2:Option Addr)(n2 c2 k2:Nat)(b2:List UInt8)(p2:Bool),Ext w W->zac W B2 n2 c2 b2->n2<=1000000->Reads W C2 (k - 1) k2 1 (l.map wyV)->Calls prog 91 #[.pointer (some ⟨kc,0,none⟩),.int .i64 f.of_,.slice B2 n2 c2,.slice C2 (k - 1) k2,.bool p2] W (zgb (setB (S.map MsgV.d) drop extra l f.of_.toNat b2 p2) W)):
 Calls prog 91 #[.pointer (some ⟨kc,0,none⟩),.int .i64 (m:Int),.slice B nb cb,.slice C k kcc,.bool put] w (zgb (setB (S.map MsgV.d) drop extra (x::l) m bs put) w):=by
 obtain⟨cutA,hcut,hrest⟩:=zbx zgB hw .i64 (l:=1) (by omega);have hcut1:∀W:World,(Instr.slice 34 (.slice C k kcc) (some (.int .i64 1)) none none).run prog W=.ok (.slice cutA (k - 1) (kcc - 1)) W:=hcut;have hrest1:Reads w cutA (k - 1) (kcc - 1) 1 (l.map wyV):=by simpa using hrest
 obtain⟨wb,wo,rfl,hwb,hwc⟩:=hw.at_ (by omega);have w0:w.cell? ⟨wb,wo,none⟩=some (.int .i64 x):=hwc 0 _ rfl;obtain⟨sb,so,⟨⟨Mn,Mf⟩,MA,Mk,Mc⟩,rfl,hM,hF,hMn,hsb,s0,s1⟩:=hs.msg hm;simp only at hF hMn s0 s1;have hM':(S.map MsgV.d)[m]?=some ⟨Mn,Mf⟩:=by rw[List.getElem?_map,hM];rfl
 have hFl:=hF.length;have hF2:=(zbd hR hM').2.2.1;simp only at hF2;have hMk:Mk<=1000000000000:=by omega
 obtain⟨j,hj,hI⟩:=zbY hM' hf;simp only at hj hI;have hjl:j<Mk:=by have:=(List.getElem?_eq_some_iff.1 hj).1;omega
 have hji:(j:Int)<Mk:=by omega
 have hmi:(m:Int)<n:=by omega
 have hki:(0:Int)<k:=by omega
 have hk0:0<k:=by omega
 obtain⟨fb,fo,f',rfl,hf',hok,hfb,c0,c1,c2',c3,c4,c5⟩:=hF.field hjl;obtain rfl:f'=f:=Option.some.inj (hf'.symm.trans hj);have hfo:zar (S.map MsgV.d) m=Mf:=by unfold zar;rw[hM']
 have hou:ofU (S.map MsgV.d) m x=f'.of_.toNat:=by unfold ofU;rw[hf]
 rcases hv:zae Mf bs with⟨L,P,K⟩
 have hbd:∀v∈L,v.r.f<v.r.a/\v.r.a<=v.r.t/\v.r.t<=nb:=fun v hvm=>by
  have h:=zbO (fs:=Mf) (bs:=bs) (v:=v) (by rw[hv];exact hvm);have:=hb.length;omega
 have hea:∀v∈L,∃N,tagV (spanB bs v.r.f v.r.t)=(v.r.n,v.r.w,N,0)/\N<=v.r.a - v.r.f:=fun v hvm=>zmb (zbI Mf bs v (by rw[hv];exact hvm)).1
 have hVl:L.length<=nb:=by
  have h:=(zdd Mf bs).2.1;rw[hv]at h;have:=hb.length;simp only at h;omega
 have hnum:∀v∈L,(v.r.n:Int)=x->v.field=(j:Nat):=by
  intro v hvm hx;have h:(zae Mf bs).1.filter (ofP x)=zah (zae Mf bs).1 j:=zfr (M:=⟨Mn,Mf⟩) hj hI;rw[hv]at h;have h3:v∈L.filter (ofP x):=List.mem_filter.2 ⟨hvm,by unfold ofP;simp[hx]⟩;simp only at h;rw[h]at h3;unfold zah at h3;have:=(List.mem_filter.1 h3).2;simpa using this
 have hall:=fun W (h:Ext w W)=>vAllV (s:=Mn) (hF.up h) hMk (hb.up h) (by omega) hv
 have hset:setB (S.map MsgV.d) drop extra (x::l) m bs put=zbg (zdb (fun b p=>setB (S.map MsgV.d) drop extra l f'.of_.toNat b p) x (decide (l=[])) drop put bs (lastU L x L.length)) L L.length++
  (if put=false then[]else if l=[]then extra else if lastU L x L.length<0 then lenB x (setB (S.map MsgV.d) drop extra l f'.of_.toNat [] true)else[]):=by
  conv=>lhs;unfold setB
  rw[hfo,hou,hv]
 have hSb:=zhk (S.map MsgV.d) drop extra (by rw[hex.length];exact hen) (x::l) m bs put (by rw[List.length_cons];omega) (by rw[hb.length];exact hnb)
 have hlen:(setB (S.map MsgV.d) drop extra (x::l) m bs put).length<=700000000:=by
  rw[hb.length,hex.length]at hSb;have h1:(1+10*(x::l).length)*nb<=651*1000000:=Nat.mul_le_mul (by rw[List.length_cons];omega) hnb;have h3:(x::l).length<=65:=by rw[List.length_cons];omega
  split at hSb<;>omega
 rw[hset]at hlen⊢;clear hset hSb;generalize hg:zdb (fun b p=>setB (S.map MsgV.d) drop extra l f'.of_.toNat b p) x (decide (l=[])) drop put bs (lastU L x L.length)=g at*;generalize hz:lastU L x L.length=z at*;generalize hT:(if put=false then[]else if l=[]then extra else if z<0 then lenB x (setB (S.map MsgV.d) drop extra l f'.of_.toNat [] true)else[])=T at*;have HT:=zsz hT;have Hall:=zsz hall;have Hg:=zsz hg;have Hz:=zsz hz;have Hbd:=zsz hbd;have Hea:=zsz hea;have Hnum:=zsz hnum;have HB:=zsz hb;have HX:=zsz hex;have HF:=zsz hF;have Hcut:=zsz hcut1;have Hrest:=zsz hrest1;have Hrec:=zsz h2;have HL:=zsz hlen;have HI:=zsz hI;have Hk:=zsz hk;have h0:w.cell? ⟨kc,0,none⟩=some (.slice (some ⟨sb,so,none⟩) n c):=hch.cell 0;have h1:w.cell? ⟨kc,1,none⟩=some (.bool drop):=hch.cell 1;have h2':w.cell? ⟨kc,2,none⟩=some (.slice EA en ec):=hch.cell 2;have hcl:=hch.lt;clear hT hall hg hz hbd hea hnum hb hex hF hcut hcut1 hrest hrest1 h2 hlen hI hk hch hfo hou hv hok hf' hM hM' hFl hF2 hwc hw hs hj hf hMn hR;obtain⟨fname,fnum,fkind,frep,fpk,fof⟩:=f';simp only at c5;clear c0 c1 c2' c3 c4
 go_enter func91,ntmps91
 go_upto_region 2 with(go_at_call 118;refine(Hall.out _ xx).mono ?_;rintro e w3 ⟨A3,c3',rfl,own3⟩)
 have X3:=own3.ext
 have hla:∀W,Ext w3 W->Calls prog 119 #[.slice A3 L.length c3',.int .i64 x] W fun e w'=>e=.returned (.int .i64 z)/\Ext W w':=fun W h=>by
  have:=uLast (x:=x) (own3.reads.ext h) (by omega);rw[Hz.out]at this;exact this
 have Hla:=zsz hla;replace w0:=X3.of_cell w0;replace hwb:=Nat.lt_of_lt_of_le hwb X3.size;clear hla
 go_cut [14,15] (fun t14 t15 wz=>t14=.int .i64 x/\t15=.int .i64 z/\Ext w3 wz)
 case first=>
  go_region_law (go_simp;go_at_call 119;refine(Hla.out _ xx).mono ?_;rintro e w4 ⟨rfl,E4⟩;have X4:Ext w3 w4:=Ext.trans xx E4;have w0b:=X4.of_cell w0;have hwb2:=Nat.lt_of_lt_of_le hwb X4.size)
  all_goals
   go_wp2
   go_meet
   exact⟨rfl,rfl,X4⟩
 case rest=>
  obtain⟨rfl,rfl,X4⟩:=hcut;clear Hla w0 hwb
  go_wp2_with fail
  go_loopw [16,46] (fun t16 t46 wr=>∃(q:Nat)(A16:Option Addr)(n16 k16:Nat),q<=L.length/\t46=.int .i64 q/\t16=.slice A16 n16 k16/\Own w3 wr 5 1 A16 n16 k16 ((zbg g L q).map bv)/\Hid (n16=(zbg g L q).length)) (fun _ i _=>L.length - (intOf i).toNat)
  case atStart=>exact⟨0,none,0,0,Nat.zero_le _,rfl,rfl,Own.nil X4 5 1,zsz rfl⟩
  case round=>
   obtain⟨q,A16,n16,k16,hq,rfl,rfl,own,hn16⟩:=hrel;by_cases hlt:q<L.length
   . have hlt2:(q:Int)<L.length:=by omega
     obtain⟨b,off,v,rfl,hv,hb1,d0,d1,d2,d3,d4,d5,d6⟩:=own3.reads.view' hlt;have hvm:=List.mem_of_getElem? hv;have hvb:=Hbd.out v hvm;have hve:=Hea.out v hvm;have hvn:=Hnum.out v hvm;obtain⟨A9,hcut9,hb9⟩:=zcc HB.out (l:=v.r.f) (m:=v.r.t) (by omega) hvb.2.2;obtain⟨A10,hcut10,hb10⟩:=zcc HB.out (l:=v.r.a) (m:=v.r.t) hvb.2.1 hvb.2.2;have hsn:=zeZ (g:=g) hv;have X:=own.ext;have X5:=X3.trans X;obtain⟨⟨vn,vw,vf,va,vt⟩,vfi,vr⟩:=v;simp only at d0 d1 d2 d3 d4 d5 d6 hvb hcut9 hb9 hcut10 hb10 hve hvn;replace d0:=X.of_cell d0;replace d1:=X.of_cell d1;replace d2:=X.of_cell d2;replace d3:=X.of_cell d3;replace d4:=X.of_cell d4;replace d5:=X.of_cell d5;replace d6:=X.of_cell d6;replace hb1:=Nat.lt_of_lt_of_le hb1 X.size;have Hb9:=zsz hb9;have Hb10:=zsz hb10;have Hve:=zsz hve;have Hvn:=zsz hvn;have Hsn:=zsz hsn;have BV:=BlkT.new wr 183 #[.int .i64 (vn:Int),.int .i64 (vw:Int),.int .i64 (vf:Int),.int .i64 (va:Int),.int .i64 (vt:Int),.int .i64 vfi,.bool vr] rfl;have X6:Ext wr (wr.alloc (.cells #[.int .i64 (vn:Int),.int .i64 (vw:Int),.int .i64 (vf:Int),.int .i64 (va:Int),.int .i64 (vt:Int),.int .i64 vfi,.bool vr] 183)):=(Ext.refl wr).alloc _;have own6:=own.alloc (.cells #[.int .i64 (vn:Int),.int .i64 (vw:Int),.int .i64 (vf:Int),.int .i64 (va:Int),.int .i64 (vt:Int),.int .i64 vfi,.bool vr] 183);clear hb9 hb10 hve hvn hsn hv hvm
     go_upto_region 7 with fail
     generalize wr.alloc (.cells #[.int .i64 (vn:Int),.int .i64 (vw:Int),.int .i64 (vf:Int),.int .i64 (va:Int),.int .i64 (vt:Int),.int .i64 vfi,.bool vr] 183)=w6 at*;clear d0 d1 d2 d3 d4 d5 d6 hb1;have e0:w6.cell? ⟨wr.heap.size,0,none⟩=some (.int .i64 (vn:Int)):=BV.cell 0;have e2:w6.cell? ⟨wr.heap.size,2,none⟩=some (.int .i64 (vf:Int)):=BV.cell 2;have e3:w6.cell? ⟨wr.heap.size,3,none⟩=some (.int .i64 (va:Int)):=BV.cell 3;have e4:w6.cell? ⟨wr.heap.size,4,none⟩=some (.int .i64 (vt:Int)):=BV.cell 4;have e5:w6.cell? ⟨wr.heap.size,5,none⟩=some (.int .i64 vfi):=BV.cell 5;have el:=BV.lt;replace X6:=X5.trans X6;have i0:=X6.of_cell h0;have i1:=X6.of_cell h1;have il:=Nat.lt_of_lt_of_le hcl X6.size;clear BV X5;by_cases hvx:(vn:Int)=x
     . have hvx2:((vn:Int) !=x)=false:=by simp[hvx]
       by_cases hl:l=[]
       . have hk1:((k:Int)==1)=true:=by rw[beq_iff_eq];have:=Hk.out;rw[hl]at this;simp at this;omega
         have hk2':¬(1:Int)<(k:Int):=by have:=Hk.out;rw[hl]at this;simp at this;omega
         rcases drop with _|_
         . have hpc:g q ⟨⟨vn,vw,vf,va,vt⟩,vfi,vr⟩=spanB bs vf vt:=by
            rw[<-Hg.out];unfold zdb;rw[if_pos (.inr ⟨by simp[hl],rfl⟩)]
           have hsn2:=Hsn.out;rw[hpc]at hsn2;have hsl:(spanB bs vf vt).length=vt - vf:=zax bs (a:=vf) (t:=vt) (by rw[HB.out.length];omega);have hn9:n16+(vt - vf)=(zbg g L (q+1)).length:=by rw[hsn2,List.length_append,hsl,hn16.out]
           have hn9b:n16+(vt - vf)<=700000000:=by
            have h1:=zfa g L (q:=q+1) (r:=L.length) (by omega);have h2:=HL.out;rw[List.length_append]at h2;omega
           have Hn9:=zsz hn9;have Hsn2:=zsz hsn2;clear hsn2 hsl hn9 hpc
           go_wp2_with (at_builtin;refine zaK elemB rfl (.tmp 77) (.tmp 78) rfl rfl own6 rfl (Hb9.out.up X6) (zdZ _) (by omega) (by unfold maxLen;omega) ?_;intro A8 k8 w8 own8 g8 m8;rw[<-List.map_append]at own8)
           go_roundw
           case rel=>exact⟨q+1,A8,n16+(vt - vf),k8,by omega,by go_num,rfl,by rw[Hsn2.out];exact own8,Hn9⟩
           case measure=>simp[intOf];omega
         . have hpc:g q ⟨⟨vn,vw,vf,va,vt⟩,vfi,vr⟩=[]:=by
            rw[<-Hg.out];unfold zdb;rw[if_neg (by simp[hvx]),if_pos (by simp[hl])]
           have hsn2:=Hsn.out;rw[hpc,List.append_nil]at hsn2;have Hsn2:=zsz hsn2;clear hsn2 hpc
           go_wp2_with fail
           go_roundw
           case rel=>exact⟨q+1,A16,n16,k16,by omega,by go_num,rfl,by rw[Hsn2.out];exact own6,zsz (by rw[Hsn2.out];exact hn16.out)⟩
           case measure=>simp[intOf];omega
       . have hll:=List.length_pos_iff.2 hl
         have hk1:((k:Int)==1)=false:=by rw[beq_eq_false_iff_ne];have:=Hk.out;omega
         have hk2':(1:Int)<(k:Int):=by have:=Hk.out;omega
         obtain⟨N,htag,hNle⟩:=Hve.out;have hvfi:=Hvn.out hvx;subst hvfi;have i8:=X6.of_cell s1;have i9:=X6.of_cell c5;have il2:=Nat.lt_of_lt_of_le hsb X6.size;have il3:=Nat.lt_of_lt_of_le hfb X6.size;obtain⟨p2,hp2⟩:∃p2,p2=(put&&decide ((q:Int)=z)):=⟨_,rfl⟩
         have hpc:g q ⟨⟨vn,vw,vf,va,vt⟩,(j:Nat),vr⟩=zda N (spanB bs vf vt) (setB (S.map MsgV.d) drop extra l fof.toNat (spanB bs va vt) p2):=by
          rw[<-Hg.out];unfold zdb;rw[if_neg (by simp[hvx,hl]),if_neg (by simp[hl])];simp only[htag];rw[hp2];rfl
         have hsn2:=Hsn.out;rw[hpc]at hsn2
         have hslen:(setB (S.map MsgV.d) drop extra l fof.toNat (spanB bs va vt) p2).length<=700000000:=by
          have h1:=zhk (S.map MsgV.d) drop extra (by rw[HX.out.length];exact hen) l fof.toNat (spanB bs va vt) p2 (by have:=Hk.out;omega) (by have:=zax bs (a:=va) (t:=vt) (by rw[HB.out.length];omega);omega);have h2:(spanB bs va vt).length<=1000000:=by have:=zax bs (a:=va) (t:=vt) (by rw[HB.out.length];omega);omega
          have h3:(1+10*l.length)*(spanB bs va vt).length<=641*1000000:=Nat.mul_le_mul (by have:=Hk.out;omega) h2;rw[HX.out.length]at h1;have h4:=Hk.out;split at h1<;>omega
         have hn16b:n16<=700000000:=by
          have h1:=zfa g L (q:=q) (r:=L.length) (by omega);have h2:=HL.out;rw[List.length_append]at h2;have:=hn16.out;omega
         have hr6:∀(W:World),Ext w6 W->Calls prog 91 #[.pointer (some ⟨kc,0,none⟩),.int .i64 fof,.slice A10 (vt - va) (cb - va),.slice cutA (k - 1) (kcc - 1),.bool p2] W fun e W'=>∃A' n' c',e=.returned (.slice A' n' c')/\n'<=700000000/\Hid (n'=(setB (S.map MsgV.d) drop extra l fof.toNat (spanB bs va vt) p2).length/\InS (fun q=>w6.heap.size<=q) A')/\Own W W' 5 1 A' n' c' ((setB (S.map MsgV.d) drop extra l fof.toNat (spanB bs va vt) p2).map bv):=by
          intro W h;refine(Hrec.out hl W A10 cutA (vt - va) (cb - va) (kcc - 1) (spanB bs va vt) p2 (X6.trans h) ((Hb10.out.up X6).up h) (by omega) ((Hrest.out.ext X6).ext h)).mono ?_;rintro e w' ⟨A',n',c',h1,h2,h3⟩;exact⟨A',n',c',h1,by rw[h2.out];exact hslen,zsz ⟨h2.out,fun a ha=>Nat.le_trans h.size (zqN h3 a ha)⟩,h3⟩
         have hag:∀(W:World)(V:Option Addr)(vn' vc':Nat),Ext w6 W->zac W V vn' vc' (setB (S.map MsgV.d) drop extra l fof.toNat (spanB bs va vt) p2)->Hid (vn'=(setB (S.map MsgV.d) drop extra l fof.toNat (spanB bs va vt) p2).length/\InS (fun q=>w6.heap.size<=q) V)->
          Calls prog 120 #[.slice A16 n16 k16,.slice A9 (vt - vf) (cb - vf),.slice V vn' vc'] W fun e w'=>∃A' n' c',e=.returned (.slice A' n' c')/\Hid (n'=(zbg g L (q+1)).length)/\Own w3 w' 5 1 A' n' c' ((zbg g L (q+1)).map bv):=by
          intro W V vn' vc' h hv1 hv2;have h5:vn'<=400000000000:=by rw[hv2.out.1];omega
          refine(zrK (own6.up h) (Hb9.out.up X3) hv1 (fun a ha he=> ?_) htag (by omega) (by omega) h5).mono ?_
          . have h6:=hv2.out.2 a ha
            have h7:=(own6.row.lt a.block he.symm).2;omega
          . rintro e w' ⟨A',n',c',h1,h2,h3⟩
            refine⟨A',n',c',h1,zsz ?_,?_⟩
            . rw[hsn2,List.length_append,h2,hn16.out]
            . rw[hsn2]
              exact h3
         have Hr6:=zsz hr6;have Hag:=zsz hag;have Hp2:=zsz hp2;clear hr6 hag hsn2 hpc hslen hp2 hn16b
         go_wp2_with fail
         go_quiet (fail)
         go_wp2_with fail
         have XN:Ext w6 (w6.drewN nq):=(Ext.refl w6).drewN _;generalize w6.drewN nq=w7 at*;replace e3:=XN.of_cell e3;replace e4:=XN.of_cell e4;replace el:=Nat.lt_of_lt_of_le el XN.size;clear e0 e2 e5 i0 i1 i8 i9;rcases put with _|_
         . have hp:p2=false:=by rw[Hp2.out];rfl
           subst hp;clear Hp2
           have hr7:∀W:World,Ext w7 W->Calls prog 91 #[.pointer (some ⟨kc,0,none⟩),.int .i64 fof,.slice A10 (vt - va) (cb - va),.slice cutA (k - 1) (kcc - 1),.bool false] W fun e W'=>∃A' n' c',e=.returned (.slice A' n' c')/\Ext W W'/\(Hid (n'=(setB (S.map MsgV.d) drop extra l fof.toNat (spanB bs va vt) (false)).length/\InS (fun q=>w6.heap.size<=q) A')/\zac W' A' n' c' (setB (S.map MsgV.d) drop extra l fof.toNat (spanB bs va vt) (false))):=by
            intro W h;refine(Hr6.out W (XN.trans h)).mono ?_;rintro e w' ⟨A',n',c',h1,h2,h3,h4⟩;exact⟨A',n',c',h1,h4.ext,h3,h4.bytes⟩
           have Hr7:=zsz hr7;clear hr7 Hr6;refine calmP (fun _ _ _ hd h=>⟨hd,h.2⟩) (zrd (PB:=fun A' n' c' W'=>Hid (n'=(setB (S.map MsgV.d) drop extra l fof.toNat (spanB bs va vt) (false)).length/\InS (fun q=>w6.heap.size<=q) A')/\zac W' A' n' c' (setB (S.map MsgV.d) drop extra l fof.toNat (spanB bs va vt) (false))) (PC:=fun A' n' c' W'=>Hid (n'=(zbg g L (q+1)).length)/\Own w3 W' 5 1 A' n' c' ((zbg g L (q+1)).map bv)) e3 e4 hcut10 Hcut.out Hr7.out (fun W V n' c' h hp=>Hag.out W V n' c' (XN.trans h) hp.2 hp.1) ?_);intro s16 s97 s98 s99 s100 s101 s102 s103 s104 s105 s106 s107 s108 s109 s110 s111 s112 s113 s114 s115 s116 s117 s118 Az nz cz wz hs16 hpc;subst hs16;obtain⟨hn9,own9⟩:=hpc
           go_wp2_with fail
           go_roundw
           case rel=>exact⟨q+1,Az,nz,cz,by omega,by go_num,rfl,own9,hn9⟩
           case measure=>simp[intOf];omega
         . have hp:p2=((q:Int)==z):=by rw[Hp2.out,Bool.true_and];rw[Bool.eq_iff_iff];simp
           subst hp;clear Hp2
           have hr7:∀W:World,Ext w7 W->Calls prog 91 #[.pointer (some ⟨kc,0,none⟩),.int .i64 fof,.slice A10 (vt - va) (cb - va),.slice cutA (k - 1) (kcc - 1),.bool ((q:Int)==z)] W fun e W'=>∃A' n' c',e=.returned (.slice A' n' c')/\Ext W W'/\(Hid (n'=(setB (S.map MsgV.d) drop extra l fof.toNat (spanB bs va vt) (((q:Int)==z))).length/\InS (fun q=>w6.heap.size<=q) A')/\zac W' A' n' c' (setB (S.map MsgV.d) drop extra l fof.toNat (spanB bs va vt) (((q:Int)==z)))):=by
            intro W h;refine(Hr6.out W (XN.trans h)).mono ?_;rintro e w' ⟨A',n',c',h1,h2,h3,h4⟩;exact⟨A',n',c',h1,h4.ext,h3,h4.bytes⟩
           have Hr7:=zsz hr7;clear hr7 Hr6;refine calmP (fun _ _ _ hd h=>⟨hd,h.2⟩) (zrc (PB:=fun A' n' c' W'=>Hid (n'=(setB (S.map MsgV.d) drop extra l fof.toNat (spanB bs va vt) (((q:Int)==z))).length/\InS (fun q=>w6.heap.size<=q) A')/\zac W' A' n' c' (setB (S.map MsgV.d) drop extra l fof.toNat (spanB bs va vt) (((q:Int)==z)))) (PC:=fun A' n' c' W'=>Hid (n'=(zbg g L (q+1)).length)/\Own w3 W' 5 1 A' n' c' ((zbg g L (q+1)).map bv)) e3 e4 hcut10 Hcut.out Hr7.out (fun W V n' c' h hp=>Hag.out W V n' c' (XN.trans h) hp.2 hp.1) ?_);intro s16 s97 s98 s99 s100 s101 s102 s103 s104 s105 s106 s107 s108 s109 s110 s111 s112 s113 s114 s115 s116 s117 s118 Az nz cz wz hs16 hpc;subst hs16;obtain⟨hn9,own9⟩:=hpc
           go_wp2_with fail
           go_roundw
           case rel=>exact⟨q+1,Az,nz,cz,by omega,by go_num,rfl,own9,hn9⟩
           case measure=>simp[intOf];omega
     . have hvx2:((vn:Int) !=x)=true:=by simp[hvx]
       have hpc:g q ⟨⟨vn,vw,vf,va,vt⟩,vfi,vr⟩=spanB bs vf vt:=by
        rw[<-Hg.out];unfold zdb;rw[if_pos (.inl hvx)]
       have hsn2:=Hsn.out;rw[hpc]at hsn2;have hsl:(spanB bs vf vt).length=vt - vf:=zax bs (a:=vf) (t:=vt) (by rw[HB.out.length];omega);have hn9:n16+(vt - vf)=(zbg g L (q+1)).length:=by rw[hsn2,List.length_append,hsl,hn16.out]
       have hn9b:n16+(vt - vf)<=700000000:=by
        have h1:=zfa g L (q:=q+1) (r:=L.length) (by omega);have h2:=HL.out;rw[List.length_append]at h2;omega
       have Hn9:=zsz hn9;have Hsn2:=zsz hsn2;clear hsn2 hsl hn9 hpc
       go_wp2_with (at_builtin;refine zaK elemB rfl (.tmp 77) (.tmp 78) rfl rfl own6 rfl (Hb9.out.up X6) (zdZ _) (by omega) (by unfold maxLen;omega) ?_;intro A8 k8 w8 own8 g8 m8;rw[<-List.map_append]at own8)
       go_roundw
       case rel=>exact⟨q+1,A8,n16+(vt - vf),k8,by omega,by go_num,rfl,by rw[Hsn2.out];exact own8,Hn9⟩
       case measure=>simp[intOf];omega
   . have hqe:q=L.length:=by omega
     subst hqe;have X:=own.ext;have X5:=X3.trans X
     have hfin:∀(A':Option Addr)(n' c':Nat)(W':World)(E:List UInt8),T=E->Hid (n'=(zbg g L L.length++E).length)->Own w3 W' 5 1 A' n' c' ((zbg g L L.length++E).map bv)->zgb (zbg g L L.length++T) w (.returned (.slice A' n' c')) W':=by
      intro A' n' c' W' E hE h1 h3;rw[hE];exact⟨A',n',c',rfl,h1,h3.since X3⟩
     have Hfin:=zsz hfin;have i0:=X5.of_cell h0;have i2:=X5.of_cell h2';have il:=Nat.lt_of_lt_of_le hcl X5.size
     have hn16b:n16<=700000000:=by
      have h2:=HL.out;rw[List.length_append]at h2;have:=hn16.out;omega
     clear hfin h0 h1 h2' hcl;rcases put with _|_
     . have hTE:T=[]:=by rw[<-HT.out];rfl
       have HTE:=zsz hTE;clear hTE
       go_wp2
       go_ret
       exact Hfin.out _ _ _ _ [] HTE.out (zsz (by rw[List.append_nil];exact hn16.out)) (by rw[List.append_nil];exact own)
     . by_cases hl:l=[]
       . have hk1:((k:Int)==1)=true:=by rw[beq_iff_eq];have:=Hk.out;rw[hl]at this;simp at this;omega
         have hTE:T=extra:=by
          rw[<-HT.out,if_neg (by simp),if_pos hl]
         have HTE:=zsz hTE;have hxl:=HX.out.length;have Hxl:=zsz hxl;clear hTE hl hxl
         go_wp2_with (at_builtin;refine zaK elemB rfl (.tmp 127) (.tmp 131) rfl rfl own rfl (HX.out.up X5) (zdZ _) (by omega) (by unfold maxLen;omega) ?_;intro A8 k8 w8 own8 g8 m8;rw[<-List.map_append]at own8)
         go_ret
         exact Hfin.out _ _ _ _ extra HTE.out (zsz (by rw[List.length_append,Hxl.out,hn16.out])) own8
       . have hll:=List.length_pos_iff.2 hl
         have hk1:((k:Int)==1)=false:=by rw[beq_eq_false_iff_ne];have:=Hk.out;omega
         by_cases hz0:z<0
         . have hTE:T=lenB x (setB (S.map MsgV.d) drop extra l fof.toNat [] true):=by
            rw[<-HT.out,if_neg (by simp),if_neg hl,if_pos hz0]
           have HTE:=zsz hTE
           have hslen:(setB (S.map MsgV.d) drop extra l fof.toNat [] true).length<=700000000:=by
            have h1:=zhk (S.map MsgV.d) drop extra (by rw[HX.out.length];exact hen) l fof.toNat [] true (by have:=Hk.out;omega) (by simp);rw[HX.out.length]at h1;simp only[List.length_nil,Nat.mul_zero,Nat.zero_add,if_true]at h1;have h4:=Hk.out;omega
           have hby:=fun W (h:Ext wr W)=>zhQ (s:=Mn) (x:=x) (HF.out.up (X5.trans h)) hMk HI.out
           have hmax:max (j:Int) 0=j:=by omega
           rw[hmax]at hby
           have Hby:=zsz hby;have j0:=X5.of_cell s0;have j1:=X5.of_cell s1;have j5:=X5.of_cell c5;have jl:=Nat.lt_of_lt_of_le hsb X5.size;have jf:=Nat.lt_of_lt_of_le hfb X5.size;have Hsl:=zsz hslen;clear hby hmax hTE hslen
           go_upto_region 19 with(go_at_call 107;refine(Hby.out _ xx).mono ?_;rintro e w4 ⟨rfl,E4⟩)
           have X6:=X5.trans E4;replace i0:=E4.of_cell i0;replace j1:=E4.of_cell j1;replace j5:=E4.of_cell j5;have own4:=own.up E4
           have hr7:∀W:World,Ext w4 W->Calls prog 91 #[.pointer (some ⟨kc,0,none⟩),.int .i64 fof,.slice none 0 0,.slice cutA (k - 1) (kcc - 1),.bool true] W fun e W'=>∃A' n' c',e=.returned (.slice A' n' c')/\Ext W W'/\(Hid (n'=(setB (S.map MsgV.d) drop extra l fof.toNat [] true).length)/\zac W' A' n' c' (setB (S.map MsgV.d) drop extra l fof.toNat [] true)):=by
            intro W h;refine(Hrec.out hl W none cutA 0 0 (kcc - 1) [] true (X6.trans h) (zac.nil _) (by omega) ((Hrest.out.ext X6).ext h)).mono ?_;rintro e w' ⟨A',n',c',h1,h2,h3⟩;exact⟨A',n',c',h1,h3.ext,h2,h3.bytes⟩
           have hl7:∀(W:World)(V:Option Addr)(n' c':Nat),Ext w4 W->(Hid (n'=(setB (S.map MsgV.d) drop extra l fof.toNat [] true).length)/\zac W V n' c' (setB (S.map MsgV.d) drop extra l fof.toNat [] true))->Calls prog 115 #[.slice A16 n16 k16,.int .i64 x,.slice V n' c'] W fun e W'=>∃A' n' c',e=.returned (.slice A' n' c')/\(Hid (n'=(zbg g L L.length++lenB x (setB (S.map MsgV.d) drop extra l fof.toNat [] true)).length)/\Own w3 W' 5 1 A' n' c' ((zbg g L L.length++lenB x (setB (S.map MsgV.d) drop extra l fof.toNat [] true)).map bv)):=by
            intro W V n' c' h hp;have h9:n'<=1000000000:=by rw[hp.1.out];have:=Hsl.out;omega
            refine(rLen (number:=x) ((own4.up h).bytes) (by omega) hp.2 h9).mono ?_;rintro e w' ⟨A',c',h1,h3⟩;exact⟨A',_,c',h1,zsz (by rw[List.length_append,hn16.out]),h3.since (own4.ext.trans h)⟩
           have Hr7:=zsz hr7;have Hl7:=zsz hl7;clear hr7 hl7;refine calmP (fun _ _ _ hd h=>⟨hd,h.2⟩) (zrU (PB:=fun A' n' c' W'=>Hid (n'=(setB (S.map MsgV.d) drop extra l fof.toNat [] true).length)/\zac W' A' n' c' (setB (S.map MsgV.d) drop extra l fof.toNat [] true)) (PC:=fun A' n' c' W'=>Hid (n'=(zbg g L L.length++lenB x (setB (S.map MsgV.d) drop extra l fof.toNat [] true)).length)/\Own w3 W' 5 1 A' n' c' ((zbg g L L.length++lenB x (setB (S.map MsgV.d) drop extra l fof.toNat [] true)).map bv)) hmi hji i0 j1 j5 Hcut.out Hr7.out Hl7.out ?_);intro s16 s148 s149 s150 s151 s152 s153 s154 s155 s156 s157 s158 s159 s160 s161 s162 s163 s164 s165 s166 Az nz cz wz hs16 hpc;subst hs16;obtain⟨hn9,own9⟩:=hpc
           go_wp2
           go_ret
           exact Hfin.out _ _ _ _ _ HTE.out hn9 own9
         . have hTE:T=[]:=by
            rw[<-HT.out,if_neg (by simp),if_neg hl,if_neg hz0]
           have HTE:=zsz hTE;clear hTE
           go_wp2
           go_ret
           exact Hfin.out _ _ _ _ [] HTE.out (zsz (by rw[List.append_nil];exact hn16.out)) (by rw[List.append_nil];exact own)
end Go.Proofs.YtpicpebolghcfaaGreatDoor
