/- Contracts of layer 11: valid messages. -/
import Derived.Test.YtpicpebolghcfaaGreatDoorQlW4
import Derived.Test.YtpicpebolghcfaaGreatDoorQlW9r

set_option linter.unusedVariables false
set_option maxRecDepth 100000
set_option maxHeartbeats 2000000
namespace Go.Proofs.YtpicpebolghcfaaGreatDoor
open Go.RowKit Tryz
theorem zoN(k:Int)(bs:List UInt8):codeV k bs<=4:=by
 have hf:∀(f:Nat)(bs:List UInt8),∀x∈valsF k f bs,x.2<=4:=by
  intro f
  induction f with
  |zero=>intro bs x hx;simp[valsF]at hx
  |succ f ih=>
   intro bs x hx;unfold valsF at hx;have hbd:=zdp k bs;by_cases hb:bs=[]
   . rw[if_pos hb]at hx;simp at hx
   . rw[if_neg hb]at hx
     by_cases hc:(stepN k bs).2=0
     . rw[if_pos hc]at hx
       rcases List.mem_cons.1 hx with rfl|hx
       . simp
       . exact ih _ x hx
     . rw[if_neg hc]at hx
       simp only[List.mem_singleton]at hx;subst hx;simp only;omega
 unfold codeV;rcases hl:(valsV k bs).getLast? with _|x
 . simp
 . have hm:=List.mem_of_getLast? hl
   unfold valsV at hm;by_cases hk:zaf k=false
   . rw[if_pos hk]at hm
     simp only[List.mem_singleton]at hm;subst hm;simp
   . rw[if_neg hk]at hm
     exact hf _ _ x hm
theorem zjl(S:List MsgD)(root d:Int):argsV S root d<=9:=by unfold argsV;split<;>(try split)<;>omega
variable{w:World}{root d:Int}{S:List MsgV}{n c:Nat}{A:Option Addr}
theorem vArgs(hs:zag w A n c S):
 Calls prog 72 #[.slice A n c,.int .i64 root,.int .i64 d] w fun e w'=>e=.returned (.int .u8 (argsV (S.map MsgV.d) root d:Nat))/\Ext w w':=by
 have hl:=hs.length;unfold argsV;rw[List.length_map,hl];have hr:=fun W (h:zag W A n c S)=>zmG h
 rcases hR:zan (S.map MsgV.d)with _|_
 . rw[hR]at hr
   have Hr:=zsz hr;clear hr hR hl;rw[if_pos rfl]
   go_enter func72,ntmps72
   go_wp2_with (go_at_call 102;refine(Hr.out _ hs).mono ?_;rintro e w1 ⟨rfl,E1⟩)
   go_ret
   exact⟨rfl,E1⟩
 . rw[hR]at hr
   have Hr:=zsz hr;clear hr hR hl;rw[if_neg (by simp)];rcases(by omega:root<0\/(¬root<0/\(n:Int)<=root)\/(¬root<0/\¬(n:Int)<=root/\d<0)\/(¬root<0/\¬(n:Int)<=root/\¬d<0/\64<d)\/(¬root<0/\¬(n:Int)<=root/\¬d<0/\¬64<d))with h|⟨h,h2⟩|⟨h,h2,h3⟩|⟨h,h2,h3,h4⟩|⟨h,h2,h3,h4⟩
   . rw[if_pos (by omega)]
     go_enter func72,ntmps72
     go_wp2_with (go_at_call 102;refine(Hr.out _ hs).mono ?_;rintro e w1 ⟨rfl,E1⟩)
     go_ret
     exact⟨rfl,E1⟩
   . rw[if_pos (by omega)]
     go_enter func72,ntmps72
     go_wp2_with (go_at_call 102;refine(Hr.out _ hs).mono ?_;rintro e w1 ⟨rfl,E1⟩)
     go_ret
     exact⟨rfl,E1⟩
   . rw[if_pos (by omega)]
     go_enter func72,ntmps72
     go_wp2_with (go_at_call 102;refine(Hr.out _ hs).mono ?_;rintro e w1 ⟨rfl,E1⟩)
     go_ret
     exact⟨rfl,E1⟩
   . rw[if_pos (by omega)]
     go_enter func72,ntmps72
     go_wp2_with (go_at_call 102;refine(Hr.out _ hs).mono ?_;rintro e w1 ⟨rfl,E1⟩)
     go_ret
     exact⟨rfl,E1⟩
   . rw[if_neg (by omega)]
     go_enter func72,ntmps72
     go_wp2_with (go_at_call 102;refine(Hr.out _ hs).mono ?_;rintro e w1 ⟨rfl,E1⟩)
     go_ret
     exact⟨rfl,E1⟩
theorem zqE(hs:zag w A n c S):
 Calls prog 34 #[.slice A n c,.int .i64 root,.int .i64 d] w fun e w'=>e=.returned (.int .i64 (argsV (S.map MsgV.d) root d:Nat))/\Ext w w':=by
 have hl:=hs.length;unfold argsV;rw[List.length_map,hl];have hr:=fun W (h:zag W A n c S)=>zlA h
 rcases hR:zan (S.map MsgV.d)with _|_
 . rw[hR]at hr
   have Hr:=zsz hr;clear hr hR hl;rw[if_pos rfl]
   go_enter func34,ntmps34
   go_wp2_with (go_at_call 61;refine(Hr.out _ hs).mono ?_;rintro e w1 ⟨rfl,E1⟩)
   go_ret
   exact⟨rfl,E1⟩
 . rw[hR]at hr
   have Hr:=zsz hr;clear hr hR hl;rw[if_neg (by simp)];rcases(by omega:root<0\/(¬root<0/\(n:Int)<=root)\/(¬root<0/\¬(n:Int)<=root/\d<0)\/(¬root<0/\¬(n:Int)<=root/\¬d<0/\64<d)\/(¬root<0/\¬(n:Int)<=root/\¬d<0/\¬64<d))with h|⟨h,h2⟩|⟨h,h2,h3⟩|⟨h,h2,h3,h4⟩|⟨h,h2,h3,h4⟩
   . rw[if_pos (by omega)]
     go_enter func34,ntmps34
     go_wp2_with (go_at_call 61;refine(Hr.out _ hs).mono ?_;rintro e w1 ⟨rfl,E1⟩)
     go_ret
     exact⟨rfl,E1⟩
   . rw[if_pos (by omega)]
     go_enter func34,ntmps34
     go_wp2_with (go_at_call 61;refine(Hr.out _ hs).mono ?_;rintro e w1 ⟨rfl,E1⟩)
     go_ret
     exact⟨rfl,E1⟩
   . rw[if_pos (by omega)]
     go_enter func34,ntmps34
     go_wp2_with (go_at_call 61;refine(Hr.out _ hs).mono ?_;rintro e w1 ⟨rfl,E1⟩)
     go_ret
     exact⟨rfl,E1⟩
   . rw[if_pos (by omega)]
     go_enter func34,ntmps34
     go_wp2_with (go_at_call 61;refine(Hr.out _ hs).mono ?_;rintro e w1 ⟨rfl,E1⟩)
     go_ret
     exact⟨rfl,E1⟩
   . rw[if_neg (by omega)]
     go_enter func34,ntmps34
     go_wp2_with (go_at_call 61;refine(Hr.out _ hs).mono ?_;rintro e w1 ⟨rfl,E1⟩)
     go_ret
     exact⟨rfl,E1⟩
variable{bs:List UInt8}
theorem zoO(hb:zac w A n c bs)(hn:n<=1000000000):
 Calls prog 100 #[.slice A n c] w fun e w'=>e=.returned (.bool (zca bs))/\Ext w w':=by
 have hl:=hb.length
 have hr:zca bs=(((walkV bs bs.length).1:Int)==(n:Int)):=by
  unfold zca;rw[Bool.eq_iff_iff];simp;omega
 rw[hr];have hf:=zrn (room:=(n:Int)) hb (by omega) (by omega);rw[show((n:Int)).toNat=bs.length from hl.symm]at hf;have Hf:=zsz hf;clear hr hf hl
 go_enter func100,ntmps100
 go_wp2_with (go_at_call 123;refine Hf.out.mono ?_;rintro e w1 ⟨rfl,E1⟩)
 go_ret
 exact⟨rfl,E1⟩
structure Chk(w0 w:World)(cb:Nat)(A:Option Addr)(n c D:Nat):Prop where
 blk:BlkT w cb 217 #[.slice A n c,.int .i64 (D:Int)]
 ext:Ext w0 w
 base:w0.heap.size<=cb
def MsgP(w:World)(cb:Nat)(A:Option Addr)(n c D fr depth:Nat)(V:Nat×Nat)(dp:Nat)(e:Ending)(w':World):Prop:=
 ∃P D':Nat,e=.returned (.tuple #[.int .i64 (P:Int),.int .u8 (V.2:Int)])/\(V.2≠0->P=fr+V.1)/\Only cb w w'/\BlkT w' cb 217 #[.slice A n c,.int .i64 (D':Int)]/\D<=D'/\D'<=64/\(V.2=0->D'=max D (depth+dp))
def MsgK(k:Nat):Prop:=∀{w0 w:World}{A:Option Addr}{n c:Nat}{S:List MsgV}{cb D m:Nat}{M:MsgV}{B:Option Addr}{n' c':Nat}{bs:List UInt8}{fr depth mo:Nat},zag w0 A n c S->zan (S.map MsgV.d)=true->S[m]?=some M->zac w0 B n' c' bs->Chk w0 w cb A n c D->D<=64->depth+k=mo->mo<=64->fr+n'<=1000000000->
 Calls prog 129 #[.pointer (some ⟨cb,0,none⟩),.int .i64 (m:Int),.slice B n' c',.int .i64 (fr:Int),.int .i64 (depth:Int),.int .i64 (mo:Int)] w fun e w'=>MsgP w cb A n c D fr depth (zai (S.map MsgV.d) k m bs) (deepV (S.map MsgV.d) k m bs) e w'/\((zai (S.map MsgV.d) k m bs).2=0->e=.returned (.tuple #[.int .i64 0,.int .u8 0]))
def ValK(k:Nat):Prop:=∀{w0 w:World}{A:Option Addr}{n c:Nat}{S:List MsgV}{cb D m:Nat}{M:MsgV}{B:Option Addr}{n' c':Nat}{bs:List UInt8}{fr depth mo:Nat}{v:ViewD},zag w0 A n c S->zan (S.map MsgV.d)=true->S[m]?=some M->zac w0 B n' c' bs->Chk w0 w cb A n c D->D<=64->depth<=D->depth+k=mo->mo<=64->fr+n'<=1000000000->
 v.r.f<v.r.a->v.r.a<=v.r.t->v.r.t<=n'->(v.field= -1\/∃j f,v.field=(j:Nat)/\M.d.fields[j]?=some f)->
 Calls prog 148 #[.pointer (some ⟨cb,0,none⟩),.int .i64 (m:Int),viewV v,.slice B n' c',.int .i64 (fr:Int),.int .i64 (depth:Int),.int .i64 (mo:Int)] w (MsgP w cb A n c D fr depth (zbc (subC (S.map MsgV.d) k) M.d.fields bs v) (deepC (subD (S.map MsgV.d) k) M.d.fields bs v))
variable{k:Nat}
theorem zqF(hK:∀k0,k=k0+1->MsgK k0):ValK k:=by
 intro w0 w A n c S cb D m M B n' c' bs fr depth mo v hs hR hM hb hC hD hdD hdm hmo hfr hv1 hv2 hv3 hvf;have HK:=zsz hK;have hE0:Ext w (w.alloc (.cells #[.int .i64 (v.r.n:Int),.int .i64 (v.r.w:Int),.int .i64 (v.r.f:Int),.int .i64 (v.r.a:Int),.int .i64 (v.r.t:Int),.int .i64 v.field,.bool v.run] 183)):=xx;have B0:=Ext.new_blk (Ext.refl (w.alloc (.cells #[.int .i64 (v.r.n:Int),.int .i64 (v.r.w:Int),.int .i64 (v.r.f:Int),.int .i64 (v.r.a:Int),.int .i64 (v.r.t:Int),.int .i64 v.field,.bool v.run] 183)));clear hK;rcases hvf with hno|⟨j,f,hj,hf⟩
 . obtain⟨e1,e2⟩:=zjI (subC (S.map MsgV.d) k) (subD (S.map MsgV.d) k) (fs:=M.d.fields) (bs:=bs) hno
   rw[e1,e2]
   have hfin:MsgP w cb A n c D fr depth (0,0) 0 (.returned (.tuple #[.int .i64 0,.int .u8 0])) (w.alloc (.cells #[.int .i64 (v.r.n:Int),.int .i64 (v.r.w:Int),.int .i64 (v.r.f:Int),.int .i64 (v.r.a:Int),.int .i64 (v.r.t:Int),.int .i64 v.field,.bool v.run] 183)):=
    ⟨0,D,rfl,fun h=>absurd rfl h,(Only.refl cb w).ext hE0,hC.blk.up hE0,Nat.le_refl _,hD,fun _=>by omega⟩
   have Hfin:=zsz hfin;have c5:=B0.cell 5;have cl:=B0.lt;have hneg:v.field<0:=by omega
   unfold viewV;obtain⟨⟨rn,rw_,rf,ra,rt⟩,vf,vr⟩:=v;simp only at c5 hneg Hfin;clear hfin B0 hE0 hno e1 e2 hs hb hC hM
   go_enter func148,ntmps148
   go_wp2
   go_ret2
   exact Hfin.out
 . obtain⟨b1,off1,M',rfl,hM',hfl,hnm,hb1,m0,m1⟩:=hs.msg (k:=m) (by rw[<-hs.length];exact(List.getElem?_eq_some_iff.1 hM).1)
   rw[hM]at hM';cases hM';have hlt:=(List.getElem?_eq_some_iff.1 hf).1;rw[hfl.length]at hlt;obtain⟨b2,off2,f',hA2,hf',hok,hb2,d0,d1,d2,d3,d4,d5⟩:=hfl.field hlt;rw[hf]at hf';cases hf';have hmn:m<n:=by rw[<-hs.length];exact(List.getElem?_eq_some_iff.1 hM).1
   obtain⟨A3,k3,hspan⟩:=zcc hb hv2 hv3;have hX:=hC.ext.trans hE0;have hwl:w.heap.size<(w.alloc (.cells #[.int .i64 (v.r.n:Int),.int .i64 (v.r.w:Int),.int .i64 (v.r.f:Int),.int .i64 (v.r.a:Int),.int .i64 (v.r.t:Int),.int .i64 v.field,.bool v.run] 183)).heap.size:=B0.lt;have hO0:Only cb w (w.alloc (.cells #[.int .i64 (v.r.n:Int),.int .i64 (v.r.w:Int),.int .i64 (v.r.f:Int),.int .i64 (v.r.a:Int),.int .i64 (v.r.t:Int),.int .i64 v.field,.bool v.run] 183)):=(Only.refl cb w).ext hE0;have hC1:=hC.blk.up hE0;have hcw:=hC.blk.lt;have hbase:=hC.base;have hwx:∃wx,wx=w.alloc (.cells #[.int .i64 (v.r.n:Int),.int .i64 (v.r.w:Int),.int .i64 (v.r.f:Int),.int .i64 (v.r.a:Int),.int .i64 (v.r.t:Int),.int .i64 v.field,.bool v.run] 183):=⟨_,rfl⟩
   have x0:(w.alloc (.cells #[.int .i64 (v.r.n:Int),.int .i64 (v.r.w:Int),.int .i64 (v.r.f:Int),.int .i64 (v.r.a:Int),.int .i64 (v.r.t:Int),.int .i64 v.field,.bool v.run] 183)).cell? ⟨w.heap.size,0,none⟩=some (.int .i64 (v.r.n:Int)):=B0.cell 0;have y2:=B0.cell 2;have y3:=B0.cell 3;have y4:=B0.cell 4;have y5:=B0.cell 5;have y6:=B0.cell 6;have z0:=hC1.cell 0;have zl:=hC1.lt;have m1':=hX.of_cell m1;have d0':=hX.of_cell d0;have d1':=hX.of_cell d1;have d2':=hX.of_cell d2;have d3':=hX.of_cell d3;have d4':=hX.of_cell d4;have d5':=hX.of_cell d5;have hsz0:=hX.size;have hb1x:=Nat.lt_of_lt_of_le hb1 hsz0;have hb2x:=Nat.lt_of_lt_of_le hb2 hsz0;rw[hA2]at m1';unfold viewV;obtain⟨⟨rn,rw_,rf,ra,rt⟩,vf,vr⟩:=v;simp only at hj y2 y3 y4 y5 y6 hv1 hv2 hv3 hO0 hC1 hX hwl z0 zl m1' d0' d1' d2' d3' d4' d5' hsz0 hb1x hb2x hE0 x0 hspan k3;subst hj;have hneg:¬(j:Int)<0:=by omega
   have hjn:(j:Int)<M.n:=by omega
   have hmi:(m:Int)<n:=by omega
   have hr1:(ra:Int)<=rt:=by omega
   have hr2:(rt:Int)<=n':=by omega
   have hcap:=Reads.cap hb;have wr1:IntKind.i64.wrap ((fr:Int)+rf)=(fr:Int)+rf:=IntWalk.i64_in _ ⟨by omega,by omega⟩;have Hs:=zsz hs;have Hb:=zsz hb;have Hf:=zsz hf;have HM:=zsz hM;have HC:=zsz hC;have Hspan:=zsz hspan;have HA2:=zsz hA2;clear hs hb hf hM hC hspan hA2 B0 m0 m1 d0 d1 d2 d3 d4 d5 hfl hok hE0 hwx x0
   go_enter func148,ntmps148
   go_wp2
   generalize w.alloc (.cells #[.int .i64 (rn:Int),.int .i64 (rw_:Int),.int .i64 (rf:Int),.int .i64 (ra:Int),.int .i64 (rt:Int),.int .i64 (j:Int),.bool vr] 183)=wx at*
   go_region_held3 (fun W=>Ext wx W/\∀b o,b<wx.heap.size->W.cell? ⟨b,o,none⟩=wx.cell? ⟨b,o,none⟩) ((refine Ext.keep ?_;repeat with_reducible (first|assumption|exact Ext.refl _|refine Ext.alloc ?_ _|refine Ext.drew ?_|refine Ext.drewN ?_ _|refine Ext.setCell ?_ (by first|omega|(simp<;>omega)) _))) (fail)
   have E1:Ext wx (wx.alloc (.cells #[.string f.name,.int .i64 f.number,.int .i64 f.kind,.bool f.rep,.bool f.packed,.int .i64 f.of_] 43)).drew:=xx;have Bf:=Ext.new_blk_drew (Ext.refl (wx.alloc (.cells #[.string f.name,.int .i64 f.number,.int .i64 f.kind,.bool f.rep,.bool f.packed,.int .i64 f.of_] 43)).drew);generalize (wx.alloc (.cells #[.string f.name,.int .i64 f.number,.int .i64 f.kind,.bool f.rep,.bool f.packed,.int .i64 f.of_] 43)).drew=wy at*
   rename Ext wx wy/\_=>hS
   clear hS;have v3:wy.cell? ⟨w.heap.size,3,none⟩=some (.int .i64 (ra:Int)):=E1.of_cell y3;have v6:wy.cell? ⟨w.heap.size,6,none⟩=some (.bool vr):=E1.of_cell y6;have g2:=Bf.cell 2;have g5:=Bf.cell 5;have gl:=Bf.lt;have hO1:=hO0.ext E1;have hC2:=hC1.up E1;have hspany:=Hspan.out.up (hX.trans E1);have hXy:=hX.trans E1;have HC2:=zsz hC2;have hrt:rt - ra<=1000000000:=by omega
   clear y2 y3 y4 y5 y6 z0 zl m1' d0' d1' d2' d3' d4' d5' Bf hC1 hO0 hX E1 hC2 k3 hb1x hb2x hsz0 hb1 hb2 hnm hneg;by_cases hrun:vr=true
   . subst hrun
     obtain⟨e1,e2⟩:=zdB (subC (S.map MsgV.d) k) (subD (S.map MsgV.d) k) (fs:=M.d.fields) (bs:=bs) (v:=⟨⟨rn,rw_,rf,ra,rt⟩,(j:Int),true⟩) rfl Hf.out rfl;simp only at e1;have hcnt:=fun W (h:zac W A3 (rt - ra) (c' - ra) (spanB bs ra rt))=>zpB (k:=f.kind) h hrt
     generalize codeV f.kind (spanB bs ra rt)=C at*;have Hcnt:=zsz hcnt;have He1:=zsz e1;have He2:=zsz e2;clear e1 e2 hcnt
     go_wp2_with (go_at_call 79;refine(Hcnt.out _ hspany).mono ?_;rintro e w2 ⟨rfl,E2⟩)
     go_ret2
     rw[He1.out,He2.out];exact⟨fr+rf,D,rfl,fun _=>rfl,hO1.ext E2,HC2.out.up E2,Nat.le_refl _,hD,fun _=>by omega⟩
   . obtain rfl:vr=false:=by simpa using hrun
     clear hrun;by_cases h15:f.kind=15
     . obtain⟨e1,e2⟩:=zcZ (subC (S.map MsgV.d) k) (subD (S.map MsgV.d) k) (fs:=M.d.fields) (bs:=bs) (v:=⟨⟨rn,rw_,rf,ra,rt⟩,(j:Int),false⟩) rfl Hf.out rfl h15
       simp only at e1;have He1:=zsz e1;have He2:=zsz e2;have q15:(f.kind==15)=true:=by rw[beq_iff_eq];exact h15
       have hr:=fun W (h:zac W A3 (rt - ra) (c' - ra) (spanB bs ra rt))=>zqJ h
       clear e1 e2 h15;rcases hrt2:zca (spanB bs ra rt)with _|_
       . rw[hrt2]at hr He1
         have Hr:=zsz hr;clear hr hrt2
         go_wp2_with (go_at_call 153;refine(Hr.out _ hspany).mono ?_;rintro e w2 ⟨rfl,rfl⟩)
         go_ret2
         rw[He1.out,He2.out];exact⟨fr+rf,D,rfl,fun _=>rfl,hO1,HC2.out,Nat.le_refl _,hD,fun h=>by simp at h⟩
       . rw[hrt2]at hr He1
         have Hr:=zsz hr;clear hr hrt2
         go_wp2_with (go_at_call 153;refine(Hr.out _ hspany).mono ?_;rintro e w2 ⟨rfl,rfl⟩)
         go_ret2
         rw[He1.out,He2.out];exact⟨0,D,rfl,fun h=>by simp at h,hO1,HC2.out,Nat.le_refl _,hD,fun _=>by omega⟩
     . have q15:(f.kind==15)=false:=by rw[beq_eq_false_iff_ne];exact h15
       by_cases h17:f.kind=17
       . have q17:(f.kind==17)=true:=by rw[beq_iff_eq];exact h17
         obtain⟨e1,e2⟩:=zbq (S:=S.map MsgV.d) (d:=k) (fs:=M.d.fields) (bs:=bs) (v:=⟨⟨rn,rw_,rf,ra,rt⟩,(j:Int),false⟩) rfl Hf.out rfl h17;obtain⟨o,ho,hol⟩:=zbV hR (i:=m) (by rw[List.getElem?_map,HM.out];rfl) Hf.out h17;have Hol:=zsz hol;clear h15 hol
         cases k with
         |zero=>
          have He1:=zsz (e1 rfl);have hdm':((depth:Int)==mo)=true:=by rw[beq_iff_eq];omega
          clear e1 e2 h17 ho hdm
          go_wp2
          go_ret2
          rw[He1.out];exact⟨fr+rf,D,rfl,fun _=>rfl,hO1,HC2.out,Nat.le_refl _,hD,fun h=>by simp at h⟩
         |succ e=>
          obtain⟨e3,e4⟩:=e2 e rfl;simp only[ho,Int.toNat_natCast]at e3 e4;have hdm':((depth:Int)==mo)=false:=by rw[beq_eq_false_iff_ne];omega
          obtain⟨M2,hM2⟩:∃M2,S[o]?=some M2:=⟨_,List.getElem?_eq_getElem (by have:=Hol.out;simpa using this)⟩
          have hcall:=fun(W:World)(hC:Chk w0 W cb (some ⟨b1,off1,none⟩) n c D)=>HK.out e rfl (fr:=fr+ra) (depth:=depth+1) (mo:=mo) Hs.out hR hM2 Hspan.out hC hD (by omega) hmo (by omega)
          generalize zai (S.map MsgV.d) e o (spanB bs ra rt)=V at*;generalize deepV (S.map MsgV.d) e o (spanB bs ra rt)=dp at*;have e5:((fr+ra:Nat):Int)=(fr:Int)+ra:=rfl;have e6:((depth+1:Nat):Int)=(depth:Int)+1:=rfl;rw[e5,e6]at hcall;have Hcall:=zsz hcall;have He1:=zsz e3;have He2:=zsz e4;have hchk:Chk w0 wy cb (some ⟨b1,off1,none⟩) n c D:=⟨HC2.out,hXy,hbase⟩
          have wr2:IntKind.i64.wrap ((fr:Int)+ra)=(fr:Int)+ra:=IntWalk.i64_in _ ⟨by omega,by omega⟩;rw[ho]at g5;clear e1 e2 e3 e4 hcall hdm h17 ho hM2 e5 e6
          go_wp2_with (go_at_call 129;refine(Hcall.out _ hchk).mono ?_;rintro e w2 ⟨⟨P,D',rfl,p1,p2,p3,p4,p5,p6⟩,_⟩)
          go_ret2
          rw[He1.out,He2.out];exact⟨P,D',rfl,fun h=>by rw[p1 h];simp only;omega,hO1.trans p2,p3,p4,p5,fun h=>by rw[p6 h];omega⟩
       . have q17:(f.kind==17)=false:=by rw[beq_eq_false_iff_ne];exact h17
         obtain⟨e1,e2⟩:=zcE (subC (S.map MsgV.d) k) (subD (S.map MsgV.d) k) (fs:=M.d.fields) (bs:=bs) (v:=⟨⟨rn,rw_,rf,ra,rt⟩,(j:Int),false⟩) rfl Hf.out rfl h15 h17;have He1:=zsz e1;have He2:=zsz e2;clear e1 e2 h15 h17
         go_wp2
         go_ret2
         rw[He1.out,He2.out];exact⟨0,D,rfl,fun h=>by simp at h,hO1,HC2.out,Nat.le_refl _,hD,fun _=>by omega⟩
theorem zmv(hv:ValK k):MsgK k:=by
 intro w0 w A n c S cb D m M B n' c' bs fr depth mo hs hR hM hb hC hD hdm hmo hfr;have hmn:m<n:=by rw[<-hs.length];exact(List.getElem?_eq_some_iff.1 hM).1
 obtain⟨b1,off1,M',rfl,hM',hfl,hnm,hb1,m0,m1⟩:=hs.msg hmn;rw[hM]at hM';cases hM';have hl:=hb.length;have hO:=zaB M.d.fields bs;obtain⟨f1,f2⟩:=zhd (S:=S.map MsgV.d) (d:=k) (m:=m) (M:=M.d) (by rw[List.getElem?_map,hM];rfl) bs;rw[f1,f2];have hmax:max (D:Int) (depth:Int)=((max D depth:Nat):Int):=by omega
 obtain⟨D1,hD1⟩:∃D1,D1=max D depth:=⟨_,rfl⟩
 rw[<-hD1]at hmax;have hmx:=fun W=>zjB (P:=prog) #[3,3] 3 .i64 .i64 (D:Int) (depth:Int) W
 rw[hmax]at hmx;have z1:=hC.blk.cell 1;have z1f:=hC.blk.free 1;have zl:=hC.blk.lt;have hO1:Only cb w (w.setCell ⟨cb,1,none⟩ (.int .i64 (D1:Int))):=(Only.refl cb w).set 1 _
 have hB1:BlkT (w.setCell ⟨cb,1,none⟩ (.int .i64 (D1:Int))) cb 217 #[.slice (some ⟨b1,off1,none⟩) n c,.int .i64 (D1:Int)]:=by
  have:=hC.blk.set_ 1 (.int .i64 (D1:Int));simpa using this
 have Hs:=zsz hs;have Hb:=zsz hb;have HM:=zsz hM;have HC:=zsz hC;have HB1:=zsz hB1;have HO:=zsz hO;have Hl:=zsz hl;have Hm0:=zsz m0;have Hm1:=zsz m1;have Hfl:=zsz hfl;have Hv:Hid (ValK k):=hv;have hmi:(m:Int)<n:=by omega
 have HD1:=zsz hD1;have hnn:(n':Int)<=1000000000:=by omega
 have hfri:(fr:Int)+n'<=1000000000:=by omega
 clear hs hb hC hB1 hO hl m0 m1 hfl hv hM f1 f2 hD1 hmax
 go_enter func129,ntmps129
 go_wp2
 go_loopw [14] (fun i wr=>∃p Dp:Nat,p<=n'/\i=.int .i64 (p:Int)/\Only cb w wr/\Hid (BlkT wr cb 217 #[.slice (some ⟨b1,off1,none⟩) n c,.int .i64 (Dp:Int)])/\D<=Dp/\depth<=Dp/\Dp<=64/\
  Hid (fromC (subC (S.map MsgV.d) k) M.d.fields bs 0=fromC (subC (S.map MsgV.d) k) M.d.fields bs p)/\Hid ((fromC (subC (S.map MsgV.d) k) M.d.fields bs p).2=0->max D (depth+fromD (subD (S.map MsgV.d) k) M.d.fields bs 0)=max Dp (depth+fromD (subD (S.map MsgV.d) k) M.d.fields bs p)))
  (fun i _=>n' - (intOf i).toNat)
 case atStart=>exact⟨0,D1,Nat.zero_le _,rfl,hO1,HB1,by have:=HD1.out;omega,by have:=HD1.out;omega,by have:=HD1.out;omega,rfl,fun _=>by have:=HD1.out;omega⟩
 case round=>
  obtain⟨p,Dp,hp,rfl,hOp,hBp,d1,d2,d3,hA,hDd⟩:=hrel;have hE:Ext w0 wr:=hOp.toExt HC.out.ext HC.out.base;have c0:=hBp.out.cell 0;have cl:=hBp.out.lt;have k0:wr.cell? ⟨b1,off1+m*2,none⟩=some (.string M.d.name):=hE.of_cell Hm0.out;have k1:wr.cell? ⟨b1,off1+m*2+1,none⟩=some (.slice M.A M.n M.c):=hE.of_cell Hm1.out;by_cases hm2:(p:Int)<n'
  . rcases hv:lookV M.d.fields bs p with⟨v,C⟩
    have hfw:=Hfl.out.up hE;have hbw:=Hb.out.up hE
    have hM200:M.n<=1000000000000:=by
     have h1:=(zbd hR (i:=m) (m:=M.d) (by rw[List.getElem?_map,HM.out];rfl)).2.2.1;rw[Hfl.out.length]at h1;omega
    have hlk:=fun(W:World)(h1:zav W M.A M.n M.c M.d.fields)(h2:zac W B n' c' bs)=>zoG (s:=M.d.name) h1 hM200 h2 (by omega) (show p<n' by omega) hv
    have Hlk:=zsz hlk;clear hlk;by_cases hC0:C=0
    . subst hC0
      have h2:=HO.out p (by rw[Hl.out];omega) (by rw[hv]);have h3:=zci (zbW hv).1;have h4:=zii hv;rw[hv]at h2;obtain⟨⟨rn,rw_,rf,ra,rt⟩,vf,vr⟩:=v;unfold ViewD.to at h2;simp only at h2 h3 h4;rw[Hl.out]at h2 h3;have hval:=fun(W:World)(hC:Chk w0 W cb (some ⟨b1,off1,none⟩) n c Dp)=>Hv.out (fr:=fr) (depth:=depth) (mo:=mo) (v:=⟨⟨rn,rw_,rf,ra,rt⟩,vf,vr⟩) Hs.out hR HM.out Hb.out hC d3 d2 hdm hmo hfr (by simp only;omega) (by simp only;omega) (by simp only;omega) h4
      unfold viewV at hval Hlk;simp only at hval;rcases hV:zbc (subC (S.map MsgV.d) k) M.d.fields bs ⟨⟨rn,rw_,rf,ra,rt⟩,vf,vr⟩with⟨P0,C0⟩
      rw[hV]at hval;have Hval:=zsz hval;have hbase:=HC.out.base;by_cases hC1:C0=0
      . subst hC1
        have hA2:=zlV (by rw[Hl.out];omega) hv hV;have hA3:=fun h=>zpO (sub:=subC (S.map MsgV.d) k) (sd:=subD (S.map MsgV.d) k) (by rw[Hl.out];omega) hv h
        have HA2:=zsz hA2;have HA3:=zsz hA3;clear hA2 hA3 hval hv h3 h4 hV
        go_wp2_with (first|(go_at_call 140;refine(Hlk.out _ hfw hbw).mono ?_;rintro e w1 ⟨rfl,E1⟩)|(go_at_call 148;refine(Hval.out _ ⟨hBp.out.up (Ext.trans E1 xx),hE.trans (Ext.trans E1 xx),hbase⟩).mono ?_;rintro e w2 ⟨P,D',rfl,p1,p2,p3,p4,p5,p6⟩;have k4:w2.cell? ⟨w1.heap.size,4,none⟩=some (.int .i64 (rt:Int)):=(p2.cell (p:=⟨w1.heap.size,4,none⟩) (by simp) (by have:=E1.size;show w1.heap.size≠cb;omega)).trans (by simp);have P2:=zsz p2;have P3:=zsz p3;have P6:=zsz p6;clear p1 p2 p3 p6))
        go_roundw
        case rel=>
         refine⟨rt,D',by omega,rfl,(hOp.ext (Ext.trans E1 xx)).trans P2.out,P3,by omega,by omega,p5,?_,?_⟩
         . show _=_
           rw[hA.out,HA2.out]
         . intro h
           have h1:=hDd.out (by rw[HA2.out];exact h);have h2:=HA3.out h;have h3:=P6.out trivial;omega
        case measure=>simp[intOf];omega
      . have hA2:=zjH (by rw[Hl.out];omega) hv hV hC1
        have HA2:=zsz hA2;have q:((C0:Int) !=0)=true:=by rw[bne_iff_ne];omega
        have HC1:=zsz hC1;clear hA2 hval hv h3 h4 hV hC1
        go_wp2_with (first|(go_at_call 140;refine(Hlk.out _ hfw hbw).mono ?_;rintro e w1 ⟨rfl,E1⟩)|(go_at_call 148;refine(Hval.out _ ⟨hBp.out.up (Ext.trans E1 xx),hE.trans (Ext.trans E1 xx),hbase⟩).mono ?_;rintro e w2 ⟨P,D',rfl,p1,p2,p3,p4,p5,p6⟩;have P1:=zsz p1;have P2:=zsz p2;have P3:=zsz p3;clear p1 p2 p3 p6))
        go_ret2
        rw[hA.out,HA2.out];exact⟨⟨P,D',rfl,fun h=>P1.out h,(hOp.ext (Ext.trans E1 xx)).trans P2.out,P3.out,by omega,p5,fun h=>absurd h HC1.out⟩,fun h=>absurd h HC1.out⟩
    . have hA2:=zih (sub:=subC (S.map MsgV.d) k) (by rw[Hl.out];omega) hv hC0
      have HA2:=zsz hA2;have q:((C:Int) !=0)=true:=by rw[bne_iff_ne];omega
      have HC0:=zsz hC0;clear hA2 hv hC0
      go_wp2_with (go_at_call 140;refine(Hlk.out _ hfw hbw).mono ?_;rintro e w1 ⟨rfl,E1⟩;unfold viewV)
      go_ret2
      rw[hA.out,HA2.out];exact⟨⟨fr+p,Dp,rfl,fun _=>rfl,hOp.ext (Ext.trans E1 xx),hBp.out.up (Ext.trans E1 xx),d1,d3,fun h=>absurd h HC0.out⟩,fun h=>absurd h HC0.out⟩
  . have hpn:p=n':=by omega
    have hA2:=zha (sub:=subC (S.map MsgV.d) k) (fs:=M.d.fields) (bs:=bs) (p:=p) (by rw[Hl.out];omega);have hA3:=zol (sd:=subD (S.map MsgV.d) k) (fs:=M.d.fields) (bs:=bs) (p:=p) (by rw[Hl.out];omega)
    have hfin:MsgP w cb (some ⟨b1,off1,none⟩) n c D fr depth (fromC (subC (S.map MsgV.d) k) M.d.fields bs 0) (fromD (subD (S.map MsgV.d) k) M.d.fields bs 0) (.returned (.tuple #[.int .i64 0,.int .u8 0])) wr:=by
     have h1:=hDd.out (by rw[hA2]);rw[hA.out,hA2];rw[hA3]at h1;exact⟨0,Dp,rfl,fun h=>absurd rfl h,hOp,hBp.out,d1,d3,fun _=>by omega⟩
    have Hfin:=zsz hfin;clear hfin hA2 hA3 hpn hDd
    go_wp2
    go_ret2
    exact⟨Hfin.out,fun _=>rfl⟩
theorem vAll(k:Nat):MsgK k/\ValK k:=by
 induction k with
 |zero=>
  have hv:ValK 0:=zqF (fun k0 h=>by omega);exact⟨zmv hv,hv⟩
 |succ k ih=>
  have hv:ValK (k+1):=zqF (fun k0 h=>by
   obtain rfl:k=k0:=by omega
   exact ih.1)
  exact⟨zmv hv,hv⟩
theorem znv{sub:Option (Nat->List UInt8->Nat×Nat)}{fs:List zab}{p:Nat}(h:(fromC sub fs bs p).2=0):fromC sub fs bs p=(0,0):=by
 unfold fromC at h⊢;by_cases c:(scan (stepC sub fs bs) ViewD.to bs.length p).2.2=0
 . rw[if_pos c]
 . rw[if_neg c]at h;exact absurd h c
theorem zlr{S:List MsgD}{d m:Nat}{bs:List UInt8}(h:(zai S d m bs).2=0):zai S d m bs=(0,0):=by
 rw[zaQ]at h⊢;unfold zdA at h⊢;rcases hm:S[m]? with _|M
 . rfl
 . simp only[hm]at h⊢
   exact znv h
def ChkP(S:List MsgD)(root:Int)(bs:List UInt8)(d:Int)(w:World)(e:Ending)(w':World):Prop:=
 ∃D:Nat,e=.returned (.tuple #[.int .i64 ((zaM S root bs d).1:Nat),.int .i64 (D:Int),.int .u8 ((zaM S root bs d).2:Nat)])/\((zaM S root bs d).2=0->D=deepV S d.toNat root.toNat bs)/\Ext w w'
variable{n' c':Nat}{B:Option Addr}
theorem zri(hs:zag w A n c S)(hb:zac w B n' c' bs)(hn:n'<=1000000000):
 Calls prog 106 #[.slice A n c,.int .i64 root,.slice B n' c',.int .i64 d] w (ChkP (S.map MsgV.d) root bs d w):=by
 have ha:=fun(W:World)(h:zag W A n c S)=>vArgs (root:=root) (d:=d) h
 have hal:=zjl (S.map MsgV.d) root d;by_cases h0:argsV (S.map MsgV.d) root d=0
 . rw[h0]at ha
   have hck:zaM (S.map MsgV.d) root bs d=zai (S.map MsgV.d) d.toNat root.toNat bs:=by unfold zaM;rw[if_pos h0]
   have hR:zan (S.map MsgV.d)=true:=by
    unfold argsV at h0;by_cases h:zan (S.map MsgV.d)=false
    . rw[if_pos h]at h0;omega
    . simpa using h
   obtain⟨r0,r1,d0,d1⟩:0<=root/\root<n/\0<=d/\d<=64:=by
    unfold argsV at h0;rw[if_neg (by rw[hR];simp),List.length_map,hs.length]at h0;by_cases h:root<0\/(n:Int)<=root\/d<0\/64<d
    . rw[if_pos h]at h0;omega
    . omega
   obtain⟨m,rfl⟩:=Int.eq_ofNat_of_zero_le r0;obtain⟨k,rfl⟩:=Int.eq_ofNat_of_zero_le d0;rw[Int.toNat_natCast,Int.toNat_natCast]at hck;obtain⟨M,hM⟩:∃M,S[m]?=some M:=⟨_,List.getElem?_eq_getElem (by rw[hs.length];omega)⟩
   have hcall:=fun(w1:World)(E1:Ext w w1)=>(vAll k).1 (w0:=w1) (w:=w1.alloc (.cells #[.slice A n c,.int .i64 0] 217)) (cb:=w1.heap.size) (D:=0) (fr:=0) (depth:=0) (mo:=k) (hs.up E1) hR hM (hb.up E1) ⟨BlkT.new w1 _ _ rfl,Ext.alloc (Ext.refl w1) _,Nat.le_refl _⟩ (by omega) (by omega) (by omega) (by omega)
   rw[show((0:Nat):Int)=0 from rfl]at hcall;unfold ChkP;rw[hck,Int.toNat_natCast,Int.toNat_natCast];have hz:= @zlr (S.map MsgV.d) k m bs;generalize zai (S.map MsgV.d) k m bs=V at*;generalize deepV (S.map MsgV.d) k m bs=dp at*;have Hcall:=zsz hcall;have Ha:=zsz ha;have Hz:=zsz hz;have hki:(k:Int)<=64:=d1;clear hcall ha hz h0 hck hR r0 r1 d0 d1 hM hal
   go_enter func106,ntmps106
   go_wp2_with (first|(go_at_call 72;refine(Ha.out _ hs).mono ?_;rintro e w1 ⟨rfl,E1⟩)|(go_at_call 129;refine(Hcall.out _ E1).mono ?_;rintro e w2 ⟨⟨P,D',rfl,p1,p2,p3,p4,p5,p6⟩,p7⟩;have y1:=p3.cell 1;have yl:=p3.lt;have E2:Ext w1 w2:=p2.toExt (Ext.alloc (Ext.refl w1) _) (Nat.le_refl _);have P1:=zsz p1;have P6:=zsz p6;have P7:=zsz p7;clear p1 p2 p3 p6 p7))
   go_quiet (fail)
   go_wp2
   go_ret3
   have hP:P=V.1:=by
    by_cases h:V.2=0
    . have h1:=P7.out h
      have h2:=Hz.out h;injection h1 with h1;injection h1 with h1;have h3:=congrArg (fun l=>l[0]?) h1;simp at h3;rw[h2];exact h3
    . have:=P1.out h;omega
   subst hP;exact⟨D',rfl,fun h=>by rw[P6.out h];omega,(E1.trans E2).drewN _⟩
 . have hck:zaM (S.map MsgV.d) root bs d=(0,argsV (S.map MsgV.d) root d):=by unfold zaM;rw[if_neg h0]
   unfold ChkP;rw[hck];generalize argsV (S.map MsgV.d) root d=C at*;have Ha:=zsz ha;have q:((C:Int) !=0)=true:=by rw[bne_iff_ne];omega
   have H0:=zsz h0;clear ha hck h0
   go_enter func106,ntmps106
   go_wp2_with (go_at_call 72;refine(Ha.out _ hs).mono ?_;rintro e w1 ⟨rfl,E1⟩)
   go_ret3
   exact⟨0,rfl,fun h=>absurd h H0.out,E1⟩
theorem zoP(S:List MsgD)(root:Int)(bs:List UInt8)(d:Int):(zaM S root bs d).2<=12:=by
 have hsub:∀k m bs,(zai S k m bs).2<=12:=by
  have key:∀(sub:Option (Nat->List UInt8->Nat×Nat)),(∀g,sub=some g->∀m bs,(g m bs).2<=12)->∀m bs,(zdA sub S m bs).2<=12:=by
   intro sub hs m bs;unfold zdA;rcases S[m]? with _|M
   . simp
   . simp only
     unfold fromC;split
     . simp
     . refine zmm (zea sub M.fields bs).1 (fun p=> ?_) bs.length 0 (by omega)
       unfold stepC;split
       . simp only
         unfold zbc;split
         . simp
         . split
           . simp
           . split
             . have:=zoN ‹zab›.kind (spanB bs (lookV M.fields bs p).1.r.a (lookV M.fields bs p).1.r.t)
               simp only;omega
             . split
               . simp only
                 split<;>simp
               . split
                 . split
                   . simp
                   . exact hs _ rfl _ _
                 . simp
       . have:=zpV M.fields bs p
         simp only;omega
  intro k
  induction k with
  |zero=>exact key none (fun g h=>by cases h)
  |succ k ih=>exact key (some (zai S k)) (fun g h=>by cases h;exact ih)
 unfold zaM;split
 . exact hsub _ _ _
 . have:=zjl S root d
   simp only;omega
theorem zoQ(hs:zag w A n c S)(hb:zac w B n' c' bs)(hn:n'<=1000000000):
 Calls prog 74 #[.slice A n c,.int .i64 root,.slice B n' c',.int .i64 d] w fun e w'=>e=.returned (.tuple #[.int .i64 ((zaM (S.map MsgV.d) root bs d).1:Nat),.int .u8 ((zaM (S.map MsgV.d) root bs d).2:Nat)])/\Ext w w':=by
 have hc:=zri (root:=root) (d:=d) hs hb hn;unfold ChkP at hc;generalize zaM (S.map MsgV.d) root bs d=V at*;generalize deepV (S.map MsgV.d) d.toNat root.toNat bs=dp at*;have Hc:=zsz hc;clear hc
 go_enter func74,ntmps74
 go_wp2_with (go_at_call 106;refine Hc.out.mono ?_;rintro e w1 ⟨D,rfl,p1,E1⟩;have P1:=zsz p1;clear p1)
 go_ret2
 exact⟨rfl,E1⟩
theorem znw{nm:ByteArray}{f:zab}(hf:f.Ok)(hn:nm.size<=9223372036854775807):
 zag ((w.alloc (.cells #[.string f.name,.int .i64 f.number,.int .i64 f.kind,.bool f.rep,.bool f.packed,.int .i64 f.of_] 43)).alloc (.cells #[.string nm,.slice (some ⟨w.heap.size,0,none⟩) 1 1] 77)) (some ⟨w.heap.size+1,0,none⟩) 1 1 [⟨⟨nm,[f]⟩,some ⟨w.heap.size,0,none⟩,1,1⟩]:=by
 have r1:Reads (w.alloc (.cells #[.string f.name,.int .i64 f.number,.int .i64 f.kind,.bool f.rep,.bool f.packed,.int .i64 f.of_] 43)) (some ⟨w.heap.size,0,none⟩) 1 1 6 (zed f):=
  (Own.made (Ext.refl w) 43 6 (cs:=zed f) (n:=1) (by simp[maxLen]) rfl).reads
 have r2:=(Own.made (Ext.refl (w.alloc (.cells #[.string f.name,.int .i64 f.number,.int .i64 f.kind,.bool f.rep,.bool f.packed,.int .i64 f.of_] 43))) 77 2 (cs:=msgC ⟨⟨nm,[f]⟩,some ⟨w.heap.size,0,none⟩,1,1⟩) (n:=1) (by simp[maxLen]) rfl).reads;rw[World.size_alloc]at r2;refine⟨r2,fun m hm=> ?_⟩;simp only[List.mem_singleton]at hm;subst hm;refine⟨⟨?_,fun g hg=> ?_⟩,hn⟩
 . exact r1.ext (Ext.alloc (Ext.refl _) _)
 . simp only[List.mem_singleton]at hg
   subst hg;exact hf
theorem ziE{α:Type}{s1:Nat->α×Nat}{tt:α->Nat}{len:Nat}(hO:zcN s1 tt len):∀(m p:Nat),len - p<=m->(scan s1 tt len p).2.2≠0->(scan s1 tt len p).2.1<len/\(s1 (scan s1 tt len p).2.1).2=(scan s1 tt len p).2.2
 |0,p,h,hc=>by rw[zaE (by omega)]at hc;exact absurd rfl hc
 |m+1,p,h,hc=>by
  by_cases hp:len<=p
  . rw[zaE hp]at hc;exact absurd rfl hc
  . rcases hs:s1 p with⟨x,C⟩
    by_cases hC:C=0
    . subst hC
      have hx:=hO p (by omega) (by rw[hs]);rw[hs]at hx;simp only at hx;rw[zbE hO (by omega) hs]at hc⊢;unfold pre at hc⊢;by_cases c:(scan s1 tt len (tt x)).2.2=0
      . rw[if_pos c]at hc;exact absurd rfl hc
      . rw[if_neg c]
        exact ziE hO m (tt x) (by omega) c
    . rw[zaR (by omega) hs hC]
      exact⟨by simp only;omega,by rw[hs]⟩
theorem zkh(S:List MsgD):∀(k m:Nat)(bs:List UInt8),(zai S k m bs).1<=bs.length:=by
 have key:∀(sub:Option (Nat->List UInt8->Nat×Nat)),(∀g,sub=some g->∀m bs,(g m bs).1<=bs.length)->∀m bs,(zdA sub S m bs).1<=bs.length:=by
  intro sub hs m bs;unfold zdA;rcases S[m]? with _|M
  . simp
  . simp only
    unfold fromC;by_cases hc:(scan (stepC sub M.fields bs) ViewD.to bs.length 0).2.2=0
    . rw[if_pos hc];simp
    . rw[if_neg hc]
      obtain⟨h1,h2⟩:=ziE (zea sub M.fields bs).1 bs.length 0 (by omega) hc;generalize (scan (stepC sub M.fields bs) ViewD.to bs.length 0).2.1=p at*;simp only;unfold zlU;by_cases hl:(lookV M.fields bs p).2=0
      . rw[if_pos hl]
        have h3:=zci (zbW (v:=(lookV M.fields bs p).1) (by rw[<-hl])).1;generalize (lookV M.fields bs p).1=v at*;unfold zbc;split
        . simp
        . split
          . simp
          . split
            . simp only;omega
            . split
              . simp only;omega
              . split
                . split
                  . simp only;omega
                  . have:=hs _ rfl ‹zab›.of_.toNat (spanB bs v.r.a v.r.t)
                    rw[zax bs h3.2.2.2.2]at this;simp only;omega
                . simp
      . rw[if_neg hl]
        omega
 intro k
 induction k with
 |zero=>exact key none (fun g h=>by cases h)
 |succ k ih=>exact key (some (zai S k)) (fun g h=>by cases h;exact ih)
def zoR(k:Nat):Prop:=∀{w:World}{A:Option Addr}{n c:Nat}{S:List MsgV}{m:Nat}{M:MsgV}{B:Option Addr}{n' c':Nat}{bs:List UInt8},zag w A n c S->zan (S.map MsgV.d)=true->S[m]?=some M->zac w B n' c' bs->n'<=1000000000->k<=64->
 Calls prog 65 #[.slice A n c,.int .i64 (m:Int),.slice B n' c',.int .i64 (k:Int)] w fun e w'=>e=.returned (.tuple #[.int .i64 ((zai (S.map MsgV.d) k m bs).1:Nat),.int .i64 ((zai (S.map MsgV.d) k m bs).2:Nat)])/\Ext w w'
theorem zoS(hK:∀k0,k=k0+1->zoR k0):zoR k:=by
 intro w A n c S m M B n' c' bs hs hR hM hb hn hk;have hmn:m<n:=by rw[<-hs.length];exact(List.getElem?_eq_some_iff.1 hM).1
 obtain⟨b1,off1,M',rfl,hM',hfl,hnm,hb1,m0,m1⟩:=hs.msg hmn;rw[hM]at hM';cases hM';have hl:=hb.length;have hO:=zaB M.d.fields bs;have f1:=(zhd (S:=S.map MsgV.d) (d:=k) (m:=m) (M:=M.d) (by rw[List.getElem?_map,hM];rfl) bs).1;rw[f1];have HK:=zsz hK;have Hs:=zsz hs;have Hb:=zsz hb;have HM:=zsz hM;have HO:=zsz hO;have Hl:=zsz hl;have Hm0:=zsz m0;have Hm1:=zsz m1;have Hfl:=zsz hfl;have hmi:(m:Int)<n:=by omega
 have hni:(n':Int)<=1000000000:=by omega
 clear hs hb hO hl m0 m1 hfl hM f1 hK
 go_enter func65,ntmps65
 go_wp2
 go_loopw [10] (fun i wr=>∃p:Nat,p<=n'/\i=.int .i64 (p:Int)/\Ext w wr/\Hid (fromC (subC (S.map MsgV.d) k) M.d.fields bs 0=fromC (subC (S.map MsgV.d) k) M.d.fields bs p))
  (fun i _=>n' - (intOf i).toNat)
 case atStart=>exact⟨0,Nat.zero_le _,rfl,Ext.refl _,rfl⟩
 case round=>
  obtain⟨p,hp,rfl,hE,hA⟩:=hrel;have k0:wr.cell? ⟨b1,off1+m*2,none⟩=some (.string M.d.name):=hE.of_cell Hm0.out;have k1:wr.cell? ⟨b1,off1+m*2+1,none⟩=some (.slice M.A M.n M.c):=hE.of_cell Hm1.out;by_cases hm2:(p:Int)<n'
  . rcases hv:lookV M.d.fields bs p with⟨v,C⟩
    have hfw:=Hfl.out.up hE;have hbw:=Hb.out.up hE
    have hM200:M.n<=1000000000000:=by
     have h1:=(zbd hR (i:=m) (m:=M.d) (by rw[List.getElem?_map,HM.out];rfl)).2.2.1;rw[Hfl.out.length]at h1;omega
    have hlk:=fun(W:World)(h1:zav W M.A M.n M.c M.d.fields)(h2:zac W B n' c' bs)=>zlk (s:=M.d.name) h1 hM200 h2 (by omega) (show p<n' by omega) hv
    have Hlk:=zsz hlk;clear hlk;by_cases hC0:C=0
    . subst hC0
      have h2:=HO.out p (by rw[Hl.out];omega) (by rw[hv]);have h3:=zci (zbW hv).1;have h4:=zii hv;rw[hv]at h2;obtain⟨⟨rn,rw_,rf,ra,rt⟩,vf,vr⟩:=v;unfold ViewD.to at h2;simp only at h2 h3 h4;rw[Hl.out]at h2 h3;obtain⟨_,hrfp,h3a,h3b,h3c⟩:=h3;subst hrfp;unfold viewV at Hlk;have hok:=fun(P:Nat) hV=>zlV (sub:=subC (S.map MsgV.d) k) (by rw[Hl.out];omega) hv (P:=P) hV
      have hbad:=fun(P C:Nat) hV hC=>zjH (sub:=subC (S.map MsgV.d) k) (by rw[Hl.out];omega) hv (P:=P) (C:=C) hV hC
      simp only at hok;have Hok:=zsz hok;have Hbad:=zsz hbad;obtain⟨A3,k3,hspan⟩:=zcc Hb.out h3b h3c;have Hspan:=zsz hspan;clear hok hbad hspan hv;have cl4:(rt:Int)<=n':=by omega
      rcases h4 with rfl|⟨j,f,rfl,hf⟩
      . have hV:=(zjI (subC (S.map MsgV.d) k) (subD (S.map MsgV.d) k) (fs:=M.d.fields) (bs:=bs) (v:=⟨⟨rn,rw_,rf,ra,rt⟩, -1,vr⟩) rfl).1
        have hA2:=Hok.out _ hV;have HA2:=zsz hA2;clear hA2 hV
        go_wp2_with (go_at_call 66;refine(Hlk.out _ hfw hbw).mono ?_;rintro e w1 ⟨rfl,E1⟩)
        go_roundw
        case rel=>exact⟨rt,by omega,rfl,hE.trans (Ext.trans E1 xx),by show _=_;rw[hA.out,HA2.out]⟩
        case measure=>simp[intOf];omega
      . have hlt:=(List.getElem?_eq_some_iff.1 hf).1
        have hfl:=Hfl.out;rw[hfl.length]at hlt;obtain⟨b2,off2,f',hA2,hf',hok,hb2,d0,d1,d2,d3,d4,d5⟩:=hfl.field hlt;rw[hf]at hf';cases hf';rw[hA2]at k1 hfw Hlk;have HA5:=zsz hA2;have Hf:=zsz hf;have Hd0:=zsz d0;have Hd1:=zsz d1;have Hd2:=zsz d2;have Hd3:=zsz d3;have Hd4:=zsz d4;have Hd5:=zsz d5;have hneg:¬(j:Int)<0:=by omega
        have hjn:(j:Int)<M.n:=by omega
        clear hf hA2 hfl d0 d1 d2 d3 d4 d5 hok
        go_wp2_with (go_at_call 66;refine(Hlk.out _ hfw hbw).mono ?_;rintro e w1 ⟨rfl,E1⟩)
        have X1:Ext w (w1.alloc (.cells #[.int .i64 (rn:Int),.int .i64 (rw_:Int),.int .i64 (rf:Int),.int .i64 (ra:Int),.int .i64 (rt:Int),.int .i64 (j:Int),.bool vr] 94)):=hE.trans (Ext.trans E1 xx);have B0:=Ext.new_blk (Ext.refl (w1.alloc (.cells #[.int .i64 (rn:Int),.int .i64 (rw_:Int),.int .i64 (rf:Int),.int .i64 (ra:Int),.int .i64 (rt:Int),.int .i64 (j:Int),.bool vr] 94)));generalize w1.alloc (.cells #[.int .i64 (rn:Int),.int .i64 (rw_:Int),.int .i64 (rf:Int),.int .i64 (ra:Int),.int .i64 (rt:Int),.int .i64 (j:Int),.bool vr] 94)=wx at*;have y3:=B0.cell 3;have y4:=B0.cell 4;have y5:=B0.cell 5;have y6:=B0.cell 6;have yl:=B0.lt;have m1':=X1.of_cell Hm1.out;rw[HA5.out]at m1';have d0':=X1.of_cell Hd0.out;have d1':=X1.of_cell Hd1.out;have d2':=X1.of_cell Hd2.out;have d3':=X1.of_cell Hd3.out;have d4':=X1.of_cell Hd4.out;have d5':=X1.of_cell Hd5.out;have hsz0:=X1.size;have hb1x:=Nat.lt_of_lt_of_le hb1 hsz0;have hb2x:=Nat.lt_of_lt_of_le hb2 hsz0;clear k0 k1 hfw hbw Hlk Hd0 Hd1 Hd2 Hd3 Hd4 Hd5 B0
        go_region_held3 (fun W=>Ext wx W/\∀b o,b<wx.heap.size->W.cell? ⟨b,o,none⟩=wx.cell? ⟨b,o,none⟩) ((refine Ext.keep ?_;repeat with_reducible (first|assumption|exact Ext.refl _|refine Ext.alloc ?_ _|refine Ext.drew ?_|refine Ext.drewN ?_ _|refine Ext.setCell ?_ (by first|omega|(simp<;>omega)) _))) (fail)
        have E1':Ext wx (wx.alloc (.cells #[.string f.name,.int .i64 f.number,.int .i64 f.kind,.bool f.rep,.bool f.packed,.int .i64 f.of_] 43)).drew:=xx;have Bf:=Ext.new_blk_drew (Ext.refl (wx.alloc (.cells #[.string f.name,.int .i64 f.number,.int .i64 f.kind,.bool f.rep,.bool f.packed,.int .i64 f.of_] 43)).drew);generalize (wx.alloc (.cells #[.string f.name,.int .i64 f.number,.int .i64 f.kind,.bool f.rep,.bool f.packed,.int .i64 f.of_] 43)).drew=wy at*
        rename Ext wx wy/\_=>hS
        clear hS;have v3:wy.cell? ⟨w1.heap.size,3,none⟩=some (.int .i64 (ra:Int)):=E1'.of_cell y3;have v4:wy.cell? ⟨w1.heap.size,4,none⟩=some (.int .i64 (rt:Int)):=E1'.of_cell y4;have v6:wy.cell? ⟨w1.heap.size,6,none⟩=some (.bool vr):=E1'.of_cell y6;have g2:wy.cell? ⟨wx.heap.size,2,none⟩=some (.int .i64 f.kind):=Bf.cell 2;have g5:wy.cell? ⟨wx.heap.size,5,none⟩=some (.int .i64 f.of_):=Bf.cell 5;have gl:=Bf.lt;have X2:Ext w wy:=X1.trans E1';have hspany:=Hspan.out.up X2;have hrt:rt - ra<=1000000000:=by omega
        clear y3 y4 y5 y6 m1' d0' d1' d2' d3' d4' d5' Bf E1' k3 hb1x hb2x hsz0 hb1 hb2 hnm hneg;by_cases hrun:vr=true
        . subst hrun
          obtain⟨e1,_⟩:=zdB (subC (S.map MsgV.d) k) (subD (S.map MsgV.d) k) (fs:=M.d.fields) (bs:=bs) (v:=⟨⟨rn,rw_,rf,ra,rt⟩,(j:Int),true⟩) rfl Hf.out rfl;simp only at e1;have hcnt:=fun W (h:zac W A3 (rt - ra) (c' - ra) (spanB bs ra rt))=>zlL (k:=f.kind) h hrt
          have hc2:(endsV f.kind (spanB bs ra rt)).2=codeV f.kind (spanB bs ra rt):=rfl;rw[hc2]at hcnt;generalize codeV f.kind (spanB bs ra rt)=C at*;generalize (endsV f.kind (spanB bs ra rt)).1=Es at*;have Hcnt:=zsz hcnt;clear hcnt hc2;by_cases hC0:C=0
          . subst hC0
            have hA2:=Hok.out _ e1;have HA2:=zsz hA2;clear hA2 e1
            go_wp2_with (go_at_call 52;refine(Hcnt.out _ hspany).mono ?_;rintro e w2 ⟨A4,c4,rfl,own2⟩;have v4:=own2.ext.of_cell v4)
            go_roundw
            case rel=>exact⟨rt,by omega,rfl,X2.trans own2.ext,by show _=_;rw[hA.out,HA2.out]⟩
            case measure=>simp[intOf];omega
          . have hA2:=Hbad.out _ _ e1 hC0
            have HA2:=zsz hA2;have q:((C:Int) !=0)=true:=by rw[bne_iff_ne];omega
            clear hA2 e1 hC0
            go_wp2_with (go_at_call 52;refine(Hcnt.out _ hspany).mono ?_;rintro e w2 ⟨A4,c4,rfl,own2⟩;have v4:=own2.ext.of_cell v4)
            go_ret2
            rw[hA.out,HA2.out];exact⟨rfl,X2.trans own2.ext⟩
        . obtain rfl:vr=false:=by simpa using hrun
          clear hrun;by_cases h15:f.kind=15
          . obtain⟨e1,_⟩:=zcZ (subC (S.map MsgV.d) k) (subD (S.map MsgV.d) k) (fs:=M.d.fields) (bs:=bs) (v:=⟨⟨rn,rw_,rf,ra,rt⟩,(j:Int),false⟩) rfl Hf.out rfl h15
            simp only at e1;have q15:(f.kind==15)=true:=by rw[beq_iff_eq];exact h15
            have q17:(f.kind==17)=false:=by rw[beq_eq_false_iff_ne];omega
            have hr:=fun W (h:zac W A3 (rt - ra) (c' - ra) (spanB bs ra rt))=>zoO h hrt
            clear h15;rcases hrt2:zca (spanB bs ra rt)with _|_
            . rw[hrt2]at hr e1
              have hA2:=Hbad.out _ _ e1 (by simp);have Hr:=zsz hr;have HA2:=zsz hA2;clear hr hrt2 e1 hA2
              go_wp2_with (go_at_call 100;refine(Hr.out _ hspany).mono ?_;rintro e w2 ⟨rfl,E2⟩;have v4:=E2.of_cell v4)
              go_ret2
              rw[hA.out,HA2.out];exact⟨rfl,X2.trans E2⟩
            . rw[hrt2]at hr e1
              have hA2:=Hok.out _ e1;have Hr:=zsz hr;have HA2:=zsz hA2;clear hr hrt2 e1 hA2
              go_wp2_with (go_at_call 100;refine(Hr.out _ hspany).mono ?_;rintro e w2 ⟨rfl,E2⟩;have v4:=E2.of_cell v4;have g2:=E2.of_cell g2)
              go_roundw
              case rel=>exact⟨rt,by omega,rfl,X2.trans E2,by show _=_;rw[hA.out,HA2.out]⟩
              case measure=>simp[intOf];omega
          . have q15:(f.kind==15)=false:=by rw[beq_eq_false_iff_ne];exact h15
            by_cases h17:f.kind=17
            . have q17:(f.kind==17)=true:=by rw[beq_iff_eq];exact h17
              obtain⟨e1,e2⟩:=zbq (S:=S.map MsgV.d) (d:=k) (fs:=M.d.fields) (bs:=bs) (v:=⟨⟨rn,rw_,rf,ra,rt⟩,(j:Int),false⟩) rfl Hf.out rfl h17;obtain⟨o,ho,hol⟩:=zbV hR (i:=m) (by rw[List.getElem?_map,HM.out];rfl) Hf.out h17;have Hol:=zsz hol;clear h15 hol h17;by_cases hk0:k=0
              . have hA2:=Hbad.out _ _ (e1 hk0) (by simp)
                have HA2:=zsz hA2;have q0:((k:Int)==0)=true:=by rw[beq_iff_eq];omega
                clear e1 e2 ho hA2 hk0
                go_wp2
                go_ret2
                rw[hA.out,HA2.out];exact⟨rfl,X2⟩
              . obtain⟨e,he⟩:∃e,k=e+1:=⟨k - 1,by omega⟩
                have e3:=(e2 e he).1;simp only[ho,Int.toNat_natCast]at e3;obtain⟨M2,hM2⟩:∃M2,S[o]?=some M2:=⟨_,List.getElem?_eq_getElem (by have:=Hol.out;simpa using this)⟩
                have hcall:=fun(W:World)(E:Ext w W)=>HK.out e he (Hs.out.up E) hR hM2 (Hspan.out.up E) hrt (by omega)
                have hpl:=zkh (S.map MsgV.d) e o (spanB bs ra rt);rw[zax bs (by rw[Hl.out];exact h3c)]at hpl;generalize zai (S.map MsgV.d) e o (spanB bs ra rt)=V at*;have Hcall:=zsz hcall;have q0:((k:Int)==0)=false:=by rw[beq_eq_false_iff_ne];omega
                have q1:(k:Int) - 1=e:=by omega
                have hk9:(k:Int)<=64:=by omega
                rw[ho]at g5;clear e1 e2 hcall hM2 ho hk0 he;obtain⟨P0,C0⟩:=V;simp only at e3 hpl;have hpl2:(ra:Int)+P0<=1000000000:=by omega
                by_cases hC0:C0=0
                . subst hC0
                  have hA2:=Hok.out _ e3;have HA2:=zsz hA2;clear e3 hA2
                  go_wp2_with (go_at_call 65;refine(Hcall.out _ X2).mono ?_;rintro e w2 ⟨rfl,E2⟩;have v4:=E2.of_cell v4)
                  go_roundw
                  case rel=>exact⟨rt,by omega,rfl,X2.trans E2,by show _=_;rw[hA.out,HA2.out]⟩
                  case measure=>simp[intOf];omega
                . have hA2:=Hbad.out _ _ e3 hC0
                  have HA2:=zsz hA2;have q:((C0:Int) !=0)=true:=by rw[bne_iff_ne];omega
                  clear e3 hA2 hC0
                  go_wp2_with (go_at_call 65;refine(Hcall.out _ X2).mono ?_;rintro e w2 ⟨rfl,E2⟩;have v3:=E2.of_cell v3)
                  go_ret2
                  rw[hA.out,HA2.out];exact⟨rfl,X2.trans E2⟩
            . have q17:(f.kind==17)=false:=by rw[beq_eq_false_iff_ne];exact h17
              obtain⟨e1,_⟩:=zcE (subC (S.map MsgV.d) k) (subD (S.map MsgV.d) k) (fs:=M.d.fields) (bs:=bs) (v:=⟨⟨rn,rw_,rf,ra,rt⟩,(j:Int),false⟩) rfl Hf.out rfl h15 h17;have hA2:=Hok.out _ e1;have HA2:=zsz hA2;clear e1 h15 h17 hA2
              go_wp2
              go_roundw
              case rel=>exact⟨rt,by omega,rfl,X2,by show _=_;rw[hA.out,HA2.out]⟩
              case measure=>simp[intOf];omega
    . have hA2:=zih (sub:=subC (S.map MsgV.d) k) (by rw[Hl.out];omega) hv hC0
      have HA2:=zsz hA2;have q:((C:Int) !=0)=true:=by rw[bne_iff_ne];omega
      clear hA2 hv hC0
      go_wp2_with (go_at_call 66;refine(Hlk.out _ hfw hbw).mono ?_;rintro e w1 ⟨rfl,E1⟩;unfold viewV)
      go_ret2
      rw[hA.out,HA2.out];exact⟨rfl,hE.trans (Ext.trans E1 xx)⟩
  . have hA2:=zha (sub:=subC (S.map MsgV.d) k) (fs:=M.d.fields) (bs:=bs) (p:=p) (by rw[Hl.out];omega)
    have HA2:=zsz hA2;clear hA2
    go_wp2
    go_ret2
    rw[hA.out,HA2.out];exact⟨rfl,hE⟩
theorem zoT(k:Nat):zoR k:=by
 induction k with
 |zero=>exact zoS (fun k0 h=>by omega)
 |succ k ih=>exact zoS (fun k0 h=>by
  obtain rfl:k=k0:=by omega
  exact ih)
theorem zoU(hs:zag w A n c S)(hb:zac w B n' c' bs)(hn:n'<=1000000000):
 Calls prog 36 #[.slice A n c,.int .i64 root,.slice B n' c',.int .i64 d] w fun e w'=>e=.returned (.tuple #[.int .i64 ((zaM (S.map MsgV.d) root bs d).1:Nat),.int .i64 ((zaM (S.map MsgV.d) root bs d).2:Nat)])/\Ext w w':=by
 have ha:=fun(W:World)(h:zag W A n c S)=>zqE (root:=root) (d:=d) h
 have hal:=zjl (S.map MsgV.d) root d;by_cases h0:argsV (S.map MsgV.d) root d=0
 . rw[h0]at ha
   have hck:zaM (S.map MsgV.d) root bs d=zai (S.map MsgV.d) d.toNat root.toNat bs:=by unfold zaM;rw[if_pos h0]
   have hR:zan (S.map MsgV.d)=true:=by
    unfold argsV at h0;by_cases h:zan (S.map MsgV.d)=false
    . rw[if_pos h]at h0;omega
    . simpa using h
   obtain⟨r0,r1,d0,d1⟩:0<=root/\root<n/\0<=d/\d<=64:=by
    unfold argsV at h0;rw[if_neg (by rw[hR];simp),List.length_map,hs.length]at h0;by_cases h:root<0\/(n:Int)<=root\/d<0\/64<d
    . rw[if_pos h]at h0;omega
    . omega
   obtain⟨m,rfl⟩:=Int.eq_ofNat_of_zero_le r0;obtain⟨k,rfl⟩:=Int.eq_ofNat_of_zero_le d0;rw[Int.toNat_natCast,Int.toNat_natCast]at hck;obtain⟨M,hM⟩:∃M,S[m]?=some M:=⟨_,List.getElem?_eq_getElem (by rw[hs.length];omega)⟩
   have hcall:=fun(w1:World)(E1:Ext w w1)=>zoT k (hs.up E1) hR hM (hb.up E1) hn (by omega)
   rw[hck];generalize zai (S.map MsgV.d) k m bs=V at*;have Hcall:=zsz hcall;have Ha:=zsz ha;clear hcall ha h0 hck hR r0 r1 d0 d1 hM hal
   go_enter func36,ntmps36
   go_wp2_with (first|(go_at_call 34;refine(Ha.out _ hs).mono ?_;rintro e w1 ⟨rfl,E1⟩)|(go_at_call 65;refine(Hcall.out _ E1).mono ?_;rintro e w2 ⟨rfl,E2⟩))
   go_ret2
   exact⟨rfl,E1.trans E2⟩
 . have hck:zaM (S.map MsgV.d) root bs d=(0,argsV (S.map MsgV.d) root d):=by unfold zaM;rw[if_neg h0]
   rw[hck];generalize argsV (S.map MsgV.d) root d=C at*;have Ha:=zsz ha;have q:((C:Int) !=0)=true:=by rw[bne_iff_ne];omega
   clear ha hck h0
   go_enter func36,ntmps36
   go_wp2_with (go_at_call 34;refine(Ha.out _ hs).mono ?_;rintro e w1 ⟨rfl,E1⟩)
   go_ret2
   exact⟨rfl,E1⟩
end Go.Proofs.YtpicpebolghcfaaGreatDoor
