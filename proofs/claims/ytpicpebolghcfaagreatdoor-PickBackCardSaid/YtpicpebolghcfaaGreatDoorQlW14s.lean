/- Layer 15: region 6 of the reference's At. (Printed by gen_at.py.) -/
import Derived.Test.YtpicpebolghcfaaGreatDoorQlS56

set_option linter.unusedVariables false
set_option linter.unusedSimpArgs false
set_option maxRecDepth 100000
set_option maxHeartbeats 4000000
namespace Go.Proofs.YtpicpebolghcfaaGreatDoor
open Go.RowKit Go.Shelf Go.Proofs.Tryz
def ziF(w:World)(b:Nat)(v:ValR):World:=
 (((w.setCell ⟨b,0,none⟩ (.int .i64 v.number)).setCell ⟨b,1,none⟩ (.slice v.a.1 v.words.length v.a.2)).setCell ⟨b,2,none⟩ (.slice v.b.1 v.texts.length v.b.2)).setCell ⟨b,3,none⟩ (.slice v.c.1 v.subs.length v.c.2)
variable{v:ValR}{b:Nat}{w:World}
theorem zgc{w0:World}(h:Ext w0 w)(hb:w0.heap.size<=b):Ext w0 (ziF w b v):=by
 unfold ziF;exact(((h.setCell (p:=⟨b,0,none⟩) hb _).setCell (p:=⟨b,1,none⟩) hb _).setCell (p:=⟨b,2,none⟩) hb _).setCell (p:=⟨b,3,none⟩) hb _
variable{t:TypeId}
theorem zgd{u:ValR}(h:BlkT w b t #[.int .i64 u.number,.slice u.a.1 u.words.length u.a.2,.slice u.b.1 u.texts.length u.b.2,.slice u.c.1 u.subs.length u.c.2]):
 BlkT (ziF w b v) b t #[.int .i64 v.number,.slice v.a.1 v.words.length v.a.2,.slice v.b.1 v.texts.length v.b.2,.slice v.c.1 v.subs.length v.c.2]:=by
 unfold ziF;have:=(((h.set_ 0 (.int .i64 v.number)).set_ 1 (.slice v.a.1 v.words.length v.a.2)).set_ 2 (.slice v.b.1 v.texts.length v.b.2)).set_ 3 (.slice v.c.1 v.subs.length v.c.2);simpa using this
noncomputable def regAt(n:Nat):Code:=((Tryz.f13.body.bind (zbu n)).getD .skip)
structure zqH where
 (b0 b1 b2 b3 b4 b5 b6 b7 b8 b9 b10 b11 b12 b13 b14:Bool)
 (s5 s23 s24 s25 s26 s27 s28 s29 s30 s31 s32 s33 s34 s35:Value)
 (v:ValR)
 (ok:Bool)
structure zsa(w:World)(xb vb vo vn vc sb so sn sc yn yc un uc wb wo k kc kb i:Nat)(cutA YA YB:Option Addr)(PA:ValR->Bool->Prop)(σ:zqH)(W:World):Prop where
 X:σ.b13=false->Ext w W
 Q0:σ.b0=true->σ.s23=.pointer (some ⟨xb,0,none⟩)
 Q1:σ.b1=true->σ.s24=.slice (some ⟨vb,vo,none⟩) vn vc
 Q2:σ.b2=true->σ.s25=.int .i64 (i:Int)
 Q3:σ.b3=true->σ.s26=.pointer (some ⟨vb,vo+i*4,none⟩)
 Q4:σ.b4=true->σ.s27=.pointer (some ⟨vb,vo+i*4+3,none⟩)
 Q5:σ.b5=true->σ.s28=.slice (some ⟨sb,so,none⟩) sn sc
 Q6:σ.b6=true->σ.s29=.pointer (some ⟨sb,so,none⟩)
 Q7:σ.b7=true->σ.s30=.agg #[.slice YA yn yc,.slice YB un uc]
 Q8:σ.b8=true->σ.s31=.slice (some ⟨wb,wo,none⟩) k kc
 Q9:σ.b9=true->σ.s32=.slice cutA (k - 1) (kc - 1)
 Q10:σ.b10=true->σ.s33=.tuple #[.agg #[.int .i64 σ.v.number,.slice σ.v.a.1 σ.v.words.length σ.v.a.2,.slice σ.v.b.1 σ.v.texts.length σ.v.b.2,.slice σ.v.c.1 σ.v.subs.length σ.v.c.2],.bool σ.ok]
 Q11:σ.b11=true->σ.s34=.agg #[.int .i64 σ.v.number,.slice σ.v.a.1 σ.v.words.length σ.v.a.2,.slice σ.v.b.1 σ.v.texts.length σ.v.b.2,.slice σ.v.c.1 σ.v.subs.length σ.v.c.2]
 Q12:σ.b12=true->σ.s35=.bool σ.ok
 Q14:σ.b14=true->σ.s5=.bool σ.ok
 F10:σ.b10=true->PA σ.v σ.ok
 F13:σ.b13=true->∃W6,W=ziF W6 kb σ.v/\Ext w W6
 D1:σ.b1=true->σ.b0=true
 D3:σ.b3=true->σ.b1=true/\σ.b2=true
 D4:σ.b4=true->σ.b3=true
 D5:σ.b5=true->σ.b4=true
 D6:σ.b6=true->σ.b5=true
 D7:σ.b7=true->σ.b6=true
 D9:σ.b9=true->σ.b8=true
 D10:σ.b10=true->σ.b7=true/\σ.b9=true
 D11:σ.b11=true->σ.b10=true
 D12:σ.b12=true->σ.b10=true
 D13:σ.b13=true->σ.b11=true/\σ.b12=true
 D14:σ.b14=true->σ.b13=true
variable{k kc:Nat}
theorem areg6{Q0:Exit->Act->World->Prop}{u0 u3 u5 u7 u8 u9 u10 u11 u12 u13 u14 u15 u16 u17 u18 u19 u20 u21 u22 u23 u24 u25 u26 u27 u28 u29 u30 u31 u32 u33 u34 u35:Value}{xb vb vo vn vc sb so sn sc yn yc un uc wb wo kb i:Nat}{cutA YA YB:Option Addr}{PA:ValR->Bool->Prop}(hin:(i:Int)<vn)(hsn:0<sn)(hsn2:(0:Int)<sn)(zx:w.cell? ⟨xb,0,none⟩=some (.slice (some ⟨vb,vo,none⟩) vn vc))(zv:w.cell? ⟨vb,vo+i*4+3,none⟩=some (.slice (some ⟨sb,so,none⟩) sn sc))(zs0:w.cell? ⟨sb,so,none⟩=some (.slice YA yn yc))(zs1:w.cell? ⟨sb,so+1,none⟩=some (.slice YB un uc))(BR:BlkT w kb 48 #[.int .i64 0,.slice none 0 0,.slice none 0 0,.slice none 0 0])(hrec:∀W:World,Ext w W->Calls prog 13 #[.agg #[.slice YA yn yc,.slice YB un uc],.slice cutA (k - 1) (kc - 1)] W fun e W'=>∃(v:ValR)(ok:Bool),e=.returned (.tuple #[tvalV v,.bool ok])/\Ext W W'/\PA v ok)(hcut:∀W:World,(Instr.slice 34 (.slice (some ⟨wb,wo,none⟩) k kc) (some (.int .i64 1)) none none).run prog W=.ok (.slice cutA (k - 1) (kc - 1)) W)(hK:∀(s5 s23 s24 s25 s26 s27 s28 s29 s30 s31 s32 s33 s34 s35:Value)(v:ValR)(ok:Bool)(W6 wz:World),s5=.bool ok->PA v ok->wz=ziF W6 kb v->Ext w W6->Q0 .normal ⟨#[u0,.slice (some ⟨wb,wo,none⟩) k kc,.pointer (some ⟨xb,0,none⟩),u3,.pointer (some ⟨kb,0,none⟩),s5,.int .i64 (i:Int),u7,u8,u9,u10,u11,u12,u13,u14,u15,u16,u17,u18,u19,u20,u21,u22,s23,s24,s25,s26,s27,s28,s29,s30,s31,s32,s33,s34,s35],[]⟩ wz):
 Code.wp prog (regAt 6) (zeS Q0) ⟨#[u0,.slice (some ⟨wb,wo,none⟩) k kc,.pointer (some ⟨xb,0,none⟩),u3,.pointer (some ⟨kb,0,none⟩),u5,.int .i64 (i:Int),u7,u8,u9,u10,u11,u12,u13,u14,u15,u16,u17,u18,u19,u20,u21,u22,u23,u24,u25,u26,u27,u28,u29,u30,u31,u32,u33,u34,u35],[]⟩ w:=by
 have HK:=zsz hK;clear hK
 conv=>arg 2;whnf
 obtain⟨I,hI⟩:∃I:Array Bool->Act->World->Prop,∀l a W,I l a W<->(∃σ:zqH,l=#[σ.b0,σ.b1,σ.b2,σ.b3,σ.b4,σ.b5,σ.b6,σ.b7,σ.b8,σ.b9,σ.b10,σ.b11,σ.b12,σ.b13,σ.b14]/\a=⟨#[u0,.slice (some ⟨wb,wo,none⟩) k kc,.pointer (some ⟨xb,0,none⟩),u3,.pointer (some ⟨kb,0,none⟩),σ.s5,.int .i64 (i:Int),u7,u8,u9,u10,u11,u12,u13,u14,u15,u16,u17,u18,u19,u20,u21,u22,σ.s23,σ.s24,σ.s25,σ.s26,σ.s27,σ.s28,σ.s29,σ.s30,σ.s31,σ.s32,σ.s33,σ.s34,σ.s35],[]⟩/\zsa w xb vb vo vn vc sb so sn sc yn yc un uc wb wo k kc kb i cutA YA YB PA σ W):=⟨_,fun _ _ _=>Iff.rfl⟩
 have HI:=zsz hI;clear hI;refine zbe (I:=I) (by kernel_rfl) (fun i l a W hi hr=> ?_) (fun l a W hi hr=> ?_) ?_
 . obtain⟨σ,rfl,rfl,G⟩:=(HI.out _ _ _).1 hi
   clear hi;obtain⟨hlt,hl,hd⟩:=zbo hr;clear hr;have hlt:i<15:=hlt;rcases(show i=0\/i=1\/i=2\/i=3\/i=4\/i=5\/i=6\/i=7\/i=8\/i=9\/i=10\/i=11\/i=12\/i=13\/i=14 by omega)with rfl|rfl|rfl|rfl|rfl|rfl|rfl|rfl|rfl|rfl|rfl|rfl|rfl|rfl|rfl
   all_goals
    have hd:=hd _ rfl;clear hlt;simp[Region.binds]at hl hd;have e:=zsz hl;clear hl
   . refine zad rfl rfl fun K HK2=> ?_
     go_simp
     refine HK2.out _ _ ((HI.out _ _ _).2 ⟨{σ with b0:=true,s23:=_},rfl,rfl,{G with D1:=fun h=>ff e (G.D1 h),Q0:=fun _=>rfl}⟩)
   . have t0:σ.b0=true:=by simp[hd]
     have er0:=G.Q0 t0
     have e13:σ.b13=false:=by
      rcases hs:σ.b13 with _|_
      . rfl
      . exact ff e (G.D3 (G.D4 (G.D5 (G.D6 (G.D7 (G.D10 (G.D11 (G.D13 hs).1)).1))))).1
     have X:=G.X e13;have g0:W.cell? ⟨xb,0,none⟩=some (.slice (some ⟨vb,vo,none⟩) vn vc):=X.of_cell zx;have gl0:=World.block_lt_of_cell? W _ g0;have HX:=zsz X;clear X;have H13:=zsz e13;clear e13;clear hd;refine zad rfl rfl fun K HK2=> ?_
     go_simp
     refine HK2.out _ _ ((HI.out _ _ _).2 ⟨{σ with b1:=true,s24:=_,s23:=_},rfl,rfl,{G with D1:=fun _=>t0,D3:=fun h=>ff e (G.D3 h).1,Q0:=fun _=>rfl,Q1:=fun _=>rfl}⟩)
   . refine zad rfl rfl fun K HK2=> ?_
     go_simp
     refine HK2.out _ _ ((HI.out _ _ _).2 ⟨{σ with b2:=true,s25:=_},rfl,rfl,{G with D3:=fun h=>ff e (G.D3 h).2,Q2:=fun _=>rfl}⟩)
   . have t1:σ.b1=true:=by simp[hd]
     have t2:σ.b2=true:=by simp[hd]
     have er1:=G.Q1 t1;have er2:=G.Q2 t2;clear hd;refine zad rfl rfl fun K HK2=> ?_
     go_simp
     refine HK2.out _ _ ((HI.out _ _ _).2 ⟨{σ with b3:=true,s26:=_,s24:=_,s25:=_},rfl,rfl,{G with D3:=fun _=>⟨t1,t2⟩,D4:=fun h=>ff e (G.D4 h),Q1:=fun _=>rfl,Q2:=fun _=>rfl,Q3:=fun _=>rfl}⟩)
   . have t3:σ.b3=true:=by simp[hd]
     have er3:=G.Q3 t3;clear hd;refine zad rfl rfl fun K HK2=> ?_
     go_simp
     refine HK2.out _ _ ((HI.out _ _ _).2 ⟨{σ with b4:=true,s27:=_,s26:=_},rfl,rfl,{G with D4:=fun _=>t3,D5:=fun h=>ff e (G.D5 h),Q3:=fun _=>rfl,Q4:=fun _=>rfl}⟩)
   . have t4:σ.b4=true:=by simp[hd]
     have er4:=G.Q4 t4
     have e13:σ.b13=false:=by
      rcases hs:σ.b13 with _|_
      . rfl
      . exact ff e (G.D6 (G.D7 (G.D10 (G.D11 (G.D13 hs).1)).1))
     have X:=G.X e13;have g0:W.cell? ⟨vb,vo+i*4+3,none⟩=some (.slice (some ⟨sb,so,none⟩) sn sc):=X.of_cell zv;have gl0:=World.block_lt_of_cell? W _ g0;have HX:=zsz X;clear X;have H13:=zsz e13;clear e13;clear hd;refine zad rfl rfl fun K HK2=> ?_
     go_simp
     refine HK2.out _ _ ((HI.out _ _ _).2 ⟨{σ with b5:=true,s28:=_,s27:=_},rfl,rfl,{G with D5:=fun _=>t4,D6:=fun h=>ff e (G.D6 h),Q4:=fun _=>rfl,Q5:=fun _=>rfl}⟩)
   . have t5:σ.b5=true:=by simp[hd]
     have er5:=G.Q5 t5;clear hd;refine zad rfl rfl fun K HK2=> ?_
     go_simp
     refine HK2.out _ _ ((HI.out _ _ _).2 ⟨{σ with b6:=true,s29:=_,s28:=_},rfl,rfl,{G with D6:=fun _=>t5,D7:=fun h=>ff e (G.D7 h),Q5:=fun _=>rfl,Q6:=fun _=>rfl}⟩)
   . have t6:σ.b6=true:=by simp[hd]
     have er6:=G.Q6 t6
     have e13:σ.b13=false:=by
      rcases hs:σ.b13 with _|_
      . rfl
      . exact ff e (G.D10 (G.D11 (G.D13 hs).1)).1
     have X:=G.X e13;have g0:W.cell? ⟨sb,so,none⟩=some (.slice YA yn yc):=X.of_cell zs0;have gl0:=World.block_lt_of_cell? W _ g0;have g1:W.cell? ⟨sb,so+1,none⟩=some (.slice YB un uc):=X.of_cell zs1;have gl1:=World.block_lt_of_cell? W _ g1;have HX:=zsz X;clear X;have H13:=zsz e13;clear e13;clear hd;refine zad rfl rfl fun K HK2=> ?_
     go_simp
     refine HK2.out _ _ ((HI.out _ _ _).2 ⟨{σ with b7:=true,s30:=_,s29:=_},rfl,rfl,{G with D7:=fun _=>t6,D10:=fun h=>ff e (G.D10 h).1,Q6:=fun _=>rfl,Q7:=fun _=>rfl}⟩)
   . refine zad rfl rfl fun K HK2=> ?_
     go_simp
     refine HK2.out _ _ ((HI.out _ _ _).2 ⟨{σ with b8:=true,s31:=_},rfl,rfl,{G with D9:=fun h=>ff e (G.D9 h),Q8:=fun _=>rfl}⟩)
   . have t8:σ.b8=true:=by simp[hd]
     have er8:=G.Q8 t8;clear hd;refine zad rfl rfl fun K HK2=> ?_
     go_simp
     refine HK2.out _ _ ((HI.out _ _ _).2 ⟨{σ with b9:=true,s32:=_,s31:=_},rfl,rfl,{G with D9:=fun _=>t8,D10:=fun h=>ff e (G.D10 h).2,Q8:=fun _=>rfl,Q9:=fun _=>rfl}⟩)
   . have t7:σ.b7=true:=by simp[hd]
     have t9:σ.b9=true:=by simp[hd]
     have er7:=G.Q7 t7;have er9:=G.Q9 t9
     have e13:σ.b13=false:=by
      rcases hs:σ.b13 with _|_
      . rfl
      . exact ff e (G.D11 (G.D13 hs).1)
     have HX:=zsz (G.X e13);clear e13;clear hd;refine zad rfl rfl fun K HK2=> ?_
     go_simp
     go_at_call 13
     refine(hrec W HX.out).mono ?_;rintro e1 W2 ⟨v2,ok2,rfl,E2,hpa⟩;unfold tvalV
     (try dsimp only)
     (try simp only[Act.put,List.setIfInBounds_toArray,List.set_cons_zero,List.set_cons_succ])
     refine HK2.out _ _ ((HI.out _ _ _).2 ⟨{σ with b10:=true,s33:=_,s30:=_,s32:=_,v:=v2,ok:=ok2},rfl,rfl,{G with D10:=fun _=>⟨t7,t9⟩,D11:=fun h=>ff e (G.D11 h),D12:=fun h=>ff e (G.D12 h),Q7:=fun _=>rfl,Q9:=fun _=>rfl,Q10:=fun _=>rfl,X:=fun _=>HX.out.trans E2,F10:=fun _=>hpa,F13:=fun h=>ff e (G.D11 (G.D13 h).1),Q11:=fun h=>ff e (G.D11 h),Q12:=fun h=>ff e (G.D12 h),Q14:=fun h=>ff e (G.D11 (G.D13 (G.D14 h)).1)}⟩)
   . have t10:σ.b10=true:=by simp[hd]
     have er10:=G.Q10 t10;clear hd;refine zad rfl rfl fun K HK2=> ?_
     go_simp
     refine HK2.out _ _ ((HI.out _ _ _).2 ⟨{σ with b11:=true,s34:=_,s33:=_},rfl,rfl,{G with D11:=fun _=>t10,D13:=fun h=>ff e (G.D13 h).1,Q10:=fun _=>rfl,Q11:=fun _=>rfl}⟩)
   . have t10:σ.b10=true:=by simp[hd]
     have er10:=G.Q10 t10;clear hd;refine zad rfl rfl fun K HK2=> ?_
     go_simp
     refine HK2.out _ _ ((HI.out _ _ _).2 ⟨{σ with b12:=true,s35:=_,s33:=_},rfl,rfl,{G with D12:=fun _=>t10,D13:=fun h=>ff e (G.D13 h).2,Q10:=fun _=>rfl,Q12:=fun _=>rfl}⟩)
   . have t11:σ.b11=true:=by simp[hd]
     have t12:σ.b12=true:=by simp[hd]
     have HX:=zsz (G.X e);have B:=BR.up (G.X e);have lb:=B.lt;have er11:=G.Q11 t11;have h0:W.cell? ⟨kb,0,none⟩=some (.int .i64 0):=B.cell 0;have f0:=B.free 0;have h1:W.cell? ⟨kb,1,none⟩=some (.slice none 0 0):=B.cell 1;have f1:=B.free 1;have h2:W.cell? ⟨kb,2,none⟩=some (.slice none 0 0):=B.cell 2;have f2:=B.free 2;have h3:W.cell? ⟨kb,3,none⟩=some (.slice none 0 0):=B.cell 3;have f3:=B.free 3;clear B;clear hd;refine zad rfl rfl fun K HK2=> ?_
     go_simp
     refine HK2.out _ _ ((HI.out _ _ _).2 ⟨{σ with b13:=true,s34:=_},rfl,rfl,{G with D13:=fun _=>⟨t11,t12⟩,D14:=fun h=>ff e (G.D14 h),Q11:=fun _=>rfl,X:=(fun h=>by cases h),F13:=fun _=>⟨W,rfl,HX.out⟩}⟩)
   . have t12:σ.b12=true:=by simp[hd]
     have t13:σ.b13=true:=by simp[hd]
     have er12:=G.Q12 t12;clear hd;refine zad rfl rfl fun K HK2=> ?_
     go_simp
     refine HK2.out _ _ ((HI.out _ _ _).2 ⟨{σ with b14:=true,s5:=_,s35:=_},rfl,rfl,{G with D14:=fun _=>t13,Q12:=fun _=>rfl,Q14:=fun _=>rfl}⟩)
 . obtain⟨σ,rfl,rfl,G⟩:=(HI.out _ _ _).1 hi
   clear hi;have t0:σ.b0=true:=zaa hr (i:=0) rfl (by simp[Region.binds]) (show 0<15 by decide);have t1:σ.b1=true:=zaa hr (i:=1) rfl (by simp[Region.binds,t0]) (show 1<15 by decide);have t2:σ.b2=true:=zaa hr (i:=2) rfl (by simp[Region.binds,t0,t1]) (show 2<15 by decide);have t3:σ.b3=true:=zaa hr (i:=3) rfl (by simp[Region.binds,t0,t1,t2]) (show 3<15 by decide);have t4:σ.b4=true:=zaa hr (i:=4) rfl (by simp[Region.binds,t0,t1,t2,t3]) (show 4<15 by decide);have t5:σ.b5=true:=zaa hr (i:=5) rfl (by simp[Region.binds,t0,t1,t2,t3,t4]) (show 5<15 by decide);have t6:σ.b6=true:=zaa hr (i:=6) rfl (by simp[Region.binds,t0,t1,t2,t3,t4,t5]) (show 6<15 by decide);have t7:σ.b7=true:=zaa hr (i:=7) rfl (by simp[Region.binds,t0,t1,t2,t3,t4,t5,t6]) (show 7<15 by decide);have t8:σ.b8=true:=zaa hr (i:=8) rfl (by simp[Region.binds,t0,t1,t2,t3,t4,t5,t6,t7]) (show 8<15 by decide);have t9:σ.b9=true:=zaa hr (i:=9) rfl (by simp[Region.binds,t0,t1,t2,t3,t4,t5,t6,t7,t8]) (show 9<15 by decide);have t10:σ.b10=true:=zaa hr (i:=10) rfl (by simp[Region.binds,t0,t1,t2,t3,t4,t5,t6,t7,t8,t9]) (show 10<15 by decide);have t11:σ.b11=true:=zaa hr (i:=11) rfl (by simp[Region.binds,t0,t1,t2,t3,t4,t5,t6,t7,t8,t9,t10]) (show 11<15 by decide);have t12:σ.b12=true:=zaa hr (i:=12) rfl (by simp[Region.binds,t0,t1,t2,t3,t4,t5,t6,t7,t8,t9,t10,t11]) (show 12<15 by decide);have t13:σ.b13=true:=zaa hr (i:=13) rfl (by simp[Region.binds,t0,t1,t2,t3,t4,t5,t6,t7,t8,t9,t10,t11,t12]) (show 13<15 by decide);have t14:σ.b14=true:=zaa hr (i:=14) rfl (by simp[Region.binds,t0,t1,t2,t3,t4,t5,t6,t7,t8,t9,t10,t11,t12,t13]) (show 14<15 by decide);obtain⟨W6,p1,p2⟩:=G.F13 t13;exact HK.out _ _ _ _ _ _ _ _ _ _ _ _ _ _ σ.v σ.ok W6 W (G.Q14 t14) (G.F10 t10) p1 p2
 . refine(HI.out _ _ _).2 ⟨⟨false,false,false,false,false,false,false,false,false,false,false,false,false,false,false,_,_,_,_,_,_,_,_,_,_,_,_,_,_,⟨(none,0),(none,0),(none,0),0,[],[],[]⟩,false⟩,rfl,rfl,?_⟩
   constructor
   all_goals (try dsimp only)
   all_goals first|exact(Ext.refl w).drew|exact fun _=>(Ext.refl w).drew|(intro h;cases h;done)
def zmx(way:List Int)(x:MsgR)(w:World)(e:Ending)(w':World):Prop:=
 ∃(v:ValR)(ok:Bool),e=.returned (.tuple #[tvalV v,.bool ok])/\Ext w w'/\((ok=false/\atR way x=none)\/(ok=true/\atR way x=some v))
def zeroR:ValR:=⟨(none,0),(none,0),(none,0),0,[],[],[]⟩
theorem zny{o p:Obj}{cs:Array Value}(h:p=.cells cs t):BlkT ((w.alloc o).alloc p) (w.heap.size+1) t cs:=by
 subst h;have:(w.alloc o).heap.size=w.heap.size+1:=by simp
 rw[<-this];exact BlkT.new _ _ _ rfl
theorem rAtS{x:MsgR}{C:Option Addr}{N:Int}{l:List Int}(hx:zay w x)(hk:k=l.length+1)(hw:Reads w C k kc 1 ((N::l).map wyV))(hk2:k<=1000)(hsol:zec (N::l) (bare x))(h2:l≠ []->∀(y:MsgR)(W:World)(C2:Option Addr)(k2:Nat),zay W y->zec l (bare y)->Reads W C2 (k - 1) k2 1 (l.map wyV)->Calls prog 13 #[treeV y,.slice C2 (k - 1) k2] W (zmx l y W)):
 Calls prog 13 #[treeV x,.slice C k kc] w (zmx (N::l) x w):=by
 obtain⟨cutA,hcut,hrest⟩:=zbx zgB hw .i64 (l:=1) (by omega);have hcut1:∀W:World,(Instr.slice 34 (.slice C k kc) (some (.int .i64 1)) none none).run prog W=.ok (.slice cutA (k - 1) (kc - 1)) W:=hcut;have hrest1:Reads w cutA (k - 1) (kc - 1) 1 (l.map wyV):=by simpa using hrest
 obtain⟨wb,wo,rfl,hwb,hwc⟩:=hw.at_ (by omega);have w0:w.cell? ⟨wb,wo,none⟩=some (.int .i64 N):=hwc 0 _ rfl;have hki:(0:Int)<k:=by omega
 have hk0:0<k:=by omega
 have hget:=fun W (h:Ext w W)=>rGet (N:=N) (hx.up h)
 have hmax:=hx.vals.max;have X0:Ext w ((w.alloc (.cells #[.slice x.a.1 x.vals.length x.a.2,.slice x.b.1 x.unk.length x.b.2] 40)).alloc (.cells #[.int .i64 0,.slice none 0 0,.slice none 0 0,.slice none 0 0] 48)):=((Ext.refl w).alloc _).alloc _;have BX:BlkT ((w.alloc (.cells #[.slice x.a.1 x.vals.length x.a.2,.slice x.b.1 x.unk.length x.b.2] 40)).alloc (.cells #[.int .i64 0,.slice none 0 0,.slice none 0 0,.slice none 0 0] 48)) w.heap.size 40 #[.slice x.a.1 x.vals.length x.a.2,.slice x.b.1 x.unk.length x.b.2]:=(BlkT.new w _ _ rfl).up ((Ext.refl _).alloc _);have BZ:BlkT ((w.alloc (.cells #[.slice x.a.1 x.vals.length x.a.2,.slice x.b.1 x.unk.length x.b.2] 40)).alloc (.cells #[.int .i64 0,.slice none 0 0,.slice none 0 0,.slice none 0 0] 48)) (w.heap.size+1) 48 #[.int .i64 0,.slice none 0 0,.slice none 0 0,.slice none 0 0]:=zny rfl;rcases zaL (fun v:ValR=>v.number==N) x.vals with⟨hI,_⟩|⟨i,v,hI,hv,hp,_⟩
 . have hfind:=zbm.1 hI
   have hnone:atR (N::l) x=none:=by unfold atR;rw[hfind]
   rw[hI]at hget;unfold treeV at hget⊢;have Hget:=zsz hget;have HN:=zsz hnone;clear hget hnone hfind hI h2 hsol hx hcut hcut1 hrest hrest1 hw hwc
   go_enter func13,ntmps13
   go_upto_region 1 with fail
   generalize (w.alloc (.cells #[.slice x.a.1 x.vals.length x.a.2,.slice x.b.1 x.unk.length x.b.2] 40)).alloc (.cells #[.int .i64 0,.slice none 0 0,.slice none 0 0,.slice none 0 0] 48)=w2 at*;have x0:w2.cell? ⟨w.heap.size,0,none⟩=some (.slice x.a.1 x.vals.length x.a.2):=BX.cell 0;have x1:w2.cell? ⟨w.heap.size,1,none⟩=some (.slice x.b.1 x.unk.length x.b.2):=BX.cell 1;have xl:=BX.lt;replace w0:=X0.of_cell w0;replace hwb:=Nat.lt_of_lt_of_le hwb X0.size
   go_region_law (go_simp;go_at_call 43;refine(Hget.out _ (X0.trans xx)).mono ?_;rintro e w3 ⟨rfl,E3⟩;have X3:Ext w2 w3:=Ext.trans xx E3)
   all_goals
    go_simp
    have B3:=BZ.up X3;have y0:w3.cell? ⟨w.heap.size+1,0,none⟩=some (.int .i64 0):=B3.cell 0;have y1:w3.cell? ⟨w.heap.size+1,1,none⟩=some (.slice none 0 0):=B3.cell 1;have y2:w3.cell? ⟨w.heap.size+1,2,none⟩=some (.slice none 0 0):=B3.cell 2;have y3:w3.cell? ⟨w.heap.size+1,3,none⟩=some (.slice none 0 0):=B3.cell 3;have f0:=B3.free 0;have f1:=B3.free 1;have f2:=B3.free 2;have f3:=B3.free 3;have yl:=B3.lt
    go_wp2
    refine bodyPost_ret (zaO (ty:=48) rfl _ _ (w.heap.size+1) _ _ (0,0) _ rfl (zgd (v:=zeroR) (u:=zeroR) B3) underlying48 rfl (by kernel_rfl)) rfl ?_;exact⟨zeroR,false,rfl,zgc (v:=zeroR) (X0.trans X3) (Nat.le_succ _),.inl ⟨rfl,HN.out⟩⟩
 . have hfind:=zbm.2 i v hI hv
   have hil:i<x.vals.length:=(List.getElem?_eq_some_iff.1 hv).1;rw[hI]at hget;obtain⟨vb,vo,v',hA,hv',hvb,d0,d1,d2,d3⟩:=zgE hx.vals hil;obtain rfl:v'=v:=Option.some.inj (hv'.symm.trans hv);have hvin:=List.mem_of_getElem? hv;have hsub:=hx.sub v' hvin;have hown:=hx.each v' hvin;unfold treeV at hget⊢;rw[hA]at hget BX BZ X0⊢;have Hget:=zsz hget;have hin:(i:Int)<x.vals.length:=by omega
   have hineg:¬(i:Int)<0:=by omega
   generalize x.vals.length=vn at*;by_cases hl:l=[]
   . subst hl
     have hat:atR [N] x=some v':=by unfold atR;rw[hfind];rfl
     have HAt:=zsz hat;have hk1:((k:Int)==1)=true:=by rw[beq_iff_eq];simp at hk;omega
     clear hget hat hfind hI h2 hsol hx hcut hcut1 hrest hrest1 hw hwc hv hv' hA hsub hown hvin hp
     go_enter func13,ntmps13
     go_upto_region 1 with fail
     generalize (w.alloc (.cells #[.slice (some ⟨vb,vo,none⟩) vn x.a.2,.slice x.b.1 x.unk.length x.b.2] 40)).alloc (.cells #[.int .i64 0,.slice none 0 0,.slice none 0 0,.slice none 0 0] 48)=w2 at*;have x0:w2.cell? ⟨w.heap.size,0,none⟩=some (.slice (some ⟨vb,vo,none⟩) vn x.a.2):=BX.cell 0;have x1:w2.cell? ⟨w.heap.size,1,none⟩=some (.slice x.b.1 x.unk.length x.b.2):=BX.cell 1;have xl:=BX.lt;replace w0:=X0.of_cell w0;replace hwb:=Nat.lt_of_lt_of_le hwb X0.size
     go_region_law (go_simp;go_at_call 43;refine(Hget.out _ (X0.trans xx)).mono ?_;rintro e w3 ⟨rfl,E3⟩;have X3:Ext w2 w3:=Ext.trans xx E3)
     all_goals
      go_simp
      have B3:=BZ.up X3;have y0:w3.cell? ⟨w.heap.size+1,0,none⟩=some (.int .i64 0):=B3.cell 0;have y1:w3.cell? ⟨w.heap.size+1,1,none⟩=some (.slice none 0 0):=B3.cell 1;have y2:w3.cell? ⟨w.heap.size+1,2,none⟩=some (.slice none 0 0):=B3.cell 2;have y3:w3.cell? ⟨w.heap.size+1,3,none⟩=some (.slice none 0 0):=B3.cell 3;have f0:=B3.free 0;have f1:=B3.free 1;have f2:=B3.free 2;have f3:=B3.free 3;have yl:=B3.lt;replace x0:=X3.of_cell x0;replace xl:=Nat.lt_of_lt_of_le xl X3.size;have X4:=X0.trans X3;replace d0:=X4.of_cell d0;replace d1:=X4.of_cell d1;replace d2:=X4.of_cell d2;replace d3:=X4.of_cell d3;replace hvb:=Nat.lt_of_lt_of_le hvb X4.size
      go_wp2
      refine bodyPost_ret (zaO (ty:=48) rfl _ _ (w.heap.size+1) _ _ (0,0) _ rfl (zgd (v:=v') (u:=zeroR) B3) underlying48 rfl (by kernel_rfl)) rfl ?_;exact⟨v',true,rfl,zgc (v:=v') X4 (Nat.le_succ _),.inr ⟨rfl,HAt.out⟩⟩
   . obtain⟨y,ys,hvs,hsy⟩:=zor hsol hl hfind
     have hat:atR (N::l) x=atR l y:=by
      conv=>lhs;unfold atR
      rw[hfind];simp only[if_neg hl,hvs]
     have hy:=hsub y (by rw[hvs];exact List.mem_cons_self);have hsl:0<v'.subs.length:=by rw[hvs];simp
     obtain⟨sb,so,y',hB,hy',hsb,g0,g1⟩:=zgP hown.subs hsl
     obtain rfl:y'=y:=by
      rw[hvs]at hy';exact(Option.some.inj hy').symm
     have hsl2:(0:Int)<v'.subs.length:=by omega
     rw[hB]at d3;have hrec:=fun(W:World)(h:Ext w W)=>h2 hl y' W cutA (kc - 1) (hy.up h) hsy (hrest1.ext h)
     unfold zmx treeV at hrec;have HAt:=zsz hat;have Hrec:=zsz hrec;have Hcut:=zsz hcut1
     have hk1:((k:Int)==1)=false:=by
      rw[beq_eq_false_iff_ne];have:=List.length_pos_iff.2 hl;omega
     simp only[Nat.zero_mul,Nat.add_zero,Nat.zero_add]at g0 g1;generalize hsn:v'.subs.length=sn at*;clear hget hat hfind hI h2 hsol hx hcut hcut1 hrest hrest1 hw hwc hv hv' hA hsub hown hvin hp hsn hrec hy hy' hB hvs hsy hk
     go_enter func13,ntmps13
     go_upto_region 1 with fail
     generalize (w.alloc (.cells #[.slice (some ⟨vb,vo,none⟩) vn x.a.2,.slice x.b.1 x.unk.length x.b.2] 40)).alloc (.cells #[.int .i64 0,.slice none 0 0,.slice none 0 0,.slice none 0 0] 48)=w2 at*;have x0:w2.cell? ⟨w.heap.size,0,none⟩=some (.slice (some ⟨vb,vo,none⟩) vn x.a.2):=BX.cell 0;have x1:w2.cell? ⟨w.heap.size,1,none⟩=some (.slice x.b.1 x.unk.length x.b.2):=BX.cell 1;have xl:=BX.lt;replace w0:=X0.of_cell w0;replace hwb:=Nat.lt_of_lt_of_le hwb X0.size
     go_region_law (go_simp;go_at_call 43;refine(Hget.out _ (X0.trans xx)).mono ?_;rintro e w3 ⟨rfl,E3⟩;have X3:Ext w2 w3:=Ext.trans xx E3)
     all_goals
      go_simp
      have B3:=BZ.up X3;replace x0:=X3.of_cell x0;have X4:=X0.trans X3;replace d3:=X4.of_cell d3;replace g0:=X4.of_cell g0;replace g1:=X4.of_cell g1;have HB3:=zsz B3;clear B3
      go_wp2_with fail
      refine calmP (fun _ _ _ hd h=>⟨hd,h.2⟩) (areg6 (PA:=fun v ok=>(ok=false/\atR l y'=none)\/(ok=true/\atR l y'=some v)) hin hsl hsl2 x0 d3 g0 g1 HB3.out (fun W h=>Hrec.out W (X4.trans h)) Hcut.out ?_);intro s5 s23 s24 s25 s26 s27 s28 s29 s30 s31 s32 s33 s34 s35 v ok W6 wz h5 hpa hwz X6;subst h5 hwz
      go_wp2
      refine bodyPost_ret (zaO (ty:=48) rfl _ _ (w.heap.size+1) _ _ (0,0) _ rfl (zgd (v:=v) (u:=zeroR) (HB3.out.up X6)) underlying48 rfl (by kernel_rfl)) rfl ?_;exact⟨v,ok,rfl,zgc (v:=v) (X4.trans X6) (Nat.le_succ _),by rw[HAt.out];exact hpa⟩
theorem rAt:∀(way:List Int){x:MsgR}{C:Option Addr}{kc:Nat}{w:World},way≠ []->zay w x->zec way (bare x)->Reads w C way.length kc 1 (way.map wyV)->way.length<=1000->
 Calls prog 13 #[treeV x,.slice C way.length kc] w (zmx way x w)
 |[],x,C,kc,w,h,_,_,_,_=>absurd rfl h
 |N::l,x,C,kc,w,_,hx,hs,hw,hk=>by
  have ih:=fun{x:MsgR}{C:Option Addr}{kc:Nat}{w:World} a b c d e=>rAt l (x:=x) (C:=C) (kc:=kc) (w:=w) a b c d e
  refine rAtS hx rfl hw hk hs (fun hl y W C2 k2 hy hsy hr=> ?_);exact ih hl hy hsy hr (by simp at hk;omega)
end Go.Proofs.YtpicpebolghcfaaGreatDoor
namespace Go.Proofs.YtpicpebolghcfaaGreatDoor
open Go.RowKit Go.Proofs.Tryz
noncomputable def eqB(p:Prop):Bool:= @decide p (Classical.propDecidable p)
variable{p:Prop}
theorem zge(h:p):eqB p=true:=by unfold eqB;exact @decide_eq_true p (Classical.propDecidable p) h
theorem zdF(h:¬p):eqB p=false:=by unfold eqB;exact @decide_eq_false p (Classical.propDecidable p) h
theorem zmy{w:World}{A:Option Addr}{n c k:Nat}{l:List Nat}(h:Reads w A n c 1 (l.map uv))(hk:k<n):
 ∃b off x,A=some ⟨b,off,none⟩/\l[k]?=some x/\b<w.heap.size/\w.cell? ⟨b,off+k,none⟩=some (.int .u64 (x:Int)):=by
 obtain⟨b,off,e,hb,hc⟩:=h.at_ (by omega);have hl:l.length=n:=by have:=h.len;simpa using this
 have hx:l[k]?=some (l[k]'(by omega)):=List.getElem?_eq_getElem (by omega);exact⟨b,off,_,e,hx,hb,hc k _ (by rw[List.getElem?_map,hx];rfl)⟩
theorem zcG{v u:ValR}:bareV v=bareV u<->v.number=u.number/\v.words=u.words/\v.texts=u.texts/\v.subs.map bare=u.subs.map bare:=by
 unfold bareV;simp only[ValG.mk.injEq,true_and]
theorem zfB{x y:MsgR}:bare x=bare y<->x.unk=y.unk/\x.vals.map bareV=y.vals.map bareV:=by
 rw[zgO,zgO];simp only[MsgX.mk.injEq,true_and];exact And.comm
end Go.Proofs.YtpicpebolghcfaaGreatDoor
