/- Layer 20: region 13 of the reference's Value. (Printed by gen_vreg13.py.) -/
import Derived.Test.YtpicpebolghcfaaGreatDoorQlW14o

set_option linter.unusedVariables false
set_option linter.unusedSimpArgs false
set_option maxRecDepth 100000
set_option maxHeartbeats 4000000
namespace Go.Proofs.YtpicpebolghcfaaGreatDoor
open Go.RowKit Go.Shelf Tryz
noncomputable def regVa(n:Nat):Code:=((Tryz.f27.body.bind (zbu n)).getD .skip)
structure zoK where
 (b0 b1 b2 b3 b4 b5 b6 b7 b8 b9 b10 b11 b12 b13:Bool)
 (s70 s71 s72 s73 s74 s75 s76 s77 s78 s79 s80 s81 s82:Value)
 (y:MsgR)
 (kl:Nat)
 (A7:Option Addr)
 (c7:Nat)
structure zrf(w0 w:World)(n c b8 o8 n5 k5 q k2 rn rc ko kf:Nat)(A A2 RA:Option Addr)(fof:Int)(M0:MsgT)(xs:List Value)(σ:zoK)(W:World):Prop where
 X:σ.b11=false->Ext w W
 Q0:σ.b0=true->σ.s70=.pointer (some ⟨ko,3,none⟩)
 Q1:σ.b1=true->σ.s71=.slice A2 q k2
 Q2:σ.b2=true->σ.s72=.slice A n c
 Q3:σ.b3=true->σ.s73=.pointer (some ⟨kf,5,none⟩)
 Q4:σ.b4=true->σ.s74=.int .i64 fof
 Q5:σ.b5=true->σ.s75=.slice (some ⟨b8,o8,none⟩) n5 k5
 Q6:σ.b6=true->σ.s76=.int .i64 (q:Int)
 Q7:σ.b7=true->σ.s77=.pointer (some ⟨b8,o8+q,none⟩)
 Q8:σ.b8=true->σ.s78=.slice RA rn rc
 Q9:σ.b9=true->σ.s79=.agg #[.slice σ.y.a.1 σ.y.vals.length σ.y.a.2,.slice σ.y.b.1 σ.y.unk.length σ.y.b.2]
 Q10:σ.b10=true->σ.s80=.slice (some ⟨σ.kl,0,none⟩) 1 1
 Q11:σ.b11=true->σ.s81=.slice σ.A7 (q+1) σ.c7
 Q12:σ.b12=true->σ.s82=.pointer (some ⟨ko,3,none⟩)
 F9:σ.b9=true->σ.b10=false->Ext w W/\bare σ.y=M0/\zay W σ.y/\(∀b,UsesT σ.y b->w.heap.size<=b)
 F10:σ.b10=true->σ.b11=false->∃W9,W=(W9.alloc (.cells #[.slice σ.y.a.1 σ.y.vals.length σ.y.a.2,.slice σ.y.b.1 σ.y.unk.length σ.y.b.2] 40))/\σ.kl=W9.heap.size/\Ext w W9/\bare σ.y=M0/\zay W9 σ.y/\(∀b,UsesT σ.y b->w.heap.size<=b)
 F11:σ.b11=true->σ.b13=false->∃W9,Ext w W9/\bare σ.y=M0/\zay W9 σ.y/\(∀b,UsesT σ.y b->w.heap.size<=b)/\Own w0 W 40 2 σ.A7 (q+1) σ.c7 (xs++treeC σ.y)/\(W9.alloc (.cells #[.slice σ.y.a.1 σ.y.vals.length σ.y.a.2,.slice σ.y.b.1 σ.y.unk.length σ.y.b.2] 40)).grownBy W (Value.slice A2 q k2).ownBlock/\Moved (W9.alloc (.cells #[.slice σ.y.a.1 σ.y.vals.length σ.y.a.2,.slice σ.y.b.1 σ.y.unk.length σ.y.b.2] 40)) A2 σ.A7
 F13:σ.b13=true->∃W9 W7,W=W7.setCell ⟨ko,3,none⟩ (.slice σ.A7 (q+1) σ.c7)/\Ext w W9/\bare σ.y=M0/\zay W9 σ.y/\(∀b,UsesT σ.y b->w.heap.size<=b)/\Own w0 W7 40 2 σ.A7 (q+1) σ.c7 (xs++treeC σ.y)/\(W9.alloc (.cells #[.slice σ.y.a.1 σ.y.vals.length σ.y.a.2,.slice σ.y.b.1 σ.y.unk.length σ.y.b.2] 40)).grownBy W7 (Value.slice A2 q k2).ownBlock/\Moved (W9.alloc (.cells #[.slice σ.y.a.1 σ.y.vals.length σ.y.a.2,.slice σ.y.b.1 σ.y.unk.length σ.y.b.2] 40)) A2 σ.A7
 D1:σ.b1=true->σ.b0=true
 D4:σ.b4=true->σ.b3=true
 D7:σ.b7=true->σ.b5=true/\σ.b6=true
 D8:σ.b8=true->σ.b7=true
 D9:σ.b9=true->σ.b2=true/\σ.b4=true/\σ.b8=true
 D10:σ.b10=true->σ.b9=true
 D11:σ.b11=true->σ.b1=true/\σ.b10=true
 D12:σ.b12=true->σ.b11=true
 D13:σ.b13=true->σ.b12=true
theorem zrW{Q0:Exit->Act->World->Prop}{u1 u2 u3 u4 u6 u7 u8 u11 u13 u14 u15 u16 u17 u18 u19 u20 u21 u22 u23 u24 u25 u26 u27 u28 u29 u30 u31 u32 u33 u34 u35 u36 u37 u38 u39 u40 u41 u42 u43 u44 u45 u46 u47 u48 u49 u50 u51 u52 u53 u54 u55 u56 u57 u58 u59 u60 u61 u62 u63 u64 u65 u66 u67 u68 u69 u70 u71 u72 u73 u74 u75 u76 u77 u78 u79 u80 u81 u82 u83 u84 u85 u86 u87 u88 u89 u90 u91 u92 u93:Value}{w0 w:World}{n c b8 o8 n5 k5 q k2 rn rc ko kf:Nat}{A A2 RA:Option Addr}{fof:Int}{M0:MsgT}{xs:List Value}{v0 v1 v2:Value}(hqn:(q:Int)<n5)(hq9:q<=1000000)(ho:w.cell? ⟨ko,3,none⟩=some (.slice A2 q k2))(hf:w.cell? ⟨kf,5,none⟩=some (.int .i64 fof))(hrw:w.cell? ⟨b8,o8+q,none⟩=some (.slice RA rn rc))(BR:BlkT w ko 48 #[v0,v1,v2,.slice A2 q k2])(own:Own w0 w 40 2 A2 q k2 xs)(hof:∀W:World,Ext w W->Calls prog 11 #[.slice A n c,.int .i64 fof,.slice RA rn rc] W fun e w'=>∃y:MsgR,e=.returned (.agg #[.slice y.a.1 y.vals.length y.a.2,.slice y.b.1 y.unk.length y.b.2])/\bare y=M0/\zay w' y/\(∀b,UsesT y b->W.heap.size<=b)/\Ext W w')(hK:∀(s70 s71 s72 s73 s74 s75 s76 s77 s78 s79 s80 s81 s82:Value)(y:MsgR)(A7:Option Addr)(c7:Nat)(W9 W7 wz:World),wz=W7.setCell ⟨ko,3,none⟩ (.slice A7 (q+1) c7)->Ext w W9->bare y=M0->zay W9 y->(∀b,UsesT y b->w.heap.size<=b)->Own w0 W7 40 2 A7 (q+1) c7 (xs++treeC y)->(W9.alloc (.cells #[.slice y.a.1 y.vals.length y.a.2,.slice y.b.1 y.unk.length y.b.2] 40)).grownBy W7 (Value.slice A2 q k2).ownBlock->Moved (W9.alloc (.cells #[.slice y.a.1 y.vals.length y.a.2,.slice y.b.1 y.unk.length y.b.2] 40)) A2 A7->Q0 .normal ⟨#[.slice A n c,u1,u2,u3,u4,.pointer (some ⟨kf,0,none⟩),u6,u7,u8,.pointer (some ⟨ko,0,none⟩),.slice (some ⟨b8,o8,none⟩) n5 k5,u11,.int .i64 (q:Int),u13,u14,u15,u16,u17,u18,u19,u20,u21,u22,u23,u24,u25,u26,u27,u28,u29,u30,u31,u32,u33,u34,u35,u36,u37,u38,u39,u40,u41,u42,u43,u44,u45,u46,u47,u48,u49,u50,u51,u52,u53,u54,u55,u56,u57,u58,u59,u60,u61,u62,u63,u64,u65,u66,u67,u68,u69,s70,s71,s72,s73,s74,s75,s76,s77,s78,s79,s80,s81,s82,u83,u84,u85,u86,u87,u88,u89,u90,u91,u92,u93],[]⟩ wz):
 Code.wp prog (regVa 13) (zeS Q0) ⟨#[.slice A n c,u1,u2,u3,u4,.pointer (some ⟨kf,0,none⟩),u6,u7,u8,.pointer (some ⟨ko,0,none⟩),.slice (some ⟨b8,o8,none⟩) n5 k5,u11,.int .i64 (q:Int),u13,u14,u15,u16,u17,u18,u19,u20,u21,u22,u23,u24,u25,u26,u27,u28,u29,u30,u31,u32,u33,u34,u35,u36,u37,u38,u39,u40,u41,u42,u43,u44,u45,u46,u47,u48,u49,u50,u51,u52,u53,u54,u55,u56,u57,u58,u59,u60,u61,u62,u63,u64,u65,u66,u67,u68,u69,u70,u71,u72,u73,u74,u75,u76,u77,u78,u79,u80,u81,u82,u83,u84,u85,u86,u87,u88,u89,u90,u91,u92,u93],[]⟩ w:=by
 have HK:=zsz hK;clear hK
 conv=>arg 2;whnf
 obtain⟨I,hI⟩:∃I:Array Bool->Act->World->Prop,∀l a W,I l a W<->(∃σ:zoK,l=#[σ.b0,σ.b1,σ.b2,σ.b3,σ.b4,σ.b5,σ.b6,σ.b7,σ.b8,σ.b9,σ.b10,σ.b11,σ.b12,σ.b13]/\a=⟨#[.slice A n c,u1,u2,u3,u4,.pointer (some ⟨kf,0,none⟩),u6,u7,u8,.pointer (some ⟨ko,0,none⟩),.slice (some ⟨b8,o8,none⟩) n5 k5,u11,.int .i64 (q:Int),u13,u14,u15,u16,u17,u18,u19,u20,u21,u22,u23,u24,u25,u26,u27,u28,u29,u30,u31,u32,u33,u34,u35,u36,u37,u38,u39,u40,u41,u42,u43,u44,u45,u46,u47,u48,u49,u50,u51,u52,u53,u54,u55,u56,u57,u58,u59,u60,u61,u62,u63,u64,u65,u66,u67,u68,u69,σ.s70,σ.s71,σ.s72,σ.s73,σ.s74,σ.s75,σ.s76,σ.s77,σ.s78,σ.s79,σ.s80,σ.s81,σ.s82,u83,u84,u85,u86,u87,u88,u89,u90,u91,u92,u93],[]⟩/\zrf w0 w n c b8 o8 n5 k5 q k2 rn rc ko kf A A2 RA fof M0 xs σ W):=⟨_,fun _ _ _=>Iff.rfl⟩
 have HI:=zsz hI;clear hI;refine zbe (I:=I) (by kernel_rfl) (fun i l a W hi hr=> ?_) (fun l a W hi hr=> ?_) ?_
 . obtain⟨σ,rfl,rfl,G⟩:=(HI.out _ _ _).1 hi
   clear hi;obtain⟨hlt,hl,hd⟩:=zbo hr;clear hr;have hlt:i<14:=hlt;rcases(show i=0\/i=1\/i=2\/i=3\/i=4\/i=5\/i=6\/i=7\/i=8\/i=9\/i=10\/i=11\/i=12\/i=13 by omega)with rfl|rfl|rfl|rfl|rfl|rfl|rfl|rfl|rfl|rfl|rfl|rfl|rfl|rfl
   all_goals
    have hd:=hd _ rfl;clear hlt;simp[Region.binds]at hl hd;have e:=zsz hl;clear hl
   . refine zad rfl rfl fun K HK2=> ?_
     go_simp
     refine HK2.out _ _ ((HI.out _ _ _).2 ⟨{σ with b0:=true,s70:=_},rfl,rfl,{G with D1:=fun h=>ff e (G.D1 h),Q0:=fun _=>rfl}⟩)
   . have t0:σ.b0=true:=hd
     have er0:=G.Q0 t0
     have e11:σ.b11=false:=by
      rcases hs:σ.b11 with _|_
      . rfl
      . exact ff e (G.D11 hs).1
     have X:=G.X e11;have g0:W.cell? ⟨ko,3,none⟩=some (.slice A2 q k2):=X.of_cell ho;have gl0:=World.block_lt_of_cell? W _ g0;have HX:=zsz X;clear X;have H11:=zsz e11;clear e11;clear hd;refine zad rfl rfl fun K HK2=> ?_
     go_simp
     refine HK2.out _ _ ((HI.out _ _ _).2 ⟨{σ with b1:=true,s71:=_,s70:=_},rfl,rfl,{G with D1:=fun _=>t0,D11:=fun h=>ff e (G.D11 h).1,Q0:=fun _=>rfl,Q1:=fun _=>rfl}⟩)
   . refine zad rfl rfl fun K HK2=> ?_
     go_simp
     refine HK2.out _ _ ((HI.out _ _ _).2 ⟨{σ with b2:=true,s72:=_},rfl,rfl,{G with D9:=fun h=>ff e (G.D9 h).1,Q2:=fun _=>rfl}⟩)
   . refine zad rfl rfl fun K HK2=> ?_
     go_simp
     refine HK2.out _ _ ((HI.out _ _ _).2 ⟨{σ with b3:=true,s73:=_},rfl,rfl,{G with D4:=fun h=>ff e (G.D4 h),Q3:=fun _=>rfl}⟩)
   . have t3:σ.b3=true:=hd
     have er3:=G.Q3 t3
     have e11:σ.b11=false:=by
      rcases hs:σ.b11 with _|_
      . rfl
      . exact ff e (G.D9 (G.D10 (G.D11 hs).2)).2.1
     have X:=G.X e11;have g0:W.cell? ⟨kf,5,none⟩=some (.int .i64 fof):=X.of_cell hf;have gl0:=World.block_lt_of_cell? W _ g0;have HX:=zsz X;clear X;have H11:=zsz e11;clear e11;clear hd;refine zad rfl rfl fun K HK2=> ?_
     go_simp
     refine HK2.out _ _ ((HI.out _ _ _).2 ⟨{σ with b4:=true,s74:=_,s73:=_},rfl,rfl,{G with D4:=fun _=>t3,D9:=fun h=>ff e (G.D9 h).2.1,Q3:=fun _=>rfl,Q4:=fun _=>rfl}⟩)
   . refine zad rfl rfl fun K HK2=> ?_
     go_simp
     refine HK2.out _ _ ((HI.out _ _ _).2 ⟨{σ with b5:=true,s75:=_},rfl,rfl,{G with D7:=fun h=>ff e (G.D7 h).1,Q5:=fun _=>rfl}⟩)
   . refine zad rfl rfl fun K HK2=> ?_
     go_simp
     refine HK2.out _ _ ((HI.out _ _ _).2 ⟨{σ with b6:=true,s76:=_},rfl,rfl,{G with D7:=fun h=>ff e (G.D7 h).2,Q6:=fun _=>rfl}⟩)
   . have t5:σ.b5=true:=by simp[hd]
     have t6:σ.b6=true:=by simp[hd]
     have er5:=G.Q5 t5;have er6:=G.Q6 t6;clear hd;refine zad rfl rfl fun K HK2=> ?_
     go_simp
     refine HK2.out _ _ ((HI.out _ _ _).2 ⟨{σ with b7:=true,s77:=_,s75:=_,s76:=_},rfl,rfl,{G with D7:=fun _=>⟨t5,t6⟩,D8:=fun h=>ff e (G.D8 h),Q5:=fun _=>rfl,Q6:=fun _=>rfl,Q7:=fun _=>rfl}⟩)
   . have t7:σ.b7=true:=hd
     have er7:=G.Q7 t7
     have e11:σ.b11=false:=by
      rcases hs:σ.b11 with _|_
      . rfl
      . exact ff e (G.D9 (G.D10 (G.D11 hs).2)).2.2
     have X:=G.X e11;have g0:W.cell? ⟨b8,o8+q,none⟩=some (.slice RA rn rc):=X.of_cell hrw;have gl0:=World.block_lt_of_cell? W _ g0;have HX:=zsz X;clear X;have H11:=zsz e11;clear e11;clear hd;refine zad rfl rfl fun K HK2=> ?_
     go_simp
     refine HK2.out _ _ ((HI.out _ _ _).2 ⟨{σ with b8:=true,s78:=_,s77:=_},rfl,rfl,{G with D8:=fun _=>t7,D9:=fun h=>ff e (G.D9 h).2.2,Q7:=fun _=>rfl,Q8:=fun _=>rfl}⟩)
   . have t2:σ.b2=true:=by simp[hd]
     have t4:σ.b4=true:=by simp[hd]
     have t8:σ.b8=true:=by simp[hd]
     have er2:=G.Q2 t2;have er4:=G.Q4 t4;have er8:=G.Q8 t8
     have e11:σ.b11=false:=by
      rcases hs:σ.b11 with _|_
      . rfl
      . exact ff e (G.D10 (G.D11 hs).2)
     have HX:=zsz (G.X e11);clear e11;clear hd;refine zad rfl rfl fun K HK2=> ?_
     go_simp
     go_at_call 11
     refine(hof W HX.out).mono ?_;rintro e1 W2 ⟨y',rfl,hb',hT',hU',E2⟩
     (try dsimp only)
     (try simp only[Act.put,List.setIfInBounds_toArray,List.set_cons_zero,List.set_cons_succ])
     refine HK2.out _ _ ((HI.out _ _ _).2 ⟨{σ with b9:=true,s79:=_,s72:=_,s74:=_,s78:=_,y:=y'},rfl,rfl,{G with D9:=fun _=>⟨t2,t4,t8⟩,D10:=fun h=>ff e (G.D10 h),Q2:=fun _=>rfl,Q4:=fun _=>rfl,Q8:=fun _=>rfl,Q9:=fun _=>rfl,X:=fun _=>HX.out.trans E2,F9:=fun _ _=>⟨HX.out.trans E2,hb',hT',fun b hb=>Nat.le_trans HX.out.size (hU' b hb)⟩,F10:=fun h=>ff e (G.D10 h),F11:=fun h=>ff e (G.D10 (G.D11 h).2),F13:=fun h=>ff e (G.D10 (G.D11 (G.D12 (G.D13 h))).2),Q10:=fun h=>ff e (G.D10 h),Q11:=fun h=>ff e (G.D10 (G.D11 h).2),Q12:=fun h=>ff e (G.D10 (G.D11 (G.D12 h)).2)}⟩)
   . have t9:σ.b9=true:=hd
     have er9:=G.Q9 t9;have HG:=zsz (G.F9 t9 e);clear hd;refine zad rfl rfl fun K HK2=> ?_
     go_simp
     refine HK2.out _ _ ((HI.out _ _ _).2 ⟨{σ with b10:=true,s80:=_,s79:=_,kl:=W.heap.size},rfl,rfl,{G with D10:=fun _=>t9,D11:=fun h=>ff e (G.D11 h).2,Q9:=fun _=>rfl,Q10:=fun _=>rfl,X:=fun h=>(G.X h).alloc _,F9:=(fun _ h=>by cases h),F10:=fun _ _=>⟨W,rfl,rfl,HG.out⟩,F11:=fun h=>ff e (G.D11 h).2,F13:=fun h=>ff e (G.D11 (G.D12 (G.D13 h))).2,Q11:=fun h=>ff e (G.D11 h).2,Q12:=fun h=>ff e (G.D11 (G.D12 h)).2}⟩)
   . have t1:σ.b1=true:=by simp[hd]
     have t10:σ.b10=true:=by simp[hd]
     obtain⟨W9,hW,hkl,p1,p2,p3,p4⟩:=G.F10 t10 e;have f1:=G.Q1 t1;have f2:=G.Q10 t10
     have rd:Reads W (some ⟨σ.kl,0,none⟩) 1 1 2 (treeC σ.y):=by
      rw[hW,hkl];exact zdy W9 (treeC σ.y) 40 rfl rfl
     have ow:Own w0 W 40 2 A2 q k2 xs:=by
      rw[hW];exact(own.up p1).alloc _
     clear hd;refine zmR rfl fun K HK2=> ?_
     refine zes zqG (by rfl) (.tmp 71) (.tmp 80) (by rfl) f1 ow f2 rd (by simpa using zjz [σ.y]) (by omega) (by unfold maxLen;omega) ?_;intro A7 c7 W7 own7 g7 m7;rw[hW]at g7 m7
     (try simp only[Act.put,List.setIfInBounds_toArray,List.set_cons_zero,List.set_cons_succ,Nat.zero_add])
     refine HK2.out _ _ ((HI.out _ _ _).2 ⟨{σ with b11:=true,s81:=_,A7:=A7,c7:=c7},rfl,rfl,{G with D11:=fun _=>⟨t1,t10⟩,D12:=fun h=>ff e (G.D12 h),X:=(fun h=>by cases h),F9:=fun _ h=>ff h t10,F10:=(fun _ h=>by cases h),F11:=fun _ _=>⟨W9,p1,p2,p3,p4,own7,g7,m7⟩,F13:=fun h=>ff e (G.D12 (G.D13 h)),Q11:=fun _=>rfl,Q12:=fun h=>ff e (G.D12 h)}⟩)
   . have t11:σ.b11=true:=by simp[hd]
     clear hd;refine zad rfl rfl fun K HK2=> ?_
     go_simp
     refine HK2.out _ _ ((HI.out _ _ _).2 ⟨{σ with b12:=true,s82:=_},rfl,rfl,{G with D12:=fun _=>t11,D13:=fun h=>ff e (G.D13 h),Q12:=fun _=>rfl}⟩)
   . have t12:σ.b12=true:=by simp[hd]
     have t11:σ.b11=true:=by simp[hd]
     have t10:σ.b10=true:=by simp[hd]
     obtain⟨W9,p1,p2,p3,p4,own7,g7,m7⟩:=G.F11 t11 e;have er11:=G.Q11 t11;have er12:=G.Q12 t12;have B7:=(((BR.up p1).alloc (.cells #[.slice σ.y.a.1 σ.y.vals.length σ.y.a.2,.slice σ.y.b.1 σ.y.unk.length σ.y.b.2] 40))).beside ((own.up p1).alloc _) (by decide) g7;have h3:W.cell? ⟨ko,3,none⟩=some (.slice A2 q k2):=B7.cell 3;have f3:=B7.free 3;have l3:=B7.lt;have HA:=zsz (And.intro p1 (And.intro p2 (And.intro p3 p4)));have HO:=zsz (And.intro own7 (And.intro g7 m7));clear p1 p2 p3 p4 own7 g7 m7 B7;clear hd;refine zad rfl rfl fun K HK2=> ?_
     go_simp
     refine HK2.out _ _ ((HI.out _ _ _).2 ⟨{σ with b13:=true,s81:=_,s82:=_},rfl,rfl,{G with D13:=fun _=>t12,Q11:=fun _=>rfl,Q12:=fun _=>rfl,X:=fun h=>ff h t11,F9:=fun _ h=>ff h t10,F10:=fun _ h=>ff h t11,F11:=(fun _ h=>by cases h),F13:=fun _=>⟨W9,W,rfl,HA.out.1,HA.out.2.1,HA.out.2.2.1,HA.out.2.2.2,HO.out.1,HO.out.2.1,HO.out.2.2⟩}⟩)
 . obtain⟨σ,rfl,rfl,G⟩:=(HI.out _ _ _).1 hi
   clear hi;have t0:σ.b0=true:=zaa hr (i:=0) rfl (by simp[Region.binds]) (show 0<14 by decide);have t1:σ.b1=true:=zaa hr (i:=1) rfl (by simp[Region.binds,t0]) (show 1<14 by decide);have t2:σ.b2=true:=zaa hr (i:=2) rfl (by simp[Region.binds]) (show 2<14 by decide);have t3:σ.b3=true:=zaa hr (i:=3) rfl (by simp[Region.binds]) (show 3<14 by decide);have t4:σ.b4=true:=zaa hr (i:=4) rfl (by simp[Region.binds,t3]) (show 4<14 by decide);have t5:σ.b5=true:=zaa hr (i:=5) rfl (by simp[Region.binds]) (show 5<14 by decide);have t6:σ.b6=true:=zaa hr (i:=6) rfl (by simp[Region.binds]) (show 6<14 by decide);have t7:σ.b7=true:=zaa hr (i:=7) rfl (by simp[Region.binds,t5,t6]) (show 7<14 by decide);have t8:σ.b8=true:=zaa hr (i:=8) rfl (by simp[Region.binds,t7]) (show 8<14 by decide);have t9:σ.b9=true:=zaa hr (i:=9) rfl (by simp[Region.binds,t2,t4,t8]) (show 9<14 by decide);have t10:σ.b10=true:=zaa hr (i:=10) rfl (by simp[Region.binds,t9]) (show 10<14 by decide);have t11:σ.b11=true:=zaa hr (i:=11) rfl (by simp[Region.binds,t1,t10,t9]) (show 11<14 by decide);have t12:σ.b12=true:=zaa hr (i:=12) rfl (by simp[Region.binds,t0,t1,t2,t3,t4,t5,t6,t7,t8,t9,t10,t11]) (show 12<14 by decide);have t13:σ.b13=true:=zaa hr (i:=13) rfl (by simp[Region.binds,t12,t11,t0,t1,t2,t3,t4,t5,t6,t7,t8,t9,t10]) (show 13<14 by decide);obtain⟨W9,W7,p0,p1,p2,p3,p4,p5,p6,p7⟩:=G.F13 t13;exact HK.out _ _ _ _ _ _ _ _ _ _ _ _ _ σ.y _ _ W9 W7 W p0 p1 p2 p3 p4 p5 p6 p7
 . refine(HI.out _ _ _).2 ⟨⟨false,false,false,false,false,false,false,false,false,false,false,false,false,false,_,_,_,_,_,_,_,_,_,_,_,_,_,.mk (none,0) (none,0) [] [],0,none,0⟩,rfl,rfl,?_⟩
   constructor
   all_goals (try dsimp only)
   all_goals first|exact(Ext.refl w).drew|exact fun _=>(Ext.refl w).drew|(intro h;cases h;done)
end Go.Proofs.YtpicpebolghcfaaGreatDoor
