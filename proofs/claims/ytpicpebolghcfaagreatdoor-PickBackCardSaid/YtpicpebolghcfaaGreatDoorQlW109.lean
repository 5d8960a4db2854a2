/- Layer 22: the drawn regions 14 and 17 of the law PickBack. (Printed by gen_backreg.py.) -/
import Derived.Test.YtpicpebolghcfaaGreatDoorQlW72
import Derived.Test.YtpicpebolghcfaaGreatDoorQlInv2

set_option linter.unusedVariables false
set_option linter.unusedSimpArgs false
set_option maxRecDepth 100000
set_option maxHeartbeats 4000000
namespace Go.Proofs.YtpicpebolghcfaaGreatDoor
open Go.RowKit Go.Shelf Tryz
noncomputable def regBk(n:Nat):Code:=((Tryz.f5.body.bind (zbu n)).getD .skip)
structure zoL where
 (b0 b1 b2 b3 b4 b5 b6 b7 b8 b9 b10 b11 b12 b13 b14 b15 b16 b17 b18 b19 b20 b21 b22 b23 b24 b25 b26 b27:Bool)
 (s80 s81 s82 s83 s84 s85 s86 s87 s88 s89 s90 s91 s92 s93 s94 s95 s96 s97 s98 s99 s100 s101 s102 s103 s104 s105 s106 s107:Value)
 (y:ValR)
structure zrg(w:World)(n c n3 c3 wl c6 kf ku:Nat)(A A3 A6:Option Addr)(d x fnum fkind fof:Int)(fname:ByteArray)(frep fpk:Bool)(u:ValR)(PV:ValR->World->Prop)(σ:zoL)(W:World):Prop where
 X:Ext w W
 Q0:σ.b0=true->σ.s80=.bool true
 Q1:σ.b1=true->σ.s81=.bool false
 Q2:σ.b2=true->σ.s82=.bool false
 Q11:σ.b11=true->σ.s91=.int .i64 0
 Q12:σ.b12=true->σ.s92=.bool false
 Q13:σ.b13=true->σ.s93=.bool false
 Q14:σ.b14=true->σ.s94=.bool false
 Q23:σ.b23=true->σ.s103=.agg #[.int .i64 σ.y.number,.slice σ.y.a.1 σ.y.words.length σ.y.a.2,.slice σ.y.b.1 σ.y.texts.length σ.y.b.2,.slice σ.y.c.1 σ.y.subs.length σ.y.c.2]
 Q24:σ.b24=true->σ.s104=.agg #[.int .i64 u.number,.slice u.a.1 u.words.length u.a.2,.slice u.b.1 u.texts.length u.b.2,.slice u.c.1 u.subs.length u.c.2]
 Q25:σ.b25=true->σ.s105=.bool true
 Q26:σ.b26=true->σ.s106=.bool false
 Q27:σ.b27=true->σ.s107=.bool false
 Q3:σ.b3=true->σ.s83=.slice A n c
 Q4:σ.b4=true->σ.s84=.agg #[.string fname,.int .i64 fnum,.int .i64 fkind,.bool frep,.bool fpk,.int .i64 fof]
 Q5:σ.b5=true->σ.s85=.slice A3 n3 c3
 Q6:σ.b6=true->σ.s86=.int .i64 d
 Q7:σ.b7=true->σ.s87=.slice A6 wl c6
 Q8:σ.b8=true->σ.s88=.int .i64 (wl:Int)
 Q9:σ.b9=true->σ.s89=.int .i64 x
 Q10:σ.b10=true->σ.s90=.int .i64 (max 0 x)
 Q15:σ.b15=true->σ.s95=.slice A n c
 Q16:σ.b16=true->σ.s96=.agg #[.string fname,.int .i64 fnum,.int .i64 fkind,.bool frep,.bool fpk,.int .i64 fof]
 Q17:σ.b17=true->σ.s97=.slice A3 n3 c3
 Q18:σ.b18=true->σ.s98=.int .i64 d
 Q19:σ.b19=true->σ.s99=.slice A6 wl c6
 Q20:σ.b20=true->σ.s100=.int .i64 (wl:Int)
 Q21:σ.b21=true->σ.s101=.int .i64 x
 Q22:σ.b22=true->σ.s102=.int .i64 (max 0 x)
 F23:σ.b23=true->σ.b25=false->PV σ.y W
 D1:σ.b1=true->σ.b0=true
 D2:σ.b2=true->σ.b1=true
 D3:σ.b3=true->σ.b2=true
 D4:σ.b4=true->σ.b2=true
 D5:σ.b5=true->σ.b2=true
 D6:σ.b6=true->σ.b2=true
 D7:σ.b7=true->σ.b2=true
 D8:σ.b8=true->σ.b7=true
 D9:σ.b9=true->σ.b6=true/\σ.b8=true
 D10:σ.b10=true->σ.b9=true
 D11:σ.b11=true->σ.b3=true/\σ.b4=true/\σ.b5=true/\σ.b10=true
 D12:σ.b12=true->σ.b11=true
 D13:σ.b13=true->σ.b12=true
 D14:σ.b14=true->σ.b13=true
 D15:σ.b15=true->σ.b14=true
 D16:σ.b16=true->σ.b14=true
 D17:σ.b17=true->σ.b14=true
 D18:σ.b18=true->σ.b14=true
 D19:σ.b19=true->σ.b14=true
 D20:σ.b20=true->σ.b19=true
 D21:σ.b21=true->σ.b18=true/\σ.b20=true
 D22:σ.b22=true->σ.b21=true
 D23:σ.b23=true->σ.b15=true/\σ.b16=true/\σ.b17=true/\σ.b22=true
 D24:σ.b24=true->σ.b14=true
 D25:σ.b25=true->σ.b23=true/\σ.b24=true
 D26:σ.b26=true->σ.b25=true
 D27:σ.b27=true->σ.b26=true
variable{A:Option Addr}{n c:Nat}{w:World}{u2 u4 u5 u6 u7 u8 u9 u10 u12 u14 u17 u22 u23 u24 u25 u26 u27 u28 u29 u30 u31 u32 u33 u34 u35 u36 u37 u38 u39 u40 u41 u42 u43 u44 u45 u46 u47 u48 u49 u50 u51 u52 u53 u54 u55 u56 u57 u58 u59 u60 u61 u62 u63 u64 u65 u66 u67 u68 u69 u70 u71 u72 u73 u74 u75 u76 u77 u78 u79 u80 u81 u82 u83 u84 u85 u86 u87 u88 u89 u90 u91 u92 u93 u94 u95 u96 u97 u98 u99 u100 u101 u102 u103 u104 u105 u106 u107 u108 u109 u110 u111 u112 u113 u114 u115 u116 u117 u118 u119 u120 u121 u122 u123 u124 u125 u126 u127 u128:Value}{Q0:Exit->Act->World->Prop}
theorem zrX{u1 u15 u20 u21:Value}{n3 c3 wl c6 kf ku:Nat}{A3 A6:Option Addr}{d x fnum fkind fof:Int}{fname:ByteArray}{frep fpk:Bool}{u:ValR}{PV:ValR->World->Prop}(hsub:IntKind.i64.wrap (d - (wl:Int))=x)(hkf0:w.cell? ⟨kf,0,none⟩=some (.string fname))(hkf1:w.cell? ⟨kf,1,none⟩=some (.int .i64 fnum))(hkf2:w.cell? ⟨kf,2,none⟩=some (.int .i64 fkind))(hkf3:w.cell? ⟨kf,3,none⟩=some (.bool frep))(hkf4:w.cell? ⟨kf,4,none⟩=some (.bool fpk))(hkf5:w.cell? ⟨kf,5,none⟩=some (.int .i64 fof))(hku0:w.cell? ⟨ku,0,none⟩=some (.int .i64 u.number))(hku1:w.cell? ⟨ku,1,none⟩=some (.slice u.a.1 u.words.length u.a.2))(hku2:w.cell? ⟨ku,2,none⟩=some (.slice u.b.1 u.texts.length u.b.2))(hku3:w.cell? ⟨ku,3,none⟩=some (.slice u.c.1 u.subs.length u.c.2))(hck:∀W:World,Ext w W->Calls prog 25 #[.slice A n c,.agg #[.string fname,.int .i64 fnum,.int .i64 fkind,.bool frep,.bool fpk,.int .i64 fof],.slice A3 n3 c3,.int .i64 (max 0 x)] W fun e W'=>e=.returned (.int .i64 0)/\Ext W W')(hvl:∀W:World,Ext w W->Calls prog 27 #[.slice A n c,.agg #[.string fname,.int .i64 fnum,.int .i64 fkind,.bool frep,.bool fpk,.int .i64 fof],.slice A3 n3 c3,.int .i64 (max 0 x)] W fun e W'=>∃y:ValR,e=.returned (.agg #[.int .i64 y.number,.slice y.a.1 y.words.length y.a.2,.slice y.b.1 y.texts.length y.b.2,.slice y.c.1 y.subs.length y.c.2])/\PV y W'/\Ext W W')(hsv:∀(W:World)(y:ValR),Ext w W->PV y W->Calls prog 26 #[.agg #[.int .i64 y.number,.slice y.a.1 y.words.length y.a.2,.slice y.b.1 y.texts.length y.b.2,.slice y.c.1 y.subs.length y.c.2],.agg #[.int .i64 u.number,.slice u.a.1 u.words.length u.a.2,.slice u.b.1 u.texts.length u.b.2,.slice u.c.1 u.subs.length u.c.2]] W fun e W'=>e=.returned (.bool true)/\Ext W W')(hK:∀(s80 s81 s82 s83 s84 s85 s86 s87 s88 s89 s90 s91 s92 s93 s94 s95 s96 s97 s98 s99 s100 s101 s102 s103 s104 s105 s106 s107:Value)(wz:World),s107=.bool false->Ext w wz->Q0 .normal ⟨#[.slice A n c,u1,u2,.int .i64 d,u4,u5,u6,u7,u8,u9,u10,.slice A3 n3 c3,u12,.slice A6 wl c6,u14,u15,.pointer (some ⟨kf,0,none⟩),u17,.pointer (some ⟨ku,0,none⟩),.bool true,u20,u21,u22,u23,u24,u25,u26,u27,u28,u29,u30,u31,u32,u33,u34,u35,u36,u37,u38,u39,u40,u41,u42,u43,u44,u45,u46,u47,u48,u49,u50,u51,u52,u53,u54,u55,u56,u57,u58,u59,u60,u61,u62,u63,u64,u65,u66,u67,u68,u69,u70,u71,u72,u73,u74,u75,u76,u77,u78,u79,s80,s81,s82,s83,s84,s85,s86,s87,s88,s89,s90,s91,s92,s93,s94,s95,s96,s97,s98,s99,s100,s101,s102,s103,s104,s105,s106,s107,u108,u109,u110,u111,u112,u113,u114,u115,u116,u117,u118,u119,u120,u121,u122,u123,u124,u125,u126,u127,u128],[]⟩ wz):
 Code.wp prog (regBk 14) (zeS Q0) ⟨#[.slice A n c,u1,u2,.int .i64 d,u4,u5,u6,u7,u8,u9,u10,.slice A3 n3 c3,u12,.slice A6 wl c6,u14,u15,.pointer (some ⟨kf,0,none⟩),u17,.pointer (some ⟨ku,0,none⟩),.bool true,u20,u21,u22,u23,u24,u25,u26,u27,u28,u29,u30,u31,u32,u33,u34,u35,u36,u37,u38,u39,u40,u41,u42,u43,u44,u45,u46,u47,u48,u49,u50,u51,u52,u53,u54,u55,u56,u57,u58,u59,u60,u61,u62,u63,u64,u65,u66,u67,u68,u69,u70,u71,u72,u73,u74,u75,u76,u77,u78,u79,u80,u81,u82,u83,u84,u85,u86,u87,u88,u89,u90,u91,u92,u93,u94,u95,u96,u97,u98,u99,u100,u101,u102,u103,u104,u105,u106,u107,u108,u109,u110,u111,u112,u113,u114,u115,u116,u117,u118,u119,u120,u121,u122,u123,u124,u125,u126,u127,u128],[]⟩ w:=by
 have HK:=zsz hK;clear hK
 conv=>arg 2;whnf
 obtain⟨I,hI⟩:∃I:Array Bool->Act->World->Prop,∀l a W,I l a W<->(∃σ:zoL,l=#[σ.b0,σ.b1,σ.b2,σ.b3,σ.b4,σ.b5,σ.b6,σ.b7,σ.b8,σ.b9,σ.b10,σ.b11,σ.b12,σ.b13,σ.b14,σ.b15,σ.b16,σ.b17,σ.b18,σ.b19,σ.b20,σ.b21,σ.b22,σ.b23,σ.b24,σ.b25,σ.b26,σ.b27]/\a=⟨#[.slice A n c,u1,u2,.int .i64 d,u4,u5,u6,u7,u8,u9,u10,.slice A3 n3 c3,u12,.slice A6 wl c6,u14,u15,.pointer (some ⟨kf,0,none⟩),u17,.pointer (some ⟨ku,0,none⟩),.bool true,u20,u21,u22,u23,u24,u25,u26,u27,u28,u29,u30,u31,u32,u33,u34,u35,u36,u37,u38,u39,u40,u41,u42,u43,u44,u45,u46,u47,u48,u49,u50,u51,u52,u53,u54,u55,u56,u57,u58,u59,u60,u61,u62,u63,u64,u65,u66,u67,u68,u69,u70,u71,u72,u73,u74,u75,u76,u77,u78,u79,σ.s80,σ.s81,σ.s82,σ.s83,σ.s84,σ.s85,σ.s86,σ.s87,σ.s88,σ.s89,σ.s90,σ.s91,σ.s92,σ.s93,σ.s94,σ.s95,σ.s96,σ.s97,σ.s98,σ.s99,σ.s100,σ.s101,σ.s102,σ.s103,σ.s104,σ.s105,σ.s106,σ.s107,u108,u109,u110,u111,u112,u113,u114,u115,u116,u117,u118,u119,u120,u121,u122,u123,u124,u125,u126,u127,u128],[]⟩/\zrg w n c n3 c3 wl c6 kf ku A A3 A6 d x fnum fkind fof fname frep fpk u PV σ W):=⟨_,fun _ _ _=>Iff.rfl⟩
 have HI:=zsz hI;clear hI;refine zbe (I:=I) (by kernel_rfl) (fun i l a W hi hr=> ?_) (fun l a W hi hr=> ?_) ?_
 . obtain⟨σ,rfl,rfl,G⟩:=(HI.out _ _ _).1 hi
   clear hi;obtain⟨hlt,hl,hd⟩:=zbo hr;clear hr;have hlt:i<28:=hlt;rcases(show i=0\/i=1\/i=2\/i=3\/i=4\/i=5\/i=6\/i=7\/i=8\/i=9\/i=10\/i=11\/i=12\/i=13\/i=14\/i=15\/i=16\/i=17\/i=18\/i=19\/i=20\/i=21\/i=22\/i=23\/i=24\/i=25\/i=26\/i=27 by omega)with rfl|rfl|rfl|rfl|rfl|rfl|rfl|rfl|rfl|rfl|rfl|rfl|rfl|rfl|rfl|rfl|rfl|rfl|rfl|rfl|rfl|rfl|rfl|rfl|rfl|rfl|rfl|rfl
   all_goals
    have hd:=hd _ rfl;clear hlt;simp[Region.binds]at hl hd;have e:=zsz hl;clear hl
   . refine zad rfl rfl fun K HK2=> ?_
     go_simp
     refine HK2.out _ _ ((HI.out _ _ _).2 ⟨{σ with b0:=true,s80:=_},rfl,rfl,{G with D1:=fun h=>ff e (G.D1 h),Q0:=fun _=>rfl}⟩)
   . have t0:σ.b0=true:=hd
     have er0:=G.Q0 t0;clear hd;refine zad rfl rfl fun K HK2=> ?_
     go_simp
     refine HK2.out _ _ ((HI.out _ _ _).2 ⟨{σ with b1:=true,s81:=_,s80:=_},rfl,rfl,{G with D1:=fun _=>t0,D2:=fun h=>ff e (G.D2 h),Q0:=fun _=>rfl,Q1:=fun _=>rfl}⟩)
   . have t1:σ.b1=true:=hd
     have er1:=G.Q1 t1;clear hd;refine zad rfl rfl fun K HK2=> ?_
     go_simp
     refine HK2.out _ _ ((HI.out _ _ _).2 ⟨{σ with b2:=true,s82:=_,s81:=_},rfl,rfl,{G with D2:=fun _=>t1,D3:=fun h=>ff e (G.D3 h),D4:=fun h=>ff e (G.D4 h),D5:=fun h=>ff e (G.D5 h),D6:=fun h=>ff e (G.D6 h),D7:=fun h=>ff e (G.D7 h),Q1:=fun _=>rfl,Q2:=fun _=>rfl}⟩)
   . have t2:σ.b2=true:=hd
     have er2:=G.Q2 t2;rw[er2];clear hd;refine zad rfl rfl fun K HK2=> ?_
     go_simp
     refine HK2.out _ _ ((HI.out _ _ _).2 ⟨{σ with b3:=true,s83:=_,s82:=_},rfl,rfl,{G with D3:=fun _=>t2,D11:=fun h=>ff e (G.D11 h).1,Q2:=fun _=>rfl,Q3:=fun _=>rfl}⟩)
   . have t2:σ.b2=true:=hd
     have er2:=G.Q2 t2;rw[er2];have X:=G.X;have g0:W.cell? ⟨kf,0,none⟩=some (.string fname):=X.of_cell hkf0;have g1:W.cell? ⟨kf,1,none⟩=some (.int .i64 fnum):=X.of_cell hkf1;have g2:W.cell? ⟨kf,2,none⟩=some (.int .i64 fkind):=X.of_cell hkf2;have g3:W.cell? ⟨kf,3,none⟩=some (.bool frep):=X.of_cell hkf3;have g4:W.cell? ⟨kf,4,none⟩=some (.bool fpk):=X.of_cell hkf4;have g5:W.cell? ⟨kf,5,none⟩=some (.int .i64 fof):=X.of_cell hkf5;have gl:=World.block_lt_of_cell? W _ g0;have HX:=zsz X;clear X;clear hd;refine zad rfl rfl fun K HK2=> ?_
     go_simp
     refine HK2.out _ _ ((HI.out _ _ _).2 ⟨{σ with b4:=true,s84:=_,s82:=_},rfl,rfl,{G with D4:=fun _=>t2,D11:=fun h=>ff e (G.D11 h).2.1,Q2:=fun _=>rfl,Q4:=fun _=>rfl}⟩)
   . have t2:σ.b2=true:=hd
     have er2:=G.Q2 t2;rw[er2];clear hd;refine zad rfl rfl fun K HK2=> ?_
     go_simp
     refine HK2.out _ _ ((HI.out _ _ _).2 ⟨{σ with b5:=true,s85:=_,s82:=_},rfl,rfl,{G with D5:=fun _=>t2,D11:=fun h=>ff e (G.D11 h).2.2.1,Q2:=fun _=>rfl,Q5:=fun _=>rfl}⟩)
   . have t2:σ.b2=true:=hd
     have er2:=G.Q2 t2;rw[er2];clear hd;refine zad rfl rfl fun K HK2=> ?_
     go_simp
     refine HK2.out _ _ ((HI.out _ _ _).2 ⟨{σ with b6:=true,s86:=_,s82:=_},rfl,rfl,{G with D6:=fun _=>t2,D9:=fun h=>ff e (G.D9 h).1,Q2:=fun _=>rfl,Q6:=fun _=>rfl}⟩)
   . have t2:σ.b2=true:=hd
     have er2:=G.Q2 t2;rw[er2];clear hd;refine zad rfl rfl fun K HK2=> ?_
     go_simp
     refine HK2.out _ _ ((HI.out _ _ _).2 ⟨{σ with b7:=true,s87:=_,s82:=_},rfl,rfl,{G with D7:=fun _=>t2,D8:=fun h=>ff e (G.D8 h),Q2:=fun _=>rfl,Q7:=fun _=>rfl}⟩)
   . have t7:σ.b7=true:=by simp[hd]
     have t2:σ.b2=true:=by simp[hd]
     have er2:=G.Q2 t2;have er7:=G.Q7 t7;rw[er2];clear hd;refine zad rfl rfl fun K HK2=> ?_
     go_simp
     refine HK2.out _ _ ((HI.out _ _ _).2 ⟨{σ with b8:=true,s88:=_,s82:=_,s87:=_},rfl,rfl,{G with D8:=fun _=>t7,D9:=fun h=>ff e (G.D9 h).2,Q2:=fun _=>rfl,Q8:=fun _=>rfl,Q7:=fun _=>rfl}⟩)
   . have t6:σ.b6=true:=by simp[hd]
     have t8:σ.b8=true:=by simp[hd]
     have t2:σ.b2=true:=by simp[hd]
     have er2:=G.Q2 t2;have er6:=G.Q6 t6;have er8:=G.Q8 t8;rw[er2];clear hd;refine zad rfl rfl fun K HK2=> ?_
     go_simp
     refine HK2.out _ _ ((HI.out _ _ _).2 ⟨{σ with b9:=true,s89:=_,s82:=_,s86:=_,s88:=_},rfl,rfl,{G with D9:=fun _=>⟨t6,t8⟩,D10:=fun h=>ff e (G.D10 h),Q2:=fun _=>rfl,Q9:=fun _=>rfl,Q6:=fun _=>rfl,Q8:=fun _=>rfl}⟩)
   . have t9:σ.b9=true:=by simp[hd]
     have t2:σ.b2=true:=by simp[hd]
     have er2:=G.Q2 t2;have er9:=G.Q9 t9;rw[er2];clear hd;refine zad rfl rfl fun K HK2=> ?_
     go_simp
     refine HK2.out _ _ ((HI.out _ _ _).2 ⟨{σ with b10:=true,s90:=_,s82:=_,s89:=_},rfl,rfl,{G with D10:=fun _=>t9,D11:=fun h=>ff e (G.D11 h).2.2.2,Q2:=fun _=>rfl,Q10:=fun _=>rfl,Q9:=fun _=>rfl}⟩)
   . have t3:σ.b3=true:=by simp[hd]
     have t4:σ.b4=true:=by simp[hd]
     have t5:σ.b5=true:=by simp[hd]
     have t10:σ.b10=true:=by simp[hd]
     have t2:σ.b2=true:=by simp[hd]
     have er2:=G.Q2 t2;have er3:=G.Q3 t3;have er4:=G.Q4 t4;have er5:=G.Q5 t5;have er10:=G.Q10 t10;rw[er2];have HX:=zsz G.X;clear hd;refine zad rfl rfl fun K HK2=> ?_
     go_simp
     go_at_call 25
     refine(hck W HX.out).mono ?_;rintro e1 W2 ⟨rfl,E2⟩
     (try dsimp only)
     (try simp only[Act.put,List.setIfInBounds_toArray,List.set_cons_zero,List.set_cons_succ])
     refine HK2.out _ _ ((HI.out _ _ _).2 ⟨{σ with b11:=true,s91:=_,s82:=_,s83:=_,s84:=_,s85:=_,s90:=_},rfl,rfl,{G with D11:=fun _=>⟨t3,t4,t5,t10⟩,D12:=fun h=>ff e (G.D12 h),Q2:=fun _=>rfl,Q3:=fun _=>rfl,Q4:=fun _=>rfl,Q5:=fun _=>rfl,Q10:=fun _=>rfl,Q11:=fun _=>rfl,X:=G.X.trans E2,F23:=fun h=>ff e (G.D12 (G.D13 (G.D14 (G.D15 (G.D23 h).1))))}⟩)
   . have t11:σ.b11=true:=by simp[hd]
     have t2:σ.b2=true:=by simp[hd]
     have er2:=G.Q2 t2;have er11:=G.Q11 t11;rw[er2];clear hd;refine zad rfl rfl fun K HK2=> ?_
     go_simp
     refine HK2.out _ _ ((HI.out _ _ _).2 ⟨{σ with b12:=true,s92:=_,s82:=_,s91:=_},rfl,rfl,{G with D12:=fun _=>t11,D13:=fun h=>ff e (G.D13 h),Q2:=fun _=>rfl,Q11:=fun _=>rfl,Q12:=fun _=>rfl}⟩)
   . have t2:σ.b2=true:=by simp[hd]
     have t12:σ.b12=true:=by simp[hd]
     have er2:=G.Q2 t2;have er12:=G.Q12 t12;clear hd;refine zad rfl rfl fun K HK2=> ?_
     go_simp
     refine HK2.out _ _ ((HI.out _ _ _).2 ⟨{σ with b13:=true,s93:=_,s82:=_,s92:=_},rfl,rfl,{G with D13:=fun _=>t12,D14:=fun h=>ff e (G.D14 h),Q2:=fun _=>rfl,Q12:=fun _=>rfl,Q13:=fun _=>rfl}⟩)
   . have t13:σ.b13=true:=by simp[hd]
     have er13:=G.Q13 t13;clear hd;refine zad rfl rfl fun K HK2=> ?_
     go_simp
     refine HK2.out _ _ ((HI.out _ _ _).2 ⟨{σ with b14:=true,s94:=_,s93:=_},rfl,rfl,{G with D14:=fun _=>t13,D15:=fun h=>ff e (G.D15 h),D16:=fun h=>ff e (G.D16 h),D17:=fun h=>ff e (G.D17 h),D18:=fun h=>ff e (G.D18 h),D19:=fun h=>ff e (G.D19 h),D24:=fun h=>ff e (G.D24 h),Q13:=fun _=>rfl,Q14:=fun _=>rfl}⟩)
   . have t14:σ.b14=true:=hd
     have er14:=G.Q14 t14;rw[er14];clear hd;refine zad rfl rfl fun K HK2=> ?_
     go_simp
     refine HK2.out _ _ ((HI.out _ _ _).2 ⟨{σ with b15:=true,s95:=_,s94:=_},rfl,rfl,{G with D15:=fun _=>t14,D23:=fun h=>ff e (G.D23 h).1,Q14:=fun _=>rfl,Q15:=fun _=>rfl}⟩)
   . have t14:σ.b14=true:=hd
     have er14:=G.Q14 t14;rw[er14];have X:=G.X;have g0:W.cell? ⟨kf,0,none⟩=some (.string fname):=X.of_cell hkf0;have g1:W.cell? ⟨kf,1,none⟩=some (.int .i64 fnum):=X.of_cell hkf1;have g2:W.cell? ⟨kf,2,none⟩=some (.int .i64 fkind):=X.of_cell hkf2;have g3:W.cell? ⟨kf,3,none⟩=some (.bool frep):=X.of_cell hkf3;have g4:W.cell? ⟨kf,4,none⟩=some (.bool fpk):=X.of_cell hkf4;have g5:W.cell? ⟨kf,5,none⟩=some (.int .i64 fof):=X.of_cell hkf5;have gl:=World.block_lt_of_cell? W _ g0;have HX:=zsz X;clear X;clear hd;refine zad rfl rfl fun K HK2=> ?_
     go_simp
     refine HK2.out _ _ ((HI.out _ _ _).2 ⟨{σ with b16:=true,s96:=_,s94:=_},rfl,rfl,{G with D16:=fun _=>t14,D23:=fun h=>ff e (G.D23 h).2.1,Q14:=fun _=>rfl,Q16:=fun _=>rfl}⟩)
   . have t14:σ.b14=true:=hd
     have er14:=G.Q14 t14;rw[er14];clear hd;refine zad rfl rfl fun K HK2=> ?_
     go_simp
     refine HK2.out _ _ ((HI.out _ _ _).2 ⟨{σ with b17:=true,s97:=_,s94:=_},rfl,rfl,{G with D17:=fun _=>t14,D23:=fun h=>ff e (G.D23 h).2.2.1,Q14:=fun _=>rfl,Q17:=fun _=>rfl}⟩)
   . have t14:σ.b14=true:=hd
     have er14:=G.Q14 t14;rw[er14];clear hd;refine zad rfl rfl fun K HK2=> ?_
     go_simp
     refine HK2.out _ _ ((HI.out _ _ _).2 ⟨{σ with b18:=true,s98:=_,s94:=_},rfl,rfl,{G with D18:=fun _=>t14,D21:=fun h=>ff e (G.D21 h).1,Q14:=fun _=>rfl,Q18:=fun _=>rfl}⟩)
   . have t14:σ.b14=true:=hd
     have er14:=G.Q14 t14;rw[er14];clear hd;refine zad rfl rfl fun K HK2=> ?_
     go_simp
     refine HK2.out _ _ ((HI.out _ _ _).2 ⟨{σ with b19:=true,s99:=_,s94:=_},rfl,rfl,{G with D19:=fun _=>t14,D20:=fun h=>ff e (G.D20 h),Q14:=fun _=>rfl,Q19:=fun _=>rfl}⟩)
   . have t19:σ.b19=true:=by simp[hd]
     have t14:σ.b14=true:=by simp[hd]
     have er14:=G.Q14 t14;have er19:=G.Q19 t19;rw[er14];clear hd;refine zad rfl rfl fun K HK2=> ?_
     go_simp
     refine HK2.out _ _ ((HI.out _ _ _).2 ⟨{σ with b20:=true,s100:=_,s94:=_,s99:=_},rfl,rfl,{G with D20:=fun _=>t19,D21:=fun h=>ff e (G.D21 h).2,Q14:=fun _=>rfl,Q20:=fun _=>rfl,Q19:=fun _=>rfl}⟩)
   . have t18:σ.b18=true:=by simp[hd]
     have t20:σ.b20=true:=by simp[hd]
     have t14:σ.b14=true:=by simp[hd]
     have er14:=G.Q14 t14;have er18:=G.Q18 t18;have er20:=G.Q20 t20;rw[er14];clear hd;refine zad rfl rfl fun K HK2=> ?_
     go_simp
     refine HK2.out _ _ ((HI.out _ _ _).2 ⟨{σ with b21:=true,s101:=_,s94:=_,s98:=_,s100:=_},rfl,rfl,{G with D21:=fun _=>⟨t18,t20⟩,D22:=fun h=>ff e (G.D22 h),Q14:=fun _=>rfl,Q21:=fun _=>rfl,Q18:=fun _=>rfl,Q20:=fun _=>rfl}⟩)
   . have t21:σ.b21=true:=by simp[hd]
     have t14:σ.b14=true:=by simp[hd]
     have er14:=G.Q14 t14;have er21:=G.Q21 t21;rw[er14];clear hd;refine zad rfl rfl fun K HK2=> ?_
     go_simp
     refine HK2.out _ _ ((HI.out _ _ _).2 ⟨{σ with b22:=true,s102:=_,s94:=_,s101:=_},rfl,rfl,{G with D22:=fun _=>t21,D23:=fun h=>ff e (G.D23 h).2.2.2,Q14:=fun _=>rfl,Q22:=fun _=>rfl,Q21:=fun _=>rfl}⟩)
   . have t15:σ.b15=true:=by simp[hd]
     have t16:σ.b16=true:=by simp[hd]
     have t17:σ.b17=true:=by simp[hd]
     have t22:σ.b22=true:=by simp[hd]
     have t14:σ.b14=true:=by simp[hd]
     have er14:=G.Q14 t14;have er15:=G.Q15 t15;have er16:=G.Q16 t16;have er17:=G.Q17 t17;have er22:=G.Q22 t22;rw[er14];have HX:=zsz G.X;clear hd;refine zad rfl rfl fun K HK2=> ?_
     go_simp
     go_at_call 27
     refine(hvl W HX.out).mono ?_;rintro e1 W2 ⟨y,rfl,hpv,E2⟩
     (try dsimp only)
     (try simp only[Act.put,List.setIfInBounds_toArray,List.set_cons_zero,List.set_cons_succ])
     refine HK2.out _ _ ((HI.out _ _ _).2 ⟨{σ with b23:=true,s103:=_,s94:=_,s95:=_,s96:=_,s97:=_,s102:=_,y:=y},rfl,rfl,{G with D23:=fun _=>⟨t15,t16,t17,t22⟩,D25:=fun h=>ff e (G.D25 h).1,Q14:=fun _=>rfl,Q15:=fun _=>rfl,Q16:=fun _=>rfl,Q17:=fun _=>rfl,Q22:=fun _=>rfl,Q23:=fun _=>rfl,X:=G.X.trans E2,F23:=fun _ _=>hpv,Q25:=fun h=>ff e (G.D25 h).1,Q26:=fun h=>ff e (G.D25 (G.D26 h)).1,Q27:=fun h=>ff e (G.D25 (G.D26 (G.D27 h))).1}⟩)
   . have t14:σ.b14=true:=hd
     have er14:=G.Q14 t14;rw[er14];have X:=G.X;have g0:W.cell? ⟨ku,0,none⟩=some (.int .i64 u.number):=X.of_cell hku0;have g1:W.cell? ⟨ku,1,none⟩=some (.slice u.a.1 u.words.length u.a.2):=X.of_cell hku1;have g2:W.cell? ⟨ku,2,none⟩=some (.slice u.b.1 u.texts.length u.b.2):=X.of_cell hku2;have g3:W.cell? ⟨ku,3,none⟩=some (.slice u.c.1 u.subs.length u.c.2):=X.of_cell hku3;have gl:=World.block_lt_of_cell? W _ g0;have HX:=zsz X;clear X;clear hd;refine zad rfl rfl fun K HK2=> ?_
     go_simp
     refine HK2.out _ _ ((HI.out _ _ _).2 ⟨{σ with b24:=true,s104:=_,s94:=_},rfl,rfl,{G with D24:=fun _=>t14,D25:=fun h=>ff e (G.D25 h).2,Q14:=fun _=>rfl,Q24:=fun _=>rfl}⟩)
   . have t23:σ.b23=true:=by simp[hd]
     have t24:σ.b24=true:=by simp[hd]
     have t14:σ.b14=true:=by simp[hd]
     have er14:=G.Q14 t14;have er23:=G.Q23 t23;have er24:=G.Q24 t24;rw[er14];have HX:=zsz G.X;have HP:=zsz (G.F23 t23 e);clear hd;refine zad rfl rfl fun K HK2=> ?_
     go_simp
     go_at_call 26
     refine(hsv W _ HX.out HP.out).mono ?_;rintro e1 W2 ⟨rfl,E2⟩
     (try dsimp only)
     (try simp only[Act.put,List.setIfInBounds_toArray,List.set_cons_zero,List.set_cons_succ])
     refine HK2.out _ _ ((HI.out _ _ _).2 ⟨{σ with b25:=true,s105:=_,s94:=_,s103:=_,s104:=_},rfl,rfl,{G with D25:=fun _=>⟨t23,t24⟩,D26:=fun h=>ff e (G.D26 h),Q14:=fun _=>rfl,Q23:=fun _=>rfl,Q24:=fun _=>rfl,Q25:=fun _=>rfl,X:=G.X.trans E2,F23:=(fun _ h=>by cases h)}⟩)
   . have t25:σ.b25=true:=by simp[hd]
     have t14:σ.b14=true:=by simp[hd]
     have er14:=G.Q14 t14;have er25:=G.Q25 t25;rw[er14];clear hd;refine zad rfl rfl fun K HK2=> ?_
     go_simp
     refine HK2.out _ _ ((HI.out _ _ _).2 ⟨{σ with b26:=true,s106:=_,s94:=_,s105:=_},rfl,rfl,{G with D26:=fun _=>t25,D27:=fun h=>ff e (G.D27 h),Q14:=fun _=>rfl,Q25:=fun _=>rfl,Q26:=fun _=>rfl}⟩)
   . have t14:σ.b14=true:=by simp[hd]
     have t26:σ.b26=true:=by simp[hd]
     have er14:=G.Q14 t14;have er26:=G.Q26 t26;clear hd;refine zad rfl rfl fun K HK2=> ?_
     go_simp
     refine HK2.out _ _ ((HI.out _ _ _).2 ⟨{σ with b27:=true,s107:=_,s94:=_,s106:=_},rfl,rfl,{G with D27:=fun _=>t26,Q14:=fun _=>rfl,Q26:=fun _=>rfl,Q27:=fun _=>rfl}⟩)
 . obtain⟨σ,rfl,rfl,G⟩:=(HI.out _ _ _).1 hi
   clear hi;have t0:σ.b0=true:=zaa hr (i:=0) rfl (by simp[Region.binds]) (show 0<28 by decide);have t1:σ.b1=true:=zaa hr (i:=1) rfl (by simp[Region.binds,t0]) (show 1<28 by decide);have t2:σ.b2=true:=zaa hr (i:=2) rfl (by simp[Region.binds,t1]) (show 2<28 by decide);have t3:σ.b3=true:=zaa hr (i:=3) rfl (by simp[Region.binds,t2]) (show 3<28 by decide);have t4:σ.b4=true:=zaa hr (i:=4) rfl (by simp[Region.binds,t2]) (show 4<28 by decide);have t5:σ.b5=true:=zaa hr (i:=5) rfl (by simp[Region.binds,t2]) (show 5<28 by decide);have t6:σ.b6=true:=zaa hr (i:=6) rfl (by simp[Region.binds,t2]) (show 6<28 by decide);have t7:σ.b7=true:=zaa hr (i:=7) rfl (by simp[Region.binds,t2]) (show 7<28 by decide);have t8:σ.b8=true:=zaa hr (i:=8) rfl (by simp[Region.binds,t7,t2]) (show 8<28 by decide);have t9:σ.b9=true:=zaa hr (i:=9) rfl (by simp[Region.binds,t6,t8,t2]) (show 9<28 by decide);have t10:σ.b10=true:=zaa hr (i:=10) rfl (by simp[Region.binds,t9,t2]) (show 10<28 by decide);have t11:σ.b11=true:=zaa hr (i:=11) rfl (by simp[Region.binds,t3,t4,t5,t10,t2]) (show 11<28 by decide);have t12:σ.b12=true:=zaa hr (i:=12) rfl (by simp[Region.binds,t11,t2]) (show 12<28 by decide);have t13:σ.b13=true:=zaa hr (i:=13) rfl (by simp[Region.binds,t2,t12]) (show 13<28 by decide);have t14:σ.b14=true:=zaa hr (i:=14) rfl (by simp[Region.binds,t13,t11]) (show 14<28 by decide);have t15:σ.b15=true:=zaa hr (i:=15) rfl (by simp[Region.binds,t14]) (show 15<28 by decide);have t16:σ.b16=true:=zaa hr (i:=16) rfl (by simp[Region.binds,t14]) (show 16<28 by decide);have t17:σ.b17=true:=zaa hr (i:=17) rfl (by simp[Region.binds,t14]) (show 17<28 by decide);have t18:σ.b18=true:=zaa hr (i:=18) rfl (by simp[Region.binds,t14]) (show 18<28 by decide);have t19:σ.b19=true:=zaa hr (i:=19) rfl (by simp[Region.binds,t14]) (show 19<28 by decide);have t20:σ.b20=true:=zaa hr (i:=20) rfl (by simp[Region.binds,t19,t14]) (show 20<28 by decide);have t21:σ.b21=true:=zaa hr (i:=21) rfl (by simp[Region.binds,t18,t20,t14]) (show 21<28 by decide);have t22:σ.b22=true:=zaa hr (i:=22) rfl (by simp[Region.binds,t21,t14]) (show 22<28 by decide);have t23:σ.b23=true:=zaa hr (i:=23) rfl (by simp[Region.binds,t15,t16,t17,t22,t14]) (show 23<28 by decide);have t24:σ.b24=true:=zaa hr (i:=24) rfl (by simp[Region.binds,t14]) (show 24<28 by decide);have t25:σ.b25=true:=zaa hr (i:=25) rfl (by simp[Region.binds,t23,t24,t14]) (show 25<28 by decide);have t26:σ.b26=true:=zaa hr (i:=26) rfl (by simp[Region.binds,t25,t14]) (show 26<28 by decide);have t27:σ.b27=true:=zaa hr (i:=27) rfl (by simp[Region.binds,t14,t26]) (show 27<28 by decide);exact HK.out _ _ _ _ _ _ _ _ _ _ _ _ _ _ _ _ _ _ _ _ _ _ _ _ _ _ _ _ W (G.Q27 t27) G.X
 . refine(HI.out _ _ _).2 ⟨⟨false,false,false,false,false,false,false,false,false,false,false,false,false,false,false,false,false,false,false,false,false,false,false,false,false,false,false,false,_,_,_,_,_,_,_,_,_,_,_,_,_,_,_,_,_,_,_,_,_,_,_,_,_,_,_,_,u⟩,rfl,rfl,?_⟩
   constructor
   all_goals (try dsimp only)
   all_goals first|exact(Ext.refl w).drew|exact fun _=>(Ext.refl w).drew|(intro h;cases h;done)
structure zoM where
 (b0 b1 b2 b3 b4 b5 b6 b7 b8 b9 b10 b11:Bool)
 (s10 s118 s119 s120 s121 s122 s123 s124 s125 s126 s127 s128:Value)
 (y:MsgR)
structure zrh(w:World)(n c n20 c20 kx:Nat)(A A20:Option Addr)(root:Int)(z:MsgR)(PY:MsgR->World->Prop)(σ:zoM)(W:World):Prop where
 X:Ext w W
 Q0:σ.b0=true->σ.s118=.int .u8 0
 Q1:σ.b1=true->σ.s119=.int .i64 0
 Q2:σ.b2=true->σ.s120=.bool true
 Q3:σ.b3=true->σ.s121=.bool true
 Q4:σ.b4=true->σ.s122=.slice A n c
 Q5:σ.b5=true->σ.s123=.int .i64 root
 Q6:σ.b6=true->σ.s124=.slice A20 n20 c20
 Q7:σ.b7=true->σ.s125=.agg #[.slice σ.y.a.1 σ.y.vals.length σ.y.a.2,.slice σ.y.b.1 σ.y.unk.length σ.y.b.2]
 Q8:σ.b8=true->σ.s126=.agg #[.slice z.a.1 z.vals.length z.a.2,.slice z.b.1 z.unk.length z.b.2]
 Q9:σ.b9=true->σ.s127=.bool true
 Q10:σ.b10=true->σ.s128=.bool true
 Q11:σ.b11=true->σ.s10=.bool true
 F7:σ.b7=true->σ.b9=false->PY σ.y W
 D1:σ.b1=true->σ.b0=true
 D2:σ.b2=true->σ.b1=true
 D3:σ.b3=true->σ.b2=true
 D4:σ.b4=true->σ.b3=true
 D5:σ.b5=true->σ.b3=true
 D6:σ.b6=true->σ.b3=true
 D7:σ.b7=true->σ.b4=true/\σ.b5=true/\σ.b6=true
 D8:σ.b8=true->σ.b3=true
 D9:σ.b9=true->σ.b7=true/\σ.b8=true
 D10:σ.b10=true->σ.b9=true
 D11:σ.b11=true->σ.b10=true
theorem zrY{u3 u11 u13 u16 u18 u19:Value}{n20 c20 kx:Nat}{A20:Option Addr}{root:Int}{z:MsgR}{PY:MsgR->World->Prop}(hkx0:w.cell? ⟨kx,0,none⟩=some (.slice z.a.1 z.vals.length z.a.2))(hkx1:w.cell? ⟨kx,1,none⟩=some (.slice z.b.1 z.unk.length z.b.2))(hof:∀W:World,Ext w W->Calls prog 11 #[.slice A n c,.int .i64 root,.slice A20 n20 c20] W fun e W'=>∃y:MsgR,e=.returned (.agg #[.slice y.a.1 y.vals.length y.a.2,.slice y.b.1 y.unk.length y.b.2])/\PY y W'/\Ext W W')(hsm:∀(W:World)(y:MsgR),Ext w W->PY y W->Calls prog 29 #[.agg #[.slice y.a.1 y.vals.length y.a.2,.slice y.b.1 y.unk.length y.b.2],.agg #[.slice z.a.1 z.vals.length z.a.2,.slice z.b.1 z.unk.length z.b.2]] W fun e W'=>e=.returned (.bool true)/\Ext W W')(hK:∀(s10 s118 s119 s120 s121 s122 s123 s124 s125 s126 s127 s128:Value)(wz:World),s10=.bool true->Ext w wz->Q0 .normal ⟨#[.slice A n c,.int .i64 root,u2,u3,u4,u5,u6,u7,u8,u9,s10,u11,u12,u13,u14,.pointer (some ⟨kx,0,none⟩),u16,u17,u18,u19,.slice A20 n20 c20,.int .u8 0,u22,u23,u24,u25,u26,u27,u28,u29,u30,u31,u32,u33,u34,u35,u36,u37,u38,u39,u40,u41,u42,u43,u44,u45,u46,u47,u48,u49,u50,u51,u52,u53,u54,u55,u56,u57,u58,u59,u60,u61,u62,u63,u64,u65,u66,u67,u68,u69,u70,u71,u72,u73,u74,u75,u76,u77,u78,u79,u80,u81,u82,u83,u84,u85,u86,u87,u88,u89,u90,u91,u92,u93,u94,u95,u96,u97,u98,u99,u100,u101,u102,u103,u104,u105,u106,u107,u108,u109,u110,u111,u112,u113,u114,u115,u116,u117,s118,s119,s120,s121,s122,s123,s124,s125,s126,s127,s128],[]⟩ wz):
 Code.wp prog (regBk 17) (zeS Q0) ⟨#[.slice A n c,.int .i64 root,u2,u3,u4,u5,u6,u7,u8,u9,u10,u11,u12,u13,u14,.pointer (some ⟨kx,0,none⟩),u16,u17,u18,u19,.slice A20 n20 c20,.int .u8 0,u22,u23,u24,u25,u26,u27,u28,u29,u30,u31,u32,u33,u34,u35,u36,u37,u38,u39,u40,u41,u42,u43,u44,u45,u46,u47,u48,u49,u50,u51,u52,u53,u54,u55,u56,u57,u58,u59,u60,u61,u62,u63,u64,u65,u66,u67,u68,u69,u70,u71,u72,u73,u74,u75,u76,u77,u78,u79,u80,u81,u82,u83,u84,u85,u86,u87,u88,u89,u90,u91,u92,u93,u94,u95,u96,u97,u98,u99,u100,u101,u102,u103,u104,u105,u106,u107,u108,u109,u110,u111,u112,u113,u114,u115,u116,u117,u118,u119,u120,u121,u122,u123,u124,u125,u126,u127,u128],[]⟩ w:=by
 have HK:=zsz hK;clear hK
 conv=>arg 2;whnf
 obtain⟨I,hI⟩:∃I:Array Bool->Act->World->Prop,∀l a W,I l a W<->(∃σ:zoM,l=#[σ.b0,σ.b1,σ.b2,σ.b3,σ.b4,σ.b5,σ.b6,σ.b7,σ.b8,σ.b9,σ.b10,σ.b11]/\a=⟨#[.slice A n c,.int .i64 root,u2,u3,u4,u5,u6,u7,u8,u9,σ.s10,u11,u12,u13,u14,.pointer (some ⟨kx,0,none⟩),u16,u17,u18,u19,.slice A20 n20 c20,.int .u8 0,u22,u23,u24,u25,u26,u27,u28,u29,u30,u31,u32,u33,u34,u35,u36,u37,u38,u39,u40,u41,u42,u43,u44,u45,u46,u47,u48,u49,u50,u51,u52,u53,u54,u55,u56,u57,u58,u59,u60,u61,u62,u63,u64,u65,u66,u67,u68,u69,u70,u71,u72,u73,u74,u75,u76,u77,u78,u79,u80,u81,u82,u83,u84,u85,u86,u87,u88,u89,u90,u91,u92,u93,u94,u95,u96,u97,u98,u99,u100,u101,u102,u103,u104,u105,u106,u107,u108,u109,u110,u111,u112,u113,u114,u115,u116,u117,σ.s118,σ.s119,σ.s120,σ.s121,σ.s122,σ.s123,σ.s124,σ.s125,σ.s126,σ.s127,σ.s128],[]⟩/\zrh w n c n20 c20 kx A A20 root z PY σ W):=⟨_,fun _ _ _=>Iff.rfl⟩
 have HI:=zsz hI;clear hI;refine zbe (I:=I) (by kernel_rfl) (fun i l a W hi hr=> ?_) (fun l a W hi hr=> ?_) ?_
 . obtain⟨σ,rfl,rfl,G⟩:=(HI.out _ _ _).1 hi
   clear hi;obtain⟨hlt,hl,hd⟩:=zbo hr;clear hr;have hlt:i<12:=hlt;rcases(show i=0\/i=1\/i=2\/i=3\/i=4\/i=5\/i=6\/i=7\/i=8\/i=9\/i=10\/i=11 by omega)with rfl|rfl|rfl|rfl|rfl|rfl|rfl|rfl|rfl|rfl|rfl|rfl
   all_goals
    have hd:=hd _ rfl;clear hlt;simp[Region.binds]at hl hd;have e:=zsz hl;clear hl
   . refine zad rfl rfl fun K HK2=> ?_
     go_simp
     refine HK2.out _ _ ((HI.out _ _ _).2 ⟨{σ with b0:=true,s118:=_},rfl,rfl,{G with D1:=fun h=>ff e (G.D1 h),Q0:=fun _=>rfl}⟩)
   . have t0:σ.b0=true:=hd
     have er0:=G.Q0 t0;clear hd;refine zad rfl rfl fun K HK2=> ?_
     go_simp
     refine HK2.out _ _ ((HI.out _ _ _).2 ⟨{σ with b1:=true,s119:=_,s118:=_},rfl,rfl,{G with D1:=fun _=>t0,D2:=fun h=>ff e (G.D2 h),Q0:=fun _=>rfl,Q1:=fun _=>rfl}⟩)
   . have t1:σ.b1=true:=hd
     have er1:=G.Q1 t1;clear hd;refine zad rfl rfl fun K HK2=> ?_
     go_simp
     refine HK2.out _ _ ((HI.out _ _ _).2 ⟨{σ with b2:=true,s120:=_,s119:=_},rfl,rfl,{G with D2:=fun _=>t1,D3:=fun h=>ff e (G.D3 h),Q1:=fun _=>rfl,Q2:=fun _=>rfl}⟩)
   . have t2:σ.b2=true:=hd
     have er2:=G.Q2 t2;clear hd;refine zad rfl rfl fun K HK2=> ?_
     go_simp
     refine HK2.out _ _ ((HI.out _ _ _).2 ⟨{σ with b3:=true,s121:=_,s120:=_},rfl,rfl,{G with D3:=fun _=>t2,D4:=fun h=>ff e (G.D4 h),D5:=fun h=>ff e (G.D5 h),D6:=fun h=>ff e (G.D6 h),D8:=fun h=>ff e (G.D8 h),Q2:=fun _=>rfl,Q3:=fun _=>rfl}⟩)
   . have t3:σ.b3=true:=hd
     have er3:=G.Q3 t3;rw[er3];clear hd;refine zad rfl rfl fun K HK2=> ?_
     go_simp
     refine HK2.out _ _ ((HI.out _ _ _).2 ⟨{σ with b4:=true,s122:=_,s121:=_},rfl,rfl,{G with D4:=fun _=>t3,D7:=fun h=>ff e (G.D7 h).1,Q3:=fun _=>rfl,Q4:=fun _=>rfl}⟩)
   . have t3:σ.b3=true:=hd
     have er3:=G.Q3 t3;rw[er3];clear hd;refine zad rfl rfl fun K HK2=> ?_
     go_simp
     refine HK2.out _ _ ((HI.out _ _ _).2 ⟨{σ with b5:=true,s123:=_,s121:=_},rfl,rfl,{G with D5:=fun _=>t3,D7:=fun h=>ff e (G.D7 h).2.1,Q3:=fun _=>rfl,Q5:=fun _=>rfl}⟩)
   . have t3:σ.b3=true:=hd
     have er3:=G.Q3 t3;rw[er3];clear hd;refine zad rfl rfl fun K HK2=> ?_
     go_simp
     refine HK2.out _ _ ((HI.out _ _ _).2 ⟨{σ with b6:=true,s124:=_,s121:=_},rfl,rfl,{G with D6:=fun _=>t3,D7:=fun h=>ff e (G.D7 h).2.2,Q3:=fun _=>rfl,Q6:=fun _=>rfl}⟩)
   . have t4:σ.b4=true:=by simp[hd]
     have t5:σ.b5=true:=by simp[hd]
     have t6:σ.b6=true:=by simp[hd]
     have t3:σ.b3=true:=by simp[hd]
     have er3:=G.Q3 t3;have er4:=G.Q4 t4;have er5:=G.Q5 t5;have er6:=G.Q6 t6;rw[er3];have HX:=zsz G.X;clear hd;refine zad rfl rfl fun K HK2=> ?_
     go_simp
     go_at_call 11
     refine(hof W HX.out).mono ?_;rintro e1 W2 ⟨y,rfl,hpy,E2⟩
     (try dsimp only)
     (try simp only[Act.put,List.setIfInBounds_toArray,List.set_cons_zero,List.set_cons_succ])
     refine HK2.out _ _ ((HI.out _ _ _).2 ⟨{σ with b7:=true,s125:=_,s121:=_,s122:=_,s123:=_,s124:=_,y:=y},rfl,rfl,{G with D7:=fun _=>⟨t4,t5,t6⟩,D9:=fun h=>ff e (G.D9 h).1,Q3:=fun _=>rfl,Q4:=fun _=>rfl,Q5:=fun _=>rfl,Q6:=fun _=>rfl,Q7:=fun _=>rfl,X:=G.X.trans E2,F7:=fun _ _=>hpy,Q9:=fun h=>ff e (G.D9 h).1,Q10:=fun h=>ff e (G.D9 (G.D10 h)).1,Q11:=fun h=>ff e (G.D9 (G.D10 (G.D11 h))).1}⟩)
   . have t3:σ.b3=true:=hd
     have er3:=G.Q3 t3;rw[er3];have X:=G.X;have g0:W.cell? ⟨kx,0,none⟩=some (.slice z.a.1 z.vals.length z.a.2):=X.of_cell hkx0;have g1:W.cell? ⟨kx,1,none⟩=some (.slice z.b.1 z.unk.length z.b.2):=X.of_cell hkx1;have gl:=World.block_lt_of_cell? W _ g0;have HX:=zsz X;clear X;clear hd;refine zad rfl rfl fun K HK2=> ?_
     go_simp
     refine HK2.out _ _ ((HI.out _ _ _).2 ⟨{σ with b8:=true,s126:=_,s121:=_},rfl,rfl,{G with D8:=fun _=>t3,D9:=fun h=>ff e (G.D9 h).2,Q3:=fun _=>rfl,Q8:=fun _=>rfl}⟩)
   . have t7:σ.b7=true:=by simp[hd]
     have t8:σ.b8=true:=by simp[hd]
     have t3:σ.b3=true:=by simp[hd]
     have er3:=G.Q3 t3;have er7:=G.Q7 t7;have er8:=G.Q8 t8;rw[er3];have HX:=zsz G.X;have HP:=zsz (G.F7 t7 e);clear hd;refine zad rfl rfl fun K HK2=> ?_
     go_simp
     go_at_call 29
     refine(hsm W _ HX.out HP.out).mono ?_;rintro e1 W2 ⟨rfl,E2⟩
     (try dsimp only)
     (try simp only[Act.put,List.setIfInBounds_toArray,List.set_cons_zero,List.set_cons_succ])
     refine HK2.out _ _ ((HI.out _ _ _).2 ⟨{σ with b9:=true,s127:=_,s121:=_,s125:=_,s126:=_},rfl,rfl,{G with D9:=fun _=>⟨t7,t8⟩,D10:=fun h=>ff e (G.D10 h),Q3:=fun _=>rfl,Q7:=fun _=>rfl,Q8:=fun _=>rfl,Q9:=fun _=>rfl,X:=G.X.trans E2,F7:=(fun _ h=>by cases h)}⟩)
   . have t3:σ.b3=true:=by simp[hd]
     have t9:σ.b9=true:=by simp[hd]
     have er3:=G.Q3 t3;have er9:=G.Q9 t9;clear hd;refine zad rfl rfl fun K HK2=> ?_
     go_simp
     refine HK2.out _ _ ((HI.out _ _ _).2 ⟨{σ with b10:=true,s128:=_,s121:=_,s127:=_},rfl,rfl,{G with D10:=fun _=>t9,D11:=fun h=>ff e (G.D11 h),Q3:=fun _=>rfl,Q9:=fun _=>rfl,Q10:=fun _=>rfl}⟩)
   . have t10:σ.b10=true:=by simp[hd]
     have er10:=G.Q10 t10;clear hd;refine zad rfl rfl fun K HK2=> ?_
     go_simp
     refine HK2.out _ _ ((HI.out _ _ _).2 ⟨{σ with b11:=true,s10:=_,s128:=_},rfl,rfl,{G with D11:=fun _=>t10,Q10:=fun _=>rfl,Q11:=fun _=>rfl}⟩)
 . obtain⟨σ,rfl,rfl,G⟩:=(HI.out _ _ _).1 hi
   clear hi;have t0:σ.b0=true:=zaa hr (i:=0) rfl (by simp[Region.binds]) (show 0<12 by decide);have t1:σ.b1=true:=zaa hr (i:=1) rfl (by simp[Region.binds,t0]) (show 1<12 by decide);have t2:σ.b2=true:=zaa hr (i:=2) rfl (by simp[Region.binds,t1]) (show 2<12 by decide);have t3:σ.b3=true:=zaa hr (i:=3) rfl (by simp[Region.binds,t2]) (show 3<12 by decide);have t4:σ.b4=true:=zaa hr (i:=4) rfl (by simp[Region.binds,t3]) (show 4<12 by decide);have t5:σ.b5=true:=zaa hr (i:=5) rfl (by simp[Region.binds,t3]) (show 5<12 by decide);have t6:σ.b6=true:=zaa hr (i:=6) rfl (by simp[Region.binds,t3]) (show 6<12 by decide);have t7:σ.b7=true:=zaa hr (i:=7) rfl (by simp[Region.binds,t4,t5,t6,t3]) (show 7<12 by decide);have t8:σ.b8=true:=zaa hr (i:=8) rfl (by simp[Region.binds,t3]) (show 8<12 by decide);have t9:σ.b9=true:=zaa hr (i:=9) rfl (by simp[Region.binds,t7,t8,t3]) (show 9<12 by decide);have t10:σ.b10=true:=zaa hr (i:=10) rfl (by simp[Region.binds,t3,t9]) (show 10<12 by decide);have t11:σ.b11=true:=zaa hr (i:=11) rfl (by simp[Region.binds,t10,t9,t0,t1,t2,t3,t4,t5,t6,t7,t8]) (show 11<12 by decide);exact HK.out _ _ _ _ _ _ _ _ _ _ _ _ W (G.Q11 t11) G.X
 . refine(HI.out _ _ _).2 ⟨⟨false,false,false,false,false,false,false,false,false,false,false,false,_,_,_,_,_,_,_,_,_,_,_,_,z⟩,rfl,rfl,?_⟩
   constructor
   all_goals (try dsimp only)
   all_goals first|exact(Ext.refl w).drew|exact fun _=>(Ext.refl w).drew|(intro h;cases h;done)
end Go.Proofs.YtpicpebolghcfaaGreatDoor
