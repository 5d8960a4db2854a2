/- Layer 21 (update): the drawn regions of (*change).at. (Printed by gen_set.py.) -/
import Derived.Test.YtpicpebolghcfaaGreatDoorQlW72
import Derived.Test.YtpicpebolghcfaaGreatDoorQlInv2

set_option linter.unusedVariables false
set_option linter.unusedSimpArgs false
set_option maxRecDepth 100000
set_option maxHeartbeats 4000000
namespace Go.Proofs.YtpicpebolghcfaaGreatDoor
open Go.RowKit Go.Shelf Tryz
variable{w:World}
theorem zhF{P:Program}{ops:Array Oper}{Q:Exit->Act->World->Prop}{i:Nat}{o:Oper}{K2:Act->World->Prop}{a:Act}(ho:ops[i]?=some o)(hw:Region.wanted o (yielded ops a.tmps)=false)(h:K2 (a.put o.dst undef) w):wpOp P ops Q i K2 a w:=by
 unfold wpOp;rw[ho];simp only;rw[if_neg (by rw[hw];simp)];exact h
noncomputable def regSe(n:Nat):Code:=((Tryz.f91.body.bind (zbu n)).getD .skip)
structure zms where
 (b0 b1 b2 b3 b4 b5 b6 b7 b8 b9 b10 b11 b12 b13 b14 b15 b16 b17 b18 b19 b20 b21 b22:Bool)
 (s16 s97 s98 s99 s100 s101 s102 s103 s104 s105 s106 s107 s108 s109 s110 s111 s112 s113 s114 s115 s116 s117 s118:Value)
 (A8:Option Addr)
 (n8:Nat)
 (c8:Nat)
 (Az:Option Addr)
 (nz:Nat)
 (cz:Nat)
structure zqd(w:World)(kc kv nb cb wb wo k kcc n16 k16 wn wc vn vc q va vt:Nat)(B cutA A16 A9 A10:Option Addr)(z fof:Int)(PB PC:Option Addr->Nat->Nat->World->Prop)(σ:zms)(W:World):Prop where
 X:σ.b21=false->Ext w W
 S16:σ.b22=false->σ.s16=.slice A16 n16 k16
 Q0:σ.b0=true->σ.s97=.slice A16 n16 k16
 Q1:σ.b1=true->σ.s98=.slice A9 wn wc
 Q2:σ.b2=true->σ.s99=.pointer (some ⟨kc,0,none⟩)
 Q3:σ.b3=true->σ.s100=.int .i64 fof
 Q4:σ.b4=true->σ.s101=.slice B nb cb
 Q5:σ.b5=true->σ.s102=.pointer (some ⟨kv,0,none⟩)
 Q6:σ.b6=true->σ.s103=.pointer (some ⟨kv,3,none⟩)
 Q7:σ.b7=true->σ.s104=.int .i64 (va:Int)
 Q8:σ.b8=true->σ.s105=.pointer (some ⟨kv,0,none⟩)
 Q9:σ.b9=true->σ.s106=.pointer (some ⟨kv,4,none⟩)
 Q10:σ.b10=true->σ.s107=.int .i64 (vt:Int)
 Q11:σ.b11=true->σ.s108=.slice A10 vn vc
 Q12:σ.b12=true->σ.s109=.slice (some ⟨wb,wo,none⟩) k kcc
 Q13:σ.b13=true->σ.s110=.slice cutA (k - 1) (kcc - 1)
 Q14:σ.b14=true->σ.s111=.bool true
 Q15:σ.b15=true->σ.s112=.bool true
 Q19:σ.b19=true->σ.s116=.bool ((q:Int)==z)
 Q20:σ.b20=true->σ.s117=.slice σ.A8 σ.n8 σ.c8
 Q21:σ.b21=true->σ.s118=.slice σ.Az σ.nz σ.cz
 Q22:σ.b22=true->σ.s16=.slice σ.Az σ.nz σ.cz
 Q16:σ.b16=true->σ.s113=.int .i64 (q:Int)
 Q17:σ.b17=true->σ.s114=.int .i64 z
 Q18:σ.b18=true->σ.s115=.bool ((q:Int)==z)
 F20:σ.b20=true->σ.b21=false->PB σ.A8 σ.n8 σ.c8 W
 F21:σ.b21=true->PC σ.Az σ.nz σ.cz W
 D6:σ.b6=true->σ.b5=true
 D7:σ.b7=true->σ.b6=true
 D9:σ.b9=true->σ.b8=true
 D10:σ.b10=true->σ.b9=true
 D11:σ.b11=true->σ.b4=true/\σ.b7=true/\σ.b10=true
 D13:σ.b13=true->σ.b12=true
 D15:σ.b15=true->σ.b14=true
 D16:σ.b16=true->σ.b15=true
 D17:σ.b17=true->σ.b15=true
 D18:σ.b18=true->σ.b16=true/\σ.b17=true
 D19:σ.b19=true->σ.b18=true
 D20:σ.b20=true->σ.b2=true/\σ.b3=true/\σ.b11=true/\σ.b13=true/\σ.b19=true
 D21:σ.b21=true->σ.b0=true/\σ.b1=true/\σ.b20=true
 D22:σ.b22=true->σ.b21=true
variable{PB PC:Option Addr->Nat->Nat->World->Prop}{z fof:Int}{B cutA A16 A9 A10:Option Addr}{kc kv nb cb wb wo k kcc n16 k16 wn wc vn vc q va vt:Nat}{u1 u5 u6 u7 u8 u9 u10 u11 u12 u13 u14 u21 u22 u23 u24 u25 u26 u27 u28 u29 u30 u31 u32 u33 u34 u35 u36 u37 u38 u39 u40 u41 u42 u43 u44 u45 u46 u47 u48 u49 u50 u51 u52 u53 u54 u55 u56 u57 u58 u59 u60 u61 u62 u63 u64 u65 u66 u67 u68 u69 u70 u71 u72 u73 u74 u75 u76 u77 u78 u79 u80 u81 u82 u83 u84 u85 u86 u87 u88 u89 u90 u91 u92 u93 u94 u95 u96 u97 u98 u99 u100 u101 u102 u103 u104 u105 u106 u107 u108 u109 u110 u111 u112 u113 u114 u115 u116 u117 u118 u119 u120 u121 u122 u123 u124 u125 u126 u127 u128 u129 u130 u131 u132 u133 u134 u135 u136 u137 u138 u139 u140 u141 u142 u143 u144 u145 u146 u147 u148 u149 u150 u151 u152 u153 u154 u155 u156 u157 u158 u159 u160 u161 u162 u163 u164 u165 u166 u167:Value}{Q0:Exit->Act->World->Prop}
theorem zrc(zv3:w.cell? ⟨kv,3,none⟩=some (.int .i64 (va:Int)))(zv4:w.cell? ⟨kv,4,none⟩=some (.int .i64 (vt:Int)))(hcutv:∀W:World,(Instr.slice 24 (.slice B nb cb) (some (.int .i64 (va:Int))) (some (.int .i64 (vt:Int))) none).run prog W=.ok (.slice A10 vn vc) W)(hcut:∀W:World,(Instr.slice 34 (.slice (some ⟨wb,wo,none⟩) k kcc) (some (.int .i64 1)) none none).run prog W=.ok (.slice cutA (k - 1) (kcc - 1)) W)(hrec:∀W:World,Ext w W->Calls prog 91 #[.pointer (some ⟨kc,0,none⟩),.int .i64 fof,.slice A10 vn vc,.slice cutA (k - 1) (kcc - 1),.bool ((q:Int)==z)] W fun e W'=>∃A' n' c',e=.returned (.slice A' n' c')/\Ext W W'/\PB A' n' c' W')(hag:∀(W:World)(V:Option Addr)(n' c':Nat),Ext w W->PB V n' c' W->Calls prog 120 #[.slice A16 n16 k16,.slice A9 wn wc,.slice V n' c'] W fun e W'=>∃A' n' c',e=.returned (.slice A' n' c')/\PC A' n' c' W')(hK:∀(s16 s97 s98 s99 s100 s101 s102 s103 s104 s105 s106 s107 s108 s109 s110 s111 s112 s113 s114 s115 s116 s117 s118:Value)(Az:Option Addr)(nz cz:Nat)(wz:World),s16=.slice Az nz cz->PC Az nz cz wz->Q0 .normal ⟨#[.pointer (some ⟨kc,0,none⟩),u1,.slice B nb cb,.slice (some ⟨wb,wo,none⟩) k kcc,.bool true,u5,u6,u7,u8,u9,u10,u11,u12,u13,u14,.int .i64 z,s16,.int .i64 (q:Int),.pointer (some ⟨kv,0,none⟩),.slice A9 wn wc,.int .i64 fof,u21,u22,u23,u24,u25,u26,u27,u28,u29,u30,u31,u32,u33,u34,u35,u36,u37,u38,u39,u40,u41,u42,u43,u44,u45,u46,u47,u48,u49,u50,u51,u52,u53,u54,u55,u56,u57,u58,u59,u60,u61,u62,u63,u64,u65,u66,u67,u68,u69,u70,u71,u72,u73,u74,u75,u76,u77,u78,u79,u80,u81,u82,u83,u84,u85,u86,u87,u88,u89,u90,u91,u92,u93,u94,u95,u96,s97,s98,s99,s100,s101,s102,s103,s104,s105,s106,s107,s108,s109,s110,s111,s112,s113,s114,s115,s116,s117,s118,u119,u120,u121,u122,u123,u124,u125,u126,u127,u128,u129,u130,u131,u132,u133,u134,u135,u136,u137,u138,u139,u140,u141,u142,u143,u144,u145,u146,u147,u148,u149,u150,u151,u152,u153,u154,u155,u156,u157,u158,u159,u160,u161,u162,u163,u164,u165,u166,u167],[]⟩ wz):
 Code.wp prog (regSe 12) (zeS Q0) ⟨#[.pointer (some ⟨kc,0,none⟩),u1,.slice B nb cb,.slice (some ⟨wb,wo,none⟩) k kcc,.bool true,u5,u6,u7,u8,u9,u10,u11,u12,u13,u14,.int .i64 z,.slice A16 n16 k16,.int .i64 (q:Int),.pointer (some ⟨kv,0,none⟩),.slice A9 wn wc,.int .i64 fof,u21,u22,u23,u24,u25,u26,u27,u28,u29,u30,u31,u32,u33,u34,u35,u36,u37,u38,u39,u40,u41,u42,u43,u44,u45,u46,u47,u48,u49,u50,u51,u52,u53,u54,u55,u56,u57,u58,u59,u60,u61,u62,u63,u64,u65,u66,u67,u68,u69,u70,u71,u72,u73,u74,u75,u76,u77,u78,u79,u80,u81,u82,u83,u84,u85,u86,u87,u88,u89,u90,u91,u92,u93,u94,u95,u96,u97,u98,u99,u100,u101,u102,u103,u104,u105,u106,u107,u108,u109,u110,u111,u112,u113,u114,u115,u116,u117,u118,u119,u120,u121,u122,u123,u124,u125,u126,u127,u128,u129,u130,u131,u132,u133,u134,u135,u136,u137,u138,u139,u140,u141,u142,u143,u144,u145,u146,u147,u148,u149,u150,u151,u152,u153,u154,u155,u156,u157,u158,u159,u160,u161,u162,u163,u164,u165,u166,u167],[]⟩ w:=by
 have HK:=zsz hK;clear hK
 conv=>arg 2;whnf
 obtain⟨I,hI⟩:∃I:Array Bool->Act->World->Prop,∀l a W,I l a W<->(∃σ:zms,l=#[σ.b0,σ.b1,σ.b2,σ.b3,σ.b4,σ.b5,σ.b6,σ.b7,σ.b8,σ.b9,σ.b10,σ.b11,σ.b12,σ.b13,σ.b14,σ.b15,σ.b16,σ.b17,σ.b18,σ.b19,σ.b20,σ.b21,σ.b22]/\a=⟨#[.pointer (some ⟨kc,0,none⟩),u1,.slice B nb cb,.slice (some ⟨wb,wo,none⟩) k kcc,.bool true,u5,u6,u7,u8,u9,u10,u11,u12,u13,u14,.int .i64 z,σ.s16,.int .i64 (q:Int),.pointer (some ⟨kv,0,none⟩),.slice A9 wn wc,.int .i64 fof,u21,u22,u23,u24,u25,u26,u27,u28,u29,u30,u31,u32,u33,u34,u35,u36,u37,u38,u39,u40,u41,u42,u43,u44,u45,u46,u47,u48,u49,u50,u51,u52,u53,u54,u55,u56,u57,u58,u59,u60,u61,u62,u63,u64,u65,u66,u67,u68,u69,u70,u71,u72,u73,u74,u75,u76,u77,u78,u79,u80,u81,u82,u83,u84,u85,u86,u87,u88,u89,u90,u91,u92,u93,u94,u95,u96,σ.s97,σ.s98,σ.s99,σ.s100,σ.s101,σ.s102,σ.s103,σ.s104,σ.s105,σ.s106,σ.s107,σ.s108,σ.s109,σ.s110,σ.s111,σ.s112,σ.s113,σ.s114,σ.s115,σ.s116,σ.s117,σ.s118,u119,u120,u121,u122,u123,u124,u125,u126,u127,u128,u129,u130,u131,u132,u133,u134,u135,u136,u137,u138,u139,u140,u141,u142,u143,u144,u145,u146,u147,u148,u149,u150,u151,u152,u153,u154,u155,u156,u157,u158,u159,u160,u161,u162,u163,u164,u165,u166,u167],[]⟩/\zqd w kc kv nb cb wb wo k kcc n16 k16 wn wc vn vc q va vt B cutA A16 A9 A10 z fof PB PC σ W):=⟨_,fun _ _ _=>Iff.rfl⟩
 have HI:=zsz hI;clear hI;refine zbe (I:=I) (by kernel_rfl) (fun i l a W hi hr=> ?_) (fun l a W hi hr=> ?_) ?_
 . obtain⟨σ,rfl,rfl,G⟩:=(HI.out _ _ _).1 hi
   clear hi;obtain⟨hlt,hl,hd⟩:=zbo hr;clear hr;have hlt:i<23:=hlt;rcases(show i=0\/i=1\/i=2\/i=3\/i=4\/i=5\/i=6\/i=7\/i=8\/i=9\/i=10\/i=11\/i=12\/i=13\/i=14\/i=15\/i=16\/i=17\/i=18\/i=19\/i=20\/i=21\/i=22 by omega)with rfl|rfl|rfl|rfl|rfl|rfl|rfl|rfl|rfl|rfl|rfl|rfl|rfl|rfl|rfl|rfl|rfl|rfl|rfl|rfl|rfl|rfl|rfl
   all_goals
    have hd:=hd _ rfl;clear hlt;simp[Region.binds]at hl hd;have e:=zsz hl;clear hl
   . have e22:σ.b22=false:=by
      rcases hs:σ.b22 with _|_
      . rfl
      . exact ff e (G.D21 (G.D22 hs)).1
     have er16:=G.S16 e22;refine zad rfl rfl fun K HK2=> ?_
     go_simp
     refine HK2.out _ _ ((HI.out _ _ _).2 ⟨{σ with b0:=true,s97:=_,s16:=_},rfl,rfl,{G with D21:=fun h=>ff e (G.D21 h).1,Q0:=fun _=>rfl,S16:=fun _=>rfl,Q22:=fun h=>ff e (G.D21 (G.D22 h)).1}⟩)
   . refine zad rfl rfl fun K HK2=> ?_
     go_simp
     refine HK2.out _ _ ((HI.out _ _ _).2 ⟨{σ with b1:=true,s98:=_},rfl,rfl,{G with D21:=fun h=>ff e (G.D21 h).2.1,Q1:=fun _=>rfl}⟩)
   . refine zad rfl rfl fun K HK2=> ?_
     go_simp
     refine HK2.out _ _ ((HI.out _ _ _).2 ⟨{σ with b2:=true,s99:=_},rfl,rfl,{G with D20:=fun h=>ff e (G.D20 h).1,Q2:=fun _=>rfl}⟩)
   . refine zad rfl rfl fun K HK2=> ?_
     go_simp
     refine HK2.out _ _ ((HI.out _ _ _).2 ⟨{σ with b3:=true,s100:=_},rfl,rfl,{G with D20:=fun h=>ff e (G.D20 h).2.1,Q3:=fun _=>rfl}⟩)
   . refine zad rfl rfl fun K HK2=> ?_
     go_simp
     refine HK2.out _ _ ((HI.out _ _ _).2 ⟨{σ with b4:=true,s101:=_},rfl,rfl,{G with D11:=fun h=>ff e (G.D11 h).1,Q4:=fun _=>rfl}⟩)
   . refine zad rfl rfl fun K HK2=> ?_
     go_simp
     refine HK2.out _ _ ((HI.out _ _ _).2 ⟨{σ with b5:=true,s102:=_},rfl,rfl,{G with D6:=fun h=>ff e (G.D6 h),Q5:=fun _=>rfl}⟩)
   . have t5:σ.b5=true:=by simp[hd]
     have er5:=G.Q5 t5;clear hd;refine zad rfl rfl fun K HK2=> ?_
     go_simp
     refine HK2.out _ _ ((HI.out _ _ _).2 ⟨{σ with b6:=true,s103:=_,s102:=_},rfl,rfl,{G with D6:=fun _=>t5,D7:=fun h=>ff e (G.D7 h),Q5:=fun _=>rfl,Q6:=fun _=>rfl}⟩)
   . have t6:σ.b6=true:=by simp[hd]
     have er6:=G.Q6 t6
     have e21:σ.b21=false:=by
      rcases hs:σ.b21 with _|_
      . rfl
      . exact ff e (G.D11 (G.D20 (G.D21 hs).2.2).2.2.1).2.1
     have X:=G.X e21;have g0:W.cell? ⟨kv,3,none⟩=some (.int .i64 (va:Int)):=X.of_cell zv3;have gl0:=World.block_lt_of_cell? W _ g0;have HX:=zsz X;clear X;have H2:=zsz e21;clear e21;clear hd;refine zad rfl rfl fun K HK2=> ?_
     go_simp
     refine HK2.out _ _ ((HI.out _ _ _).2 ⟨{σ with b7:=true,s104:=_,s103:=_},rfl,rfl,{G with D7:=fun _=>t6,D11:=fun h=>ff e (G.D11 h).2.1,Q6:=fun _=>rfl,Q7:=fun _=>rfl}⟩)
   . refine zad rfl rfl fun K HK2=> ?_
     go_simp
     refine HK2.out _ _ ((HI.out _ _ _).2 ⟨{σ with b8:=true,s105:=_},rfl,rfl,{G with D9:=fun h=>ff e (G.D9 h),Q8:=fun _=>rfl}⟩)
   . have t8:σ.b8=true:=by simp[hd]
     have er8:=G.Q8 t8;clear hd;refine zad rfl rfl fun K HK2=> ?_
     go_simp
     refine HK2.out _ _ ((HI.out _ _ _).2 ⟨{σ with b9:=true,s106:=_,s105:=_},rfl,rfl,{G with D9:=fun _=>t8,D10:=fun h=>ff e (G.D10 h),Q8:=fun _=>rfl,Q9:=fun _=>rfl}⟩)
   . have t9:σ.b9=true:=by simp[hd]
     have er9:=G.Q9 t9
     have e21:σ.b21=false:=by
      rcases hs:σ.b21 with _|_
      . rfl
      . exact ff e (G.D11 (G.D20 (G.D21 hs).2.2).2.2.1).2.2
     have X:=G.X e21;have g0:W.cell? ⟨kv,4,none⟩=some (.int .i64 (vt:Int)):=X.of_cell zv4;have gl0:=World.block_lt_of_cell? W _ g0;have HX:=zsz X;clear X;have H2:=zsz e21;clear e21;clear hd;refine zad rfl rfl fun K HK2=> ?_
     go_simp
     refine HK2.out _ _ ((HI.out _ _ _).2 ⟨{σ with b10:=true,s107:=_,s106:=_},rfl,rfl,{G with D10:=fun _=>t9,D11:=fun h=>ff e (G.D11 h).2.2,Q9:=fun _=>rfl,Q10:=fun _=>rfl}⟩)
   . have t4:σ.b4=true:=by simp[hd]
     have t7:σ.b7=true:=by simp[hd]
     have t10:σ.b10=true:=by simp[hd]
     have er4:=G.Q4 t4;have er7:=G.Q7 t7;have er10:=G.Q10 t10;clear hd;refine zad rfl rfl fun K HK2=> ?_
     go_simp
     refine HK2.out _ _ ((HI.out _ _ _).2 ⟨{σ with b11:=true,s108:=_,s101:=_,s104:=_,s107:=_},rfl,rfl,{G with D11:=fun _=>⟨t4,t7,t10⟩,D20:=fun h=>ff e (G.D20 h).2.2.1,Q4:=fun _=>rfl,Q7:=fun _=>rfl,Q10:=fun _=>rfl,Q11:=fun _=>rfl}⟩)
   . refine zad rfl rfl fun K HK2=> ?_
     go_simp
     refine HK2.out _ _ ((HI.out _ _ _).2 ⟨{σ with b12:=true,s109:=_},rfl,rfl,{G with D13:=fun h=>ff e (G.D13 h),Q12:=fun _=>rfl}⟩)
   . have t12:σ.b12=true:=by simp[hd]
     have er12:=G.Q12 t12;clear hd;refine zad rfl rfl fun K HK2=> ?_
     go_simp
     refine HK2.out _ _ ((HI.out _ _ _).2 ⟨{σ with b13:=true,s110:=_,s109:=_},rfl,rfl,{G with D13:=fun _=>t12,D20:=fun h=>ff e (G.D20 h).2.2.2.1,Q12:=fun _=>rfl,Q13:=fun _=>rfl}⟩)
   . refine zad rfl rfl fun K HK2=> ?_
     go_simp
     refine HK2.out _ _ ((HI.out _ _ _).2 ⟨{σ with b14:=true,s111:=_},rfl,rfl,{G with D15:=fun h=>ff e (G.D15 h),Q14:=fun _=>rfl}⟩)
   . have t14:σ.b14=true:=by simp[hd]
     have er14:=G.Q14 t14;clear hd;refine zad rfl rfl fun K HK2=> ?_
     go_simp
     refine HK2.out _ _ ((HI.out _ _ _).2 ⟨{σ with b15:=true,s112:=_,s111:=_},rfl,rfl,{G with D15:=fun _=>t14,D16:=fun h=>ff e (G.D16 h),D17:=fun h=>ff e (G.D17 h),Q14:=fun _=>rfl,Q15:=fun _=>rfl}⟩)
   . have t15:σ.b15=true:=by simp[hd]
     have er15:=G.Q15 t15;rw[er15];clear hd;refine zad rfl rfl fun K HK2=> ?_
     go_simp
     refine HK2.out _ _ ((HI.out _ _ _).2 ⟨{σ with b16:=true,s113:=_,s112:=_},rfl,rfl,{G with D16:=fun _=>t15,D18:=fun h=>ff e (G.D18 h).1,Q15:=fun _=>rfl,Q16:=fun _=>rfl}⟩)
   . have t15:σ.b15=true:=by simp[hd]
     have er15:=G.Q15 t15;rw[er15];clear hd;refine zad rfl rfl fun K HK2=> ?_
     go_simp
     refine HK2.out _ _ ((HI.out _ _ _).2 ⟨{σ with b17:=true,s114:=_,s112:=_},rfl,rfl,{G with D17:=fun _=>t15,D18:=fun h=>ff e (G.D18 h).2,Q15:=fun _=>rfl,Q17:=fun _=>rfl}⟩)
   . have t16:σ.b16=true:=by simp[hd]
     have t17:σ.b17=true:=by simp[hd]
     have t15:σ.b15=true:=by simp[hd]
     have er15:=G.Q15 t15;have er16:=G.Q16 t16;have er17:=G.Q17 t17;rw[er15];clear hd;refine zad rfl rfl fun K HK2=> ?_
     go_simp
     refine HK2.out _ _ ((HI.out _ _ _).2 ⟨{σ with b18:=true,s115:=_,s112:=_,s113:=_,s114:=_},rfl,rfl,{G with D18:=fun _=>⟨t16,t17⟩,D19:=fun h=>ff e (G.D19 h),Q15:=fun _=>rfl,Q16:=fun _=>rfl,Q17:=fun _=>rfl,Q18:=fun _=>rfl}⟩)
   . have t15:σ.b15=true:=by simp[hd]
     have t18:σ.b18=true:=by simp[hd]
     have er15:=G.Q15 t15;have er18:=G.Q18 t18;clear hd;refine zad rfl rfl fun K HK2=> ?_
     go_simp
     refine HK2.out _ _ ((HI.out _ _ _).2 ⟨{σ with b19:=true,s116:=_,s112:=_,s115:=_},rfl,rfl,{G with D19:=fun _=>t18,D20:=fun h=>ff e (G.D20 h).2.2.2.2,Q15:=fun _=>rfl,Q18:=fun _=>rfl,Q19:=fun _=>rfl}⟩)
   . have t2:σ.b2=true:=by simp[hd]
     have t3:σ.b3=true:=by simp[hd]
     have t11:σ.b11=true:=by simp[hd]
     have t13:σ.b13=true:=by simp[hd]
     have t19:σ.b19=true:=by simp[hd]
     have er2:=G.Q2 t2;have er3:=G.Q3 t3;have er11:=G.Q11 t11;have er13:=G.Q13 t13;have er19:=G.Q19 t19
     have e21:σ.b21=false:=by
      rcases hs:σ.b21 with _|_
      . rfl
      . exact ff e (G.D21 hs).2.2
     have HX:=zsz (G.X e21);clear e21;clear hd;refine zad rfl rfl fun K HK2=> ?_
     go_simp
     go_at_call 91
     refine(hrec W HX.out).mono ?_;rintro e1 W2 ⟨A8,n8,c8,rfl,E2,hpb⟩
     (try dsimp only)
     (try simp only[Act.put,List.setIfInBounds_toArray,List.set_cons_zero,List.set_cons_succ])
     refine HK2.out _ _ ((HI.out _ _ _).2 ⟨{σ with b20:=true,s117:=_,s99:=_,s100:=_,s108:=_,s110:=_,s116:=_,A8:=A8,n8:=n8,c8:=c8},rfl,rfl,{G with D20:=fun _=>⟨t2,t3,t11,t13,t19⟩,D21:=fun h=>ff e (G.D21 h).2.2,Q2:=fun _=>rfl,Q3:=fun _=>rfl,Q11:=fun _=>rfl,Q13:=fun _=>rfl,Q19:=fun _=>rfl,Q20:=fun _=>rfl,X:=fun _=>HX.out.trans E2,F20:=fun _ _=>hpb,F21:=fun h=>ff e (G.D21 h).2.2,Q21:=fun h=>ff e (G.D21 h).2.2,Q22:=fun h=>ff e (G.D21 (G.D22 h)).2.2}⟩)
   . have t0:σ.b0=true:=by simp[hd]
     have t1:σ.b1=true:=by simp[hd]
     have t20:σ.b20=true:=by simp[hd]
     have er0:=G.Q0 t0;have er1:=G.Q1 t1;have er20:=G.Q20 t20;have HX:=zsz (G.X e);have HF:=zsz (G.F20 t20 e);clear hd;refine zad rfl rfl fun K HK2=> ?_
     go_simp
     go_at_call 120
     refine(hag W _ _ _ HX.out HF.out).mono ?_;rintro e1 W2 ⟨Az,nz,cz,rfl,hpc⟩
     (try dsimp only)
     (try simp only[Act.put,List.setIfInBounds_toArray,List.set_cons_zero,List.set_cons_succ])
     refine HK2.out _ _ ((HI.out _ _ _).2 ⟨{σ with b21:=true,s118:=_,s97:=_,s98:=_,s117:=_,Az:=Az,nz:=nz,cz:=cz},rfl,rfl,{G with D21:=fun _=>⟨t0,t1,t20⟩,D22:=fun h=>ff e (G.D22 h),Q0:=fun _=>rfl,Q1:=fun _=>rfl,Q20:=fun _=>rfl,Q21:=fun _=>rfl,X:=(fun h=>by cases h),F20:=(fun _ h=>by cases h),F21:=fun _=>hpc,Q22:=fun h=>ff e (G.D22 h)}⟩)
   . have t21:σ.b21=true:=by simp[hd]
     have er21:=G.Q21 t21;clear hd;refine zad rfl rfl fun K HK2=> ?_
     go_simp
     refine HK2.out _ _ ((HI.out _ _ _).2 ⟨{σ with b22:=true,s16:=_,s118:=_},rfl,rfl,{G with D22:=fun _=>t21,Q21:=fun _=>rfl,Q22:=fun _=>rfl,S16:=(fun h=>by cases h)}⟩)
 . obtain⟨σ,rfl,rfl,G⟩:=(HI.out _ _ _).1 hi
   clear hi;have t0:σ.b0=true:=zaa hr (i:=0) rfl (by simp[Region.binds]) (show 0<23 by decide);have t1:σ.b1=true:=zaa hr (i:=1) rfl (by simp[Region.binds,t0]) (show 1<23 by decide);have t2:σ.b2=true:=zaa hr (i:=2) rfl (by simp[Region.binds,t0,t1]) (show 2<23 by decide);have t3:σ.b3=true:=zaa hr (i:=3) rfl (by simp[Region.binds,t0,t1,t2]) (show 3<23 by decide);have t4:σ.b4=true:=zaa hr (i:=4) rfl (by simp[Region.binds,t0,t1,t2,t3]) (show 4<23 by decide);have t5:σ.b5=true:=zaa hr (i:=5) rfl (by simp[Region.binds,t0,t1,t2,t3,t4]) (show 5<23 by decide);have t6:σ.b6=true:=zaa hr (i:=6) rfl (by simp[Region.binds,t0,t1,t2,t3,t4,t5]) (show 6<23 by decide);have t7:σ.b7=true:=zaa hr (i:=7) rfl (by simp[Region.binds,t0,t1,t2,t3,t4,t5,t6]) (show 7<23 by decide);have t8:σ.b8=true:=zaa hr (i:=8) rfl (by simp[Region.binds,t0,t1,t2,t3,t4,t5,t6,t7]) (show 8<23 by decide);have t9:σ.b9=true:=zaa hr (i:=9) rfl (by simp[Region.binds,t0,t1,t2,t3,t4,t5,t6,t7,t8]) (show 9<23 by decide);have t10:σ.b10=true:=zaa hr (i:=10) rfl (by simp[Region.binds,t0,t1,t2,t3,t4,t5,t6,t7,t8,t9]) (show 10<23 by decide);have t11:σ.b11=true:=zaa hr (i:=11) rfl (by simp[Region.binds,t0,t1,t2,t3,t4,t5,t6,t7,t8,t9,t10]) (show 11<23 by decide);have t12:σ.b12=true:=zaa hr (i:=12) rfl (by simp[Region.binds,t0,t1,t2,t3,t4,t5,t6,t7,t8,t9,t10,t11]) (show 12<23 by decide);have t13:σ.b13=true:=zaa hr (i:=13) rfl (by simp[Region.binds,t0,t1,t2,t3,t4,t5,t6,t7,t8,t9,t10,t11,t12]) (show 13<23 by decide);have t14:σ.b14=true:=zaa hr (i:=14) rfl (by simp[Region.binds,t0,t1,t2,t3,t4,t5,t6,t7,t8,t9,t10,t11,t12,t13]) (show 14<23 by decide);have t15:σ.b15=true:=zaa hr (i:=15) rfl (by simp[Region.binds,t0,t1,t2,t3,t4,t5,t6,t7,t8,t9,t10,t11,t12,t13,t14]) (show 15<23 by decide);have t16:σ.b16=true:=zaa hr (i:=16) rfl (by simp[Region.binds,t0,t1,t2,t3,t4,t5,t6,t7,t8,t9,t10,t11,t12,t13,t14,t15]) (show 16<23 by decide);have t17:σ.b17=true:=zaa hr (i:=17) rfl (by simp[Region.binds,t0,t1,t2,t3,t4,t5,t6,t7,t8,t9,t10,t11,t12,t13,t14,t15,t16]) (show 17<23 by decide);have t18:σ.b18=true:=zaa hr (i:=18) rfl (by simp[Region.binds,t0,t1,t2,t3,t4,t5,t6,t7,t8,t9,t10,t11,t12,t13,t14,t15,t16,t17]) (show 18<23 by decide);have t19:σ.b19=true:=zaa hr (i:=19) rfl (by simp[Region.binds,t0,t1,t2,t3,t4,t5,t6,t7,t8,t9,t10,t11,t12,t13,t14,t15,t16,t17,t18]) (show 19<23 by decide);have t20:σ.b20=true:=zaa hr (i:=20) rfl (by simp[Region.binds,t0,t1,t2,t3,t4,t5,t6,t7,t8,t9,t10,t11,t12,t13,t14,t15,t16,t17,t18,t19]) (show 20<23 by decide);have t21:σ.b21=true:=zaa hr (i:=21) rfl (by simp[Region.binds,t0,t1,t2,t3,t4,t5,t6,t7,t8,t9,t10,t11,t12,t13,t14,t15,t16,t17,t18,t19,t20]) (show 21<23 by decide);have t22:σ.b22=true:=zaa hr (i:=22) rfl (by simp[Region.binds,t0,t1,t2,t3,t4,t5,t6,t7,t8,t9,t10,t11,t12,t13,t14,t15,t16,t17,t18,t19,t20,t21]) (show 22<23 by decide);exact HK.out _ _ _ _ _ _ _ _ _ _ _ _ _ _ _ _ _ _ _ _ _ _ _ σ.Az σ.nz σ.cz W (G.Q22 t22) (G.F21 t21)
 . refine(HI.out _ _ _).2 ⟨⟨false,false,false,false,false,false,false,false,false,false,false,false,false,false,false,false,false,false,false,false,false,false,false,_,_,_,_,_,_,_,_,_,_,_,_,_,_,_,_,_,_,_,_,_,_,_,none,0,0,none,0,0⟩,rfl,rfl,?_⟩
   constructor
   all_goals (try dsimp only)
   all_goals first|exact fun _=>rfl|exact fun _=>(Ext.refl w).drew|(intro h;cases h;done)
structure zmt where
 (b0 b1 b2 b3 b4 b5 b6 b7 b8 b9 b10 b11 b12 b13 b14 b15 b16 b17 b18 b19 b20 b21 b22:Bool)
 (s16 s97 s98 s99 s100 s101 s102 s103 s104 s105 s106 s107 s108 s109 s110 s111 s112 s113 s114 s115 s116 s117 s118:Value)
 (A8:Option Addr)
 (n8:Nat)
 (c8:Nat)
 (Az:Option Addr)
 (nz:Nat)
 (cz:Nat)
structure zqe(w:World)(kc kv nb cb wb wo k kcc n16 k16 wn wc vn vc q va vt:Nat)(B cutA A16 A9 A10:Option Addr)(z fof:Int)(PB PC:Option Addr->Nat->Nat->World->Prop)(σ:zmt)(W:World):Prop where
 X:σ.b21=false->Ext w W
 S16:σ.b22=false->σ.s16=.slice A16 n16 k16
 Q0:σ.b0=true->σ.s97=.slice A16 n16 k16
 Q1:σ.b1=true->σ.s98=.slice A9 wn wc
 Q2:σ.b2=true->σ.s99=.pointer (some ⟨kc,0,none⟩)
 Q3:σ.b3=true->σ.s100=.int .i64 fof
 Q4:σ.b4=true->σ.s101=.slice B nb cb
 Q5:σ.b5=true->σ.s102=.pointer (some ⟨kv,0,none⟩)
 Q6:σ.b6=true->σ.s103=.pointer (some ⟨kv,3,none⟩)
 Q7:σ.b7=true->σ.s104=.int .i64 (va:Int)
 Q8:σ.b8=true->σ.s105=.pointer (some ⟨kv,0,none⟩)
 Q9:σ.b9=true->σ.s106=.pointer (some ⟨kv,4,none⟩)
 Q10:σ.b10=true->σ.s107=.int .i64 (vt:Int)
 Q11:σ.b11=true->σ.s108=.slice A10 vn vc
 Q12:σ.b12=true->σ.s109=.slice (some ⟨wb,wo,none⟩) k kcc
 Q13:σ.b13=true->σ.s110=.slice cutA (k - 1) (kcc - 1)
 Q14:σ.b14=true->σ.s111=.bool false
 Q15:σ.b15=true->σ.s112=.bool false
 Q19:σ.b19=true->σ.s116=.bool false
 Q20:σ.b20=true->σ.s117=.slice σ.A8 σ.n8 σ.c8
 Q21:σ.b21=true->σ.s118=.slice σ.Az σ.nz σ.cz
 Q22:σ.b22=true->σ.s16=.slice σ.Az σ.nz σ.cz
 F20:σ.b20=true->σ.b21=false->PB σ.A8 σ.n8 σ.c8 W
 F21:σ.b21=true->PC σ.Az σ.nz σ.cz W
 D6:σ.b6=true->σ.b5=true
 D7:σ.b7=true->σ.b6=true
 D9:σ.b9=true->σ.b8=true
 D10:σ.b10=true->σ.b9=true
 D11:σ.b11=true->σ.b4=true/\σ.b7=true/\σ.b10=true
 D13:σ.b13=true->σ.b12=true
 D15:σ.b15=true->σ.b14=true
 D16:σ.b16=true->σ.b15=true
 D17:σ.b17=true->σ.b15=true
 D18:σ.b18=true->σ.b16=true/\σ.b17=true
 D19:σ.b19=true->σ.b18=true
 D20:σ.b20=true->σ.b2=true/\σ.b3=true/\σ.b11=true/\σ.b13=true/\σ.b19=true
 D21:σ.b21=true->σ.b0=true/\σ.b1=true/\σ.b20=true
 D22:σ.b22=true->σ.b21=true
theorem zrd(zv3:w.cell? ⟨kv,3,none⟩=some (.int .i64 (va:Int)))(zv4:w.cell? ⟨kv,4,none⟩=some (.int .i64 (vt:Int)))(hcutv:∀W:World,(Instr.slice 24 (.slice B nb cb) (some (.int .i64 (va:Int))) (some (.int .i64 (vt:Int))) none).run prog W=.ok (.slice A10 vn vc) W)(hcut:∀W:World,(Instr.slice 34 (.slice (some ⟨wb,wo,none⟩) k kcc) (some (.int .i64 1)) none none).run prog W=.ok (.slice cutA (k - 1) (kcc - 1)) W)(hrec:∀W:World,Ext w W->Calls prog 91 #[.pointer (some ⟨kc,0,none⟩),.int .i64 fof,.slice A10 vn vc,.slice cutA (k - 1) (kcc - 1),.bool false] W fun e W'=>∃A' n' c',e=.returned (.slice A' n' c')/\Ext W W'/\PB A' n' c' W')(hag:∀(W:World)(V:Option Addr)(n' c':Nat),Ext w W->PB V n' c' W->Calls prog 120 #[.slice A16 n16 k16,.slice A9 wn wc,.slice V n' c'] W fun e W'=>∃A' n' c',e=.returned (.slice A' n' c')/\PC A' n' c' W')(hK:∀(s16 s97 s98 s99 s100 s101 s102 s103 s104 s105 s106 s107 s108 s109 s110 s111 s112 s113 s114 s115 s116 s117 s118:Value)(Az:Option Addr)(nz cz:Nat)(wz:World),s16=.slice Az nz cz->PC Az nz cz wz->Q0 .normal ⟨#[.pointer (some ⟨kc,0,none⟩),u1,.slice B nb cb,.slice (some ⟨wb,wo,none⟩) k kcc,.bool false,u5,u6,u7,u8,u9,u10,u11,u12,u13,u14,.int .i64 z,s16,.int .i64 (q:Int),.pointer (some ⟨kv,0,none⟩),.slice A9 wn wc,.int .i64 fof,u21,u22,u23,u24,u25,u26,u27,u28,u29,u30,u31,u32,u33,u34,u35,u36,u37,u38,u39,u40,u41,u42,u43,u44,u45,u46,u47,u48,u49,u50,u51,u52,u53,u54,u55,u56,u57,u58,u59,u60,u61,u62,u63,u64,u65,u66,u67,u68,u69,u70,u71,u72,u73,u74,u75,u76,u77,u78,u79,u80,u81,u82,u83,u84,u85,u86,u87,u88,u89,u90,u91,u92,u93,u94,u95,u96,s97,s98,s99,s100,s101,s102,s103,s104,s105,s106,s107,s108,s109,s110,s111,s112,s113,s114,s115,s116,s117,s118,u119,u120,u121,u122,u123,u124,u125,u126,u127,u128,u129,u130,u131,u132,u133,u134,u135,u136,u137,u138,u139,u140,u141,u142,u143,u144,u145,u146,u147,u148,u149,u150,u151,u152,u153,u154,u155,u156,u157,u158,u159,u160,u161,u162,u163,u164,u165,u166,u167],[]⟩ wz):
 Code.wp prog (regSe 12) (zeS Q0) ⟨#[.pointer (some ⟨kc,0,none⟩),u1,.slice B nb cb,.slice (some ⟨wb,wo,none⟩) k kcc,.bool false,u5,u6,u7,u8,u9,u10,u11,u12,u13,u14,.int .i64 z,.slice A16 n16 k16,.int .i64 (q:Int),.pointer (some ⟨kv,0,none⟩),.slice A9 wn wc,.int .i64 fof,u21,u22,u23,u24,u25,u26,u27,u28,u29,u30,u31,u32,u33,u34,u35,u36,u37,u38,u39,u40,u41,u42,u43,u44,u45,u46,u47,u48,u49,u50,u51,u52,u53,u54,u55,u56,u57,u58,u59,u60,u61,u62,u63,u64,u65,u66,u67,u68,u69,u70,u71,u72,u73,u74,u75,u76,u77,u78,u79,u80,u81,u82,u83,u84,u85,u86,u87,u88,u89,u90,u91,u92,u93,u94,u95,u96,u97,u98,u99,u100,u101,u102,u103,u104,u105,u106,u107,u108,u109,u110,u111,u112,u113,u114,u115,u116,u117,u118,u119,u120,u121,u122,u123,u124,u125,u126,u127,u128,u129,u130,u131,u132,u133,u134,u135,u136,u137,u138,u139,u140,u141,u142,u143,u144,u145,u146,u147,u148,u149,u150,u151,u152,u153,u154,u155,u156,u157,u158,u159,u160,u161,u162,u163,u164,u165,u166,u167],[]⟩ w:=by
 have HK:=zsz hK;clear hK
 conv=>arg 2;whnf
 obtain⟨I,hI⟩:∃I:Array Bool->Act->World->Prop,∀l a W,I l a W<->(∃σ:zmt,l=#[σ.b0,σ.b1,σ.b2,σ.b3,σ.b4,σ.b5,σ.b6,σ.b7,σ.b8,σ.b9,σ.b10,σ.b11,σ.b12,σ.b13,σ.b14,σ.b15,σ.b16,σ.b17,σ.b18,σ.b19,σ.b20,σ.b21,σ.b22]/\a=⟨#[.pointer (some ⟨kc,0,none⟩),u1,.slice B nb cb,.slice (some ⟨wb,wo,none⟩) k kcc,.bool false,u5,u6,u7,u8,u9,u10,u11,u12,u13,u14,.int .i64 z,σ.s16,.int .i64 (q:Int),.pointer (some ⟨kv,0,none⟩),.slice A9 wn wc,.int .i64 fof,u21,u22,u23,u24,u25,u26,u27,u28,u29,u30,u31,u32,u33,u34,u35,u36,u37,u38,u39,u40,u41,u42,u43,u44,u45,u46,u47,u48,u49,u50,u51,u52,u53,u54,u55,u56,u57,u58,u59,u60,u61,u62,u63,u64,u65,u66,u67,u68,u69,u70,u71,u72,u73,u74,u75,u76,u77,u78,u79,u80,u81,u82,u83,u84,u85,u86,u87,u88,u89,u90,u91,u92,u93,u94,u95,u96,σ.s97,σ.s98,σ.s99,σ.s100,σ.s101,σ.s102,σ.s103,σ.s104,σ.s105,σ.s106,σ.s107,σ.s108,σ.s109,σ.s110,σ.s111,σ.s112,σ.s113,σ.s114,σ.s115,σ.s116,σ.s117,σ.s118,u119,u120,u121,u122,u123,u124,u125,u126,u127,u128,u129,u130,u131,u132,u133,u134,u135,u136,u137,u138,u139,u140,u141,u142,u143,u144,u145,u146,u147,u148,u149,u150,u151,u152,u153,u154,u155,u156,u157,u158,u159,u160,u161,u162,u163,u164,u165,u166,u167],[]⟩/\zqe w kc kv nb cb wb wo k kcc n16 k16 wn wc vn vc q va vt B cutA A16 A9 A10 z fof PB PC σ W):=⟨_,fun _ _ _=>Iff.rfl⟩
 have HI:=zsz hI;clear hI;refine zbe (I:=I) (by kernel_rfl) (fun i l a W hi hr=> ?_) (fun l a W hi hr=> ?_) ?_
 . obtain⟨σ,rfl,rfl,G⟩:=(HI.out _ _ _).1 hi
   clear hi;obtain⟨hlt,hl,hd⟩:=zbo hr;clear hr;have hlt:i<23:=hlt;rcases(show i=0\/i=1\/i=2\/i=3\/i=4\/i=5\/i=6\/i=7\/i=8\/i=9\/i=10\/i=11\/i=12\/i=13\/i=14\/i=15\/i=16\/i=17\/i=18\/i=19\/i=20\/i=21\/i=22 by omega)with rfl|rfl|rfl|rfl|rfl|rfl|rfl|rfl|rfl|rfl|rfl|rfl|rfl|rfl|rfl|rfl|rfl|rfl|rfl|rfl|rfl|rfl|rfl
   all_goals
    have hd:=hd _ rfl;clear hlt;simp[Region.binds]at hl hd;have e:=zsz hl;clear hl
   . have e22:σ.b22=false:=by
      rcases hs:σ.b22 with _|_
      . rfl
      . exact ff e (G.D21 (G.D22 hs)).1
     have er16:=G.S16 e22;refine zad rfl rfl fun K HK2=> ?_
     go_simp
     refine HK2.out _ _ ((HI.out _ _ _).2 ⟨{σ with b0:=true,s97:=_,s16:=_},rfl,rfl,{G with D21:=fun h=>ff e (G.D21 h).1,Q0:=fun _=>rfl,S16:=fun _=>rfl,Q22:=fun h=>ff e (G.D21 (G.D22 h)).1}⟩)
   . refine zad rfl rfl fun K HK2=> ?_
     go_simp
     refine HK2.out _ _ ((HI.out _ _ _).2 ⟨{σ with b1:=true,s98:=_},rfl,rfl,{G with D21:=fun h=>ff e (G.D21 h).2.1,Q1:=fun _=>rfl}⟩)
   . refine zad rfl rfl fun K HK2=> ?_
     go_simp
     refine HK2.out _ _ ((HI.out _ _ _).2 ⟨{σ with b2:=true,s99:=_},rfl,rfl,{G with D20:=fun h=>ff e (G.D20 h).1,Q2:=fun _=>rfl}⟩)
   . refine zad rfl rfl fun K HK2=> ?_
     go_simp
     refine HK2.out _ _ ((HI.out _ _ _).2 ⟨{σ with b3:=true,s100:=_},rfl,rfl,{G with D20:=fun h=>ff e (G.D20 h).2.1,Q3:=fun _=>rfl}⟩)
   . refine zad rfl rfl fun K HK2=> ?_
     go_simp
     refine HK2.out _ _ ((HI.out _ _ _).2 ⟨{σ with b4:=true,s101:=_},rfl,rfl,{G with D11:=fun h=>ff e (G.D11 h).1,Q4:=fun _=>rfl}⟩)
   . refine zad rfl rfl fun K HK2=> ?_
     go_simp
     refine HK2.out _ _ ((HI.out _ _ _).2 ⟨{σ with b5:=true,s102:=_},rfl,rfl,{G with D6:=fun h=>ff e (G.D6 h),Q5:=fun _=>rfl}⟩)
   . have t5:σ.b5=true:=by simp[hd]
     have er5:=G.Q5 t5;clear hd;refine zad rfl rfl fun K HK2=> ?_
     go_simp
     refine HK2.out _ _ ((HI.out _ _ _).2 ⟨{σ with b6:=true,s103:=_,s102:=_},rfl,rfl,{G with D6:=fun _=>t5,D7:=fun h=>ff e (G.D7 h),Q5:=fun _=>rfl,Q6:=fun _=>rfl}⟩)
   . have t6:σ.b6=true:=by simp[hd]
     have er6:=G.Q6 t6
     have e21:σ.b21=false:=by
      rcases hs:σ.b21 with _|_
      . rfl
      . exact ff e (G.D11 (G.D20 (G.D21 hs).2.2).2.2.1).2.1
     have X:=G.X e21;have g0:W.cell? ⟨kv,3,none⟩=some (.int .i64 (va:Int)):=X.of_cell zv3;have gl0:=World.block_lt_of_cell? W _ g0;have HX:=zsz X;clear X;have H2:=zsz e21;clear e21;clear hd;refine zad rfl rfl fun K HK2=> ?_
     go_simp
     refine HK2.out _ _ ((HI.out _ _ _).2 ⟨{σ with b7:=true,s104:=_,s103:=_},rfl,rfl,{G with D7:=fun _=>t6,D11:=fun h=>ff e (G.D11 h).2.1,Q6:=fun _=>rfl,Q7:=fun _=>rfl}⟩)
   . refine zad rfl rfl fun K HK2=> ?_
     go_simp
     refine HK2.out _ _ ((HI.out _ _ _).2 ⟨{σ with b8:=true,s105:=_},rfl,rfl,{G with D9:=fun h=>ff e (G.D9 h),Q8:=fun _=>rfl}⟩)
   . have t8:σ.b8=true:=by simp[hd]
     have er8:=G.Q8 t8;clear hd;refine zad rfl rfl fun K HK2=> ?_
     go_simp
     refine HK2.out _ _ ((HI.out _ _ _).2 ⟨{σ with b9:=true,s106:=_,s105:=_},rfl,rfl,{G with D9:=fun _=>t8,D10:=fun h=>ff e (G.D10 h),Q8:=fun _=>rfl,Q9:=fun _=>rfl}⟩)
   . have t9:σ.b9=true:=by simp[hd]
     have er9:=G.Q9 t9
     have e21:σ.b21=false:=by
      rcases hs:σ.b21 with _|_
      . rfl
      . exact ff e (G.D11 (G.D20 (G.D21 hs).2.2).2.2.1).2.2
     have X:=G.X e21;have g0:W.cell? ⟨kv,4,none⟩=some (.int .i64 (vt:Int)):=X.of_cell zv4;have gl0:=World.block_lt_of_cell? W _ g0;have HX:=zsz X;clear X;have H2:=zsz e21;clear e21;clear hd;refine zad rfl rfl fun K HK2=> ?_
     go_simp
     refine HK2.out _ _ ((HI.out _ _ _).2 ⟨{σ with b10:=true,s107:=_,s106:=_},rfl,rfl,{G with D10:=fun _=>t9,D11:=fun h=>ff e (G.D11 h).2.2,Q9:=fun _=>rfl,Q10:=fun _=>rfl}⟩)
   . have t4:σ.b4=true:=by simp[hd]
     have t7:σ.b7=true:=by simp[hd]
     have t10:σ.b10=true:=by simp[hd]
     have er4:=G.Q4 t4;have er7:=G.Q7 t7;have er10:=G.Q10 t10;clear hd;refine zad rfl rfl fun K HK2=> ?_
     go_simp
     refine HK2.out _ _ ((HI.out _ _ _).2 ⟨{σ with b11:=true,s108:=_,s101:=_,s104:=_,s107:=_},rfl,rfl,{G with D11:=fun _=>⟨t4,t7,t10⟩,D20:=fun h=>ff e (G.D20 h).2.2.1,Q4:=fun _=>rfl,Q7:=fun _=>rfl,Q10:=fun _=>rfl,Q11:=fun _=>rfl}⟩)
   . refine zad rfl rfl fun K HK2=> ?_
     go_simp
     refine HK2.out _ _ ((HI.out _ _ _).2 ⟨{σ with b12:=true,s109:=_},rfl,rfl,{G with D13:=fun h=>ff e (G.D13 h),Q12:=fun _=>rfl}⟩)
   . have t12:σ.b12=true:=by simp[hd]
     have er12:=G.Q12 t12;clear hd;refine zad rfl rfl fun K HK2=> ?_
     go_simp
     refine HK2.out _ _ ((HI.out _ _ _).2 ⟨{σ with b13:=true,s110:=_,s109:=_},rfl,rfl,{G with D13:=fun _=>t12,D20:=fun h=>ff e (G.D20 h).2.2.2.1,Q12:=fun _=>rfl,Q13:=fun _=>rfl}⟩)
   . refine zad rfl rfl fun K HK2=> ?_
     go_simp
     refine HK2.out _ _ ((HI.out _ _ _).2 ⟨{σ with b14:=true,s111:=_},rfl,rfl,{G with D15:=fun h=>ff e (G.D15 h),Q14:=fun _=>rfl}⟩)
   . have t14:σ.b14=true:=by simp[hd]
     have er14:=G.Q14 t14;clear hd;refine zad rfl rfl fun K HK2=> ?_
     go_simp
     refine HK2.out _ _ ((HI.out _ _ _).2 ⟨{σ with b15:=true,s112:=_,s111:=_},rfl,rfl,{G with D15:=fun _=>t14,D16:=fun h=>ff e (G.D16 h),D17:=fun h=>ff e (G.D17 h),Q14:=fun _=>rfl,Q15:=fun _=>rfl}⟩)
   . have t15:σ.b15=true:=by simp[hd]
     have er15:=G.Q15 t15;rw[er15];clear hd;refine zhF rfl rfl ?_
     (try simp only[Act.put,List.setIfInBounds_toArray,List.set_cons_zero,List.set_cons_succ])
     refine((HI.out _ _ _).2 ⟨{σ with b16:=true,s113:=undef,s112:=_},rfl,rfl,{G with D16:=fun _=>t15,D18:=fun h=>ff e (G.D18 h).1,Q15:=fun _=>rfl}⟩)
   . have t15:σ.b15=true:=by simp[hd]
     have er15:=G.Q15 t15;rw[er15];clear hd;refine zhF rfl rfl ?_
     (try simp only[Act.put,List.setIfInBounds_toArray,List.set_cons_zero,List.set_cons_succ])
     refine((HI.out _ _ _).2 ⟨{σ with b17:=true,s114:=undef,s112:=_},rfl,rfl,{G with D17:=fun _=>t15,D18:=fun h=>ff e (G.D18 h).2,Q15:=fun _=>rfl}⟩)
   . have t16:σ.b16=true:=by simp[hd]
     have t17:σ.b17=true:=by simp[hd]
     have t15:σ.b15=true:=by simp[hd]
     have er15:=G.Q15 t15;rw[er15];clear hd;refine zhF rfl rfl ?_
     (try simp only[Act.put,List.setIfInBounds_toArray,List.set_cons_zero,List.set_cons_succ])
     refine((HI.out _ _ _).2 ⟨{σ with b18:=true,s115:=undef,s112:=_},rfl,rfl,{G with D18:=fun _=>⟨t16,t17⟩,D19:=fun h=>ff e (G.D19 h),Q15:=fun _=>rfl}⟩)
   . have t15:σ.b15=true:=by simp[hd]
     have t18:σ.b18=true:=by simp[hd]
     have er15:=G.Q15 t15;clear hd;refine zad rfl rfl fun K HK2=> ?_
     go_simp
     refine HK2.out _ _ ((HI.out _ _ _).2 ⟨{σ with b19:=true,s116:=_,s112:=_},rfl,rfl,{G with D19:=fun _=>t18,D20:=fun h=>ff e (G.D20 h).2.2.2.2,Q15:=fun _=>rfl,Q19:=fun _=>rfl}⟩)
   . have t2:σ.b2=true:=by simp[hd]
     have t3:σ.b3=true:=by simp[hd]
     have t11:σ.b11=true:=by simp[hd]
     have t13:σ.b13=true:=by simp[hd]
     have t19:σ.b19=true:=by simp[hd]
     have er2:=G.Q2 t2;have er3:=G.Q3 t3;have er11:=G.Q11 t11;have er13:=G.Q13 t13;have er19:=G.Q19 t19
     have e21:σ.b21=false:=by
      rcases hs:σ.b21 with _|_
      . rfl
      . exact ff e (G.D21 hs).2.2
     have HX:=zsz (G.X e21);clear e21;clear hd;refine zad rfl rfl fun K HK2=> ?_
     go_simp
     go_at_call 91
     refine(hrec W HX.out).mono ?_;rintro e1 W2 ⟨A8,n8,c8,rfl,E2,hpb⟩
     (try dsimp only)
     (try simp only[Act.put,List.setIfInBounds_toArray,List.set_cons_zero,List.set_cons_succ])
     refine HK2.out _ _ ((HI.out _ _ _).2 ⟨{σ with b20:=true,s117:=_,s99:=_,s100:=_,s108:=_,s110:=_,s116:=_,A8:=A8,n8:=n8,c8:=c8},rfl,rfl,{G with D20:=fun _=>⟨t2,t3,t11,t13,t19⟩,D21:=fun h=>ff e (G.D21 h).2.2,Q2:=fun _=>rfl,Q3:=fun _=>rfl,Q11:=fun _=>rfl,Q13:=fun _=>rfl,Q19:=fun _=>rfl,Q20:=fun _=>rfl,X:=fun _=>HX.out.trans E2,F20:=fun _ _=>hpb,F21:=fun h=>ff e (G.D21 h).2.2,Q21:=fun h=>ff e (G.D21 h).2.2,Q22:=fun h=>ff e (G.D21 (G.D22 h)).2.2}⟩)
   . have t0:σ.b0=true:=by simp[hd]
     have t1:σ.b1=true:=by simp[hd]
     have t20:σ.b20=true:=by simp[hd]
     have er0:=G.Q0 t0;have er1:=G.Q1 t1;have er20:=G.Q20 t20;have HX:=zsz (G.X e);have HF:=zsz (G.F20 t20 e);clear hd;refine zad rfl rfl fun K HK2=> ?_
     go_simp
     go_at_call 120
     refine(hag W _ _ _ HX.out HF.out).mono ?_;rintro e1 W2 ⟨Az,nz,cz,rfl,hpc⟩
     (try dsimp only)
     (try simp only[Act.put,List.setIfInBounds_toArray,List.set_cons_zero,List.set_cons_succ])
     refine HK2.out _ _ ((HI.out _ _ _).2 ⟨{σ with b21:=true,s118:=_,s97:=_,s98:=_,s117:=_,Az:=Az,nz:=nz,cz:=cz},rfl,rfl,{G with D21:=fun _=>⟨t0,t1,t20⟩,D22:=fun h=>ff e (G.D22 h),Q0:=fun _=>rfl,Q1:=fun _=>rfl,Q20:=fun _=>rfl,Q21:=fun _=>rfl,X:=(fun h=>by cases h),F20:=(fun _ h=>by cases h),F21:=fun _=>hpc,Q22:=fun h=>ff e (G.D22 h)}⟩)
   . have t21:σ.b21=true:=by simp[hd]
     have er21:=G.Q21 t21;clear hd;refine zad rfl rfl fun K HK2=> ?_
     go_simp
     refine HK2.out _ _ ((HI.out _ _ _).2 ⟨{σ with b22:=true,s16:=_,s118:=_},rfl,rfl,{G with D22:=fun _=>t21,Q21:=fun _=>rfl,Q22:=fun _=>rfl,S16:=(fun h=>by cases h)}⟩)
 . obtain⟨σ,rfl,rfl,G⟩:=(HI.out _ _ _).1 hi
   clear hi;have t0:σ.b0=true:=zaa hr (i:=0) rfl (by simp[Region.binds]) (show 0<23 by decide);have t1:σ.b1=true:=zaa hr (i:=1) rfl (by simp[Region.binds,t0]) (show 1<23 by decide);have t2:σ.b2=true:=zaa hr (i:=2) rfl (by simp[Region.binds,t0,t1]) (show 2<23 by decide);have t3:σ.b3=true:=zaa hr (i:=3) rfl (by simp[Region.binds,t0,t1,t2]) (show 3<23 by decide);have t4:σ.b4=true:=zaa hr (i:=4) rfl (by simp[Region.binds,t0,t1,t2,t3]) (show 4<23 by decide);have t5:σ.b5=true:=zaa hr (i:=5) rfl (by simp[Region.binds,t0,t1,t2,t3,t4]) (show 5<23 by decide);have t6:σ.b6=true:=zaa hr (i:=6) rfl (by simp[Region.binds,t0,t1,t2,t3,t4,t5]) (show 6<23 by decide);have t7:σ.b7=true:=zaa hr (i:=7) rfl (by simp[Region.binds,t0,t1,t2,t3,t4,t5,t6]) (show 7<23 by decide);have t8:σ.b8=true:=zaa hr (i:=8) rfl (by simp[Region.binds,t0,t1,t2,t3,t4,t5,t6,t7]) (show 8<23 by decide);have t9:σ.b9=true:=zaa hr (i:=9) rfl (by simp[Region.binds,t0,t1,t2,t3,t4,t5,t6,t7,t8]) (show 9<23 by decide);have t10:σ.b10=true:=zaa hr (i:=10) rfl (by simp[Region.binds,t0,t1,t2,t3,t4,t5,t6,t7,t8,t9]) (show 10<23 by decide);have t11:σ.b11=true:=zaa hr (i:=11) rfl (by simp[Region.binds,t0,t1,t2,t3,t4,t5,t6,t7,t8,t9,t10]) (show 11<23 by decide);have t12:σ.b12=true:=zaa hr (i:=12) rfl (by simp[Region.binds,t0,t1,t2,t3,t4,t5,t6,t7,t8,t9,t10,t11]) (show 12<23 by decide);have t13:σ.b13=true:=zaa hr (i:=13) rfl (by simp[Region.binds,t0,t1,t2,t3,t4,t5,t6,t7,t8,t9,t10,t11,t12]) (show 13<23 by decide);have t14:σ.b14=true:=zaa hr (i:=14) rfl (by simp[Region.binds,t0,t1,t2,t3,t4,t5,t6,t7,t8,t9,t10,t11,t12,t13]) (show 14<23 by decide);have t15:σ.b15=true:=zaa hr (i:=15) rfl (by simp[Region.binds,t0,t1,t2,t3,t4,t5,t6,t7,t8,t9,t10,t11,t12,t13,t14]) (show 15<23 by decide);have t16:σ.b16=true:=zaa hr (i:=16) rfl (by simp[Region.binds,t0,t1,t2,t3,t4,t5,t6,t7,t8,t9,t10,t11,t12,t13,t14,t15]) (show 16<23 by decide);have t17:σ.b17=true:=zaa hr (i:=17) rfl (by simp[Region.binds,t0,t1,t2,t3,t4,t5,t6,t7,t8,t9,t10,t11,t12,t13,t14,t15,t16]) (show 17<23 by decide);have t18:σ.b18=true:=zaa hr (i:=18) rfl (by simp[Region.binds,t0,t1,t2,t3,t4,t5,t6,t7,t8,t9,t10,t11,t12,t13,t14,t15,t16,t17]) (show 18<23 by decide);have t19:σ.b19=true:=zaa hr (i:=19) rfl (by simp[Region.binds,t0,t1,t2,t3,t4,t5,t6,t7,t8,t9,t10,t11,t12,t13,t14,t15,t16,t17,t18]) (show 19<23 by decide);have t20:σ.b20=true:=zaa hr (i:=20) rfl (by simp[Region.binds,t0,t1,t2,t3,t4,t5,t6,t7,t8,t9,t10,t11,t12,t13,t14,t15,t16,t17,t18,t19]) (show 20<23 by decide);have t21:σ.b21=true:=zaa hr (i:=21) rfl (by simp[Region.binds,t0,t1,t2,t3,t4,t5,t6,t7,t8,t9,t10,t11,t12,t13,t14,t15,t16,t17,t18,t19,t20]) (show 21<23 by decide);have t22:σ.b22=true:=zaa hr (i:=22) rfl (by simp[Region.binds,t0,t1,t2,t3,t4,t5,t6,t7,t8,t9,t10,t11,t12,t13,t14,t15,t16,t17,t18,t19,t20,t21]) (show 22<23 by decide);exact HK.out _ _ _ _ _ _ _ _ _ _ _ _ _ _ _ _ _ _ _ _ _ _ _ σ.Az σ.nz σ.cz W (G.Q22 t22) (G.F21 t21)
 . refine(HI.out _ _ _).2 ⟨⟨false,false,false,false,false,false,false,false,false,false,false,false,false,false,false,false,false,false,false,false,false,false,false,_,_,_,_,_,_,_,_,_,_,_,_,_,_,_,_,_,_,_,_,_,_,_,none,0,0,none,0,0⟩,rfl,rfl,?_⟩
   constructor
   all_goals (try dsimp only)
   all_goals first|exact fun _=>rfl|exact fun _=>(Ext.refl w).drew|(intro h;cases h;done)
structure zoJ where
 (b0 b1 b2 b3 b4 b5 b6 b7 b8 b9 b10 b11 b12 b13 b14 b15 b16 b17 b18 b19:Bool)
 (s16 s148 s149 s150 s151 s152 s153 s154 s155 s156 s157 s158 s159 s160 s161 s162 s163 s164 s165 s166:Value)
 (A8:Option Addr)
 (n8:Nat)
 (c8:Nat)
 (Az:Option Addr)
 (nz:Nat)
 (cz:Nat)
structure zre(w:World)(kc sb so n c m wb wo k kcc n16 k16 fb fo Mk Mc j:Nat)(cutA A16:Option Addr)(x fof:Int)(PB PC:Option Addr->Nat->Nat->World->Prop)(σ:zoJ)(W:World):Prop where
 X:σ.b18=false->Ext w W
 S16:σ.b19=false->σ.s16=.slice A16 n16 k16
 Q0:σ.b0=true->σ.s148=.slice A16 n16 k16
 Q1:σ.b1=true->σ.s149=.int .i64 x
 Q2:σ.b2=true->σ.s150=.pointer (some ⟨kc,0,none⟩)
 Q3:σ.b3=true->σ.s151=.pointer (some ⟨kc,0,none⟩)
 Q4:σ.b4=true->σ.s152=.pointer (some ⟨kc,0,none⟩)
 Q5:σ.b5=true->σ.s153=.pointer (some ⟨kc,0,none⟩)
 Q6:σ.b6=true->σ.s154=.slice (some ⟨sb,so,none⟩) n c
 Q7:σ.b7=true->σ.s155=.int .i64 (m:Int)
 Q8:σ.b8=true->σ.s156=.pointer (some ⟨sb,so+m*2,none⟩)
 Q9:σ.b9=true->σ.s157=.pointer (some ⟨sb,so+m*2+1,none⟩)
 Q10:σ.b10=true->σ.s158=.slice (some ⟨fb,fo,none⟩) Mk Mc
 Q11:σ.b11=true->σ.s159=.int .i64 (j:Nat)
 Q12:σ.b12=true->σ.s160=.pointer (some ⟨fb,fo+j*6,none⟩)
 Q13:σ.b13=true->σ.s161=.pointer (some ⟨fb,fo+j*6+5,none⟩)
 Q14:σ.b14=true->σ.s162=.int .i64 fof
 Q15:σ.b15=true->σ.s163=.slice (some ⟨wb,wo,none⟩) k kcc
 Q16:σ.b16=true->σ.s164=.slice cutA (k - 1) (kcc - 1)
 Q17:σ.b17=true->σ.s165=.slice σ.A8 σ.n8 σ.c8
 Q18:σ.b18=true->σ.s166=.slice σ.Az σ.nz σ.cz
 Q19:σ.b19=true->σ.s16=.slice σ.Az σ.nz σ.cz
 F17:σ.b17=true->σ.b18=false->PB σ.A8 σ.n8 σ.c8 W
 F18:σ.b18=true->PC σ.Az σ.nz σ.cz W
 D4:σ.b4=true->σ.b3=true
 D5:σ.b5=true->σ.b4=true
 D6:σ.b6=true->σ.b5=true
 D8:σ.b8=true->σ.b6=true/\σ.b7=true
 D9:σ.b9=true->σ.b8=true
 D10:σ.b10=true->σ.b9=true
 D12:σ.b12=true->σ.b10=true/\σ.b11=true
 D13:σ.b13=true->σ.b12=true
 D14:σ.b14=true->σ.b13=true
 D16:σ.b16=true->σ.b15=true
 D17:σ.b17=true->σ.b2=true/\σ.b14=true/\σ.b16=true
 D18:σ.b18=true->σ.b0=true/\σ.b1=true/\σ.b17=true
 D19:σ.b19=true->σ.b18=true
theorem zrU{u2 u4 u15 u17 u18 u19 u20:Value}{sb so n c m fb fo Mk Mc j:Nat}{x:Int}(hmi:(m:Int)<n)(hji:(j:Int)<Mk)(zc:w.cell? ⟨kc,0,none⟩=some (.slice (some ⟨sb,so,none⟩) n c))(zm:w.cell? ⟨sb,so+m*2+1,none⟩=some (.slice (some ⟨fb,fo,none⟩) Mk Mc))(zf:w.cell? ⟨fb,fo+j*6+5,none⟩=some (.int .i64 fof))(hcut:∀W:World,(Instr.slice 34 (.slice (some ⟨wb,wo,none⟩) k kcc) (some (.int .i64 1)) none none).run prog W=.ok (.slice cutA (k - 1) (kcc - 1)) W)(hrec:∀W:World,Ext w W->Calls prog 91 #[.pointer (some ⟨kc,0,none⟩),.int .i64 fof,.slice none 0 0,.slice cutA (k - 1) (kcc - 1),.bool true] W fun e W'=>∃A' n' c',e=.returned (.slice A' n' c')/\Ext W W'/\PB A' n' c' W')(hlen:∀(W:World)(V:Option Addr)(n' c':Nat),Ext w W->PB V n' c' W->Calls prog 115 #[.slice A16 n16 k16,.int .i64 x,.slice V n' c'] W fun e W'=>∃A' n' c',e=.returned (.slice A' n' c')/\PC A' n' c' W')(hK:∀(s16 s148 s149 s150 s151 s152 s153 s154 s155 s156 s157 s158 s159 s160 s161 s162 s163 s164 s165 s166:Value)(Az:Option Addr)(nz cz:Nat)(wz:World),s16=.slice Az nz cz->PC Az nz cz wz->Q0 .normal ⟨#[.pointer (some ⟨kc,0,none⟩),.int .i64 (m:Int),u2,.slice (some ⟨wb,wo,none⟩) k kcc,u4,u5,u6,u7,u8,u9,u10,u11,u12,u13,.int .i64 x,u15,s16,u17,u18,u19,u20,.int .i64 (j:Nat),u22,u23,u24,u25,u26,u27,u28,u29,u30,u31,u32,u33,u34,u35,u36,u37,u38,u39,u40,u41,u42,u43,u44,u45,u46,u47,u48,u49,u50,u51,u52,u53,u54,u55,u56,u57,u58,u59,u60,u61,u62,u63,u64,u65,u66,u67,u68,u69,u70,u71,u72,u73,u74,u75,u76,u77,u78,u79,u80,u81,u82,u83,u84,u85,u86,u87,u88,u89,u90,u91,u92,u93,u94,u95,u96,u97,u98,u99,u100,u101,u102,u103,u104,u105,u106,u107,u108,u109,u110,u111,u112,u113,u114,u115,u116,u117,u118,u119,u120,u121,u122,u123,u124,u125,u126,u127,u128,u129,u130,u131,u132,u133,u134,u135,u136,u137,u138,u139,u140,u141,u142,u143,u144,u145,u146,u147,s148,s149,s150,s151,s152,s153,s154,s155,s156,s157,s158,s159,s160,s161,s162,s163,s164,s165,s166,u167],[]⟩ wz):
 Code.wp prog (regSe 19) (zeS Q0) ⟨#[.pointer (some ⟨kc,0,none⟩),.int .i64 (m:Int),u2,.slice (some ⟨wb,wo,none⟩) k kcc,u4,u5,u6,u7,u8,u9,u10,u11,u12,u13,.int .i64 x,u15,.slice A16 n16 k16,u17,u18,u19,u20,.int .i64 (j:Nat),u22,u23,u24,u25,u26,u27,u28,u29,u30,u31,u32,u33,u34,u35,u36,u37,u38,u39,u40,u41,u42,u43,u44,u45,u46,u47,u48,u49,u50,u51,u52,u53,u54,u55,u56,u57,u58,u59,u60,u61,u62,u63,u64,u65,u66,u67,u68,u69,u70,u71,u72,u73,u74,u75,u76,u77,u78,u79,u80,u81,u82,u83,u84,u85,u86,u87,u88,u89,u90,u91,u92,u93,u94,u95,u96,u97,u98,u99,u100,u101,u102,u103,u104,u105,u106,u107,u108,u109,u110,u111,u112,u113,u114,u115,u116,u117,u118,u119,u120,u121,u122,u123,u124,u125,u126,u127,u128,u129,u130,u131,u132,u133,u134,u135,u136,u137,u138,u139,u140,u141,u142,u143,u144,u145,u146,u147,u148,u149,u150,u151,u152,u153,u154,u155,u156,u157,u158,u159,u160,u161,u162,u163,u164,u165,u166,u167],[]⟩ w:=by
 have HK:=zsz hK;clear hK
 conv=>arg 2;whnf
 obtain⟨I,hI⟩:∃I:Array Bool->Act->World->Prop,∀l a W,I l a W<->(∃σ:zoJ,l=#[σ.b0,σ.b1,σ.b2,σ.b3,σ.b4,σ.b5,σ.b6,σ.b7,σ.b8,σ.b9,σ.b10,σ.b11,σ.b12,σ.b13,σ.b14,σ.b15,σ.b16,σ.b17,σ.b18,σ.b19]/\a=⟨#[.pointer (some ⟨kc,0,none⟩),.int .i64 (m:Int),u2,.slice (some ⟨wb,wo,none⟩) k kcc,u4,u5,u6,u7,u8,u9,u10,u11,u12,u13,.int .i64 x,u15,σ.s16,u17,u18,u19,u20,.int .i64 (j:Nat),u22,u23,u24,u25,u26,u27,u28,u29,u30,u31,u32,u33,u34,u35,u36,u37,u38,u39,u40,u41,u42,u43,u44,u45,u46,u47,u48,u49,u50,u51,u52,u53,u54,u55,u56,u57,u58,u59,u60,u61,u62,u63,u64,u65,u66,u67,u68,u69,u70,u71,u72,u73,u74,u75,u76,u77,u78,u79,u80,u81,u82,u83,u84,u85,u86,u87,u88,u89,u90,u91,u92,u93,u94,u95,u96,u97,u98,u99,u100,u101,u102,u103,u104,u105,u106,u107,u108,u109,u110,u111,u112,u113,u114,u115,u116,u117,u118,u119,u120,u121,u122,u123,u124,u125,u126,u127,u128,u129,u130,u131,u132,u133,u134,u135,u136,u137,u138,u139,u140,u141,u142,u143,u144,u145,u146,u147,σ.s148,σ.s149,σ.s150,σ.s151,σ.s152,σ.s153,σ.s154,σ.s155,σ.s156,σ.s157,σ.s158,σ.s159,σ.s160,σ.s161,σ.s162,σ.s163,σ.s164,σ.s165,σ.s166,u167],[]⟩/\zre w kc sb so n c m wb wo k kcc n16 k16 fb fo Mk Mc j cutA A16 x fof PB PC σ W):=⟨_,fun _ _ _=>Iff.rfl⟩
 have HI:=zsz hI;clear hI;refine zbe (I:=I) (by kernel_rfl) (fun i l a W hi hr=> ?_) (fun l a W hi hr=> ?_) ?_
 . obtain⟨σ,rfl,rfl,G⟩:=(HI.out _ _ _).1 hi
   clear hi;obtain⟨hlt,hl,hd⟩:=zbo hr;clear hr;have hlt:i<20:=hlt;rcases(show i=0\/i=1\/i=2\/i=3\/i=4\/i=5\/i=6\/i=7\/i=8\/i=9\/i=10\/i=11\/i=12\/i=13\/i=14\/i=15\/i=16\/i=17\/i=18\/i=19 by omega)with rfl|rfl|rfl|rfl|rfl|rfl|rfl|rfl|rfl|rfl|rfl|rfl|rfl|rfl|rfl|rfl|rfl|rfl|rfl|rfl
   all_goals
    have hd:=hd _ rfl;clear hlt;simp[Region.binds]at hl hd;have e:=zsz hl;clear hl
   . have e19:σ.b19=false:=by
      rcases hs:σ.b19 with _|_
      . rfl
      . exact ff e (G.D18 (G.D19 hs)).1
     have er16:=G.S16 e19;refine zad rfl rfl fun K HK2=> ?_
     go_simp
     refine HK2.out _ _ ((HI.out _ _ _).2 ⟨{σ with b0:=true,s148:=_,s16:=_},rfl,rfl,{G with D18:=fun h=>ff e (G.D18 h).1,Q0:=fun _=>rfl,S16:=fun _=>rfl,Q19:=fun h=>ff e (G.D18 (G.D19 h)).1}⟩)
   . refine zad rfl rfl fun K HK2=> ?_
     go_simp
     refine HK2.out _ _ ((HI.out _ _ _).2 ⟨{σ with b1:=true,s149:=_},rfl,rfl,{G with D18:=fun h=>ff e (G.D18 h).2.1,Q1:=fun _=>rfl}⟩)
   . refine zad rfl rfl fun K HK2=> ?_
     go_simp
     refine HK2.out _ _ ((HI.out _ _ _).2 ⟨{σ with b2:=true,s150:=_},rfl,rfl,{G with D17:=fun h=>ff e (G.D17 h).1,Q2:=fun _=>rfl}⟩)
   . refine zad rfl rfl fun K HK2=> ?_
     go_simp
     refine HK2.out _ _ ((HI.out _ _ _).2 ⟨{σ with b3:=true,s151:=_},rfl,rfl,{G with D4:=fun h=>ff e (G.D4 h),Q3:=fun _=>rfl}⟩)
   . have t3:σ.b3=true:=by simp[hd]
     have er3:=G.Q3 t3;clear hd;refine zad rfl rfl fun K HK2=> ?_
     go_simp
     refine HK2.out _ _ ((HI.out _ _ _).2 ⟨{σ with b4:=true,s152:=_,s151:=_},rfl,rfl,{G with D4:=fun _=>t3,D5:=fun h=>ff e (G.D5 h),Q3:=fun _=>rfl,Q4:=fun _=>rfl}⟩)
   . have t4:σ.b4=true:=by simp[hd]
     have er4:=G.Q4 t4;clear hd;refine zad rfl rfl fun K HK2=> ?_
     go_simp
     refine HK2.out _ _ ((HI.out _ _ _).2 ⟨{σ with b5:=true,s153:=_,s152:=_},rfl,rfl,{G with D5:=fun _=>t4,D6:=fun h=>ff e (G.D6 h),Q4:=fun _=>rfl,Q5:=fun _=>rfl}⟩)
   . have t5:σ.b5=true:=by simp[hd]
     have er5:=G.Q5 t5
     have e18:σ.b18=false:=by
      rcases hs:σ.b18 with _|_
      . rfl
      . exact ff e (G.D8 (G.D9 (G.D10 (G.D12 (G.D13 (G.D14 (G.D17 (G.D18 hs).2.2).2.1))).1))).1
     have X:=G.X e18;have g0:W.cell? ⟨kc,0,none⟩=some (.slice (some ⟨sb,so,none⟩) n c):=X.of_cell zc;have gl0:=World.block_lt_of_cell? W _ g0;have HX:=zsz X;clear X;have H2:=zsz e18;clear e18;clear hd;refine zad rfl rfl fun K HK2=> ?_
     go_simp
     refine HK2.out _ _ ((HI.out _ _ _).2 ⟨{σ with b6:=true,s154:=_,s153:=_},rfl,rfl,{G with D6:=fun _=>t5,D8:=fun h=>ff e (G.D8 h).1,Q5:=fun _=>rfl,Q6:=fun _=>rfl}⟩)
   . refine zad rfl rfl fun K HK2=> ?_
     go_simp
     refine HK2.out _ _ ((HI.out _ _ _).2 ⟨{σ with b7:=true,s155:=_},rfl,rfl,{G with D8:=fun h=>ff e (G.D8 h).2,Q7:=fun _=>rfl}⟩)
   . have t6:σ.b6=true:=by simp[hd]
     have t7:σ.b7=true:=by simp[hd]
     have er6:=G.Q6 t6;have er7:=G.Q7 t7;clear hd;refine zad rfl rfl fun K HK2=> ?_
     go_simp
     refine HK2.out _ _ ((HI.out _ _ _).2 ⟨{σ with b8:=true,s156:=_,s154:=_,s155:=_},rfl,rfl,{G with D8:=fun _=>⟨t6,t7⟩,D9:=fun h=>ff e (G.D9 h),Q6:=fun _=>rfl,Q7:=fun _=>rfl,Q8:=fun _=>rfl}⟩)
   . have t8:σ.b8=true:=by simp[hd]
     have er8:=G.Q8 t8;clear hd;refine zad rfl rfl fun K HK2=> ?_
     go_simp
     refine HK2.out _ _ ((HI.out _ _ _).2 ⟨{σ with b9:=true,s157:=_,s156:=_},rfl,rfl,{G with D9:=fun _=>t8,D10:=fun h=>ff e (G.D10 h),Q8:=fun _=>rfl,Q9:=fun _=>rfl}⟩)
   . have t9:σ.b9=true:=by simp[hd]
     have er9:=G.Q9 t9
     have e18:σ.b18=false:=by
      rcases hs:σ.b18 with _|_
      . rfl
      . exact ff e (G.D12 (G.D13 (G.D14 (G.D17 (G.D18 hs).2.2).2.1))).1
     have X:=G.X e18;have g0:W.cell? ⟨sb,so+m*2+1,none⟩=some (.slice (some ⟨fb,fo,none⟩) Mk Mc):=X.of_cell zm;have gl0:=World.block_lt_of_cell? W _ g0;have HX:=zsz X;clear X;have H2:=zsz e18;clear e18;clear hd;refine zad rfl rfl fun K HK2=> ?_
     go_simp
     refine HK2.out _ _ ((HI.out _ _ _).2 ⟨{σ with b10:=true,s158:=_,s157:=_},rfl,rfl,{G with D10:=fun _=>t9,D12:=fun h=>ff e (G.D12 h).1,Q9:=fun _=>rfl,Q10:=fun _=>rfl}⟩)
   . refine zad rfl rfl fun K HK2=> ?_
     go_simp
     refine HK2.out _ _ ((HI.out _ _ _).2 ⟨{σ with b11:=true,s159:=_},rfl,rfl,{G with D12:=fun h=>ff e (G.D12 h).2,Q11:=fun _=>rfl}⟩)
   . have t10:σ.b10=true:=by simp[hd]
     have t11:σ.b11=true:=by simp[hd]
     have er10:=G.Q10 t10;have er11:=G.Q11 t11;clear hd;refine zad rfl rfl fun K HK2=> ?_
     go_simp
     refine HK2.out _ _ ((HI.out _ _ _).2 ⟨{σ with b12:=true,s160:=_,s158:=_,s159:=_},rfl,rfl,{G with D12:=fun _=>⟨t10,t11⟩,D13:=fun h=>ff e (G.D13 h),Q10:=fun _=>rfl,Q11:=fun _=>rfl,Q12:=fun _=>rfl}⟩)
   . have t12:σ.b12=true:=by simp[hd]
     have er12:=G.Q12 t12;clear hd;refine zad rfl rfl fun K HK2=> ?_
     go_simp
     refine HK2.out _ _ ((HI.out _ _ _).2 ⟨{σ with b13:=true,s161:=_,s160:=_},rfl,rfl,{G with D13:=fun _=>t12,D14:=fun h=>ff e (G.D14 h),Q12:=fun _=>rfl,Q13:=fun _=>rfl}⟩)
   . have t13:σ.b13=true:=by simp[hd]
     have er13:=G.Q13 t13
     have e18:σ.b18=false:=by
      rcases hs:σ.b18 with _|_
      . rfl
      . exact ff e (G.D17 (G.D18 hs).2.2).2.1
     have X:=G.X e18;have g0:W.cell? ⟨fb,fo+j*6+5,none⟩=some (.int .i64 fof):=X.of_cell zf;have gl0:=World.block_lt_of_cell? W _ g0;have HX:=zsz X;clear X;have H2:=zsz e18;clear e18;clear hd;refine zad rfl rfl fun K HK2=> ?_
     go_simp
     refine HK2.out _ _ ((HI.out _ _ _).2 ⟨{σ with b14:=true,s162:=_,s161:=_},rfl,rfl,{G with D14:=fun _=>t13,D17:=fun h=>ff e (G.D17 h).2.1,Q13:=fun _=>rfl,Q14:=fun _=>rfl}⟩)
   . refine zad rfl rfl fun K HK2=> ?_
     go_simp
     refine HK2.out _ _ ((HI.out _ _ _).2 ⟨{σ with b15:=true,s163:=_},rfl,rfl,{G with D16:=fun h=>ff e (G.D16 h),Q15:=fun _=>rfl}⟩)
   . have t15:σ.b15=true:=by simp[hd]
     have er15:=G.Q15 t15;clear hd;refine zad rfl rfl fun K HK2=> ?_
     go_simp
     refine HK2.out _ _ ((HI.out _ _ _).2 ⟨{σ with b16:=true,s164:=_,s163:=_},rfl,rfl,{G with D16:=fun _=>t15,D17:=fun h=>ff e (G.D17 h).2.2,Q15:=fun _=>rfl,Q16:=fun _=>rfl}⟩)
   . have t2:σ.b2=true:=by simp[hd]
     have t14:σ.b14=true:=by simp[hd]
     have t16:σ.b16=true:=by simp[hd]
     have er2:=G.Q2 t2;have er14:=G.Q14 t14;have er16:=G.Q16 t16
     have e18:σ.b18=false:=by
      rcases hs:σ.b18 with _|_
      . rfl
      . exact ff e (G.D18 hs).2.2
     have HX:=zsz (G.X e18);clear e18;clear hd;refine zad rfl rfl fun K HK2=> ?_
     go_simp
     go_at_call 91
     refine(hrec W HX.out).mono ?_;rintro e1 W2 ⟨A8,n8,c8,rfl,E2,hpb⟩
     (try dsimp only)
     (try simp only[Act.put,List.setIfInBounds_toArray,List.set_cons_zero,List.set_cons_succ])
     refine HK2.out _ _ ((HI.out _ _ _).2 ⟨{σ with b17:=true,s165:=_,s150:=_,s162:=_,s164:=_,A8:=A8,n8:=n8,c8:=c8},rfl,rfl,{G with D17:=fun _=>⟨t2,t14,t16⟩,D18:=fun h=>ff e (G.D18 h).2.2,Q2:=fun _=>rfl,Q14:=fun _=>rfl,Q16:=fun _=>rfl,Q17:=fun _=>rfl,X:=fun _=>HX.out.trans E2,F17:=fun _ _=>hpb,F18:=fun h=>ff e (G.D18 h).2.2,Q18:=fun h=>ff e (G.D18 h).2.2,Q19:=fun h=>ff e (G.D18 (G.D19 h)).2.2}⟩)
   . have t0:σ.b0=true:=by simp[hd]
     have t1:σ.b1=true:=by simp[hd]
     have t17:σ.b17=true:=by simp[hd]
     have er0:=G.Q0 t0;have er1:=G.Q1 t1;have er17:=G.Q17 t17;have HX:=zsz (G.X e);have HF:=zsz (G.F17 t17 e);clear hd;refine zad rfl rfl fun K HK2=> ?_
     go_simp
     go_at_call 115
     refine(hlen W _ _ _ HX.out HF.out).mono ?_;rintro e1 W2 ⟨Az,nz,cz,rfl,hpc⟩
     (try dsimp only)
     (try simp only[Act.put,List.setIfInBounds_toArray,List.set_cons_zero,List.set_cons_succ])
     refine HK2.out _ _ ((HI.out _ _ _).2 ⟨{σ with b18:=true,s166:=_,s148:=_,s149:=_,s165:=_,Az:=Az,nz:=nz,cz:=cz},rfl,rfl,{G with D18:=fun _=>⟨t0,t1,t17⟩,D19:=fun h=>ff e (G.D19 h),Q0:=fun _=>rfl,Q1:=fun _=>rfl,Q17:=fun _=>rfl,Q18:=fun _=>rfl,X:=(fun h=>by cases h),F17:=(fun _ h=>by cases h),F18:=fun _=>hpc,Q19:=fun h=>ff e (G.D19 h)}⟩)
   . have t18:σ.b18=true:=by simp[hd]
     have er18:=G.Q18 t18;clear hd;refine zad rfl rfl fun K HK2=> ?_
     go_simp
     refine HK2.out _ _ ((HI.out _ _ _).2 ⟨{σ with b19:=true,s16:=_,s166:=_},rfl,rfl,{G with D19:=fun _=>t18,Q18:=fun _=>rfl,Q19:=fun _=>rfl,S16:=(fun h=>by cases h)}⟩)
 . obtain⟨σ,rfl,rfl,G⟩:=(HI.out _ _ _).1 hi
   clear hi;have t0:σ.b0=true:=zaa hr (i:=0) rfl (by simp[Region.binds]) (show 0<20 by decide);have t1:σ.b1=true:=zaa hr (i:=1) rfl (by simp[Region.binds,t0]) (show 1<20 by decide);have t2:σ.b2=true:=zaa hr (i:=2) rfl (by simp[Region.binds,t0,t1]) (show 2<20 by decide);have t3:σ.b3=true:=zaa hr (i:=3) rfl (by simp[Region.binds,t0,t1,t2]) (show 3<20 by decide);have t4:σ.b4=true:=zaa hr (i:=4) rfl (by simp[Region.binds,t0,t1,t2,t3]) (show 4<20 by decide);have t5:σ.b5=true:=zaa hr (i:=5) rfl (by simp[Region.binds,t0,t1,t2,t3,t4]) (show 5<20 by decide);have t6:σ.b6=true:=zaa hr (i:=6) rfl (by simp[Region.binds,t0,t1,t2,t3,t4,t5]) (show 6<20 by decide);have t7:σ.b7=true:=zaa hr (i:=7) rfl (by simp[Region.binds,t0,t1,t2,t3,t4,t5,t6]) (show 7<20 by decide);have t8:σ.b8=true:=zaa hr (i:=8) rfl (by simp[Region.binds,t0,t1,t2,t3,t4,t5,t6,t7]) (show 8<20 by decide);have t9:σ.b9=true:=zaa hr (i:=9) rfl (by simp[Region.binds,t0,t1,t2,t3,t4,t5,t6,t7,t8]) (show 9<20 by decide);have t10:σ.b10=true:=zaa hr (i:=10) rfl (by simp[Region.binds,t0,t1,t2,t3,t4,t5,t6,t7,t8,t9]) (show 10<20 by decide);have t11:σ.b11=true:=zaa hr (i:=11) rfl (by simp[Region.binds,t0,t1,t2,t3,t4,t5,t6,t7,t8,t9,t10]) (show 11<20 by decide);have t12:σ.b12=true:=zaa hr (i:=12) rfl (by simp[Region.binds,t0,t1,t2,t3,t4,t5,t6,t7,t8,t9,t10,t11]) (show 12<20 by decide);have t13:σ.b13=true:=zaa hr (i:=13) rfl (by simp[Region.binds,t0,t1,t2,t3,t4,t5,t6,t7,t8,t9,t10,t11,t12]) (show 13<20 by decide);have t14:σ.b14=true:=zaa hr (i:=14) rfl (by simp[Region.binds,t0,t1,t2,t3,t4,t5,t6,t7,t8,t9,t10,t11,t12,t13]) (show 14<20 by decide);have t15:σ.b15=true:=zaa hr (i:=15) rfl (by simp[Region.binds,t0,t1,t2,t3,t4,t5,t6,t7,t8,t9,t10,t11,t12,t13,t14]) (show 15<20 by decide);have t16:σ.b16=true:=zaa hr (i:=16) rfl (by simp[Region.binds,t0,t1,t2,t3,t4,t5,t6,t7,t8,t9,t10,t11,t12,t13,t14,t15]) (show 16<20 by decide);have t17:σ.b17=true:=zaa hr (i:=17) rfl (by simp[Region.binds,t0,t1,t2,t3,t4,t5,t6,t7,t8,t9,t10,t11,t12,t13,t14,t15,t16]) (show 17<20 by decide);have t18:σ.b18=true:=zaa hr (i:=18) rfl (by simp[Region.binds,t0,t1,t2,t3,t4,t5,t6,t7,t8,t9,t10,t11,t12,t13,t14,t15,t16,t17]) (show 18<20 by decide);have t19:σ.b19=true:=zaa hr (i:=19) rfl (by simp[Region.binds,t0,t1,t2,t3,t4,t5,t6,t7,t8,t9,t10,t11,t12,t13,t14,t15,t16,t17,t18]) (show 19<20 by decide);exact HK.out _ _ _ _ _ _ _ _ _ _ _ _ _ _ _ _ _ _ _ _ σ.Az σ.nz σ.cz W (G.Q19 t19) (G.F18 t18)
 . refine(HI.out _ _ _).2 ⟨⟨false,false,false,false,false,false,false,false,false,false,false,false,false,false,false,false,false,false,false,false,_,_,_,_,_,_,_,_,_,_,_,_,_,_,_,_,_,_,_,_,none,0,0,none,0,0⟩,rfl,rfl,?_⟩
   constructor
   all_goals (try dsimp only)
   all_goals first|exact fun _=>rfl|exact fun _=>(Ext.refl w).drew|(intro h;cases h;done)
end Go.Proofs.YtpicpebolghcfaaGreatDoor
