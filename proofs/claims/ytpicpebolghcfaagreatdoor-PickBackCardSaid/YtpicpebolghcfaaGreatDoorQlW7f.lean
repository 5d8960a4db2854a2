/- The drawn regions of the reference's Of, as laws of their own. -/
import Derived.Test.YtpicpebolghcfaaGreatDoorQlW14u

set_option linter.unusedVariables false
set_option maxRecDepth 100000
set_option maxHeartbeats 4000000
namespace Go.Proofs.YtpicpebolghcfaaGreatDoor
open Go.RowKit Go.Shelf Tryz
def zdt(n:Nat):Code->Option Code
 |.region i ops d=>if i=n then some (.region i ops d)else none
 |.loop c=>zdt n c
 |.seq a b=>match zdt n a with
  |some c=>some c
  |none=>zdt n b
 |.block _ c=>zdt n c
 |.scope c=>zdt n c
 |.cond _ a b=>match zdt n a with
  |some c=>some c
  |none=>zdt n b
 |_=>none
def calmQ(Q:Exit->Act->World->Prop):Exit->Act->World->Prop
 |.panic x,a,w=>a.defers=[]/\Q (.panic x) ⟨#[],[]⟩ w
 |e,a,w=>Q e a w
variable{w:World}
theorem calm{P:Program}{c:Code}{Q:Exit->Act->World->Prop}{a:Act}(hq:∀x a w,a.defers=[]->Q (.panic x) ⟨#[],[]⟩ w->Q (.panic x) a w)(h:c.wp P (calmQ Q) a w):c.wp P Q a w:=
 Code.wp_mono (fun e a w h=>by
  cases e
  all_goals first|exact h|exact hq _ _ _ h.1 h.2) h
noncomputable def regO(n:Nat):Code:=((Tryz.f11.body.bind (zdt n)).getD .skip)
structure RUnk(w w9 wr:World)(bx:Nat)(bs:List UInt8)(L:List ViewD)(V:Option Addr)(vn vc k:Nat)(U:Option Addr)(un uc:Nat):Prop where
 x:BlkT wr bx 40 #[.slice V vn vc,.slice U un uc]
 unk:Own w wr 9 1 U un uc ((unkO bs (L.take k)).map strV)
 unL:un=(unkO bs (L.take k)).length
 unew:∀b,(Value.slice U 0 0).ownBlock=some b->w9.heap.size<=b
 stays:Stays (fun b=>b≠bx) w9 wr
theorem RUnk.step{w w9 wr:World}{bx:Nat}{bs:List UInt8}{L:List ViewD}{V:Option Addr}{vn vc k:Nat}{U:Option Addr}{un uc:Nat}(h:RUnk w w9 wr bx bs L V vn vc k U un uc)(hb:w.heap.size<=bx)(h9:bx<w9.heap.size){v:ViewD}(hv:L[k]?=some v)(hneg:v.field<0){W0:World}(X:Ext wr W0){ob:Obj}{A7:Option Addr}{c7:Nat}{w7:World}(own7:Own w w7 9 1 A7 (un+1) c7 ((unkO bs (L.take k)).map strV++[.string ⟨(spanB bs v.r.f v.r.t).toArray⟩]))(g7:(W0.alloc ob).grownBy w7 (Value.slice U un uc).ownBlock)(m7:Moved (W0.alloc ob) U A7):
 RUnk w w9 (w7.setCell ⟨bx,1,none⟩ (.slice A7 (un+1) c7)) bx bs L V vn vc (k+1) A7 (un+1) c7:=by
 have hX:Ext wr (W0.alloc ob):=X.alloc ob;have hu:=h.unk.up hX;have B7:=(h.x.up hX).beside hu (by decide) g7;have hsz:=h.stays.size;have hsz2:=hX.size;have hfar:=own7.far B7 (by decide) hb 1 (.slice A7 (un+1) c7);refine⟨B7.set_ 1 _,?_,?_,fun b hb=> ?_,?_⟩
 . rw[zmB hv hneg,List.map_append]
   exact hfar
 . rw[zmB hv hneg,List.length_append,<-h.unL]
   rfl
 . rcases m7 with q|q
   . rw[q]at hb
     exact h.unew b hb
   . rw[q]at hb
     injection hb with hb;omega
 . have hS0:Stays (fun b=>(Value.slice U 0 0).ownBlock≠some b/\b≠bx) (W0.alloc ob) (w7.setCell ⟨bx,1,none⟩ (.slice A7 (un+1) c7)):=
    (Stays.grown g7 (fun b hb q=>q.1 (by rw[zaV U un uc 0 0]at hb;exact hb))).set (fun q=>q.2 rfl) _
   refine⟨Nat.le_trans hsz (Nat.le_trans hsz2 hS0.size),fun b hb hlt2=> ?_⟩;rw[hS0.block b ⟨fun q=> ?_,hb⟩ (by omega),hX.block b (by omega),h.stays.block b hb hlt2];have:=h.unew b q;omega
variable{wq:World}{u1 u3 u4 u5 u6 u8 u9 u11 u12 u13 u14 u15 u16 u17 u18 u19 u20 u21 u22 u24 u25 u26 u27 u28 u29 u30 u31 u32 u33 u34 u35 u36 u37 u38 u39 u40 u41 u42 u43 u44 u45 u46 u47 u48 u49 u50 u51 u52 u53 u54 u55 u56 u57 u58 u59 u60 u61 u62 u63 u64 u65 u66 u67 u68 u69 u70 u71 u72 u73 u74 u75 u76 u77 u78 u79 u80 u81 u82 u83 u84 u85 u86 u87 u88 u89 u90 u91 u92 u93 u94 u95 u96 u97 u98 u99 u100 u101 u102 u103 u104 u105 u106 u107 u108 u109 u110 u111 u112 u113 u114 u115 u116 u117 u118 u119 u120 u121 u122 u123 u124 u125 u126 u127 u128 u129 u130 u131 u132 u133 u134 u135 u136 u137 u138 u139 u140 u141 u142 u143 u144 u145 u146 u147 u148 u149 u150 u151 u152 u153 u154 u155 u156 u157 u158 u159 u160 u161 u162 u163 u164 u165 u166 u167 u168 u169 u170 u171 u172 u173 u174 u175 u176 u177 u178 u179 u180 u181 u182 u183 u184 u185 u186 u187 u188 u189 u190 u191 u192 u193 u194 u195 u196 u197 u198 u199 u200 u201 u202 u203 u204 u205 u206 u207 u208 u209 u210 u211 u212 u213 u214 u215 u216 u217 u218 u219 u220:Value}{Q0:Exit->Act->World->Prop}
theorem reg38{u0:Value}{w9:World}{A:Option Addr}{n c b5 off5 ln c1 bx k:Nat}{bs:List UInt8}{L:List ViewD}{V:Option Addr}{vn vc:Nat}{U:Option Addr}{un uc:Nat}{v:ViewD}(Hu:Hid (RUnk w w9 wq bx bs L V vn vc k U un uc))(hb0:w.heap.size<=bx)(h9:bx<w9.heap.size)(hv:Hid (L[k]?=some v))(hneg:v.field<0)(Hb:Hid (zac wq A n c bs))(hn:n<=100000)(hft:v.r.f<=v.r.t)(htn:v.r.t<=n)(hk:k<ln)(hln:ln<=100000)(hun:un<=100000)(hb5:b5<wq.heap.size)(e2:wq.cell? ⟨b5,off5+k*7+2,none⟩=some (.int .i64 (v.r.f:Int)))(e4:wq.cell? ⟨b5,off5+k*7+4,none⟩=some (.int .i64 (v.r.t:Int)))(hK:∀(v200 v201 v202 v203 v204 v205 v206 v207 v208 v209 v210 v211 v212 v213 v214 v215 v216 v217 v218 v219:Value)(A7:Option Addr)(c7:Nat)(wz:World),RUnk w w9 wz bx bs L V vn vc (k+1) A7 (un+1) c7->Q0 .normal ⟨#[u0,u1,.slice A n c,u3,u4,u5,u6,.slice (some ⟨b5,off5,none⟩) ln c1,u8,u9,.pointer (some ⟨bx,0,none⟩),u11,u12,u13,u14,u15,u16,u17,u18,u19,u20,u21,u22,.int .i64 (k:Int),u24,u25,u26,u27,u28,u29,u30,u31,u32,u33,u34,u35,u36,u37,u38,u39,u40,u41,u42,u43,u44,u45,u46,u47,u48,u49,u50,u51,u52,u53,u54,u55,u56,u57,u58,u59,u60,u61,u62,u63,u64,u65,u66,u67,u68,u69,u70,u71,u72,u73,u74,u75,u76,u77,u78,u79,u80,u81,u82,u83,u84,u85,u86,u87,u88,u89,u90,u91,u92,u93,u94,u95,u96,u97,u98,u99,u100,u101,u102,u103,u104,u105,u106,u107,u108,u109,u110,u111,u112,u113,u114,u115,u116,u117,u118,u119,u120,u121,u122,u123,u124,u125,u126,u127,u128,u129,u130,u131,u132,u133,u134,u135,u136,u137,u138,u139,u140,u141,u142,u143,u144,u145,u146,u147,u148,u149,u150,u151,u152,u153,u154,u155,u156,u157,u158,u159,u160,u161,u162,u163,u164,u165,u166,u167,u168,u169,u170,u171,u172,u173,u174,u175,u176,u177,u178,u179,u180,u181,u182,u183,u184,u185,u186,u187,u188,u189,u190,u191,u192,u193,u194,u195,u196,u197,u198,u199,v200,v201,v202,v203,v204,v205,v206,v207,v208,v209,v210,v211,v212,v213,v214,v215,v216,v217,v218,v219,u220],[]⟩ wz):
 Code.wp prog (regO 38) (calmQ Q0) ⟨#[u0,u1,.slice A n c,u3,u4,u5,u6,.slice (some ⟨b5,off5,none⟩) ln c1,u8,u9,.pointer (some ⟨bx,0,none⟩),u11,u12,u13,u14,u15,u16,u17,u18,u19,u20,u21,u22,.int .i64 (k:Int),u24,u25,u26,u27,u28,u29,u30,u31,u32,u33,u34,u35,u36,u37,u38,u39,u40,u41,u42,u43,u44,u45,u46,u47,u48,u49,u50,u51,u52,u53,u54,u55,u56,u57,u58,u59,u60,u61,u62,u63,u64,u65,u66,u67,u68,u69,u70,u71,u72,u73,u74,u75,u76,u77,u78,u79,u80,u81,u82,u83,u84,u85,u86,u87,u88,u89,u90,u91,u92,u93,u94,u95,u96,u97,u98,u99,u100,u101,u102,u103,u104,u105,u106,u107,u108,u109,u110,u111,u112,u113,u114,u115,u116,u117,u118,u119,u120,u121,u122,u123,u124,u125,u126,u127,u128,u129,u130,u131,u132,u133,u134,u135,u136,u137,u138,u139,u140,u141,u142,u143,u144,u145,u146,u147,u148,u149,u150,u151,u152,u153,u154,u155,u156,u157,u158,u159,u160,u161,u162,u163,u164,u165,u166,u167,u168,u169,u170,u171,u172,u173,u174,u175,u176,u177,u178,u179,u180,u181,u182,u183,u184,u185,u186,u187,u188,u189,u190,u191,u192,u193,u194,u195,u196,u197,u198,u199,u200,u201,u202,u203,u204,u205,u206,u207,u208,u209,u210,u211,u212,u213,u214,u215,u216,u217,u218,u219,u220],[]⟩ wq:=by
 have x1:wq.cell? ⟨bx,1,none⟩=some (.slice U un uc):=Hu.out.x.cell 1;have xf:=Hu.out.x.free 1;have xl:=Hu.out.x.lt;have hltI:(k:Int)<ln:=by omega
 obtain⟨A9,run9,hb9v⟩:=zcc Hb.out (l:=v.r.f) (m:=v.r.t) hft htn;have cv:(convert 24 9 (.slice A9 (v.r.t - v.r.f) (c - v.r.f))).run prog wq.drew=.ok (.string ⟨(spanB bs v.r.f v.r.t).toArray⟩) wq.drew:=zac.convert (hb9v.up xx) 24 5 9 underlying24 underlying5 underlying9;have HK:=zsz hK;clear hK hb9v
 conv=>arg 2;whnf
 go_region_law (first
  |(refine zes zjm (by rfl) (.tmp 201) (.tmp 217) (by rfl) (by rfl) ((Hu.out.unk.alloc _).drew) (by rfl) ((zce wq (.string ⟨(spanB bs v.r.f v.r.t).toArray⟩) 9 rfl).ext (Ext.refl _).drew) (by simp[Value.oneCell']) (by omega) (by unfold maxLen;omega) ?_;intro A7 c7 w7 own7 g7 m7;have B7:=((Hu.out.x.alloc _).drew).beside ((Hu.out.unk.alloc _).drew) (by decide) g7;have z7:w7.cell? ⟨bx,1,none⟩=some (.slice U un uc):=B7.cell 1;have zf:=B7.free 1;have zl:=B7.lt))
 all_goals
  go_simp
  exact HK.out _ _ _ _ _ _ _ _ _ _ _ _ _ _ _ _ _ _ _ _ A7 c7 _ (Hu.out.step hb0 h9 hv.out hneg (Ext.refl wq).drew own7 g7 m7)
variable{f:zab}{b1 off1 sn sc:Nat}{u2 u7 u10 u23:Value}
theorem reg7{wr:World}{m b9 off9 Mn c6 j b8 off8 Mc i:Nat}(hm:m<sn)(hj:j<Mn)(hi:i<Mn)(hsn:sn<=1000000)(hMn:Mn<=1000000)(s1:wr.cell? ⟨b1,off1+m*2+1,none⟩=some (.slice (some ⟨b8,off8,none⟩) Mn Mc))(e9:wr.cell? ⟨b9,off9+j,none⟩=some (.int .i64 (i:Int)))(g0:wr.cell? ⟨b8,off8+i*6,none⟩=some (.string f.name))(g1:wr.cell? ⟨b8,off8+i*6+1,none⟩=some (.int .i64 f.number))(g2:wr.cell? ⟨b8,off8+i*6+2,none⟩=some (.int .i64 f.kind))(g3:wr.cell? ⟨b8,off8+i*6+3,none⟩=some (.bool f.rep))(g4:wr.cell? ⟨b8,off8+i*6+4,none⟩=some (.bool f.packed))(g5:wr.cell? ⟨b8,off8+i*6+5,none⟩=some (.int .i64 f.of_))(h1:b1<wr.heap.size)(h8:b8<wr.heap.size)(h9:b9<wr.heap.size)(hK:∀(v45 v46 v47 v48 v49 v50 v51 v52 v53 v54 v55:Value)(wz:World),Ext wr wz->wz.heap.size=wr.heap.size+1->BlkT wz wr.heap.size 43 #[.string f.name,.int .i64 f.number,.int .i64 f.kind,.bool f.rep,.bool f.packed,.int .i64 f.of_]->Q0 .normal ⟨#[.slice (some ⟨b1,off1,none⟩) sn sc,.int .i64 (m:Int),u2,u3,u4,u5,u6,u7,u8,u9,u10,.slice (some ⟨b9,off9,none⟩) Mn c6,.int .i64 (j:Int),.pointer (some ⟨wr.heap.size,0,none⟩),u14,u15,u16,u17,u18,u19,u20,u21,u22,u23,u24,u25,u26,u27,u28,u29,u30,u31,u32,u33,u34,u35,u36,u37,u38,u39,u40,u41,u42,u43,u44,v45,v46,v47,v48,v49,v50,v51,v52,v53,v54,v55,u56,u57,u58,u59,u60,u61,u62,u63,u64,u65,u66,u67,u68,u69,u70,u71,u72,u73,u74,u75,u76,u77,u78,u79,u80,u81,u82,u83,u84,u85,u86,u87,u88,u89,u90,u91,u92,u93,u94,u95,u96,u97,u98,u99,u100,u101,u102,u103,u104,u105,u106,u107,u108,u109,u110,u111,u112,u113,u114,u115,u116,u117,u118,u119,u120,u121,u122,u123,u124,u125,u126,u127,u128,u129,u130,u131,u132,u133,u134,u135,u136,u137,u138,u139,u140,u141,u142,u143,u144,u145,u146,u147,u148,u149,u150,u151,u152,u153,u154,u155,u156,u157,u158,u159,u160,u161,u162,u163,u164,u165,u166,u167,u168,u169,u170,u171,u172,u173,u174,u175,u176,u177,u178,u179,u180,u181,u182,u183,u184,u185,u186,u187,u188,u189,u190,u191,u192,u193,u194,u195,u196,u197,u198,u199,u200,u201,u202,u203,u204,u205,u206,u207,u208,u209,u210,u211,u212,u213,u214,u215,u216,u217,u218,u219,u220],[]⟩ wz):
 Code.wp prog (regO 7) (calmQ Q0) ⟨#[.slice (some ⟨b1,off1,none⟩) sn sc,.int .i64 (m:Int),u2,u3,u4,u5,u6,u7,u8,u9,u10,.slice (some ⟨b9,off9,none⟩) Mn c6,.int .i64 (j:Int),u13,u14,u15,u16,u17,u18,u19,u20,u21,u22,u23,u24,u25,u26,u27,u28,u29,u30,u31,u32,u33,u34,u35,u36,u37,u38,u39,u40,u41,u42,u43,u44,u45,u46,u47,u48,u49,u50,u51,u52,u53,u54,u55,u56,u57,u58,u59,u60,u61,u62,u63,u64,u65,u66,u67,u68,u69,u70,u71,u72,u73,u74,u75,u76,u77,u78,u79,u80,u81,u82,u83,u84,u85,u86,u87,u88,u89,u90,u91,u92,u93,u94,u95,u96,u97,u98,u99,u100,u101,u102,u103,u104,u105,u106,u107,u108,u109,u110,u111,u112,u113,u114,u115,u116,u117,u118,u119,u120,u121,u122,u123,u124,u125,u126,u127,u128,u129,u130,u131,u132,u133,u134,u135,u136,u137,u138,u139,u140,u141,u142,u143,u144,u145,u146,u147,u148,u149,u150,u151,u152,u153,u154,u155,u156,u157,u158,u159,u160,u161,u162,u163,u164,u165,u166,u167,u168,u169,u170,u171,u172,u173,u174,u175,u176,u177,u178,u179,u180,u181,u182,u183,u184,u185,u186,u187,u188,u189,u190,u191,u192,u193,u194,u195,u196,u197,u198,u199,u200,u201,u202,u203,u204,u205,u206,u207,u208,u209,u210,u211,u212,u213,u214,u215,u216,u217,u218,u219,u220],[]⟩ wr:=by
 have hmI:(m:Int)<sn:=by omega
 have hjI:(j:Int)<Mn:=by omega
 have hiI:(i:Int)<Mn:=by omega
 have HK:=zsz hK;clear hK
 conv=>arg 2;whnf
 go_region_law (fail)
 all_goals
  go_simp
  exact HK.out _ _ _ _ _ _ _ _ _ _ _ _ ((Ext.refl wr).alloc _).drew (by simp) (BlkT.new _ _ _ rfl).drew
theorem reg27{w1:World}{nv cv:Nat}{A9:Option Addr}{M0:MsgT}{ws:List Nat}{ts:List ByteArray}{js:List UInt8}{zs:List MsgR}{W:Option Addr}{wn wc:Nat}{T:Option Addr}{tn tc:Nat}{X:Option Addr}{xn xc:Nat}{J:Option Addr}{jn jc:Nat}(Hin:Hid (RIn w1 wq f ws ts js zs W wn wc T tn tc X xn xc J jn jc))(hxn:xn<=1000000)(Hcall:Hid (∀W,Ext wq W->Calls prog 11 #[.slice (some ⟨b1,off1,none⟩) sn sc,.int .i64 f.of_,.slice A9 nv cv] W fun e w'=>∃y:MsgR,e=.returned (.agg #[.slice y.a.1 y.vals.length y.a.2,.slice y.b.1 y.unk.length y.b.2])/\bare y=M0/\zay w' y/\(∀b,UsesT y b->W.heap.size<=b)/\Ext W w'))(hK:∀(v144 v145 v146 v147 v148 v149 v150 v151 v152 v153:Value)(y:MsgR)(A6:Option Addr)(c6:Nat)(wz:World),bare y=M0->RIn w1 wz f ws ts js (zs++[y]) W wn wc T tn tc A6 (xn+1) c6 J jn jc->Q0 .normal ⟨#[.slice (some ⟨b1,off1,none⟩) sn sc,u1,u2,u3,u4,u5,u6,u7,u8,u9,u10,u11,u12,.pointer (some ⟨w1.heap.size,0,none⟩),.pointer (some ⟨w1.heap.size+1,0,none⟩),u15,u16,u17,.slice A9 nv cv,u19,u20,u21,u22,u23,u24,u25,u26,u27,u28,u29,u30,u31,u32,u33,u34,u35,u36,u37,u38,u39,u40,u41,u42,u43,u44,u45,u46,u47,u48,u49,u50,u51,u52,u53,u54,u55,u56,u57,u58,u59,u60,u61,u62,u63,u64,u65,u66,u67,u68,u69,u70,u71,u72,u73,u74,u75,u76,u77,u78,u79,u80,u81,u82,u83,u84,u85,u86,u87,u88,u89,u90,u91,u92,u93,u94,u95,u96,u97,u98,u99,u100,u101,u102,u103,u104,u105,u106,u107,u108,u109,u110,u111,u112,u113,u114,u115,u116,u117,u118,u119,u120,u121,u122,u123,u124,u125,u126,u127,u128,u129,u130,u131,u132,u133,u134,u135,u136,u137,u138,u139,u140,u141,u142,u143,v144,v145,v146,v147,v148,v149,v150,v151,v152,v153,u154,u155,u156,u157,u158,u159,u160,u161,u162,u163,u164,u165,u166,u167,u168,u169,u170,u171,u172,u173,u174,u175,u176,u177,u178,u179,u180,u181,u182,u183,u184,u185,u186,u187,u188,u189,u190,u191,u192,u193,u194,u195,u196,u197,u198,u199,u200,u201,u202,u203,u204,u205,u206,u207,u208,u209,u210,u211,u212,u213,u214,u215,u216,u217,u218,u219,u220],[]⟩ wz):
 Code.wp prog (regO 27) (calmQ Q0) ⟨#[.slice (some ⟨b1,off1,none⟩) sn sc,u1,u2,u3,u4,u5,u6,u7,u8,u9,u10,u11,u12,.pointer (some ⟨w1.heap.size,0,none⟩),.pointer (some ⟨w1.heap.size+1,0,none⟩),u15,u16,u17,.slice A9 nv cv,u19,u20,u21,u22,u23,u24,u25,u26,u27,u28,u29,u30,u31,u32,u33,u34,u35,u36,u37,u38,u39,u40,u41,u42,u43,u44,u45,u46,u47,u48,u49,u50,u51,u52,u53,u54,u55,u56,u57,u58,u59,u60,u61,u62,u63,u64,u65,u66,u67,u68,u69,u70,u71,u72,u73,u74,u75,u76,u77,u78,u79,u80,u81,u82,u83,u84,u85,u86,u87,u88,u89,u90,u91,u92,u93,u94,u95,u96,u97,u98,u99,u100,u101,u102,u103,u104,u105,u106,u107,u108,u109,u110,u111,u112,u113,u114,u115,u116,u117,u118,u119,u120,u121,u122,u123,u124,u125,u126,u127,u128,u129,u130,u131,u132,u133,u134,u135,u136,u137,u138,u139,u140,u141,u142,u143,u144,u145,u146,u147,u148,u149,u150,u151,u152,u153,u154,u155,u156,u157,u158,u159,u160,u161,u162,u163,u164,u165,u166,u167,u168,u169,u170,u171,u172,u173,u174,u175,u176,u177,u178,u179,u180,u181,u182,u183,u184,u185,u186,u187,u188,u189,u190,u191,u192,u193,u194,u195,u196,u197,u198,u199,u200,u201,u202,u203,u204,u205,u206,u207,u208,u209,u210,u211,u212,u213,u214,u215,u216,u217,u218,u219,u220],[]⟩ wq:=by
 have V3:wq.cell? ⟨w1.heap.size+1,3,none⟩=some (.slice X xn xc):=Hin.out.val.cell 3;have F5:wq.cell? ⟨w1.heap.size,5,none⟩=some (.int .i64 f.of_):=Hin.out.fld.cell 5;have f3:=Hin.out.val.free 3;have vl:=Hin.out.val.lt;have fl:=Hin.out.fld.lt;have HK:=zsz hK;clear hK
 conv=>arg 2;whnf
 go_region_law (first
  |(go_simp;go_at_call 11;refine(Hcall.out _ xx).mono ?_;rintro e w5 ⟨y,rfl,hb',hT',hU',E5⟩;have X5:Ext wq w5:=Ext.trans xx E5;have B5:=Hin.out.val.up X5;have y5:w5.cell? ⟨w1.heap.size+1,3,none⟩=some (.slice X xn xc):=B5.cell 3;have y5f:=B5.free 3;have y5l:=B5.lt)
  |(refine zes zqG (by rfl) (.tmp 145) (.tmp 151) (by rfl) (by rfl) ((Hin.out.subs.up X5).alloc _) (by rfl) (zdy w5 (treeC y) 40 rfl rfl) (by simpa using zjz [y]) (by omega) (by unfold maxLen;omega) ?_;intro A6 c6 w6 own6 g6 m6;have B6:=((Hin.out.val.up X5).alloc _).beside ((Hin.out.subs.up X5).alloc _) (by decide) g6;have z6:w6.cell? ⟨w1.heap.size+1,3,none⟩=some (.slice X xn xc):=B6.cell 3;have zf:=B6.free 3;have zl:=B6.lt))
 all_goals
  go_simp
  exact HK.out _ _ _ _ _ _ _ _ _ _ y A6 c6 _ hb' (Hin.out.more_sub X5 hT' (fun b hb=>hU' b hb) own6 g6 m6)
end Go.Proofs.YtpicpebolghcfaaGreatDoor
namespace Go.Proofs.YtpicpebolghcfaaGreatDoor
open Go.RowKit Tryz
theorem zqs{A:Option Addr}{n c:Nat}{s:ByteArray}{fs:List zab}{w:World}(hf:zav w A n c fs)(hn:n<=1000000000000):
 Calls prog 38 #[.agg #[.string s,.slice A n c]] w fun e w'=>∃A' c',e=.returned (.slice A' n c')/\Own w w' 3 1 A' n c' ((sortK (keyF fs) n).map iv):=by
 have hfl:=hf.length
 go_enter func38,ntmps38
 go_wp2
 have B:=Ext.new_blk (Ext.refl (w.alloc (.cells #[.string s,.slice A n c] 77)));have X1:Ext w (w.alloc (.cells #[.string s,.slice A n c] 77)):=xx;generalize w.alloc (.cells #[.string s,.slice A n c] 77)=w1 at*;generalize w.heap.size=b at*;have hb1:=B.lt
 go_loopw [3,4,5,6] (fun u i _ _ wr=>∃(k:Nat)(A2:Option Addr)(c2:Nat),k<=n/\i=.int .i64 (k:Int)/\u=.slice A2 k c2/\Own w1 wr 3 1 A2 k c2 ((sortK (keyF fs) k).map iv)) (fun _ i _ _ _=>n - (intOf i).toNat)
 case atStart=>exact⟨0,none,0,by omega,rfl,rfl,Own.nil (Ext.refl _) _ _⟩
 case round=>
  obtain⟨k,A2,c2,hk,rfl,rfl,own⟩:=hrel;have m1:=own.ext.of_cell (B.cell 1);have m0:=own.ext.of_cell (B.cell 0);have hbr:b<wr.heap.size:=Nat.lt_of_lt_of_le hb1 own.ext.size;by_cases hlt:k<n
  . have hltI:(k:Int)<n:=by omega
    have hft:=hf.up (X1.trans own.ext);obtain⟨b2,off2,fk,hA,hfk,_,hb2,_,e1,_,_,_,_⟩:=hft.field hlt;have hkk:keyF fs k=fk.number:=zgf hfk;have hsl:=zgl (keyF fs) k
    go_wp2
    go_loopw [5] (fun u wq=>∃j:Nat,j<=k/\u=.int .i64 (j:Int)/\Hid (∀(i:Nat) y,i<j->(sortK (keyF fs) k)[i]?=some y->keyF fs y<=keyF fs k)/\Ext wr wq) (fun u _=>k - (intOf u).toNat)
    case atStart=>exact⟨0,by omega,rfl,fun i y h=>by omega,Ext.refl _⟩
    case round=>
     obtain⟨j,hj,rfl,hL,hE⟩:=hrel
     rename World=>wq
     have z0:=hE.of_cell m0;have z1:=hE.of_cell m1;have ownq:=own.up hE;have hfin:∀(hx:∀y,(sortK (keyF fs) k)[j]?=some y->¬keyF fs y<=keyF fs k),sortK (keyF fs) (k+1)=(sortK (keyF fs) k).take j++k::(sortK (keyF fs) k).drop j:=fun hx=>zqS (fun i y hi hy=>hL.out i y hi hy) hx (by omega)
     by_cases hjk:j<k
     . have hjI:(j:Int)<k:=by omega
       obtain⟨y,hy⟩:∃y,(sortK (keyF fs) k)[j]?=some y:=⟨_,List.getElem?_eq_getElem (by omega)⟩
       have hyk:y<k:=zdw.1 (List.mem_of_getElem? hy);obtain⟨b3,off3,hA3,_,hc3⟩:=ownq.reads.at_ (by omega);have cj:=hc3 j (iv y) (by rw[List.getElem?_map,hy];rfl);unfold iv at cj;have hft2:=hf.up (X1.trans (own.ext.trans hE));obtain⟨b4,off4,fy,hA4,hfy,_,hb4,_,d1,_,_,_,_⟩:=hft2.field (k:=y) (by omega);rw[hA]at hA4;cases hA4;have hky:keyF fs y=fy.number:=zgf hfy;have e1':=hE.of_cell e1;subst hA hA3;have hyI:(y:Int)<n:=by omega
       have Hfin:=zsz hfin;have Hy:=zsz hy;have Hky:=zsz hky;have Hkk:=zsz hkk;have Hsl:=zsz hsl;by_cases hle:fy.number<=fk.number
       . have hlb:decide (fy.number<=fk.number)=true:=decide_eq_true hle
         clear hfin hy hky hkk hfk hfy hft hft2 hf hc3 hsl
         go_wp2
         go_quiet (fail)
         go_wp2
         go_roundw
         case rel=>
          refine⟨j+1,by omega,by go_num,fun i y hi hy=> ?_,hE.trans xx⟩;by_cases e:i=j
          . subst e
            have:=Hy.out.symm.trans hy;cases this;rw[Hky.out,Hkk.out];exact hle
          . exact hL.out i y (by omega) hy
         case measure=>simp[intOf];omega
       . have hlb:decide (fy.number<=fk.number)=false:=decide_eq_false hle
         have hS:=hfin (fun y' hy'=>by rw[hy]at hy';cases hy';rw[hky,hkk];exact hle);have HS:=zsz hS;clear hfin Hfin hy hky hkk hfk hfy hft hft2 hf hc3 hsl hS
         go_wp2
         go_quiet (fail)
         have EQ:Ext wq (wq.drewN nq):=xx;generalize wq.drewN nq=W0 at*;obtain⟨A5,hrun1,hr1⟩:=zgR elemI (ownq.up EQ).reads .i64 hj;obtain⟨A6,hrun2,hr2⟩:=zbx elemI (ownq.up EQ).reads .i64 hj;rw[Nat.mul_one,<-List.map_take]at hr1;rw[Nat.mul_one,<-List.map_drop]at hr2
         go_wp2_with (first
          |(at_builtin;refine zba elemI rfl (.tmp 38) (.tmp 41) rfl rfl (Own.empty (Ext.refl W0) 3 1) rfl (hr1.ext (Ext.alloc (Ext.refl _) _)) (zmE _) (by omega) (by unfold maxLen;omega) ?_;intro A4 c4 w4 own4 g4;simp only[Nat.zero_add,List.nil_append]at own4;clear hr1)
          |(at_builtin;refine zaH elemI rfl (.tmp 43) (.tmp 45) rfl rfl own4 rfl (by simp) rfl (by omega) (by unfold maxLen;omega) ?_;intro A7 c7 w7 own7 g7;clear own4)
          |(at_builtin;refine zba elemI rfl (.tmp 47) (.tmp 50) rfl rfl own7 rfl (hr2.ext own7.ext) (zmE _) (by omega) (by unfold maxLen;omega) ?_;intro A8 c8 w8 own8 g8;clear own7))
         go_roundw
         case rel=>
          refine⟨k+1,A8,c8,by omega,by go_num,?_,?_⟩
          . refine congrArg (fun q=>Value.slice A8 q c8) ?_
            omega
          . have h9:=own8.since ((own.ext.trans hE).trans EQ)
            rw[HS.out];have e9:(List.map iv (List.take j (sortK (keyF fs) k)++k::List.drop j (sortK (keyF fs) k)))=(List.map iv (List.take j (sortK (keyF fs) k))++[Value.int .i64 (k:Int)])++List.map iv (List.drop j (sortK (keyF fs) k)):=by simp[iv]
            rw[e9];have e8:j+1+(k - j)=k+1:=by omega
            rw[e8]at h9;exact h9
         case measure=>simp[intOf];omega
     . obtain rfl:j=k:=by omega
       have hS:=hfin (fun y' hy'=>by rw[List.getElem?_eq_none (by omega)]at hy';cases hy');have HS:=zsz hS;subst hA;clear hfin hkk hfk hft hf hsl hS
       go_wp2
       go_quiet (fail)
       have EQ:Ext wq (wq.drewN nq):=xx;generalize wq.drewN nq=W0 at*;obtain⟨A5,hrun1,hr1⟩:=zgR elemI (ownq.up EQ).reads .i64 hj;obtain⟨A6,hrun2,hr2⟩:=zbx elemI (ownq.up EQ).reads .i64 hj;rw[Nat.mul_one,<-List.map_take]at hr1;rw[Nat.mul_one,<-List.map_drop]at hr2;simp only[Nat.sub_self]at hrun2 hr2
       go_wp2_with (first
        |(at_builtin;refine zba elemI rfl (.tmp 38) (.tmp 41) rfl rfl (Own.empty (Ext.refl W0) 3 1) rfl (hr1.ext (Ext.alloc (Ext.refl _) _)) (zmE _) (by omega) (by unfold maxLen;omega) ?_;intro A4 c4 w4 own4 g4;simp only[Nat.zero_add,List.nil_append]at own4;clear hr1)
        |(at_builtin;refine zaH elemI rfl (.tmp 43) (.tmp 45) rfl rfl own4 rfl (by simp) rfl (by omega) (by unfold maxLen;omega) ?_;intro A7 c7 w7 own7 g7;clear own4)
        |(at_builtin;refine zba elemI rfl (.tmp 47) (.tmp 50) rfl rfl own7 rfl (hr2.ext own7.ext) (zmE _) (by omega) (by unfold maxLen;omega) ?_;intro A8 c8 w8 own8 g8;clear own7))
       go_roundw
       case rel=>
        refine⟨j+1,A8,c8,by omega,by go_num,?_,?_⟩
        . refine congrArg (fun q=>Value.slice A8 q c8) ?_
          omega
        . have h9:=own8.since ((own.ext.trans hE).trans EQ)
          rw[HS.out];have e9:(List.map iv (List.take j (sortK (keyF fs) j)++j::List.drop j (sortK (keyF fs) j)))=(List.map iv (List.take j (sortK (keyF fs) j))++[Value.int .i64 (j:Int)])++List.map iv (List.drop j (sortK (keyF fs) j)):=by simp[iv]
          rw[e9];have e8:j+1+0=j+1:=by omega
          rw[e8]at h9;exact h9
       case measure=>simp[intOf];omega
  . obtain rfl:k=n:=by omega
    go_wp2
    go_ret
    exact⟨A2,c2,rfl,own.since X1⟩
end Go.Proofs.YtpicpebolghcfaaGreatDoor
