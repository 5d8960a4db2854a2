/- Contracts of layer 26: a field whose sides' messages are made one. (Printed by gen_kfield7.py.) -/
import Derived.Test.YtlhbllaojjelcaaGreatQhW52

set_option linter.unusedVariables false
set_option linter.unusedSimpArgs false
set_option maxRecDepth 100000
set_option maxHeartbeats 4000000
namespace Go.Proofs.YtlhbllaojjelcaaGreat
open Go.RowKit Go.Shelf Tryz
noncomputable def regF(n:Nat):Code:=((Tryz.f54.body.bind (zcb n)).getD .skip)
structure zqm where
 (b0 b1 b2 b3 b4 b5 b6 b7 b8 b9 b10 b11 b12 b13 b14 b15 b16:Bool)
 (s43 s44 s45 s46 s47 s48 s49 s50 s51 s52 s53 s54 s55 s56 s57 s58:Value)
 (yo:MsgR)
 (ya:MsgR)
 (yb:MsgR)
 (ym:MsgR)
 (A2:Option Addr)
 (n2:Nat)
 (c2:Nat)
 (l2:List WRow)
 (kn:Nat)
structure zsa(w0 w:World)(bk:Nat)(SA:Option Addr)(sn sc:Nat)(A:Option Addr)(n c:Nat)(rl:List WRow)(f:zaa)(vo va vb:ValR)(oo:Bool)(xo xa xb:Option ValT)(B:Option Addr)(m d:Nat)(R:MsgT×List Way)(kf ko ka kb kr:Nat)(σ:zqm)(W:World):Prop where
 ST:Stays (fun b=>¬KU bk A rl b/\b≠kr) w W
 X:σ.b12=false->Ext w W
 Q0:σ.b0=true->σ.s43=.pointer (some ⟨kf,1,none⟩)
 Q1:σ.b1=true->σ.s44=.int .i64 f.number
 Q2:σ.b2=true->σ.s45=.pointer (some ⟨bk,0,none⟩)
 Q3:σ.b3=true->σ.s46=.pointer (some ⟨kf,5,none⟩)
 Q4:σ.b4=true->σ.s47=.int .i64 f.of_
 Q5:σ.b5=true->σ.s48=.agg #[.int .i64 vo.number,.slice vo.a.1 vo.words.length vo.a.2,.slice vo.b.1 vo.texts.length vo.b.2,.slice vo.c.1 vo.subs.length vo.c.2,.bool oo]
 Q7:σ.b7=true->σ.s50=.agg #[.int .i64 va.number,.slice va.a.1 va.words.length va.a.2,.slice va.b.1 va.texts.length va.b.2,.slice va.c.1 va.subs.length va.c.2,.bool true]
 Q9:σ.b9=true->σ.s52=.agg #[.int .i64 vb.number,.slice vb.a.1 vb.words.length vb.a.2,.slice vb.b.1 vb.texts.length vb.b.2,.slice vb.c.1 vb.subs.length vb.c.2,.bool true]
 Q11:σ.b11=true->σ.s54=.slice B m d
 Y6:σ.b6=true->σ.s49=.agg #[.slice σ.yo.a.1 σ.yo.vals.length σ.yo.a.2,.slice σ.yo.b.1 σ.yo.unk.length σ.yo.b.2]
 T6:σ.b6=true->σ.b12=false->bare σ.yo=subT xo/\zah W σ.yo/\∀q,UsesT σ.yo q->UsesV vo q
 Y8:σ.b8=true->σ.s51=.agg #[.slice σ.ya.a.1 σ.ya.vals.length σ.ya.a.2,.slice σ.ya.b.1 σ.ya.unk.length σ.ya.b.2]
 T8:σ.b8=true->σ.b12=false->bare σ.ya=subT xa/\zah W σ.ya/\∀q,UsesT σ.ya q->UsesV va q
 Y10:σ.b10=true->σ.s53=.agg #[.slice σ.yb.a.1 σ.yb.vals.length σ.yb.a.2,.slice σ.yb.b.1 σ.yb.unk.length σ.yb.b.2]
 T10:σ.b10=true->σ.b12=false->bare σ.yb=subT xb/\zah W σ.yb/\∀q,UsesT σ.yb q->UsesV vb q
 M12:σ.b12=true->σ.b13=false->σ.s55=.agg #[.slice σ.ym.a.1 σ.ym.vals.length σ.ym.a.2,.slice σ.ym.b.1 σ.ym.unk.length σ.ym.b.2]
 N12:σ.b12=true->σ.b16=false->KS w0 W bk SA sn sc σ.A2 σ.n2 σ.c2 σ.l2/\σ.l2.map (·.way)=rl.map (·.way)++R.2/\(∀b,KU bk σ.A2 σ.l2 b->KU bk A rl b\/w.heap.size<=b)/\(∀q,UsesT σ.ym q->¬KU bk σ.A2 σ.l2 q)/\(∀q,UsesT σ.ym q->UsesV va q\/UsesV vb q\/w.heap.size<=q)/\bare σ.ym=R.1/\zah W σ.ym
 L13:σ.b13=true->σ.s56=.slice (some ⟨σ.kn,0,none⟩) 1 1/\w.heap.size<=σ.kn
 L:σ.b13=true->BlkT W σ.kn 27 #[.slice σ.ym.a.1 σ.ym.vals.length σ.ym.a.2,.slice σ.ym.b.1 σ.ym.unk.length σ.ym.b.2]/\¬KU bk σ.A2 σ.l2 σ.kn
 B14:σ.b14=true->σ.s57=.agg #[.int .i64 f.number,.slice none 0 0,.slice none 0 0,.slice (some ⟨σ.kn,0,none⟩) 1 1]
 B15:σ.b15=true->σ.s58=.agg #[.int .i64 f.number,.slice none 0 0,.slice none 0 0,.slice (some ⟨σ.kn,0,none⟩) 1 1,.bool true]
 R0:σ.b16=false->BlkT W kr 114 #[.int .i64 0,.slice none 0 0,.slice none 0 0,.slice none 0 0,.bool false]
 R1:σ.b16=true->BlkT W kr 114 #[.int .i64 f.number,.slice none 0 0,.slice none 0 0,.slice (some ⟨σ.kn,0,none⟩) 1 1,.bool true]/\KS w0 W bk SA sn sc σ.A2 σ.n2 σ.c2 σ.l2/\σ.l2.map (·.way)=rl.map (·.way)++R.2/\(∀b,KU bk σ.A2 σ.l2 b->KU bk A rl b\/w.heap.size<=b)/\(∀q,UsesT σ.ym q->¬KU bk σ.A2 σ.l2 q)/\(∀q,UsesT σ.ym q->UsesV va q\/UsesV vb q\/w.heap.size<=q)/\bare σ.ym=R.1/\zah W σ.ym
 D1:σ.b1=true->σ.b0=true
 D4:σ.b4=true->σ.b3=true
 D6:σ.b6=true->σ.b5=true
 D8:σ.b8=true->σ.b7=true
 D10:σ.b10=true->σ.b9=true
 D12:σ.b12=true->σ.b2=true/\σ.b4=true/\σ.b6=true/\σ.b8=true/\σ.b10=true/\σ.b11=true
 D13:σ.b13=true->σ.b12=true
 D14:σ.b14=true->σ.b1=true/\σ.b13=true
 D15:σ.b15=true->σ.b14=true
 D16:σ.b16=true->σ.b15=true
variable{kf ko ka kb m d sn sc bk:Nat}{B A SA:Option Addr}{xo xa xb:Option ValT}{oo:Bool}{vo va vb:ValR}{f:zaa}{rl:List WRow}{w0 w:World}{u1 u2 u3 u4 u6 u11 u13 u14 u15 u17 u18 u19 u20 u21 u22 u23 u24 u25 u26 u27 u28 u29 u30 u31 u32 u33 u34 u35 u36 u37 u38 u39 u40 u41 u42 u43 u44 u45 u46 u47 u48 u49 u50 u51 u52 u53 u54 u55 u56 u57 u58 u59 u60 u61 u62:Value}{Q0:Exit->Act->World->Prop}
theorem freg7{u16:Value}{n c:Nat}{R:MsgT×List Way}{kr:Nat}(zf1:w.cell? ⟨kf,1,none⟩=some (.int .i64 f.number))(zf5:w.cell? ⟨kf,5,none⟩=some (.int .i64 f.of_))(zo0:w.cell? ⟨ko,0,none⟩=some (.int .i64 vo.number))(zo1:w.cell? ⟨ko,1,none⟩=some (.slice vo.a.1 vo.words.length vo.a.2))(zo2:w.cell? ⟨ko,2,none⟩=some (.slice vo.b.1 vo.texts.length vo.b.2))(zo3:w.cell? ⟨ko,3,none⟩=some (.slice vo.c.1 vo.subs.length vo.c.2))(zo4:w.cell? ⟨ko,4,none⟩=some (.bool oo))(za0:w.cell? ⟨ka,0,none⟩=some (.int .i64 va.number))(za1:w.cell? ⟨ka,1,none⟩=some (.slice va.a.1 va.words.length va.a.2))(za2:w.cell? ⟨ka,2,none⟩=some (.slice va.b.1 va.texts.length va.b.2))(za3:w.cell? ⟨ka,3,none⟩=some (.slice va.c.1 va.subs.length va.c.2))(za4:w.cell? ⟨ka,4,none⟩=some (.bool true))(zb0:w.cell? ⟨kb,0,none⟩=some (.int .i64 vb.number))(zb1:w.cell? ⟨kb,1,none⟩=some (.slice vb.a.1 vb.words.length vb.a.2))(zb2:w.cell? ⟨kb,2,none⟩=some (.slice vb.b.1 vb.texts.length vb.b.2))(zb3:w.cell? ⟨kb,3,none⟩=some (.slice vb.c.1 vb.subs.length vb.c.2))(zb4:w.cell? ⟨kb,4,none⟩=some (.bool true))(nkf:¬KU bk A rl kf/\kf≠kr)(nko:¬KU bk A rl ko/\ko≠kr)(nka:¬KU bk A rl ka/\ka≠kr)(nkb:¬KU bk A rl kb/\kb≠kr)(nkr:¬KU bk A rl kr)(lr:kr<w.heap.size)(hkr:w0.heap.size<=kr)(BR:BlkT w kr 114 #[.int .i64 0,.slice none 0 0,.slice none 0 0,.slice none 0 0,.bool false])(uo:∀q,UsesV vo q->¬KU bk A rl q/\q≠kr)(ua:∀q,UsesV va q->¬KU bk A rl q/\q≠kr)(ub:∀q,UsesV vb q->¬KU bk A rl q/\q≠kr)(Ho:Hid (∀W,Ext w W->Calls prog 92 #[.agg #[.int .i64 vo.number,.slice vo.a.1 vo.words.length vo.a.2,.slice vo.b.1 vo.texts.length vo.b.2,.slice vo.c.1 vo.subs.length vo.c.2,.bool oo]] W fun e W'=>∃y:MsgR,e=.returned (.agg #[.slice y.a.1 y.vals.length y.a.2,.slice y.b.1 y.unk.length y.b.2])/\bare y=subT xo/\zah W' y/\(∀q,UsesT y q->UsesV vo q)/\Ext W W'))(Ha:Hid (∀W,Ext w W->Calls prog 92 #[.agg #[.int .i64 va.number,.slice va.a.1 va.words.length va.a.2,.slice va.b.1 va.texts.length va.b.2,.slice va.c.1 va.subs.length va.c.2,.bool true]] W fun e W'=>∃y:MsgR,e=.returned (.agg #[.slice y.a.1 y.vals.length y.a.2,.slice y.b.1 y.unk.length y.b.2])/\bare y=subT xa/\zah W' y/\(∀q,UsesT y q->UsesV va q)/\Ext W W'))(Hb:Hid (∀W,Ext w W->Calls prog 92 #[.agg #[.int .i64 vb.number,.slice vb.a.1 vb.words.length vb.a.2,.slice vb.b.1 vb.texts.length vb.b.2,.slice vb.c.1 vb.subs.length vb.c.2,.bool true]] W fun e W'=>∃y:MsgR,e=.returned (.agg #[.slice y.a.1 y.vals.length y.a.2,.slice y.b.1 y.unk.length y.b.2])/\bare y=subT xb/\zah W' y/\(∀q,UsesT y q->UsesV vb q)/\Ext W W'))(Hm:Hid (∀W (o a b:MsgR),Ext w W->bare o=subT xo->bare a=subT xa->bare b=subT xb->zah W o->zah W a->zah W b->(∀q,UsesT o q->¬KU bk A rl q)->(∀q,UsesT a q->¬KU bk A rl q)->(∀q,UsesT b q->¬KU bk A rl q)->Calls prog 27 #[.pointer (some ⟨bk,0,none⟩),.int .i64 f.of_,.agg #[.slice o.a.1 o.vals.length o.a.2,.slice o.b.1 o.unk.length o.b.2],.agg #[.slice a.a.1 a.vals.length a.a.2,.slice a.b.1 a.unk.length a.b.2],.agg #[.slice b.a.1 b.vals.length b.a.2,.slice b.b.1 b.unk.length b.b.2],.slice B m d] W fun e W'=>∃y:MsgR,e=.returned (.agg #[.slice y.a.1 y.vals.length y.a.2,.slice y.b.1 y.unk.length y.b.2])/\bare y=R.1/\zah W' y/\(∀q,UsesT y q->UsesT a q\/UsesT b q\/W.heap.size<=q)/\Made w0 bk SA sn sc A rl W R.2 (UsesT y) W'))(hK:∀(s43 s44 s45 s46 s47 s48 s49 s50 s51 s52 s53 s54 s55 s56 s57 s58:Value)(ym:MsgR)(A2:Option Addr)(n2 c2:Nat)(l2:List WRow)(kn:Nat)(wz:World),Stays (fun b=>¬KU bk A rl b/\b≠kr) w wz->w.heap.size<=kn->BlkT wz kn 27 #[.slice ym.a.1 ym.vals.length ym.a.2,.slice ym.b.1 ym.unk.length ym.b.2]->¬KU bk A2 l2 kn->BlkT wz kr 114 #[.int .i64 f.number,.slice none 0 0,.slice none 0 0,.slice (some ⟨kn,0,none⟩) 1 1,.bool true]->(KS w0 wz bk SA sn sc A2 n2 c2 l2)->(l2.map (·.way)=rl.map (·.way)++R.2)->((∀b,KU bk A2 l2 b->KU bk A rl b\/w.heap.size<=b))->((∀q,UsesT ym q->¬KU bk A2 l2 q))->((∀q,UsesT ym q->UsesV va q\/UsesV vb q\/w.heap.size<=q))->(bare ym=R.1)->(zah wz ym)->Q0 .normal ⟨#[.pointer (some ⟨bk,0,none⟩),u1,u2,u3,u4,.slice B m d,u6,.pointer (some ⟨kf,0,none⟩),.pointer (some ⟨ko,0,none⟩),.pointer (some ⟨ka,0,none⟩),.pointer (some ⟨kb,0,none⟩),u11,.pointer (some ⟨kr,0,none⟩),u13,u14,u15,u16,u17,u18,u19,u20,u21,u22,u23,u24,u25,u26,u27,u28,u29,u30,u31,u32,u33,u34,u35,u36,u37,u38,u39,u40,u41,u42,s43,s44,s45,s46,s47,s48,s49,s50,s51,s52,s53,s54,s55,s56,s57,s58,u59,u60,u61,u62],[]⟩ wz):
 Code.wp prog (regF 7) (calmQ Q0) ⟨#[.pointer (some ⟨bk,0,none⟩),u1,u2,u3,u4,.slice B m d,u6,.pointer (some ⟨kf,0,none⟩),.pointer (some ⟨ko,0,none⟩),.pointer (some ⟨ka,0,none⟩),.pointer (some ⟨kb,0,none⟩),u11,.pointer (some ⟨kr,0,none⟩),u13,u14,u15,u16,u17,u18,u19,u20,u21,u22,u23,u24,u25,u26,u27,u28,u29,u30,u31,u32,u33,u34,u35,u36,u37,u38,u39,u40,u41,u42,u43,u44,u45,u46,u47,u48,u49,u50,u51,u52,u53,u54,u55,u56,u57,u58,u59,u60,u61,u62],[]⟩ w:=by
 have hku:∀{W:World}{A2:Option Addr}{n2 c2:Nat}{l2:List WRow}{ym:MsgR},(KS w0 W bk SA sn sc A2 n2 c2 l2/\l2.map (·.way)=rl.map (·.way)++R.2/\(∀b,KU bk A2 l2 b->KU bk A rl b\/w.heap.size<=b)/\(∀q,UsesT ym q->¬KU bk A2 l2 q)/\(∀q,UsesT ym q->UsesV va q\/UsesV vb q\/w.heap.size<=q)/\bare ym=R.1/\zah W ym)->¬KU bk A2 l2 kr:=fun h q=>by
  rcases h.2.2.1 _ q with q|q
  . exact nkr q
  . omega
 have HK:=zsp hK;clear hK
 conv=>arg 2;whnf
 obtain⟨I,hI⟩:∃I:Array Bool->Act->World->Prop,∀l a W,I l a W<->(∃σ:zqm,l=#[σ.b0,σ.b1,σ.b2,σ.b3,σ.b4,σ.b5,σ.b6,σ.b7,σ.b8,σ.b9,σ.b10,σ.b11,σ.b12,σ.b13,σ.b14,σ.b15,σ.b16]/\a=⟨#[.pointer (some ⟨bk,0,none⟩),u1,u2,u3,u4,.slice B m d,u6,.pointer (some ⟨kf,0,none⟩),.pointer (some ⟨ko,0,none⟩),.pointer (some ⟨ka,0,none⟩),.pointer (some ⟨kb,0,none⟩),u11,.pointer (some ⟨kr,0,none⟩),u13,u14,u15,u16,u17,u18,u19,u20,u21,u22,u23,u24,u25,u26,u27,u28,u29,u30,u31,u32,u33,u34,u35,u36,u37,u38,u39,u40,u41,u42,σ.s43,σ.s44,σ.s45,σ.s46,σ.s47,σ.s48,σ.s49,σ.s50,σ.s51,σ.s52,σ.s53,σ.s54,σ.s55,σ.s56,σ.s57,σ.s58,u59,u60,u61,u62],[]⟩/\zsa w0 w bk SA sn sc A n c rl f vo va vb oo xo xa xb B m d R kf ko ka kb kr σ W):=⟨_,fun _ _ _=>Iff.rfl⟩
 have HI:=zsp hI;clear hI;refine zcQ (I:=I) (by kernel_rfl) (fun i l a W hi hr=> ?_) (fun l a W hi hr=> ?_) ?_
 . obtain⟨σ,rfl,rfl,G⟩:=(HI.out _ _ _).1 hi
   clear hi;obtain⟨hlt,hl,hd⟩:=zcW hr;clear hr;have hlt:i<17:=hlt;rcases(show i=0\/i=1\/i=2\/i=3\/i=4\/i=5\/i=6\/i=7\/i=8\/i=9\/i=10\/i=11\/i=12\/i=13\/i=14\/i=15\/i=16 by omega)with rfl|rfl|rfl|rfl|rfl|rfl|rfl|rfl|rfl|rfl|rfl|rfl|rfl|rfl|rfl|rfl|rfl
   . have e:σ.b0=false:=hl
     clear hl hlt hd;have He:=zsp e;clear e;refine zai rfl rfl (fun K hK=> ?_);have HK2:=zsp hK;clear hK
     go_simp
     have e:=He.out;refine HK2.out _ _ ((HI.out _ _ _).2 ⟨{σ with b0:=true,s43:=_},rfl,rfl,{G with D1:=(fun h=>ff e (G.D1 h)),Q0:=(fun _=>rfl)}⟩)
   . have e:σ.b1=false:=hl
     have hd:=hd _ rfl;clear hl hlt;simp[Region.binds]at hd;have t0:σ.b0=true:=(by simp[hd])
     clear hd;have er:=G.Q0 t0;have g1:W.cell? ⟨kf,1,none⟩=some (.int .i64 f.number):=G.ST.cell (p:=⟨kf,1,none⟩) nkf (zf1);have He:=zsp e;clear e;refine zai rfl rfl (fun K hK=> ?_);have HK2:=zsp hK;clear hK
     go_simp
     have e:=He.out;refine HK2.out _ _ ((HI.out _ _ _).2 ⟨{σ with b1:=true,s44:=_,s43:=_},rfl,rfl,{G with D1:=(fun _=>t0),D14:=(fun h=>ff e (G.D14 h).1),Q0:=(fun _=>rfl),Q1:=(fun _=>rfl)}⟩)
   . have e:σ.b2=false:=hl
     clear hl hlt hd;have He:=zsp e;clear e;refine zai rfl rfl (fun K hK=> ?_);have HK2:=zsp hK;clear hK
     go_simp
     have e:=He.out;refine HK2.out _ _ ((HI.out _ _ _).2 ⟨{σ with b2:=true,s45:=_},rfl,rfl,{G with D12:=(fun h=>ff e (G.D12 h).1),Q2:=(fun _=>rfl)}⟩)
   . have e:σ.b3=false:=hl
     clear hl hlt hd;have He:=zsp e;clear e;refine zai rfl rfl (fun K hK=> ?_);have HK2:=zsp hK;clear hK
     go_simp
     have e:=He.out;refine HK2.out _ _ ((HI.out _ _ _).2 ⟨{σ with b3:=true,s46:=_},rfl,rfl,{G with D4:=(fun h=>ff e (G.D4 h)),Q3:=(fun _=>rfl)}⟩)
   . have e:σ.b4=false:=hl
     have hd:=hd _ rfl;clear hl hlt;simp[Region.binds]at hd;have t3:σ.b3=true:=(by simp[hd])
     clear hd;have er:=G.Q3 t3;have g5:W.cell? ⟨kf,5,none⟩=some (.int .i64 f.of_):=G.ST.cell (p:=⟨kf,5,none⟩) nkf (zf5);have He:=zsp e;clear e;refine zai rfl rfl (fun K hK=> ?_);have HK2:=zsp hK;clear hK
     go_simp
     have e:=He.out;refine HK2.out _ _ ((HI.out _ _ _).2 ⟨{σ with b4:=true,s47:=_,s46:=_},rfl,rfl,{G with D4:=(fun _=>t3),D12:=(fun h=>ff e (G.D12 h).2.1),Q3:=(fun _=>rfl),Q4:=(fun _=>rfl)}⟩)
   . have e:σ.b5=false:=hl
     clear hl hlt hd;have g0:W.cell? ⟨ko,0,none⟩=some (.int .i64 vo.number):=G.ST.cell (p:=⟨ko,0,none⟩) nko (zo0);have g1:W.cell? ⟨ko,1,none⟩=some (.slice vo.a.1 vo.words.length vo.a.2):=G.ST.cell (p:=⟨ko,1,none⟩) nko (zo1);have g2:W.cell? ⟨ko,2,none⟩=some (.slice vo.b.1 vo.texts.length vo.b.2):=G.ST.cell (p:=⟨ko,2,none⟩) nko (zo2);have g3:W.cell? ⟨ko,3,none⟩=some (.slice vo.c.1 vo.subs.length vo.c.2):=G.ST.cell (p:=⟨ko,3,none⟩) nko (zo3);have g4:W.cell? ⟨ko,4,none⟩=some (.bool oo):=G.ST.cell (p:=⟨ko,4,none⟩) nko (zo4);have He:=zsp e;clear e;refine zai rfl rfl (fun K hK=> ?_);have HK2:=zsp hK;clear hK
     go_simp
     have e:=He.out;refine HK2.out _ _ ((HI.out _ _ _).2 ⟨{σ with b5:=true,s48:=_},rfl,rfl,{G with D6:=(fun h=>ff e (G.D6 h)),Q5:=(fun _=>rfl)}⟩)
   . have e:σ.b6=false:=hl
     have hd:=hd _ rfl;clear hl hlt;simp[Region.binds]at hd;have t5:σ.b5=true:=(by simp[hd])
     clear hd;have er:=G.Q5 t5
     have e12:σ.b12=false:=by
      rcases hs:σ.b12 with _|_
      . rfl
      . exact ff e (G.D12 hs).2.2.1
     have HX:=zsp (G.X e12);clear e12;have He:=zsp e;clear e;refine zai rfl rfl (fun K hK=> ?_);have HK2:=zsp hK;clear hK
     go_simp
     go_at_call 92
     refine(Ho.out _ HX.out).mono ?_;rintro e1 W2 ⟨yn,rfl,p1,p2,p3,E2⟩
     (try dsimp only)
     (try simp only[Act.put,List.setIfInBounds_toArray,List.set_cons_zero,List.set_cons_succ])
     have e:=He.out;refine HK2.out _ _ ((HI.out _ _ _).2 ⟨{σ with b6:=true,s49:=_,s48:=_,yo:=yn},rfl,rfl,{G with D6:=(fun _=>t5),D12:=(fun h=>ff e (G.D12 h).2.2.1),Q5:=(fun _=>rfl),Y6:=(fun _=>rfl),T6:=(fun _ _=>⟨p1,p2,p3⟩),ST:=(G.ST.trans (Stays.of_ext E2)),X:=(fun _=>HX.out.trans E2),M12:=(fun h=>ff e (G.D12 h).2.2.1),N12:=(fun h=>ff e (G.D12 h).2.2.1),L:=(fun h=>ff e (G.D12 (G.D13 h)).2.2.1),R0:=(fun h=>(G.R0 h).up E2),R1:=(fun h=>ff e (G.D12 (G.D13 (G.D14 (G.D15 (G.D16 h))).2)).2.2.1),T8:=(fun h h2=>⟨(G.T8 h h2).1,(G.T8 h h2).2.1.up E2,(G.T8 h h2).2.2⟩),T10:=(fun h h2=>⟨(G.T10 h h2).1,(G.T10 h h2).2.1.up E2,(G.T10 h h2).2.2⟩)}⟩)
   . have e:σ.b7=false:=hl
     clear hl hlt hd;have g0:W.cell? ⟨ka,0,none⟩=some (.int .i64 va.number):=G.ST.cell (p:=⟨ka,0,none⟩) nka (za0);have g1:W.cell? ⟨ka,1,none⟩=some (.slice va.a.1 va.words.length va.a.2):=G.ST.cell (p:=⟨ka,1,none⟩) nka (za1);have g2:W.cell? ⟨ka,2,none⟩=some (.slice va.b.1 va.texts.length va.b.2):=G.ST.cell (p:=⟨ka,2,none⟩) nka (za2);have g3:W.cell? ⟨ka,3,none⟩=some (.slice va.c.1 va.subs.length va.c.2):=G.ST.cell (p:=⟨ka,3,none⟩) nka (za3);have g4:W.cell? ⟨ka,4,none⟩=some (.bool true):=G.ST.cell (p:=⟨ka,4,none⟩) nka (za4);have He:=zsp e;clear e;refine zai rfl rfl (fun K hK=> ?_);have HK2:=zsp hK;clear hK
     go_simp
     have e:=He.out;refine HK2.out _ _ ((HI.out _ _ _).2 ⟨{σ with b7:=true,s50:=_},rfl,rfl,{G with D8:=(fun h=>ff e (G.D8 h)),Q7:=(fun _=>rfl)}⟩)
   . have e:σ.b8=false:=hl
     have hd:=hd _ rfl;clear hl hlt;simp[Region.binds]at hd;have t7:σ.b7=true:=(by simp[hd])
     clear hd;have er:=G.Q7 t7
     have e12:σ.b12=false:=by
      rcases hs:σ.b12 with _|_
      . rfl
      . exact ff e (G.D12 hs).2.2.2.1
     have HX:=zsp (G.X e12);clear e12;have He:=zsp e;clear e;refine zai rfl rfl (fun K hK=> ?_);have HK2:=zsp hK;clear hK
     go_simp
     go_at_call 92
     refine(Ha.out _ HX.out).mono ?_;rintro e1 W2 ⟨yn,rfl,p1,p2,p3,E2⟩
     (try dsimp only)
     (try simp only[Act.put,List.setIfInBounds_toArray,List.set_cons_zero,List.set_cons_succ])
     have e:=He.out;refine HK2.out _ _ ((HI.out _ _ _).2 ⟨{σ with b8:=true,s51:=_,s50:=_,ya:=yn},rfl,rfl,{G with D8:=(fun _=>t7),D12:=(fun h=>ff e (G.D12 h).2.2.2.1),Q7:=(fun _=>rfl),Y8:=(fun _=>rfl),T8:=(fun _ _=>⟨p1,p2,p3⟩),ST:=(G.ST.trans (Stays.of_ext E2)),X:=(fun _=>HX.out.trans E2),M12:=(fun h=>ff e (G.D12 h).2.2.2.1),N12:=(fun h=>ff e (G.D12 h).2.2.2.1),L:=(fun h=>ff e (G.D12 (G.D13 h)).2.2.2.1),R0:=(fun h=>(G.R0 h).up E2),R1:=(fun h=>ff e (G.D12 (G.D13 (G.D14 (G.D15 (G.D16 h))).2)).2.2.2.1),T6:=(fun h h2=>⟨(G.T6 h h2).1,(G.T6 h h2).2.1.up E2,(G.T6 h h2).2.2⟩),T10:=(fun h h2=>⟨(G.T10 h h2).1,(G.T10 h h2).2.1.up E2,(G.T10 h h2).2.2⟩)}⟩)
   . have e:σ.b9=false:=hl
     clear hl hlt hd;have g0:W.cell? ⟨kb,0,none⟩=some (.int .i64 vb.number):=G.ST.cell (p:=⟨kb,0,none⟩) nkb (zb0);have g1:W.cell? ⟨kb,1,none⟩=some (.slice vb.a.1 vb.words.length vb.a.2):=G.ST.cell (p:=⟨kb,1,none⟩) nkb (zb1);have g2:W.cell? ⟨kb,2,none⟩=some (.slice vb.b.1 vb.texts.length vb.b.2):=G.ST.cell (p:=⟨kb,2,none⟩) nkb (zb2);have g3:W.cell? ⟨kb,3,none⟩=some (.slice vb.c.1 vb.subs.length vb.c.2):=G.ST.cell (p:=⟨kb,3,none⟩) nkb (zb3);have g4:W.cell? ⟨kb,4,none⟩=some (.bool true):=G.ST.cell (p:=⟨kb,4,none⟩) nkb (zb4);have He:=zsp e;clear e;refine zai rfl rfl (fun K hK=> ?_);have HK2:=zsp hK;clear hK
     go_simp
     have e:=He.out;refine HK2.out _ _ ((HI.out _ _ _).2 ⟨{σ with b9:=true,s52:=_},rfl,rfl,{G with D10:=(fun h=>ff e (G.D10 h)),Q9:=(fun _=>rfl)}⟩)
   . have e:σ.b10=false:=hl
     have hd:=hd _ rfl;clear hl hlt;simp[Region.binds]at hd;have t9:σ.b9=true:=(by simp[hd])
     clear hd;have er:=G.Q9 t9
     have e12:σ.b12=false:=by
      rcases hs:σ.b12 with _|_
      . rfl
      . exact ff e (G.D12 hs).2.2.2.2.1
     have HX:=zsp (G.X e12);clear e12;have He:=zsp e;clear e;refine zai rfl rfl (fun K hK=> ?_);have HK2:=zsp hK;clear hK
     go_simp
     go_at_call 92
     refine(Hb.out _ HX.out).mono ?_;rintro e1 W2 ⟨yn,rfl,p1,p2,p3,E2⟩
     (try dsimp only)
     (try simp only[Act.put,List.setIfInBounds_toArray,List.set_cons_zero,List.set_cons_succ])
     have e:=He.out;refine HK2.out _ _ ((HI.out _ _ _).2 ⟨{σ with b10:=true,s53:=_,s52:=_,yb:=yn},rfl,rfl,{G with D10:=(fun _=>t9),D12:=(fun h=>ff e (G.D12 h).2.2.2.2.1),Q9:=(fun _=>rfl),Y10:=(fun _=>rfl),T10:=(fun _ _=>⟨p1,p2,p3⟩),ST:=(G.ST.trans (Stays.of_ext E2)),X:=(fun _=>HX.out.trans E2),M12:=(fun h=>ff e (G.D12 h).2.2.2.2.1),N12:=(fun h=>ff e (G.D12 h).2.2.2.2.1),L:=(fun h=>ff e (G.D12 (G.D13 h)).2.2.2.2.1),R0:=(fun h=>(G.R0 h).up E2),R1:=(fun h=>ff e (G.D12 (G.D13 (G.D14 (G.D15 (G.D16 h))).2)).2.2.2.2.1),T6:=(fun h h2=>⟨(G.T6 h h2).1,(G.T6 h h2).2.1.up E2,(G.T6 h h2).2.2⟩),T8:=(fun h h2=>⟨(G.T8 h h2).1,(G.T8 h h2).2.1.up E2,(G.T8 h h2).2.2⟩)}⟩)
   . have e:σ.b11=false:=hl
     clear hl hlt hd;have He:=zsp e;clear e;refine zai rfl rfl (fun K hK=> ?_);have HK2:=zsp hK;clear hK
     go_simp
     have e:=He.out;refine HK2.out _ _ ((HI.out _ _ _).2 ⟨{σ with b11:=true,s54:=_},rfl,rfl,{G with D12:=(fun h=>ff e (G.D12 h).2.2.2.2.2),Q11:=(fun _=>rfl)}⟩)
   . have e:σ.b12=false:=hl
     have hd:=hd _ rfl;clear hl hlt;simp[Region.binds]at hd;have t2:σ.b2=true:=(by simp[hd])
     have t4:σ.b4=true:=(by simp[hd])
     have t6:σ.b6=true:=(by simp[hd])
     have t8:σ.b8=true:=(by simp[hd])
     have t10:σ.b10=true:=(by simp[hd])
     have t11:σ.b11=true:=(by simp[hd])
     clear hd;have f2:=G.Q2 t2;have f4:=G.Q4 t4;have f6:=G.Y6 t6;have f8:=G.Y8 t8;have f10:=G.Y10 t10;have f11:=G.Q11 t11;have HX:=zsp (G.X e);have H6:=zsp (G.T6 t6 e);have H8:=zsp (G.T8 t8 e);have H10:=zsp (G.T10 t10 e);have He:=zsp e;clear e;refine zai rfl rfl (fun K hK=> ?_);have HK2:=zsp hK;clear hK
     go_simp
     go_at_call 27
     refine(Hm.out _ σ.yo σ.ya σ.yb HX.out H6.out.1 H8.out.1 H10.out.1 H6.out.2.1 H8.out.2.1 H10.out.2.1 (fun q h=>(uo q (H6.out.2.2 q h)).1) (fun q h=>(ua q (H8.out.2.2 q h)).1) (fun q h=>(ub q (H10.out.2.2 q h)).1)).mono ?_;rintro e1 W2 ⟨yn,rfl,p1,p2,V9,A9,n9,c9,l9,K9,L9,S9,N9,U9⟩
     (try dsimp only)
     (try simp only[Act.put,List.setIfInBounds_toArray,List.set_cons_zero,List.set_cons_succ])
     have xs:=HX.out.size;have S9b:Stays (fun b=>¬KU bk A rl b/\b≠kr) W W2:=S9.less (fun b hb=>hb.1);have e:=He.out;refine HK2.out _ _ ((HI.out _ _ _).2 ⟨{σ with b12:=true,s55:=_,s45:=_,s47:=_,s49:=_,s51:=_,s53:=_,s54:=_,ym:=yn,A2:=A9,n2:=n9,c2:=c9,l2:=l9},rfl,rfl,{G with D12:=(fun _=>⟨t2,t4,t6,t8,t10,t11⟩),D13:=(fun h=>ff e (G.D13 h)),Q2:=(fun _=>rfl),Q4:=(fun _=>rfl),Y6:=(fun _=>rfl),Y8:=(fun _=>rfl),Y10:=(fun _=>rfl),Q11:=(fun _=>rfl),ST:=(G.ST.trans S9b),X:=(fun h=>by cases h),T6:=(fun _ h=>by cases h),T8:=(fun _ h=>by cases h),T10:=(fun _ h=>by cases h),M12:=(fun _ _=>rfl),N12:=(fun _ _=>⟨K9,L9,fun b hb=>(N9 b hb).imp id (fun q=>Nat.le_trans xs q),U9,fun q hq=>(V9 q hq).elim (fun h=>.inl (H8.out.2.2 q h)) (fun h=>h.elim (fun h=>.inr (.inl (H10.out.2.2 q h))) (fun h=>.inr (.inr (Nat.le_trans xs h)))),p1,p2⟩),L:=(fun h=>ff e (G.D13 h)),R0:=(fun h=>(G.R0 h).stays S9 nkr),R1:=(fun h=>ff e (G.D13 (G.D14 (G.D15 (G.D16 h))).2))}⟩)
   . have e:σ.b13=false:=hl
     have hd:=hd _ rfl;clear hl hlt;simp[Region.binds]at hd;have t12:σ.b12=true:=(by simp[hd])
     clear hd;have f12:=G.M12 t12 e
     have e16:σ.b16=false:=by
      rcases hs:σ.b16 with _|_
      . rfl
      . exact ff e (G.D14 (G.D15 (G.D16 hs))).2
     have HN:=zsp (G.N12 t12 e16);have ws:=G.ST.size;have H16:=zsp e16;clear e16;have He:=zsp e;clear e;refine zai rfl rfl (fun K hK=> ?_);have HK2:=zsp hK;clear hK
     go_simp
     have e:=He.out;refine HK2.out _ _ ((HI.out _ _ _).2 ⟨{σ with b13:=true,s56:=_,s55:=_,kn:=W.heap.size},rfl,rfl,{G with D13:=(fun _=>t12),D14:=(fun h=>ff e (G.D14 h).2),ST:=(G.ST.trans (Stays.of_ext ((Ext.refl W).alloc _))),X:=(fun h=>ff h t12),T6:=(fun _ h=>ff h t12),T8:=(fun _ h=>ff h t12),T10:=(fun _ h=>ff h t12),M12:=(fun _ h=>by cases h),N12:=(fun _ _=>⟨HN.out.1.up ((Ext.refl W).alloc _),HN.out.2.1,HN.out.2.2.1,HN.out.2.2.2.1,HN.out.2.2.2.2.1,HN.out.2.2.2.2.2.1,HN.out.2.2.2.2.2.2.up ((Ext.refl W).alloc _)⟩),L13:=(fun _=>⟨rfl,ws⟩),L:=(fun _=>⟨BlkT.new W _ _ rfl,HN.out.1.apart (Nat.le_refl _)⟩),B14:=(fun h=>ff e (G.D14 h).2),B15:=(fun h=>ff e (G.D14 (G.D15 h)).2),R0:=(fun h=>(G.R0 h).alloc _),R1:=(fun h=>ff e (G.D14 (G.D15 (G.D16 h))).2)}⟩)
   . have e:σ.b14=false:=hl
     have hd:=hd _ rfl;clear hl hlt;simp[Region.binds]at hd;have t1:σ.b1=true:=(by simp[hd])
     have t13:σ.b13=true:=(by simp[hd])
     clear hd;have f1:=G.Q1 t1;have f13:=(G.L13 t13).1;have l13:=(G.L13 t13).2;have He:=zsp e;clear e;refine zai rfl rfl (fun K hK=> ?_);have HK2:=zsp hK;clear hK
     go_simp
     have e:=He.out;refine HK2.out _ _ ((HI.out _ _ _).2 ⟨{σ with b14:=true,s57:=_,s44:=_,s56:=_},rfl,rfl,{G with D14:=(fun _=>⟨t1,t13⟩),D15:=(fun h=>ff e (G.D15 h)),Q1:=(fun _=>rfl),L13:=(fun _=>⟨rfl,l13⟩),B14:=(fun _=>rfl)}⟩)
   . have e:σ.b15=false:=hl
     have hd:=hd _ rfl;clear hl hlt;simp[Region.binds]at hd;have t14:σ.b14=true:=(by simp[hd])
     clear hd;have f14:=G.B14 t14;have He:=zsp e;clear e;refine zai rfl rfl (fun K hK=> ?_);have HK2:=zsp hK;clear hK
     go_simp
     have e:=He.out;refine HK2.out _ _ ((HI.out _ _ _).2 ⟨{σ with b15:=true,s58:=_,s57:=_},rfl,rfl,{G with D15:=(fun _=>t14),D16:=(fun h=>ff e (G.D16 h)),B14:=(fun _=>rfl),B15:=(fun _=>rfl)}⟩)
   . have e:σ.b16=false:=hl
     have hd:=hd _ rfl;clear hl hlt;simp[Region.binds]at hd;have t15:σ.b15=true:=(by simp[hd])
     have t12:σ.b12=true:=(G.D13 (G.D14 (G.D15 t15)).2)
     have t13:σ.b13=true:=(G.D14 (G.D15 t15)).2;clear hd;have f15:=G.B15 t15;have HN:=zsp (G.N12 t12 e);have HL:=zsp (G.L t13);have HR:=zsp (G.R0 e);have l13:=(G.L13 t13).2;have hnk:σ.kn≠kr:=by omega
     have g0:W.cell? ⟨kr,0,none⟩=some (.int .i64 0):=HR.out.cell 0;have h0:=HR.out.free 0;have g1:W.cell? ⟨kr,1,none⟩=some (.slice none 0 0):=HR.out.cell 1;have h1:=HR.out.free 1;have g2:W.cell? ⟨kr,2,none⟩=some (.slice none 0 0):=HR.out.cell 2;have h2:=HR.out.free 2;have g3:W.cell? ⟨kr,3,none⟩=some (.slice none 0 0):=HR.out.cell 3;have h3:=HR.out.free 3;have g4:W.cell? ⟨kr,4,none⟩=some (.bool false):=HR.out.cell 4;have h4:=HR.out.free 4;have lb:=HR.out.lt;have He:=zsp e;clear e;refine zai rfl rfl (fun K hK=> ?_);have HK2:=zsp hK;clear hK
     go_simp
     have e:=He.out;refine HK2.out _ _ ((HI.out _ _ _).2 ⟨{σ with b16:=true,s58:=_},rfl,rfl,{G with D16:=(fun _=>t15),B15:=(fun _=>rfl),ST:=((((((G.ST.set (p:=⟨kr,0,none⟩) (fun q=>q.2 rfl) (.int .i64 f.number)).set (p:=⟨kr,1,none⟩) (fun q=>q.2 rfl) (.slice none 0 0)).set (p:=⟨kr,2,none⟩) (fun q=>q.2 rfl) (.slice none 0 0)).set (p:=⟨kr,3,none⟩) (fun q=>q.2 rfl) (.slice (some ⟨σ.kn,0,none⟩) 1 1)).set (p:=⟨kr,4,none⟩) (fun q=>q.2 rfl) (.bool true))),X:=(fun h=>ff h t12),T6:=(fun _ h=>ff h t12),T8:=(fun _ h=>ff h t12),T10:=(fun _ h=>ff h t12),N12:=(fun _ h=>by cases h),L:=(fun _=>⟨(((((HL.out.1.far (p:=⟨kr,0,none⟩) hnk (.int .i64 f.number)).far (p:=⟨kr,1,none⟩) hnk (.slice none 0 0)).far (p:=⟨kr,2,none⟩) hnk (.slice none 0 0)).far (p:=⟨kr,3,none⟩) hnk (.slice (some ⟨σ.kn,0,none⟩) 1 1)).far (p:=⟨kr,4,none⟩) hnk (.bool true)),HL.out.2⟩),R0:=(fun h=>by cases h),R1:=(fun _=>⟨(((((HR.out.set_ 0 (.int .i64 f.number)).set_ 1 (.slice none 0 0)).set_ 2 (.slice none 0 0)).set_ 3 (.slice (some ⟨σ.kn,0,none⟩) 1 1)).set_ 4 (.bool true)),(((((HN.out.1.far HR.out (by decide) hkr (hku HN.out) 0 (.int .i64 f.number)).far (HR.out.set_ 0 (.int .i64 f.number)) (by decide) hkr (hku HN.out) 1 (.slice none 0 0)).far ((HR.out.set_ 0 (.int .i64 f.number)).set_ 1 (.slice none 0 0)) (by decide) hkr (hku HN.out) 2 (.slice none 0 0)).far (((HR.out.set_ 0 (.int .i64 f.number)).set_ 1 (.slice none 0 0)).set_ 2 (.slice none 0 0)) (by decide) hkr (hku HN.out) 3 (.slice (some ⟨σ.kn,0,none⟩) 1 1)).far ((((HR.out.set_ 0 (.int .i64 f.number)).set_ 1 (.slice none 0 0)).set_ 2 (.slice none 0 0)).set_ 3 (.slice (some ⟨σ.kn,0,none⟩) 1 1)) (by decide) hkr (hku HN.out) 4 (.bool true)),HN.out.2.1,HN.out.2.2.1,HN.out.2.2.2.1,HN.out.2.2.2.2.1,HN.out.2.2.2.2.2.1,HN.out.2.2.2.2.2.2.stays ((((((Stays.refl (fun q=>q≠kr) W).set (p:=⟨kr,0,none⟩) (fun q=>q rfl) (.int .i64 f.number)).set (p:=⟨kr,1,none⟩) (fun q=>q rfl) (.slice none 0 0)).set (p:=⟨kr,2,none⟩) (fun q=>q rfl) (.slice none 0 0)).set (p:=⟨kr,3,none⟩) (fun q=>q rfl) (.slice (some ⟨σ.kn,0,none⟩) 1 1)).set (p:=⟨kr,4,none⟩) (fun q=>q rfl) (.bool true)) (fun q hq=>by rcases HN.out.2.2.2.2.1 q hq with h|h|h;exact(ua q h).2;exact(ub q h).2;omega)⟩)}⟩)
 . obtain⟨σ,rfl,rfl,G⟩:=(HI.out _ _ _).1 hi
   clear hi;have t0:σ.b0=true:=zae hr (i:=0) rfl (by simp[Region.binds]) (show 0<17 by decide);have t1:σ.b1=true:=zae hr (i:=1) rfl (by simp[Region.binds,t0]) (show 1<17 by decide);have t2:σ.b2=true:=zae hr (i:=2) rfl (by simp[Region.binds,t0,t1]) (show 2<17 by decide);have t3:σ.b3=true:=zae hr (i:=3) rfl (by simp[Region.binds,t0,t1,t2]) (show 3<17 by decide);have t4:σ.b4=true:=zae hr (i:=4) rfl (by simp[Region.binds,t0,t1,t2,t3]) (show 4<17 by decide);have t5:σ.b5=true:=zae hr (i:=5) rfl (by simp[Region.binds,t0,t1,t2,t3,t4]) (show 5<17 by decide);have t6:σ.b6=true:=zae hr (i:=6) rfl (by simp[Region.binds,t0,t1,t2,t3,t4,t5]) (show 6<17 by decide);have t7:σ.b7=true:=zae hr (i:=7) rfl (by simp[Region.binds,t0,t1,t2,t3,t4,t5,t6]) (show 7<17 by decide);have t8:σ.b8=true:=zae hr (i:=8) rfl (by simp[Region.binds,t0,t1,t2,t3,t4,t5,t6,t7]) (show 8<17 by decide);have t9:σ.b9=true:=zae hr (i:=9) rfl (by simp[Region.binds,t0,t1,t2,t3,t4,t5,t6,t7,t8]) (show 9<17 by decide);have t10:σ.b10=true:=zae hr (i:=10) rfl (by simp[Region.binds,t0,t1,t2,t3,t4,t5,t6,t7,t8,t9]) (show 10<17 by decide);have t11:σ.b11=true:=zae hr (i:=11) rfl (by simp[Region.binds,t0,t1,t2,t3,t4,t5,t6,t7,t8,t9,t10]) (show 11<17 by decide);have t12:σ.b12=true:=zae hr (i:=12) rfl (by simp[Region.binds,t0,t1,t2,t3,t4,t5,t6,t7,t8,t9,t10,t11]) (show 12<17 by decide);have t13:σ.b13=true:=zae hr (i:=13) rfl (by simp[Region.binds,t0,t1,t2,t3,t4,t5,t6,t7,t8,t9,t10,t11,t12]) (show 13<17 by decide);have t14:σ.b14=true:=zae hr (i:=14) rfl (by simp[Region.binds,t0,t1,t2,t3,t4,t5,t6,t7,t8,t9,t10,t11,t12,t13]) (show 14<17 by decide);have t15:σ.b15=true:=zae hr (i:=15) rfl (by simp[Region.binds,t0,t1,t2,t3,t4,t5,t6,t7,t8,t9,t10,t11,t12,t13,t14]) (show 15<17 by decide);have t16:σ.b16=true:=zae hr (i:=16) rfl (by simp[Region.binds,t0,t1,t2,t3,t4,t5,t6,t7,t8,t9,t10,t11,t12,t13,t14,t15]) (show 16<17 by decide);obtain⟨p0,p1,p2,p3,p4,p5,p6,p7⟩:=G.R1 t16;exact HK.out _ _ _ _ _ _ _ _ _ _ _ _ _ _ _ _ σ.ym σ.A2 σ.n2 σ.c2 σ.l2 σ.kn W G.ST (G.L13 t13).2 (G.L t13).1 (G.L t13).2 p0 p1 p2 p3 p4 p5 p6 p7
 . refine(HI.out _ _ _).2 ⟨⟨false,false,false,false,false,false,false,false,false,false,false,false,false,false,false,false,false,_,_,_,_,_,_,_,_,_,_,_,_,_,_,_,_,.mk (none,0) (none,0) [] [],.mk (none,0) (none,0) [] [],.mk (none,0) (none,0) [] [],.mk (none,0) (none,0) [] [],none,0,0,[],0⟩,rfl,rfl,?_⟩
   constructor
   all_goals (try dsimp only)
   all_goals first|exact(Stays.refl _ w).drew|exact fun _=>BR.drew|exact fun _=>(Ext.refl w).drew|(intro h;cases h;done)
variable{way:Way}{oa ob:Bool}{rec:Three}{l:List WRow}{n c:Nat}{wr:World}
theorem zno(h:KS w0 wr bk SA sn sc A n c l)(so:zat xo vo oo)(sa:zat xa va oa)(sb:zat xb vb ob)(ho:ValAt wr vo)(ha:ValAt wr va)(hb:ValAt wr vb)(ua:∀q,UsesV va q->¬KU bk A l q)(ub:∀q,UsesV vb q->¬KU bk A l q)(uo:∀q,UsesV vo q->¬KU bk A l q)(e1:xa≠xb)(e2:xb≠xo)(e3:xa≠xo)(hk:f.kind=17)(hr:f.rep=false)(hoa:oa=true)(hob:ob=true)(hso:oo=true->0<vo.subs.length)(hsa:0<va.subs.length)(hsb:0<vb.subs.length)(hok: -9223372036854775808<=f.number/\f.number<9223372036854775808)(hm:∀W (o a b:MsgR),Ext wr W->bare o=subT xo->bare a=subT xa->bare b=subT xb->zah W o->zah W a->zah W b->(∀q,UsesT o q->¬KU bk A l q)->(∀q,UsesT a q->¬KU bk A l q)->(∀q,UsesT b q->¬KU bk A l q)->Calls prog 27 #[.pointer (some ⟨bk,0,none⟩),.int .i64 f.of_,.agg #[.slice o.a.1 o.vals.length o.a.2,.slice o.b.1 o.unk.length o.b.2],.agg #[.slice a.a.1 a.vals.length a.a.2,.slice a.b.1 a.unk.length a.b.2],.agg #[.slice b.a.1 b.vals.length b.a.2,.slice b.b.1 b.unk.length b.b.2],.slice B m d] W fun e W'=>∃y:MsgR,e=.returned (.agg #[.slice y.a.1 y.vals.length y.a.2,.slice y.b.1 y.unk.length y.b.2])/\bare y=(rec f.of_.toNat (subT xo) (subT xa) (subT xb) way).1/\zah W' y/\(∀q,UsesT y q->UsesT a q\/UsesT b q\/W.heap.size<=q)/\Made w0 bk SA sn sc A l W (rec f.of_.toNat (subT xo) (subT xa) (subT xb) way).2 (UsesT y) W'):
 Calls prog 54 #[.pointer (some ⟨bk,0,none⟩),zau f,sideV vo oo,sideV va oa,sideV vb ob,.slice B m d] wr fun e w'=>∃(u:ValR)(ok:Bool),e=.returned (sideV u ok)/\zat (zav rec f xo xa xb way).1 u ok/\ValAt w' u/\(∀q,UsesV u q->UsesV va q\/UsesV vb q\/wr.heap.size<=q)/\Made w0 bk SA sn sc A l wr (zav rec f xo xa xb way).2 (UsesV u) w':=by
 subst hoa hob
 have na:xa≠none:=by
  rcases sa with⟨_,q⟩|⟨q,_⟩
  . rw[q]
    simp
  . cases q
 have nb:xb≠none:=by
  rcases sb with⟨_,q⟩|⟨q,_⟩
  . rw[q]
    simp
  . cases q
 rw[zdG e1 e2 e3 ⟨hk,hr,na,nb⟩ way];have sab:=fun W (E:Ext wr W)=>kSame sa sb (ha.up E) (hb.up E)
 rw[show eqB (xa=xb)=false from zaC e1]at sab;have sbo:=fun W (E:Ext wr W)=>kSame sb so (hb.up E) (ho.up E)
 rw[show eqB (xb=xo)=false from zaC e2]at sbo;have sao:=fun W (E:Ext wr W)=>kSame sa so (ha.up E) (ho.up E)
 rw[show eqB (xa=xo)=false from zaC e3]at sao;have ko:=fun W (E:Ext wr W)=>kSub so (ho.up E) hso
 have ka:=fun W (E:Ext wr W)=>kSub sa (ha.up E) (fun _=>hsa)
 have kb:=fun W (E:Ext wr W)=>kSub sb (hb.up E) (fun _=>hsb)
 generalize rec f.of_.toNat (subT xo) (subT xa) (subT xb) way=R at*;unfold treeV at ko ka kb;have S0:=zsp sab;have S1:=zsp sbo;have S2:=zsp sao;have HK:=zsp h;have Ho:=zsp ho;have Ha:=zsp ha;have Hb:=zsp hb;have Uo:=zsp uo;have Ua:=zsp ua;have Ub:=zsp ub;have Hok:=zsp hok;have Hm:=zsp hm;clear h so sa sb ho ha hb ua ub uo sab sbo sao e1 e2 e3 na nb hso hsa hsb hok hm;unfold sideV zau;unfold sideV at*;rw[hk,hr];have Ko:=zsp ko;have Ka:=zsp ka;have Kb:=zsp kb;clear ko ka kb hk hr
 go_enter func54,ntmps54
 go_wp2_with fail
 have B0:=((((BlkT.new wr 61 #[.string f.name,.int .i64 f.number,.int .i64 17,.bool false,.bool f.packed,.int .i64 f.of_] rfl).alloc (.cells #[.int .i64 vo.number,.slice vo.a.1 vo.words.length vo.a.2,.slice vo.b.1 vo.texts.length vo.b.2,.slice vo.c.1 vo.subs.length vo.c.2,.bool oo] 114)).alloc (.cells #[.int .i64 va.number,.slice va.a.1 va.words.length va.a.2,.slice va.b.1 va.texts.length va.b.2,.slice va.c.1 va.subs.length va.c.2,.bool true] 114)).alloc (.cells #[.int .i64 vb.number,.slice vb.a.1 vb.words.length vb.a.2,.slice vb.b.1 vb.texts.length vb.b.2,.slice vb.c.1 vb.subs.length vb.c.2,.bool true] 114)).alloc (.cells #[.int .i64 0,.slice none 0 0,.slice none 0 0,.slice none 0 0,.bool false] 114);have B1:=(((BlkT.new (wr.alloc (.cells #[.string f.name,.int .i64 f.number,.int .i64 17,.bool false,.bool f.packed,.int .i64 f.of_] 61)) 114 #[.int .i64 vo.number,.slice vo.a.1 vo.words.length vo.a.2,.slice vo.b.1 vo.texts.length vo.b.2,.slice vo.c.1 vo.subs.length vo.c.2,.bool oo] (show wr.heap.size+1=_ by simp)).alloc (.cells #[.int .i64 va.number,.slice va.a.1 va.words.length va.a.2,.slice va.b.1 va.texts.length va.b.2,.slice va.c.1 va.subs.length va.c.2,.bool true] 114)).alloc (.cells #[.int .i64 vb.number,.slice vb.a.1 vb.words.length vb.a.2,.slice vb.b.1 vb.texts.length vb.b.2,.slice vb.c.1 vb.subs.length vb.c.2,.bool true] 114)).alloc (.cells #[.int .i64 0,.slice none 0 0,.slice none 0 0,.slice none 0 0,.bool false] 114);have B2:=((BlkT.new ((wr.alloc (.cells #[.string f.name,.int .i64 f.number,.int .i64 17,.bool false,.bool f.packed,.int .i64 f.of_] 61)).alloc (.cells #[.int .i64 vo.number,.slice vo.a.1 vo.words.length vo.a.2,.slice vo.b.1 vo.texts.length vo.b.2,.slice vo.c.1 vo.subs.length vo.c.2,.bool oo] 114)) 114 #[.int .i64 va.number,.slice va.a.1 va.words.length va.a.2,.slice va.b.1 va.texts.length va.b.2,.slice va.c.1 va.subs.length va.c.2,.bool true] (show wr.heap.size+2=_ by simp)).alloc (.cells #[.int .i64 vb.number,.slice vb.a.1 vb.words.length vb.a.2,.slice vb.b.1 vb.texts.length vb.b.2,.slice vb.c.1 vb.subs.length vb.c.2,.bool true] 114)).alloc (.cells #[.int .i64 0,.slice none 0 0,.slice none 0 0,.slice none 0 0,.bool false] 114);have B3:=(BlkT.new (((wr.alloc (.cells #[.string f.name,.int .i64 f.number,.int .i64 17,.bool false,.bool f.packed,.int .i64 f.of_] 61)).alloc (.cells #[.int .i64 vo.number,.slice vo.a.1 vo.words.length vo.a.2,.slice vo.b.1 vo.texts.length vo.b.2,.slice vo.c.1 vo.subs.length vo.c.2,.bool oo] 114)).alloc (.cells #[.int .i64 va.number,.slice va.a.1 va.words.length va.a.2,.slice va.b.1 va.texts.length va.b.2,.slice va.c.1 va.subs.length va.c.2,.bool true] 114)) 114 #[.int .i64 vb.number,.slice vb.a.1 vb.words.length vb.a.2,.slice vb.b.1 vb.texts.length vb.b.2,.slice vb.c.1 vb.subs.length vb.c.2,.bool true] (show wr.heap.size+3=_ by simp)).alloc (.cells #[.int .i64 0,.slice none 0 0,.slice none 0 0,.slice none 0 0,.bool false] 114);have B4:=BlkT.new ((((wr.alloc (.cells #[.string f.name,.int .i64 f.number,.int .i64 17,.bool false,.bool f.packed,.int .i64 f.of_] 61)).alloc (.cells #[.int .i64 vo.number,.slice vo.a.1 vo.words.length vo.a.2,.slice vo.b.1 vo.texts.length vo.b.2,.slice vo.c.1 vo.subs.length vo.c.2,.bool oo] 114)).alloc (.cells #[.int .i64 va.number,.slice va.a.1 va.words.length va.a.2,.slice va.b.1 va.texts.length va.b.2,.slice va.c.1 va.subs.length va.c.2,.bool true] 114)).alloc (.cells #[.int .i64 vb.number,.slice vb.a.1 vb.words.length vb.a.2,.slice vb.b.1 vb.texts.length vb.b.2,.slice vb.c.1 vb.subs.length vb.c.2,.bool true] 114)) 114 #[.int .i64 0,.slice none 0 0,.slice none 0 0,.slice none 0 0,.bool false] (show wr.heap.size+4=_ by simp)
 have X5:Ext wr (((((wr.alloc (.cells #[.string f.name,.int .i64 f.number,.int .i64 17,.bool false,.bool f.packed,.int .i64 f.of_] 61)).alloc (.cells #[.int .i64 vo.number,.slice vo.a.1 vo.words.length vo.a.2,.slice vo.b.1 vo.texts.length vo.b.2,.slice vo.c.1 vo.subs.length vo.c.2,.bool oo] 114)).alloc (.cells #[.int .i64 va.number,.slice va.a.1 va.words.length va.a.2,.slice va.b.1 va.texts.length va.b.2,.slice va.c.1 va.subs.length va.c.2,.bool true] 114)).alloc (.cells #[.int .i64 vb.number,.slice vb.a.1 vb.words.length vb.a.2,.slice vb.b.1 vb.texts.length vb.b.2,.slice vb.c.1 vb.subs.length vb.c.2,.bool true] 114)).alloc (.cells #[.int .i64 0,.slice none 0 0,.slice none 0 0,.slice none 0 0,.bool false] 114)):=(((((Ext.refl wr).alloc _).alloc _).alloc _).alloc _).alloc _;generalize (((((wr.alloc (.cells #[.string f.name,.int .i64 f.number,.int .i64 17,.bool false,.bool f.packed,.int .i64 f.of_] 61)).alloc (.cells #[.int .i64 vo.number,.slice vo.a.1 vo.words.length vo.a.2,.slice vo.b.1 vo.texts.length vo.b.2,.slice vo.c.1 vo.subs.length vo.c.2,.bool oo] 114)).alloc (.cells #[.int .i64 va.number,.slice va.a.1 va.words.length va.a.2,.slice va.b.1 va.texts.length va.b.2,.slice va.c.1 va.subs.length va.c.2,.bool true] 114)).alloc (.cells #[.int .i64 vb.number,.slice vb.a.1 vb.words.length vb.a.2,.slice vb.b.1 vb.texts.length vb.b.2,.slice vb.c.1 vb.subs.length vb.c.2,.bool true] 114)).alloc (.cells #[.int .i64 0,.slice none 0 0,.slice none 0 0,.slice none 0 0,.bool false] 114))=w5 at*;have hX:=X5;have zf0:w5.cell? ⟨wr.heap.size,0,none⟩=some (.string f.name):=B0.cell 0;have zf1:w5.cell? ⟨wr.heap.size,1,none⟩=some (.int .i64 f.number):=B0.cell 1;have zf2:w5.cell? ⟨wr.heap.size,2,none⟩=some (.int .i64 17):=B0.cell 2;have zf3:w5.cell? ⟨wr.heap.size,3,none⟩=some (.bool false):=B0.cell 3;have zf4:w5.cell? ⟨wr.heap.size,4,none⟩=some (.bool f.packed):=B0.cell 4;have zf5:w5.cell? ⟨wr.heap.size,5,none⟩=some (.int .i64 f.of_):=B0.cell 5;have zo0:w5.cell? ⟨wr.heap.size+1,0,none⟩=some (.int .i64 vo.number):=B1.cell 0;have zo1:w5.cell? ⟨wr.heap.size+1,1,none⟩=some (.slice vo.a.1 vo.words.length vo.a.2):=B1.cell 1;have zo2:w5.cell? ⟨wr.heap.size+1,2,none⟩=some (.slice vo.b.1 vo.texts.length vo.b.2):=B1.cell 2;have zo3:w5.cell? ⟨wr.heap.size+1,3,none⟩=some (.slice vo.c.1 vo.subs.length vo.c.2):=B1.cell 3;have zo4:w5.cell? ⟨wr.heap.size+1,4,none⟩=some (.bool oo):=B1.cell 4;have za0:w5.cell? ⟨wr.heap.size+2,0,none⟩=some (.int .i64 va.number):=B2.cell 0;have za1:w5.cell? ⟨wr.heap.size+2,1,none⟩=some (.slice va.a.1 va.words.length va.a.2):=B2.cell 1;have za2:w5.cell? ⟨wr.heap.size+2,2,none⟩=some (.slice va.b.1 va.texts.length va.b.2):=B2.cell 2;have za3:w5.cell? ⟨wr.heap.size+2,3,none⟩=some (.slice va.c.1 va.subs.length va.c.2):=B2.cell 3;have za4:w5.cell? ⟨wr.heap.size+2,4,none⟩=some (.bool true):=B2.cell 4;have zb0:w5.cell? ⟨wr.heap.size+3,0,none⟩=some (.int .i64 vb.number):=B3.cell 0;have zb1:w5.cell? ⟨wr.heap.size+3,1,none⟩=some (.slice vb.a.1 vb.words.length vb.a.2):=B3.cell 1
 have zb2:w5.cell? ⟨wr.heap.size+3,2,none⟩=some (.slice vb.b.1 vb.texts.length vb.b.2):=B3.cell 2;have zb3:w5.cell? ⟨wr.heap.size+3,3,none⟩=some (.slice vb.c.1 vb.subs.length vb.c.2):=B3.cell 3;have zb4:w5.cell? ⟨wr.heap.size+3,4,none⟩=some (.bool true):=B3.cell 4;have zr0:w5.cell? ⟨wr.heap.size+4,0,none⟩=some (.int .i64 0):=B4.cell 0;have zr1:w5.cell? ⟨wr.heap.size+4,1,none⟩=some (.slice none 0 0):=B4.cell 1;have zr2:w5.cell? ⟨wr.heap.size+4,2,none⟩=some (.slice none 0 0):=B4.cell 2;have zr3:w5.cell? ⟨wr.heap.size+4,3,none⟩=some (.slice none 0 0):=B4.cell 3;have zr4:w5.cell? ⟨wr.heap.size+4,4,none⟩=some (.bool false):=B4.cell 4
 go_wp2_with (first
  |(go_at_call 91;(with_reducible refine(S0.out _ (Ext.trans hX xx)).mono ?_);rintro e w6 ⟨rfl,E6⟩;have X_:Ext w5 w6:=Ext.trans xx E6;replace hX:=hX.up X_;replace B0:=B0.up X_;replace B1:=B1.up X_;replace B2:=B2.up X_;replace B3:=B3.up X_;replace B4:=B4.up X_;replace zf0:=X_.of_cell zf0;replace zf1:=X_.of_cell zf1;replace zf2:=X_.of_cell zf2;replace zf3:=X_.of_cell zf3;replace zf4:=X_.of_cell zf4;replace zf5:=X_.of_cell zf5;replace zo0:=X_.of_cell zo0;replace zo1:=X_.of_cell zo1;replace zo2:=X_.of_cell zo2;replace zo3:=X_.of_cell zo3;replace zo4:=X_.of_cell zo4;replace za0:=X_.of_cell za0;replace za1:=X_.of_cell za1;replace za2:=X_.of_cell za2;replace za3:=X_.of_cell za3;replace za4:=X_.of_cell za4;replace zb0:=X_.of_cell zb0;replace zb1:=X_.of_cell zb1;replace zb2:=X_.of_cell zb2;replace zb3:=X_.of_cell zb3;replace zb4:=X_.of_cell zb4;replace zr0:=X_.of_cell zr0;replace zr1:=X_.of_cell zr1;replace zr2:=X_.of_cell zr2;replace zr3:=X_.of_cell zr3;replace zr4:=X_.of_cell zr4;clear X_)
  |(go_at_call 91;(with_reducible refine(S1.out _ (Ext.trans hX xx)).mono ?_);rintro e w7 ⟨rfl,E7⟩;have X_:Ext w6 w7:=Ext.trans xx E7;replace hX:=hX.up X_;replace B0:=B0.up X_;replace B1:=B1.up X_;replace B2:=B2.up X_;replace B3:=B3.up X_;replace B4:=B4.up X_;replace zf0:=X_.of_cell zf0;replace zf1:=X_.of_cell zf1;replace zf2:=X_.of_cell zf2;replace zf3:=X_.of_cell zf3;replace zf4:=X_.of_cell zf4;replace zf5:=X_.of_cell zf5;replace zo0:=X_.of_cell zo0;replace zo1:=X_.of_cell zo1;replace zo2:=X_.of_cell zo2;replace zo3:=X_.of_cell zo3;replace zo4:=X_.of_cell zo4;replace za0:=X_.of_cell za0;replace za1:=X_.of_cell za1;replace za2:=X_.of_cell za2;replace za3:=X_.of_cell za3;replace za4:=X_.of_cell za4;replace zb0:=X_.of_cell zb0;replace zb1:=X_.of_cell zb1;replace zb2:=X_.of_cell zb2;replace zb3:=X_.of_cell zb3;replace zb4:=X_.of_cell zb4;replace zr0:=X_.of_cell zr0;replace zr1:=X_.of_cell zr1;replace zr2:=X_.of_cell zr2;replace zr3:=X_.of_cell zr3;replace zr4:=X_.of_cell zr4;clear X_)
  |(go_at_call 91;(with_reducible refine(S2.out _ (Ext.trans hX xx)).mono ?_);rintro e w8 ⟨rfl,E8⟩;have X_:Ext w7 w8:=Ext.trans xx E8;replace hX:=hX.up X_;replace B0:=B0.up X_;replace B1:=B1.up X_;replace B2:=B2.up X_;replace B3:=B3.up X_;replace B4:=B4.up X_;replace zf0:=X_.of_cell zf0;replace zf1:=X_.of_cell zf1;replace zf2:=X_.of_cell zf2;replace zf3:=X_.of_cell zf3;replace zf4:=X_.of_cell zf4;replace zf5:=X_.of_cell zf5;replace zo0:=X_.of_cell zo0;replace zo1:=X_.of_cell zo1;replace zo2:=X_.of_cell zo2;replace zo3:=X_.of_cell zo3;replace zo4:=X_.of_cell zo4;replace za0:=X_.of_cell za0;replace za1:=X_.of_cell za1;replace za2:=X_.of_cell za2;replace za3:=X_.of_cell za3;replace za4:=X_.of_cell za4;replace zb0:=X_.of_cell zb0;replace zb1:=X_.of_cell zb1;replace zb2:=X_.of_cell zb2;replace zb3:=X_.of_cell zb3;replace zb4:=X_.of_cell zb4;replace zr0:=X_.of_cell zr0;replace zr1:=X_.of_cell zr1;replace zr2:=X_.of_cell zr2;replace zr3:=X_.of_cell zr3;replace zr4:=X_.of_cell zr4;clear X_))
 have zx:=hX.size;have l0:=B0.lt;have l4:=B4.lt;have hb0:w0.heap.size<=wr.heap.size+4:=by have:=HK.out.ext.size;omega
 have ap:∀k,wr.heap.size<=k->¬KU bk A l k:=fun k hk=>HK.out.apart hk
 have fr:∀{v:ValR},ValAt wr v->(∀q,UsesV v q->¬KU bk A l q)->∀q,UsesV v q->¬KU bk A l q/\q≠wr.heap.size+4:=fun h1 h2 q hq=>⟨h2 q hq,by have:=h1.lt hq;omega⟩
 refine calm (fun _ _ _ hd h=>⟨hd,h.2⟩) (freg7 (n:=n) (c:=c) (R:=R) (xo:=xo) (xa:=xa) (xb:=xb) zf1 zf5 zo0 zo1 zo2 zo3 zo4 za0 za1 za2 za3 za4 zb0 zb1 zb2 zb3 zb4 ⟨ap _ (by omega),by omega⟩ ⟨ap _ (by omega),by omega⟩ ⟨ap _ (by omega),by omega⟩ ⟨ap _ (by omega),by omega⟩ (ap _ (by omega)) l4 hb0 B4 (fr Ho.out Uo.out) (fr Ha.out Ua.out) (fr Hb.out Ub.out)
  (zsp fun W E=>Ko.out W (hX.trans E)) (zsp fun W E=>Ka.out W (hX.trans E)) (zsp fun W E=>Kb.out W (hX.trans E)) (zsp fun W o a b E=>Hm.out W o a b (hX.trans E)) ?_)
 intro s43 s44 s45 s46 s47 s48 s49 s50 s51 s52 s53 s54 s55 s56 s57 s58 ym A2 n2 c2 l2 kn wz ST lkn BK nkn BR K2 L2 N2 U2 V2 e2 T2
 (try simp only[Exit.inBlock,Exit.then])
 go_wp2
 refine bodyPost_ret (results_cell_row (ty:=114) rfl _ _ (wr.heap.size+4) _ _ (0,0) _ rfl BR underlying114 rfl (by kernel_rfl)) rfl ?_;refine⟨⟨(none,0),(none,0),(some ⟨kn,0,none⟩,1),f.number,[],[],[ym]⟩,.inr ⟨rfl,.inl ⟨rfl,?_⟩,⟨⟨Hok.out,Reads.nil wz 1,(fun n h=>by cases h),⟨Reads.nil wz 1,(fun n h=>by cases h)⟩,⟨rfl,Nat.le_refl _,by show 1<=maxLen;unfold maxLen;omega,fun _=>⟨kn,0,rfl,BK.lt,fun j u hj=> ?_⟩⟩⟩,fun y hy=> ?_⟩,fun q hq=> ?_,A2,n2,c2,l2,K2,L2,⟨Nat.le_trans hX.size ST.size,fun b hb hlt=> ?_⟩,fun b hb=>(N2 b hb).imp id (fun q=>Nat.le_trans hX.size q),fun q hq=> ?_⟩⟩
 . rw[<-e2]
   rfl
 . rw[Nat.zero_add,BK.cell]
   have hj:(treeC ym++[])[j]?=some u:=hj;rw[List.append_nil]at hj;simpa[treeC] using hj
 . rw[List.mem_singleton.1 hy]
   exact T2
 . rcases hq with(hq|hq|hq)|⟨y,hy,hq⟩
   . exact absurd hq.1 (Nat.lt_irrefl 0)
   . exact absurd hq.1 (Nat.lt_irrefl 0)
   . obtain⟨_,p,hp,rfl⟩:=hq
     injection hp with hp;rw[<-hp];exact .inr (.inr (Nat.le_trans hX.size lkn))
   . rw[List.mem_singleton.1 hy]at hq
     exact(V2 q hq).imp id (fun h=>h.imp id (fun h=>Nat.le_trans hX.size h))
 . exact(ST.block b ⟨hb,by omega⟩ (by omega)).trans (hX.block b hlt)
 . rcases hq with(hq|hq|hq)|⟨y,hy,hq⟩
   . exact absurd hq.1 (Nat.lt_irrefl 0)
   . exact absurd hq.1 (Nat.lt_irrefl 0)
   . obtain⟨_,p,hp,rfl⟩:=hq
     injection hp with hp;rw[<-hp];exact nkn
   . rw[List.mem_singleton.1 hy]at hq
     exact U2 q hq
theorem zsb(h:KS w0 wr bk SA sn sc A n c l)(so:zat xo vo oo)(sa:zat xa va oa)(sb:zat xb vb ob)(ho:ValAt wr vo)(ha:ValAt wr va)(hb:ValAt wr vb)(ua:∀q,UsesV va q->¬KU bk A l q)(ub:∀q,UsesV vb q->¬KU bk A l q)(uo:∀q,UsesV vo q->¬KU bk A l q)(hw:WayAt wr B m d way)(hml:m<=1000000000000)(hn:n<=1000000000)(hso:f.kind=17->f.rep=false->oo=true->0<vo.subs.length)(hsa:f.kind=17->f.rep=false->oa=true->0<va.subs.length)(hsb:f.kind=17->f.rep=false->ob=true->0<vb.subs.length)(hok: -9223372036854775808<=f.number/\f.number<9223372036854775808)(hm:f.kind=17->f.rep=false->xa≠xb->xb≠xo->xa≠xo->xa≠none->xb≠none->∀W (o a b:MsgR),Ext wr W->bare o=subT xo->bare a=subT xa->bare b=subT xb->zah W o->zah W a->zah W b->(∀q,UsesT o q->¬KU bk A l q)->(∀q,UsesT a q->¬KU bk A l q)->(∀q,UsesT b q->¬KU bk A l q)->Calls prog 27 #[.pointer (some ⟨bk,0,none⟩),.int .i64 f.of_,.agg #[.slice o.a.1 o.vals.length o.a.2,.slice o.b.1 o.unk.length o.b.2],.agg #[.slice a.a.1 a.vals.length a.a.2,.slice a.b.1 a.unk.length a.b.2],.agg #[.slice b.a.1 b.vals.length b.a.2,.slice b.b.1 b.unk.length b.b.2],.slice B m d] W fun e W'=>∃y:MsgR,e=.returned (.agg #[.slice y.a.1 y.vals.length y.a.2,.slice y.b.1 y.unk.length y.b.2])/\bare y=(rec f.of_.toNat (subT xo) (subT xa) (subT xb) way).1/\zah W' y/\(∀q,UsesT y q->UsesT a q\/UsesT b q\/W.heap.size<=q)/\Made w0 bk SA sn sc A l W (rec f.of_.toNat (subT xo) (subT xa) (subT xb) way).2 (UsesT y) W'):
 Calls prog 54 #[.pointer (some ⟨bk,0,none⟩),zau f,sideV vo oo,sideV va oa,sideV vb ob,.slice B m d] wr fun e w'=>∃(u:ValR)(ok:Bool),e=.returned (sideV u ok)/\zat (zav rec f xo xa xb way).1 u ok/\ValAt w' u/\(∀q,UsesV u q->UsesV va q\/UsesV vb q\/wr.heap.size<=q)/\Made w0 bk SA sn sc A l wr (zav rec f xo xa xb way).2 (UsesV u) w':=by
 by_cases e1:xa=xb
 . exact zoD h so sa sb ho ha hb ua ub e1
 by_cases e2:xb=xo
 . exact zoE h so sa sb ho ha hb ua ub e1 e2
 by_cases e3:xa=xo
 . exact zoF h so sa sb ho ha hb ua ub e1 e2 e3
 by_cases hk:f.kind=17
 . rcases(show f.rep=true\/f.rep=false by cases f.rep<;>simp)with hr|hr
   . exact zoH h so sa sb ho ha hb ua ub e1 e2 e3 hk hr hw hml hn
   . rcases(show oa=false\/oa=true by cases oa<;>simp)with hoa|hoa
     . exact zoI h so sa sb ho ha hb ua ub e1 e2 e3 hk hr hoa hw hml hn
     . rcases(show ob=false\/ob=true by cases ob<;>simp)with hob|hob
       . exact zoJ h so sa sb ho ha hb ua ub e1 e2 e3 hk hr hoa hob hw hml hn
       . refine zno h so sa sb ho ha hb ua ub uo e1 e2 e3 hk hr hoa hob (hso hk hr) (hsa hk hr hoa) (hsb hk hr hob) hok (hm hk hr e1 e2 e3 ?_ ?_)
         . rcases sa with⟨_,q⟩|⟨q,_⟩
           . rw[q]
             simp
           . rw[hoa]at q
             cases q
         . rcases sb with⟨_,q⟩|⟨q,_⟩
           . rw[q]
             simp
           . rw[hob]at q
             cases q
 . exact zoG h so sa sb ho ha hb ua ub e1 e2 e3 hk hw hml hn
noncomputable def regM(n:Nat):Code:=((Tryz.f27.body.bind (zcb n)).getD .skip)
structure zqn where
 (b0 b1 b2 b3 b4 b5 b6 b7 b8 b9 b10 b11 b12 b13 b14 b15 b16 b17 b18 b19 b20 b21 b22:Bool)
 (s17 s42 s43 s44 s45 s46 s47 s48 s49 s50 s51 s52 s53 s54 s55 s56 s57 s58 s59 s60 s61 s62:Value)
 (vo:ValR)
 (va:ValR)
 (vb:ValR)
 (u:ValR)
 (oo:Bool)
 (oa:Bool)
 (ob:Bool)
 (ok:Bool)
 (AC:Option Addr)
 (cC:Nat)
 (AD:Option Addr)
 (cD:Nat)
 (kl:Nat)
 (kx:Nat)
 (A2:Option Addr)
 (n2:Nat)
 (c2:Nat)
 (l2:List WRow)
structure zsc(w0 w:World)(bk:Nat)(SA:Option Addr)(sn sc:Nat)(A:Option Addr)(rl:List WRow)(f:zaa)(mo ma mb:MsgR)(B:Option Addr)(m d:Nat)(way:Way)(R:Option ValT×List Way)(kf ko ka kb:Nat)(σ:zqn)(W:World):Prop where
 ST:Stays (fun b=>¬KU bk A rl b) w W
 X:σ.b20=false->Ext w W
 Q0:σ.b0=true->σ.s42=.pointer (some ⟨bk,0,none⟩)
 Q1:σ.b1=true->σ.s43=.agg #[.string f.name,.int .i64 f.number,.int .i64 f.kind,.bool f.rep,.bool f.packed,.int .i64 f.of_]
 Q14:σ.b14=true->σ.s56=.slice B m d
 Q3:σ.b3=true->σ.s45=.pointer (some ⟨kf,1,none⟩)
 Q7:σ.b7=true->σ.s49=.pointer (some ⟨kf,1,none⟩)
 Q11:σ.b11=true->σ.s53=.pointer (some ⟨kf,1,none⟩)
 Q16:σ.b16=true->σ.s58=.pointer (some ⟨kf,1,none⟩)
 Q4:σ.b4=true->σ.s46=.int .i64 f.number
 Q8:σ.b8=true->σ.s50=.int .i64 f.number
 Q12:σ.b12=true->σ.s54=.int .i64 f.number
 Q17:σ.b17=true->σ.s59=.int .i64 f.number
 Q2:σ.b2=true->σ.s44=.agg #[.slice mo.a.1 mo.vals.length mo.a.2,.slice mo.b.1 mo.unk.length mo.b.2]
 Y5:σ.b5=true->σ.s47=.agg #[.int .i64 σ.vo.number,.slice σ.vo.a.1 σ.vo.words.length σ.vo.a.2,.slice σ.vo.b.1 σ.vo.texts.length σ.vo.b.2,.slice σ.vo.c.1 σ.vo.subs.length σ.vo.c.2,.bool σ.oo]
 T5:σ.b5=true->σ.b20=false->zat (sideT (bare mo) f.number) σ.vo σ.oo/\ValAt W σ.vo/\∀q,UsesV σ.vo q->w.heap.size<=q
 K5:σ.b5=true->σ.b20=false->σ.b21=true->∀q,UsesV σ.vo q->q≠σ.kx
 Q6:σ.b6=true->σ.s48=.agg #[.slice ma.a.1 ma.vals.length ma.a.2,.slice ma.b.1 ma.unk.length ma.b.2]
 Y9:σ.b9=true->σ.s51=.agg #[.int .i64 σ.va.number,.slice σ.va.a.1 σ.va.words.length σ.va.a.2,.slice σ.va.b.1 σ.va.texts.length σ.va.b.2,.slice σ.va.c.1 σ.va.subs.length σ.va.c.2,.bool σ.oa]
 T9:σ.b9=true->σ.b20=false->zat (sideT (bare ma) f.number) σ.va σ.oa/\ValAt W σ.va/\∀q,UsesV σ.va q->w.heap.size<=q
 K9:σ.b9=true->σ.b20=false->σ.b21=true->∀q,UsesV σ.va q->q≠σ.kx
 Q10:σ.b10=true->σ.s52=.agg #[.slice mb.a.1 mb.vals.length mb.a.2,.slice mb.b.1 mb.unk.length mb.b.2]
 Y13:σ.b13=true->σ.s55=.agg #[.int .i64 σ.vb.number,.slice σ.vb.a.1 σ.vb.words.length σ.vb.a.2,.slice σ.vb.b.1 σ.vb.texts.length σ.vb.b.2,.slice σ.vb.c.1 σ.vb.subs.length σ.vb.c.2,.bool σ.ob]
 T13:σ.b13=true->σ.b20=false->zat (sideT (bare mb) f.number) σ.vb σ.ob/\ValAt W σ.vb/\∀q,UsesV σ.vb q->w.heap.size<=q
 K13:σ.b13=true->σ.b20=false->σ.b21=true->∀q,UsesV σ.vb q->q≠σ.kx
 UA5:σ.b5=true->σ.b15=true->σ.b19=false->∀q,UsesV σ.vo q->(Value.slice σ.AC 0 0).ownBlock≠some q
 UA9:σ.b9=true->σ.b15=true->σ.b19=false->∀q,UsesV σ.va q->(Value.slice σ.AC 0 0).ownBlock≠some q
 UA13:σ.b13=true->σ.b15=true->σ.b19=false->∀q,UsesV σ.vb q->(Value.slice σ.AC 0 0).ownBlock≠some q
 C15:σ.b15=true->σ.b19=false->σ.s57=.slice σ.AC m σ.cC/\Own w W 3 1 σ.AC m σ.cC (way.map zV)
 L18:σ.b18=true->σ.b19=false->σ.s60=.slice (some ⟨σ.kl,0,none⟩) 1 1/\BlkT W σ.kl 3 #[.int .i64 f.number]
 C19:σ.b19=true->σ.b20=false->σ.s61=.slice σ.AD (m+1) σ.cD/\Own w W 3 1 σ.AD (m+1) σ.cD ((way++[f.number]).map zV)
 M20:σ.b20=true->σ.s62=.agg #[.int .i64 σ.u.number,.slice σ.u.a.1 σ.u.words.length σ.u.a.2,.slice σ.u.b.1 σ.u.texts.length σ.u.b.2,.slice σ.u.c.1 σ.u.subs.length σ.u.c.2,.bool σ.ok]
 N20:σ.b20=true->KS w0 W bk SA sn sc σ.A2 σ.n2 σ.c2 σ.l2/\σ.l2.map (·.way)=rl.map (·.way)++R.2/\(∀b,KU bk σ.A2 σ.l2 b->KU bk A rl b\/w.heap.size<=b)/\(∀q,UsesV σ.u q->¬KU bk σ.A2 σ.l2 q)/\(∀q,UsesV σ.u q->w.heap.size<=q)/\zat R.1 σ.u σ.ok/\ValAt W σ.u
 N21:σ.b21=true->σ.s17=.pointer (some ⟨σ.kx,0,none⟩)/\w.heap.size<=σ.kx
 B0:σ.b21=true->σ.b22=false->BlkT W σ.kx 114 #[.int .i64 0,.slice none 0 0,.slice none 0 0,.slice none 0 0,.bool false]
 B1:σ.b22=true->BlkT W σ.kx 114 #[.int .i64 σ.u.number,.slice σ.u.a.1 σ.u.words.length σ.u.a.2,.slice σ.u.b.1 σ.u.texts.length σ.u.b.2,.slice σ.u.c.1 σ.u.subs.length σ.u.c.2,.bool σ.ok]
 UK:σ.b20=true->σ.b21=true->¬KU bk σ.A2 σ.l2 σ.kx/\∀q,UsesV σ.u q->q≠σ.kx
 D4:σ.b4=true->σ.b3=true
 D5:σ.b5=true->σ.b2=true/\σ.b4=true
 D8:σ.b8=true->σ.b7=true
 D9:σ.b9=true->σ.b6=true/\σ.b8=true
 D12:σ.b12=true->σ.b11=true
 D13:σ.b13=true->σ.b10=true/\σ.b12=true
 D15:σ.b15=true->σ.b14=true
 D17:σ.b17=true->σ.b16=true
 D18:σ.b18=true->σ.b17=true
 D19:σ.b19=true->σ.b15=true/\σ.b18=true
 D20:σ.b20=true->σ.b0=true/\σ.b1=true/\σ.b5=true/\σ.b9=true/\σ.b13=true/\σ.b19=true
 D22:σ.b22=true->σ.b20=true/\σ.b21=true
theorem mreg6{u7 u12 u63 u64 u65 u66 u67 u68 u69 u70 u71 u72 u73 u74 u75 u76 u77 u78 u79 u80 u81 u82 u83 u84 u85 u86 u87 u88 u89 u90 u91 u92 u93 u94 u95 u96 u97 u98 u99:Value}{mo ma mb:MsgR}{R:Option ValT×List Way}(zf0:w.cell? ⟨kf,0,none⟩=some (.string f.name))(zf1:w.cell? ⟨kf,1,none⟩=some (.int .i64 f.number))(zf2:w.cell? ⟨kf,2,none⟩=some (.int .i64 f.kind))(zf3:w.cell? ⟨kf,3,none⟩=some (.bool f.rep))(zf4:w.cell? ⟨kf,4,none⟩=some (.bool f.packed))(zf5:w.cell? ⟨kf,5,none⟩=some (.int .i64 f.of_))(zmo0:w.cell? ⟨ko,0,none⟩=some (.slice mo.a.1 mo.vals.length mo.a.2))(zmo1:w.cell? ⟨ko,1,none⟩=some (.slice mo.b.1 mo.unk.length mo.b.2))(zma0:w.cell? ⟨ka,0,none⟩=some (.slice ma.a.1 ma.vals.length ma.a.2))(zma1:w.cell? ⟨ka,1,none⟩=some (.slice ma.b.1 ma.unk.length ma.b.2))(zmb0:w.cell? ⟨kb,0,none⟩=some (.slice mb.a.1 mb.vals.length mb.a.2))(zmb1:w.cell? ⟨kb,1,none⟩=some (.slice mb.b.1 mb.unk.length mb.b.2))(nkf:¬KU bk A rl kf)(nko:¬KU bk A rl ko)(nka:¬KU bk A rl ka)(nkb:¬KU bk A rl kb)(hap:∀k,w.heap.size<=k->¬KU bk A rl k)(hw0:w0.heap.size<=w.heap.size)(hw:WayAt w B m d way)(hm:m<=1000000)(Hmo:Hid (∀W,Ext w W->Calls prog 55 #[.agg #[.slice mo.a.1 mo.vals.length mo.a.2,.slice mo.b.1 mo.unk.length mo.b.2],.int .i64 f.number] W fun e W'=>∃(u:ValR)(ok:Bool),e=.returned (.agg #[.int .i64 u.number,.slice u.a.1 u.words.length u.a.2,.slice u.b.1 u.texts.length u.b.2,.slice u.c.1 u.subs.length u.c.2,.bool ok])/\zat (sideT (bare mo) f.number) u ok/\ValAt W' u/\(∀b,UsesV u b->W.heap.size<=b)/\Ext W W'))(Hma:Hid (∀W,Ext w W->Calls prog 55 #[.agg #[.slice ma.a.1 ma.vals.length ma.a.2,.slice ma.b.1 ma.unk.length ma.b.2],.int .i64 f.number] W fun e W'=>∃(u:ValR)(ok:Bool),e=.returned (.agg #[.int .i64 u.number,.slice u.a.1 u.words.length u.a.2,.slice u.b.1 u.texts.length u.b.2,.slice u.c.1 u.subs.length u.c.2,.bool ok])/\zat (sideT (bare ma) f.number) u ok/\ValAt W' u/\(∀b,UsesV u b->W.heap.size<=b)/\Ext W W'))(Hmb:Hid (∀W,Ext w W->Calls prog 55 #[.agg #[.slice mb.a.1 mb.vals.length mb.a.2,.slice mb.b.1 mb.unk.length mb.b.2],.int .i64 f.number] W fun e W'=>∃(u:ValR)(ok:Bool),e=.returned (.agg #[.int .i64 u.number,.slice u.a.1 u.words.length u.a.2,.slice u.b.1 u.texts.length u.b.2,.slice u.c.1 u.subs.length u.c.2,.bool ok])/\zat (sideT (bare mb) f.number) u ok/\ValAt W' u/\(∀b,UsesV u b->W.heap.size<=b)/\Ext W W'))(Hf:Hid (∀W (vo:ValR)(oo:Bool)(va:ValR)(oa:Bool)(vb:ValR)(ob:Bool)(A':Option Addr)(cc:Nat),Ext w W->zat (sideT (bare mo) f.number) vo oo->zat (sideT (bare ma) f.number) va oa->zat (sideT (bare mb) f.number) vb ob->ValAt W vo->ValAt W va->ValAt W vb->(∀q,UsesV vo q->w.heap.size<=q)->(∀q,UsesV va q->w.heap.size<=q)->(∀q,UsesV vb q->w.heap.size<=q)->WayAt W A' (m+1) cc (way++[f.number])->(∀q,UsesA A' (m+1) q->w.heap.size<=q)->Calls prog 54 #[.pointer (some ⟨bk,0,none⟩),.agg #[.string f.name,.int .i64 f.number,.int .i64 f.kind,.bool f.rep,.bool f.packed,.int .i64 f.of_],.agg #[.int .i64 vo.number,.slice vo.a.1 vo.words.length vo.a.2,.slice vo.b.1 vo.texts.length vo.b.2,.slice vo.c.1 vo.subs.length vo.c.2,.bool oo],.agg #[.int .i64 va.number,.slice va.a.1 va.words.length va.a.2,.slice va.b.1 va.texts.length va.b.2,.slice va.c.1 va.subs.length va.c.2,.bool oa],.agg #[.int .i64 vb.number,.slice vb.a.1 vb.words.length vb.a.2,.slice vb.b.1 vb.texts.length vb.b.2,.slice vb.c.1 vb.subs.length vb.c.2,.bool ob],.slice A' (m+1) cc] W fun e W'=>∃(u:ValR)(ok:Bool),e=.returned (.agg #[.int .i64 u.number,.slice u.a.1 u.words.length u.a.2,.slice u.b.1 u.texts.length u.b.2,.slice u.c.1 u.subs.length u.c.2,.bool ok])/\zat R.1 u ok/\ValAt W' u/\(∀q,UsesV u q->UsesV va q\/UsesV vb q\/W.heap.size<=q)/\Made w0 bk SA sn sc A rl W R.2 (UsesV u) W'))(hK:∀(s17 s42 s43 s44 s45 s46 s47 s48 s49 s50 s51 s52 s53 s54 s55 s56 s57 s58 s59 s60 s61 s62:Value)(u:ValR)(ok:Bool)(A2:Option Addr)(n2 c2:Nat)(l2:List WRow)(kx:Nat)(wz:World),Stays (fun b=>¬KU bk A rl b) w wz->s17=.pointer (some ⟨kx,0,none⟩)->w.heap.size<=kx->BlkT wz kx 114 #[.int .i64 u.number,.slice u.a.1 u.words.length u.a.2,.slice u.b.1 u.texts.length u.b.2,.slice u.c.1 u.subs.length u.c.2,.bool ok]->¬KU bk A2 l2 kx->(KS w0 wz bk SA sn sc A2 n2 c2 l2)->(l2.map (·.way)=rl.map (·.way)++R.2)->((∀b,KU bk A2 l2 b->KU bk A rl b\/w.heap.size<=b))->((∀q,UsesV u q->¬KU bk A2 l2 q))->((∀q,UsesV u q->w.heap.size<=q))->(zat R.1 u ok)->(ValAt wz u)->Q0 .normal ⟨#[.pointer (some ⟨bk,0,none⟩),u1,u2,u3,u4,.slice B m d,u6,u7,.pointer (some ⟨ko,0,none⟩),.pointer (some ⟨ka,0,none⟩),.pointer (some ⟨kb,0,none⟩),u11,u12,u13,u14,u15,.pointer (some ⟨kf,0,none⟩),s17,u18,u19,u20,u21,u22,u23,u24,u25,u26,u27,u28,u29,u30,u31,u32,u33,u34,u35,u36,u37,u38,u39,u40,u41,s42,s43,s44,s45,s46,s47,s48,s49,s50,s51,s52,s53,s54,s55,s56,s57,s58,s59,s60,s61,s62,u63,u64,u65,u66,u67,u68,u69,u70,u71,u72,u73,u74,u75,u76,u77,u78,u79,u80,u81,u82,u83,u84,u85,u86,u87,u88,u89,u90,u91,u92,u93,u94,u95,u96,u97,u98,u99],[]⟩ wz):
 Code.wp prog (regM 6) (calmQ Q0) ⟨#[.pointer (some ⟨bk,0,none⟩),u1,u2,u3,u4,.slice B m d,u6,u7,.pointer (some ⟨ko,0,none⟩),.pointer (some ⟨ka,0,none⟩),.pointer (some ⟨kb,0,none⟩),u11,u12,u13,u14,u15,.pointer (some ⟨kf,0,none⟩),u17,u18,u19,u20,u21,u22,u23,u24,u25,u26,u27,u28,u29,u30,u31,u32,u33,u34,u35,u36,u37,u38,u39,u40,u41,u42,u43,u44,u45,u46,u47,u48,u49,u50,u51,u52,u53,u54,u55,u56,u57,u58,u59,u60,u61,u62,u63,u64,u65,u66,u67,u68,u69,u70,u71,u72,u73,u74,u75,u76,u77,u78,u79,u80,u81,u82,u83,u84,u85,u86,u87,u88,u89,u90,u91,u92,u93,u94,u95,u96,u97,u98,u99],[]⟩ w:=by
 have HK:=zsp hK;clear hK
 conv=>arg 2;whnf
 obtain⟨I,hI⟩:∃I:Array Bool->Act->World->Prop,∀l a W,I l a W<->(∃σ:zqn,l=#[σ.b0,σ.b1,σ.b2,σ.b3,σ.b4,σ.b5,σ.b6,σ.b7,σ.b8,σ.b9,σ.b10,σ.b11,σ.b12,σ.b13,σ.b14,σ.b15,σ.b16,σ.b17,σ.b18,σ.b19,σ.b20,σ.b21,σ.b22]/\a=⟨#[.pointer (some ⟨bk,0,none⟩),u1,u2,u3,u4,.slice B m d,u6,u7,.pointer (some ⟨ko,0,none⟩),.pointer (some ⟨ka,0,none⟩),.pointer (some ⟨kb,0,none⟩),u11,u12,u13,u14,u15,.pointer (some ⟨kf,0,none⟩),σ.s17,u18,u19,u20,u21,u22,u23,u24,u25,u26,u27,u28,u29,u30,u31,u32,u33,u34,u35,u36,u37,u38,u39,u40,u41,σ.s42,σ.s43,σ.s44,σ.s45,σ.s46,σ.s47,σ.s48,σ.s49,σ.s50,σ.s51,σ.s52,σ.s53,σ.s54,σ.s55,σ.s56,σ.s57,σ.s58,σ.s59,σ.s60,σ.s61,σ.s62,u63,u64,u65,u66,u67,u68,u69,u70,u71,u72,u73,u74,u75,u76,u77,u78,u79,u80,u81,u82,u83,u84,u85,u86,u87,u88,u89,u90,u91,u92,u93,u94,u95,u96,u97,u98,u99],[]⟩/\zsc w0 w bk SA sn sc A rl f mo ma mb B m d way R kf ko ka kb σ W):=⟨_,fun _ _ _=>Iff.rfl⟩
 have HI:=zsp hI;clear hI;refine zcQ (I:=I) (by kernel_rfl) (fun i l a W hi hr=> ?_) (fun l a W hi hr=> ?_) ?_
 . obtain⟨σ,rfl,rfl,G⟩:=(HI.out _ _ _).1 hi
   clear hi;obtain⟨hlt,hl,hd⟩:=zcW hr;clear hr;have hlt:i<23:=hlt;rcases(show i=0\/i=1\/i=2\/i=3\/i=4\/i=5\/i=6\/i=7\/i=8\/i=9\/i=10\/i=11\/i=12\/i=13\/i=14\/i=15\/i=16\/i=17\/i=18\/i=19\/i=20\/i=21\/i=22 by omega)with rfl|rfl|rfl|rfl|rfl|rfl|rfl|rfl|rfl|rfl|rfl|rfl|rfl|rfl|rfl|rfl|rfl|rfl|rfl|rfl|rfl|rfl|rfl
   . have e:σ.b0=false:=hl
     clear hl hlt hd;have He:=zsp e;clear e;refine zai rfl rfl (fun K hK=> ?_);have HK2:=zsp hK;clear hK
     go_simp
     have e:=He.out;refine HK2.out _ _ ((HI.out _ _ _).2 ⟨{σ with b0:=true,s42:=_},rfl,rfl,{G with D20:=(fun h=>ff e (G.D20 h).1),Q0:=(fun _=>rfl)}⟩)
   . have e:σ.b1=false:=hl
     clear hl hlt hd;have g0:W.cell? ⟨kf,0,none⟩=some (.string f.name):=G.ST.cell (p:=⟨kf,0,none⟩) nkf zf0;have g1:W.cell? ⟨kf,1,none⟩=some (.int .i64 f.number):=G.ST.cell (p:=⟨kf,1,none⟩) nkf zf1;have g2:W.cell? ⟨kf,2,none⟩=some (.int .i64 f.kind):=G.ST.cell (p:=⟨kf,2,none⟩) nkf zf2;have g3:W.cell? ⟨kf,3,none⟩=some (.bool f.rep):=G.ST.cell (p:=⟨kf,3,none⟩) nkf zf3;have g4:W.cell? ⟨kf,4,none⟩=some (.bool f.packed):=G.ST.cell (p:=⟨kf,4,none⟩) nkf zf4;have g5:W.cell? ⟨kf,5,none⟩=some (.int .i64 f.of_):=G.ST.cell (p:=⟨kf,5,none⟩) nkf zf5;have He:=zsp e;clear e;refine zai rfl rfl (fun K hK=> ?_);have HK2:=zsp hK;clear hK
     go_simp
     have e:=He.out;refine HK2.out _ _ ((HI.out _ _ _).2 ⟨{σ with b1:=true,s43:=_},rfl,rfl,{G with D20:=(fun h=>ff e (G.D20 h).2.1),Q1:=(fun _=>rfl)}⟩)
   . have e:σ.b2=false:=hl
     clear hl hlt hd;have g0:W.cell? ⟨ko,0,none⟩=some (.slice mo.a.1 mo.vals.length mo.a.2):=G.ST.cell (p:=⟨ko,0,none⟩) nko zmo0;have g1:W.cell? ⟨ko,1,none⟩=some (.slice mo.b.1 mo.unk.length mo.b.2):=G.ST.cell (p:=⟨ko,1,none⟩) nko zmo1;have He:=zsp e;clear e;refine zai rfl rfl (fun K hK=> ?_);have HK2:=zsp hK;clear hK
     go_simp
     have e:=He.out;refine HK2.out _ _ ((HI.out _ _ _).2 ⟨{σ with b2:=true,s44:=_},rfl,rfl,{G with D5:=(fun h=>ff e (G.D5 h).1),Q2:=(fun _=>rfl)}⟩)
   . have e:σ.b3=false:=hl
     clear hl hlt hd;have He:=zsp e;clear e;refine zai rfl rfl (fun K hK=> ?_);have HK2:=zsp hK;clear hK
     go_simp
     have e:=He.out;refine HK2.out _ _ ((HI.out _ _ _).2 ⟨{σ with b3:=true,s45:=_},rfl,rfl,{G with D4:=(fun h=>ff e (G.D4 h)),Q3:=(fun _=>rfl)}⟩)
   . have e:σ.b4=false:=hl
     have hd:=hd _ rfl;clear hl hlt;simp[Region.binds]at hd;have t3:σ.b3=true:=(by simp[hd])
     clear hd;have er:=G.Q3 t3;have g1:W.cell? ⟨kf,1,none⟩=some (.int .i64 f.number):=G.ST.cell (p:=⟨kf,1,none⟩) nkf zf1;have He:=zsp e;clear e;refine zai rfl rfl (fun K hK=> ?_);have HK2:=zsp hK;clear hK
     go_simp
     have e:=He.out;refine HK2.out _ _ ((HI.out _ _ _).2 ⟨{σ with b4:=true,s46:=_,s45:=_},rfl,rfl,{G with D4:=(fun _=>t3),D5:=(fun h=>ff e (G.D5 h).2),Q3:=(fun _=>rfl),Q4:=(fun _=>rfl)}⟩)
   . have e:σ.b5=false:=hl
     have hd:=hd _ rfl;clear hl hlt;simp[Region.binds]at hd;have t2:σ.b2=true:=(by simp[hd])
     have t4:σ.b4=true:=(by simp[hd])
     clear hd;have f1:=G.Q2 t2;have f2:=G.Q4 t4
     have e20:σ.b20=false:=by
      rcases hs:σ.b20 with _|_
      . rfl
      . exact ff e (G.D20 hs).2.2.1
     have HX:=zsp (G.X e20)
     have lx:σ.b21=true->σ.kx<W.heap.size:=fun h=>(G.B0 h (by
      rcases hs:σ.b22 with _|_
      . rfl
      . exact ff e (G.D20 (G.D22 hs).1).2.2.1)).lt
     clear e20;have He:=zsp e;clear e;refine zai rfl rfl (fun K hK=> ?_);have HK2:=zsp hK;clear hK
     go_simp
     go_at_call 55
     refine(Hmo.out _ HX.out).mono ?_;rintro e1 W2 ⟨un,kn,rfl,p1,p2,p3,E2⟩
     (try dsimp only)
     (try simp only[Act.put,List.setIfInBounds_toArray,List.set_cons_zero,List.set_cons_succ])
     have ws:=HX.out.size;have e:=He.out;refine HK2.out _ _ ((HI.out _ _ _).2 ⟨{σ with b5:=true,s47:=_,s44:=_,s46:=_,vo:=un,oo:=kn},rfl,rfl,{G with D5:=(fun _=>⟨t2,t4⟩),D20:=(fun h=>ff e (G.D20 h).2.2.1),ST:=(G.ST.trans (Stays.of_ext E2)),X:=(fun _=>HX.out.trans E2),T9:=(fun h h2=>⟨(G.T9 h h2).1,(G.T9 h h2).2.1.up E2,(G.T9 h h2).2.2⟩),T13:=(fun h h2=>⟨(G.T13 h h2).1,(G.T13 h h2).2.1.up E2,(G.T13 h h2).2.2⟩),C15:=(fun h h2=>⟨(G.C15 h h2).1,(G.C15 h h2).2.up E2⟩),L18:=(fun h h2=>⟨(G.L18 h h2).1,(G.L18 h h2).2.up E2⟩),C19:=(fun h h2=>⟨(G.C19 h h2).1,(G.C19 h h2).2.up E2⟩),B0:=(fun h h2=>(G.B0 h h2).up E2),Q2:=(fun _=>rfl),Q4:=(fun _=>rfl),Y5:=(fun _=>rfl),T5:=(fun _ _=>⟨p1,p2,fun q hq=>Nat.le_trans ws (p3 q hq)⟩),K5:=(fun _ _ h q hq=>Nat.ne_of_gt (Nat.lt_of_lt_of_le (lx h) (p3 q hq))),N20:=(fun h=>ff e (G.D20 h).2.2.1),B1:=(fun h=>ff e (G.D20 (G.D22 h).1).2.2.1),UA5:=(fun _ h h2 q hq hc=>by have h3:=((G.C15 h h2).2.new_lt (b:=q) hc).2;have h4:=p3 q hq;omega)}⟩)
   . have e:σ.b6=false:=hl
     clear hl hlt hd;have g0:W.cell? ⟨ka,0,none⟩=some (.slice ma.a.1 ma.vals.length ma.a.2):=G.ST.cell (p:=⟨ka,0,none⟩) nka zma0;have g1:W.cell? ⟨ka,1,none⟩=some (.slice ma.b.1 ma.unk.length ma.b.2):=G.ST.cell (p:=⟨ka,1,none⟩) nka zma1;have He:=zsp e;clear e;refine zai rfl rfl (fun K hK=> ?_);have HK2:=zsp hK;clear hK
     go_simp
     have e:=He.out;refine HK2.out _ _ ((HI.out _ _ _).2 ⟨{σ with b6:=true,s48:=_},rfl,rfl,{G with D9:=(fun h=>ff e (G.D9 h).1),Q6:=(fun _=>rfl)}⟩)
   . have e:σ.b7=false:=hl
     clear hl hlt hd;have He:=zsp e;clear e;refine zai rfl rfl (fun K hK=> ?_);have HK2:=zsp hK;clear hK
     go_simp
     have e:=He.out;refine HK2.out _ _ ((HI.out _ _ _).2 ⟨{σ with b7:=true,s49:=_},rfl,rfl,{G with D8:=(fun h=>ff e (G.D8 h)),Q7:=(fun _=>rfl)}⟩)
   . have e:σ.b8=false:=hl
     have hd:=hd _ rfl;clear hl hlt;simp[Region.binds]at hd;have t7:σ.b7=true:=(by simp[hd])
     clear hd;have er:=G.Q7 t7;have g1:W.cell? ⟨kf,1,none⟩=some (.int .i64 f.number):=G.ST.cell (p:=⟨kf,1,none⟩) nkf zf1;have He:=zsp e;clear e;refine zai rfl rfl (fun K hK=> ?_);have HK2:=zsp hK;clear hK
     go_simp
     have e:=He.out;refine HK2.out _ _ ((HI.out _ _ _).2 ⟨{σ with b8:=true,s50:=_,s49:=_},rfl,rfl,{G with D8:=(fun _=>t7),D9:=(fun h=>ff e (G.D9 h).2),Q7:=(fun _=>rfl),Q8:=(fun _=>rfl)}⟩)
   . have e:σ.b9=false:=hl
     have hd:=hd _ rfl;clear hl hlt;simp[Region.binds]at hd;have t6:σ.b6=true:=(by simp[hd])
     have t8:σ.b8=true:=(by simp[hd])
     clear hd;have f1:=G.Q6 t6;have f2:=G.Q8 t8
     have e20:σ.b20=false:=by
      rcases hs:σ.b20 with _|_
      . rfl
      . exact ff e (G.D20 hs).2.2.2.1
     have HX:=zsp (G.X e20)
     have lx:σ.b21=true->σ.kx<W.heap.size:=fun h=>(G.B0 h (by
      rcases hs:σ.b22 with _|_
      . rfl
      . exact ff e (G.D20 (G.D22 hs).1).2.2.2.1)).lt
     clear e20;have He:=zsp e;clear e;refine zai rfl rfl (fun K hK=> ?_);have HK2:=zsp hK;clear hK
     go_simp
     go_at_call 55
     refine(Hma.out _ HX.out).mono ?_;rintro e1 W2 ⟨un,kn,rfl,p1,p2,p3,E2⟩
     (try dsimp only)
     (try simp only[Act.put,List.setIfInBounds_toArray,List.set_cons_zero,List.set_cons_succ])
     have ws:=HX.out.size;have e:=He.out;refine HK2.out _ _ ((HI.out _ _ _).2 ⟨{σ with b9:=true,s51:=_,s48:=_,s50:=_,va:=un,oa:=kn},rfl,rfl,{G with D9:=(fun _=>⟨t6,t8⟩),D20:=(fun h=>ff e (G.D20 h).2.2.2.1),ST:=(G.ST.trans (Stays.of_ext E2)),X:=(fun _=>HX.out.trans E2),T5:=(fun h h2=>⟨(G.T5 h h2).1,(G.T5 h h2).2.1.up E2,(G.T5 h h2).2.2⟩),T13:=(fun h h2=>⟨(G.T13 h h2).1,(G.T13 h h2).2.1.up E2,(G.T13 h h2).2.2⟩),C15:=(fun h h2=>⟨(G.C15 h h2).1,(G.C15 h h2).2.up E2⟩),L18:=(fun h h2=>⟨(G.L18 h h2).1,(G.L18 h h2).2.up E2⟩),C19:=(fun h h2=>⟨(G.C19 h h2).1,(G.C19 h h2).2.up E2⟩),B0:=(fun h h2=>(G.B0 h h2).up E2),Q6:=(fun _=>rfl),Q8:=(fun _=>rfl),Y9:=(fun _=>rfl),T9:=(fun _ _=>⟨p1,p2,fun q hq=>Nat.le_trans ws (p3 q hq)⟩),K9:=(fun _ _ h q hq=>Nat.ne_of_gt (Nat.lt_of_lt_of_le (lx h) (p3 q hq))),N20:=(fun h=>ff e (G.D20 h).2.2.2.1),B1:=(fun h=>ff e (G.D20 (G.D22 h).1).2.2.2.1),UA9:=(fun _ h h2 q hq hc=>by have h3:=((G.C15 h h2).2.new_lt (b:=q) hc).2;have h4:=p3 q hq;omega)}⟩)
   . have e:σ.b10=false:=hl
     clear hl hlt hd;have g0:W.cell? ⟨kb,0,none⟩=some (.slice mb.a.1 mb.vals.length mb.a.2):=G.ST.cell (p:=⟨kb,0,none⟩) nkb zmb0;have g1:W.cell? ⟨kb,1,none⟩=some (.slice mb.b.1 mb.unk.length mb.b.2):=G.ST.cell (p:=⟨kb,1,none⟩) nkb zmb1;have He:=zsp e;clear e;refine zai rfl rfl (fun K hK=> ?_);have HK2:=zsp hK;clear hK
     go_simp
     have e:=He.out;refine HK2.out _ _ ((HI.out _ _ _).2 ⟨{σ with b10:=true,s52:=_},rfl,rfl,{G with D13:=(fun h=>ff e (G.D13 h).1),Q10:=(fun _=>rfl)}⟩)
   . have e:σ.b11=false:=hl
     clear hl hlt hd;have He:=zsp e;clear e;refine zai rfl rfl (fun K hK=> ?_);have HK2:=zsp hK;clear hK
     go_simp
     have e:=He.out;refine HK2.out _ _ ((HI.out _ _ _).2 ⟨{σ with b11:=true,s53:=_},rfl,rfl,{G with D12:=(fun h=>ff e (G.D12 h)),Q11:=(fun _=>rfl)}⟩)
   . have e:σ.b12=false:=hl
     have hd:=hd _ rfl;clear hl hlt;simp[Region.binds]at hd;have t11:σ.b11=true:=(by simp[hd])
     clear hd;have er:=G.Q11 t11;have g1:W.cell? ⟨kf,1,none⟩=some (.int .i64 f.number):=G.ST.cell (p:=⟨kf,1,none⟩) nkf zf1;have He:=zsp e;clear e;refine zai rfl rfl (fun K hK=> ?_);have HK2:=zsp hK;clear hK
     go_simp
     have e:=He.out;refine HK2.out _ _ ((HI.out _ _ _).2 ⟨{σ with b12:=true,s54:=_,s53:=_},rfl,rfl,{G with D12:=(fun _=>t11),D13:=(fun h=>ff e (G.D13 h).2),Q11:=(fun _=>rfl),Q12:=(fun _=>rfl)}⟩)
   . have e:σ.b13=false:=hl
     have hd:=hd _ rfl;clear hl hlt;simp[Region.binds]at hd;have t10:σ.b10=true:=(by simp[hd])
     have t12:σ.b12=true:=(by simp[hd])
     clear hd;have f1:=G.Q10 t10;have f2:=G.Q12 t12
     have e20:σ.b20=false:=by
      rcases hs:σ.b20 with _|_
      . rfl
      . exact ff e (G.D20 hs).2.2.2.2.1
     have HX:=zsp (G.X e20)
     have lx:σ.b21=true->σ.kx<W.heap.size:=fun h=>(G.B0 h (by
      rcases hs:σ.b22 with _|_
      . rfl
      . exact ff e (G.D20 (G.D22 hs).1).2.2.2.2.1)).lt
     clear e20;have He:=zsp e;clear e;refine zai rfl rfl (fun K hK=> ?_);have HK2:=zsp hK;clear hK
     go_simp
     go_at_call 55
     refine(Hmb.out _ HX.out).mono ?_;rintro e1 W2 ⟨un,kn,rfl,p1,p2,p3,E2⟩
     (try dsimp only)
     (try simp only[Act.put,List.setIfInBounds_toArray,List.set_cons_zero,List.set_cons_succ])
     have ws:=HX.out.size;have e:=He.out;refine HK2.out _ _ ((HI.out _ _ _).2 ⟨{σ with b13:=true,s55:=_,s52:=_,s54:=_,vb:=un,ob:=kn},rfl,rfl,{G with D13:=(fun _=>⟨t10,t12⟩),D20:=(fun h=>ff e (G.D20 h).2.2.2.2.1),ST:=(G.ST.trans (Stays.of_ext E2)),X:=(fun _=>HX.out.trans E2),T5:=(fun h h2=>⟨(G.T5 h h2).1,(G.T5 h h2).2.1.up E2,(G.T5 h h2).2.2⟩),T9:=(fun h h2=>⟨(G.T9 h h2).1,(G.T9 h h2).2.1.up E2,(G.T9 h h2).2.2⟩),C15:=(fun h h2=>⟨(G.C15 h h2).1,(G.C15 h h2).2.up E2⟩),L18:=(fun h h2=>⟨(G.L18 h h2).1,(G.L18 h h2).2.up E2⟩),C19:=(fun h h2=>⟨(G.C19 h h2).1,(G.C19 h h2).2.up E2⟩),B0:=(fun h h2=>(G.B0 h h2).up E2),Q10:=(fun _=>rfl),Q12:=(fun _=>rfl),Y13:=(fun _=>rfl),T13:=(fun _ _=>⟨p1,p2,fun q hq=>Nat.le_trans ws (p3 q hq)⟩),K13:=(fun _ _ h q hq=>Nat.ne_of_gt (Nat.lt_of_lt_of_le (lx h) (p3 q hq))),N20:=(fun h=>ff e (G.D20 h).2.2.2.2.1),B1:=(fun h=>ff e (G.D20 (G.D22 h).1).2.2.2.2.1),UA13:=(fun _ h h2 q hq hc=>by have h3:=((G.C15 h h2).2.new_lt (b:=q) hc).2;have h4:=p3 q hq;omega)}⟩)
   . have e:σ.b14=false:=hl
     clear hl hlt hd;have He:=zsp e;clear e;refine zai rfl rfl (fun K hK=> ?_);have HK2:=zsp hK;clear hK
     go_simp
     have e:=He.out;refine HK2.out _ _ ((HI.out _ _ _).2 ⟨{σ with b14:=true,s56:=_},rfl,rfl,{G with D15:=(fun h=>ff e (G.D15 h)),Q14:=(fun _=>rfl)}⟩)
   . have e:σ.b15=false:=hl
     have hd:=hd _ rfl;clear hl hlt;simp[Region.binds]at hd;have t14:σ.b14=true:=(by simp[hd])
     clear hd;have f1:=G.Q14 t14
     have e20:σ.b20=false:=by
      rcases hs:σ.b20 with _|_
      . rfl
      . exact ff e (G.D19 (G.D20 hs).2.2.2.2.2).1
     have HX:=zsp (G.X e20);have HE:=zsp e20;clear e20;have He:=zsp e;clear e;refine zai rfl rfl (fun K hK=> ?_);have HK2:=zsp hK;clear hK
     go_simp
     go_at_call 56
     refine(clWay (hw.ext HX.out) (by omega)).mono ?_;rintro e1 W2 ⟨Ad,cd,rfl,od⟩
     (try dsimp only)
     (try simp only[Act.put,List.setIfInBounds_toArray,List.set_cons_zero,List.set_cons_succ])
     have e:=He.out;refine HK2.out _ _ ((HI.out _ _ _).2 ⟨{σ with b15:=true,s57:=_,s56:=_,AC:=Ad,cC:=cd},rfl,rfl,{G with D15:=(fun _=>t14),D19:=(fun h=>ff e (G.D19 h).1),ST:=(G.ST.trans (Stays.of_ext od.ext)),X:=(fun _=>HX.out.trans od.ext),T5:=(fun h h2=>⟨(G.T5 h h2).1,(G.T5 h h2).2.1.up od.ext,(G.T5 h h2).2.2⟩),T9:=(fun h h2=>⟨(G.T9 h h2).1,(G.T9 h h2).2.1.up od.ext,(G.T9 h h2).2.2⟩),T13:=(fun h h2=>⟨(G.T13 h h2).1,(G.T13 h h2).2.1.up od.ext,(G.T13 h h2).2.2⟩),L18:=(fun h h2=>⟨(G.L18 h h2).1,(G.L18 h h2).2.up od.ext⟩),C19:=(fun h=>ff e (G.D19 h).1),B0:=(fun h h2=>(G.B0 h h2).up od.ext),UA5:=(fun h _ _ q hq hc=>by have h1:=(G.T5 h HE.out).2.1.lt hq;have h2:=(od.new_lt (b:=q) hc).1;omega),UA9:=(fun h _ _ q hq hc=>by have h1:=(G.T9 h HE.out).2.1.lt hq;have h2:=(od.new_lt (b:=q) hc).1;omega),UA13:=(fun h _ _ q hq hc=>by have h1:=(G.T13 h HE.out).2.1.lt hq;have h2:=(od.new_lt (b:=q) hc).1;omega),Q14:=(fun _=>rfl),C15:=(fun _ _=>⟨rfl,od.since HX.out⟩),N20:=(fun h=>ff e (G.D19 (G.D20 h).2.2.2.2.2).1),B1:=(fun h=>ff e (G.D19 (G.D20 (G.D22 h).1).2.2.2.2.2).1)}⟩)
   . have e:σ.b16=false:=hl
     clear hl hlt hd;have He:=zsp e;clear e;refine zai rfl rfl (fun K hK=> ?_);have HK2:=zsp hK;clear hK
     go_simp
     have e:=He.out;refine HK2.out _ _ ((HI.out _ _ _).2 ⟨{σ with b16:=true,s58:=_},rfl,rfl,{G with D17:=(fun h=>ff e (G.D17 h)),Q16:=(fun _=>rfl)}⟩)
   . have e:σ.b17=false:=hl
     have hd:=hd _ rfl;clear hl hlt;simp[Region.binds]at hd;have t16:σ.b16=true:=(by simp[hd])
     clear hd;have er:=G.Q16 t16;have g1:W.cell? ⟨kf,1,none⟩=some (.int .i64 f.number):=G.ST.cell (p:=⟨kf,1,none⟩) nkf zf1;have He:=zsp e;clear e;refine zai rfl rfl (fun K hK=> ?_);have HK2:=zsp hK;clear hK
     go_simp
     have e:=He.out;refine HK2.out _ _ ((HI.out _ _ _).2 ⟨{σ with b17:=true,s59:=_,s58:=_},rfl,rfl,{G with D17:=(fun _=>t16),D18:=(fun h=>ff e (G.D18 h)),Q16:=(fun _=>rfl),Q17:=(fun _=>rfl)}⟩)
   . have e:σ.b18=false:=hl
     have hd:=hd _ rfl;clear hl hlt;simp[Region.binds]at hd;have t17:σ.b17=true:=(by simp[hd])
     clear hd;have f1:=G.Q17 t17
     have e20:σ.b20=false:=by
      rcases hs:σ.b20 with _|_
      . rfl
      . exact ff e (G.D19 (G.D20 hs).2.2.2.2.2).2
     have HX:=zsp (G.X e20);clear e20;have He:=zsp e;clear e;refine zai rfl rfl (fun K hK=> ?_);have HK2:=zsp hK;clear hK
     go_simp
     have e:=He.out;refine HK2.out _ _ ((HI.out _ _ _).2 ⟨{σ with b18:=true,s60:=_,s59:=_,kl:=W.heap.size},rfl,rfl,{G with D18:=(fun _=>t17),D19:=(fun h=>ff e (G.D19 h).2),ST:=(G.ST.trans (Stays.of_ext ((Ext.refl W).alloc _))),X:=(fun _=>HX.out.trans ((Ext.refl W).alloc _)),T5:=(fun h h2=>⟨(G.T5 h h2).1,(G.T5 h h2).2.1.up ((Ext.refl W).alloc _),(G.T5 h h2).2.2⟩),T9:=(fun h h2=>⟨(G.T9 h h2).1,(G.T9 h h2).2.1.up ((Ext.refl W).alloc _),(G.T9 h h2).2.2⟩),T13:=(fun h h2=>⟨(G.T13 h h2).1,(G.T13 h h2).2.1.up ((Ext.refl W).alloc _),(G.T13 h h2).2.2⟩),C15:=(fun h h2=>⟨(G.C15 h h2).1,(G.C15 h h2).2.up ((Ext.refl W).alloc _)⟩),C19:=(fun h=>ff e (G.D19 h).2),B0:=(fun h h2=>(G.B0 h h2).up ((Ext.refl W).alloc _)),Q17:=(fun _=>rfl),L18:=(fun _ _=>⟨rfl,BlkT.new W _ _ rfl⟩),N20:=(fun h=>ff e (G.D19 (G.D20 h).2.2.2.2.2).2),B1:=(fun h=>ff e (G.D19 (G.D20 (G.D22 h).1).2.2.2.2.2).2)}⟩)
   . have e:σ.b19=false:=hl
     have hd:=hd _ rfl;clear hl hlt;simp[Region.binds]at hd;have t15:σ.b15=true:=(by simp[hd])
     have t18:σ.b18=true:=(by simp[hd])
     clear hd;obtain⟨es,own⟩:=G.C15 t15 e;obtain⟨el,bl⟩:=G.L18 t18 e
     have e20:σ.b20=false:=by
      rcases hs:σ.b20 with _|_
      . rfl
      . exact ff e (G.D20 hs).2.2.2.2.2
     have Xw:=G.X e20;have rd:Reads W (some ⟨σ.kl,0,none⟩) 1 1 1 ([f.number].map zV):=⟨rfl,Nat.le_refl _,by unfold maxLen;omega,fun _=>⟨σ.kl,0,rfl,bl.lt,fun j u hj=>by rw[Nat.zero_add,bl.cell];simpa[zV] using hj⟩⟩
     refine wpOp_step rfl (fun K hK=> ?_);have HK2:=zsp hK;clear hK;refine zcc elemI (by rfl) (.tmp 57) (.tmp 60) (by rfl) es own el rd (zpU _) (by omega) (by unfold maxLen;omega) ?_;intro An cn W2 on gn mn;rw[<-List.map_append]at on;have st:Stays (fun q=>(Value.slice σ.AC 0 0).ownBlock≠some q) W W2:=Stays.grown gn (fun k hk q=>q (by rw[zak σ.AC 0 0 m σ.cC];exact hk))
     (try simp only[Act.put,List.setIfInBounds_toArray,List.set_cons_zero,List.set_cons_succ,Nat.zero_add])
     refine HK2.out _ _ ((HI.out _ _ _).2 ⟨{σ with b19:=true,s61:=_,AD:=An,cD:=cn},rfl,rfl,{G with D19:=(fun _=>⟨t15,t18⟩),D20:=(fun h=>ff e (G.D20 h).2.2.2.2.2),ST:=(Stays.of_ext on.ext),X:=(fun _=>on.ext),C15:=(fun _ h=>by cases h),L18:=(fun _ h=>by cases h),C19:=(fun _ _=>⟨rfl,on⟩),B0:=(fun h h2=>(G.B0 h h2).beside own (by decide) gn),N20:=(fun h=>ff e (G.D20 h).2.2.2.2.2),B1:=(fun h=>ff e (G.D20 (G.D22 h).1).2.2.2.2.2),T5:=(fun h h2=>⟨(G.T5 h h2).1,(G.T5 h h2).2.1.stays (s:=fun q=>(Value.slice σ.AC 0 0).ownBlock≠some q) st (G.UA5 h t15 e),(G.T5 h h2).2.2⟩),UA5:=(fun _ _ h=>by cases h),T9:=(fun h h2=>⟨(G.T9 h h2).1,(G.T9 h h2).2.1.stays (s:=fun q=>(Value.slice σ.AC 0 0).ownBlock≠some q) st (G.UA9 h t15 e),(G.T9 h h2).2.2⟩),UA9:=(fun _ _ h=>by cases h),T13:=(fun h h2=>⟨(G.T13 h h2).1,(G.T13 h h2).2.1.stays (s:=fun q=>(Value.slice σ.AC 0 0).ownBlock≠some q) st (G.UA13 h t15 e),(G.T13 h h2).2.2⟩),UA13:=(fun _ _ h=>by cases h)}⟩)
   . have e:σ.b20=false:=hl
     have hd:=hd _ rfl;clear hl hlt;simp[Region.binds]at hd;have t0:σ.b0=true:=(by simp[hd])
     have t1:σ.b1=true:=(by simp[hd])
     have t5:σ.b5=true:=(by simp[hd])
     have t9:σ.b9=true:=(by simp[hd])
     have t13:σ.b13=true:=(by simp[hd])
     have t19:σ.b19=true:=(by simp[hd])
     clear hd;have f0:=G.Q0 t0;have f1:=G.Q1 t1;have f5:=G.Y5 t5;have f9:=G.Y9 t9;have f13:=G.Y13 t13;obtain⟨f19,own⟩:=G.C19 t19 e;have HX:=zsp (G.X e);have H5:=zsp (G.T5 t5 e);have H9:=zsp (G.T9 t9 e);have H13:=zsp (G.T13 t13 e);have HW:=zsp own.reads;have HU:=zsp (fun(q:Nat)(hq:UsesA σ.AD (m+1) q)=>own.uses_new hq)
     have lx:σ.b21=true->σ.kx<W.heap.size:=fun h=>(G.B0 h (by
      rcases hs:σ.b22 with _|_
      . rfl
      . exact ff e (G.D22 hs).1)).lt
     clear own;have He:=zsp e;clear e;refine zai rfl rfl (fun K hK=> ?_);have HK2:=zsp hK;clear hK
     go_simp
     go_at_call 54
     refine(Hf.out _ _ _ _ _ _ _ _ _ HX.out H5.out.1 H9.out.1 H13.out.1 H5.out.2.1 H9.out.2.1 H13.out.2.1 H5.out.2.2 H9.out.2.2 H13.out.2.2 HW.out HU.out).mono ?_;rintro e1 W2 ⟨un,kn,rfl,p1,p2,V9,A9,n9,c9,l9,K9,L9,S9,N9,U9⟩
     (try dsimp only)
     (try simp only[Act.put,List.setIfInBounds_toArray,List.set_cons_zero,List.set_cons_succ])
     have xs:=HX.out.size;have e:=He.out;refine HK2.out _ _ ((HI.out _ _ _).2 ⟨{σ with b20:=true,s62:=_,s42:=_,s43:=_,s47:=_,s51:=_,s55:=_,s61:=_,u:=un,ok:=kn,A2:=A9,n2:=n9,c2:=c9,l2:=l9},rfl,rfl,{G with D20:=(fun _=>⟨t0,t1,t5,t9,t13,t19⟩),D22:=(fun h=>ff e (G.D22 h).1),Q0:=(fun _=>rfl),Q1:=(fun _=>rfl),Y5:=(fun _=>rfl),Y9:=(fun _=>rfl),Y13:=(fun _=>rfl),ST:=(G.ST.trans S9),X:=(fun h=>by cases h),C15:=(fun _ h=>ff h t19),L18:=(fun _ h=>ff h t19),C19:=(fun _ h=>by cases h),M20:=(fun _=>rfl),N20:=(fun _=>⟨K9,L9,fun b hb=>(N9 b hb).imp id (fun q=>Nat.le_trans xs q),U9,fun q hq=>(V9 q hq).elim (H9.out.2.2 q) (fun h=>h.elim (H13.out.2.2 q) (fun h=>Nat.le_trans xs h)),p1,p2⟩),B0:=(fun h h2=>(G.B0 h h2).stays S9 (hap _ (G.N21 h).2)),B1:=(fun h=>ff e (G.D22 h).1),UK:=(fun _ h=>⟨fun q=>(N9 _ q).elim (hap _ (G.N21 h).2) (fun q=>absurd q (Nat.not_le_of_lt (lx h))),fun q hq=>(V9 q hq).elim (fun h2=>G.K9 t9 He.out h q h2) (fun h2=>h2.elim (fun h2=>G.K13 t13 He.out h q h2) (fun h2=>Nat.ne_of_gt (Nat.lt_of_lt_of_le (lx h) h2)))⟩),T5:=(fun _ h=>by cases h),K5:=(fun _ h=>by cases h),UA5:=(fun _ _ h=>ff h t19),T9:=(fun _ h=>by cases h),K9:=(fun _ h=>by cases h),UA9:=(fun _ _ h=>ff h t19),T13:=(fun _ h=>by cases h),K13:=(fun _ h=>by cases h),UA13:=(fun _ _ h=>ff h t19)}⟩)
   . have e:σ.b21=false:=hl
     clear hl hlt hd;have ws:=G.ST.size;have He:=zsp e;clear e;refine zai rfl rfl (fun K hK=> ?_);have HK2:=zsp hK;clear hK
     go_simp
     have e:=He.out;refine HK2.out _ _ ((HI.out _ _ _).2 ⟨{σ with b21:=true,s17:=_,kx:=W.heap.size},rfl,rfl,{G with D22:=(fun h=>ff e (G.D22 h).2),ST:=(G.ST.trans (Stays.of_ext ((Ext.refl W).alloc _))),X:=(fun h=>(G.X h).alloc _),N21:=(fun _=>⟨rfl,ws⟩),B0:=(fun _ _=>BlkT.new W _ _ rfl),B1:=(fun h=>ff e (G.D22 h).2),N20:=(fun h=>⟨(G.N20 h).1.up ((Ext.refl W).alloc _),(G.N20 h).2.1,(G.N20 h).2.2.1,(G.N20 h).2.2.2.1,(G.N20 h).2.2.2.2.1,(G.N20 h).2.2.2.2.2.1,(G.N20 h).2.2.2.2.2.2.up ((Ext.refl W).alloc _)⟩),UK:=(fun h _=>⟨(G.N20 h).1.apart (Nat.le_refl _),fun q hq=>Nat.ne_of_lt ((G.N20 h).2.2.2.2.2.2.lt hq)⟩),T5:=(fun h h2=>⟨(G.T5 h h2).1,(G.T5 h h2).2.1.up ((Ext.refl W).alloc _),(G.T5 h h2).2.2⟩),T9:=(fun h h2=>⟨(G.T9 h h2).1,(G.T9 h h2).2.1.up ((Ext.refl W).alloc _),(G.T9 h h2).2.2⟩),T13:=(fun h h2=>⟨(G.T13 h h2).1,(G.T13 h h2).2.1.up ((Ext.refl W).alloc _),(G.T13 h h2).2.2⟩),C15:=(fun h h2=>⟨(G.C15 h h2).1,(G.C15 h h2).2.up ((Ext.refl W).alloc _)⟩),L18:=(fun h h2=>⟨(G.L18 h h2).1,(G.L18 h h2).2.up ((Ext.refl W).alloc _)⟩),C19:=(fun h h2=>⟨(G.C19 h h2).1,(G.C19 h h2).2.up ((Ext.refl W).alloc _)⟩),K5:=(fun h h2 _ q hq=>Nat.ne_of_lt ((G.T5 h h2).2.1.lt hq)),K9:=(fun h h2 _ q hq=>Nat.ne_of_lt ((G.T9 h h2).2.1.lt hq)),K13:=(fun h h2 _ q hq=>Nat.ne_of_lt ((G.T13 h h2).2.1.lt hq))}⟩)
   . have e:σ.b22=false:=hl
     have hd:=hd _ rfl;clear hl hlt;simp[Region.binds]at hd;have t20:σ.b20=true:=(by simp[hd])
     have t21:σ.b21=true:=(by simp[hd])
     have t19:σ.b19=true:=(G.D20 t20).2.2.2.2.2;clear hd;have f20:=G.M20 t20;obtain⟨f21,lk⟩:=G.N21 t21;have HN:=zsp (G.N20 t20);have HR:=zsp (G.B0 t21 e);have HU:=zsp (G.UK t20 t21);have hkx:w0.heap.size<=σ.kx:=Nat.le_trans hw0 lk;have g0:W.cell? ⟨σ.kx,0,none⟩=some (.int .i64 0):=HR.out.cell 0;have h0:=HR.out.free 0;have g1:W.cell? ⟨σ.kx,1,none⟩=some (.slice none 0 0):=HR.out.cell 1;have h1:=HR.out.free 1;have g2:W.cell? ⟨σ.kx,2,none⟩=some (.slice none 0 0):=HR.out.cell 2;have h2:=HR.out.free 2;have g3:W.cell? ⟨σ.kx,3,none⟩=some (.slice none 0 0):=HR.out.cell 3;have h3:=HR.out.free 3;have g4:W.cell? ⟨σ.kx,4,none⟩=some (.bool false):=HR.out.cell 4;have h4:=HR.out.free 4;have lb:=HR.out.lt;have He:=zsp e;clear e;refine zai rfl rfl (fun K hK=> ?_);have HK2:=zsp hK;clear hK
     go_simp
     have e:=He.out;refine HK2.out _ _ ((HI.out _ _ _).2 ⟨{σ with b22:=true,s62:=_,s17:=_},rfl,rfl,{G with D22:=(fun _=>⟨t20,t21⟩),M20:=(fun _=>rfl),ST:=((((((G.ST.set_new (p:=⟨σ.kx,0,none⟩) lk (.int .i64 σ.u.number)).set_new (p:=⟨σ.kx,1,none⟩) lk (.slice σ.u.a.1 σ.u.words.length σ.u.a.2)).set_new (p:=⟨σ.kx,2,none⟩) lk (.slice σ.u.b.1 σ.u.texts.length σ.u.b.2)).set_new (p:=⟨σ.kx,3,none⟩) lk (.slice σ.u.c.1 σ.u.subs.length σ.u.c.2)).set_new (p:=⟨σ.kx,4,none⟩) lk (.bool σ.ok))),X:=(fun h=>ff h t20),C15:=(fun _ h=>ff h t19),L18:=(fun _ h=>ff h t19),C19:=(fun _ h=>ff h t20),N21:=(fun _=>⟨rfl,lk⟩),B0:=(fun _ h=>by cases h),B1:=(fun _=>(((((HR.out.set_ 0 (.int .i64 σ.u.number)).set_ 1 (.slice σ.u.a.1 σ.u.words.length σ.u.a.2)).set_ 2 (.slice σ.u.b.1 σ.u.texts.length σ.u.b.2)).set_ 3 (.slice σ.u.c.1 σ.u.subs.length σ.u.c.2)).set_ 4 (.bool σ.ok))),N20:=(fun _=>⟨(((((HN.out.1.far HR.out (by decide) hkx (HU.out.1) 0 (.int .i64 σ.u.number)).far (HR.out.set_ 0 (.int .i64 σ.u.number)) (by decide) hkx (HU.out.1) 1 (.slice σ.u.a.1 σ.u.words.length σ.u.a.2)).far ((HR.out.set_ 0 (.int .i64 σ.u.number)).set_ 1 (.slice σ.u.a.1 σ.u.words.length σ.u.a.2)) (by decide) hkx (HU.out.1) 2 (.slice σ.u.b.1 σ.u.texts.length σ.u.b.2)).far (((HR.out.set_ 0 (.int .i64 σ.u.number)).set_ 1 (.slice σ.u.a.1 σ.u.words.length σ.u.a.2)).set_ 2 (.slice σ.u.b.1 σ.u.texts.length σ.u.b.2)) (by decide) hkx (HU.out.1) 3 (.slice σ.u.c.1 σ.u.subs.length σ.u.c.2)).far ((((HR.out.set_ 0 (.int .i64 σ.u.number)).set_ 1 (.slice σ.u.a.1 σ.u.words.length σ.u.a.2)).set_ 2 (.slice σ.u.b.1 σ.u.texts.length σ.u.b.2)).set_ 3 (.slice σ.u.c.1 σ.u.subs.length σ.u.c.2)) (by decide) hkx (HU.out.1) 4 (.bool σ.ok)),HN.out.2.1,HN.out.2.2.1,HN.out.2.2.2.1,HN.out.2.2.2.2.1,HN.out.2.2.2.2.2.1,HN.out.2.2.2.2.2.2.stays ((((((Stays.refl (fun q=>q≠σ.kx) W).set (p:=⟨σ.kx,0,none⟩) (fun q=>q rfl) (.int .i64 σ.u.number)).set (p:=⟨σ.kx,1,none⟩) (fun q=>q rfl) (.slice σ.u.a.1 σ.u.words.length σ.u.a.2)).set (p:=⟨σ.kx,2,none⟩) (fun q=>q rfl) (.slice σ.u.b.1 σ.u.texts.length σ.u.b.2)).set (p:=⟨σ.kx,3,none⟩) (fun q=>q rfl) (.slice σ.u.c.1 σ.u.subs.length σ.u.c.2)).set (p:=⟨σ.kx,4,none⟩) (fun q=>q rfl) (.bool σ.ok)) HU.out.2⟩),T5:=(fun _ h=>ff h t20),T9:=(fun _ h=>ff h t20),T13:=(fun _ h=>ff h t20)}⟩)
 . obtain⟨σ,rfl,rfl,G⟩:=(HI.out _ _ _).1 hi
   clear hi;have t0:σ.b0=true:=zae hr (i:=0) rfl (by simp[Region.binds]) (show 0<23 by decide);have t1:σ.b1=true:=zae hr (i:=1) rfl (by simp[Region.binds,t0]) (show 1<23 by decide);have t2:σ.b2=true:=zae hr (i:=2) rfl (by simp[Region.binds,t0,t1]) (show 2<23 by decide);have t3:σ.b3=true:=zae hr (i:=3) rfl (by simp[Region.binds,t0,t1,t2]) (show 3<23 by decide);have t4:σ.b4=true:=zae hr (i:=4) rfl (by simp[Region.binds,t0,t1,t2,t3]) (show 4<23 by decide);have t5:σ.b5=true:=zae hr (i:=5) rfl (by simp[Region.binds,t0,t1,t2,t3,t4]) (show 5<23 by decide);have t6:σ.b6=true:=zae hr (i:=6) rfl (by simp[Region.binds,t0,t1,t2,t3,t4,t5]) (show 6<23 by decide);have t7:σ.b7=true:=zae hr (i:=7) rfl (by simp[Region.binds,t0,t1,t2,t3,t4,t5,t6]) (show 7<23 by decide);have t8:σ.b8=true:=zae hr (i:=8) rfl (by simp[Region.binds,t0,t1,t2,t3,t4,t5,t6,t7]) (show 8<23 by decide);have t9:σ.b9=true:=zae hr (i:=9) rfl (by simp[Region.binds,t0,t1,t2,t3,t4,t5,t6,t7,t8]) (show 9<23 by decide);have t10:σ.b10=true:=zae hr (i:=10) rfl (by simp[Region.binds,t0,t1,t2,t3,t4,t5,t6,t7,t8,t9]) (show 10<23 by decide);have t11:σ.b11=true:=zae hr (i:=11) rfl (by simp[Region.binds,t0,t1,t2,t3,t4,t5,t6,t7,t8,t9,t10]) (show 11<23 by decide);have t12:σ.b12=true:=zae hr (i:=12) rfl (by simp[Region.binds,t0,t1,t2,t3,t4,t5,t6,t7,t8,t9,t10,t11]) (show 12<23 by decide);have t13:σ.b13=true:=zae hr (i:=13) rfl (by simp[Region.binds,t0,t1,t2,t3,t4,t5,t6,t7,t8,t9,t10,t11,t12]) (show 13<23 by decide);have t14:σ.b14=true:=zae hr (i:=14) rfl (by simp[Region.binds,t0,t1,t2,t3,t4,t5,t6,t7,t8,t9,t10,t11,t12,t13]) (show 14<23 by decide);have t15:σ.b15=true:=zae hr (i:=15) rfl (by simp[Region.binds,t0,t1,t2,t3,t4,t5,t6,t7,t8,t9,t10,t11,t12,t13,t14]) (show 15<23 by decide);have t16:σ.b16=true:=zae hr (i:=16) rfl (by simp[Region.binds,t0,t1,t2,t3,t4,t5,t6,t7,t8,t9,t10,t11,t12,t13,t14,t15]) (show 16<23 by decide);have t17:σ.b17=true:=zae hr (i:=17) rfl (by simp[Region.binds,t0,t1,t2,t3,t4,t5,t6,t7,t8,t9,t10,t11,t12,t13,t14,t15,t16]) (show 17<23 by decide);have t18:σ.b18=true:=zae hr (i:=18) rfl (by simp[Region.binds,t0,t1,t2,t3,t4,t5,t6,t7,t8,t9,t10,t11,t12,t13,t14,t15,t16,t17]) (show 18<23 by decide);have t19:σ.b19=true:=zae hr (i:=19) rfl (by simp[Region.binds,t0,t1,t2,t3,t4,t5,t6,t7,t8,t9,t10,t11,t12,t13,t14,t15,t16,t17,t18]) (show 19<23 by decide);have t20:σ.b20=true:=zae hr (i:=20) rfl (by simp[Region.binds,t0,t1,t2,t3,t4,t5,t6,t7,t8,t9,t10,t11,t12,t13,t14,t15,t16,t17,t18,t19]) (show 20<23 by decide);have t21:σ.b21=true:=zae hr (i:=21) rfl (by simp[Region.binds,t0,t1,t2,t3,t4,t5,t6,t7,t8,t9,t10,t11,t12,t13,t14,t15,t16,t17,t18,t19,t20]) (show 21<23 by decide);have t22:σ.b22=true:=zae hr (i:=22) rfl (by simp[Region.binds,t0,t1,t2,t3,t4,t5,t6,t7,t8,t9,t10,t11,t12,t13,t14,t15,t16,t17,t18,t19,t20,t21]) (show 22<23 by decide);obtain⟨p1,p2,p3,p4,p5,p6,p7⟩:=G.N20 t20;exact HK.out _ _ _ _ _ _ _ _ _ _ _ _ _ _ _ _ _ _ _ _ _ _ σ.u σ.ok σ.A2 σ.n2 σ.c2 σ.l2 σ.kx W G.ST (G.N21 t21).1 (G.N21 t21).2 (G.B1 t22) (G.UK t20 t21).1 p1 p2 p3 p4 p5 p6 p7
 . refine(HI.out _ _ _).2 ⟨⟨false,false,false,false,false,false,false,false,false,false,false,false,false,false,false,false,false,false,false,false,false,false,false,_,_,_,_,_,_,_,_,_,_,_,_,_,_,_,_,_,_,_,_,_,_,noneV,noneV,noneV,noneV,false,false,false,false,none,0,none,0,0,0,none,0,0,[]⟩,rfl,rfl,?_⟩
   constructor
   all_goals (try dsimp only)
   all_goals first|exact(Stays.refl _ w).drew|exact fun _=>(Ext.refl w).drew|(intro h;cases h;done)
end Go.Proofs.YtlhbllaojjelcaaGreat
