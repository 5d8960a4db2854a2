/- Contracts of layer 26: three messages' bytes. (Printed by gen_w63.py.) -/
import Derived.Test.YtlhbllaojjelcaaGreatQhW22

set_option linter.unusedVariables false
set_option linter.unusedSimpArgs false
set_option maxRecDepth 100000
set_option maxHeartbeats 4000000
namespace Go.Proofs.YtlhbllaojjelcaaGreat
open Go.RowKit Go.Shelf Go.Proofs.Tryz
noncomputable def regMD(n:Nat):Code:=((Tryz.f39.body.bind (zcb n)).getD .skip)
structure zmq where
 (b0 b1 b2 b3 b4 b5 b6 b7 b8 b9 b10 b11 b12 b13 b14 b15 b16 b17 b18 b19:Bool)
 (s16 s17 s18 s42 s43 s44 s45 s46 s47 s48 s49 s50 s51 s52 s53 s54 s55 s56 s57:Value)
 (y:MsgR)
 (AR:Option Addr)
 (nR:Nat)
 (cR:Nat)
 (lR:List WRow)
 (ky:Nat)
structure zpH(w:World)(SA:Option Addr)(sn sc:Nat)(root:Int)(b0 o0 mc:Nat)(x0 x1 x2:MsgR)(R:MsgT×List Way)(σ:zmq)(W:World):Prop where
 X:Ext w W
 Q0:σ.b0=true->σ.s43=.slice SA sn sc
 Q1:σ.b1=true->σ.s44=.int .i64 root
 Q2:σ.b2=true->σ.s45=.slice (some ⟨b0,o0,none⟩) 3 mc
 Q3:σ.b3=true->σ.s46=.pointer (some ⟨b0,o0,none⟩)
 Q4:σ.b4=true->σ.s47=.agg #[.slice x0.a.1 x0.vals.length x0.a.2,.slice x0.b.1 x0.unk.length x0.b.2]
 Q5:σ.b5=true->σ.s48=.slice (some ⟨b0,o0,none⟩) 3 mc
 Q6:σ.b6=true->σ.s49=.pointer (some ⟨b0,o0+2,none⟩)
 Q7:σ.b7=true->σ.s50=.agg #[.slice x1.a.1 x1.vals.length x1.a.2,.slice x1.b.1 x1.unk.length x1.b.2]
 Q8:σ.b8=true->σ.s51=.slice (some ⟨b0,o0,none⟩) 3 mc
 Q9:σ.b9=true->σ.s52=.pointer (some ⟨b0,o0+4,none⟩)
 Q10:σ.b10=true->σ.s53=.agg #[.slice x2.a.1 x2.vals.length x2.a.2,.slice x2.b.1 x2.unk.length x2.b.2]
 C11:σ.b11=true->σ.s54=.tuple #[.agg #[.slice σ.y.a.1 σ.y.vals.length σ.y.a.2,.slice σ.y.b.1 σ.y.unk.length σ.y.b.2],.slice σ.AR σ.nR σ.cR,.int .u8 0]
 T11:σ.b11=true->bare σ.y=R.1/\zah W σ.y/\(∀q,UsesT σ.y q->w.heap.size<=q)/\zbA W σ.AR σ.nR σ.cR σ.lR/\σ.lR.map (·.way)=R.2
 Q12:σ.b12=true->σ.s42=.tuple #[.agg #[.slice σ.y.a.1 σ.y.vals.length σ.y.a.2,.slice σ.y.b.1 σ.y.unk.length σ.y.b.2],.slice σ.AR σ.nR σ.cR,.int .u8 0]
 Q13:σ.b13=true->σ.s55=.agg #[.slice σ.y.a.1 σ.y.vals.length σ.y.a.2,.slice σ.y.b.1 σ.y.unk.length σ.y.b.2]
 Q14:σ.b14=true->σ.s56=.slice σ.AR σ.nR σ.cR
 Q15:σ.b15=true->σ.s57=.int .u8 0
 A16:σ.b16=true->σ.s16=.pointer (some ⟨σ.ky,0,none⟩)/\w.heap.size<=σ.ky/\σ.ky<W.heap.size
 Z16:σ.b16=true->σ.b17=false->BlkT W σ.ky 27 #[.slice none 0 0,.slice none 0 0]
 B17:σ.b17=true->BlkT W σ.ky 27 #[.slice σ.y.a.1 σ.y.vals.length σ.y.a.2,.slice σ.y.b.1 σ.y.unk.length σ.y.b.2]
 U:σ.b11=true->σ.b16=true->(∀q,UsesT σ.y q->q≠σ.ky)/\∀q,WUses σ.AR σ.nR σ.lR q->q≠σ.ky
 UW:σ.b11=true->∀q,WUses σ.AR σ.nR σ.lR q->w.heap.size<=q
 A18:σ.b18=true->σ.s17=.slice σ.AR σ.nR σ.cR
 A19:σ.b19=true->σ.s18=.int .u8 0
 D3:σ.b3=true->σ.b2=true
 D4:σ.b4=true->σ.b3=true
 D6:σ.b6=true->σ.b5=true
 D7:σ.b7=true->σ.b6=true
 D9:σ.b9=true->σ.b8=true
 D10:σ.b10=true->σ.b9=true
 D11:σ.b11=true->σ.b0=true/\σ.b1=true/\σ.b4=true/\σ.b7=true/\σ.b10=true
 D12:σ.b12=true->σ.b11=true
 D13:σ.b13=true->σ.b12=true
 D14:σ.b14=true->σ.b12=true
 D15:σ.b15=true->σ.b12=true
 D17:σ.b17=true->σ.b16=true/\σ.b13=true
 D18:σ.b18=true->σ.b14=true
 D19:σ.b19=true->σ.b15=true
variable{root:Int}{w:World}
theorem zrj{Q0:Exit->Act->World->Prop}{u2 u3 u4 u5 u6 u7 u8 u9 u10 u12 u13 u14 u15 u16 u17 u18 u19 u20 u21 u22 u23 u24 u25 u26 u27 u28 u29 u30 u31 u32 u33 u34 u35 u36 u37 u38 u39 u40 u41 u42 u43 u44 u45 u46 u47 u48 u49 u50 u51 u52 u53 u54 u55 u56 u57 u58 u59 u60 u61 u62 u63 u64 u65 u66 u67 u68 u69 u70:Value}{SA:Option Addr}{sn sc:Nat}{b0 o0 mc:Nat}{x0 x1 x2:MsgR}{R:MsgT×List Way}(z00:w.cell? ⟨b0,o0,none⟩=some (.slice x0.a.1 x0.vals.length x0.a.2))(z01:w.cell? ⟨b0,o0+1,none⟩=some (.slice x0.b.1 x0.unk.length x0.b.2))(z10:w.cell? ⟨b0,o0+2,none⟩=some (.slice x1.a.1 x1.vals.length x1.a.2))(z11:w.cell? ⟨b0,o0+3,none⟩=some (.slice x1.b.1 x1.unk.length x1.b.2))(z20:w.cell? ⟨b0,o0+4,none⟩=some (.slice x2.a.1 x2.vals.length x2.a.2))(z21:w.cell? ⟨b0,o0+5,none⟩=some (.slice x2.b.1 x2.unk.length x2.b.2))(hmc:3<=mc)(HO:Hid (∀W,Ext w W->Calls prog 9 #[.slice SA sn sc,.int .i64 root,.agg #[.slice x0.a.1 x0.vals.length x0.a.2,.slice x0.b.1 x0.unk.length x0.b.2],.agg #[.slice x1.a.1 x1.vals.length x1.a.2,.slice x1.b.1 x1.unk.length x1.b.2],.agg #[.slice x2.a.1 x2.vals.length x2.a.2,.slice x2.b.1 x2.unk.length x2.b.2]] W fun e W'=>∃(y:MsgR)(A':Option Addr)(n' c':Nat)(l':List WRow),e=.returned (.tuple #[.agg #[.slice y.a.1 y.vals.length y.a.2,.slice y.b.1 y.unk.length y.b.2],.slice A' n' c',.int .u8 0])/\bare y=R.1/\zah W' y/\(∀q,UsesT y q->W.heap.size<=q)/\zbA W' A' n' c' l'/\l'.map (·.way)=R.2/\(∀q,WUses A' n' l' q->W.heap.size<=q)/\Ext W W'))(hK:∀(s16 s17 s18 s42 s43 s44 s45 s46 s47 s48 s49 s50 s51 s52 s53 s54 s55 s56 s57:Value)(y:MsgR)(AR:Option Addr)(nR cR:Nat)(lR:List WRow)(ky:Nat)(wz:World),Ext w wz->s16=.pointer (some ⟨ky,0,none⟩)->BlkT wz ky 27 #[.slice y.a.1 y.vals.length y.a.2,.slice y.b.1 y.unk.length y.b.2]->s17=.slice AR nR cR->s18=.int .u8 0->(bare y=R.1)->(zah wz y)->((∀q,UsesT y q->w.heap.size<=q))->(zbA wz AR nR cR lR)->(lR.map (·.way)=R.2)->Q0 .normal ⟨#[.slice SA sn sc,.int .i64 root,u2,u3,u4,u5,u6,u7,u8,u9,u10,.slice (some ⟨b0,o0,none⟩) 3 mc,u12,u13,u14,u15,s16,s17,s18,u19,u20,u21,u22,u23,u24,u25,u26,u27,u28,u29,u30,u31,u32,u33,u34,u35,u36,u37,u38,u39,u40,u41,s42,s43,s44,s45,s46,s47,s48,s49,s50,s51,s52,s53,s54,s55,s56,s57,u58,u59,u60,u61,u62,u63,u64,u65,u66,u67,u68,u69,u70],[]⟩ wz):
 Code.wp prog (regMD 10) (calmQ Q0) ⟨#[.slice SA sn sc,.int .i64 root,u2,u3,u4,u5,u6,u7,u8,u9,u10,.slice (some ⟨b0,o0,none⟩) 3 mc,u12,u13,u14,u15,u16,u17,u18,u19,u20,u21,u22,u23,u24,u25,u26,u27,u28,u29,u30,u31,u32,u33,u34,u35,u36,u37,u38,u39,u40,u41,u42,u43,u44,u45,u46,u47,u48,u49,u50,u51,u52,u53,u54,u55,u56,u57,u58,u59,u60,u61,u62,u63,u64,u65,u66,u67,u68,u69,u70],[]⟩ w:=by
 have HK:=zsp hK;clear hK
 conv=>arg 2;whnf
 obtain⟨I,hI⟩:∃I:Array Bool->Act->World->Prop,∀l a W,I l a W<->(∃σ:zmq,l=#[σ.b0,σ.b1,σ.b2,σ.b3,σ.b4,σ.b5,σ.b6,σ.b7,σ.b8,σ.b9,σ.b10,σ.b11,σ.b12,σ.b13,σ.b14,σ.b15,σ.b16,σ.b17,σ.b18,σ.b19]/\a=⟨#[.slice SA sn sc,.int .i64 root,u2,u3,u4,u5,u6,u7,u8,u9,u10,.slice (some ⟨b0,o0,none⟩) 3 mc,u12,u13,u14,u15,σ.s16,σ.s17,σ.s18,u19,u20,u21,u22,u23,u24,u25,u26,u27,u28,u29,u30,u31,u32,u33,u34,u35,u36,u37,u38,u39,u40,u41,σ.s42,σ.s43,σ.s44,σ.s45,σ.s46,σ.s47,σ.s48,σ.s49,σ.s50,σ.s51,σ.s52,σ.s53,σ.s54,σ.s55,σ.s56,σ.s57,u58,u59,u60,u61,u62,u63,u64,u65,u66,u67,u68,u69,u70],[]⟩/\zpH w SA sn sc root b0 o0 mc x0 x1 x2 R σ W):=⟨_,fun _ _ _=>Iff.rfl⟩
 have HI:=zsp hI;clear hI;refine zcQ (I:=I) (by kernel_rfl) (fun i l a W hi hr=> ?_) (fun l a W hi hr=> ?_) ?_
 . obtain⟨σ,rfl,rfl,G⟩:=(HI.out _ _ _).1 hi
   clear hi;obtain⟨hlt,hl,hd⟩:=zcW hr;clear hr;have hlt:i<20:=hlt;rcases(show i=0\/i=1\/i=2\/i=3\/i=4\/i=5\/i=6\/i=7\/i=8\/i=9\/i=10\/i=11\/i=12\/i=13\/i=14\/i=15\/i=16\/i=17\/i=18\/i=19 by omega)with rfl|rfl|rfl|rfl|rfl|rfl|rfl|rfl|rfl|rfl|rfl|rfl|rfl|rfl|rfl|rfl|rfl|rfl|rfl|rfl
   . have e:σ.b0=false:=hl
     clear hl hlt hd;have He:=zsp e;clear e;refine zai rfl rfl (fun K hK=> ?_);have HK2:=zsp hK;clear hK
     go_simp
     have e:=He.out;refine HK2.out _ _ ((HI.out _ _ _).2 ⟨{σ with b0:=true,s43:=_},rfl,rfl,{G with D11:=(fun h=>ff e (G.D11 h).1),Q0:=(fun _=>rfl)}⟩)
   . have e:σ.b1=false:=hl
     clear hl hlt hd;have He:=zsp e;clear e;refine zai rfl rfl (fun K hK=> ?_);have HK2:=zsp hK;clear hK
     go_simp
     have e:=He.out;refine HK2.out _ _ ((HI.out _ _ _).2 ⟨{σ with b1:=true,s44:=_},rfl,rfl,{G with D11:=(fun h=>ff e (G.D11 h).2.1),Q1:=(fun _=>rfl)}⟩)
   . have e:σ.b2=false:=hl
     clear hl hlt hd;have He:=zsp e;clear e;refine zai rfl rfl (fun K hK=> ?_);have HK2:=zsp hK;clear hK
     go_simp
     have e:=He.out;refine HK2.out _ _ ((HI.out _ _ _).2 ⟨{σ with b2:=true,s45:=_},rfl,rfl,{G with D3:=(fun h=>ff e (G.D3 h)),Q2:=(fun _=>rfl)}⟩)
   . have e:σ.b3=false:=hl
     have hd:=hd _ rfl;clear hl hlt;simp[Region.binds]at hd;have t2:σ.b2=true:=(by simp[hd])
     clear hd;have er:=G.Q2 t2;have He:=zsp e;clear e;refine zai rfl rfl (fun K hK=> ?_);have HK2:=zsp hK;clear hK
     go_simp
     have e:=He.out;refine HK2.out _ _ ((HI.out _ _ _).2 ⟨{σ with b3:=true,s46:=_,s45:=_},rfl,rfl,{G with D3:=(fun _=>t2),D4:=(fun h=>ff e (G.D4 h)),Q2:=(fun _=>rfl),Q3:=(fun _=>rfl)}⟩)
   . have e:σ.b4=false:=hl
     have hd:=hd _ rfl;clear hl hlt;simp[Region.binds]at hd;have t3:σ.b3=true:=(by simp[hd])
     clear hd;have er:=G.Q3 t3;have g0:W.cell? ⟨b0,o0,none⟩=some (.slice x0.a.1 x0.vals.length x0.a.2):=G.X.of_cell z00;have g1:W.cell? ⟨b0,o0+1,none⟩=some (.slice x0.b.1 x0.unk.length x0.b.2):=G.X.of_cell z01;have He:=zsp e;clear e;refine zai rfl rfl (fun K hK=> ?_);have HK2:=zsp hK;clear hK
     go_simp
     have e:=He.out;refine HK2.out _ _ ((HI.out _ _ _).2 ⟨{σ with b4:=true,s47:=_,s46:=_},rfl,rfl,{G with D4:=(fun _=>t3),D11:=(fun h=>ff e (G.D11 h).2.2.1),Q3:=(fun _=>rfl),Q4:=(fun _=>rfl)}⟩)
   . have e:σ.b5=false:=hl
     clear hl hlt hd;have He:=zsp e;clear e;refine zai rfl rfl (fun K hK=> ?_);have HK2:=zsp hK;clear hK
     go_simp
     have e:=He.out;refine HK2.out _ _ ((HI.out _ _ _).2 ⟨{σ with b5:=true,s48:=_},rfl,rfl,{G with D6:=(fun h=>ff e (G.D6 h)),Q5:=(fun _=>rfl)}⟩)
   . have e:σ.b6=false:=hl
     have hd:=hd _ rfl;clear hl hlt;simp[Region.binds]at hd;have t5:σ.b5=true:=(by simp[hd])
     clear hd;have er:=G.Q5 t5;have He:=zsp e;clear e;refine zai rfl rfl (fun K hK=> ?_);have HK2:=zsp hK;clear hK
     go_simp
     have e:=He.out;refine HK2.out _ _ ((HI.out _ _ _).2 ⟨{σ with b6:=true,s49:=_,s48:=_},rfl,rfl,{G with D6:=(fun _=>t5),D7:=(fun h=>ff e (G.D7 h)),Q5:=(fun _=>rfl),Q6:=(fun _=>rfl)}⟩)
   . have e:σ.b7=false:=hl
     have hd:=hd _ rfl;clear hl hlt;simp[Region.binds]at hd;have t6:σ.b6=true:=(by simp[hd])
     clear hd;have er:=G.Q6 t6;have g0:W.cell? ⟨b0,o0+2,none⟩=some (.slice x1.a.1 x1.vals.length x1.a.2):=G.X.of_cell z10;have g1:W.cell? ⟨b0,o0+3,none⟩=some (.slice x1.b.1 x1.unk.length x1.b.2):=G.X.of_cell z11;have He:=zsp e;clear e;refine zai rfl rfl (fun K hK=> ?_);have HK2:=zsp hK;clear hK
     go_simp
     have e:=He.out;refine HK2.out _ _ ((HI.out _ _ _).2 ⟨{σ with b7:=true,s50:=_,s49:=_},rfl,rfl,{G with D7:=(fun _=>t6),D11:=(fun h=>ff e (G.D11 h).2.2.2.1),Q6:=(fun _=>rfl),Q7:=(fun _=>rfl)}⟩)
   . have e:σ.b8=false:=hl
     clear hl hlt hd;have He:=zsp e;clear e;refine zai rfl rfl (fun K hK=> ?_);have HK2:=zsp hK;clear hK
     go_simp
     have e:=He.out;refine HK2.out _ _ ((HI.out _ _ _).2 ⟨{σ with b8:=true,s51:=_},rfl,rfl,{G with D9:=(fun h=>ff e (G.D9 h)),Q8:=(fun _=>rfl)}⟩)
   . have e:σ.b9=false:=hl
     have hd:=hd _ rfl;clear hl hlt;simp[Region.binds]at hd;have t8:σ.b8=true:=(by simp[hd])
     clear hd;have er:=G.Q8 t8;have He:=zsp e;clear e;refine zai rfl rfl (fun K hK=> ?_);have HK2:=zsp hK;clear hK
     go_simp
     have e:=He.out;refine HK2.out _ _ ((HI.out _ _ _).2 ⟨{σ with b9:=true,s52:=_,s51:=_},rfl,rfl,{G with D9:=(fun _=>t8),D10:=(fun h=>ff e (G.D10 h)),Q8:=(fun _=>rfl),Q9:=(fun _=>rfl)}⟩)
   . have e:σ.b10=false:=hl
     have hd:=hd _ rfl;clear hl hlt;simp[Region.binds]at hd;have t9:σ.b9=true:=(by simp[hd])
     clear hd;have er:=G.Q9 t9;have g0:W.cell? ⟨b0,o0+4,none⟩=some (.slice x2.a.1 x2.vals.length x2.a.2):=G.X.of_cell z20;have g1:W.cell? ⟨b0,o0+5,none⟩=some (.slice x2.b.1 x2.unk.length x2.b.2):=G.X.of_cell z21;have He:=zsp e;clear e;refine zai rfl rfl (fun K hK=> ?_);have HK2:=zsp hK;clear hK
     go_simp
     have e:=He.out;refine HK2.out _ _ ((HI.out _ _ _).2 ⟨{σ with b10:=true,s53:=_,s52:=_},rfl,rfl,{G with D10:=(fun _=>t9),D11:=(fun h=>ff e (G.D11 h).2.2.2.2),Q9:=(fun _=>rfl),Q10:=(fun _=>rfl)}⟩)
   . have e:σ.b11=false:=hl
     have hd:=hd _ rfl;clear hl hlt;simp[Region.binds]at hd;have t0:σ.b0=true:=(by simp[hd])
     have t1:σ.b1=true:=(by simp[hd])
     have t4:σ.b4=true:=(by simp[hd])
     have t7:σ.b7=true:=(by simp[hd])
     have t10:σ.b10=true:=(by simp[hd])
     clear hd;have f0:=G.Q0 t0;have f1:=G.Q1 t1;have f4:=G.Q4 t4;have f7:=G.Q7 t7;have f10:=G.Q10 t10;have HX:=zsp G.X;have He:=zsp e;clear e;refine zai rfl rfl (fun K hK=> ?_);have HK2:=zsp hK;clear hK
     go_simp
     go_at_call 9
     refine(HO.out _ HX.out).mono ?_;rintro e1 W2 ⟨yn,A9,n9,c9,l9,rfl,p1,p2,p3,p4,p5,p6,E2⟩
     (try dsimp only)
     (try simp only[Act.put,List.setIfInBounds_toArray,List.set_cons_zero,List.set_cons_succ])
     have e:=He.out;refine HK2.out _ _ ((HI.out _ _ _).2 ⟨{σ with b11:=true,s54:=_,s43:=_,s44:=_,s47:=_,s50:=_,s53:=_,y:=yn,AR:=A9,nR:=n9,cR:=c9,lR:=l9},rfl,rfl,{G with D11:=(fun _=>⟨t0,t1,t4,t7,t10⟩),D12:=(fun h=>ff e (G.D12 h)),X:=(HX.out.trans E2),A16:=(fun h=>⟨(G.A16 h).1,(G.A16 h).2.1,Nat.lt_of_lt_of_le (G.A16 h).2.2 E2.size⟩),Z16:=(fun h h2=>(G.Z16 h h2).up E2),Q0:=(fun _=>rfl),Q1:=(fun _=>rfl),Q4:=(fun _=>rfl),Q7:=(fun _=>rfl),Q10:=(fun _=>rfl),C11:=(fun _=>rfl),T11:=(fun _=>⟨p1,p2,fun q hq=>Nat.le_trans HX.out.size (p3 q hq),p4,p5⟩),B17:=(fun h=>ff e (G.D12 (G.D13 (G.D17 h).2))),UW:=(fun _ q hq=>Nat.le_trans HX.out.size (p6 q hq)),U:=(fun _ h=>⟨fun q hq=>Nat.ne_of_gt (Nat.lt_of_lt_of_le (G.A16 h).2.2 (p3 q hq)),fun q hq=>Nat.ne_of_gt (Nat.lt_of_lt_of_le (G.A16 h).2.2 (p6 q hq))⟩),Q12:=(fun h=>ff e (G.D12 h)),Q13:=(fun h=>ff e (G.D12 (G.D13 h))),Q14:=(fun h=>ff e (G.D12 (G.D14 h))),Q15:=(fun h=>ff e (G.D12 (G.D15 h))),A18:=(fun h=>ff e (G.D12 (G.D14 (G.D18 h)))),A19:=(fun h=>ff e (G.D12 (G.D15 (G.D19 h))))}⟩)
   . have e:σ.b12=false:=hl
     have hd:=hd _ rfl;clear hl hlt;simp[Region.binds]at hd;have t11:σ.b11=true:=(by simp[hd])
     clear hd;have er:=G.C11 t11;have He:=zsp e;clear e;refine zai rfl rfl (fun K hK=> ?_);have HK2:=zsp hK;clear hK
     go_simp
     have e:=He.out;refine HK2.out _ _ ((HI.out _ _ _).2 ⟨{σ with b12:=true,s42:=_,s54:=_},rfl,rfl,{G with D12:=(fun _=>t11),D13:=(fun h=>ff e (G.D13 h)),D14:=(fun h=>ff e (G.D14 h)),D15:=(fun h=>ff e (G.D15 h)),C11:=(fun _=>rfl),Q12:=(fun _=>rfl)}⟩)
   . have e:σ.b13=false:=hl
     have hd:=hd _ rfl;clear hl hlt;simp[Region.binds]at hd;have t12:σ.b12=true:=(by simp[hd])
     clear hd;have er:=G.Q12 t12;have He:=zsp e;clear e;refine zai rfl rfl (fun K hK=> ?_);have HK2:=zsp hK;clear hK
     go_simp
     have e:=He.out;refine HK2.out _ _ ((HI.out _ _ _).2 ⟨{σ with b13:=true,s55:=_,s42:=_},rfl,rfl,{G with D13:=(fun _=>t12),D17:=(fun h=>ff e (G.D17 h).2),Q12:=(fun _=>rfl),Q13:=(fun _=>rfl)}⟩)
   . have e:σ.b14=false:=hl
     have hd:=hd _ rfl;clear hl hlt;simp[Region.binds]at hd;have t12:σ.b12=true:=(by simp[hd])
     clear hd;have er:=G.Q12 t12;have He:=zsp e;clear e;refine zai rfl rfl (fun K hK=> ?_);have HK2:=zsp hK;clear hK
     go_simp
     have e:=He.out;refine HK2.out _ _ ((HI.out _ _ _).2 ⟨{σ with b14:=true,s56:=_,s42:=_},rfl,rfl,{G with D14:=(fun _=>t12),D18:=(fun h=>ff e (G.D18 h)),Q12:=(fun _=>rfl),Q14:=(fun _=>rfl)}⟩)
   . have e:σ.b15=false:=hl
     have hd:=hd _ rfl;clear hl hlt;simp[Region.binds]at hd;have t12:σ.b12=true:=(by simp[hd])
     clear hd;have er:=G.Q12 t12;have He:=zsp e;clear e;refine zai rfl rfl (fun K hK=> ?_);have HK2:=zsp hK;clear hK
     go_simp
     have e:=He.out;refine HK2.out _ _ ((HI.out _ _ _).2 ⟨{σ with b15:=true,s57:=_,s42:=_},rfl,rfl,{G with D15:=(fun _=>t12),D19:=(fun h=>ff e (G.D19 h)),Q12:=(fun _=>rfl),Q15:=(fun _=>rfl)}⟩)
   . have e:σ.b16=false:=hl
     clear hl hlt hd;have HX:=zsp G.X;have He:=zsp e;clear e;refine zai rfl rfl (fun K hK=> ?_);have HK2:=zsp hK;clear hK
     go_simp
     have e:=He.out;refine HK2.out _ _ ((HI.out _ _ _).2 ⟨{σ with b16:=true,s16:=_,ky:=W.heap.size},rfl,rfl,{G with D17:=(fun h=>ff e (G.D17 h).1),X:=(HX.out.trans ((Ext.refl W).alloc _)),A16:=(fun _=>⟨rfl,HX.out.size,(by simp)⟩),Z16:=(fun _ _=>BlkT.new W _ _ rfl),B17:=(fun h=>ff e (G.D17 h).1),T11:=(fun h=>⟨(G.T11 h).1,(G.T11 h).2.1.up ((Ext.refl W).alloc _),(G.T11 h).2.2.1,(G.T11 h).2.2.2.1.up ((Ext.refl W).alloc _),(G.T11 h).2.2.2.2⟩),U:=(fun h _=>⟨fun q hq=>Nat.ne_of_lt ((G.T11 h).2.1.lt hq),fun q hq=>Nat.ne_of_lt ((G.T11 h).2.2.2.1.uses_lt hq)⟩)}⟩)
   . have e:σ.b17=false:=hl
     have hd:=hd _ rfl;clear hl hlt;simp[Region.binds]at hd;have t16:σ.b16=true:=(by simp[hd])
     have t13:σ.b13=true:=(by simp[hd])
     have t11:σ.b11=true:=(G.D12 (G.D13 t13))
     clear hd;have f1:=G.Q13 t13;obtain⟨f2,lk,lb⟩:=G.A16 t16;have HB:=zsp (G.Z16 t16 e);have HX:=zsp G.X;have HT:=zsp (G.T11 t11);have HU:=zsp (G.U t11 t16);have g0:W.cell? ⟨σ.ky,0,none⟩=some (.slice none 0 0):=HB.out.cell 0;have h0:=HB.out.free 0;have g1:W.cell? ⟨σ.ky,1,none⟩=some (.slice none 0 0):=HB.out.cell 1;have h1:=HB.out.free 1;have ST:=(((Stays.refl (fun q=>q≠σ.ky) W).set (p:=⟨σ.ky,0,none⟩) (fun q=>q rfl) (.slice σ.y.a.1 σ.y.vals.length σ.y.a.2)).set (p:=⟨σ.ky,1,none⟩) (fun q=>q rfl) (.slice σ.y.b.1 σ.y.unk.length σ.y.b.2))
     have He:=zsp e;clear e;refine zai rfl rfl (fun K hK=> ?_);have HK2:=zsp hK;clear hK
     go_simp
     have e:=He.out;refine HK2.out _ _ ((HI.out _ _ _).2 ⟨{σ with b17:=true,s55:=_,s16:=_},rfl,rfl,{G with D17:=(fun _=>⟨t16,t13⟩),X:=(((HX.out.setCell (p:=⟨σ.ky,0,none⟩) lk (.slice σ.y.a.1 σ.y.vals.length σ.y.a.2)).setCell (p:=⟨σ.ky,1,none⟩) lk (.slice σ.y.b.1 σ.y.unk.length σ.y.b.2))),Q13:=(fun _=>rfl),A16:=(fun _=>⟨rfl,lk,Nat.lt_of_lt_of_le lb ST.size⟩),Z16:=(fun _ h=>by cases h),B17:=(fun _=>((HB.out.set_ 0 (.slice σ.y.a.1 σ.y.vals.length σ.y.a.2)).set_ 1 (.slice σ.y.b.1 σ.y.unk.length σ.y.b.2))),T11:=(fun _=>⟨HT.out.1,HT.out.2.1.stays ST HU.out.1,HT.out.2.2.1,HT.out.2.2.2.1.stays ST HU.out.2,HT.out.2.2.2.2⟩)}⟩)
   . have e:σ.b18=false:=hl
     have hd:=hd _ rfl;clear hl hlt;simp[Region.binds]at hd;have t14:σ.b14=true:=(by simp[hd])
     clear hd;have er:=G.Q14 t14;have He:=zsp e;clear e;refine zai rfl rfl (fun K hK=> ?_);have HK2:=zsp hK;clear hK
     go_simp
     have e:=He.out;refine HK2.out _ _ ((HI.out _ _ _).2 ⟨{σ with b18:=true,s17:=_,s56:=_},rfl,rfl,{G with D18:=(fun _=>t14),Q14:=(fun _=>rfl),A18:=(fun _=>rfl)}⟩)
   . have e:σ.b19=false:=hl
     have hd:=hd _ rfl;clear hl hlt;simp[Region.binds]at hd;have t15:σ.b15=true:=(by simp[hd])
     clear hd;have er:=G.Q15 t15;have He:=zsp e;clear e;refine zai rfl rfl (fun K hK=> ?_);have HK2:=zsp hK;clear hK
     go_simp
     have e:=He.out;refine HK2.out _ _ ((HI.out _ _ _).2 ⟨{σ with b19:=true,s18:=_,s57:=_},rfl,rfl,{G with D19:=(fun _=>t15),Q15:=(fun _=>rfl),A19:=(fun _=>rfl)}⟩)
 . obtain⟨σ,rfl,rfl,G⟩:=(HI.out _ _ _).1 hi
   clear hi;have t0:σ.b0=true:=zae hr (i:=0) rfl (by simp[Region.binds]) (show 0<20 by decide);have t1:σ.b1=true:=zae hr (i:=1) rfl (by simp[Region.binds,t0]) (show 1<20 by decide);have t2:σ.b2=true:=zae hr (i:=2) rfl (by simp[Region.binds,t0,t1]) (show 2<20 by decide);have t3:σ.b3=true:=zae hr (i:=3) rfl (by simp[Region.binds,t0,t1,t2]) (show 3<20 by decide);have t4:σ.b4=true:=zae hr (i:=4) rfl (by simp[Region.binds,t0,t1,t2,t3]) (show 4<20 by decide);have t5:σ.b5=true:=zae hr (i:=5) rfl (by simp[Region.binds,t0,t1,t2,t3,t4]) (show 5<20 by decide);have t6:σ.b6=true:=zae hr (i:=6) rfl (by simp[Region.binds,t0,t1,t2,t3,t4,t5]) (show 6<20 by decide);have t7:σ.b7=true:=zae hr (i:=7) rfl (by simp[Region.binds,t0,t1,t2,t3,t4,t5,t6]) (show 7<20 by decide);have t8:σ.b8=true:=zae hr (i:=8) rfl (by simp[Region.binds,t0,t1,t2,t3,t4,t5,t6,t7]) (show 8<20 by decide);have t9:σ.b9=true:=zae hr (i:=9) rfl (by simp[Region.binds,t0,t1,t2,t3,t4,t5,t6,t7,t8]) (show 9<20 by decide);have t10:σ.b10=true:=zae hr (i:=10) rfl (by simp[Region.binds,t0,t1,t2,t3,t4,t5,t6,t7,t8,t9]) (show 10<20 by decide);have t11:σ.b11=true:=zae hr (i:=11) rfl (by simp[Region.binds,t0,t1,t2,t3,t4,t5,t6,t7,t8,t9,t10]) (show 11<20 by decide);have t12:σ.b12=true:=zae hr (i:=12) rfl (by simp[Region.binds,t0,t1,t2,t3,t4,t5,t6,t7,t8,t9,t10,t11]) (show 12<20 by decide);have t13:σ.b13=true:=zae hr (i:=13) rfl (by simp[Region.binds,t0,t1,t2,t3,t4,t5,t6,t7,t8,t9,t10,t11,t12]) (show 13<20 by decide);have t14:σ.b14=true:=zae hr (i:=14) rfl (by simp[Region.binds,t0,t1,t2,t3,t4,t5,t6,t7,t8,t9,t10,t11,t12,t13]) (show 14<20 by decide);have t15:σ.b15=true:=zae hr (i:=15) rfl (by simp[Region.binds,t0,t1,t2,t3,t4,t5,t6,t7,t8,t9,t10,t11,t12,t13,t14]) (show 15<20 by decide);have t16:σ.b16=true:=zae hr (i:=16) rfl (by simp[Region.binds,t0,t1,t2,t3,t4,t5,t6,t7,t8,t9,t10,t11,t12,t13,t14,t15]) (show 16<20 by decide);have t17:σ.b17=true:=zae hr (i:=17) rfl (by simp[Region.binds,t0,t1,t2,t3,t4,t5,t6,t7,t8,t9,t10,t11,t12,t13,t14,t15,t16]) (show 17<20 by decide);have t18:σ.b18=true:=zae hr (i:=18) rfl (by simp[Region.binds,t0,t1,t2,t3,t4,t5,t6,t7,t8,t9,t10,t11,t12,t13,t14,t15,t16,t17]) (show 18<20 by decide);have t19:σ.b19=true:=zae hr (i:=19) rfl (by simp[Region.binds,t0,t1,t2,t3,t4,t5,t6,t7,t8,t9,t10,t11,t12,t13,t14,t15,t16,t17,t18]) (show 19<20 by decide);obtain⟨p1,p2,p3,p4,p5⟩:=G.T11 t11;exact HK.out _ _ _ _ _ _ _ _ _ _ _ _ _ _ _ _ _ _ _ σ.y σ.AR σ.nR σ.cR σ.lR σ.ky W G.X (G.A16 t16).1 (G.B17 t17) (G.A18 t18) (G.A19 t19) p1 p2 p3 p4 p5
 . refine(HI.out _ _ _).2 ⟨⟨false,false,false,false,false,false,false,false,false,false,false,false,false,false,false,false,false,false,false,false,_,_,_,_,_,_,_,_,_,_,_,_,_,_,_,_,_,_,_,.mk (none,0) (none,0) [] [],none,0,0,[],0⟩,rfl,rfl,?_⟩
   constructor
   all_goals (try dsimp only)
   all_goals first|exact(Ext.refl w).drew|exact fun _=>(Ext.refl w).drew|(intro h;cases h;done)
structure MadeL(w wr:World)(S:List MsgD)(root d:Int)(l:List BRow)(A:Option Addr)(k c:Nat)(ys:List MsgR):Prop where
 own:Own w wr 27 2 A k c (ys.flatMap treeC)
 each:∀y∈ys,zah wr y/\∀q,UsesT y q->w.heap.size<=q/\(Value.slice A 0 0).ownBlock≠some q
 fine:∀r∈l.take k,(zar S root r.bs d).2=0
 mean:ys.map bare=(l.take k).map fun r=>OfT S root r.bs d
variable{k c c':Nat}{A:Option Addr}{l:List BRow}{d:Int}{S:List MsgD}
theorem MadeL.more{wr w1 wa w':World}{A':Option Addr}{ys:List MsgR}{y:MsgR}{r:BRow}(h:MadeL w wr S root d l A k c ys)(X:Ext wr w1)(Xa:Ext w1 wa)(hr:l[k]?=some r)(hc:(zar S root r.bs d).2=0)(hy:bare y=OfT S root r.bs d)(ty:zah w1 y)(uy:∀q,UsesT y q->wr.heap.size<=q)(own':Own w w' 27 2 A' (k+1) c' (ys.flatMap treeC++treeC y))(g:wa.grownBy w' (Value.slice A k c).ownBlock)(m:Moved wa A A'):MadeL w w' S root d l A' (k+1) c' (ys++[y]):=by
 have st:Stays (fun b=>(Value.slice A 0 0).ownBlock≠some b) wa w':=Stays.grown g (fun q hq p=>p (by rw[zak A 0 0 k c];exact hq));have hw:=h.own.ext.size
 have ap:∀z∈ys++[y],zah wa z/\∀q,UsesT z q->w.heap.size<=q/\(Value.slice A 0 0).ownBlock≠some q:=fun z hz=>by
  rcases List.mem_append.1 hz with hz|hz
  . exact⟨((h.each z hz).1.up X).up Xa,(h.each z hz).2⟩
  . rw[List.mem_singleton.1 hz]
    refine⟨ty.up Xa,fun q hq=>⟨Nat.le_trans hw (uy q hq),fun e=> ?_⟩⟩;have h1:=(h.own.new_lt e).2;have h2:=uy q hq;omega
 refine⟨by rw[List.flatMap_append,List.flatMap_cons,List.flatMap_nil,List.append_nil];exact own',fun z hz=>⟨(ap z hz).1.stays st (fun q hq=>((ap z hz).2 q hq).2),fun q hq=>⟨((ap z hz).2 q hq).1,fun e=> ?_⟩⟩,fun x hx=> ?_,?_⟩
 . rcases m with m|m
   . rw[m]at e
     exact((ap z hz).2 q hq).2 e
   . rw[m]at e
     injection e with e;have:=(ap z hz).1.lt hq;omega
 . rw[zap _ _ _ hr]at hx
   rcases List.mem_append.1 hx with hx|hx
   . exact h.fine x hx
   . rw[List.mem_singleton.1 hx]
     exact hc
 . rw[List.map_append,h.mean,zap _ _ _ hr,List.map_append]
   simp[hy]
def zdr(S:List MsgD)(root d:Int):List BRow->Nat
 |[]=>0
 |r::l=>if(zar S root r.bs d).2≠0 then(zar S root r.bs d).2 else zdr S root d l
theorem zkx{S:List MsgD}{root d:Int}:∀{l:List BRow}{k:Nat}{r:BRow},l[k]?=some r->(∀x∈l.take k,(zar S root x.bs d).2=0)->(zar S root r.bs d).2≠0->zdr S root d l=(zar S root r.bs d).2
 |x::l,0,r,h,_,hc=>by
  obtain rfl:x=r:=by simpa using h
  unfold zdr;rw[if_pos hc]
 |x::l,k+1,r,h,hf,hc=>by
  unfold zdr;rw[if_neg (fun q=>q (hf x (by rw[List.take_succ_cons];exact List.mem_cons_self)))];exact zkx (by simpa using h) (fun y hy=>hf y (by rw[List.take_succ_cons];exact List.mem_cons_of_mem _ hy)) hc
theorem zhz{S:List MsgD}{root d:Int}:∀{l:List BRow},(∀x∈l,(zar S root x.bs d).2=0)->zdr S root d l=0
 |[],_=>rfl
 |x::l,h=>by
  unfold zdr;rw[if_neg (fun q=>q (h x List.mem_cons_self))];exact zhz (fun y hy=>h y (List.mem_cons_of_mem _ hy))
variable{n:Nat}{B:Option Addr}
theorem zoL{n':Nat}{S:List MsgV}(hs:zaj w A n c S)(hb:zaN w B n' c' l)(hn:n'<=1000)(hl:∀r∈l,r.bs.length<=100000)(hC:zdr (S.map MsgV.d) root d l≠0):
 Calls prog 39 #[.slice A n c,.int .i64 root,.int .i64 d,.slice B n' c'] w fun e w'=>e=.returned (.tuple #[.slice none 0 0,.slice none 0 0,.int .u8 (zdr (S.map MsgV.d) root d l:Nat)])/\Ext w w':=by
 have hlen:=hb.length;have hcap:=hb.1.cap;obtain⟨C,hCe⟩:∃C,C=zdr (S.map MsgV.d) root d l:=⟨_,rfl⟩
 have hCat:∀(k:Nat)(r:BRow),l[k]?=some r->(∀x∈l.take k,(zar (S.map MsgV.d) root x.bs d).2=0)->(zar (S.map MsgV.d) root r.bs d).2≠0->(zar (S.map MsgV.d) root r.bs d).2=C:=fun k r h1 h2 h3=>by rw[hCe];exact(zkx h1 h2 h3).symm
 have hCn:¬∀x∈l,(zar (S.map MsgV.d) root x.bs d).2=0:=fun h=>hC (zhz h)
 have hof:=fun(r:BRow)(hr:r∈l)(W:World)(E:Ext w W)(hrb:zab W r.A r.n r.c r.bs)=>tOfB (root:=root) (d:=d) (hs.up E) hrb (by have:=hl r hr;have:=hrb.length;omega)
 rw[<-hCe];have HCat:=zsp hCat;have HCn:=zsp hCn;have Hof:=zsp hof;have Hb:=zsp hb;have Hlen:=zsp hlen;unfold treeV at Hof;clear hCat hCn hof hb hlen hs hl hC hCe
 go_enter func39,ntmps39
 go_wp2
 go_loopw [11,13,14,15,22] (fun u _ _ _ i wr=>∃(k:Nat)(A2:Option Addr)(c2:Nat)(ys:List MsgR),k<=n'/\i=.int .i64 (k:Int)/\u=.slice A2 k c2/\MadeL w wr (S.map MsgV.d) root d l A2 k c2 ys) (fun _ _ _ _ i _=>n' - (intOf i).toNat)
 case atStart=>exact⟨0,none,0,[],Nat.zero_le _,rfl,rfl,Own.nil (Ext.refl _) _ _,fun y hy=>(by cases hy),fun r hr=>(by simp at hr),rfl⟩
 case round=>
  rename World=>wr
  obtain⟨k,A2,c2,ys,hk,rfl,rfl,hM⟩:=hrel;have EM:=hM.own.ext;by_cases hlt:k<n'
  . have hltI:(k:Int)<n':=by omega
    obtain⟨b5,off5,r,hA9,hr,hb5,hrb,e0⟩:=zaN.row (Hb.out.up EM) hlt;have hrm:=List.mem_of_getElem? hr;subst hA9;have hcall:=fun(W:World)(E:Ext wr W)=>Hof.out r hrm W (EM.trans E) (hrb.ext E)
    by_cases hc:(zar (S.map MsgV.d) root r.bs d).2=0
    . rw[hc]at hcall
      have Hcall:=zsp hcall;have Hr:=zsp hr;have Hc:=zsp hc;have HM:=zsp hM;clear hcall hr hc hM hrb
      go_wp2_with (first
       |(go_at_call 65;refine(Hcall.out _ xx).mono ?_;rintro e w1 ⟨y,rfl,y1,y2,y3,E1⟩;have X1:Ext wr w1:=Ext.trans xx E1)
       |(at_builtin;refine zbd zkg rfl (.tmp 37) (.tmp 39) rfl rfl (((HM.out.own.up X1).alloc _).alloc _) rfl (show Reads _ (some ⟨w1.heap.size+1,0,none⟩) 1 1 2 (treeC y)from zbJ (w1.alloc (.cells #[.slice y.a.1 y.vals.length y.a.2,.slice y.b.1 y.unk.length y.b.2] 27)) (treeC y) 27 (by simp) rfl) (fun u hu=>by have h:=zej [y] u;rw[List.flatMap_cons,List.flatMap_nil,List.append_nil]at h;exact h hu) (by omega) (by unfold maxLen;omega) ?_;intro A8 c8 w8 own8 g8 m8))
      go_roundw
      case rel=>exact⟨k+1,A8,c8,ys++[y],by omega,by go_num,rfl,HM.out.more X1 xx Hr.out Hc.out y1 y2 (fun q hq=>by simpa using y3 q hq) own8 g8 m8⟩
      case measure=>simp[intOf];omega
    . have hcC:=HCat.out k r hr hM.fine hc
      have hCne:C≠0:=by rw[<-hcC];exact hc
      have hC2:((C:Int) !=0)=true:=by simp;omega
      rw[hcC]at hcall;have Hcall:=zsp hcall;clear hcall hr hc hM hrb hcC
      go_wp2_with (first
       |(go_at_call 65;refine(Hcall.out _ xx).mono ?_;rintro e w1 ⟨y,rfl,y1,y2,y3,E1⟩;have X1:Ext wr w1:=Ext.trans xx E1))
      go_ret3
      exact⟨rfl,(EM.trans X1).alloc _⟩
  . obtain rfl:k=n':=by omega
    exact absurd (fun x hx=>hM.fine x (by rw[List.take_of_length_le (by have:=Hlen.out;omega)];exact hx)) HCn.out
variable{ro ra rb:BRow}
theorem zeF:zdr S root d [ro,ra,rb]=zaV S root ro.bs ra.bs rb.bs d:=by
 unfold zdr zdr zdr zdr zaV;by_cases h1:(zar S root ro.bs d).2≠0
 . rw[if_pos h1,if_pos h1]
 . rw[if_neg h1,if_neg h1]
   by_cases h2:(zar S root ra.bs d).2≠0
   . rw[if_pos h2,if_pos h2]
   . rw[if_neg h2,if_neg h2]
     by_cases h3:(zar S root rb.bs d).2≠0
     . rw[if_pos h3]
     . rw[if_neg h3]
       omega
theorem zpI{S:List MsgV}(hs:zaj w A n c S)(hb:zaN w B 3 c' [ro,ra,rb])(lo:ro.bs.length<=3125)(la:ra.bs.length<=3125)(lb:rb.bs.length<=3125)(hC:zaV (S.map MsgV.d) root ro.bs ra.bs rb.bs d=0):
 Calls prog 39 #[.slice A n c,.int .i64 root,.int .i64 d,.slice B 3 c'] w fun e w'=>∃(A':Option Addr)(n2 c2:Nat)(A3:Option Addr)(n3 c3:Nat)(l3:List WRow),e=.returned (.tuple #[.slice A' n2 c2,.slice A3 n3 c3,.int .u8 0])/\Hid (n2=(zbr (S.map MsgV.d) root d ro.bs ra.bs rb.bs).length)/\Own w w' 5 1 A' n2 c2 ((zbr (S.map MsgV.d) root d ro.bs ra.bs rb.bs).map bv)/\zbA w' A3 n3 c3 l3/\l3.map (·.way)=(zaH (S.map MsgV.d) root d ro.bs ra.bs rb.bs).2/\Ext w w':=by
 obtain⟨co,ca,cb⟩:=zfe hC;obtain⟨hR,r0,r1,d0,d1,_⟩:=zcn co;obtain⟨m,hm⟩:=Int.eq_ofNat_of_zero_le r0;subst hm;have oO:=oneB co lo;have oA:=oneB ca la;have oB:=oneB cb lb;have hT:=zhw (o:=ro.bs) hR oA oB;have hml:m<n:=by have:=hs.length;rw[List.length_map]at r1;omega
 have f3:=zeF (S:=S.map MsgV.d) (root:=(m:Int)) (d:=d) (ro:=ro) (ra:=ra) (rb:=rb)
 have hfine:∀x∈ [ro,ra,rb],(zar (S.map MsgV.d) (m:Int) x.bs d).2=0:=fun x hx=>by
  simp only[List.mem_cons,List.not_mem_nil,or_false]at hx;rcases hx with rfl|rfl|rfl
  . exact co
  . exact ca
  . exact cb
 have hmean:∀x∈ [ro,ra,rb],OfT (S.map MsgV.d) (m:Int) x.bs d=meanB (S.map MsgV.d) m x.bs:=fun x hx=>by
  refine zpr (hfine x hx) ?_;simp only[List.mem_cons,List.not_mem_nil,or_false]at hx;rcases hx with rfl|rfl|rfl<;>omega
 have hof:=fun(r:BRow)(hr:r∈ [ro,ra,rb])(W:World)(E:Ext w W)(hrb:zab W r.A r.n r.c r.bs)=>tOfB (root:=(m:Int)) (d:=d) (hs.up E) hrb (by have:=hrb.length;simp only[List.mem_cons,List.not_mem_nil,or_false]at hr;rcases hr with rfl|rfl|rfl<;>omega)
 have htr:=fun(W:World)(x0 x1 x2:MsgR)(E:Ext w W)(t0:zah W x0)(t1:zah W x1)(t2:zah W x2)(e0:bare x0=meanB (S.map MsgV.d) m ro.bs)(e1:bare x1=meanB (S.map MsgV.d) m ra.bs)(e2:bare x2=meanB (S.map MsgV.d) m rb.bs)=>
  zoK (d:=d.toNat) (root:=(m:Int)) (hs.up E) t0 t1 t2 (FitT.of_bare x0 (by rw[e0];exact oO.fit.le (by omega))) (FitT.of_bare x1 (by rw[e1];exact oA.fit.le (by omega))) (FitT.of_bare x2 (by rw[e2];exact oB.fit.le (by omega))) (zaS.of_bare x0 (by rw[e0];exact oO.texts)) (zaS.of_bare x1 (by rw[e1];exact oA.texts)) (zaS.of_bare x2 (by rw[e2];exact oB.texts))
   rfl hR hml (by rw[e0];exact oO.rr) (by rw[e1];exact oA.rr) (by rw[e2];exact oB.rr) (by omega) (by rw[e0,e1,e2];have:=hT.few;have h2:(zcg (S.map MsgV.d) d.toNat m (meanB (S.map MsgV.d) m ro.bs) (meanB (S.map MsgV.d) m ra.bs) (meanB (S.map MsgV.d) m rb.bs) []).2.length<=2*(ra.bs.length+rb.bs.length):=this;omega)
 have hen:=fun(W:World)(x:MsgR)(E:Ext w W)(t:zah W x)(e:bare x=(zaH (S.map MsgV.d) (m:Int) d ro.bs ra.bs rb.bs).1)=>
  zrc (d:=d.toNat) hR hml (hs.up E) t (by rw[e];exact hT.right) (FitT.of_bare x (by rw[e];exact hT.fit)) (zaS.of_bare x (by rw[e];exact hT.texts)) (by rw[e];have:=hT.short;show(zbr (S.map MsgV.d) (m:Int) d ro.bs ra.bs rb.bs).length<=_;omega)
 have htr2:∀(W:World)(x0 x1 x2:MsgR),Ext w W->zah W x0->zah W x1->zah W x2->bare x0=meanB (S.map MsgV.d) m ro.bs->bare x1=meanB (S.map MsgV.d) m ra.bs->bare x2=meanB (S.map MsgV.d) m rb.bs->Calls prog 9 #[.slice A n c,.int .i64 (m:Int),.agg #[.slice x0.a.1 x0.vals.length x0.a.2,.slice x0.b.1 x0.unk.length x0.b.2],.agg #[.slice x1.a.1 x1.vals.length x1.a.2,.slice x1.b.1 x1.unk.length x1.b.2],.agg #[.slice x2.a.1 x2.vals.length x2.a.2,.slice x2.b.1 x2.unk.length x2.b.2]] W fun e W'=>∃(y:MsgR)(A':Option Addr)(n' c':Nat)(l':List WRow),e=.returned (.tuple #[.agg #[.slice y.a.1 y.vals.length y.a.2,.slice y.b.1 y.unk.length y.b.2],.slice A' n' c',.int .u8 0])/\bare y=(zaH (S.map MsgV.d) (m:Int) d ro.bs ra.bs rb.bs).1/\zah W' y/\(∀q,UsesT y q->W.heap.size<=q)/\zbA W' A' n' c' l'/\l'.map (·.way)=(zaH (S.map MsgV.d) (m:Int) d ro.bs ra.bs rb.bs).2/\(∀q,WUses A' n' l' q->W.heap.size<=q)/\Ext W W':=fun W x0 x1 x2 E t0 t1 t2 e0 e1 e2=>by
  have:=htr W x0 x1 x2 E t0 t1 t2 e0 e1 e2;rw[e0,e1,e2]at this;exact this
 have hen2:∀(W:World)(x:MsgR),Ext w W->zah W x->bare x=(zaH (S.map MsgV.d) (m:Int) d ro.bs ra.bs rb.bs).1->Calls prog 66 #[.slice A n c,.int .i64 (m:Int),.agg #[.slice x.a.1 x.vals.length x.a.2,.slice x.b.1 x.unk.length x.b.2]] W fun e W'=>∃A' n2 c2,e=.returned (.tuple #[.slice A' n2 c2,.int .u8 0])/\Hid (n2=(zbr (S.map MsgV.d) (m:Int) d ro.bs ra.bs rb.bs).length)/\Own W W' 5 1 A' n2 c2 ((zbr (S.map MsgV.d) (m:Int) d ro.bs ra.bs rb.bs).map bv):=fun W x E t e=>by
  have:=hen W x E t e;rw[e]at this;exact this
 generalize zbr (S.map MsgV.d) (m:Int) d ro.bs ra.bs rb.bs=FF at*;generalize zaH (S.map MsgV.d) (m:Int) d ro.bs ra.bs rb.bs=RR at*;have Hof:=zsp hof;have Htr:=zsp htr2;have Hen:=zsp hen2;have Hfine:=zsp hfine;have Hmean:=zsp hmean;have Hb:=zsp hb;have hcap:=hb.1.cap;unfold treeV at Hof;clear hof htr hen htr2 hen2 hfine hmean hb hs hT oO oA oB f3 hC co ca cb hR
 go_enter func39,ntmps39
 go_wp2
 go_loopw [11,13,14,15,22] (fun u _ _ _ i wr=>∃(k:Nat)(A2:Option Addr)(c2:Nat)(ys:List MsgR),k<=3/\i=.int .i64 (k:Int)/\u=.slice A2 k c2/\MadeL w wr (S.map MsgV.d) (m:Int) d [ro,ra,rb] A2 k c2 ys) (fun _ _ _ _ i _=>3 - (intOf i).toNat)
 case atStart=>exact⟨0,none,0,[],Nat.zero_le _,rfl,rfl,Own.nil (Ext.refl _) _ _,fun y hy=>(by cases hy),fun r hr=>(by simp at hr),rfl⟩
 case round=>
  rename World=>wr
  obtain⟨k,A2,c2,ys,hk,rfl,rfl,hM⟩:=hrel;have EM:=hM.own.ext;by_cases hlt:k<3
  . have hltI:(k:Int)<3:=by omega
    obtain⟨b5,off5,r,hA9,hr,hb5,hrb,e0⟩:=zaN.row (Hb.out.up EM) hlt;have hrm:=List.mem_of_getElem? hr;subst hA9;have hcall:=fun(W:World)(E:Ext wr W)=>Hof.out r hrm W (EM.trans E) (hrb.ext E)
    have hc:=Hfine.out r hrm;rw[hc]at hcall;have Hcall:=zsp hcall;have Hr:=zsp hr;have Hc:=zsp hc;have HM:=zsp hM;clear hcall hr hc hM hrb hrm
    go_wp2_with (first
     |(go_at_call 65;refine(Hcall.out _ xx).mono ?_;rintro e w1 ⟨y,rfl,y1,y2,y3,E1⟩;have X1:Ext wr w1:=Ext.trans xx E1)
     |(at_builtin;refine zbd zkg rfl (.tmp 37) (.tmp 39) rfl rfl (((HM.out.own.up X1).alloc _).alloc _) rfl (show Reads _ (some ⟨w1.heap.size+1,0,none⟩) 1 1 2 (treeC y)from zbJ (w1.alloc (.cells #[.slice y.a.1 y.vals.length y.a.2,.slice y.b.1 y.unk.length y.b.2] 27)) (treeC y) 27 (by simp) rfl) (fun u hu=>by have h:=zej [y] u;rw[List.flatMap_cons,List.flatMap_nil,List.append_nil]at h;exact h hu) (by omega) (by unfold maxLen;omega) ?_;intro A8 c8 w8 own8 g8 m8))
    go_roundw
    case rel=>exact⟨k+1,A8,c8,ys++[y],by omega,by go_num,rfl,HM.out.more X1 xx Hr.out Hc.out y1 y2 (fun q hq=>by simpa using y3 q hq) own8 g8 m8⟩
    case measure=>simp[intOf];omega
  . obtain rfl:k=3:=by omega
    have hltI:¬(3:Int)<3:=by omega
    have hlen:=congrArg List.length hM.mean;rw[List.length_map,List.length_map]at hlen;have hlen3:ys.length=3:=hlen;obtain⟨x0,ys1,rfl⟩:∃x l,ys=x::l:=List.exists_cons_of_length_pos (by omega);obtain⟨x1,ys2,rfl⟩:∃x l,ys1=x::l:=List.exists_cons_of_length_pos (by simp only[List.length_cons]at hlen3;omega);obtain⟨x2,ys3,rfl⟩:∃x l,ys2=x::l:=List.exists_cons_of_length_pos (by simp only[List.length_cons]at hlen3;omega);obtain rfl:ys3=[]:=List.eq_nil_of_length_eq_zero (by simp only[List.length_cons]at hlen3;omega);have hmn:=hM.mean;simp only[List.map_cons,List.map_nil,List.take_succ_cons,List.take_nil,List.take_zero,List.cons.injEq,and_true]at hmn;obtain⟨m0,m1,m2⟩:=hmn;rw[Hmean.out ro (by simp)]at m0;rw[Hmean.out ra (by simp)]at m1;rw[Hmean.out rb (by simp)]at m2;obtain⟨b0,o0,hA2,hb0,hcell⟩:=hM.own.reads.at_ (by omega);subst hA2;have z00:wr.cell? ⟨b0,o0,none⟩=some (.slice x0.a.1 x0.vals.length x0.a.2):=hcell 0 _ rfl;have z01:wr.cell? ⟨b0,o0+1,none⟩=some (.slice x0.b.1 x0.unk.length x0.b.2):=hcell 1 _ rfl;have z10:wr.cell? ⟨b0,o0+2,none⟩=some (.slice x1.a.1 x1.vals.length x1.a.2):=hcell 2 _ rfl;have z11:wr.cell? ⟨b0,o0+3,none⟩=some (.slice x1.b.1 x1.unk.length x1.b.2):=hcell 3 _ rfl;have z20:wr.cell? ⟨b0,o0+4,none⟩=some (.slice x2.a.1 x2.vals.length x2.a.2):=hcell 4 _ rfl;have z21:wr.cell? ⟨b0,o0+5,none⟩=some (.slice x2.b.1 x2.unk.length x2.b.2):=hcell 5 _ rfl;have hmc:=hM.own.reads.cap;have t0:=(hM.each x0 (by simp)).1;have t1:=(hM.each x1 (by simp)).1;have t2:=(hM.each x2 (by simp)).1;have hcall:=fun(W:World)(E:Ext wr W)=>Htr.out W x0 x1 x2 (EM.trans E) (t0.up E) (t1.up E) (t2.up E) m0 m1 m2
    have Hcall:=zsp hcall;clear hcall hcell hlen hlen3 m0 m1 m2 t0 t1 t2 hM
    go_upto_region 10 with(fail)
    refine calm (fun _ _ _ hd h=>⟨hd,h.2⟩) (zrj (R:=RR) z00 z01 z10 z11 z20 z21 hmc Hcall ?_);intro s16 s17 s18 s42 s43 s44 s45 s46 s47 s48 s49 s50 s51 s52 s53 s54 s55 s56 s57 y AR nR cR lR ky wz Xz e16 BY e17 e18 p1 p2 p3 p4 p5;subst e16 e17 e18
    (try simp only[Exit.inBlock,Exit.then])
    have q0:wz.cell? ⟨ky,0,none⟩=some (.slice y.a.1 y.vals.length y.a.2):=BY.cell 0;have q1:wz.cell? ⟨ky,1,none⟩=some (.slice y.b.1 y.unk.length y.b.2):=BY.cell 1;have hy1:=p1;have H2:=zsp p2;have H4:=zsp p4;have H5:=zsp p5;have hcall:=fun(W:World)(E:Ext wz W)=>Hen.out W y ((EM.trans Xz).trans E) (H2.out.up E) hy1
    have Hcall2:=zsp hcall;have HEM:=zsp (EM.trans Xz);clear hcall p1 p2 p3 p4 p5 hy1 z00 z01 z10 z11 z20 z21
    go_wp2_with (go_at_call 66;refine(Hcall2.out _ xx).mono ?_;rintro e w9 ⟨A9,n9,c9,rfl,hn9,own9⟩;have X9:Ext wz w9:=Ext.trans xx own9.ext;have O9:=own9.since (HEM.out.trans xx))
    go_ret3
    exact⟨A9,n9,c9,AR,nR,cR,lR,rfl,hn9,O9,H4.out.up X9,H5.out,HEM.out.trans X9⟩
open Classical in
noncomputable def zbm(S:List MsgD)(root d:Int)(o a b:List UInt8):Nat:=if zaV S root o a b d≠0 then zaV S root o a b d else if(zaH S root d o a b).2=[]then 0 else 14
open Classical in
noncomputable def zbs(S:List MsgD)(root d:Int)(o a b:List UInt8):List UInt8:=if zaV S root o a b d=0/\(zaH S root d o a b).2=[]then zbr S root d o a b else[]
noncomputable def zbn(S:List MsgD)(root d:Int)(o a b:List UInt8):List Way:=if zaV S root o a b d=0 then(zaH S root d o a b).2 else[]
theorem zhA{C:Option Addr}{m d f:Nat}{xs ys zs:List UInt8}{b:Nat}(hb0:b=w.heap.size)(ha:zab w A n c xs)(hb:zab w B m d ys)(hc:zab w C k f zs):
 zaN (w.alloc (.cells #[.slice A n c,.slice B m d,.slice C k f] 46)) (some ⟨b,0,none⟩) 3 3 [⟨A,n,c,xs⟩,⟨B,m,d,ys⟩,⟨C,k,f,zs⟩]:=by
 subst hb0;refine⟨(Own.made (Ext.refl w) 46 1 (cs:=[.slice A n c,.slice B m d,.slice C k f]) (n:=3) (by simp[maxLen]) rfl).reads,fun r hr=> ?_⟩;simp only[List.mem_cons,List.not_mem_nil,or_false]at hr;rcases hr with rfl|rfl|rfl
 . exact ha.ext (Ext.alloc (Ext.refl _) _)
 . exact hb.ext (Ext.alloc (Ext.refl _) _)
 . exact hc.ext (Ext.alloc (Ext.refl _) _)
section
variable {A B1 B2 B3:Option Addr} {n c n1 c1 n2 c2 n3 c3:Nat} {S:List MsgV} {root d:Int} {o a b:List UInt8} {w:World}
theorem zeG(hs:zaj w A n c S)(ho:zab w B1 n1 c1 o)(ha:zab w B2 n2 c2 a)(hb:zab w B3 n3 c3 b)(lo:o.length<=3125)(la:a.length<=3125)(lb:b.length<=3125):
 Calls prog 15 #[.slice A n c,.int .i64 root,.slice B1 n1 c1,.slice B2 n2 c2,.slice B3 n3 c3,.int .i64 d] w fun e w'=>∃(A':Option Addr)(n' c':Nat)(A4:Option Addr)(n4 c4:Nat)(l4:List WRow),e=.returned (.tuple #[.slice A' n' c',.slice A4 n4 c4,.int .u8 (zbm (S.map MsgV.d) root d o a b:Nat)])/\zab w' A' n' c' (zbs (S.map MsgV.d) root d o a b)/\Hid (n'=(zbs (S.map MsgV.d) root d o a b).length)/\zbA w' A4 n4 c4 l4/\Hid (l4.map (·.way)=zbn (S.map MsgV.d) root d o a b)/\Ext w w':=by
 by_cases hC:zaV (S.map MsgV.d) root o a b d=0
 . have hmd:=fun(W:World)(E:Ext w W)(b0:Nat)(h0:b0=W.heap.size)=>zpI (root:=root) (d:=d) ((hs.up E).up ((Ext.refl W).alloc _)) (zhA h0 (ho.ext E) (ha.ext E) (hb.ext E)) lo la lb hC
   by_cases hW:(zaH (S.map MsgV.d) root d o a b).2=[]
   . have e1:zbm (S.map MsgV.d) root d o a b=0:=by unfold zbm;rw[if_neg (fun q=>q hC),if_pos hW]
     have e2:zbs (S.map MsgV.d) root d o a b=zbr (S.map MsgV.d) root d o a b:=by unfold zbs;rw[if_pos ⟨hC,hW⟩]
     have e3:zbn (S.map MsgV.d) root d o a b=[]:=by unfold zbn;rw[if_pos hC,hW]
     rw[e1,e2,e3];simp only[hW]at hmd;generalize zbr (S.map MsgV.d) root d o a b=FF at*;have Hmd:=zsp hmd;clear hmd hC hW e1 e2 e3 hs ho ha hb
     go_enter func15,ntmps15
     go_wp2_with fail
     refine(Hmd.out w (Ext.refl w) _ rfl).mono ?_;rintro e w1 ⟨A',n',c',A4,n4,c4,l4,rfl,q1,q2,q3,q4,E1⟩;obtain rfl:l4=[]:=List.map_eq_nil_iff.1 q4;obtain rfl:n4=0:=q3.length.symm;have Q1:=zsp q2;have Q2:=zsp q3;have X1:Ext w w1:=Ext.trans xx E1;clear q2 q3 q4
     go_wp2
     go_ret3
     exact⟨A',n',c',A4,0,c4,[],rfl,Q1.out.bytes,q1,Q2.out,zsp rfl,X1⟩
   . have e1:zbm (S.map MsgV.d) root d o a b=14:=by unfold zbm;rw[if_neg (fun q=>q hC),if_neg hW]
     have e2:zbs (S.map MsgV.d) root d o a b=[]:=by unfold zbs;rw[if_neg (fun q=>hW q.2)]
     have e3:zbn (S.map MsgV.d) root d o a b=(zaH (S.map MsgV.d) root d o a b).2:=by unfold zbn;rw[if_pos hC]
     rw[e1,e2,e3];have hpos:0<(zaH (S.map MsgV.d) root d o a b).2.length:=List.length_pos_iff.2 hW;generalize zaH (S.map MsgV.d) root d o a b=RR at*;have Hmd:=zsp hmd;have Hpos:=zsp hpos;clear hmd hC hW e1 e2 e3 hs ho ha hb hpos
     go_enter func15,ntmps15
     go_wp2_with fail
     refine(Hmd.out w (Ext.refl w) _ rfl).mono ?_;rintro e w1 ⟨A',n',c',A4,n4,c4,l4,rfl,q1,q2,q3,q4,E1⟩
     have hn4:(0:Int)<n4:=by
      have h1:=q3.length;have h2:=congrArg List.length q4;rw[List.length_map]at h2;have h3:=Hpos.out;omega
     have Q2:=zsp q3;have Q4:=zsp q4;have X1:Ext w w1:=Ext.trans xx E1;clear q2 q3 q4
     go_wp2
     go_ret3
     exact⟨none,0,0,A4,n4,c4,l4,rfl,zdy _,zsp rfl,Q2.out,Q4,X1⟩
 . have e1:zbm (S.map MsgV.d) root d o a b=zaV (S.map MsgV.d) root o a b d:=by unfold zbm;rw[if_pos hC]
   have e2:zbs (S.map MsgV.d) root d o a b=[]:=by unfold zbs;rw[if_neg (fun q=>hC q.1)]
   have e3:zbn (S.map MsgV.d) root d o a b=[]:=by unfold zbn;rw[if_neg hC]
   rw[e1,e2,e3];have hmd:=fun(W:World)(E:Ext w W)(b0:Nat)(h0:b0=W.heap.size)=>zoL (root:=root) (d:=d) ((hs.up E).up ((Ext.refl W).alloc _)) (zhA h0 (ho.ext E) (ha.ext E) (hb.ext E)) (by omega) (fun r hr=>by simp only[List.mem_cons,List.not_mem_nil,or_false]at hr;rcases hr with rfl|rfl|rfl<;>(simp only;omega)) (by rw[zeF];exact hC)
   simp only[zeF]at hmd;generalize zaV (S.map MsgV.d) root o a b d=CC at*;have hc2:((CC:Int)==0)=false:=by rw[beq_eq_false_iff_ne];omega
   have Hmd:=zsp hmd;clear hmd e1 e2 e3 hs ho ha hb
   go_enter func15,ntmps15
   go_wp2_with fail
   refine(Hmd.out w (Ext.refl w) _ rfl).mono ?_;rintro e w1 ⟨rfl,E1⟩;have X1:Ext w w1:=Ext.trans xx E1
   go_wp2
   go_ret3
   exact⟨none,0,0,none,0,0,[],rfl,zdy _,zsp rfl,⟨Reads.nil _ 1,fun r hr=>(by cases hr)⟩,zsp rfl,X1⟩
end
end Go.Proofs.YtlhbllaojjelcaaGreat
