/- Contracts of layer 26: a clash. (Printed by gen_clash.py.) -/
import Derived.Test.YtlhbllaojjelcaaGreatQhInv
import Derived.RegionTactic

set_option linter.unusedVariables false
set_option linter.unusedSimpArgs false
set_option maxRecDepth 100000
set_option maxHeartbeats 4000000
namespace Go.Proofs.YtlhbllaojjelcaaGreat
open Go.RowKit Go.Shelf Tryz
noncomputable def regC(n:Nat):Code:=((Tryz.f58.body.bind (zcb n)).getD .skip)
structure zql where
 (b0 b1 b2 b3 b4 b5 b6 b7 b8 b9 b10 b11:Bool)
 (s4 s5 s6 s7 s8 s9 s10 s11 s12 s13 s14:Value)
 (AC:Option Addr)
 (cC:Nat)
 (kb:Nat)
 (An:Option Addr)
 (cn:Nat)
structure zrZ(w0 w:World)(bk:Nat)(SA:Option Addr)(sn sc:Nat)(A:Option Addr)(n c:Nat)(B:Option Addr)(m d:Nat)(way:Way)(rl:List WRow)(σ:zql)(W:World):Prop where
 X:σ.b8=false->Ext w W
 Q0:σ.b0=true->σ.s4=.pointer (some ⟨bk,0,none⟩)
 Q1:σ.b1=true->σ.s5=.pointer (some ⟨bk,0,none⟩)
 Q2:σ.b2=true->σ.s6=.pointer (some ⟨bk,0,none⟩)
 Q3:σ.b3=true->σ.s7=.pointer (some ⟨bk,1,none⟩)
 Q4:σ.b4=true->σ.s8=.slice A n c
 Q5:σ.b5=true->σ.s9=.slice B m d
 C:σ.b6=true->σ.b7=false->σ.s10=.slice σ.AC m σ.cC
 CW:σ.b6=true->σ.b8=false->WayAt W σ.AC m σ.cC way/\∀b,UsesA σ.AC m b->w.heap.size<=b
 L:σ.b7=true->σ.b8=false->σ.s11=.slice (some ⟨σ.kb,0,none⟩) 1 1/\BlkT W σ.kb 82 #[.slice σ.AC m σ.cC]
 F8:σ.b8=true->σ.b11=false->σ.s12=.slice σ.An (n+1) σ.cn/\BlkT W bk 73 #[.slice SA sn sc,.slice A n c]/\zdx w0 W bk σ.An (n+1) σ.cn (rl++[⟨σ.AC,m,σ.cC,way⟩])/\Stays (Else bk A) w W/\(∀b,(Value.slice σ.An 0 0).ownBlock=some b->(Value.slice A 0 0).ownBlock=some b\/w.heap.size<=b)/\∀b,UsesA σ.AC m b->w.heap.size<=b
 Q9:σ.b9=true->σ.s13=.pointer (some ⟨bk,0,none⟩)
 Q10:σ.b10=true->σ.s14=.pointer (some ⟨bk,1,none⟩)
 F11:σ.b11=true->BlkT W bk 73 #[.slice SA sn sc,.slice σ.An (n+1) σ.cn]/\zdx w0 W bk σ.An (n+1) σ.cn (rl++[⟨σ.AC,m,σ.cC,way⟩])/\Stays (Else bk A) w W/\(∀b,(Value.slice σ.An 0 0).ownBlock=some b->(Value.slice A 0 0).ownBlock=some b\/w.heap.size<=b)/\∀b,UsesA σ.AC m b->w.heap.size<=b
 D2:σ.b2=true->σ.b1=true
 D3:σ.b3=true->σ.b2=true
 D4:σ.b4=true->σ.b3=true
 D6:σ.b6=true->σ.b5=true
 D7:σ.b7=true->σ.b6=true
 D8:σ.b8=true->σ.b4=true/\σ.b7=true
 D9:σ.b9=true->σ.b0=true
 D10:σ.b10=true->σ.b9=true
 D11:σ.b11=true->σ.b10=true/\σ.b8=true
variable{way:Way}{m d n c sn sc bk:Nat}{B A SA:Option Addr}{w0:World}
theorem creg0{Q0:Exit->Act->World->Prop}{u2 u3 u4 u5 u6 u7 u8 u9 u10 u11 u12 u13 u14:Value}{w:World}{rl:List WRow}(B0:BlkT w bk 73 #[.slice SA sn sc,.slice A n c])(hp:zdx w0 w bk A n c rl)(hbase:w0.heap.size<=bk)(hw:WayAt w B m d way)(hm:m<=1000000000000)(hn:n<=1000000000)(hK:∀(s4 s5 s6 s7 s8 s9 s10 s11 s12 s13 s14:Value)(AC:Option Addr)(cC:Nat)(An:Option Addr)(cn:Nat)(wz:World),BlkT wz bk 73 #[.slice SA sn sc,.slice An (n+1) cn]->zdx w0 wz bk An (n+1) cn (rl++[⟨AC,m,cC,way⟩])->Stays (Else bk A) w wz->(∀b,(Value.slice An 0 0).ownBlock=some b->(Value.slice A 0 0).ownBlock=some b\/w.heap.size<=b)->(∀b,UsesA AC m b->w.heap.size<=b)->Q0 .normal ⟨#[.pointer (some ⟨bk,0,none⟩),.slice B m d,u2,u3,s4,s5,s6,s7,s8,s9,s10,s11,s12,s13,s14],[]⟩ wz):
 Code.wp prog (regC 0) (calmQ Q0) ⟨#[.pointer (some ⟨bk,0,none⟩),.slice B m d,u2,u3,u4,u5,u6,u7,u8,u9,u10,u11,u12,u13,u14],[]⟩ w:=by
 have hbl:=B0.lt;have HK:=zsp hK;clear hK
 conv=>arg 2;whnf
 obtain⟨I,hI⟩:∃I:Array Bool->Act->World->Prop,∀l a W,I l a W<->(∃σ:zql,l=#[σ.b0,σ.b1,σ.b2,σ.b3,σ.b4,σ.b5,σ.b6,σ.b7,σ.b8,σ.b9,σ.b10,σ.b11]/\a=⟨#[.pointer (some ⟨bk,0,none⟩),.slice B m d,u2,u3,σ.s4,σ.s5,σ.s6,σ.s7,σ.s8,σ.s9,σ.s10,σ.s11,σ.s12,σ.s13,σ.s14],[]⟩/\zrZ w0 w bk SA sn sc A n c B m d way rl σ W):=⟨_,fun _ _ _=>Iff.rfl⟩
 have HI:=zsp hI;clear hI;refine zcQ (I:=I) (by kernel_rfl) (fun i l a W hi hr=> ?_) (fun l a W hi hr=> ?_) ?_
 . obtain⟨σ,rfl,rfl,G⟩:=(HI.out _ _ _).1 hi
   clear hi;obtain⟨hlt,hl,hd⟩:=zcW hr;clear hr;have hlt:i<12:=hlt;rcases(show i=0\/i=1\/i=2\/i=3\/i=4\/i=5\/i=6\/i=7\/i=8\/i=9\/i=10\/i=11 by omega)with rfl|rfl|rfl|rfl|rfl|rfl|rfl|rfl|rfl|rfl|rfl|rfl
   . have e:σ.b0=false:=hl
     clear hl hlt hd;have He:=zsp e;clear e;refine zai rfl rfl (fun K hK=> ?_);have HK2:=zsp hK;clear hK
     go_simp
     have e:=He.out;refine HK2.out _ _ ((HI.out _ _ _).2 ⟨{σ with b0:=true,s4:=_},rfl,rfl,{G with D9:=(fun h=>ff e (G.D9 h)),Q0:=(fun _=>rfl)}⟩)
   . have e:σ.b1=false:=hl
     clear hl hlt hd;have He:=zsp e;clear e;refine zai rfl rfl (fun K hK=> ?_);have HK2:=zsp hK;clear hK
     go_simp
     have e:=He.out;refine HK2.out _ _ ((HI.out _ _ _).2 ⟨{σ with b1:=true,s5:=_},rfl,rfl,{G with D2:=(fun h=>ff e (G.D2 h)),Q1:=(fun _=>rfl)}⟩)
   . have e:σ.b2=false:=hl
     have hd:=hd _ rfl;clear hl hlt;simp[Region.binds]at hd;have t1:σ.b1=true:=(by simp[hd])
     clear hd;have er:=G.Q1 t1;have He:=zsp e;clear e;refine zai rfl rfl (fun K hK=> ?_);have HK2:=zsp hK;clear hK
     go_simp
     have e:=He.out;refine HK2.out _ _ ((HI.out _ _ _).2 ⟨{σ with b2:=true,s6:=_,s5:=_},rfl,rfl,{G with D2:=(fun _=>t1),D3:=(fun h=>ff e (G.D3 h)),Q1:=(fun _=>rfl),Q2:=(fun _=>rfl)}⟩)
   . have e:σ.b3=false:=hl
     have hd:=hd _ rfl;clear hl hlt;simp[Region.binds]at hd;have t2:σ.b2=true:=(by simp[hd])
     clear hd;have er:=G.Q2 t2;have He:=zsp e;clear e;refine zai rfl rfl (fun K hK=> ?_);have HK2:=zsp hK;clear hK
     go_simp
     have e:=He.out;refine HK2.out _ _ ((HI.out _ _ _).2 ⟨{σ with b3:=true,s7:=_,s6:=_},rfl,rfl,{G with D3:=(fun _=>t2),D4:=(fun h=>ff e (G.D4 h)),Q2:=(fun _=>rfl),Q3:=(fun _=>rfl)}⟩)
   . have e:σ.b4=false:=hl
     have hd:=hd _ rfl;clear hl hlt;simp[Region.binds]at hd;have t3:σ.b3=true:=(by simp[hd])
     clear hd;have er:=G.Q3 t3
     have e8:σ.b8=false:=by
      rcases hs:σ.b8 with _|_
      . rfl
      . exact ff e (G.D8 hs).1
     have g1:W.cell? ⟨bk,1,none⟩=some (.slice A n c):=(G.X e8).of_cell (B0.cell 1);have H8:=zsp e8;clear e8;have He:=zsp e;clear e;refine zai rfl rfl (fun K hK=> ?_);have HK2:=zsp hK;clear hK
     go_simp
     have e:=He.out;refine HK2.out _ _ ((HI.out _ _ _).2 ⟨{σ with b4:=true,s8:=_,s7:=_},rfl,rfl,{G with D4:=(fun _=>t3),D8:=(fun h=>ff e (G.D8 h).1),Q3:=(fun _=>rfl),Q4:=(fun _=>rfl)}⟩)
   . have e:σ.b5=false:=hl
     clear hl hlt hd;have He:=zsp e;clear e;refine zai rfl rfl (fun K hK=> ?_);have HK2:=zsp hK;clear hK
     go_simp
     have e:=He.out;refine HK2.out _ _ ((HI.out _ _ _).2 ⟨{σ with b5:=true,s9:=_},rfl,rfl,{G with D6:=(fun h=>ff e (G.D6 h)),Q5:=(fun _=>rfl)}⟩)
   . have e:σ.b6=false:=hl
     have hd:=hd _ rfl;clear hl hlt;simp[Region.binds]at hd;have t5:σ.b5=true:=(by simp[hd])
     clear hd;have er:=G.Q5 t5
     have e8:σ.b8=false:=by
      rcases hs:σ.b8 with _|_
      . rfl
      . exact ff e (G.D7 (G.D8 hs).2)
     have HX:=zsp (G.X e8);have H8:=zsp e8;clear e8;have He:=zsp e;clear e;refine zai rfl rfl (fun K hK=> ?_);have HK2:=zsp hK;clear hK
     go_simp
     go_at_call 56
     refine(clWay (hw.ext HX.out) hm).mono ?_;rintro e1 W2 ⟨Ad,cd,rfl,od⟩
     (try dsimp only)
     (try simp only[Act.put,List.setIfInBounds_toArray,List.set_cons_zero,List.set_cons_succ])
     have ez:=HX.out.size;have e:=He.out;refine HK2.out _ _ ((HI.out _ _ _).2 ⟨{σ with b6:=true,s10:=_,s9:=_,AC:=Ad,cC:=cd},rfl,rfl,{G with D6:=(fun _=>t5),D7:=(fun h=>ff e (G.D7 h)),Q5:=(fun _=>rfl),X:=(fun _=>HX.out.trans od.ext),C:=(fun _ _=>rfl),CW:=(fun _ _=>⟨od.reads,fun b hb=>Nat.le_trans ez (zqB od b hb)⟩),L:=(fun h=>ff e (G.D7 h)),F8:=(fun h=>ff e (G.D7 (G.D8 h).2)),F11:=(fun h=>ff e (G.D7 (G.D8 (G.D11 h).2).2))}⟩)
   . have e:σ.b7=false:=hl
     have hd:=hd _ rfl;clear hl hlt;simp[Region.binds]at hd;have t6:σ.b6=true:=(by simp[hd])
     clear hd;have er:=G.C t6 e
     have e8:σ.b8=false:=by
      rcases hs:σ.b8 with _|_
      . rfl
      . exact ff e (G.D8 hs).2
     have HX:=zsp (G.X e8);have HW:=zsp (G.CW t6 e8);have H8:=zsp e8;clear e8;have He:=zsp e;clear e;refine zai rfl rfl (fun K hK=> ?_);have HK2:=zsp hK;clear hK
     go_simp
     have e:=He.out;refine HK2.out _ _ ((HI.out _ _ _).2 ⟨{σ with b7:=true,s11:=_,s10:=_,kb:=W.heap.size},rfl,rfl,{G with D7:=(fun _=>t6),D8:=(fun h=>ff e (G.D8 h).2),X:=(fun _=>HX.out.alloc _),C:=(fun _ h=>by cases h),CW:=(fun _ _=>⟨HW.out.1.ext ((Ext.refl W).alloc _),HW.out.2⟩),L:=(fun _ _=>⟨rfl,BlkT.new W _ _ rfl⟩),F8:=(fun h=>ff e (G.D8 h).2),F11:=(fun h=>ff e (G.D8 (G.D11 h).2).2)}⟩)
   . have e:σ.b8=false:=hl
     have hd:=hd _ rfl;clear hl hlt;simp[Region.binds]at hd;have t4:σ.b4=true:=(by simp[hd])
     have t7:σ.b7=true:=(by simp[hd])
     have t6:σ.b6=true:=(G.D7 t7)
     clear hd;have ea:=G.Q4 t4;obtain⟨el,bl⟩:=G.L t7 e;have Xw:=G.X e;obtain⟨ew,eu⟩:=G.CW t6 e;have ow:=hp.own.up Xw;have rd:Reads W (some ⟨σ.kb,0,none⟩) 1 1 1 ([⟨σ.AC,m,σ.cC,way⟩].map wrowV):=⟨rfl,Nat.le_refl _,by unfold maxLen;omega,fun _=>⟨σ.kb,0,rfl,bl.lt,fun j u hj=>by rw[Nat.zero_add,bl.cell];simpa[wrowV] using hj⟩⟩
     refine wpOp_step rfl (fun K hK=> ?_);have HK2:=zsp hK;clear hK;refine zcc zrx (by rfl) (.tmp 8) (.tmp 11) (by rfl) ea ow el rd (zpa _) (by omega) (by unfold maxLen;omega) ?_;intro An cn W2 on gn mn;have pw:=hp.more hbl Xw (r:=⟨σ.AC,m,σ.cC,way⟩) ew eu on gn mn;have bw:=(B0.up Xw).beside ow (by decide) gn;have sw:Stays (Else bk A) w W2:=((Stays.of_ext Xw).less (fun b hb=>hb)).trans (Stays.grown gn (fun k hk q=>q.2 (by rw[zak A 0 0 n c];exact hk)))
     have nw:∀b,(Value.slice An 0 0).ownBlock=some b->(Value.slice A 0 0).ownBlock=some b\/w.heap.size<=b:=fun b hb=>by
      rcases mn with mn|mn
      . rw[mn]at hb
        exact .inl hb
      . rw[mn]at hb
        injection hb with hb;have:=Xw.size;exact .inr (by omega)
     (try simp only[Act.put,List.setIfInBounds_toArray,List.set_cons_zero,List.set_cons_succ,Nat.zero_add])
     refine HK2.out _ _ ((HI.out _ _ _).2 ⟨{σ with b8:=true,s12:=_,An:=An,cn:=cn},rfl,rfl,{G with D8:=(fun _=>⟨t4,t7⟩),D11:=(fun h=>ff e (G.D11 h).2),X:=(fun h=>by cases h),CW:=(fun _ h=>by cases h),L:=(fun _ h=>by cases h),F8:=(fun _ _=>⟨rfl,bw,pw,sw,nw,eu⟩),F11:=(fun h=>ff e (G.D11 h).2)}⟩)
   . have e:σ.b9=false:=hl
     have hd:=hd _ rfl;clear hl hlt;simp[Region.binds]at hd;have t0:σ.b0=true:=(by simp[hd])
     clear hd;have er:=G.Q0 t0;have He:=zsp e;clear e;refine zai rfl rfl (fun K hK=> ?_);have HK2:=zsp hK;clear hK
     go_simp
     have e:=He.out;refine HK2.out _ _ ((HI.out _ _ _).2 ⟨{σ with b9:=true,s13:=_,s4:=_},rfl,rfl,{G with D9:=(fun _=>t0),D10:=(fun h=>ff e (G.D10 h)),Q0:=(fun _=>rfl),Q9:=(fun _=>rfl)}⟩)
   . have e:σ.b10=false:=hl
     have hd:=hd _ rfl;clear hl hlt;simp[Region.binds]at hd;have t9:σ.b9=true:=(by simp[hd])
     clear hd;have er:=G.Q9 t9;have He:=zsp e;clear e;refine zai rfl rfl (fun K hK=> ?_);have HK2:=zsp hK;clear hK
     go_simp
     have e:=He.out;refine HK2.out _ _ ((HI.out _ _ _).2 ⟨{σ with b10:=true,s14:=_,s13:=_},rfl,rfl,{G with D10:=(fun _=>t9),D11:=(fun h=>ff e (G.D11 h).1),Q9:=(fun _=>rfl),Q10:=(fun _=>rfl)}⟩)
   . have e:σ.b11=false:=hl
     have hd:=hd _ rfl;clear hl hlt;simp[Region.binds]at hd;have t10:σ.b10=true:=(by simp[hd])
     have t8:σ.b8=true:=(by simp[hd])
     clear hd;have er:=G.Q10 t10;obtain⟨ef,bl,pw,sw,nw,eu⟩:=G.F8 t8 e;have g1:W.cell? ⟨bk,1,none⟩=some (.slice A n c):=bl.cell 1;have f1:=bl.free 1;have lb:=bl.lt;have HB:=zsp bl;have HP:=zsp pw;clear bl pw;have He:=zsp e;clear e;refine zai rfl rfl (fun K hK=> ?_);have HK2:=zsp hK;clear hK
     go_simp
     have e:=He.out;refine HK2.out _ _ ((HI.out _ _ _).2 ⟨{σ with b11:=true,s14:=_,s12:=_},rfl,rfl,{G with D11:=(fun _=>⟨t10,t8⟩),Q10:=(fun _=>rfl),X:=(fun h=>ff h t8),CW:=(fun _ h=>ff h t8),L:=(fun _ h=>ff h t8),F8:=(fun _ h=>by cases h),F11:=(fun _=>⟨HB.out.set_ 1 _,⟨HP.out.own.far HB.out (by decide) hbase 1 (.slice σ.An (n+1) σ.cn),fun q hq=>Reads.stays (HP.out.each q hq) ((Stays.refl (fun b=>b≠bk) W).set (p:=⟨bk,1,none⟩) (fun q=>q rfl) (.slice σ.An (n+1) σ.cn)) (fun b hb=>(HP.out.apart q hq b hb).2),HP.out.apart⟩,sw.set (p:=⟨bk,1,none⟩) (fun q=>q.1 rfl) _,nw,eu⟩)}⟩)
 . obtain⟨σ,rfl,rfl,G⟩:=(HI.out _ _ _).1 hi
   clear hi;have t0:σ.b0=true:=zae hr (i:=0) rfl (by simp[Region.binds]) (show 0<12 by decide);have t1:σ.b1=true:=zae hr (i:=1) rfl (by simp[Region.binds,t0]) (show 1<12 by decide);have t2:σ.b2=true:=zae hr (i:=2) rfl (by simp[Region.binds,t0,t1]) (show 2<12 by decide);have t3:σ.b3=true:=zae hr (i:=3) rfl (by simp[Region.binds,t0,t1,t2]) (show 3<12 by decide);have t4:σ.b4=true:=zae hr (i:=4) rfl (by simp[Region.binds,t0,t1,t2,t3]) (show 4<12 by decide);have t5:σ.b5=true:=zae hr (i:=5) rfl (by simp[Region.binds,t0,t1,t2,t3,t4]) (show 5<12 by decide);have t6:σ.b6=true:=zae hr (i:=6) rfl (by simp[Region.binds,t0,t1,t2,t3,t4,t5]) (show 6<12 by decide);have t7:σ.b7=true:=zae hr (i:=7) rfl (by simp[Region.binds,t0,t1,t2,t3,t4,t5,t6]) (show 7<12 by decide);have t8:σ.b8=true:=zae hr (i:=8) rfl (by simp[Region.binds,t0,t1,t2,t3,t4,t5,t6,t7]) (show 8<12 by decide);have t9:σ.b9=true:=zae hr (i:=9) rfl (by simp[Region.binds,t0,t1,t2,t3,t4,t5,t6,t7,t8]) (show 9<12 by decide);have t10:σ.b10=true:=zae hr (i:=10) rfl (by simp[Region.binds,t0,t1,t2,t3,t4,t5,t6,t7,t8,t9]) (show 10<12 by decide);have t11:σ.b11=true:=zae hr (i:=11) rfl (by simp[Region.binds,t0,t1,t2,t3,t4,t5,t6,t7,t8,t9,t10]) (show 11<12 by decide);obtain⟨p1,p2,p3,p4,p5⟩:=G.F11 t11;exact HK.out _ _ _ _ _ _ _ _ _ _ _ _ _ _ _ W p1 p2 p3 p4 p5
 . refine(HI.out _ _ _).2 ⟨⟨false,false,false,false,false,false,false,false,false,false,false,false,_,_,_,_,_,_,_,_,_,_,_,none,0,0,none,0⟩,rfl,rfl,?_⟩
   constructor
   all_goals (try dsimp only)
   all_goals first|exact(Ext.refl w).drew|exact fun _=>(Ext.refl w).drew|(intro h;cases h;done)
theorem zku{wr:World}{l:List WRow}(h:KS w0 wr bk SA sn sc A n c l)(hn:n<=1000000000)(hw:WayAt wr B m d way)(hm:m<=1000000000000):
 Calls prog 58 #[.pointer (some ⟨bk,0,none⟩),.slice B m d] wr fun e w'=>e=.returned (.tuple #[])/\Made w0 bk SA sn sc A l wr [way] (fun _=>False) w':=by
 have hp:=h.parts;have B0:=h.o;have hbase:=h.base;clear h
 go_enter func58,ntmps58
 refine calm (fun _ _ _ hd h=>⟨hd,h.2⟩) (creg0 B0 hp hbase hw hm hn ?_);intro s4 s5 s6 s7 s8 s9 s10 s11 s12 s13 s14 AC cC An cn wz p1 p2 p3 p4 p5
 go_end0
 refine⟨rfl,An,n+1,cn,_,⟨p1,p2,hbase⟩,by rw[List.map_append];rfl,p3.less (fun b hb=>⟨fun e=>hb (.inl e),fun e=>hb (.inr (.inl e))⟩),fun b hb=> ?_,fun b hb=>hb.elim⟩;rcases hb with hb|hb|⟨r,hr,hb⟩
 . exact .inl (.inl hb)
 . exact(p4 b hb).imp (fun q=>.inr (.inl q)) id
 . rcases List.mem_append.1 hr with hr|hr
   . exact .inl (.inr (.inr ⟨r,hr,hb⟩))
   . rw[List.mem_singleton]at hr
     subst hr;exact .inr (p5 b hb)
end Go.Proofs.YtlhbllaojjelcaaGreat
