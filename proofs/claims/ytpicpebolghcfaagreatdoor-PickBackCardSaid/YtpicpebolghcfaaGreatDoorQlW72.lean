/- Contracts of layer 22: what is found at a path. -/
import Derived.Test.YtpicpebolghcfaaGreatDoorQlInv
import Derived.RegionTactic

set_option linter.unusedVariables false
set_option linter.unusedSimpArgs false
set_option maxRecDepth 100000
set_option maxHeartbeats 4000000
namespace Go.Proofs.YtpicpebolghcfaaGreatDoor
open Go.RowKit Go.Shelf Tryz
def zbG(f:zab)(A:Option Addr)(n c:Nat):Value:=.agg #[.string f.name,.int .i64 f.number,.int .i64 f.kind,.bool f.rep,.bool f.packed,.int .i64 f.of_,.slice A n c]
def zat(l:List BRow):List (List UInt8):=l.map (·.bs)
theorem zdI(l:List BRow):flatR l=(zat l).flatten:=by
 unfold flatR zat;rw[List.flatMap_def]
variable{w:World}{n c:Nat}{A:Option Addr}{f:zab}
theorem zjs:
 Calls prog 76 #[zbG f A n c] w fun e w'=>e=.returned (.bool (runP f))/\Ext w w':=by
 unfold zbG runP;obtain⟨fname,fnum,fkind,frep,fpk,fof⟩:=f;simp only;have hk:=fun W=>zbP fkind W
 have Hk:=zsz hk;clear hk
 cases frep with
 |false=>
  go_enter func76,ntmps76
  go_wp2_with (go_at_call 31;refine(Hk.out _).mono ?_;rintro e w1 ⟨rfl,E1⟩)
  go_ret
  exact⟨by simp,xx⟩
 |true=>
  go_enter func76,ntmps76
  go_wp2_with (go_at_call 31;refine(Hk.out _).mono ?_;rintro e w1 ⟨rfl,E1⟩)
  go_ret
  exact⟨by simp,Ext.trans xx E1⟩
variable{l:List BRow}
theorem zpv(hb:zbw w A n c l)(hl:(flatR l).length<=1000000000):
 Calls prog 45 #[zbG f A n c] w fun e w'=>e=.returned (.bool (zbk f (zat l)))/\Ext w w':=by
 have hbl:=hb.length;have hn:=fun W=>zjs (f:=f) (A:=A) (n:=n) (c:=c) (w:=W)
 have hc:=fun W (h:zbw W A n c l)=>zkI h (by omega)
 unfold zbk;rw[<-zdI,show(zat l).length=n by unfold zat;rw[List.length_map];exact hbl];rcases hr:runP f with _|_
 . rw[hr]at hn
   have Hn:=zsz hn;clear hn hc hr hbl;rw[if_neg (by simp)];unfold zbG at Hn⊢;obtain⟨fname,fnum,fkind,frep,fpk,fof⟩:=f;simp only at Hn⊢;have B:=Ext.new_blk (Ext.refl (w.alloc (.cells #[.string fname,.int .i64 fnum,.int .i64 fkind,.bool frep,.bool fpk,.int .i64 fof,.slice A n c] 79)))
   go_enter func45,ntmps45
   go_wp2_with (go_at_call 76;refine(Hn.out _).mono ?_;rintro e w1 ⟨rfl,E1⟩;have c6:w1.cell? ⟨w.heap.size,6,none⟩=some (.slice A n c):=(B.up E1).cell 6)
   go_ret
   exact⟨by simp,Ext.trans xx E1⟩
 . rw[hr]at hn
   have Hn:=zsz hn;have Hc:=zsz hc;clear hn hc hr hbl;rw[if_pos rfl];unfold zbG at Hn⊢;obtain⟨fname,fnum,fkind,frep,fpk,fof⟩:=f;simp only at Hn⊢;have B:=Ext.new_blk (Ext.refl (w.alloc (.cells #[.string fname,.int .i64 fnum,.int .i64 fkind,.bool frep,.bool fpk,.int .i64 fof,.slice A n c] 79)))
   go_enter func45,ntmps45
   go_wp2_with (first
    |(go_at_call 76;refine(Hn.out _).mono ?_;rintro e w1 ⟨rfl,E1⟩;have c6:w1.cell? ⟨w.heap.size,6,none⟩=some (.slice A n c):=(B.up E1).cell 6;have X1:Ext w w1:=Ext.trans xx E1)
    |(go_at_call 77;refine(Hc.out _ (hb.up X1)).mono ?_;rintro e w2 ⟨A2,c2,rfl,own2⟩))
   go_ret
   exact⟨by simp,X1.trans own2.ext⟩
def zcm(f:zab)(ps:List (List UInt8))(w:World)(e:Ending)(w':World):Prop:=
 ∃(l:List BRow)(A:Option Addr)(n c:Nat),e=.returned (zbG f A n c)/\Own w w' 24 1 A n c (l.map browV)/\(∀r∈l,zac w' r.A r.n r.c r.bs)/\zat l=ps
variable{t:TypeId}{bs:List UInt8}{b:Nat}
theorem zlC{cs:Array Value}(h:zac w A n c bs)(B:BlkT w b t cs)(hcs:∀(j:Nat) x,cs[j]?≠some (.int .u8 x)):0<n->InS (fun q=>q≠b) A:=by
 intro hn a ha;obtain⟨b',off,e,hb,hc⟩:=h.at_ hn;rw[e]at ha;cases ha;intro e2;simp only at e2;subst e2;have hl:=h.length;have h0:bs[0]?=some bs[0]:=List.getElem?_eq_getElem (by omega);have:=hc 0 (bv bs[0]) (by rw[List.getElem?_map,h0];rfl);rw[B.cell]at this;exact hcs _ _ this
theorem Same.store{s:Nat->Prop}{W W':World}(h:Same s W W'){o:Nat}(v:Value)(hb:¬s b):Same s W (W'.setCell ⟨b,o,none⟩ v):=fun q hq=>(Below.heap_setCell W' ⟨b,o,none⟩ v q (fun e=>hb (by have e2:q=b:=e;rw[<-e2];exact hq))).trans (h q hq)
def zeq(w:World)(b:Nat)(f:zab)(A:Option Addr)(n c:Nat):World:=
 ((((((w.setCell ⟨b,0,none⟩ (.string f.name)).setCell ⟨b,1,none⟩ (.int .i64 f.number)).setCell ⟨b,2,none⟩ (.int .i64 f.kind)).setCell ⟨b,3,none⟩ (.bool f.rep)).setCell ⟨b,4,none⟩ (.bool f.packed)).setCell ⟨b,5,none⟩ (.int .i64 f.of_)).setCell ⟨b,6,none⟩ (.slice A n c)
theorem zeG{w0:World}(h:Ext w0 w)(hb:w0.heap.size<=b):Ext w0 (zeq w b f A n c):=by
 unfold zeq;exact((((((h.setCell (p:=⟨b,0,none⟩) hb _).setCell (p:=⟨b,1,none⟩) hb _).setCell (p:=⟨b,2,none⟩) hb _).setCell (p:=⟨b,3,none⟩) hb _).setCell (p:=⟨b,4,none⟩) hb _).setCell (p:=⟨b,5,none⟩) hb _).setCell (p:=⟨b,6,none⟩) hb _
theorem zlD(w:World)(b:Nat)(f:zab)(A:Option Addr)(n c:Nat):Same (fun q=>q≠b) w (zeq w b f A n c):=by
 unfold zeq;exact((((((((Same.refl _ w).store _ (fun h=>h rfl)).store _ (fun h=>h rfl)).store _ (fun h=>h rfl)).store _ (fun h=>h rfl)).store _ (fun h=>h rfl)).store _ (fun h=>h rfl)).store _ (fun h=>h rfl))
def zco(f:zab)(A:Option Addr)(n c:Nat):Array Value:=#[.string f.name,.int .i64 f.number,.int .i64 f.kind,.bool f.rep,.bool f.packed,.int .i64 f.of_,.slice A n c]
variable{n' c':Nat}{A':Option Addr}{g:zab}
theorem zcY(h:BlkT w b t (zco g A' n' c')):BlkT (zeq w b f A n c) b t (zco f A n c):=by
 unfold zeq;have:=((((((h.set_ 0 (.string f.name)).set_ 1 (.int .i64 f.number)).set_ 2 (.int .i64 f.kind)).set_ 3 (.bool f.rep)).set_ 4 (.bool f.packed)).set_ 5 (.int .i64 f.of_)).set_ 6 (.slice A n c);unfold zco at this⊢;simpa using this
variable{k:Nat}
theorem znS{B:Nat}{e:TypeId}{v:Value}{xs:List Value}(h:w.ownsRow B e 1 v k xs)(hb:b<B):(zeq w b f A n c).ownsRow B e 1 v k xs:=by
 unfold zeq;exact ownsRow_setCell_below (ownsRow_setCell_below (ownsRow_setCell_below (ownsRow_setCell_below (ownsRow_setCell_below (ownsRow_setCell_below (ownsRow_setCell_below h hb _) hb _) hb _) hb _) hb _) hb _) hb _
variable{ps:List (List UInt8)}
theorem zcm.stored{w1 w2:World}(hb:w.heap.size<=b)(hX:Ext w w1)(hb1:b<w1.heap.size)(BR:BlkT w2 b 79 (zco g A' n' c'))(own:Own w1 w2 24 1 A n c (l.map browV))(hl:∀r∈l,zac w2 r.A r.n r.c r.bs)(hp:zat l=ps):zcm f ps w (.returned (.agg (zco f A n c))) (zeq w2 b f A n c):=by
 refine⟨l,A,n,c,rfl,⟨zdX (znS own.row hb1) hX.size,zeG (hX.trans own.ext) hb⟩,fun r hr=> ?_,hp⟩;refine zcw (hl r hr) (zlC (hl r hr) BR (fun j x h=> ?_)) (zlD _ _ _ _ _ _);unfold zco at h;rcases j with _|_|_|_|_|_|_|j<;>simp at h
variable{x:Int}{M:MsgD}{m:Nat}{S:List MsgD}
theorem zbY(hM:S[m]?=some M)(h:zbj S m x=some f):∃j:Nat,M.fields[j]?=some f/\idxB (numP x) M.fields=j:=by
 unfold zbj at h;rw[hM]at h;simp only at h;rcases zaL (numP x) M.fields with⟨hI,_⟩|⟨j,g,hI,hg,_,_⟩
 . rw[zbm.1 hI]at h
   cases h
 . rw[zbm.2 j g hI hg]at h
   injection h with h;subst h;exact⟨j,hg,hI⟩
theorem zjt(h:S[m]?=some M):zar S m=M.fields:=by unfold zar;rw[h]
def zbu(n:Nat):Code->Option Code
 |.region i ops d=>if i=n then some (.region i ops d)else none
 |.loop c=>zbu n c
 |.seq a b=>match zbu n a with
  |some c=>some c
  |none=>zbu n b
 |.block _ c=>zbu n c
 |.scope c=>zbu n c
 |.cond _ a b=>match zbu n a with
  |some c=>some c
  |none=>zbu n b
 |_=>none
def zeS(Q:Exit->Act->World->Prop):Exit->Act->World->Prop
 |.panic x,a,w=>a.defers=[]/\Q (.panic x) ⟨#[],[]⟩ w
 |e,a,w=>Q e a w
theorem calmP{P:Program}{c:Code}{Q:Exit->Act->World->Prop}{a:Act}(hq:∀x a w,a.defers=[]->Q (.panic x) ⟨#[],[]⟩ w->Q (.panic x) a w)(h:c.wp P (zeS Q) a w):c.wp P Q a w:=
 Code.wp_mono (fun e a w h=>by
  cases e
  all_goals first|exact h|exact hq _ _ _ h.1 h.2) h
noncomputable def regA(n:Nat):Code:=((Tryz.f75.body.bind (zbu n)).getD .skip)
structure zpw where
 (b0 b1 b2 b3 b4 b5 b6 b7 b8:Bool)
 (s66 s67 s68 s69 s70 s71 s72 s73:Value)
 (A5:Option Addr)
 (c5:Nat)
 (A6:Option Addr)
 (n6:Nat)
 (c6:Nat)
 (l6:List BRow)
 (W6:World)
structure zrx(w:World)(sb so n c wb wo k kc rb fb:Nat)(A2:Option Addr)(vl c2:Nat)(fof:Int)(cutA:Option Addr)(k1 kc1 fl:Nat)(FL:List UInt8)(g:zab)(ps:List (List UInt8))(σ:zpw)(W:World):Prop where
 X:σ.b8=false->Ext w W
 Q0:σ.b0=true->σ.s66=.slice (some ⟨sb,so,none⟩) n c
 Q1:σ.b1=true->σ.s67=.pointer (some ⟨fb,5,none⟩)
 Q2:σ.b2=true->σ.s68=.int .i64 fof
 Q3:σ.b3=true->σ.s69=.slice A2 vl c2
 C4:σ.b4=true->σ.s70=.slice σ.A5 fl σ.c5
 C5:σ.b4=true->σ.b8=false->zac W σ.A5 fl σ.c5 FL
 Q5:σ.b5=true->σ.s71=.slice (some ⟨wb,wo,none⟩) k kc
 Q6:σ.b6=true->σ.s72=.slice cutA k1 kc1
 F7:σ.b7=true->σ.b8=false->σ.s73=zbG g σ.A6 σ.n6 σ.c6/\Own w W 24 1 σ.A6 σ.n6 σ.c6 (σ.l6.map browV)/\(∀r∈σ.l6,zac W r.A r.n r.c r.bs)/\zat σ.l6=ps
 F8:σ.b8=true->W=zeq σ.W6 rb g σ.A6 σ.n6 σ.c6/\Own w σ.W6 24 1 σ.A6 σ.n6 σ.c6 (σ.l6.map browV)/\(∀r∈σ.l6,zac σ.W6 r.A r.n r.c r.bs)/\zat σ.l6=ps
 D2:σ.b2=true->σ.b1=true
 D4:σ.b4=true->σ.b3=true
 D6:σ.b6=true->σ.b5=true
 D7:σ.b7=true->σ.b0=true/\σ.b2=true/\σ.b4=true/\σ.b6=true
 D8:σ.b8=true->σ.b0=true/\σ.b1=true/\σ.b2=true/\σ.b3=true/\σ.b4=true/\σ.b5=true/\σ.b6=true/\σ.b7=true
variable{kc:Nat}
theorem zsn{Q0:Exit->Act->World->Prop}{u1 u2 u4 u5 u6 u7 u9 u10 u13 u14 u15 u16 u17 u18 u19 u20 u21 u22 u23 u24 u25 u26 u27 u28 u29 u30 u31 u32 u33 u34 u35 u36 u37 u38 u39 u40 u41 u42 u43 u44 u45 u46 u47 u48 u49 u50 u51 u52 u53 u54 u55 u56 u57 u58 u59 u60 u61 u62 u63 u64 u65 u66 u67 u68 u69 u70 u71 u72 u73:Value}{sb so wb wo rb fb:Nat}{A2:Option Addr}{vl c2:Nat}{fof:Int}{cutA:Option Addr}{k1 kc1 fl:Nat}{FL:List UInt8}(hz:w.cell? ⟨fb,5,none⟩=some (.int .i64 fof)){g0:zab}{A0:Option Addr}{n0 c0:Nat}(BR:BlkT w rb 79 (zco g0 A0 n0 c0))(hcat:∀W:World,Ext w W->Calls prog 77 #[.slice A2 vl c2] W fun e w'=>∃A' c',e=.returned (.slice A' fl c')/\Own W w' 5 1 A' fl c' (FL.map bv))(hrec:∀(W:World)(A5:Option Addr)(c5:Nat),Ext w W->zac W A5 fl c5 FL->Calls prog 75 #[.slice (some ⟨sb,so,none⟩) n c,.int .i64 fof,.slice A5 fl c5,.slice cutA k1 kc1] W (zcm g ps W))(hcut:∀W:World,(Instr.slice 34 (.slice (some ⟨wb,wo,none⟩) k kc) (some (.int .i64 1)) none none).run prog W=.ok (.slice cutA k1 kc1) W)(hK:∀(s66 s67 s68 s69 s70 s71 s72 s73:Value)(A6:Option Addr)(n6 c6:Nat)(l6:List BRow)(W6 wz:World),wz=zeq W6 rb g A6 n6 c6->Own w W6 24 1 A6 n6 c6 (l6.map browV)->(∀r∈l6,zac W6 r.A r.n r.c r.bs)->zat l6=ps->Q0 .normal ⟨#[.slice (some ⟨sb,so,none⟩) n c,u1,u2,.slice (some ⟨wb,wo,none⟩) k kc,u4,u5,u6,u7,.pointer (some ⟨rb,0,none⟩),u9,u10,.pointer (some ⟨fb,0,none⟩),.slice A2 vl c2,u13,u14,u15,u16,u17,u18,u19,u20,u21,u22,u23,u24,u25,u26,u27,u28,u29,u30,u31,u32,u33,u34,u35,u36,u37,u38,u39,u40,u41,u42,u43,u44,u45,u46,u47,u48,u49,u50,u51,u52,u53,u54,u55,u56,u57,u58,u59,u60,u61,u62,u63,u64,u65,s66,s67,s68,s69,s70,s71,s72,s73],[]⟩ wz):
 Code.wp prog (regA 11) (zeS Q0) ⟨#[.slice (some ⟨sb,so,none⟩) n c,u1,u2,.slice (some ⟨wb,wo,none⟩) k kc,u4,u5,u6,u7,.pointer (some ⟨rb,0,none⟩),u9,u10,.pointer (some ⟨fb,0,none⟩),.slice A2 vl c2,u13,u14,u15,u16,u17,u18,u19,u20,u21,u22,u23,u24,u25,u26,u27,u28,u29,u30,u31,u32,u33,u34,u35,u36,u37,u38,u39,u40,u41,u42,u43,u44,u45,u46,u47,u48,u49,u50,u51,u52,u53,u54,u55,u56,u57,u58,u59,u60,u61,u62,u63,u64,u65,u66,u67,u68,u69,u70,u71,u72,u73],[]⟩ w:=by
 have HK:=zsz hK;clear hK
 conv=>arg 2;whnf
 obtain⟨I,hI⟩:∃I:Array Bool->Act->World->Prop,∀l a W,I l a W<->(∃σ:zpw,l=#[σ.b0,σ.b1,σ.b2,σ.b3,σ.b4,σ.b5,σ.b6,σ.b7,σ.b8]/\a=⟨#[.slice (some ⟨sb,so,none⟩) n c,u1,u2,.slice (some ⟨wb,wo,none⟩) k kc,u4,u5,u6,u7,.pointer (some ⟨rb,0,none⟩),u9,u10,.pointer (some ⟨fb,0,none⟩),.slice A2 vl c2,u13,u14,u15,u16,u17,u18,u19,u20,u21,u22,u23,u24,u25,u26,u27,u28,u29,u30,u31,u32,u33,u34,u35,u36,u37,u38,u39,u40,u41,u42,u43,u44,u45,u46,u47,u48,u49,u50,u51,u52,u53,u54,u55,u56,u57,u58,u59,u60,u61,u62,u63,u64,u65,σ.s66,σ.s67,σ.s68,σ.s69,σ.s70,σ.s71,σ.s72,σ.s73],[]⟩/\zrx w sb so n c wb wo k kc rb fb A2 vl c2 fof cutA k1 kc1 fl FL g ps σ W):=⟨_,fun _ _ _=>Iff.rfl⟩
 have HI:=zsz hI;clear hI;refine zbe (I:=I) (by kernel_rfl) (fun i l a W hi hr=> ?_) (fun l a W hi hr=> ?_) ?_
 . obtain⟨σ,rfl,rfl,G⟩:=(HI.out _ _ _).1 hi
   clear hi;obtain⟨hlt,hl,hd⟩:=zbo hr;clear hr;have hlt:i<9:=hlt;rcases(show i=0\/i=1\/i=2\/i=3\/i=4\/i=5\/i=6\/i=7\/i=8 by omega)with rfl|rfl|rfl|rfl|rfl|rfl|rfl|rfl|rfl
   . have e:σ.b0=false:=hl
     clear hl hlt hd;have He:=zsz e;clear e;refine zcy rfl rfl (fun K hK=> ?_);have HK2:=zsz hK;clear hK
     go_simp
     have e:=He.out;refine HK2.out _ _ ((HI.out _ _ _).2 ⟨{σ with b0:=true,s66:=_},rfl,rfl,{G with D7:=(fun h=>ff e (G.D7 h).1),D8:=(fun h=>ff e (G.D8 h).1),Q0:=(fun _=>rfl)}⟩)
   . have e:σ.b1=false:=hl
     clear hl hlt hd;have He:=zsz e;clear e;refine zcy rfl rfl (fun K hK=> ?_);have HK2:=zsz hK;clear hK
     go_simp
     have e:=He.out;refine HK2.out _ _ ((HI.out _ _ _).2 ⟨{σ with b1:=true,s67:=_},rfl,rfl,{G with D2:=(fun h=>ff e (G.D2 h)),D8:=(fun h=>ff e (G.D8 h).2.1),Q1:=(fun _=>rfl)}⟩)
   . have e:σ.b2=false:=hl
     have hd:=hd _ rfl;clear hl hlt;simp[Region.binds]at hd;have t1:σ.b1=true:=(by simp[hd])
     clear hd;have er:=G.Q1 t1
     have e8:σ.b8=false:=by
      rcases hs:σ.b8 with _|_
      . rfl
      . exact ff e (G.D8 hs).2.2.1
     have g1:W.cell? ⟨fb,5,none⟩=some (.int .i64 fof):=(G.X e8).of_cell hz;have gl:fb<W.heap.size:=World.block_lt_of_cell? W _ g1;have H8:=zsz e8;clear e8;have He:=zsz e;clear e;refine zcy rfl rfl (fun K hK=> ?_);have HK2:=zsz hK;clear hK
     go_simp
     have e:=He.out;refine HK2.out _ _ ((HI.out _ _ _).2 ⟨{σ with b2:=true,s68:=_,s67:=_},rfl,rfl,{G with D2:=(fun _=>t1),D7:=(fun h=>ff e (G.D7 h).2.1),D8:=(fun h=>ff e (G.D8 h).2.2.1),Q1:=(fun _=>rfl),Q2:=(fun _=>rfl)}⟩)
   . have e:σ.b3=false:=hl
     clear hl hlt hd;have He:=zsz e;clear e;refine zcy rfl rfl (fun K hK=> ?_);have HK2:=zsz hK;clear hK
     go_simp
     have e:=He.out;refine HK2.out _ _ ((HI.out _ _ _).2 ⟨{σ with b3:=true,s69:=_},rfl,rfl,{G with D4:=(fun h=>ff e (G.D4 h)),D8:=(fun h=>ff e (G.D8 h).2.2.2.1),Q3:=(fun _=>rfl)}⟩)
   . have e:σ.b4=false:=hl
     have hd:=hd _ rfl;clear hl hlt;simp[Region.binds]at hd;have t3:σ.b3=true:=(by simp[hd])
     clear hd;have er:=G.Q3 t3
     have e8:σ.b8=false:=by
      rcases hs:σ.b8 with _|_
      . rfl
      . exact ff e (G.D8 hs).2.2.2.2.1
     have HX:=zsz (G.X e8);have H8:=zsz e8;clear e8;have He:=zsz e;clear e;refine zcy rfl rfl (fun K hK=> ?_);have HK2:=zsz hK;clear hK
     go_simp
     go_at_call 77
     refine(hcat W HX.out).mono ?_;rintro e1 W2 ⟨Ad,cd,rfl,od⟩
     (try dsimp only)
     (try simp only[Act.put,List.setIfInBounds_toArray,List.set_cons_zero,List.set_cons_succ])
     have e:=He.out;refine HK2.out _ _ ((HI.out _ _ _).2 ⟨{σ with b4:=true,s70:=_,s69:=_,A5:=Ad,c5:=cd},rfl,rfl,{G with D4:=(fun _=>t3),D7:=(fun h=>ff e (G.D7 h).2.2.1),D8:=(fun h=>ff e (G.D8 h).2.2.2.2.1),Q3:=(fun _=>rfl),X:=(fun _=>HX.out.trans od.ext),C4:=(fun _=>rfl),C5:=(fun _ _=>od.reads),F7:=(fun h=>ff e (G.D7 h).2.2.1),F8:=(fun h=>ff e (G.D8 h).2.2.2.2.1)}⟩)
   . have e:σ.b5=false:=hl
     clear hl hlt hd;have He:=zsz e;clear e;refine zcy rfl rfl (fun K hK=> ?_);have HK2:=zsz hK;clear hK
     go_simp
     have e:=He.out;refine HK2.out _ _ ((HI.out _ _ _).2 ⟨{σ with b5:=true,s71:=_},rfl,rfl,{G with D6:=(fun h=>ff e (G.D6 h)),D8:=(fun h=>ff e (G.D8 h).2.2.2.2.2.1),Q5:=(fun _=>rfl)}⟩)
   . have e:σ.b6=false:=hl
     have hd:=hd _ rfl;clear hl hlt;simp[Region.binds]at hd;have t5:σ.b5=true:=(by simp[hd])
     clear hd;have er:=G.Q5 t5
     have e8:σ.b8=false:=by
      rcases hs:σ.b8 with _|_
      . rfl
      . exact ff e (G.D8 hs).2.2.2.2.2.2.1
     have H8:=zsz e8;clear e8;have He:=zsz e;clear e;refine zcy rfl rfl (fun K hK=> ?_);have HK2:=zsz hK;clear hK
     go_simp
     have e:=He.out;refine HK2.out _ _ ((HI.out _ _ _).2 ⟨{σ with b6:=true,s72:=_,s71:=_},rfl,rfl,{G with D6:=(fun _=>t5),D7:=(fun h=>ff e (G.D7 h).2.2.2),D8:=(fun h=>ff e (G.D8 h).2.2.2.2.2.2.1),Q5:=(fun _=>rfl),Q6:=(fun _=>rfl)}⟩)
   . have e:σ.b7=false:=hl
     have hd:=hd _ rfl;clear hl hlt;simp[Region.binds]at hd;have t0:σ.b0=true:=(by simp[hd])
     have t2:σ.b2=true:=(by simp[hd])
     have t4:σ.b4=true:=(by simp[hd])
     have t6:σ.b6=true:=(by simp[hd])
     clear hd;have e0:=G.Q0 t0;have e2:=G.Q2 t2;have e4:=G.C4 t4;have e6:=G.Q6 t6
     have e8:σ.b8=false:=by
      rcases hs:σ.b8 with _|_
      . rfl
      . exact ff e (G.D8 hs).2.2.2.2.2.2.2
     have HX:=zsz (G.X e8);have HB:=zsz (G.C5 t4 e8);have H8:=zsz e8;clear e8;have He:=zsz e;clear e;refine zcy rfl rfl (fun K hK=> ?_);have HK2:=zsz hK;clear hK
     go_simp
     go_at_call 75
     refine(hrec W _ _ HX.out HB.out).mono ?_;rintro e1 W2 ⟨ld,Ad,nd,cd,rfl,od,pd,qd⟩
     (try dsimp only)
     (try simp only[Act.put,List.setIfInBounds_toArray,List.set_cons_zero,List.set_cons_succ])
     have e:=He.out;refine HK2.out _ _ ((HI.out _ _ _).2 ⟨{σ with b7:=true,s73:=_,s66:=_,s68:=_,s70:=_,s72:=_,A6:=Ad,n6:=nd,c6:=cd,l6:=ld},rfl,rfl,{G with D7:=(fun _=>⟨t0,t2,t4,t6⟩),D8:=(fun h=>ff e (G.D8 h).2.2.2.2.2.2.2),Q0:=(fun _=>rfl),Q2:=(fun _=>rfl),C4:=(fun _=>rfl),Q6:=(fun _=>rfl),X:=(fun _=>HX.out.trans od.ext),C5:=(fun _ _=>HB.out.ext od.ext),F7:=(fun _ _=>⟨rfl,od.since HX.out,pd,qd⟩),F8:=(fun h=>ff e (G.D8 h).2.2.2.2.2.2.2)}⟩)
   . have e:σ.b8=false:=hl
     have hd:=hd _ rfl;clear hl hlt;simp[Region.binds]at hd;have t0:σ.b0=true:=(by simp[hd])
     have t1:σ.b1=true:=(by simp[hd])
     have t2:σ.b2=true:=(by simp[hd])
     have t3:σ.b3=true:=(by simp[hd])
     have t4:σ.b4=true:=(by simp[hd])
     have t5:σ.b5=true:=(by simp[hd])
     have t6:σ.b6=true:=(by simp[hd])
     have t7:σ.b7=true:=(by simp[hd])
     clear hd;obtain⟨ef,ow,pw,qw⟩:=G.F7 t7 e;unfold zbG at ef;have B:=BR.up (G.X e);have gz0:W.cell? ⟨rb,0,none⟩=some (.string g0.name):=B.cell 0;have gz1:W.cell? ⟨rb,1,none⟩=some (.int .i64 g0.number):=B.cell 1;have gz2:W.cell? ⟨rb,2,none⟩=some (.int .i64 g0.kind):=B.cell 2;have gz3:W.cell? ⟨rb,3,none⟩=some (.bool g0.rep):=B.cell 3;have gz4:W.cell? ⟨rb,4,none⟩=some (.bool g0.packed):=B.cell 4;have gz5:W.cell? ⟨rb,5,none⟩=some (.int .i64 g0.of_):=B.cell 5;have gz6:W.cell? ⟨rb,6,none⟩=some (.slice A0 n0 c0):=B.cell 6;have f0:=B.free 0;have f1:=B.free 1;have f2:=B.free 2;have f3:=B.free 3;have f4:=B.free 4;have f5:=B.free 5;have f6:=B.free 6;have lb:=B.lt;have HO:=zsz ow;have HP:=zsz pw;have HQ:=zsz qw;clear ow pw qw B;have He:=zsz e;clear e;refine zcy rfl rfl (fun K hK=> ?_);have HK2:=zsz hK;clear hK
     go_simp
     have e:=He.out;refine HK2.out _ _ ((HI.out _ _ _).2 ⟨{σ with b8:=true,s73:=_,W6:=W},rfl,rfl,{G with D8:=(fun _=>⟨t0,t1,t2,t3,t4,t5,t6,t7⟩),X:=(fun h=>by cases h),C5:=(fun _ h=>by cases h),F7:=(fun _ h=>by cases h),F8:=(fun _=>⟨rfl,HO.out,HP.out,HQ.out⟩)}⟩)
 . obtain⟨σ,rfl,rfl,G⟩:=(HI.out _ _ _).1 hi
   clear hi;have t0:σ.b0=true:=zaa hr (i:=0) rfl (by simp[Region.binds]) (show 0<9 by decide);have t1:σ.b1=true:=zaa hr (i:=1) rfl (by simp[Region.binds,t0]) (show 1<9 by decide);have t2:σ.b2=true:=zaa hr (i:=2) rfl (by simp[Region.binds,t0,t1]) (show 2<9 by decide);have t3:σ.b3=true:=zaa hr (i:=3) rfl (by simp[Region.binds,t0,t1,t2]) (show 3<9 by decide);have t4:σ.b4=true:=zaa hr (i:=4) rfl (by simp[Region.binds,t0,t1,t2,t3]) (show 4<9 by decide);have t5:σ.b5=true:=zaa hr (i:=5) rfl (by simp[Region.binds,t0,t1,t2,t3,t4]) (show 5<9 by decide);have t6:σ.b6=true:=zaa hr (i:=6) rfl (by simp[Region.binds,t0,t1,t2,t3,t4,t5]) (show 6<9 by decide);have t7:σ.b7=true:=zaa hr (i:=7) rfl (by simp[Region.binds,t0,t1,t2,t3,t4,t5,t6]) (show 7<9 by decide);have t8:σ.b8=true:=zaa hr (i:=8) rfl (by simp[Region.binds,t0,t1,t2,t3,t4,t5,t6,t7]) (show 8<9 by decide);obtain⟨p1,p2,p3,p4⟩:=G.F8 t8;exact HK.out _ _ _ _ _ _ _ _ _ _ _ _ _ W p1 p2 p3 p4
 . refine(HI.out _ _ _).2 ⟨⟨false,false,false,false,false,false,false,false,false,_,_,_,_,_,_,_,_,none,0,none,0,0,[],w⟩,rfl,rfl,?_⟩
   constructor
   all_goals (try dsimp only)
   all_goals first|exact(Ext.refl w).drew|exact fun _=>(Ext.refl w).drew|(intro h;cases h;done)
def zdJ:Array Value:=#[.string ⟨#[]⟩,.int .i64 0,.int .i64 0,.bool false,.bool false,.int .i64 0,.slice none 0 0]
theorem zpx{B C:Option Addr}{nb cb:Nat}{S:List MsgV}{rest:List Int}(hs:zag w A n c S)(hR:zan (S.map MsgV.d)=true)(hm:m<n)(hf:zbj (S.map MsgV.d) m x=some f)(hb:zac w B nb cb bs)(hnb:nb<=1000000000)(hk:k=rest.length+1)(hw:Reads w C k kc 1 ((x::rest).map wyV))(hk2:k<=1000)(h1:rest=[]->g=f/\ps=zaU (zar (S.map MsgV.d) m) bs x)(h2:rest≠ []->∀(W:World)(A2 C2:Option Addr)(m2 c2 k2:Nat),Ext w W->zac W A2 m2 c2 (zaU (zar (S.map MsgV.d) m) bs x).flatten->Reads W C2 (k - 1) k2 1 (rest.map wyV)->Calls prog 75 #[.slice A n c,.int .i64 f.of_,.slice A2 m2 c2,.slice C2 (k - 1) k2] W (zcm g ps W)):
 Calls prog 75 #[.slice A n c,.int .i64 (m:Int),.slice B nb cb,.slice C k kc] w (zcm g ps w):=by
 obtain⟨cutA,hcut,hrest⟩:=zbx zgB hw .i64 (l:=1) (by omega);have hcut1:∀W:World,(Instr.slice 34 (.slice C k kc) (some (.int .i64 1)) none none).run prog W=.ok (.slice cutA (k - 1) (kc - 1)) W:=hcut;obtain⟨wb,wo,rfl,hwb,hwc⟩:=hw.at_ (by omega);have w0:w.cell? ⟨wb,wo,none⟩=some (.int .i64 x):=hwc 0 _ rfl;obtain⟨sb,so,⟨⟨Mn,Mf⟩,MA,Mk,Mc⟩,rfl,hM,hF,hMn,hsb,s0,s1⟩:=hs.msg hm;simp only at hF hMn s0 s1;have hM':(S.map MsgV.d)[m]?=some ⟨Mn,Mf⟩:=by rw[List.getElem?_map,hM];rfl
 have hFl:=hF.length;have hF2:=(zbd hR hM').2.2.1;simp only at hF2;have hMk:Mk<=1000000000000:=by omega
 rw[zjt hM']at h1 h2;simp only at h1 h2;obtain⟨j,hj,hI⟩:=zbY hM' hf;simp only at hj hI
 have hby:∀W:World,zav W MA Mk Mc Mf->Calls prog 107 #[.agg #[.string Mn,.slice MA Mk Mc],.int .i64 x] W fun e w'=>e=.returned (.tuple #[.int .i64 (j:Nat),.bool true])/\Ext W w':=fun W h=>by
  have:=zhQ (s:=Mn) (x:=x) h hMk hI
  rwa[show max ((j:Nat):Int) 0=(j:Nat)by omega,show decide ((0:Int)<=(j:Nat))=true by simp]at this
 have hjl:j<Mk:=by have:=(List.getElem?_eq_some_iff.1 hj).1;omega
 have hji:(j:Int)<Mk:=by omega
 have hmi:(m:Int)<n:=by omega
 have hki:(0:Int)<k:=by omega
 have hk0:0<k:=by omega
 obtain⟨fb,fo,f',rfl,hf',hok,hfb,c0,c1,c2',c3,c4,c5⟩:=hF.field hjl;obtain rfl:f'=f:=Option.some.inj (hf'.symm.trans hj);rcases hv:zae Mf bs with⟨L,P,K⟩
 have hpn:zaU Mf bs x=(L.filter (ofP x)).map (zak bs):=by unfold zaU;rw[hv]
 rw[hpn]at h1 h2
 have hbd:∀v∈L.filter (ofP x),v.r.a<=v.r.t/\v.r.t<=nb:=fun v hvm=>by
  have h:=zbO (fs:=Mf) (bs:=bs) (v:=v) (by rw[hv];exact(List.mem_filter.1 hvm).1);have:=hb.length;omega
 have hVl:(L.filter (ofP x)).length<=nb:=by
  have h:=(zdd Mf bs).2.1;rw[hv]at h;have:=List.length_filter_le (ofP x) L;have:=hb.length;simp only at h;omega
 have hof:=fun W (h:Ext w W)=>vOf (s:=Mn) (x:=x) (hF.up h) hMk (hb.up h) hnb hv
 have hfl:((L.filter (ofP x)).map (zak bs)).flatten.length<=nb:=by
  have:=zbK Mf bs x;rw[hpn,hb.length]at this;exact this
 obtain⟨V,hV⟩:∃V,V=L.filter (ofP x):=⟨_,rfl⟩
 rw[<-hV]at h1 h2 hbd hVl hof hfl;have Hof:=zsz hof
 have Hby:=zsz hby;have HFF:=zsz hF;have Hs:=zsz hs;have HB:=zsz hb;have H1:=zsz h1;have H2:=zsz h2;have Hbd:=zsz hbd;have Hcut:=zsz hcut1;have Hrest:=zsz hrest;have Hfl:=zsz hfl;have Hk:=zsz hk;have Hf':=zsz hf';clear hof hby hF hs hb h1 h2 hbd hcut hcut1 hrest hfl hV hpn hv hj hI hf hM hM' hFl hF2 hok hwc hw hf' hk hR;obtain⟨fname,fnum,fkind,frep,fpk,fof⟩:=f';simp only at c0 c1 c2' c3 c4 c5
 go_enter func75,ntmps75
 go_wp2_with fail
 have BR:=BlkT.new w 79 zdJ rfl;have X0:Ext w (w.alloc (.cells zdJ 79)):=xx;unfold zdJ at BR X0;generalize w.alloc (.cells #[.string ⟨#[]⟩,.int .i64 0,.int .i64 0,.bool false,.bool false,.int .i64 0,.slice none 0 0] 79)=wx at*;replace c0:=X0.of_cell c0;replace c1:=X0.of_cell c1;replace c2':=X0.of_cell c2';replace c3:=X0.of_cell c3;replace c4:=X0.of_cell c4;replace c5:=X0.of_cell c5;replace s0:=X0.of_cell s0;replace s1:=X0.of_cell s1;replace w0:=X0.of_cell w0;replace hfb:=Nat.lt_of_lt_of_le hfb X0.size;replace hsb:=Nat.lt_of_lt_of_le hsb X0.size;replace hwb:=Nat.lt_of_lt_of_le hwb X0.size
 go_region_held3 (fun W=>Ext wx W/\∀b o,b<wx.heap.size->W.cell? ⟨b,o,none⟩=wx.cell? ⟨b,o,none⟩) ((refine Ext.keep ?_;repeat with_reducible (first|assumption|exact Ext.refl _|refine Ext.alloc ?_ _|refine Ext.drew ?_|refine Ext.drewN ?_ _|refine Ext.setCell ?_ (by first|omega|(simp<;>omega)) _))) (first|(go_split_ands;go_at_call 107;refine(Hby.out _ (HFF.out.up (X0.trans (by with_reducible assumption)))).mono ?_;rintro e w1 ⟨rfl,E1⟩;have q0:Ext wx w1:=Ext.trans (by with_reducible assumption) E1))
 rename Ext wx w1/\_=>hS
 clear hS;replace c0:=q0.of_cell c0;replace c1:=q0.of_cell c1;replace c2':=q0.of_cell c2';replace c3:=q0.of_cell c3;replace c4:=q0.of_cell c4;replace c5:=q0.of_cell c5;replace s0:=q0.of_cell s0;replace s1:=q0.of_cell s1;replace w0:=q0.of_cell w0;replace hfb:=Nat.lt_of_lt_of_le hfb q0.size;replace hsb:=Nat.lt_of_lt_of_le hsb q0.size;replace hwb:=Nat.lt_of_lt_of_le hwb q0.size;replace BR:=BR.up q0;have X1:=X0.trans q0;clear X0 q0
 go_wp2
 have X2:Ext w1 (w1.alloc (.cells #[.string fname,.int .i64 fnum,.int .i64 fkind,.bool frep,.bool fpk,.int .i64 fof] 43)):=xx;have BF:=BlkT.new w1 43 #[.string fname,.int .i64 fnum,.int .i64 fkind,.bool frep,.bool fpk,.int .i64 fof] rfl;have hw1:w.heap.size<w1.heap.size:=BR.lt;generalize w1.alloc (.cells #[.string fname,.int .i64 fnum,.int .i64 fkind,.bool frep,.bool fpk,.int .i64 fof] 43)=wy at*;replace s0:=X2.of_cell s0;replace s1:=X2.of_cell s1;replace w0:=X2.of_cell w0;replace hsb:=Nat.lt_of_lt_of_le hsb X2.size;replace hwb:=Nat.lt_of_lt_of_le hwb X2.size;replace BR:=BR.up X2;have X3:=X1.trans X2;have Hw1:Hid (w.heap.size<wy.heap.size):=Nat.lt_of_lt_of_le hw1 X2.size;clear c0 c1 c2' c3 c4 c5 hfb hji hjl X1 X2
 go_region_held3 (fun W=>Ext wy W/\∀b o,b<wy.heap.size->W.cell? ⟨b,o,none⟩=wy.cell? ⟨b,o,none⟩) ((refine Ext.keep ?_;repeat with_reducible (first|assumption|exact Ext.refl _|refine Ext.alloc ?_ _|refine Ext.drew ?_|refine Ext.drewN ?_ _|refine Ext.setCell ?_ (by first|omega|(simp<;>omega)) _))) (first|(go_split_ands;go_at_call 108;refine(Hof.out _ (X3.trans (by with_reducible assumption))).mono ?_;rintro e w3 ⟨A3,c3,rfl,own3⟩;have q3:Ext wy w3:=Ext.trans (by with_reducible assumption) own3.ext))
 rename Ext wy w3/\_=>hS
 clear hS;replace BR:=BR.up q3;replace BF:=BF.up q3;have X4:=X3.trans q3;replace Hw1:Hid (w.heap.size<w3.heap.size):=Nat.lt_of_lt_of_le Hw1.out q3.size;clear s0 s1 w0 X3 q3;have hrd:=own3.reads;have Hrd:=zsz hrd;have hmax:=hrd.max;clear hrd own3
 go_wp2_with fail
 go_loopw [12,44] (fun t12 t44 wr=>∃(q:Nat)(A2:Option Addr)(c2:Nat)(rows:List BRow),q<=V.length/\t44=.int .i64 q/\t12=.slice A2 q c2/\Own w3 wr 24 1 A2 q c2 (rows.map browV)/\Hid ((∀r∈rows,zac w r.A r.n r.c r.bs)/\zat rows=(V.take q).map (zak bs)))
  (fun _ i _=>V.length - (intOf i).toNat)
 case atStart=>exact⟨0,none,0,[],Nat.zero_le _,rfl,rfl,Own.nil (Ext.refl _) 24 1,⟨fun r hr=>(by cases hr),rfl⟩⟩
 case round=>
  obtain⟨q,A2,c2,rows,hq,rfl,rfl,own,hrows⟩:=hrel;by_cases hlt:q<V.length
  . have hlt2:(q:Int)<V.length:=by omega
    obtain⟨b,off,v,rfl,hv,hb1,c0,c1',c2',c3',c4,c5,c6⟩:=(Hrd.out.ext own.ext).view' hlt;have hvb:=Hbd.out v (List.mem_of_getElem? hv);obtain⟨A9,hcut9,hb9⟩:=zcc HB.out hvb.1 hvb.2;obtain⟨⟨vn,vw,vf,va,vt⟩,vfi,vr⟩:=v;simp only at c0 c1' c2' c3' c4 c5 c6 hvb hcut9 hb9;have Hv:=zsz hv;have Hb9:=zsz hb9;clear hv hb9
    go_wp2_with (at_builtin;refine zaH zqD rfl (.tmp 48) (.tmp 57) rfl rfl (own.up xx) rfl (by first|rfl|simp) rfl (by omega) (by unfold maxLen;omega) ?_;intro A4 c4 w4 own4 g4)
    have Hown4:=zsz own4;clear g4 own4
    go_roundw
    case rel=>
     refine⟨q+1,A4,c4,rows++[⟨A9,vt - va,cb - va,spanB bs va vt⟩],by omega,by go_num,rfl,by simpa[browV] using Hown4.out,?_⟩;refine⟨fun r hr=> ?_,?_⟩
     . rcases List.mem_append.1 hr with hr|hr
       . exact hrows.out.1 r hr
       . rw[List.mem_singleton]at hr
         subst hr;exact Hb9.out
     . have:=hrows.out.2
       unfold zat at this⊢;rw[List.map_append,this,List.take_add_one,Hv.out];simp[zak]
    case measure=>simp[intOf];omega
  . have hqe:q=V.length:=by omega
    subst hqe;obtain⟨r1,r2⟩:=hrows.out;rw[List.take_length]at r2;have E4:=own.ext;have hB:zbw wr A2 V.length c2 rows:=⟨own.reads,fun r hr=>(r1 r hr).ext (X4.trans E4)⟩
    have X5:=X4.trans E4;replace BR:=BR.up E4;replace BF:=BF.up E4;have z0:wr.cell? ⟨w1.heap.size,0,none⟩=some (.string fname):=BF.cell 0;have z1:wr.cell? ⟨w1.heap.size,1,none⟩=some (.int .i64 fnum):=BF.cell 1;have z2:wr.cell? ⟨w1.heap.size,2,none⟩=some (.int .i64 fkind):=BF.cell 2;have z3:wr.cell? ⟨w1.heap.size,3,none⟩=some (.bool frep):=BF.cell 3;have z4:wr.cell? ⟨w1.heap.size,4,none⟩=some (.bool fpk):=BF.cell 4;have z5:wr.cell? ⟨w1.heap.size,5,none⟩=some (.int .i64 fof):=BF.cell 5;have zl:=BF.lt;have y0:wr.cell? ⟨w.heap.size,0,none⟩=some (.string ⟨#[]⟩):=BR.cell 0;have y1:wr.cell? ⟨w.heap.size,1,none⟩=some (.int .i64 0):=BR.cell 1;have y2:wr.cell? ⟨w.heap.size,2,none⟩=some (.int .i64 0):=BR.cell 2;have y3:wr.cell? ⟨w.heap.size,3,none⟩=some (.bool false):=BR.cell 3;have y4:wr.cell? ⟨w.heap.size,4,none⟩=some (.bool false):=BR.cell 4;have y5:wr.cell? ⟨w.heap.size,5,none⟩=some (.int .i64 0):=BR.cell 5;have y6:wr.cell? ⟨w.heap.size,6,none⟩=some (.slice none 0 0):=BR.cell 6;have x0:=BR.free 0;have x1:=BR.free 1;have x2:=BR.free 2;have x3:=BR.free 3;have x4:=BR.free 4;have x5:=BR.free 5;have x6:=BR.free 6;have yl:=BR.lt;have hw3:w.heap.size<w3.heap.size:=Hw1.out;have Hown:=zsz own;have HBR:=zsz BR;have HBs:=zsz hB;have Hr2:=zsz r2;clear r1 r2 own hB BR hrows hmax hw1;by_cases hlast:rest=[]
    . obtain⟨rfl,rfl⟩:=H1.out hlast
      have q:((k:Int)==1)=true:=by rw[beq_iff_eq];have:=Hk.out;rw[hlast]at this;simp at this;omega
      clear hlast
      go_wp2
      refine bodyPost_ret (results_cell_row (ty:=79) rfl _ _ w.heap.size _ _ (0,0) _ rfl (zcY (f:=⟨fname,fnum,fkind,frep,fpk,fof⟩) (g:=⟨⟨#[]⟩,0,0,false,false,0⟩) HBR.out) underlying79 rfl (by kernel_rfl)) rfl ?_;exact zcm.stored (g:=⟨⟨#[]⟩,0,0,false,false,0⟩) (Nat.le_refl _) X4 hw3 HBR.out Hown.out HBs.out.2 Hr2.out
    . have hp:=List.length_pos_iff.2 hlast
      have q:((k:Int)==1)=false:=by rw[beq_eq_false_iff_ne];have:=Hk.out;omega
      have hrec:=H2.out hlast;obtain⟨FL,hFL⟩:∃FL,FL=(V.map (zak bs)).flatten:=⟨_,rfl⟩
      obtain⟨fl,hfl⟩:∃fl,fl=FL.length:=⟨_,rfl⟩
      have hflat:flatR rows=FL:=by rw[zdI,Hr2.out,hFL]
      have hlen:fl<=nb:=by rw[hfl,hFL];exact Hfl.out
      have hcat:∀W:World,Ext wr W->Calls prog 77 #[.slice A2 V.length c2] W fun e w'=>∃A' c',e=.returned (.slice A' fl c')/\Own W w' 5 1 A' fl c' (FL.map bv):=fun W h=>by
       have:=zkI (HBs.out.up h) (by rw[hflat,<-hfl];omega);rw[hflat,<-hfl]at this;exact this
      rw[<-hFL]at hrec;have hrest1:Reads w cutA (k - 1) (kc - 1) 1 (rest.map wyV):=by simpa using Hrest.out
      have hc1:=Hcut.out;have Hrec:=zsz hrec;have Hcat:=zsz hcat;have Hrest1:=zsz hrest1;have HFL:=zsz hfl;obtain⟨gname,gnum,gkind,grep,gpk,gof⟩:=g;clear hlast hp hrec hcat hrest1 hfl hFL hflat
      go_wp2_with fail
      refine calmP (fun _ _ _ hd h=>⟨hd,h.2⟩) (zsn (g:=⟨gname,gnum,gkind,grep,gpk,gof⟩) (ps:=ps) (g0:=⟨⟨#[]⟩,0,0,false,false,0⟩) (A0:=none) (n0:=0) (c0:=0) z5 HBR.out Hcat.out (fun W A5 c5 h hb=>Hrec.out W A5 cutA fl c5 (kc - 1) (X5.trans h) hb (Hrest1.out.ext (X5.trans h))) hc1 ?_);intro s66 s67 s68 s69 s70 s71 s72 s73 A6 n6 c6 l6 W6 wz hwz own6 hl6 hp6;subst hwz
      go_wp2
      refine bodyPost_ret (results_cell_row (ty:=79) rfl _ _ w.heap.size _ _ (0,0) _ rfl (zcY (f:=⟨gname,gnum,gkind,grep,gpk,gof⟩) (g:=⟨⟨#[]⟩,0,0,false,false,0⟩) (HBR.out.up own6.ext)) underlying79 rfl (by kernel_rfl)) rfl ?_;exact zcm.stored (g:=⟨⟨#[]⟩,0,0,false,false,0⟩) (Nat.le_refl _) X5 (by have:=E4.size;omega) (HBR.out.up own6.ext) own6 hl6 hp6
end Go.Proofs.YtpicpebolghcfaaGreatDoor
