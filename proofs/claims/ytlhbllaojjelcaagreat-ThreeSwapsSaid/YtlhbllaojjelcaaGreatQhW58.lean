/- Contracts of layer 26: three meanings made one. (Printed by gen_w58.py.) -/
import Derived.Test.YtlhbllaojjelcaaGreatQhW56

set_option linter.unusedVariables false
set_option linter.unusedSimpArgs false
set_option maxRecDepth 100000
set_option maxHeartbeats 4000000
namespace Go.Proofs.YtlhbllaojjelcaaGreat
open Go.RowKit Go.Shelf Go.Proofs.Tryz
theorem zgd{P:Program}{fn:Func}{p u v:Tmp}{ty:TypeId}(h:fn.results=#[.cell p ty,.tmp u,.tmp v])(tmps:Array Value)(w:World)(g:Nat)(t:TypeId)(cs:Array Value)(fr:Nat×Nat)(d:TypeDesc)(hp:tmps.getD p undef=.pointer (some ⟨g,0,none⟩))(hg:w.heap[g]?=some (.cells cs t fr))(hu:P.underlying ty=some d)(hd:(match d with|.struct _|.array _ _=>true|_=>false)=true)(hi:(P.info? ty).map (·.size)=some cs.size):
 (results fn tmps).run P w=.ok (.tuple #[.agg cs,tmps.getD u undef,tmps.getD v undef]) w:=by
 have hp':tmps[p]?.getD undef=.pointer (some ⟨g,0,none⟩):=by simpa using hp
 simp[results,h,hp',asAddr,run_loadVar_row w g t ty cs fr d hg hu hd hi]
theorem ziD{bk b:Nat}(h:KU bk none [] b):b=bk:=by
 rcases h with h|h|⟨r,hr,_⟩
 . exact h
 . cases h
 . cases hr
theorem zoK{d m:Nat}{w:World}{SA:Option Addr}{sn sc:Nat}{S:List MsgV}{root:Int}{o a b:MsgR}(hs:zaj w SA sn sc S)(ho:zah w o)(ha:zah w a)(hb:zah w b)(fo:FitT 1000000000000 o)(fa:FitT 1000000000000 a)(fb:FitT 1000000000000 b)(xo:zaS 1000000000 o)(xa:zaS 1000000000 a)(xb:zaS 1000000000 b)(hm:root=(m:Int))(hR:zan (S.map MsgV.d)=true)(hr:m<sn)(ro:zaE (S.map MsgV.d) d m (bare o))(ra:zaE (S.map MsgV.d) d m (bare a))(rb:zaE (S.map MsgV.d) d m (bare b))(hd:d<=1000000)(hz:(zcg (S.map MsgV.d) d m (bare o) (bare a) (bare b) []).2.length<=1000000000):
 Calls prog 9 #[.slice SA sn sc,.int .i64 root,treeV o,treeV a,treeV b] w fun e w'=>∃(y:MsgR)(A':Option Addr)(n' c':Nat)(l':List WRow),e=.returned (.tuple #[treeV y,.slice A' n' c',.int .u8 0])/\bare y=(zcg (S.map MsgV.d) d m (bare o) (bare a) (bare b) []).1/\zah w' y/\(∀q,UsesT y q->w.heap.size<=q)/\zbA w' A' n' c' l'/\l'.map (·.way)=(zcg (S.map MsgV.d) d m (bare o) (bare a) (bare b) []).2/\(∀q,WUses A' n' l' q->w.heap.size<=q)/\Ext w w':=by
 subst hm;have h1:=fun W (E:Ext w W)=>zmt (hs.up E)
 rw[hR]at h1;have H0:=zsp h1;have go:=fun W (E:Ext w W)=>zjn (root:=(m:Int)) (hs.up E) (ho.up E) fo xo
 rw[hR,zbQ (show RI (S.map MsgV.d) (m:Int) (bare o)from⟨by omega,d,by rw[Int.toNat_natCast];exact ro⟩)]at go;unfold treeV at go;have R0:=zsp go;have ga:=fun W (E:Ext w W)=>zjn (root:=(m:Int)) (hs.up E) (ha.up E) fa xa
 rw[hR,zbQ (show RI (S.map MsgV.d) (m:Int) (bare a)from⟨by omega,d,by rw[Int.toNat_natCast];exact ra⟩)]at ga;unfold treeV at ga;have R1:=zsp ga;have gb:=fun W (E:Ext w W)=>zjn (root:=(m:Int)) (hs.up E) (hb.up E) fb xb
 rw[hR,zbQ (show RI (S.map MsgV.d) (m:Int) (bare b)from⟨by omega,d,by rw[Int.toNat_natCast];exact rb⟩)]at gb;unfold treeV at gb;have R2:=zsp gb;have hSl:=hs.length;have hfit:=zfO (S:=S.map MsgV.d) (B:=1000000000000) (by omega) (fun k M hM=>by have:=(zbk hR hM).2.2.1;omega) d m (bare o) (bare a) (bare b) [] (FitT.to_bare a fa) (FitT.to_bare b fb)
 have hcall:=fun(W:World)(bk:Nat)(X:Ext w W)(q:BlkT W bk 73 #[.slice SA sn sc,.slice none 0 0])(hk:w.heap.size<=bk)=>
  zmm (w0:=w) (bk:=bk) hR hs d m o a b W none 0 0 [] none 0 0 [] hr ⟨q,⟨Own.nil X _ _,fun r h=>(by cases h),fun r h=>(by cases h)⟩,hk⟩ (ho.up X) (ha.up X) (hb.up X) fo fa fb ro ra rb
   (fun q hq p=>(by have:=ziD p;have:=ho.lt hq;omega)) (fun q hq p=>(by have:=ziD p;have:=ha.lt hq;omega)) (fun q hq p=>(by have:=ziD p;have:=hb.lt hq;omega))
   (Reads.nil W 1) (by omega) (fun q hq=>absurd hq.1 (Nat.lt_irrefl 0)) (by omega)
 generalize zcg (S.map MsgV.d) d m (bare o) (bare a) (bare b) []=R at*;have hcopy:=fun(W:World)(y:MsgR)(h:zah W y)(e:bare y=R.1)=>tCopy y W h (FitT.of_bare y (by rw[e];exact hfit))
 unfold treeV at hcopy;have HC:=zsp hcall;have HP:=zsp hcopy;have hr2:¬(sn:Int)<=(m:Int):=by omega
 have hla:=fun q (h:UsesT a q)=>ha.lt h
 have hlb:=fun q (h:UsesT b q)=>hb.lt h
 have HA:=zsp hla;have HB:=zsp hlb;clear h1 go ga gb hfit hcall hcopy hs ho ha hb fo fa fb xo xa xb hR ro ra rb hz hla hlb;unfold treeV
 go_enter func9,ntmps9
 go_wp2_with fail
 have BO:=(((BlkT.new w 27 #[.slice o.a.1 o.vals.length o.a.2,.slice o.b.1 o.unk.length o.b.2] rfl).alloc (.cells #[.slice a.a.1 a.vals.length a.a.2,.slice a.b.1 a.unk.length a.b.2] 27)).alloc (.cells #[.slice b.a.1 b.vals.length b.a.2,.slice b.b.1 b.unk.length b.b.2] 27)).alloc (.cells #[.slice none 0 0,.slice none 0 0] 27);have BA:=((BlkT.new (w.alloc (.cells #[.slice o.a.1 o.vals.length o.a.2,.slice o.b.1 o.unk.length o.b.2] 27)) 27 #[.slice a.a.1 a.vals.length a.a.2,.slice a.b.1 a.unk.length a.b.2] (show w.heap.size+1=_ by simp)).alloc (.cells #[.slice b.a.1 b.vals.length b.a.2,.slice b.b.1 b.unk.length b.b.2] 27)).alloc (.cells #[.slice none 0 0,.slice none 0 0] 27);have BB:=(BlkT.new ((w.alloc (.cells #[.slice o.a.1 o.vals.length o.a.2,.slice o.b.1 o.unk.length o.b.2] 27)).alloc (.cells #[.slice a.a.1 a.vals.length a.a.2,.slice a.b.1 a.unk.length a.b.2] 27)) 27 #[.slice b.a.1 b.vals.length b.a.2,.slice b.b.1 b.unk.length b.b.2] (show w.heap.size+2=_ by simp)).alloc (.cells #[.slice none 0 0,.slice none 0 0] 27);have BR:=BlkT.new (((w.alloc (.cells #[.slice o.a.1 o.vals.length o.a.2,.slice o.b.1 o.unk.length o.b.2] 27)).alloc (.cells #[.slice a.a.1 a.vals.length a.a.2,.slice a.b.1 a.unk.length a.b.2] 27)).alloc (.cells #[.slice b.a.1 b.vals.length b.a.2,.slice b.b.1 b.unk.length b.b.2] 27)) 27 #[.slice none 0 0,.slice none 0 0] (show w.heap.size+3=_ by simp);have X1:Ext w ((((w.alloc (.cells #[.slice o.a.1 o.vals.length o.a.2,.slice o.b.1 o.unk.length o.b.2] 27)).alloc (.cells #[.slice a.a.1 a.vals.length a.a.2,.slice a.b.1 a.unk.length a.b.2] 27)).alloc (.cells #[.slice b.a.1 b.vals.length b.a.2,.slice b.b.1 b.unk.length b.b.2] 27)).alloc (.cells #[.slice none 0 0,.slice none 0 0] 27)):=((((Ext.refl w).alloc _).alloc _).alloc _).alloc _;generalize ((((w.alloc (.cells #[.slice o.a.1 o.vals.length o.a.2,.slice o.b.1 o.unk.length o.b.2] 27)).alloc (.cells #[.slice a.a.1 a.vals.length a.a.2,.slice a.b.1 a.unk.length a.b.2] 27)).alloc (.cells #[.slice b.a.1 b.vals.length b.a.2,.slice b.b.1 b.unk.length b.b.2] 27)).alloc (.cells #[.slice none 0 0,.slice none 0 0] 27))=w1 at*;have zo0:w1.cell? ⟨w.heap.size,0,none⟩=some (.slice o.a.1 o.vals.length o.a.2):=BO.cell 0;have zo1:w1.cell? ⟨w.heap.size,1,none⟩=some (.slice o.b.1 o.unk.length o.b.2):=BO.cell 1;have za0:w1.cell? ⟨w.heap.size+1,0,none⟩=some (.slice a.a.1 a.vals.length a.a.2):=BA.cell 0;have za1:w1.cell? ⟨w.heap.size+1,1,none⟩=some (.slice a.b.1 a.unk.length a.b.2):=BA.cell 1;have zb0:w1.cell? ⟨w.heap.size+2,0,none⟩=some (.slice b.a.1 b.vals.length b.a.2):=BB.cell 0;have zb1:w1.cell? ⟨w.heap.size+2,1,none⟩=some (.slice b.b.1 b.unk.length b.b.2):=BB.cell 1;have r3:w1.cell? ⟨w.heap.size+3,0,none⟩=some (.slice none 0 0):=BR.cell 0;have r4:w1.cell? ⟨w.heap.size+3,1,none⟩=some (.slice none 0 0):=BR.cell 1;have r0:=BR.free 0;have r1:=BR.free 1;have lr:=BR.lt;have hX:=X1;clear X1
 go_wp2_with (first
  |(go_at_call 25;(with_reducible refine(H0.out _ (Ext.trans hX xx)).mono ?_);rintro e w2 ⟨rfl,E2⟩;have X_:Ext w1 w2:=Ext.trans xx E2;replace hX:=hX.up X_;replace BR:=BR.up X_;replace zo0:=X_.of_cell zo0;replace zo1:=X_.of_cell zo1;replace za0:=X_.of_cell za0;replace za1:=X_.of_cell za1;replace zb0:=X_.of_cell zb0;replace zb1:=X_.of_cell zb1;replace r3:=X_.of_cell r3;replace r4:=X_.of_cell r4;clear X_;have r0:=BR.free 0;have r1:=BR.free 1;have lr:=BR.lt)
  |(go_at_call 26;(with_reducible refine(R0.out _ (Ext.trans hX xx)).mono ?_);rintro e w3 ⟨rfl,E3⟩;have X_:Ext w2 w3:=Ext.trans xx E3;replace hX:=hX.up X_;replace BR:=BR.up X_;replace zo0:=X_.of_cell zo0;replace zo1:=X_.of_cell zo1;replace za0:=X_.of_cell za0;replace za1:=X_.of_cell za1;replace zb0:=X_.of_cell zb0;replace zb1:=X_.of_cell zb1;replace r3:=X_.of_cell r3;replace r4:=X_.of_cell r4;clear X_;have r0:=BR.free 0;have r1:=BR.free 1;have lr:=BR.lt;have l0:w.heap.size<w3.heap.size:=(by omega);have l1:w.heap.size+1<w3.heap.size:=(by omega);have l2:w.heap.size+2<w3.heap.size:=(by omega))
  |(go_at_call 26;(with_reducible refine(R1.out _ (Ext.trans hX xx)).mono ?_);rintro e w4 ⟨rfl,E4⟩;have X_:Ext w3 w4:=Ext.trans xx E4;replace hX:=hX.up X_;replace BR:=BR.up X_;replace zo0:=X_.of_cell zo0;replace zo1:=X_.of_cell zo1;replace za0:=X_.of_cell za0;replace za1:=X_.of_cell za1;replace zb0:=X_.of_cell zb0;replace zb1:=X_.of_cell zb1;replace r3:=X_.of_cell r3;replace r4:=X_.of_cell r4;clear X_;have r0:=BR.free 0;have r1:=BR.free 1;have lr:=BR.lt;have l0:w.heap.size<w4.heap.size:=(by omega);have l1:w.heap.size+1<w4.heap.size:=(by omega);have l2:w.heap.size+2<w4.heap.size:=(by omega))
  |(go_at_call 26;(with_reducible refine(R2.out _ (Ext.trans hX xx)).mono ?_);rintro e w5 ⟨rfl,E5⟩;have X_:Ext w4 w5:=Ext.trans xx E5;replace hX:=hX.up X_;replace BR:=BR.up X_;replace zo0:=X_.of_cell zo0;replace zo1:=X_.of_cell zo1;replace za0:=X_.of_cell za0;replace za1:=X_.of_cell za1;replace zb0:=X_.of_cell zb0;replace zb1:=X_.of_cell zb1;replace r3:=X_.of_cell r3;replace r4:=X_.of_cell r4;clear X_;have r0:=BR.free 0;have r1:=BR.free 1;have lr:=BR.lt;have l0:w.heap.size<w5.heap.size:=(by omega);have l1:w.heap.size+1<w5.heap.size:=(by omega);have l2:w.heap.size+2<w5.heap.size:=(by omega)))
 have BK:=BlkT.new w5 73 #[.slice SA sn sc,.slice none 0 0] rfl;have XK:Ext w5 (w5.alloc (.cells #[.slice SA sn sc,.slice none 0 0] 73)):=(Ext.refl w5).alloc _;have hbk:=hX.size;replace hX:=hX.trans XK;replace BR:=BR.up XK;have l35:=lr;clear XK r0 r1 lr;generalize w5.alloc (.cells #[.slice SA sn sc,.slice none 0 0] 73)=w6 at*;refine(HC.out w6 w5.heap.size hX BK hbk).mono ?_;rintro e w7 ⟨y,rfl,y1,y2,y3,A',n',c',l',K7,L7,S7,N7,U7⟩;have hkl:=BK.lt;have BR7:BlkT w7 (w.heap.size+3) 27 #[.slice none 0 0,.slice none 0 0]:=BR.stays S7 (fun p=>(by have:=ziD p;omega));have l37:=BR7.lt;have E7:Ext w w7:=K7.ext;have k1:w7.cell? ⟨w5.heap.size,1,none⟩=some (.slice A' n' c'):=K7.o.cell 1;have kl7:=K7.o.lt
 have hku:¬KU w5.heap.size A' l' (w.heap.size+3):=fun p=>by
  rcases N7 _ p with p|p
  . have:=ziD p
    omega
  . omega
 have HK7:=zsp K7;have HN7:=zsp N7;have HY:=zsp y2;have HL7:=zsp L7;have Hy1:=zsp y1;have Hy3:=zsp y3;have HU7:=zsp U7;have hs7:=E7.size;clear K7 L7 S7 N7 U7 y1 y2 y3 BR zo0 zo1 za0 za1 zb0 zb1 r3 r4 BK;have BX:=BlkT.new w7 27 #[.slice y.a.1 y.vals.length y.a.2,.slice y.b.1 y.unk.length y.b.2] rfl;have X8:Ext w7 (w7.alloc (.cells #[.slice y.a.1 y.vals.length y.a.2,.slice y.b.1 y.unk.length y.b.2] 27)):=(Ext.refl w7).alloc _
 go_upto_region 9 with(fail)
 generalize w7.alloc (.cells #[.slice y.a.1 y.vals.length y.a.2,.slice y.b.1 y.unk.length y.b.2] 27)=w8 at*;have x0:w8.cell? ⟨w7.heap.size,0,none⟩=some (.slice y.a.1 y.vals.length y.a.2):=BX.cell 0;have x1:w8.cell? ⟨w7.heap.size,1,none⟩=some (.slice y.b.1 y.unk.length y.b.2):=BX.cell 1;have xl:=BX.lt;replace k1:=X8.of_cell k1;replace kl7:=Nat.lt_of_lt_of_le kl7 X8.size;have BR8:=BR7.up X8;have r3:w8.cell? ⟨w.heap.size+3,0,none⟩=some (.slice none 0 0):=BR8.cell 0;have r4:w8.cell? ⟨w.heap.size+3,1,none⟩=some (.slice none 0 0):=BR8.cell 1;have r0:=BR8.free 0;have r1:=BR8.free 1;have lr:=BR8.lt;have Xd:Ext w8 w8:=Ext.refl w8;clear BX BR7
 go_region_held3 (fun W=>(W.cell? ⟨w7.heap.size,0,none⟩=some (.slice y.a.1 y.vals.length y.a.2))/\(W.cell? ⟨w7.heap.size,1,none⟩=some (.slice y.b.1 y.unk.length y.b.2))/\(W.cell? ⟨w5.heap.size,1,none⟩=some (.slice A' n' c')))
  (first|exact⟨by assumption,by assumption,by assumption⟩|exact⟨by assumption,by assumption,by assumption⟩|(go_split_ands;first|exact⟨by assumption,by assumption,by assumption⟩|exact⟨Ext.of_cell (Ext.alloc (Ext.refl _) _) (by assumption),Ext.of_cell (Ext.alloc (Ext.refl _) _) (by assumption),Ext.of_cell (Ext.alloc (Ext.refl _) _) (by assumption)⟩)) (first
  |(go_simp;go_at_call 28;refine(HP.out _ y (HY.out.up (X8.trans xx)) Hy1.out).mono ?_;rintro e w9 ⟨z,rfl,z1,z2,z3,E9⟩;have X9:Ext w8 w9:=Ext.trans xx E9;have q0:=X9.of_cell x0;have q1:=X9.of_cell x1;have q2:=X9.of_cell k1;have q3:=X9.of_cell r3;have q4:=X9.of_cell r4;have BR9:=BR8.up X9;have q5:=BR9.free 0;have q6:=BR9.free 1;have q7:=BR9.lt;have S9:=((Stays.refl (fun b=>b≠w.heap.size+3) w9).set (p:=⟨w.heap.size+3,0,none⟩) (fun e=>e rfl) (.slice z.a.1 z.vals.length z.a.2)).set (p:=⟨w.heap.size+3,1,none⟩) (fun e=>e rfl) (.slice z.b.1 z.unk.length z.b.2);have p0:=S9.cell (p:=⟨w7.heap.size,0,none⟩) (by show w7.heap.size≠w.heap.size+3;omega) q0;have p1:=S9.cell (p:=⟨w7.heap.size,1,none⟩) (by show w7.heap.size≠w.heap.size+3;omega) q1;have p2:=S9.cell (p:=⟨w5.heap.size,1,none⟩) (by show w5.heap.size≠w.heap.size+3;omega) q2))
 all_goals
  go_simp
  go_wp2
  (try simp only[Exit.inBlock,Exit.then])
  have B9:=(BR9.set_ 0 (.slice z.a.1 z.vals.length z.a.2)).set_ 1 (.slice z.b.1 z.unk.length z.b.2);have F9:=((E7.trans (X8.trans X9)).setCell (p:=⟨w.heap.size+3,0,none⟩) (by show _<=w.heap.size+3;omega) (.slice z.a.1 z.vals.length z.a.2)).setCell (p:=⟨w.heap.size+3,1,none⟩) (by show _<=w.heap.size+3;omega) (.slice z.b.1 z.unk.length z.b.2);have hz3:∀q,UsesT z q->w8.heap.size<=q:=fun q hq=>by simpa using z3 q hq
  refine bodyPost_ret (zgd (ty:=27) rfl _ _ (w.heap.size+3) _ _ (0,0) _ rfl B9 underlying27 rfl (by kernel_rfl)) rfl ?_;refine⟨z,A',n',c',l',rfl,z1.trans Hy1.out,z2.stays S9 (fun q hq=> ?_),fun q hq=> ?_,((HK7.out.up (X8.trans X9)).stays S9 F9 (fun b hb e=>hku (by rw[<-e];exact hb))).parts.ways,?_,fun q hq=> ?_,F9⟩
  . have:=hz3 q hq
    omega
  . have:=hz3 q hq
    have:=(E7.trans X8).size;omega
  . rw[HL7.out]
    rfl
  . have hk:KU w5.heap.size A' l' q:=by
     rcases hq with hq|⟨r,hr,hq⟩
     . exact .inr (.inl (HK7.out.parts.own.uses_block hq))
     . exact .inr (.inr ⟨r,hr,hq⟩)
    have h6:=hX.size;rcases HN7.out _ hk with p|p
    . have:=ziD p
      omega
    . omega
end Go.Proofs.YtlhbllaojjelcaaGreat
