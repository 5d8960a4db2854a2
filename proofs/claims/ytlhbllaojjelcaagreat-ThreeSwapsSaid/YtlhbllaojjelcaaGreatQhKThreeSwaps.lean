/- The walk of the law ThreeSwaps, out of its callees' contracts. (Printed by gen_k26.py.) -/
import Derived.Test.YtlhbllaojjelcaaGreatQhW16t

set_option linter.unusedVariables false
set_option linter.unusedSimpArgs false
set_option maxRecDepth 100000
set_option maxHeartbeats 4000000
namespace Go.Proofs.YtlhbllaojjelcaaGreat
open Go.RowKit Go.Shelf Go.Proofs.Tryz
variable{w:World}{d root:Int}{o a b:List UInt8}{n1 c1 n2 c2 n3 c3 n c:Nat}{B1 B2 B3 A:Option Addr}{S:List MsgV}
theorem zhH(hs:zaj w A n c S)(hroot: -9223372036854775808<=root/\root<9223372036854775808)(ho:zab w B1 n1 c1 o)(s1:c1*1<=140737488351232)(ha:zab w B2 n2 c2 a)(s2:c2*1<=140737488351232)(hb:zab w B3 n3 c3 b)(s3:c3*1<=140737488351232)(hd: -9223372036854775808<=d/\d<9223372036854775808)(hn:(1500:Int)<(n1:Int)+n2+n3):
 Calls prog 5 #[.slice A n c,.int .i64 root,.slice B1 n1 c1,.slice B2 n2 c2,.slice B3 n3 c3,.int .i64 d] w fun e w'=>e=.returned (.bool true)/\Ext w w':=by
 have q1:=Reads.cap ho;have q2:=Reads.cap ha;have q3:=Reads.cap hb;have g1:(n1:Int)<=140737488351232:=by omega
 have g2:(n2:Int)<=140737488351232:=by omega
 have g3:(n3:Int)<=140737488351232:=by omega
 have lo:=ho.length;have la:=ha.length;have lb:=hb.length;have hE:=Ext.refl w;clear hroot hd lo la lb ho ha hb
 go_enter func5,ntmps5
 go_wp2_with (first
  |(go_at_call 6;(with_reducible refine(zjm _).mono ?_);rintro e w1 ⟨rfl,E1⟩;have X_:Ext w w1:=Ext.trans xx E1;replace hE:=hE.up X_;clear X_)
  |(go_at_call 7;(with_reducible refine(few07 (hs.up (Ext.trans hE xx))).mono ?_);rintro e w2 ⟨x,rfl,E2⟩;have X_:Ext w1 w2:=Ext.trans xx E2;replace hE:=hE.up X_;clear X_))
 all_goals
  go_ret
  exact⟨rfl,hE⟩
theorem zhI(hs:zaj w A n c S)(hroot: -9223372036854775808<=root/\root<9223372036854775808)(ho:zab w B1 n1 c1 o)(s1:c1*1<=140737488351232)(ha:zab w B2 n2 c2 a)(s2:c2*1<=140737488351232)(hb:zab w B3 n3 c3 b)(s3:c3*1<=140737488351232)(hd: -9223372036854775808<=d/\d<9223372036854775808)(hn:¬(1500:Int)<(n1:Int)+n2+n3)(hc:zaV (S.map MsgV.d) root o a b d≠0):
 Calls prog 5 #[.slice A n c,.int .i64 root,.slice B1 n1 c1,.slice B2 n2 c2,.slice B3 n3 c3,.int .i64 d] w fun e w'=>e=.returned (.bool true)/\Ext w w':=by
 have q1:=Reads.cap ho;have q2:=Reads.cap ha;have q3:=Reads.cap hb;have g1:(n1:Int)<=140737488351232:=by omega
 have g2:(n2:Int)<=140737488351232:=by omega
 have g3:(n3:Int)<=140737488351232:=by omega
 have lo:=ho.length;have la:=ha.length;have lb:=hb.length;have hE:=Ext.refl w;have hm1:zbm (S.map MsgV.d) root d o a b=zaV (S.map MsgV.d) root o a b d:=by unfold zbm;rw[if_pos hc]
 have hm2:zbs (S.map MsgV.d) root d o a b=[]:=by unfold zbs;rw[if_neg (fun q=>hc q.1)]
 have hm3:zbn (S.map MsgV.d) root d o a b=[]:=by unfold zbn;rw[if_neg hc]
 have h1:=fun W (E:Ext w W)=>zeG (root:=root) (d:=d) (hs.up E) (ho.ext E) (ha.ext E) (hb.ext E) (by omega) (by omega) (by omega)
 rw[hm1,hm2,hm3]at h1
 have hle:zaV (S.map MsgV.d) root o a b d<=12:=by
  have k1:=zhk (S.map MsgV.d) root o d;have k2:=zhk (S.map MsgV.d) root a d;have k3:=zhk (S.map MsgV.d) root b d;unfold zaV;split
  . exact k1
  . split
    . exact k2
    . exact k3
 generalize zaV (S.map MsgV.d) root o a b d=C at*;have hC1:((C:Int) !=0)=true:=by rw[bne_iff_ne];omega
 have hC2:((C:Int) !=14)=true:=by rw[bne_iff_ne];omega
 have H1:=zsp h1;have HS:=zsp hs;clear h1 hm1 hm2 hm3 hroot hd lo la lb ho ha hb hs hc
 go_enter func5,ntmps5
 go_wp2_with (first
  |(go_at_call 6;(with_reducible refine(zjm _).mono ?_);rintro e w1 ⟨rfl,E1⟩;have X_:Ext w w1:=Ext.trans xx E1;replace hE:=hE.up X_;clear X_)
  |(go_at_call 7;(with_reducible refine(few07 (HS.out.up (Ext.trans hE xx))).mono ?_);rintro e w2 ⟨x,rfl,E2⟩;have X_:Ext w1 w2:=Ext.trans xx E2;replace hE:=hE.up X_;clear X_)
  |(go_at_call 15;(with_reducible refine(H1.out _ (Ext.trans hE xx)).mono ?_);rintro e w3 ⟨A1,m1,d1,A4,m4,d4,l4,rfl,u1,u2,u3,u4,E3⟩;obtain rfl:m1=0:=u2.out;obtain rfl:l4=[]:=List.map_eq_nil_iff.1 u4.out;obtain rfl:m4=0:=u3.length.symm;clear u1 u2 u3 u4;have X_:Ext w2 w3:=Ext.trans xx E3;replace hE:=hE.up X_;clear X_))
 all_goals
  go_ret
  exact⟨by first|rfl|simp,hE⟩
theorem zgy(hs:zaj w A n c S)(hroot: -9223372036854775808<=root/\root<9223372036854775808)(ho:zab w B1 n1 c1 o)(s1:c1*1<=140737488351232)(ha:zab w B2 n2 c2 a)(s2:c2*1<=140737488351232)(hb:zab w B3 n3 c3 b)(s3:c3*1<=140737488351232)(hd: -9223372036854775808<=d/\d<9223372036854775808)(hn:¬(1500:Int)<(n1:Int)+n2+n3)(hc:zaV (S.map MsgV.d) root o a b d=0)(hW:(zaH (S.map MsgV.d) root d o a b).2=[]):
 Calls prog 5 #[.slice A n c,.int .i64 root,.slice B1 n1 c1,.slice B2 n2 c2,.slice B3 n3 c3,.int .i64 d] w fun e w'=>e=.returned (.bool true)/\Ext w w':=by
 have q1:=Reads.cap ho;have q2:=Reads.cap ha;have q3:=Reads.cap hb;have g1:(n1:Int)<=140737488351232:=by omega
 have g2:(n2:Int)<=140737488351232:=by omega
 have g3:(n3:Int)<=140737488351232:=by omega
 have lo:=ho.length;have la:=ha.length;have lb:=hb.length;have hE:=Ext.refl w;obtain⟨co,ca,cb⟩:=zfe hc;obtain⟨hR,r0,r1,d0,d1,_⟩:=zcn co;have oO:=oneB co (by omega);have oA:=oneB ca (by omega);have oB:=oneB cb (by omega);have hT:=zhw (o:=o) hR oA oB;have hc2:zaV (S.map MsgV.d) root o b a d=0:=by unfold zaV;rw[if_neg (fun q=>q co),if_neg (fun q=>q cb),ca]
 have hc3:zaV (S.map MsgV.d) root o o b d=0:=by unfold zaV;rw[if_neg (fun q=>q co),if_neg (fun q=>q co),cb]
 have hc4:zaV (S.map MsgV.d) root o b b d=0:=by unfold zaV;rw[if_neg (fun q=>q co),if_neg (fun q=>q cb),cb]
 have hsw:SwapR (zaH (S.map MsgV.d) root d o a b) (zaH (S.map MsgV.d) root d o b a):=zfd _ _ _ _ _ _;have t3:zaH (S.map MsgV.d) root d o o b=(meanB (S.map MsgV.d) root.toNat b,[]):=zfB hR oB.rr (.inl rfl) [];have t4:zaH (S.map MsgV.d) root d o b b=(meanB (S.map MsgV.d) root.toNat b,[]):=zfB hR oB.rr (.inr rfl) [];have b3:zbr (S.map MsgV.d) root d o o b=normB (S.map MsgV.d) root.toNat b:=by unfold zbr;rw[t3];exact oB.enc
 have b4:zbr (S.map MsgV.d) root d o b b=normB (S.map MsgV.d) root.toNat b:=by unfold zbr;rw[t4];exact oB.enc
 have hm1:zbm (S.map MsgV.d) root d o a b=0/\zbs (S.map MsgV.d) root d o a b=zbr (S.map MsgV.d) root d o a b/\zbn (S.map MsgV.d) root d o a b=(zaH (S.map MsgV.d) root d o a b).2:=⟨by unfold zbm;rw[if_neg (fun q=>q hc),if_pos hW],by unfold zbs;rw[if_pos ⟨hc,hW⟩],by unfold zbn;rw[if_pos hc]⟩
 have hW2:(zaH (S.map MsgV.d) root d o b a).2=[]:=by rw[<-hsw.1];exact hW
 have hm2:zbm (S.map MsgV.d) root d o b a=0/\zbs (S.map MsgV.d) root d o b a=zbr (S.map MsgV.d) root d o a b/\zbn (S.map MsgV.d) root d o b a=(zaH (S.map MsgV.d) root d o a b).2:=⟨by unfold zbm;rw[if_neg (fun q=>q hc2),if_pos hW2],by unfold zbs;rw[if_pos ⟨hc2,hW2⟩];unfold zbr;rw[hsw.2 hW],by unfold zbn;rw[if_pos hc2,hsw.1]⟩
 have hm3:zbm (S.map MsgV.d) root d o o b=0/\zbs (S.map MsgV.d) root d o o b=normB (S.map MsgV.d) root.toNat b/\zbn (S.map MsgV.d) root d o o b=[]:=⟨by unfold zbm;rw[if_neg (fun q=>q hc3),if_pos (by rw[t3])],by unfold zbs;rw[if_pos ⟨hc3,by rw[t3]⟩,b3],by unfold zbn;rw[if_pos hc3,t3]⟩
 have hm4:zbm (S.map MsgV.d) root d o b b=0/\zbs (S.map MsgV.d) root d o b b=normB (S.map MsgV.d) root.toNat b/\zbn (S.map MsgV.d) root d o b b=[]:=⟨by unfold zbm;rw[if_neg (fun q=>q hc4),if_pos (by rw[t4])],by unfold zbs;rw[if_pos ⟨hc4,by rw[t4]⟩,b4],by unfold zbn;rw[if_pos hc4,t4]⟩
 have h1:=fun W (E:Ext w W)=>zeG (root:=root) (d:=d) (hs.up E) (ho.ext E) (ha.ext E) (hb.ext E) (by omega) (by omega) (by omega)
 have h2:=fun W (E:Ext w W)=>zeG (root:=root) (d:=d) (hs.up E) (ho.ext E) (hb.ext E) (ha.ext E) (by omega) (by omega) (by omega)
 have h3:=fun W (E:Ext w W)=>zeG (root:=root) (d:=d) (hs.up E) (ho.ext E) (ho.ext E) (hb.ext E) (by omega) (by omega) (by omega)
 have h4:=fun W (E:Ext w W)=>zeG (root:=root) (d:=d) (hs.up E) (ho.ext E) (hb.ext E) (hb.ext E) (by omega) (by omega) (by omega)
 rw[hm1.1,hm1.2.1,hm1.2.2]at h1;rw[hm2.1,hm2.2.1,hm2.2.2]at h2;rw[hm3.1,hm3.2.1,hm3.2.2]at h3;rw[hm4.1,hm4.2.1,hm4.2.2]at h4;have hf:formB (S.map MsgV.d) root b d=normB (S.map MsgV.d) root.toNat b:=by unfold formB;rw[if_pos cb]
 have h5:=fun W (E:Ext w W)=>zqc (root:=root) (d:=d) (hs.up E) (hb.up E) (by omega)
 rw[hf,cb]at h5;have hsh:=hT.short;have hnb:=oB.few
 have hval:(zar (S.map MsgV.d) root (zbr (S.map MsgV.d) root d o a b) d).2=0:=by
  have hv:=zjz hR d.toNat root.toNat (zaH (S.map MsgV.d) root d o a b).1 hT.right (by show(zbr (S.map MsgV.d) root d o a b).length<_;omega);have co':=co;unfold zar at co'⊢;by_cases h0:argsV (S.map MsgV.d) root d=0
  . rw[if_pos h0]
    exact hv
  . rw[if_neg h0]at co'
    exact absurd co' h0
 have h6:=fun W (X:Option Addr)(k e:Nat)(E:Ext w W)(hx:zab W X k e (zbr (S.map MsgV.d) root d o a b))=>vIsR (root:=root) (d:=d) (hs.up E) hx (by have:=hx.length;omega)
 rw[show zkb (S.map MsgV.d) root (zbr (S.map MsgV.d) root d o a b) d=true by unfold zkb;exact decide_eq_true hval]at h6;have H6:=zsp h6;clear h6 hval;have hfw:(zaH (S.map MsgV.d) root d o a b).2.length<=1000000:=by have:=hT.few;omega
 obtain⟨RW,hRW⟩:∃RW,RW=(zaH (S.map MsgV.d) root d o a b).2:=⟨_,rfl⟩
 obtain⟨r0',hr0⟩:∃r,r=RW.length:=⟨_,rfl⟩
 rw[<-hRW]at h1 h2 hfw hW;generalize zbr (S.map MsgV.d) root d o a b=FB at*;generalize normB (S.map MsgV.d) root.toNat b=NB at*
 have hfix:∀{X1 X2 X3:Option Addr}{k1 e1 k2 e2 k3 e3:Nat}{CC:Nat}{BB:List UInt8},(∀W,Ext w W->Calls prog 15 #[.slice A n c,.int .i64 root,.slice X1 k1 e1,.slice X2 k2 e2,.slice X3 k3 e3,.int .i64 d] W fun e W'=>∃(A':Option Addr)(n' c':Nat)(A4:Option Addr)(n4 c4:Nat)(l4:List WRow),e=.returned (.tuple #[.slice A' n' c',.slice A4 n4 c4,.int .u8 (CC:Nat)])/\zab W' A' n' c' BB/\Hid (n'=BB.length)/\zbA W' A4 n4 c4 l4/\Hid (l4.map (·.way)=RW)/\Ext W W')->
  ∀W,Ext w W->Calls prog 15 #[.slice A n c,.int .i64 root,.slice X1 k1 e1,.slice X2 k2 e2,.slice X3 k3 e3,.int .i64 d] W fun e W'=>∃(A':Option Addr)(n' c':Nat)(A4:Option Addr)(c4:Nat)(l4:List WRow),e=.returned (.tuple #[.slice A' n' c',.slice A4 r0' c4,.int .u8 (CC:Nat)])/\zab W' A' n' c' BB/\Hid (n'=BB.length)/\zbA W' A4 r0' c4 l4/\Hid (l4.map (·.way)=RW)/\Ext W W':=fun hh W E=>by
  refine(hh W E).mono ?_;rintro e W' ⟨A',n',c',A4,n4,c4,l4,u1,u2,u3,u4,u5,u6⟩
  have u7:n4=r0':=by
   have p1:=u4.length;have p2:=congrArg List.length u5.out;rw[List.length_map]at p2;omega
  subst u7;exact⟨A',n',c',A4,c4,l4,u1,u2,u3,u4,u5,u6⟩
 have H1:=zsp (hfix h1);have H2:=zsp (hfix h2);have H3:=zsp h3;have H4:=zsp h4;have H5:=zsp h5;have HS:=zsp hs;rw[<-hr0]at hfw;have hfw2:r0'<=1000000000000:=by omega
 have HB:=zsp hb;have hz0:r0'=0:=by rw[hr0,hW];rfl
 subst hz0;clear hfix h1 h2 h3 h4 h5 hm1 hm2 hm3 hm4 hf hRW hr0 hW hW2 hsw t3 t4 b3 b4 hT oO oA oB hc hc2 hc3 hc4 co ca cb hroot hd lo la lb ho ha hb hs hR
 go_enter func5,ntmps5
 go_wp2_with (first
  |(go_at_call 6;(with_reducible refine(zjm _).mono ?_);rintro e w1 ⟨rfl,E1⟩;have X_:Ext w w1:=Ext.trans xx E1;replace hE:=hE.up X_;clear X_)
  |(go_at_call 7;(with_reducible refine(few07 (HS.out.up (Ext.trans hE xx))).mono ?_);rintro e w2 ⟨x,rfl,E2⟩;have X_:Ext w1 w2:=Ext.trans xx E2;replace hE:=hE.up X_;clear X_)
  |(go_at_call 15;(with_reducible refine(H1.out _ (Ext.trans hE xx)).mono ?_);rintro e w3 ⟨A1,m1,d1,A4,d4,l4,rfl,bx,u2,wl,u4,E3⟩;have X_:Ext w2 w3:=Ext.trans xx E3;replace hE:=hE.up X_;clear X_)
  |(go_at_call 15;(with_reducible refine(H2.out _ (Ext.trans hE xx)).mono ?_);rintro e w4 ⟨A5,m5,d5,A6,d6,l6,rfl,by_,v2,wm,v4,E4⟩;have X_:Ext w3 w4:=Ext.trans xx E4;replace hE:=hE.up X_;replace bx:=bx.up X_;replace wl:=wl.up X_;clear X_)
  |(go_at_call 14;(with_reducible refine(zmn (wl.up xx) (wm.up xx) hfw2).mono ?_);rw[u4.out,v4.out];simp only[decide_true];rintro e w5 ⟨rfl,E5⟩;have X_:Ext w4 w5:=Ext.trans xx E5;replace hE:=hE.up X_;replace bx:=bx.up X_;replace by_:=by_.up X_;clear X_)
  |(go_at_call 21;(with_reducible refine(same (xs:=FB) (ys:=FB) (bx.up xx) (by_.up xx)).mono ?_);rintro e w6 ⟨rfl,rfl⟩)
  |(go_at_call 22;(with_reducible refine(H6.out _ _ _ _ (Ext.trans hE xx) (bx.up xx)).mono ?_);rintro e w7 ⟨rfl,E7⟩;have X_:Ext w5 w7:=Ext.trans xx E7;replace hE:=hE.up X_;clear X_)
  |(go_at_call 23;(with_reducible refine(H5.out _ (Ext.trans hE xx)).mono ?_);rintro e w8 ⟨A8,d8,rfl,o8⟩;have bw:=o8.bytes;have X_:Ext w7 w8:=Ext.trans xx o8.ext;replace hE:=hE.up X_;clear X_)
  |(go_at_call 15;(with_reducible refine(H3.out _ (Ext.trans hE xx)).mono ?_);rintro e w9 ⟨A9,m9,d9,A10,m10,d10,l10,rfl,bu,_,w10_,v10,E9⟩;obtain rfl:l10=[]:=List.map_eq_nil_iff.1 v10.out;obtain rfl:m10=0:=w10_.length.symm;clear w10_ v10;have X_:Ext w8 w9:=Ext.trans xx E9;replace hE:=hE.up X_;replace bw:=bw.up X_;clear X_)
  |(go_at_call 15;(with_reducible refine(H4.out _ (Ext.trans hE xx)).mono ?_);rintro e w10 ⟨A11,m11,d11,A12,m12,d12,l12,rfl,bv_,_,w12_,v12,E10⟩;obtain rfl:l12=[]:=List.map_eq_nil_iff.1 v12.out;obtain rfl:m12=0:=w12_.length.symm;clear w12_ v12;have X_:Ext w9 w10:=Ext.trans xx E10;replace hE:=hE.up X_;replace bw:=bw.up X_;replace bu:=bu.up X_;clear X_)
  |(go_at_call 21;(with_reducible refine(same (xs:=NB) (ys:=NB) (bu.up xx) (bw.up xx)).mono ?_);rintro e w11 ⟨rfl,rfl⟩)
  |(go_at_call 21;(with_reducible refine(same (xs:=NB) (ys:=NB) (bv_.up xx) (bw.up xx)).mono ?_);rintro e w12 ⟨rfl,rfl⟩))
 all_goals
  go_ret
  exact⟨by first|rfl|simp,hE.trans xx⟩
theorem zgz(hs:zaj w A n c S)(hroot: -9223372036854775808<=root/\root<9223372036854775808)(ho:zab w B1 n1 c1 o)(s1:c1*1<=140737488351232)(ha:zab w B2 n2 c2 a)(s2:c2*1<=140737488351232)(hb:zab w B3 n3 c3 b)(s3:c3*1<=140737488351232)(hd: -9223372036854775808<=d/\d<9223372036854775808)(hn:¬(1500:Int)<(n1:Int)+n2+n3)(hc:zaV (S.map MsgV.d) root o a b d=0)(hW:(zaH (S.map MsgV.d) root d o a b).2≠ []):
 Calls prog 5 #[.slice A n c,.int .i64 root,.slice B1 n1 c1,.slice B2 n2 c2,.slice B3 n3 c3,.int .i64 d] w fun e w'=>e=.returned (.bool true)/\Ext w w':=by
 have q1:=Reads.cap ho;have q2:=Reads.cap ha;have q3:=Reads.cap hb;have g1:(n1:Int)<=140737488351232:=by omega
 have g2:(n2:Int)<=140737488351232:=by omega
 have g3:(n3:Int)<=140737488351232:=by omega
 have lo:=ho.length;have la:=ha.length;have lb:=hb.length;have hE:=Ext.refl w;obtain⟨co,ca,cb⟩:=zfe hc;obtain⟨hR,r0,r1,d0,d1,_⟩:=zcn co;have oO:=oneB co (by omega);have oA:=oneB ca (by omega);have oB:=oneB cb (by omega);have hT:=zhw (o:=o) hR oA oB;have hc2:zaV (S.map MsgV.d) root o b a d=0:=by unfold zaV;rw[if_neg (fun q=>q co),if_neg (fun q=>q cb),ca]
 have hc3:zaV (S.map MsgV.d) root o o b d=0:=by unfold zaV;rw[if_neg (fun q=>q co),if_neg (fun q=>q co),cb]
 have hc4:zaV (S.map MsgV.d) root o b b d=0:=by unfold zaV;rw[if_neg (fun q=>q co),if_neg (fun q=>q cb),cb]
 have hsw:SwapR (zaH (S.map MsgV.d) root d o a b) (zaH (S.map MsgV.d) root d o b a):=zfd _ _ _ _ _ _;have t3:zaH (S.map MsgV.d) root d o o b=(meanB (S.map MsgV.d) root.toNat b,[]):=zfB hR oB.rr (.inl rfl) [];have t4:zaH (S.map MsgV.d) root d o b b=(meanB (S.map MsgV.d) root.toNat b,[]):=zfB hR oB.rr (.inr rfl) [];have b3:zbr (S.map MsgV.d) root d o o b=normB (S.map MsgV.d) root.toNat b:=by unfold zbr;rw[t3];exact oB.enc
 have b4:zbr (S.map MsgV.d) root d o b b=normB (S.map MsgV.d) root.toNat b:=by unfold zbr;rw[t4];exact oB.enc
 have hm1:zbm (S.map MsgV.d) root d o a b=14/\zbs (S.map MsgV.d) root d o a b=[]/\zbn (S.map MsgV.d) root d o a b=(zaH (S.map MsgV.d) root d o a b).2:=⟨by unfold zbm;rw[if_neg (fun q=>q hc),if_neg hW],by unfold zbs;rw[if_neg (fun q=>hW q.2)],by unfold zbn;rw[if_pos hc]⟩
 have hW2:(zaH (S.map MsgV.d) root d o b a).2≠ []:=by rw[<-hsw.1];exact hW
 have hm2:zbm (S.map MsgV.d) root d o b a=14/\zbs (S.map MsgV.d) root d o b a=[]/\zbn (S.map MsgV.d) root d o b a=(zaH (S.map MsgV.d) root d o a b).2:=⟨by unfold zbm;rw[if_neg (fun q=>q hc2),if_neg hW2],by unfold zbs;rw[if_neg (fun q=>hW2 q.2)],by unfold zbn;rw[if_pos hc2,hsw.1]⟩
 have hm3:zbm (S.map MsgV.d) root d o o b=0/\zbs (S.map MsgV.d) root d o o b=normB (S.map MsgV.d) root.toNat b/\zbn (S.map MsgV.d) root d o o b=[]:=⟨by unfold zbm;rw[if_neg (fun q=>q hc3),if_pos (by rw[t3])],by unfold zbs;rw[if_pos ⟨hc3,by rw[t3]⟩,b3],by unfold zbn;rw[if_pos hc3,t3]⟩
 have hm4:zbm (S.map MsgV.d) root d o b b=0/\zbs (S.map MsgV.d) root d o b b=normB (S.map MsgV.d) root.toNat b/\zbn (S.map MsgV.d) root d o b b=[]:=⟨by unfold zbm;rw[if_neg (fun q=>q hc4),if_pos (by rw[t4])],by unfold zbs;rw[if_pos ⟨hc4,by rw[t4]⟩,b4],by unfold zbn;rw[if_pos hc4,t4]⟩
 have h1:=fun W (E:Ext w W)=>zeG (root:=root) (d:=d) (hs.up E) (ho.ext E) (ha.ext E) (hb.ext E) (by omega) (by omega) (by omega)
 have h2:=fun W (E:Ext w W)=>zeG (root:=root) (d:=d) (hs.up E) (ho.ext E) (hb.ext E) (ha.ext E) (by omega) (by omega) (by omega)
 have h3:=fun W (E:Ext w W)=>zeG (root:=root) (d:=d) (hs.up E) (ho.ext E) (ho.ext E) (hb.ext E) (by omega) (by omega) (by omega)
 have h4:=fun W (E:Ext w W)=>zeG (root:=root) (d:=d) (hs.up E) (ho.ext E) (hb.ext E) (hb.ext E) (by omega) (by omega) (by omega)
 rw[hm1.1,hm1.2.1,hm1.2.2]at h1;rw[hm2.1,hm2.2.1,hm2.2.2]at h2;rw[hm3.1,hm3.2.1,hm3.2.2]at h3;rw[hm4.1,hm4.2.1,hm4.2.2]at h4;have hf:formB (S.map MsgV.d) root b d=normB (S.map MsgV.d) root.toNat b:=by unfold formB;rw[if_pos cb]
 have h5:=fun W (E:Ext w W)=>zqc (root:=root) (d:=d) (hs.up E) (hb.up E) (by omega)
 rw[hf,cb]at h5;have hsh:=hT.short;have hnb:=oB.few;have hz9:=hn;have hfw:(zaH (S.map MsgV.d) root d o a b).2.length<=1000000:=by have:=hT.few;omega
 obtain⟨RW,hRW⟩:∃RW,RW=(zaH (S.map MsgV.d) root d o a b).2:=⟨_,rfl⟩
 obtain⟨r0',hr0⟩:∃r,r=RW.length:=⟨_,rfl⟩
 rw[<-hRW]at h1 h2 hfw hW;generalize zbr (S.map MsgV.d) root d o a b=FB at*;generalize normB (S.map MsgV.d) root.toNat b=NB at*
 have hfix:∀{X1 X2 X3:Option Addr}{k1 e1 k2 e2 k3 e3:Nat}{CC:Nat}{BB:List UInt8},(∀W,Ext w W->Calls prog 15 #[.slice A n c,.int .i64 root,.slice X1 k1 e1,.slice X2 k2 e2,.slice X3 k3 e3,.int .i64 d] W fun e W'=>∃(A':Option Addr)(n' c':Nat)(A4:Option Addr)(n4 c4:Nat)(l4:List WRow),e=.returned (.tuple #[.slice A' n' c',.slice A4 n4 c4,.int .u8 (CC:Nat)])/\zab W' A' n' c' BB/\Hid (n'=BB.length)/\zbA W' A4 n4 c4 l4/\Hid (l4.map (·.way)=RW)/\Ext W W')->
  ∀W,Ext w W->Calls prog 15 #[.slice A n c,.int .i64 root,.slice X1 k1 e1,.slice X2 k2 e2,.slice X3 k3 e3,.int .i64 d] W fun e W'=>∃(A':Option Addr)(n' c':Nat)(A4:Option Addr)(c4:Nat)(l4:List WRow),e=.returned (.tuple #[.slice A' n' c',.slice A4 r0' c4,.int .u8 (CC:Nat)])/\zab W' A' n' c' BB/\Hid (n'=BB.length)/\zbA W' A4 r0' c4 l4/\Hid (l4.map (·.way)=RW)/\Ext W W':=fun hh W E=>by
  refine(hh W E).mono ?_;rintro e W' ⟨A',n',c',A4,n4,c4,l4,u1,u2,u3,u4,u5,u6⟩
  have u7:n4=r0':=by
   have p1:=u4.length;have p2:=congrArg List.length u5.out;rw[List.length_map]at p2;omega
  subst u7;exact⟨A',n',c',A4,c4,l4,u1,u2,u3,u4,u5,u6⟩
 have H1:=zsp (hfix h1);have H2:=zsp (hfix h2);have H3:=zsp h3;have H4:=zsp h4;have H5:=zsp h5;have HS:=zsp hs;rw[<-hr0]at hfw;have hfw2:r0'<=1000000000000:=by omega
 have HB:=zsp hb;have hz0:(0:Int)<(r0':Int):=by have:=List.length_pos_iff.2 hW;omega
 clear hfix h1 h2 h3 h4 h5 hm1 hm2 hm3 hm4 hf hRW hr0 hW hW2 hsw t3 t4 b3 b4 hT oO oA oB hc hc2 hc3 hc4 co ca cb hroot hd lo la lb ho ha hb hs hR
 go_enter func5,ntmps5
 go_wp2_with (first
  |(go_at_call 6;(with_reducible refine(zjm _).mono ?_);rintro e w1 ⟨rfl,E1⟩;have X_:Ext w w1:=Ext.trans xx E1;replace hE:=hE.up X_;clear X_)
  |(go_at_call 7;(with_reducible refine(few07 (HS.out.up (Ext.trans hE xx))).mono ?_);rintro e w2 ⟨x,rfl,E2⟩;have X_:Ext w1 w2:=Ext.trans xx E2;replace hE:=hE.up X_;clear X_)
  |(go_at_call 15;(with_reducible refine(H1.out _ (Ext.trans hE xx)).mono ?_);rintro e w3 ⟨A1,m1,d1,A4,d4,l4,rfl,bx,u2,wl,u4,E3⟩;obtain rfl:m1=0:=u2.out;have X_:Ext w2 w3:=Ext.trans xx E3;replace hE:=hE.up X_;clear X_)
  |(go_at_call 15;(with_reducible refine(H2.out _ (Ext.trans hE xx)).mono ?_);rintro e w4 ⟨A5,m5,d5,A6,d6,l6,rfl,by_,v2,wm,v4,E4⟩;obtain rfl:m5=0:=v2.out;have X_:Ext w3 w4:=Ext.trans xx E4;replace hE:=hE.up X_;replace bx:=bx.up X_;replace wl:=wl.up X_;clear X_)
  |(go_at_call 14;(with_reducible refine(zmn (wl.up xx) (wm.up xx) hfw2).mono ?_);rw[u4.out,v4.out];simp only[decide_true];rintro e w5 ⟨rfl,E5⟩;have X_:Ext w4 w5:=Ext.trans xx E5;replace hE:=hE.up X_;replace bx:=bx.up X_;replace by_:=by_.up X_;clear X_)
  |(go_at_call 21;(with_reducible refine(same (xs:=([]:List UInt8)) (ys:=([]:List UInt8)) (bx.up xx) (by_.up xx)).mono ?_);rintro e w6 ⟨rfl,rfl⟩)
  |(go_at_call 23;(with_reducible refine(H5.out _ (Ext.trans hE xx)).mono ?_);rintro e w8 ⟨A8,d8,rfl,o8⟩;have bw:=o8.bytes;have X_:Ext w5 w8:=Ext.trans xx o8.ext;replace hE:=hE.up X_;clear X_)
  |(go_at_call 15;(with_reducible refine(H3.out _ (Ext.trans hE xx)).mono ?_);rintro e w9 ⟨A9,m9,d9,A10,m10,d10,l10,rfl,bu,_,w10_,v10,E9⟩;obtain rfl:l10=[]:=List.map_eq_nil_iff.1 v10.out;obtain rfl:m10=0:=w10_.length.symm;clear w10_ v10;have X_:Ext w8 w9:=Ext.trans xx E9;replace hE:=hE.up X_;replace bw:=bw.up X_;clear X_)
  |(go_at_call 15;(with_reducible refine(H4.out _ (Ext.trans hE xx)).mono ?_);rintro e w10 ⟨A11,m11,d11,A12,m12,d12,l12,rfl,bv_,_,w12_,v12,E10⟩;obtain rfl:l12=[]:=List.map_eq_nil_iff.1 v12.out;obtain rfl:m12=0:=w12_.length.symm;clear w12_ v12;have X_:Ext w9 w10:=Ext.trans xx E10;replace hE:=hE.up X_;replace bw:=bw.up X_;replace bu:=bu.up X_;clear X_)
  |(go_at_call 21;(with_reducible refine(same (xs:=NB) (ys:=NB) (bu.up xx) (bw.up xx)).mono ?_);rintro e w11 ⟨rfl,rfl⟩)
  |(go_at_call 21;(with_reducible refine(same (xs:=NB) (ys:=NB) (bv_.up xx) (bw.up xx)).mono ?_);rintro e w12 ⟨rfl,rfl⟩))
 all_goals
  go_ret
  exact⟨by first|rfl|simp,hE.trans xx⟩
theorem zgL(hs:zaj w A n c S)(hroot: -9223372036854775808<=root/\root<9223372036854775808)(ho:zab w B1 n1 c1 o)(s1:c1*1<=140737488351232)(ha:zab w B2 n2 c2 a)(s2:c2*1<=140737488351232)(hb:zab w B3 n3 c3 b)(s3:c3*1<=140737488351232)(hd: -9223372036854775808<=d/\d<9223372036854775808):
 Calls prog 5 #[.slice A n c,.int .i64 root,.slice B1 n1 c1,.slice B2 n2 c2,.slice B3 n3 c3,.int .i64 d] w fun e w'=>e=.returned (.bool true)/\Ext w w':=by
 have q1:=Reads.cap ho;have q2:=Reads.cap ha;have q3:=Reads.cap hb;by_cases hn:(1500:Int)<(n1:Int)+n2+n3
 . exact zhH hs hroot ho s1 ha s2 hb s3 hd hn
 by_cases hc:zaV (S.map MsgV.d) root o a b d=0
 . by_cases hW:(zaH (S.map MsgV.d) root d o a b).2=[]
   . exact zgy hs hroot ho s1 ha s2 hb s3 hd hn hc hW
   . exact zgz hs hroot ho s1 ha s2 hb s3 hd hn hc hW
 . exact zhI hs hroot ho s1 ha s2 hb s3 hd hn hc
end Go.Proofs.YtlhbllaojjelcaaGreat
