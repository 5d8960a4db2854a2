/- Contracts of layer 20: one item's code; the items' iterator; a load's code. -/
import Derived.Test.YtpicpebolghcfaaGreatDoorQlW38

set_option linter.unusedVariables false
set_option maxRecDepth 100000
set_option maxHeartbeats 4000000
namespace Go.Proofs.YtpicpebolghcfaaGreatDoor
open Go.RowKit Go.Shelf Tryz
attribute [local go_sem] Oper.semAt_some
variable{w:World}{bs:List UInt8}{f:zab}{c m:Nat}{A:Option Addr}
theorem lOne{B:Option Addr}{n k:Nat}{S:List MsgV}{d:Int}(hs:zag w A n c S)(hb:zac w B m k bs)(hm:m<=1000000000):
 Calls prog 135 #[.slice A n c,zaq f,.slice B m k,.int .i64 d] w fun e w'=>e=.returned (.int .u8 (oneL (S.map MsgV.d) f d bs:Nat))/\Ext w w':=by
 have hn:=fun W=>zbP f.kind W
 have hu:=fun W (h:zac W B m k bs)=>zqJ h
 have hc:=fun W (h:zag W A n c S)(q:zac W B m k bs)=>zoQ (root:=f.of_) (d:=d) h q hm
 have hr:=fun W (q:zac W B m k bs)=>sRead (k:=f.kind) (W:=(readS f.kind bs).1) (C:=(readS f.kind bs).2) q rfl
 have Hn:=zsz hn;have Hu:=zsz hu;have Hc:=zsz hc;have Hr:=zsz hr;clear hn hu hc hr;unfold zaq;have BF:=BlkT.new w 43 #[.string f.name,.int .i64 f.number,.int .i64 f.kind,.bool f.rep,.bool f.packed,.int .i64 f.of_] rfl;have X0:Ext w (w.alloc (.cells #[.string f.name,.int .i64 f.number,.int .i64 f.kind,.bool f.rep,.bool f.packed,.int .i64 f.of_] 43)):=(Ext.refl w).alloc _;rcases hk:zaf f.kind with _|_
 . have Hn':∀W,Calls prog 31 #[.int .i64 f.kind] W fun e w'=>e=.returned (.bool false)/\Ext W w':=by rw[<-hk];exact Hn.out
   have HN:=zsz Hn';clear Hn Hn';by_cases h15:f.kind=15
   . have e:oneL (S.map MsgV.d) f d bs=if zca bs=true then 0 else 7:=by
      unfold oneL;rw[if_neg (by rw[hk];decide),if_pos h15]
     rw[e];have h15b:(f.kind==15)=true:=by rw[h15];rfl
     generalize zca bs=R at*;clear e h15 hk;rcases R with _|_
     all_goals
      go_enter func135,ntmps135
      go_wp2_with fail
      generalize w.alloc (.cells #[.string f.name,.int .i64 f.number,.int .i64 f.kind,.bool f.rep,.bool f.packed,.int .i64 f.of_] 43)=wx at*;have z2:wx.cell? ⟨w.heap.size,2,none⟩=some (.int .i64 f.kind):=BF.cell 2;clear BF
      go_wp2_with (first
       |(go_at_call 31;refine(HN.out _).mono ?_;rintro e w1 ⟨rfl,E1⟩;replace z2:=E1.of_cell z2)
       |(go_at_call 153;refine(Hu.out _ (hb.up (X0.trans E1))).mono ?_;rintro e w2 ⟨rfl,hw⟩;subst hw))
      go_ret
      exact⟨rfl,X0.trans E1⟩
   . have h15b:(f.kind==15)=false:=by rw[beq_eq_false_iff_ne];exact h15
     by_cases h17:f.kind=17
     . have e:oneL (S.map MsgV.d) f d bs=(zaM (S.map MsgV.d) f.of_ bs d).2:=by
        unfold oneL;rw[if_neg (by rw[hk];decide),if_neg h15,if_pos h17]
       rw[e];have h17b:(f.kind==17)=true:=by rw[h17];rfl
       generalize zaM (S.map MsgV.d) f.of_ bs d=V at*;clear e h15 h17 hk
       go_enter func135,ntmps135
       go_wp2_with fail
       generalize w.alloc (.cells #[.string f.name,.int .i64 f.number,.int .i64 f.kind,.bool f.rep,.bool f.packed,.int .i64 f.of_] 43)=wx at*;have z2:wx.cell? ⟨w.heap.size,2,none⟩=some (.int .i64 f.kind):=BF.cell 2;have z5:wx.cell? ⟨w.heap.size,5,none⟩=some (.int .i64 f.of_):=BF.cell 5;clear BF
       go_wp2_with (first
        |(go_at_call 31;refine(HN.out _).mono ?_;rintro e w1 ⟨rfl,E1⟩;replace z2:=E1.of_cell z2;replace z5:=E1.of_cell z5)
        |(go_at_call 74;refine(Hc.out _ (hs.up (X0.trans E1)) (hb.up (X0.trans E1))).mono ?_;rintro e w2 ⟨rfl,E2⟩))
       go_ret
       exact⟨rfl,(X0.trans E1).trans E2⟩
     . have e:oneL (S.map MsgV.d) f d bs=0:=by
        unfold oneL;rw[if_neg (by rw[hk];decide),if_neg h15,if_neg h17]
       rw[e];have h17b:(f.kind==17)=false:=by rw[beq_eq_false_iff_ne];exact h17
       clear e h15 h17 hk
       go_enter func135,ntmps135
       go_wp2_with fail
       generalize w.alloc (.cells #[.string f.name,.int .i64 f.number,.int .i64 f.kind,.bool f.rep,.bool f.packed,.int .i64 f.of_] 43)=wx at*;have z2:wx.cell? ⟨w.heap.size,2,none⟩=some (.int .i64 f.kind):=BF.cell 2;clear BF
       go_wp2_with (first
        |(go_at_call 31;refine(HN.out _).mono ?_;rintro e w1 ⟨rfl,E1⟩;replace z2:=E1.of_cell z2))
       go_ret
       exact⟨rfl,X0.trans E1⟩
 . have Hn':∀W,Calls prog 31 #[.int .i64 f.kind] W fun e w'=>e=.returned (.bool true)/\Ext W w':=by rw[<-hk];exact Hn.out
   have HN:=zsz Hn';clear Hn Hn'
   have e:oneL (S.map MsgV.d) f d bs=(readS f.kind bs).2:=by
    unfold oneL;rw[if_pos hk]
   rw[e];have hr0:=zhV hk bs;generalize readS f.kind bs=V at*;obtain⟨V1,V2⟩:=V;simp only at hr0
   have hv:V2=0\/V2=12:=by
    rw[hr0];split
    . exact .inl rfl
    . exact .inr rfl
   clear hr0 e hk;rcases hv with rfl|rfl
   all_goals
    go_enter func135,ntmps135
    go_wp2_with fail
    generalize w.alloc (.cells #[.string f.name,.int .i64 f.number,.int .i64 f.kind,.bool f.rep,.bool f.packed,.int .i64 f.of_] 43)=wx at*;have z2:wx.cell? ⟨w.heap.size,2,none⟩=some (.int .i64 f.kind):=BF.cell 2;clear BF
    go_wp2_with (first
     |(go_at_call 31;refine(HN.out _).mono ?_;rintro e w1 ⟨rfl,E1⟩;replace z2:=E1.of_cell z2)
     |(go_at_call 60;refine(Hr.out _ (hb.up (X0.trans E1))).mono ?_;rintro e w2 ⟨rfl,E2⟩))
    go_ret
    exact⟨rfl,(X0.trans E1).trans E2⟩
structure LoadI(w:World)(rep:Bool)(m:Nat)(bs:List UInt8)(vs:List RunV):Prop where
 each:∀v∈vs,zac w v.A v.n v.c v.bs/\v.e<=4/\v.n<=m
 list:vs.map (fun v=>(v.bs,v.e))=zaI rep bs
variable{j:Nat}{vs:List RunV}{rep:Bool}
theorem LoadI.item(h:LoadI w rep m bs vs){x:RunV}(hx:vs[j]?=some x):(zaI rep bs)[j]?=some (x.bs,x.e):=by
 rw[<-h.list,List.getElem?_map,hx];rfl
theorem LoadI.back(h:LoadI w rep m bs vs){y:List UInt8×Nat}(hy:(zaI rep bs)[j]?=some y):∃x,vs[j]?=some x/\y=(x.bs,x.e):=by
 rw[<-h.list,List.getElem?_map]at hy;rcases hv:vs[j]? with _|x
 . rw[hv]at hy
   cases hy
 . rw[hv]at hy
   cases hy;exact⟨x,rfl,rfl⟩
def AllP(w0 w:World)(rep:Bool)(m:Nat)(bs:List UInt8)(e:Ending)(w':World):Prop:=
 ∃gf lb B vs,e=.returned (.func (.func gf) #[] lb)/\(∀args W,(callFunc gf args).run prog W=.ok (.enter gf args) W)/\LoadI w0 rep m bs vs/\IterK prog gf lb (fun v=>#[runV v]) vs (fun b=>b<w0.heap.size\/b=B) B w'/\w.heap.size<=B/\B<w'.heap.size/\Ext w w'
theorem zro{B:Nat}{s:Nat->Prop}(cB:BlkT w B 24 #[.slice A m c])(hsB:s B):
 IterK prog 137 #[.pointer (some ⟨B,0,none⟩)] (fun v=>#[runV v]) [⟨A,m,c,bs,0⟩] s B w:=by
 intro l J Jx W hsz hsame hJ hJx hJs hY h0;have cBW:BlkT W B 24 #[.slice A m c]:=(hsame B hsB).trans cB;have b0:=cBW.cell 0;have bl:=cBW.lt;obtain⟨fn,tmps,assign,body,hy,hR⟩:=hY 0 _ W h0 rfl;unfold runV at hy;simp only at hy;rw[show((0:Nat):Int)=0 from rfl]at hy;have HR:=zsz hR;clear hJ hY hJx hJs hsame hsz cB hR h0;refine callsIn_of_wp func137 rfl trivial ?_ rfl;simp only[ntmps137,List.size_toArray,List.length_cons,List.length_nil,Nat.reduceAdd,Nat.reduceSub,Array.replicate_succ,Array.replicate_zero,List.push_toArray,List.append_toArray,List.nil_append,List.cons_append]
 gi_wp2
 refine HR.out.mono ?_;rintro e W' (⟨rfl,hJ',hsm⟩|⟨rfl,hJx'⟩)
 . gi_wp2
   go_end0
   exact⟨⟨_,rfl⟩,.inl hJ'⟩
 . gi_wp2
   go_end0
   exact⟨⟨_,rfl⟩,.inr hJx'⟩
theorem zsd:
 Calls prog 136 #[.slice A m c] w fun e w'=>e=.returned (.func (.func 154) #[] #[.pointer (some ⟨w.heap.size,0,none⟩)])/\w.alloc (.cells #[.slice A m c] 24)=w':=by
 go_enter func136,ntmps136
 go_wp2
 go_ret
 exact⟨rfl,rfl⟩
theorem lAll{w0:World}(hb:zac w0 A m c bs)(hE:Ext w0 w)(hm:m<=1000000000):
 Calls prog 116 #[zaq f,.slice A m c] w (AllP w0 w f.rep m bs):=by
 unfold zaq;obtain⟨wx,hwx⟩:∃wx,wx=(w.alloc (.cells #[.string f.name,.int .i64 f.number,.int .i64 f.kind,.bool f.rep,.bool f.packed,.int .i64 f.of_] 43)).alloc (.cells #[.slice A m c] 24):=⟨_,rfl⟩
 have BF:BlkT wx w.heap.size 43 #[.string f.name,.int .i64 f.number,.int .i64 f.kind,.bool f.rep,.bool f.packed,.int .i64 f.of_]:=by rw[hwx];exact(BlkT.new w _ _ rfl).alloc _
 have BB:BlkT wx (w.heap.size+1) 24 #[.slice A m c]:=by rw[hwx];exact BlkT.new _ _ _ (by simp)
 have X0:Ext w wx:=by rw[hwx];exact((Ext.refl w).alloc _).alloc _
 have hsz:wx.heap.size=w.heap.size+2:=by rw[hwx];simp
 have z3:wx.cell? ⟨w.heap.size,3,none⟩=some (.bool f.rep):=BF.cell 3;have y0:wx.cell? ⟨w.heap.size+1,0,none⟩=some (.slice A m c):=BB.cell 0;rcases hr:f.rep with _|_
 . rw[hr]at z3 hwx
   go_enter func116,ntmps116
   go_wp2_with fail
   rw[<-hwx];clear hwx
   go_wp2
   go_ret
   exact⟨_,_,w.heap.size+1,_,rfl,enters_of func137 (by kernel_rfl) rfl,⟨fun v hv=>by
    simp only[List.mem_singleton]at hv;subst hv
    exact⟨hb,by simp,Nat.le_refl _⟩,rfl⟩,zro (bs:=bs) BB (.inr rfl),by omega,by omega,X0⟩
 . rw[hr]at z3 hwx
   have hX2:=X0.alloc (.cells #[.slice A m c] 24);have BB2:BlkT (wx.alloc (.cells #[.slice A m c] 24)) (w.heap.size+2) 24 #[.slice A m c]:=BlkT.new _ _ _ (by omega);obtain⟨vs,c1,c2,c3⟩:=ziL bs.length A m c bs w0 hb (Nat.le_refl _)
   go_enter func116,ntmps116
   go_wp2_with fail
   rw[<-hwx];clear hwx
   go_wp2_with (go_at_call 136;refine zsd.mono ?_;rintro e w1 ⟨rfl,rfl⟩)
   go_ret
   refine⟨_,_,w.heap.size+2,vs,rfl,enters_of func154 (by kernel_rfl) rfl,⟨c2,c3⟩,zpe (hb.up (hE.trans hX2)) hm c1 BB2 (.inr rfl) (fun h0 a ha=> ?_),by omega,by simp;omega,hX2⟩;obtain⟨b,off,e,hb1,_⟩:=hb.at_ h0;rw[e]at ha;cases ha;exact⟨.inl hb1,by have:=hE.size;show b≠w.heap.size+2;omega⟩
end Go.Proofs.YtpicpebolghcfaaGreatDoor
namespace Go.Proofs.YtpicpebolghcfaaGreatDoor
open Go.RowKit Go.Shelf Tryz
attribute [local go_sem] Oper.semAt_some
structure ChkI(SA:Option Addr)(sn sc:Nat)(S:List MsgD)(f:zab)(d:Int)(w wq wa:World)(vs:List RunV)(j:Nat)(W:World):Prop where
 b4:BlkT W w.heap.size 23 #[.slice SA sn sc]
 b5:BlkT W (w.heap.size+1) 43 #[.string f.name,.int .i64 f.number,.int .i64 f.kind,.bool f.rep,.bool f.packed,.int .i64 f.of_]
 b7:BlkT W (w.heap.size+1+1) 3 #[.int .i64 d]
 b8:BlkT W (w.heap.size+1+1+1) 28 #[.int .u8 0]
 ext:Ext wq W
 size:wa.heap.size<=W.heap.size
 fine:∀(i:Nat) v,i<j->vs[i]?=some v->v.e=0/\oneL S f d v.bs=0
structure ChkX(C:Nat)(w:World)(c:Code)(W:World):Prop where
 ret:c=.ret
 b8:BlkT W (w.heap.size+1+1+1) 28 #[.int .u8 (C:Nat)]
 ext:Ext w W
theorem zhN{W W':World}(h:Ext W W'):KeepsOthers W W':=⟨h.size,fun l o k _=>(h.block l (Array.getElem?_eq_some_iff.1 k).1).trans k⟩
def chkW(SA:Option Addr)(sn sc:Nat)(f:zab)(d:Int)(w:World):World:=
 (((w.alloc (.cells #[.slice SA sn sc] 23)).alloc (.cells #[.string f.name,.int .i64 f.number,.int .i64 f.kind,.bool f.rep,.bool f.packed,.int .i64 f.of_] 43)).alloc (.cells #[.int .i64 d] 3)).alloc (.cells #[.int .u8 0] 28)
theorem zlx(SA:Option Addr)(sn sc:Nat)(S:List MsgD)(f:zab)(d:Int)(w:World)(vs:List RunV):ChkI SA sn sc S f d w w (chkW SA sn sc f d w) vs 0 (chkW SA sn sc f d w):=by
 unfold chkW;exact⟨(((BlkT.new w _ _ rfl).alloc _).alloc _).alloc _,((BlkT.new _ _ _ (by simp)).alloc _).alloc _,(BlkT.new _ _ _ (by simp)).alloc _,BlkT.new _ _ _ (by simp),xx,Nat.le_refl _,fun i v h=>absurd h (Nat.not_lt_zero i)⟩
variable{w:World}{d:Int}{f:zab}{S:List MsgV}{sn sc m k:Nat}{SA B:Option Addr}
theorem znJ(hs:zag w SA sn sc S)(h0:argsL (S.map MsgV.d) f d≠0):
 Calls prog 113 #[.slice SA sn sc,zaq f,.slice B m k,.int .i64 d] w fun e w'=>e=.returned (.int .u8 (argsL (S.map MsgV.d) f d:Nat))/\Ext w w':=by
 have hl:=fun W (h:zag W SA sn sc S)=>lArgs (f:=f) (d:=d) h
 have hN:((argsL (S.map MsgV.d) f d:Nat):Int)≠0:=by omega
 have hN2:(((argsL (S.map MsgV.d) f d:Nat):Int) !=0)=true:=by rw[bne_iff_ne];exact hN
 have h:=zlx SA sn sc (S.map MsgV.d) f d w [];have Hl:=zsz hl;have HS:=zsz hs;clear hl h0 hs hN;generalize argsL (S.map MsgV.d) f d=C at*;unfold zaq;unfold zaq at Hl;refine(callsIn_wide (n:=3)).1 ?_;refine callsIn_of_wp_marks func113 rfl trivial ?_ rfl;simp only[ntmps113,List.size_toArray,List.length_cons,List.length_nil,Nat.reduceAdd,Nat.reduceSub,Array.replicate_succ,Array.replicate_zero,List.push_toArray,List.append_toArray,List.nil_append,List.cons_append]
 gi_wp2_with fail
 rw[show(((w.alloc (.cells #[.slice SA sn sc] 23)).alloc (.cells #[.string f.name,.int .i64 f.number,.int .i64 f.kind,.bool f.rep,.bool f.packed,.int .i64 f.of_] 43)).alloc (.cells #[.int .i64 d] 3)).alloc (.cells #[.int .u8 0] 28)=chkW SA sn sc f d w from rfl];generalize chkW SA sn sc f d w=wa at*;have z4:=h.b4.cell 0;have z7:=h.b7.cell 0;have z50:wa.cell? ⟨w.heap.size+1,0,none⟩=some (.string f.name):=h.b5.cell 0;have z51:wa.cell? ⟨w.heap.size+1,1,none⟩=some (.int .i64 f.number):=h.b5.cell 1;have z52:wa.cell? ⟨w.heap.size+1,2,none⟩=some (.int .i64 f.kind):=h.b5.cell 2;have z53:wa.cell? ⟨w.heap.size+1,3,none⟩=some (.bool f.rep):=h.b5.cell 3;have z54:wa.cell? ⟨w.heap.size+1,4,none⟩=some (.bool f.packed):=h.b5.cell 4;have z55:wa.cell? ⟨w.heap.size+1,5,none⟩=some (.int .i64 f.of_):=h.b5.cell 5;have X:=h.ext;have B8:=h.b8;clear h
 gi_wp2_with (first|(refine⟨trivial,?_⟩;gi_at_call 134;refine(callsIn_wide.2 (Hl.out _ (HS.out.up X))).mono ?_;rintro e w1 ⟨rfl,E1⟩;replace B8:=B8.up E1;have b80:=B8.cell 0;have b81:=B8.free 0;have b82:=B8.lt;have X1:=X.trans E1))
 have R8:=(B8.set_ 0 (.int .u8 (C:Int))).cell 0;simp at R8;exact⟨.int .u8 (C:Int),by simp[results,results113,go_sem,R8],rfl,X1.setCell (p:=⟨w.heap.size+1+1+1,0,none⟩) (by show w.heap.size<=w.heap.size+1+1+1;omega) _⟩
variable{bs:List UInt8}
theorem znK(hs:zag w SA sn sc S)(hb:zac w B m k bs)(hm:m<=1000000000)(h0:argsL (S.map MsgV.d) f d=0)(hr:runL f=true):
 Calls prog 113 #[.slice SA sn sc,zaq f,.slice B m k,.int .i64 d] w fun e w'=>e=.returned (.int .u8 (codeV f.kind bs:Nat))/\Ext w w':=by
 have hl:=fun W (h:zag W SA sn sc S)=>lArgs (f:=f) (d:=d) h
 rw[h0]at hl;have hp:=fun W=>zjn (f:=f) (w:=W)
 unfold runL at hr;rw[hr]at hp;have hc:=fun W (h:zac W B m k bs)=>zpB (k:=f.kind) h hm
 have h:=zlx SA sn sc (S.map MsgV.d) f d w [];have Hl:=zsz hl;have Hp:=zsz hp;have Hc:=zsz hc;have HS:=zsz hs;have HB:=zsz hb;clear hl hp hc h0 hs hb hr;generalize codeV f.kind bs=C at*;unfold zaq;unfold zaq at Hl Hp;refine(callsIn_wide (n:=3)).1 ?_;refine callsIn_of_wp_marks func113 rfl trivial ?_ rfl;simp only[ntmps113,List.size_toArray,List.length_cons,List.length_nil,Nat.reduceAdd,Nat.reduceSub,Array.replicate_succ,Array.replicate_zero,List.push_toArray,List.append_toArray,List.nil_append,List.cons_append]
 gi_wp2_with fail
 rw[show(((w.alloc (.cells #[.slice SA sn sc] 23)).alloc (.cells #[.string f.name,.int .i64 f.number,.int .i64 f.kind,.bool f.rep,.bool f.packed,.int .i64 f.of_] 43)).alloc (.cells #[.int .i64 d] 3)).alloc (.cells #[.int .u8 0] 28)=chkW SA sn sc f d w from rfl];generalize chkW SA sn sc f d w=wa at*;have z4:=h.b4.cell 0;have z7:=h.b7.cell 0;have z50:wa.cell? ⟨w.heap.size+1,0,none⟩=some (.string f.name):=h.b5.cell 0;have z51:wa.cell? ⟨w.heap.size+1,1,none⟩=some (.int .i64 f.number):=h.b5.cell 1;have z52:wa.cell? ⟨w.heap.size+1,2,none⟩=some (.int .i64 f.kind):=h.b5.cell 2;have z53:wa.cell? ⟨w.heap.size+1,3,none⟩=some (.bool f.rep):=h.b5.cell 3;have z54:wa.cell? ⟨w.heap.size+1,4,none⟩=some (.bool f.packed):=h.b5.cell 4;have z55:wa.cell? ⟨w.heap.size+1,5,none⟩=some (.int .i64 f.of_):=h.b5.cell 5;have X:=h.ext;have B8:=h.b8;clear h
 gi_wp2_with (first
  |(refine⟨trivial,?_⟩;gi_at_call 134;refine(callsIn_wide.2 (Hl.out _ (HS.out.up X))).mono ?_;rintro e w1 ⟨rfl,E1⟩;have X1:=X.trans E1;replace B8:=B8.up E1;replace z4:=E1.of_cell z4;replace z7:=E1.of_cell z7;replace z50:=E1.of_cell z50;replace z51:=E1.of_cell z51;replace z52:=E1.of_cell z52;replace z53:=E1.of_cell z53;replace z54:=E1.of_cell z54;replace z55:=E1.of_cell z55)
  |(refine⟨trivial,?_⟩;gi_at_call 114;refine(callsIn_wide.2 (Hp.out _)).mono ?_;rintro e w2 ⟨rfl,E2⟩;have X2:=X1.trans E2;replace B8:=B8.up E2;replace z4:=E2.of_cell z4;replace z7:=E2.of_cell z7;replace z50:=E2.of_cell z50;replace z51:=E2.of_cell z51;replace z52:=E2.of_cell z52;replace z53:=E2.of_cell z53;replace z54:=E2.of_cell z54;replace z55:=E2.of_cell z55)
  |(refine⟨trivial,?_⟩;gi_at_call 79;refine(callsIn_wide.2 (Hc.out _ (HB.out.up X2))).mono ?_;rintro e w3 ⟨rfl,E3⟩;have X3:=X2.trans E3;replace B8:=B8.up E3;have b80:=B8.cell 0;have b81:=B8.free 0;have b82:=B8.lt))
 have R8:=(B8.set_ 0 (.int .u8 (C:Int))).cell 0;simp at R8;exact⟨.int .u8 (C:Int),by simp[results,results113,go_sem,R8],rfl,X3.setCell (p:=⟨w.heap.size+1+1+1,0,none⟩) (by show w.heap.size<=w.heap.size+1+1+1;omega) _⟩
theorem zkq(hs:zag w SA sn sc S)(hb:zac w B m k bs)(hm:m<=1000000000)(h0:argsL (S.map MsgV.d) f d=0)(hr:runL f=false):
 Calls prog 113 #[.slice SA sn sc,zaq f,.slice B m k,.int .i64 d] w fun e w'=>e=.returned (.int .u8 (zbi (oneL (S.map MsgV.d) f d) (zaI f.rep bs):Nat))/\Ext w w':=by
 have hl:=fun W (h:zag W SA sn sc S)=>lArgs (f:=f) (d:=d) h
 rw[h0]at hl;have hp:=fun W=>zjn (f:=f) (w:=W)
 unfold runL at hr;rw[hr]at hp;have ha:=fun W (h:zac W B m k bs)=>lAll (f:=f) h (Ext.refl W) hm
 have ho:=fun W (x:RunV)(h:zag W SA sn sc S)(q:zac W x.A x.n x.c x.bs)(hn:x.n<=1000000000)=>lOne (f:=f) (d:=d) h q hn
 have h:=zlx SA sn sc (S.map MsgV.d) f d w [];have Hl:=zsz hl;have Hp:=zsz hp;have Ha:=zsz ha;have Ho:=zsz ho;have HS:=zsz hs;have HB:=zsz hb;clear hl hp ha ho h0 hs hb hr;unfold zaq;unfold zaq at Hl Hp Ha Ho;refine(callsIn_wide (n:=3)).1 ?_;refine callsIn_of_wp_marks func113 rfl trivial ?_ rfl;simp only[ntmps113,List.size_toArray,List.length_cons,List.length_nil,Nat.reduceAdd,Nat.reduceSub,Array.replicate_succ,Array.replicate_zero,List.push_toArray,List.append_toArray,List.nil_append,List.cons_append]
 gi_wp2_with fail
 rw[show(((w.alloc (.cells #[.slice SA sn sc] 23)).alloc (.cells #[.string f.name,.int .i64 f.number,.int .i64 f.kind,.bool f.rep,.bool f.packed,.int .i64 f.of_] 43)).alloc (.cells #[.int .i64 d] 3)).alloc (.cells #[.int .u8 0] 28)=chkW SA sn sc f d w from rfl];generalize chkW SA sn sc f d w=wa at*;have z4:=h.b4.cell 0;have z7:=h.b7.cell 0;have z50:wa.cell? ⟨w.heap.size+1,0,none⟩=some (.string f.name):=h.b5.cell 0;have z51:wa.cell? ⟨w.heap.size+1,1,none⟩=some (.int .i64 f.number):=h.b5.cell 1;have z52:wa.cell? ⟨w.heap.size+1,2,none⟩=some (.int .i64 f.kind):=h.b5.cell 2;have z53:wa.cell? ⟨w.heap.size+1,3,none⟩=some (.bool f.rep):=h.b5.cell 3;have z54:wa.cell? ⟨w.heap.size+1,4,none⟩=some (.bool f.packed):=h.b5.cell 4;have z55:wa.cell? ⟨w.heap.size+1,5,none⟩=some (.int .i64 f.of_):=h.b5.cell 5;have X:=h.ext;have H0:=zsz h;clear h
 gi_wp2_with (first
  |(refine⟨trivial,?_⟩;gi_at_call 134;refine(callsIn_wide.2 (Hl.out _ (HS.out.up X))).mono ?_;rintro e w1 ⟨rfl,E1⟩;have X1:=X.trans E1;replace z4:=E1.of_cell z4;replace z7:=E1.of_cell z7;replace z50:=E1.of_cell z50;replace z51:=E1.of_cell z51;replace z52:=E1.of_cell z52;replace z53:=E1.of_cell z53;replace z54:=E1.of_cell z54;replace z55:=E1.of_cell z55)
  |(refine⟨trivial,?_⟩;gi_at_call 114;refine(callsIn_wide.2 (Hp.out _)).mono ?_;rintro e w2 ⟨rfl,E2⟩;have X2:=X1.trans E2;replace z4:=E2.of_cell z4;replace z7:=E2.of_cell z7;replace z50:=E2.of_cell z50;replace z51:=E2.of_cell z51;replace z52:=E2.of_cell z52;replace z53:=E2.of_cell z53;replace z54:=E2.of_cell z54;replace z55:=E2.of_cell z55)
  |(refine⟨trivial,?_⟩;gi_at_call 116;refine(callsIn_wide.2 (Ha.out _ (HB.out.up X2))).mono ?_;rintro e w3 ⟨gf,lb,B0,vs,rfl,eg,hV,hit,hB1,hB2,E3⟩;have X3:=X2.trans E3;have EA:=(E1.trans E2).trans E3;have EB:=E1.trans E2))
 have hb8:=H0.out.b8.lt;have hw2:=EB.size;have hw3:=E3.size
 refine zgM (w:=w3) rfl eg hit (fun b h=>by omega) hB2 (fun _=>rfl)
  (ChkI SA sn sc (S.map MsgV.d) f d w w2 w3 vs) (ChkX (zbi (oneL (S.map MsgV.d) f d) (zaI f.rep bs)) w)
  (fun j x a₁ W=>ChkI SA sn sc (S.map MsgV.d) f d w w2 w3 vs j W/\∃b12,BlkT W b12 197 #[.slice x.A x.n x.c,.int .u8 (x.e:Int)]/\w3.heap.size<=b12/\a₁={tmps:=#[.slice SA sn sc,.agg #[.string f.name,.int .i64 f.number,.int .i64 f.kind,.bool f.rep,.bool f.packed,.int .i64 f.of_],.slice B m k,.int .i64 d,.pointer (some ⟨w.heap.size,0,none⟩),.pointer (some ⟨w.heap.size+1,0,none⟩),undef,.pointer (some ⟨w.heap.size+1+1,0,none⟩),.pointer (some ⟨w.heap.size+1+1+1,0,none⟩),.int .u8 0,undef,undef,.pointer (some ⟨b12,0,none⟩),undef,.slice SA sn sc,.agg #[.string f.name,.int .i64 f.number,.int .i64 f.kind,.bool f.rep,.bool f.packed,.int .i64 f.of_],.int .i64 d,.int .u8 0,.int .u8 0,.bool false,undef,.agg #[.string f.name,.int .i64 f.number,.int .i64 f.kind,.bool f.rep,.bool f.packed,.int .i64 f.of_],.bool false,undef,undef,undef,undef,undef,undef,undef,undef,.agg #[.string f.name,.int .i64 f.number,.int .i64 f.kind,.bool f.rep,.bool f.packed,.int .i64 f.of_],.slice B m k,.func (.func gf) #[] lb,runV x,undef,undef,undef,undef,undef,undef,undef,undef,undef,undef,undef,undef,undef,undef],defers:=[]})
  (fun j W h=>h.size) ?hI ?hIB ?hIx ?hIxB ?hA ⟨H0.out.b4.up EA,H0.out.b5.up EA,H0.out.b7.up EA,H0.out.b8.up EA,E3,Nat.le_refl _,fun i v h=>absurd h (Nat.not_lt_zero i)⟩ ?assign ?body ?done ?stop
 case hI=>
  intro j W W' b o h hb2 ho hc hO;exact⟨h.b4.besides ho hc hO,h.b5.besides ho hc hO,h.b7.besides ho hc hO,h.b8.besides ho hc hO,hO.toExt h.ext (by omega),Nat.le_trans h.size hO.size,h.fine⟩
 case hIB=>
  intro j W W' h hO;exact⟨h.b4.onlyB hO (by omega),h.b5.onlyB hO (by omega),h.b7.onlyB hO (by omega),h.b8.onlyB hO (by omega),hO.toExt h.ext (by omega),Nat.le_trans h.size hO.size,h.fine⟩
 case hIx=>
  intro cc W W' b o h hb2 ho hc hO;exact⟨h.ret,h.b8.besides ho hc hO,hO.toExt h.ext (by omega)⟩
 case hIxB=>
  intro cc W W' h hO;exact⟨h.ret,h.b8.onlyB hO (by omega),hO.toExt h.ext (by omega)⟩
 case hA=>
  rintro j x a₁ W W' b o ⟨h,b12,h12,hl,rfl⟩ hb2 ho hc hO;exact⟨⟨h.b4.besides ho hc hO,h.b5.besides ho hc hO,h.b7.besides ho hc hO,h.b8.besides ho hc hO,hO.toExt h.ext (by omega),Nat.le_trans h.size hO.size,h.fine⟩,b12,h12.besides ho hc hO,hl,rfl⟩
 case assign=>
  intro l j x W K h hx hK;unfold runV
  gi_wp2
  refine hK _ _ ⟨?_,W.heap.size,BlkT.new W _ _ rfl,h.size,rfl⟩ (Ext.alloc (Ext.refl W) _);exact⟨h.b4.alloc _,h.b5.alloc _,h.b7.alloc _,h.b8.alloc _,h.ext.alloc _,Nat.le_trans h.size (by simp),h.fine⟩
 case body=>
  rintro l j x a₁ W ⟨h,b12,h12,hl,rfl⟩ hx;have y1:W.cell? ⟨b12,1,none⟩=some (.int .u8 (x.e:Int)):=h12.cell 1;have y0:W.cell? ⟨b12,0,none⟩=some (.slice x.A x.n x.c):=h12.cell 0;have yl:=h12.lt;have q8:=h.b8.cell 0;have f8:=h.b8.free 0;have l8:=h.b8.lt;have hit2:=hV.item hx
  have hfx:∀i y,i<j->(zaI f.rep bs)[i]?=some y->y.2=0/\oneL (S.map MsgV.d) f d y.1=0:=fun i y hi hy=>by
   obtain⟨z,hz,rfl⟩:=hV.back hy;exact h.fine i z hi hz
  obtain⟨hf1,hf2⟩:=zkp (g:=oneL (S.map MsgV.d) f d) hit2 hfx;simp only at hf1 hf2;by_cases he:x.e=0
  . have hf2:=hf2 he
    have q:((x.e:Int) !=0)=false:=by rw[he];rfl
    have hev:=hV.each x (List.mem_of_getElem? hx);have hbx:=hev.1.up h.ext;have hn2:x.n<=1000000000:=by omega
    have z4':=h.b4.cell 0;have z7':=h.b7.cell 0;have z50':W.cell? ⟨w.heap.size+1,0,none⟩=some (.string f.name):=h.b5.cell 0;have z51':W.cell? ⟨w.heap.size+1,1,none⟩=some (.int .i64 f.number):=h.b5.cell 1;have z52':W.cell? ⟨w.heap.size+1,2,none⟩=some (.int .i64 f.kind):=h.b5.cell 2;have z53':W.cell? ⟨w.heap.size+1,3,none⟩=some (.bool f.rep):=h.b5.cell 3;have z54':W.cell? ⟨w.heap.size+1,4,none⟩=some (.bool f.packed):=h.b5.cell 4;have z55':W.cell? ⟨w.heap.size+1,5,none⟩=some (.int .i64 f.of_):=h.b5.cell 5;have hW:=X2.trans h.ext;have hcall:=Ho.out W x (HS.out.up hW) hbx hn2;have hoL:oneL (S.map MsgV.d) f d x.bs=0\/oneL (S.map MsgV.d) f d x.bs≠0:=by omega
    have H:=zsz h;have Hx:=zsz hx;have He:=zsz he;have Hf2:=zsz hf2;have hWs:=h.size;rcases hoL with ho|ho
    . rw[ho]at hcall
      have Ho2:=zsz ho;have Hcall:=zsz hcall;clear hcall ho h he hx hf1 hf2 hit2 hfx h12 hev hbx Hf2
      gi_wp2_with (first|(refine⟨trivial,?_⟩;gi_at_call 135;refine(CallsIn.inRound l (callsIn_wide.2 Hcall.out)).mono ?_;rintro e w5 ⟨rfl,E5⟩))
      have h:=H.out;refine⟨zhN E5,fun b hb=>E5.block b (by omega),h.b4.up E5,h.b5.up E5,h.b7.up E5,h.b8.up E5,h.ext.trans E5,Nat.le_trans h.size E5.size,fun i v hi hv=> ?_⟩;by_cases e:i=j
      . subst e
        have:=Hx.out.symm.trans hv;cases this;exact⟨He.out,Ho2.out⟩
      . exact h.fine i v (by omega) hv
    . have hC:=hf2 ho
      have q2:(((oneL (S.map MsgV.d) f d x.bs:Nat):Int) !=0)=true:=by rw[bne_iff_ne];omega
      rw[hC];generalize oneL (S.map MsgV.d) f d x.bs=C at*;have Hcall:=zsz hcall;have B8:=zsz h.b8;have hWx:=zsz hW;clear hcall ho h he hx hf1 hf2 hit2 hfx h12 hev hbx Hf2 hC H
      gi_wp2_with (first|(refine⟨trivial,?_⟩;gi_at_call 135;refine(CallsIn.inRound l (callsIn_wide.2 Hcall.out)).mono ?_;rintro e w5 ⟨rfl,E5⟩;have b80:=(B8.out.up E5).cell 0;have b81:=(B8.out.up E5).free 0;have b82:=(B8.out.up E5).lt))
      refine⟨(zhN E5).trans (KeepsOthers.setCell _ _ _),rfl,?_,(hWx.out.trans E5).setCell (p:=⟨w.heap.size+1+1+1,0,none⟩) (by show w.heap.size<=w.heap.size+1+1+1;omega) _⟩;have:=(B8.out.up E5).set_ 0 (.int .u8 (C:Int));simpa using this
  . have hC:=hf1 he
    have q:((x.e:Int) !=0)=true:=by rw[bne_iff_ne];omega
    rw[hC];have B8:=zsz h.b8;have hWx:=zsz (X2.trans h.ext);clear h he hx hf1 hf2 hit2 hfx h12 hC
    gi_wp2
    refine⟨KeepsOthers.setCell _ _ _,rfl,?_,hWx.out.setCell (p:=⟨w.heap.size+1+1+1,0,none⟩) (by show w.heap.size<=w.heap.size+1+1+1;omega) _⟩;have:=B8.out.set_ 0 (.int .u8 (x.e:Int));simpa using this
 case done=>
  intro D W hD h hK
  have hfin:zbi (oneL (S.map MsgV.d) f d) (zaI f.rep bs)=0:=zgj (fun y hy=>by
   obtain⟨i,hi⟩:=List.getElem?_of_mem hy;obtain⟨z,hz,rfl⟩:=hV.back hi
   exact h.fine i z (List.getElem?_eq_some_iff.1 hz).1 hz)
  have Hfin:=zsz hfin;have q8:=h.b8.cell 0;have f8:=h.b8.free 0;have l8:=h.b8.lt;have H:=zsz h;have HK:=zsz hK;clear h hfin hK
  gi_wp2
  have h:=H.out;refine⟨by simp,.inl ⟨_,_,rfl,run_takeDeferred (b:=D) (ds:=[]) ?_,?_⟩⟩
  . rw[Below.heap_setCell _ ⟨w.heap.size+1+1+1,0,none⟩ _ D (by show D≠w.heap.size+1+1+1;omega)]
    exact HK.out
  . have R8:=((h.b8.set_ 0 (.int .u8 0)).putObj (D:=D) (by omega) (.deferred none)).cell 0
    have E:Ext w ((W.setCell ⟨w.heap.size+1+1+1,0,none⟩ (.int .u8 0)).putObj D (.deferred none)):=(zaN _ _ _).toExt ((X2.trans h.ext).setCell (p:=⟨w.heap.size+1+1+1,0,none⟩) (by show w.heap.size<=w.heap.size+1+1+1;omega) _) (by have:=X2.size;omega);simp at R8;exact⟨.int .u8 0,by simp[results,results113,go_sem,R8],by rw[Hfin.out];rfl,E⟩
 case stop=>
  intro D cc W hD h hK;obtain rfl:=h.ret;obtain⟨C,hC⟩:∃C,C=zbi (oneL (S.map MsgV.d) f d) (zaI f.rep bs):=⟨_,rfl⟩
  rw[<-hC]at h;have HC:=zsz hC;clear hC;have H:=zsz h;have HK:=zsz hK;clear h hK
  gi_wp2
  have h:=H.out;refine⟨by simp,.inl ⟨_,_,rfl,run_takeDeferred HK.out,?_⟩⟩;have R8:=(h.b8.putObj (D:=D) (by omega) (.deferred none)).cell 0;have E:Ext w (W.putObj D (.deferred none)):=(zaN _ _ _).toExt h.ext (by have:=X2.size;omega);simp at R8;exact⟨.int .u8 (C:Nat),by simp[results,results113,go_sem,R8],by rw[<-HC.out],E⟩
theorem zpf(hs:zag w SA sn sc S)(hb:zac w B m k bs)(hm:m<=1000000000):
 Calls prog 113 #[.slice SA sn sc,zaq f,.slice B m k,.int .i64 d] w fun e w'=>e=.returned (.int .u8 (codeL (S.map MsgV.d) f bs d:Nat))/\Ext w w':=by
 by_cases h0:argsL (S.map MsgV.d) f d=0
 . rcases hr:runL f with _|_
   . rw[zdi h0 hr]
     exact zkq hs hb hm h0 hr
   . rw[zfF h0 hr]
     exact znK hs hb hm h0 hr
 . rw[zen h0]
   exact znJ hs h0
end Go.Proofs.YtpicpebolghcfaaGreatDoor
