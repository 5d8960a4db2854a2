/- Layer 20: the reference's One, Items, Check. (Printed by gen_ref20.py.) -/
import Derived.Test.YtpicpebolghcfaaGreatDoorQlW40
import Derived.Test.YtpicpebolghcfaaGreatDoorQlW76

set_option linter.unusedVariables false
set_option linter.unusedSimpArgs false
set_option maxRecDepth 100000
set_option maxHeartbeats 4000000
namespace Go.Proofs.YtpicpebolghcfaaGreatDoor
open Go.RowKit Go.Shelf Tryz
variable{w:World}{vs:List UInt8}{d:Int}{f:zab}{S:List MsgV}{n c m k:Nat}{A V:Option Addr}
theorem zrV(hs:zag w A n c S)(hb:zac w V m k vs)(hm:m<=1000000000):
 Calls prog 86 #[.slice A n c,zaq f,.slice V m k,.int .i64 d] w fun e w'=>e=.returned (.int .i64 (oneL (S.map MsgV.d) f d vs:Nat))/\Ext w w':=by
 have hkn:=fun W:World=>zbz f.kind W
 have hrd:=fun(W:World)(h:Ext w W)=>zkF (k:=f.kind) (hb.up h) (by omega) (W:=(readS f.kind vs).1) (C:=(readS f.kind vs).2) rfl
 have hrt:=fun(W:World)(h:Ext w W)=>zoO (hb.up h) hm
 have hck:=fun(W:World)(h:Ext w W)=>zoU (root:=f.of_) (d:=d) (hs.up h) (hb.up h) hm
 rcases hn:zaf f.kind with _|_
 . rw[hn]at hkn
   by_cases h15:f.kind=15
   . rcases hr:zca vs with _|_
     . have ho:oneL (S.map MsgV.d) f d vs=7:=by unfold oneL;rw[if_neg (by rw[hn];simp),if_pos h15,if_neg (by rw[hr];simp)]
       rw[ho];rw[hr]at hrt;have Hkn:=zsz hkn;have Hrt:=zsz hrt;obtain⟨fname,fnum,fkind,frep,fpk,fof⟩:=f;simp only at h15;subst h15;unfold zaq;clear hkn hrt hrd hck ho hr hn hs hb;have X0:Ext w (w.alloc (.cells #[.string fname,.int .i64 fnum,.int .i64 15,.bool frep,.bool fpk,.int .i64 fof] 43)):=(Ext.refl w).alloc _;have BF:=BlkT.new w 43 #[.string fname,.int .i64 fnum,.int .i64 15,.bool frep,.bool fpk,.int .i64 fof] rfl
       go_enter func86,ntmps86
       go_upto_region 1 with fail
       generalize w.alloc (.cells #[.string fname,.int .i64 fnum,.int .i64 15,.bool frep,.bool fpk,.int .i64 fof] 43)=wx at*;have c0:wx.cell? ⟨w.heap.size,0,none⟩=some (.string fname):=BF.cell 0;have c1:wx.cell? ⟨w.heap.size,1,none⟩=some (.int .i64 fnum):=BF.cell 1;have c2:wx.cell? ⟨w.heap.size,2,none⟩=some (.int .i64 15):=BF.cell 2;have c3:wx.cell? ⟨w.heap.size,3,none⟩=some (.bool frep):=BF.cell 3;have c4:wx.cell? ⟨w.heap.size,4,none⟩=some (.bool fpk):=BF.cell 4;have c5:wx.cell? ⟨w.heap.size,5,none⟩=some (.int .i64 fof):=BF.cell 5;have cl:=BF.lt;clear BF
       go_wp2_with (first
        |(go_at_call 14;refine(Hkn.out _).mono ?_;rintro e w2 ⟨rfl,rfl⟩)
        |(go_at_call 100;refine(Hrt.out _ X0).mono ?_;rintro e w3 ⟨rfl,E3⟩))
       go_ret
       exact⟨rfl,X0.trans E3⟩
     . have ho:oneL (S.map MsgV.d) f d vs=0:=by unfold oneL;rw[if_neg (by rw[hn];simp),if_pos h15,if_pos hr]
       rw[ho];rw[hr]at hrt;have Hkn:=zsz hkn;have Hrt:=zsz hrt;obtain⟨fname,fnum,fkind,frep,fpk,fof⟩:=f;simp only at h15;subst h15;unfold zaq;clear hkn hrt hrd hck ho hr hn hs hb;have X0:Ext w (w.alloc (.cells #[.string fname,.int .i64 fnum,.int .i64 15,.bool frep,.bool fpk,.int .i64 fof] 43)):=(Ext.refl w).alloc _;have BF:=BlkT.new w 43 #[.string fname,.int .i64 fnum,.int .i64 15,.bool frep,.bool fpk,.int .i64 fof] rfl
       go_enter func86,ntmps86
       go_upto_region 1 with fail
       generalize w.alloc (.cells #[.string fname,.int .i64 fnum,.int .i64 15,.bool frep,.bool fpk,.int .i64 fof] 43)=wx at*;have c0:wx.cell? ⟨w.heap.size,0,none⟩=some (.string fname):=BF.cell 0;have c1:wx.cell? ⟨w.heap.size,1,none⟩=some (.int .i64 fnum):=BF.cell 1;have c2:wx.cell? ⟨w.heap.size,2,none⟩=some (.int .i64 15):=BF.cell 2;have c3:wx.cell? ⟨w.heap.size,3,none⟩=some (.bool frep):=BF.cell 3;have c4:wx.cell? ⟨w.heap.size,4,none⟩=some (.bool fpk):=BF.cell 4;have c5:wx.cell? ⟨w.heap.size,5,none⟩=some (.int .i64 fof):=BF.cell 5;have cl:=BF.lt;clear BF
       go_wp2_with (first
        |(go_at_call 14;refine(Hkn.out _).mono ?_;rintro e w2 ⟨rfl,rfl⟩)
        |(go_at_call 100;refine(Hrt.out _ X0).mono ?_;rintro e w3 ⟨rfl,E3⟩;replace c2:=E3.of_cell c2;replace cl:=Nat.lt_of_lt_of_le cl E3.size))
       go_ret
       exact⟨rfl,X0.trans E3⟩
   . by_cases h17:f.kind=17
     . have ho:oneL (S.map MsgV.d) f d vs=(zaM (S.map MsgV.d) f.of_ vs d).2:=by unfold oneL;rw[if_neg (by rw[hn];simp),if_neg h15,if_pos h17]
       rw[ho];generalize zaM (S.map MsgV.d) f.of_ vs d=PK at*;obtain⟨P,K⟩:=PK;simp only at hck⊢;have Hkn:=zsz hkn;have Hck:=zsz hck;obtain⟨fname,fnum,fkind,frep,fpk,fof⟩:=f;simp only at h17;subst h17;unfold zaq;simp only at Hck;clear hkn hrt hrd hck ho hn hs hb h15;have X0:Ext w (w.alloc (.cells #[.string fname,.int .i64 fnum,.int .i64 17,.bool frep,.bool fpk,.int .i64 fof] 43)):=(Ext.refl w).alloc _;have BF:=BlkT.new w 43 #[.string fname,.int .i64 fnum,.int .i64 17,.bool frep,.bool fpk,.int .i64 fof] rfl
       go_enter func86,ntmps86
       go_upto_region 1 with fail
       generalize w.alloc (.cells #[.string fname,.int .i64 fnum,.int .i64 17,.bool frep,.bool fpk,.int .i64 fof] 43)=wx at*;have c0:wx.cell? ⟨w.heap.size,0,none⟩=some (.string fname):=BF.cell 0;have c1:wx.cell? ⟨w.heap.size,1,none⟩=some (.int .i64 fnum):=BF.cell 1;have c2:wx.cell? ⟨w.heap.size,2,none⟩=some (.int .i64 17):=BF.cell 2;have c3:wx.cell? ⟨w.heap.size,3,none⟩=some (.bool frep):=BF.cell 3;have c4:wx.cell? ⟨w.heap.size,4,none⟩=some (.bool fpk):=BF.cell 4;have c5:wx.cell? ⟨w.heap.size,5,none⟩=some (.int .i64 fof):=BF.cell 5;have cl:=BF.lt;clear BF
       go_wp2_with (first
        |(go_at_call 14;refine(Hkn.out _).mono ?_;rintro e w2 ⟨rfl,rfl⟩)
        |(go_at_call 36;refine(Hck.out _ X0).mono ?_;rintro e w3 ⟨rfl,E3⟩))
       go_ret
       exact⟨rfl,X0.trans E3⟩
     . have ho:oneL (S.map MsgV.d) f d vs=0:=by unfold oneL;rw[if_neg (by rw[hn];simp),if_neg h15,if_neg h17]
       rw[ho];have Hkn:=zsz hkn;obtain⟨fname,fnum,fkind,frep,fpk,fof⟩:=f;simp only at h15 h17;have q15:(fkind==15)=false:=by rw[beq_eq_false_iff_ne];exact h15
       have q17:(fkind==17)=false:=by rw[beq_eq_false_iff_ne];exact h17
       unfold zaq;clear hkn hrt hrd hck ho hn hs hb;have X0:Ext w (w.alloc (.cells #[.string fname,.int .i64 fnum,.int .i64 fkind,.bool frep,.bool fpk,.int .i64 fof] 43)):=(Ext.refl w).alloc _;have BF:=BlkT.new w 43 #[.string fname,.int .i64 fnum,.int .i64 fkind,.bool frep,.bool fpk,.int .i64 fof] rfl
       go_enter func86,ntmps86
       go_upto_region 1 with fail
       generalize w.alloc (.cells #[.string fname,.int .i64 fnum,.int .i64 fkind,.bool frep,.bool fpk,.int .i64 fof] 43)=wx at*;have c0:wx.cell? ⟨w.heap.size,0,none⟩=some (.string fname):=BF.cell 0;have c1:wx.cell? ⟨w.heap.size,1,none⟩=some (.int .i64 fnum):=BF.cell 1;have c2:wx.cell? ⟨w.heap.size,2,none⟩=some (.int .i64 fkind):=BF.cell 2;have c3:wx.cell? ⟨w.heap.size,3,none⟩=some (.bool frep):=BF.cell 3;have c4:wx.cell? ⟨w.heap.size,4,none⟩=some (.bool fpk):=BF.cell 4;have c5:wx.cell? ⟨w.heap.size,5,none⟩=some (.int .i64 fof):=BF.cell 5;have cl:=BF.lt;clear BF
       go_wp2_with (go_at_call 14;refine(Hkn.out _).mono ?_;rintro e w2 ⟨rfl,rfl⟩)
       go_ret
       exact⟨rfl,X0⟩
 . rw[hn]at hkn
   have ho:oneL (S.map MsgV.d) f d vs=(readS f.kind vs).2:=by unfold oneL;rw[if_pos hn]
   rw[ho];generalize (readS f.kind vs).1=RW at*;generalize (readS f.kind vs).2=RC at*;have Hkn:=zsz hkn;have Hrd:=zsz hrd;obtain⟨fname,fnum,fkind,frep,fpk,fof⟩:=f;unfold zaq;simp only at Hrd;clear hkn hrt hrd hck ho hn hs hb;have X0:Ext w (w.alloc (.cells #[.string fname,.int .i64 fnum,.int .i64 fkind,.bool frep,.bool fpk,.int .i64 fof] 43)):=(Ext.refl w).alloc _;have BF:=BlkT.new w 43 #[.string fname,.int .i64 fnum,.int .i64 fkind,.bool frep,.bool fpk,.int .i64 fof] rfl
   go_enter func86,ntmps86
   go_upto_region 1 with fail
   generalize w.alloc (.cells #[.string fname,.int .i64 fnum,.int .i64 fkind,.bool frep,.bool fpk,.int .i64 fof] 43)=wx at*;have c0:wx.cell? ⟨w.heap.size,0,none⟩=some (.string fname):=BF.cell 0;have c1:wx.cell? ⟨w.heap.size,1,none⟩=some (.int .i64 fnum):=BF.cell 1;have c2:wx.cell? ⟨w.heap.size,2,none⟩=some (.int .i64 fkind):=BF.cell 2;have c3:wx.cell? ⟨w.heap.size,3,none⟩=some (.bool frep):=BF.cell 3;have c4:wx.cell? ⟨w.heap.size,4,none⟩=some (.bool fpk):=BF.cell 4;have c5:wx.cell? ⟨w.heap.size,5,none⟩=some (.int .i64 fof):=BF.cell 5;have cl:=BF.lt;clear BF
   go_wp2_with (first
    |(go_at_call 14;refine(Hkn.out _).mono ?_;rintro e w2 ⟨rfl,rfl⟩)
    |(go_at_call 39;refine(Hrd.out _ X0).mono ?_;rintro e w3 ⟨rfl,rfl⟩))
   go_ret
   exact⟨rfl,X0⟩
def zck(rep:Bool)(bs:List UInt8):List (List UInt8):=(zaI rep bs).map (·.1)
structure ziD(w0 w w':World)(A:Option Addr)(n c:Nat)(l:List BRow):Prop where
 reads:Reads w' A n c 1 (l.map browV)
 new:∀b,UsesA A n b->w.heap.size<=b
 old:∀r∈l,zac w0 r.A r.n r.c r.bs
def zhG(f:zab)(g:List UInt8->Nat)(bs:List UInt8)(w0 w:World)(e:Ending)(w':World):Prop:=
 ∃(l:List BRow)(A:Option Addr)(n c:Nat),e=.returned (.tuple #[.slice A n c,.int .i64 (zbi g (zaI f.rep bs):Nat)])/\Ext w w'/\Hid (zbi g (zaI f.rep bs)=0->ziD w0 w w' A n c l/\zat l=zck f.rep bs)
theorem znu{g:List UInt8->Nat}{fu:Nat}{bs:List UInt8}(h:bs≠ []):zbi g (zaY (fu+1) bs)=if(itemN bs).2.2≠0 then(itemN bs).2.2 else if g ((bs.drop (itemN bs).1).take (itemN bs).2.1)≠0 then g ((bs.drop (itemN bs).1).take (itemN bs).2.1)else zbi g (zaY fu (bs.drop ((itemN bs).1+(itemN bs).2.1))):=by
 by_cases h0:(itemN bs).2.2=0
 . rw[zhM h h0,if_neg (by simp[h0])]
   conv=>lhs;unfold zbi
   rw[if_neg (by simp)]
 . rw[if_pos h0]
   conv=>lhs;unfold zaY
   rw[if_neg h,if_neg h0];unfold zbi;rw[if_pos h0]
theorem zmu{w0:World}(hs:zag w A n c S)(hb0:zac w0 V m k vs)(E0:Ext w0 w)(hm:m<=1000000000):
 Calls prog 56 #[.slice A n c,zaq f,.slice V m k,.int .i64 d] w (zhG f (oneL (S.map MsgV.d) f d) vs w0 w):=by
 have hb:=hb0.up E0;have hml:=hb.length;have hone:=fun(W:World)(A':Option Addr)(n' c':Nat)(b:List UInt8)(h:Ext w W)(hb':zac W A' n' c' b)(hn:n'<=1000000000)=>zrV (f:=f) (d:=d) (hs.up h) hb' hn
 generalize oneL (S.map MsgV.d) f d=g at*;have Hb:=zsz hb;have Hb0:=zsz hb0;clear hb0;unfold zhG;rcases hr:f.rep with _|_
 . have hi:zaI false vs=[(vs,0)]:=rfl
   have hf1:zbi g (zaI false vs)=g vs:=by
    rw[hi];unfold zbi;rw[if_neg (by simp)];split
    . rfl
    . rename_i h
      have:g vs=0:=by simpa using h
      rw[this];rfl
   have hib:zck false vs=[vs]:=by unfold zck;rw[hi];rfl
   rw[hf1,hib];have hone2:=fun(W:World)(h:Ext w W)=>hone W V m k vs h (hb.up h) hm
   have Hone:=zsz hone2;obtain⟨fname,fnum,fkind,frep,fpk,fof⟩:=f;simp only at hr;subst hr;unfold zaq at*;clear hone hone2 hi hf1 hib hs hb;have X0:Ext w (w.alloc (.cells #[.string fname,.int .i64 fnum,.int .i64 fkind,.bool false,.bool fpk,.int .i64 fof] 43)):=(Ext.refl w).alloc _;have BF:=BlkT.new w 43 #[.string fname,.int .i64 fnum,.int .i64 fkind,.bool false,.bool fpk,.int .i64 fof] rfl
   go_enter func56,ntmps56
   go_upto_region 1 with fail
   generalize w.alloc (.cells #[.string fname,.int .i64 fnum,.int .i64 fkind,.bool false,.bool fpk,.int .i64 fof] 43)=wx at*;have c0:wx.cell? ⟨w.heap.size,0,none⟩=some (.string fname):=BF.cell 0;have c1:wx.cell? ⟨w.heap.size,1,none⟩=some (.int .i64 fnum):=BF.cell 1;have c2:wx.cell? ⟨w.heap.size,2,none⟩=some (.int .i64 fkind):=BF.cell 2;have c3:wx.cell? ⟨w.heap.size,3,none⟩=some (.bool false):=BF.cell 3;have c4:wx.cell? ⟨w.heap.size,4,none⟩=some (.bool fpk):=BF.cell 4;have c5:wx.cell? ⟨w.heap.size,5,none⟩=some (.int .i64 fof):=BF.cell 5;have cl:=BF.lt;clear BF;have RO:=zce wx (.slice V m k) 24 (b:=wx.heap.size) rfl;have XR:Ext wx (wx.alloc (.cells #[.slice V m k] 24)):=(Ext.refl wx).alloc _
   go_upto_region 2 with fail
   have y0:=XR.of_cell c0;have y1:=XR.of_cell c1;have y2:=XR.of_cell c2;have y3:=XR.of_cell c3;have y4:=XR.of_cell c4;have y5:=XR.of_cell c5;have yl:=Nat.lt_of_lt_of_le cl XR.size
   go_wp2_with (go_at_call 86;refine(Hone.out _ (X0.trans XR)).mono ?_;rintro e w3 ⟨rfl,E3⟩)
   go_ret2
   refine⟨[⟨V,m,k,vs⟩],_,1,1,rfl,X0.trans (XR.trans E3),zsz (fun _=>⟨⟨RO.ext E3,fun b hb=> ?_,fun r hr=> ?_⟩,rfl⟩)⟩
   . obtain⟨_,p,hp,rfl⟩:=hb
     cases hp;exact X0.size
   . rw[List.mem_singleton]at hr
     subst hr;exact Hb0.out
 . have hi:zaI true vs=zaY vs.length vs:=rfl
   have hib:zck true vs=(zaY vs.length vs).map (·.1):=rfl;rw[hi,hib];have Hone:=zsz hone;obtain⟨fname,fnum,fkind,frep,fpk,fof⟩:=f;simp only at hr;subst hr;unfold zaq at*;clear hone hi hib hs hb;obtain⟨F,hF⟩:∃F,F=zbi g (zaY vs.length vs):=⟨_,rfl⟩
   obtain⟨IB,hIB⟩:∃IB,IB=(zaY vs.length vs).map (·.1):=⟨_,rfl⟩
   rw[<-hF,<-hIB];have HF:=zsz hF;have HIB:=zsz hIB;have Hml:=zsz hml;clear hF hIB hml;have X0:Ext w (w.alloc (.cells #[.string fname,.int .i64 fnum,.int .i64 fkind,.bool true,.bool fpk,.int .i64 fof] 43)):=(Ext.refl w).alloc _;have BF:=BlkT.new w 43 #[.string fname,.int .i64 fnum,.int .i64 fkind,.bool true,.bool fpk,.int .i64 fof] rfl
   go_enter func56,ntmps56
   go_upto_region 1 with fail
   generalize w.alloc (.cells #[.string fname,.int .i64 fnum,.int .i64 fkind,.bool true,.bool fpk,.int .i64 fof] 43)=wx at*;have c0:wx.cell? ⟨w.heap.size,0,none⟩=some (.string fname):=BF.cell 0;have c1:wx.cell? ⟨w.heap.size,1,none⟩=some (.int .i64 fnum):=BF.cell 1;have c2:wx.cell? ⟨w.heap.size,2,none⟩=some (.int .i64 fkind):=BF.cell 2;have c3:wx.cell? ⟨w.heap.size,3,none⟩=some (.bool true):=BF.cell 3;have c4:wx.cell? ⟨w.heap.size,4,none⟩=some (.bool fpk):=BF.cell 4;have c5:wx.cell? ⟨w.heap.size,5,none⟩=some (.int .i64 fof):=BF.cell 5;have cl:=BF.lt;clear BF
   go_wp2_with fail
   go_loopw [10,11] (fun t10 t11 wr=>∃(q:Nat)(rows:List BRow)(A10:Option Addr)(k10:Nat),q<=m/\rows.length<=q/\t11=.int .i64 q/\t10=.slice A10 rows.length k10/\Own wx wr 24 1 A10 rows.length k10 (rows.map browV)/\
    Hid ((∀r∈rows,zac w0 r.A r.n r.c r.bs)/\IB=zat rows++(zaY (vs.drop q).length (vs.drop q)).map (·.1)/\F=zbi g (zaY (vs.drop q).length (vs.drop q)))) (fun _ i _=>m - (intOf i).toNat)
   case atStart=>exact⟨0,[],none,0,Nat.zero_le _,Nat.zero_le _,rfl,rfl,Own.nil (Ext.refl _) 24 1,zsz ⟨fun r hr=>(by cases hr),(by rw[HIB.out];rfl),(by rw[HF.out];rfl)⟩⟩
   case round=>
    obtain⟨q,rows,A10,k10,hq,hrq,rfl,rfl,own,hst⟩:=hrel;by_cases hlt:q<m
    . have hlt2:(q:Int)<m:=by omega
      obtain⟨fu,hfu⟩:∃fu,(vs.drop q).length=fu+1:=⟨m - q - 1,by rw[List.length_drop,Hml.out];omega⟩
      have hne:vs.drop q≠ []:=fun e=>by rw[e]at hfu;cases hfu
      have X:=own.ext;replace c0:=X.of_cell c0;replace c1:=X.of_cell c1;replace c2:=X.of_cell c2;replace c3:=X.of_cell c3;replace c4:=X.of_cell c4;replace c5:=X.of_cell c5;replace cl:=Nat.lt_of_lt_of_le cl X.size;obtain⟨h1,h2,h3⟩:=hst.out;rw[hfu,znu hne]at h3;rcases hv:readV (vs.drop q)with⟨W,N,C⟩
      have hvb:=zaP (vs.drop q);rw[hv]at hvb;simp only at hvb;have hWr:=hvb.1;have hrd:=fun(W':World)(h:Ext w W')=>zdk (p:=q) (at_:=(q:Int)) (Hb.out.up h) rfl hq (by omega) hv
      have hin:itemN (vs.drop q)=if C≠0 then(0,0,C)else if(vs.drop q).length - N<W then(0,0,3)else(N,W,0):=by unfold itemN;rw[hv]
      have Hrd:=zsz hrd;have hX:=X0.trans X;by_cases hC:C=0
      . subst hC
        rw[if_neg (by simp)]at hin;have hN:=hvb.2.2.2.2.1 rfl
        have hNl:N<=m - q:=by
         have:=hvb.2.1;rw[List.length_drop,Hml.out]at this;omega
        by_cases hW:(vs.drop q).length - N<W
        . rw[if_pos hW]at hin
          rw[hin]at h3;have hF3:F=3:=by rw[h3,if_pos (by simp)]
          have hgt:((m:Int) - ((q:Int)+N))<W:=by rw[List.length_drop,Hml.out]at hW;omega
          subst hF3;clear h1 h2 h3 hst hin hne hrd hvb hW HF HIB hfu
          go_wp2_with (go_at_call 70;refine(Hrd.out _ hX).mono ?_;rintro e w2 ⟨rfl,rfl⟩)
          go_ret2
          exact⟨[],none,0,0,rfl,hX,zsz (fun h=>by cases h)⟩
        . rw[if_neg hW]at hin
          rw[hin]at h3;have hWl:q+N+W<=m:=by rw[List.length_drop,Hml.out]at hW;omega
          obtain⟨l,hl⟩:∃l,l=q+N:=⟨_,rfl⟩
          obtain⟨r,hr⟩:∃r,r=l+W:=⟨_,rfl⟩
          obtain⟨A9,hcut9,hb9⟩:=zcc Hb0.out (l:=l) (m:=r) (by omega) (by omega)
          have hbe:((vs.drop q).drop N).take W=spanB vs l r:=by
           unfold spanB;rw[List.drop_drop,List.drop_take,hr,<-hl];congr 1;omega
          have hrest:(vs.drop q).drop (N+W)=vs.drop r:=by rw[List.drop_drop,hr,hl];congr 1;omega
          have hfl:zaY fu (vs.drop r)=zaY (vs.drop r).length (vs.drop r):=zhL _ _ _ (by rw[List.length_drop]at hfu⊢;omega) (Nat.le_refl _)
          have h2':IB=zat rows++(spanB vs l r::(zaY (vs.drop r).length (vs.drop r)).map (·.1)):=by
           rw[h2,hfu,zhM hne (by rw[hin]),hin];simp only;rw[hbe,hrest,hfl,List.map_cons]
          rw[if_neg (by simp)]at h3;simp only at h3;rw[hbe,hrest,hfl]at h3;have hle1:(q:Int)+N=l:=by omega
          have hle2:(l:Int)+W=r:=by omega
          have hgt:¬((m:Int) - (l:Int))<W:=by omega
          have hlm:l<=m:=by omega
          have hrm:r<=m:=by omega
          have hqr:q<r:=by omega
          have hon:=fun(W':World)(h:Ext w W')=>Hone.out W' A9 (r - l) (k - l) (spanB vs l r) h (hb9.up (E0.trans h)) (by omega)
          have Hb9:=zsz hb9;have H1:=zsz h1;have H2:=zsz h2';by_cases hg:g (spanB vs l r)=0
          . rw[hg]at hon
            rw[if_neg (by simp[hg])]at h3;have Hon:=zsz hon;have H3:=zsz h3;clear h1 h2 h2' h3 hst hin hne hrd hvb hW HF HIB hfu hl hr hbe hrest hfl hon hb9 hg hWl
            go_wp2_with (first
             |(go_at_call 70;refine(Hrd.out _ hX).mono ?_;rintro e w2 ⟨rfl,rfl⟩)
             |(go_at_call 86;refine(Hon.out _ hX).mono ?_;rintro e w3 ⟨rfl,E3⟩)
             |(at_builtin;refine zaH zqD rfl (.tmp 66) (.tmp 68) rfl rfl (own.up E3) rfl (by first|rfl|simp) rfl (by omega) (by unfold maxLen;omega) ?_;intro A4 c4' w4 own4 g4))
            go_roundw
            case rel=>exact⟨r,rows++[⟨A9,r - l,k - l,spanB vs l r⟩],A4,c4',hrm,by simp;omega,by go_num,by simp,by simpa[browV] using own4,zsz ⟨fun s hs=>(by
             rcases List.mem_append.1 hs with hs|hs
             . exact H1.out s hs
             . rw[List.mem_singleton]at hs
               subst hs
               exact Hb9.out),(by rw[H2.out];unfold zat;simp),H3.out⟩⟩
            case measure=>simp[intOf];omega
          . rw[if_pos hg]at h3
            have hgn:((g (spanB vs l r):Int) !=0)=true:=by rw[bne_iff_ne];omega
            generalize g (spanB vs l r)=G at*;subst h3;have Hon:=zsz hon;have HG:=zsz hg;clear h1 h2 h2' hst hin hne hrd hvb hW HF HIB hfu hl hr hbe hrest hfl hon hb9 hg hWl
            go_wp2_with (first
             |(go_at_call 70;refine(Hrd.out _ hX).mono ?_;rintro e w2 ⟨rfl,rfl⟩)
             |(go_at_call 86;refine(Hon.out _ hX).mono ?_;rintro e w3 ⟨rfl,E3⟩))
            go_ret2
            exact⟨[],none,0,0,rfl,hX.trans E3,zsz (fun h=>absurd h HG.out)⟩
      . rw[if_pos hC]at hin
        rw[hin]at h3;have hFC:F=C:=by rw[h3,if_pos hC]
        have hCn:((C:Int) !=0)=true:=by rw[bne_iff_ne];omega
        subst hFC;clear h1 h2 h3 hst hin hne hrd hvb HF HIB hfu
        go_wp2_with (go_at_call 70;refine(Hrd.out _ hX).mono ?_;rintro e w2 ⟨rfl,rfl⟩)
        go_ret2
        exact⟨[],none,0,0,rfl,hX,zsz (fun h=>absurd h hC)⟩
    . obtain rfl:q=m:=by omega
      obtain⟨h1,h2,h3⟩:=hst.out;have hz:vs.drop q=[]:=List.drop_of_length_le (by rw[Hml.out];exact Nat.le_refl _);rw[hz]at h2 h3;have hF0:F=0:=h3;have hIR:IB=zat rows:=by rw[h2];simp[zaY]
      have H1:=zsz h1;have HIR:=zsz hIR;subst hF0;clear h1 h2 h3 hst hz hIR HF HIB
      go_wp2
      go_ret2
      exact⟨rows,A10,_,k10,rfl,X0.trans own.ext,zsz (by first|exact fun _=>⟨⟨own.reads,fun b hb=>Nat.le_trans X0.size (own.uses_new hb),fun r hr=>H1.out r hr⟩,HIR.out.symm⟩|exact⟨⟨own.reads,fun b hb=>Nat.le_trans X0.size (own.uses_new hb),fun r hr=>H1.out r hr⟩,HIR.out.symm⟩)⟩
theorem zqf(hs:zag w A n c S)(hb:zac w V m k vs)(hm:m<=1000000000):
 Calls prog 25 #[.slice A n c,zaq f,.slice V m k,.int .i64 d] w fun e w'=>e=.returned (.int .i64 (codeL (S.map MsgV.d) f vs d:Nat))/\Ext w w':=by
 have har:=fun(W:World)(h:Ext w W)=>rArgs (f:=f) (d:=d) (hs.up h)
 have hit:=fun(W:World)(h:Ext w W)=>zmu (f:=f) (d:=d) (hs.up h) hb h hm
 have hen:=fun(W:World)(h:Ext w W)=>zlL (k:=f.kind) (hb.up h) hm
 have hkn:=fun W:World=>zbz f.kind W
 unfold zhG at hit;by_cases h0:argsL (S.map MsgV.d) f d=0
 . rw[h0]at har
   rcases hr:runL f with _|_
   . rw[zdi h0 hr]
     generalize zbi (oneL (S.map MsgV.d) f d) (zaI f.rep vs)=K at*;have Har:=zsz har;have Hit:=zsz hit;rcases hrep:f.rep with _|_
     . obtain⟨fname,fnum,fkind,frep,fpk,fof⟩:=f
       simp only at hrep;subst hrep;unfold zaq at*;clear har hit hen hkn h0 hr hs hb;have X0:Ext w (w.alloc (.cells #[.string fname,.int .i64 fnum,.int .i64 fkind,.bool false,.bool fpk,.int .i64 fof] 43)):=(Ext.refl w).alloc _;have BF:=BlkT.new w 43 #[.string fname,.int .i64 fnum,.int .i64 fkind,.bool false,.bool fpk,.int .i64 fof] rfl
       go_enter func25,ntmps25
       go_upto_region 1 with fail
       generalize w.alloc (.cells #[.string fname,.int .i64 fnum,.int .i64 fkind,.bool false,.bool fpk,.int .i64 fof] 43)=wx at*;have c0:wx.cell? ⟨w.heap.size,0,none⟩=some (.string fname):=BF.cell 0;have c1:wx.cell? ⟨w.heap.size,1,none⟩=some (.int .i64 fnum):=BF.cell 1;have c2:wx.cell? ⟨w.heap.size,2,none⟩=some (.int .i64 fkind):=BF.cell 2;have c3:wx.cell? ⟨w.heap.size,3,none⟩=some (.bool false):=BF.cell 3;have c4:wx.cell? ⟨w.heap.size,4,none⟩=some (.bool fpk):=BF.cell 4;have c5:wx.cell? ⟨w.heap.size,5,none⟩=some (.int .i64 fof):=BF.cell 5;have cl:=BF.lt;clear BF
       go_wp2_with (first
        |(go_at_call 55;refine(Har.out _ X0).mono ?_;rintro e w1 ⟨rfl,E1⟩;have X1:=X0.trans E1;replace c0:=E1.of_cell c0;replace c1:=E1.of_cell c1;replace c2:=E1.of_cell c2;replace c3:=E1.of_cell c3;replace c4:=E1.of_cell c4;replace c5:=E1.of_cell c5;replace cl:=Nat.lt_of_lt_of_le cl E1.size)
        |(go_at_call 56;refine(Hit.out _ X1).mono ?_;rintro e w3 ⟨l3,A3,n3,k3,rfl,E3,_⟩))
       go_ret
       exact⟨rfl,X1.trans E3⟩
     . have hn:zaf f.kind=false:=by
        unfold runL at hr;rw[hrep,Bool.true_and]at hr;exact hr
       rw[hn]at hkn;have Hkn:=zsz hkn;obtain⟨fname,fnum,fkind,frep,fpk,fof⟩:=f;simp only at hrep;subst hrep;unfold zaq at*;clear har hit hen hkn h0 hr hs hb hn;have X0:Ext w (w.alloc (.cells #[.string fname,.int .i64 fnum,.int .i64 fkind,.bool true,.bool fpk,.int .i64 fof] 43)):=(Ext.refl w).alloc _;have BF:=BlkT.new w 43 #[.string fname,.int .i64 fnum,.int .i64 fkind,.bool true,.bool fpk,.int .i64 fof] rfl
       go_enter func25,ntmps25
       go_upto_region 1 with fail
       generalize w.alloc (.cells #[.string fname,.int .i64 fnum,.int .i64 fkind,.bool true,.bool fpk,.int .i64 fof] 43)=wx at*;have c0:wx.cell? ⟨w.heap.size,0,none⟩=some (.string fname):=BF.cell 0;have c1:wx.cell? ⟨w.heap.size,1,none⟩=some (.int .i64 fnum):=BF.cell 1;have c2:wx.cell? ⟨w.heap.size,2,none⟩=some (.int .i64 fkind):=BF.cell 2;have c3:wx.cell? ⟨w.heap.size,3,none⟩=some (.bool true):=BF.cell 3;have c4:wx.cell? ⟨w.heap.size,4,none⟩=some (.bool fpk):=BF.cell 4;have c5:wx.cell? ⟨w.heap.size,5,none⟩=some (.int .i64 fof):=BF.cell 5;have cl:=BF.lt;clear BF
       go_wp2_with (first
        |(go_at_call 55;refine(Har.out _ X0).mono ?_;rintro e w1 ⟨rfl,E1⟩;have X1:=X0.trans E1;replace c0:=E1.of_cell c0;replace c1:=E1.of_cell c1;replace c2:=E1.of_cell c2;replace c3:=E1.of_cell c3;replace c4:=E1.of_cell c4;replace c5:=E1.of_cell c5;replace cl:=Nat.lt_of_lt_of_le cl E1.size)
        |(go_at_call 14;refine(Hkn.out _).mono ?_;rintro e w2 ⟨rfl,rfl⟩)
        |(go_at_call 56;refine(Hit.out _ X1).mono ?_;rintro e w3 ⟨l3,A3,n3,k3,rfl,E3,_⟩))
       go_ret
       exact⟨rfl,X1.trans E3⟩
   . rw[zfF h0 hr]
     have hrep:f.rep=true:=by
      unfold runL at hr;rw[Bool.and_eq_true]at hr;exact hr.1
     have hn:zaf f.kind=true:=by
      unfold runL at hr;rw[Bool.and_eq_true]at hr;exact hr.2
     rw[hn]at hkn;have he:(endsV f.kind vs).2=codeV f.kind vs:=rfl;rw[he]at hen;generalize codeV f.kind vs=K at*;generalize (endsV f.kind vs).1=EL at*;have Har:=zsz har;have Hen:=zsz hen;have Hkn:=zsz hkn;obtain⟨fname,fnum,fkind,frep,fpk,fof⟩:=f;simp only at hrep;subst hrep;unfold zaq at*;clear har hit hen hkn h0 hr hs hb hn he;have X0:Ext w (w.alloc (.cells #[.string fname,.int .i64 fnum,.int .i64 fkind,.bool true,.bool fpk,.int .i64 fof] 43)):=(Ext.refl w).alloc _;have BF:=BlkT.new w 43 #[.string fname,.int .i64 fnum,.int .i64 fkind,.bool true,.bool fpk,.int .i64 fof] rfl
     go_enter func25,ntmps25
     go_upto_region 1 with fail
     generalize w.alloc (.cells #[.string fname,.int .i64 fnum,.int .i64 fkind,.bool true,.bool fpk,.int .i64 fof] 43)=wx at*;have c0:wx.cell? ⟨w.heap.size,0,none⟩=some (.string fname):=BF.cell 0;have c1:wx.cell? ⟨w.heap.size,1,none⟩=some (.int .i64 fnum):=BF.cell 1;have c2:wx.cell? ⟨w.heap.size,2,none⟩=some (.int .i64 fkind):=BF.cell 2;have c3:wx.cell? ⟨w.heap.size,3,none⟩=some (.bool true):=BF.cell 3;have c4:wx.cell? ⟨w.heap.size,4,none⟩=some (.bool fpk):=BF.cell 4;have c5:wx.cell? ⟨w.heap.size,5,none⟩=some (.int .i64 fof):=BF.cell 5;have cl:=BF.lt;clear BF
     go_wp2_with (first
      |(go_at_call 55;refine(Har.out _ X0).mono ?_;rintro e w1 ⟨rfl,E1⟩;have X1:=X0.trans E1;replace c0:=E1.of_cell c0;replace c1:=E1.of_cell c1;replace c2:=E1.of_cell c2;replace c3:=E1.of_cell c3;replace c4:=E1.of_cell c4;replace c5:=E1.of_cell c5;replace cl:=Nat.lt_of_lt_of_le cl E1.size)
      |(go_at_call 14;refine(Hkn.out _).mono ?_;rintro e w2 ⟨rfl,rfl⟩)
      |(go_at_call 52;refine(Hen.out _ X1).mono ?_;rintro e w3 ⟨A3,k3,rfl,own3⟩))
     go_ret
     exact⟨rfl,X1.trans own3.ext⟩
 . rw[zen h0]
   generalize argsL (S.map MsgV.d) f d=K at*;have q:((K:Int) !=0)=true:=by rw[bne_iff_ne];omega
   have Har:=zsz har;obtain⟨fname,fnum,fkind,frep,fpk,fof⟩:=f;unfold zaq at*;clear har hit hen hkn h0 hs hb;have X0:Ext w (w.alloc (.cells #[.string fname,.int .i64 fnum,.int .i64 fkind,.bool frep,.bool fpk,.int .i64 fof] 43)):=(Ext.refl w).alloc _;have BF:=BlkT.new w 43 #[.string fname,.int .i64 fnum,.int .i64 fkind,.bool frep,.bool fpk,.int .i64 fof] rfl
   go_enter func25,ntmps25
   go_upto_region 1 with fail
   generalize w.alloc (.cells #[.string fname,.int .i64 fnum,.int .i64 fkind,.bool frep,.bool fpk,.int .i64 fof] 43)=wx at*;have c0:wx.cell? ⟨w.heap.size,0,none⟩=some (.string fname):=BF.cell 0;have c1:wx.cell? ⟨w.heap.size,1,none⟩=some (.int .i64 fnum):=BF.cell 1;have c2:wx.cell? ⟨w.heap.size,2,none⟩=some (.int .i64 fkind):=BF.cell 2;have c3:wx.cell? ⟨w.heap.size,3,none⟩=some (.bool frep):=BF.cell 3;have c4:wx.cell? ⟨w.heap.size,4,none⟩=some (.bool fpk):=BF.cell 4;have c5:wx.cell? ⟨w.heap.size,5,none⟩=some (.int .i64 fof):=BF.cell 5;have cl:=BF.lt;clear BF
   go_wp2_with (go_at_call 55;refine(Har.out _ X0).mono ?_;rintro e w1 ⟨rfl,E1⟩)
   go_ret
   exact⟨rfl,X0.trans E1⟩
end Go.Proofs.YtpicpebolghcfaaGreatDoor
