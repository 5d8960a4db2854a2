/- Contracts of layer 20: may a load be worked on? is it a run? -/
import Derived.Test.YtpicpebolghcfaaGreatDoorQlW14o

set_option linter.unusedVariables false
set_option maxRecDepth 100000
set_option maxHeartbeats 4000000
namespace Go.Proofs.YtpicpebolghcfaaGreatDoor
open Go.RowKit Go.Shelf Tryz
def badL(n:Nat)(f:zab)(d:Int):Prop:=f.number<1\/536870911<f.number\/kindB f.kind=false\/d<0\/64<d\/(f.kind=17/\(f.of_<0\/(n:Int)<=f.of_))
instance (n:Nat) (f:zab) (d:Int):Decidable (badL n f d):=by unfold badL;infer_instance
def argsL(S:List MsgD)(f:zab)(d:Int):Nat:=if zan S=false then 9 else if badL S.length f d then 2 else 0
variable{d:Int}{f:zab}{S:List MsgD}
theorem zhK(h:zan S=false):argsL S f d=9:=if_pos h
theorem zcH(h:zan S=true)(hb:badL S.length f d):argsL S f d=2:=by
 unfold argsL;rw[if_neg (by rw[h];decide),if_pos hb]
theorem zgi(h:zan S=true)(hb:¬badL S.length f d):argsL S f d=0:=by
 unfold argsL;rw[if_neg (by rw[h];decide),if_neg hb]
theorem ziI(h:zan S=true){p:Prop}(w1:argsL S f d=2->f.number<1->p)(w2:argsL S f d=2->¬f.number<1->536870911<f.number->p)(w3:argsL S f d=2->¬f.number<1->¬536870911<f.number->kindB f.kind=false->p)(w4:argsL S f d=2->¬f.number<1->¬536870911<f.number->kindB f.kind=true->d<0->p)(w5:argsL S f d=2->¬f.number<1->¬536870911<f.number->kindB f.kind=true->¬d<0->64<d->p)(w6:argsL S f d=2->¬f.number<1->¬536870911<f.number->kindB f.kind=true->¬d<0->¬64<d->f.kind=17->f.of_<0->p)(w7:argsL S f d=2->¬f.number<1->¬536870911<f.number->kindB f.kind=true->¬d<0->¬64<d->f.kind=17->¬f.of_<0->(S.length:Int)<=f.of_->p)(w8:argsL S f d=0->¬f.number<1->¬536870911<f.number->kindB f.kind=true->¬d<0->¬64<d->f.kind=17->¬f.of_<0->¬(S.length:Int)<=f.of_->p)(w9:argsL S f d=0->¬f.number<1->¬536870911<f.number->kindB f.kind=true->¬d<0->¬64<d->f.kind≠17->p):p:=by
 by_cases h1:f.number<1
 . exact w1 (zcH h (.inl h1)) h1
 by_cases h2:536870911<f.number
 . exact w2 (zcH h (.inr (.inl h2))) h1 h2
 rcases h3:kindB f.kind with _|_
 . exact w3 (zcH h (.inr (.inr (.inl h3)))) h1 h2 h3
 by_cases h4:d<0
 . exact w4 (zcH h (.inr (.inr (.inr (.inl h4))))) h1 h2 h3 h4
 by_cases h5:64<d
 . exact w5 (zcH h (.inr (.inr (.inr (.inr (.inl h5)))))) h1 h2 h3 h4 h5
 by_cases h6:f.kind=17
 . by_cases h7:f.of_<0
   . exact w6 (zcH h (.inr (.inr (.inr (.inr (.inr ⟨h6,.inl h7⟩)))))) h1 h2 h3 h4 h5 h6 h7
   by_cases h8:(S.length:Int)<=f.of_
   . exact w7 (zcH h (.inr (.inr (.inr (.inr (.inr ⟨h6,.inr h8⟩)))))) h1 h2 h3 h4 h5 h6 h7 h8
   . refine w8 (zgi h ?_) h1 h2 h3 h4 h5 h6 h7 h8
     rintro(q|q|q|q|q|⟨_,q|q⟩)
     . exact h1 q
     . exact h2 q
     . rw[h3]at q;cases q
     . exact h4 q
     . exact h5 q
     . exact h7 q
     . exact h8 q
 . refine w9 (zgi h ?_) h1 h2 h3 h4 h5 h6
   rintro(q|q|q|q|q|⟨q,_⟩)
   . exact h1 q
   . exact h2 q
   . rw[h3]at q;cases q
   . exact h4 q
   . exact h5 q
   . exact h6 q
variable{w:World}{n c:Nat}{A:Option Addr}
theorem lArgs{S:List MsgV}(hs:zag w A n c S):
 Calls prog 134 #[.slice A n c,zaq f,.int .i64 d] w fun e w'=>e=.returned (.int .u8 (argsL (S.map MsgV.d) f d:Nat))/\Ext w w':=by
 have hl:(S.map MsgV.d).length=n:=by rw[List.length_map];exact hs.length
 have hr:=fun W (h:zag W A n c S)=>zmG h
 have hk:=fun W=>zpl f.kind W
 unfold zaq;have BF:=BlkT.new w 43 #[.string f.name,.int .i64 f.number,.int .i64 f.kind,.bool f.rep,.bool f.packed,.int .i64 f.of_] rfl;have X0:Ext w (w.alloc (.cells #[.string f.name,.int .i64 f.number,.int .i64 f.kind,.bool f.rep,.bool f.packed,.int .i64 f.of_] 43)):=(Ext.refl w).alloc _;rcases hR:zan (S.map MsgV.d)with _|_
 . rw[hR]at hr
   have h9:=zhK (f:=f) (d:=d) hR;have Hr:=zsz hr;have H9:=zsz h9;clear hr hk hR h9
   go_enter func134,ntmps134
   go_wp2_with (go_at_call 102;refine(Hr.out _ (hs.up xx)).mono ?_;rintro e w1 ⟨rfl,E1⟩)
   all_goals
    go_ret
    exact⟨by rw[H9.out];rfl,Ext.trans xx E1⟩
 rw[hR]at hr;have Hr:=zsz hr;clear hr;refine ziI (d:=d) (f:=f) hR ?_ ?_ ?_ ?_ ?_ ?_ ?_ ?_ ?_
 . intro h2 i1
   have H2:=zsz h2;clear h2;clear hk hl hR
   go_enter func134,ntmps134
   go_wp2_with fail
   generalize w.alloc (.cells #[.string f.name,.int .i64 f.number,.int .i64 f.kind,.bool f.rep,.bool f.packed,.int .i64 f.of_] 43)=wx at*;have z1:wx.cell? ⟨w.heap.size,1,none⟩=some (.int .i64 f.number):=BF.cell 1;have z2:wx.cell? ⟨w.heap.size,2,none⟩=some (.int .i64 f.kind):=BF.cell 2;have z5:wx.cell? ⟨w.heap.size,5,none⟩=some (.int .i64 f.of_):=BF.cell 5;clear BF
   go_wp2_with (first
    |(go_at_call 102;refine(Hr.out _ (hs.up X0)).mono ?_;rintro e w1 ⟨rfl,E1⟩;replace z1:=E1.of_cell z1;replace z2:=E1.of_cell z2;replace z5:=E1.of_cell z5))
   go_ret
   exact⟨by rw[H2.out];rfl,X0.trans E1⟩
 . intro h2 i1 i2
   have H2:=zsz h2;clear h2;clear hk hl hR
   go_enter func134,ntmps134
   go_wp2_with fail
   generalize w.alloc (.cells #[.string f.name,.int .i64 f.number,.int .i64 f.kind,.bool f.rep,.bool f.packed,.int .i64 f.of_] 43)=wx at*;have z1:wx.cell? ⟨w.heap.size,1,none⟩=some (.int .i64 f.number):=BF.cell 1;have z2:wx.cell? ⟨w.heap.size,2,none⟩=some (.int .i64 f.kind):=BF.cell 2;have z5:wx.cell? ⟨w.heap.size,5,none⟩=some (.int .i64 f.of_):=BF.cell 5;clear BF
   go_wp2_with (first
    |(go_at_call 102;refine(Hr.out _ (hs.up X0)).mono ?_;rintro e w1 ⟨rfl,E1⟩;replace z1:=E1.of_cell z1;replace z2:=E1.of_cell z2;replace z5:=E1.of_cell z5))
   go_ret
   exact⟨by rw[H2.out];rfl,X0.trans E1⟩
 . intro h2 i1 i2 i3
   have H2:=zsz h2;clear h2;rw[i3]at hk;have Hk:=zsz hk;clear i3;clear hk hl hR
   go_enter func134,ntmps134
   go_wp2_with fail
   generalize w.alloc (.cells #[.string f.name,.int .i64 f.number,.int .i64 f.kind,.bool f.rep,.bool f.packed,.int .i64 f.of_] 43)=wx at*;have z1:wx.cell? ⟨w.heap.size,1,none⟩=some (.int .i64 f.number):=BF.cell 1;have z2:wx.cell? ⟨w.heap.size,2,none⟩=some (.int .i64 f.kind):=BF.cell 2;have z5:wx.cell? ⟨w.heap.size,5,none⟩=some (.int .i64 f.of_):=BF.cell 5;clear BF
   go_wp2_with (first
    |(go_at_call 102;refine(Hr.out _ (hs.up X0)).mono ?_;rintro e w1 ⟨rfl,E1⟩;replace z1:=E1.of_cell z1;replace z2:=E1.of_cell z2;replace z5:=E1.of_cell z5)
    |(go_at_call 152;refine(Hk.out _).mono ?_;rintro e w2 ⟨rfl,hw⟩;subst hw))
   go_ret
   exact⟨by rw[H2.out];rfl,X0.trans E1⟩
 . intro h2 i1 i2 i3 i4
   have H2:=zsz h2;clear h2;rw[i3]at hk;have Hk:=zsz hk;clear i3;clear hk hl hR
   go_enter func134,ntmps134
   go_wp2_with fail
   generalize w.alloc (.cells #[.string f.name,.int .i64 f.number,.int .i64 f.kind,.bool f.rep,.bool f.packed,.int .i64 f.of_] 43)=wx at*;have z1:wx.cell? ⟨w.heap.size,1,none⟩=some (.int .i64 f.number):=BF.cell 1;have z2:wx.cell? ⟨w.heap.size,2,none⟩=some (.int .i64 f.kind):=BF.cell 2;have z5:wx.cell? ⟨w.heap.size,5,none⟩=some (.int .i64 f.of_):=BF.cell 5;clear BF
   go_wp2_with (first
    |(go_at_call 102;refine(Hr.out _ (hs.up X0)).mono ?_;rintro e w1 ⟨rfl,E1⟩;replace z1:=E1.of_cell z1;replace z2:=E1.of_cell z2;replace z5:=E1.of_cell z5)
    |(go_at_call 152;refine(Hk.out _).mono ?_;rintro e w2 ⟨rfl,hw⟩;subst hw))
   go_ret
   exact⟨by rw[H2.out];rfl,X0.trans E1⟩
 . intro h2 i1 i2 i3 i4 i5
   have H2:=zsz h2;clear h2;rw[i3]at hk;have Hk:=zsz hk;clear i3;clear hk hl hR
   go_enter func134,ntmps134
   go_wp2_with fail
   generalize w.alloc (.cells #[.string f.name,.int .i64 f.number,.int .i64 f.kind,.bool f.rep,.bool f.packed,.int .i64 f.of_] 43)=wx at*;have z1:wx.cell? ⟨w.heap.size,1,none⟩=some (.int .i64 f.number):=BF.cell 1;have z2:wx.cell? ⟨w.heap.size,2,none⟩=some (.int .i64 f.kind):=BF.cell 2;have z5:wx.cell? ⟨w.heap.size,5,none⟩=some (.int .i64 f.of_):=BF.cell 5;clear BF
   go_wp2_with (first
    |(go_at_call 102;refine(Hr.out _ (hs.up X0)).mono ?_;rintro e w1 ⟨rfl,E1⟩;replace z1:=E1.of_cell z1;replace z2:=E1.of_cell z2;replace z5:=E1.of_cell z5)
    |(go_at_call 152;refine(Hk.out _).mono ?_;rintro e w2 ⟨rfl,hw⟩;subst hw))
   go_ret
   exact⟨by rw[H2.out];rfl,X0.trans E1⟩
 . intro h2 i1 i2 i3 i4 i5 i6 i7
   have H2:=zsz h2;clear h2;have t17:(f.kind==17)=true:=by rw[beq_iff_eq];exact i6
   clear i6;rw[i3]at hk;have Hk:=zsz hk;clear i3;clear hk hl hR
   go_enter func134,ntmps134
   go_wp2_with fail
   generalize w.alloc (.cells #[.string f.name,.int .i64 f.number,.int .i64 f.kind,.bool f.rep,.bool f.packed,.int .i64 f.of_] 43)=wx at*;have z1:wx.cell? ⟨w.heap.size,1,none⟩=some (.int .i64 f.number):=BF.cell 1;have z2:wx.cell? ⟨w.heap.size,2,none⟩=some (.int .i64 f.kind):=BF.cell 2;have z5:wx.cell? ⟨w.heap.size,5,none⟩=some (.int .i64 f.of_):=BF.cell 5;clear BF
   go_wp2_with (first
    |(go_at_call 102;refine(Hr.out _ (hs.up X0)).mono ?_;rintro e w1 ⟨rfl,E1⟩;replace z1:=E1.of_cell z1;replace z2:=E1.of_cell z2;replace z5:=E1.of_cell z5)
    |(go_at_call 152;refine(Hk.out _).mono ?_;rintro e w2 ⟨rfl,hw⟩;subst hw))
   go_ret
   exact⟨by rw[H2.out];rfl,X0.trans E1⟩
 . intro h2 i1 i2 i3 i4 i5 i6 i7 i8
   have H2:=zsz h2;clear h2;rw[hl]at i8;have t17:(f.kind==17)=true:=by rw[beq_iff_eq];exact i6
   clear i6;rw[i3]at hk;have Hk:=zsz hk;clear i3;clear hk hl hR
   go_enter func134,ntmps134
   go_wp2_with fail
   generalize w.alloc (.cells #[.string f.name,.int .i64 f.number,.int .i64 f.kind,.bool f.rep,.bool f.packed,.int .i64 f.of_] 43)=wx at*;have z1:wx.cell? ⟨w.heap.size,1,none⟩=some (.int .i64 f.number):=BF.cell 1;have z2:wx.cell? ⟨w.heap.size,2,none⟩=some (.int .i64 f.kind):=BF.cell 2;have z5:wx.cell? ⟨w.heap.size,5,none⟩=some (.int .i64 f.of_):=BF.cell 5;clear BF
   go_wp2_with (first
    |(go_at_call 102;refine(Hr.out _ (hs.up X0)).mono ?_;rintro e w1 ⟨rfl,E1⟩;replace z1:=E1.of_cell z1;replace z2:=E1.of_cell z2;replace z5:=E1.of_cell z5)
    |(go_at_call 152;refine(Hk.out _).mono ?_;rintro e w2 ⟨rfl,hw⟩;subst hw))
   go_ret
   exact⟨by rw[H2.out];rfl,X0.trans E1⟩
 . intro h2 i1 i2 i3 i4 i5 i6 i7 i8
   have H2:=zsz h2;clear h2;rw[hl]at i8;have t17:(f.kind==17)=true:=by rw[beq_iff_eq];exact i6
   clear i6;rw[i3]at hk;have Hk:=zsz hk;clear i3;clear hk hl hR
   go_enter func134,ntmps134
   go_wp2_with fail
   generalize w.alloc (.cells #[.string f.name,.int .i64 f.number,.int .i64 f.kind,.bool f.rep,.bool f.packed,.int .i64 f.of_] 43)=wx at*;have z1:wx.cell? ⟨w.heap.size,1,none⟩=some (.int .i64 f.number):=BF.cell 1;have z2:wx.cell? ⟨w.heap.size,2,none⟩=some (.int .i64 f.kind):=BF.cell 2;have z5:wx.cell? ⟨w.heap.size,5,none⟩=some (.int .i64 f.of_):=BF.cell 5;clear BF
   go_wp2_with (first
    |(go_at_call 102;refine(Hr.out _ (hs.up X0)).mono ?_;rintro e w1 ⟨rfl,E1⟩;replace z1:=E1.of_cell z1;replace z2:=E1.of_cell z2;replace z5:=E1.of_cell z5)
    |(go_at_call 152;refine(Hk.out _).mono ?_;rintro e w2 ⟨rfl,hw⟩;subst hw))
   go_ret
   exact⟨by rw[H2.out];rfl,X0.trans E1⟩
 . intro h2 i1 i2 i3 i4 i5 n6
   have H2:=zsz h2;clear h2;have t17:(f.kind==17)=false:=by rw[beq_eq_false_iff_ne];exact n6
   clear n6;rw[i3]at hk;have Hk:=zsz hk;clear i3;clear hk hl hR
   go_enter func134,ntmps134
   go_wp2_with fail
   generalize w.alloc (.cells #[.string f.name,.int .i64 f.number,.int .i64 f.kind,.bool f.rep,.bool f.packed,.int .i64 f.of_] 43)=wx at*;have z1:wx.cell? ⟨w.heap.size,1,none⟩=some (.int .i64 f.number):=BF.cell 1;have z2:wx.cell? ⟨w.heap.size,2,none⟩=some (.int .i64 f.kind):=BF.cell 2;have z5:wx.cell? ⟨w.heap.size,5,none⟩=some (.int .i64 f.of_):=BF.cell 5;clear BF
   go_wp2_with (first
    |(go_at_call 102;refine(Hr.out _ (hs.up X0)).mono ?_;rintro e w1 ⟨rfl,E1⟩;replace z1:=E1.of_cell z1;replace z2:=E1.of_cell z2;replace z5:=E1.of_cell z5)
    |(go_at_call 152;refine(Hk.out _).mono ?_;rintro e w2 ⟨rfl,hw⟩;subst hw))
   go_ret
   exact⟨by rw[H2.out];rfl,X0.trans E1⟩
theorem rArgs{S:List MsgV}(hs:zag w A n c S):
 Calls prog 55 #[.slice A n c,zaq f,.int .i64 d] w fun e w'=>e=.returned (.int .i64 (argsL (S.map MsgV.d) f d:Nat))/\Ext w w':=by
 have hl:(S.map MsgV.d).length=n:=by rw[List.length_map];exact hs.length
 have hr:=fun W (h:zag W A n c S)=>zlA h
 have hk:=fun W=>zjp f.kind W
 unfold zaq;have BF:=BlkT.new w 43 #[.string f.name,.int .i64 f.number,.int .i64 f.kind,.bool f.rep,.bool f.packed,.int .i64 f.of_] rfl;have X0:Ext w (w.alloc (.cells #[.string f.name,.int .i64 f.number,.int .i64 f.kind,.bool f.rep,.bool f.packed,.int .i64 f.of_] 43)):=(Ext.refl w).alloc _;rcases hR:zan (S.map MsgV.d)with _|_
 . rw[hR]at hr
   have h9:=zhK (f:=f) (d:=d) hR;have Hr:=zsz hr;have H9:=zsz h9;clear hr hk hR h9
   go_enter func55,ntmps55
   go_wp2_with (go_at_call 61;refine(Hr.out _ (hs.up xx)).mono ?_;rintro e w1 ⟨rfl,E1⟩)
   all_goals
    go_ret
    exact⟨by rw[H9.out];rfl,Ext.trans xx E1⟩
 rw[hR]at hr;have Hr:=zsz hr;clear hr;refine ziI (d:=d) (f:=f) hR ?_ ?_ ?_ ?_ ?_ ?_ ?_ ?_ ?_
 . intro h2 i1
   have H2:=zsz h2;clear h2;clear hk hl hR
   go_enter func55,ntmps55
   go_wp2_with fail
   generalize w.alloc (.cells #[.string f.name,.int .i64 f.number,.int .i64 f.kind,.bool f.rep,.bool f.packed,.int .i64 f.of_] 43)=wx at*;have z1:wx.cell? ⟨w.heap.size,1,none⟩=some (.int .i64 f.number):=BF.cell 1;have z2:wx.cell? ⟨w.heap.size,2,none⟩=some (.int .i64 f.kind):=BF.cell 2;have z5:wx.cell? ⟨w.heap.size,5,none⟩=some (.int .i64 f.of_):=BF.cell 5;clear BF
   go_wp2_with (first
    |(go_at_call 61;refine(Hr.out _ (hs.up X0)).mono ?_;rintro e w1 ⟨rfl,E1⟩;replace z1:=E1.of_cell z1;replace z2:=E1.of_cell z2;replace z5:=E1.of_cell z5))
   go_ret
   exact⟨by rw[H2.out];rfl,X0.trans E1⟩
 . intro h2 i1 i2
   have H2:=zsz h2;clear h2;clear hk hl hR
   go_enter func55,ntmps55
   go_wp2_with fail
   generalize w.alloc (.cells #[.string f.name,.int .i64 f.number,.int .i64 f.kind,.bool f.rep,.bool f.packed,.int .i64 f.of_] 43)=wx at*;have z1:wx.cell? ⟨w.heap.size,1,none⟩=some (.int .i64 f.number):=BF.cell 1;have z2:wx.cell? ⟨w.heap.size,2,none⟩=some (.int .i64 f.kind):=BF.cell 2;have z5:wx.cell? ⟨w.heap.size,5,none⟩=some (.int .i64 f.of_):=BF.cell 5;clear BF
   go_wp2_with (first
    |(go_at_call 61;refine(Hr.out _ (hs.up X0)).mono ?_;rintro e w1 ⟨rfl,E1⟩;replace z1:=E1.of_cell z1;replace z2:=E1.of_cell z2;replace z5:=E1.of_cell z5))
   go_ret
   exact⟨by rw[H2.out];rfl,X0.trans E1⟩
 . intro h2 i1 i2 i3
   have H2:=zsz h2;clear h2;rw[i3]at hk;have Hk:=zsz hk;clear i3;clear hk hl hR
   go_enter func55,ntmps55
   go_wp2_with fail
   generalize w.alloc (.cells #[.string f.name,.int .i64 f.number,.int .i64 f.kind,.bool f.rep,.bool f.packed,.int .i64 f.of_] 43)=wx at*;have z1:wx.cell? ⟨w.heap.size,1,none⟩=some (.int .i64 f.number):=BF.cell 1;have z2:wx.cell? ⟨w.heap.size,2,none⟩=some (.int .i64 f.kind):=BF.cell 2;have z5:wx.cell? ⟨w.heap.size,5,none⟩=some (.int .i64 f.of_):=BF.cell 5;clear BF
   go_wp2_with (first
    |(go_at_call 61;refine(Hr.out _ (hs.up X0)).mono ?_;rintro e w1 ⟨rfl,E1⟩;replace z1:=E1.of_cell z1;replace z2:=E1.of_cell z2;replace z5:=E1.of_cell z5)
    |(go_at_call 85;refine(Hk.out _).mono ?_;rintro e w2 ⟨rfl,hw⟩;subst hw))
   go_ret
   exact⟨by rw[H2.out];rfl,X0.trans E1⟩
 . intro h2 i1 i2 i3 i4
   have H2:=zsz h2;clear h2;rw[i3]at hk;have Hk:=zsz hk;clear i3;clear hk hl hR
   go_enter func55,ntmps55
   go_wp2_with fail
   generalize w.alloc (.cells #[.string f.name,.int .i64 f.number,.int .i64 f.kind,.bool f.rep,.bool f.packed,.int .i64 f.of_] 43)=wx at*;have z1:wx.cell? ⟨w.heap.size,1,none⟩=some (.int .i64 f.number):=BF.cell 1;have z2:wx.cell? ⟨w.heap.size,2,none⟩=some (.int .i64 f.kind):=BF.cell 2;have z5:wx.cell? ⟨w.heap.size,5,none⟩=some (.int .i64 f.of_):=BF.cell 5;clear BF
   go_wp2_with (first
    |(go_at_call 61;refine(Hr.out _ (hs.up X0)).mono ?_;rintro e w1 ⟨rfl,E1⟩;replace z1:=E1.of_cell z1;replace z2:=E1.of_cell z2;replace z5:=E1.of_cell z5)
    |(go_at_call 85;refine(Hk.out _).mono ?_;rintro e w2 ⟨rfl,hw⟩;subst hw))
   go_ret
   exact⟨by rw[H2.out];rfl,X0.trans E1⟩
 . intro h2 i1 i2 i3 i4 i5
   have H2:=zsz h2;clear h2;rw[i3]at hk;have Hk:=zsz hk;clear i3;clear hk hl hR
   go_enter func55,ntmps55
   go_wp2_with fail
   generalize w.alloc (.cells #[.string f.name,.int .i64 f.number,.int .i64 f.kind,.bool f.rep,.bool f.packed,.int .i64 f.of_] 43)=wx at*;have z1:wx.cell? ⟨w.heap.size,1,none⟩=some (.int .i64 f.number):=BF.cell 1;have z2:wx.cell? ⟨w.heap.size,2,none⟩=some (.int .i64 f.kind):=BF.cell 2;have z5:wx.cell? ⟨w.heap.size,5,none⟩=some (.int .i64 f.of_):=BF.cell 5;clear BF
   go_wp2_with (first
    |(go_at_call 61;refine(Hr.out _ (hs.up X0)).mono ?_;rintro e w1 ⟨rfl,E1⟩;replace z1:=E1.of_cell z1;replace z2:=E1.of_cell z2;replace z5:=E1.of_cell z5)
    |(go_at_call 85;refine(Hk.out _).mono ?_;rintro e w2 ⟨rfl,hw⟩;subst hw))
   go_ret
   exact⟨by rw[H2.out];rfl,X0.trans E1⟩
 . intro h2 i1 i2 i3 i4 i5 i6 i7
   have H2:=zsz h2;clear h2;have t17:(f.kind==17)=true:=by rw[beq_iff_eq];exact i6
   clear i6;rw[i3]at hk;have Hk:=zsz hk;clear i3;clear hk hl hR
   go_enter func55,ntmps55
   go_wp2_with fail
   generalize w.alloc (.cells #[.string f.name,.int .i64 f.number,.int .i64 f.kind,.bool f.rep,.bool f.packed,.int .i64 f.of_] 43)=wx at*;have z1:wx.cell? ⟨w.heap.size,1,none⟩=some (.int .i64 f.number):=BF.cell 1;have z2:wx.cell? ⟨w.heap.size,2,none⟩=some (.int .i64 f.kind):=BF.cell 2;have z5:wx.cell? ⟨w.heap.size,5,none⟩=some (.int .i64 f.of_):=BF.cell 5;clear BF
   go_wp2_with (first
    |(go_at_call 61;refine(Hr.out _ (hs.up X0)).mono ?_;rintro e w1 ⟨rfl,E1⟩;replace z1:=E1.of_cell z1;replace z2:=E1.of_cell z2;replace z5:=E1.of_cell z5)
    |(go_at_call 85;refine(Hk.out _).mono ?_;rintro e w2 ⟨rfl,hw⟩;subst hw))
   go_ret
   exact⟨by rw[H2.out];rfl,X0.trans E1⟩
 . intro h2 i1 i2 i3 i4 i5 i6 i7 i8
   have H2:=zsz h2;clear h2;rw[hl]at i8;have t17:(f.kind==17)=true:=by rw[beq_iff_eq];exact i6
   clear i6;rw[i3]at hk;have Hk:=zsz hk;clear i3;clear hk hl hR
   go_enter func55,ntmps55
   go_wp2_with fail
   generalize w.alloc (.cells #[.string f.name,.int .i64 f.number,.int .i64 f.kind,.bool f.rep,.bool f.packed,.int .i64 f.of_] 43)=wx at*;have z1:wx.cell? ⟨w.heap.size,1,none⟩=some (.int .i64 f.number):=BF.cell 1;have z2:wx.cell? ⟨w.heap.size,2,none⟩=some (.int .i64 f.kind):=BF.cell 2;have z5:wx.cell? ⟨w.heap.size,5,none⟩=some (.int .i64 f.of_):=BF.cell 5;clear BF
   go_wp2_with (first
    |(go_at_call 61;refine(Hr.out _ (hs.up X0)).mono ?_;rintro e w1 ⟨rfl,E1⟩;replace z1:=E1.of_cell z1;replace z2:=E1.of_cell z2;replace z5:=E1.of_cell z5)
    |(go_at_call 85;refine(Hk.out _).mono ?_;rintro e w2 ⟨rfl,hw⟩;subst hw))
   go_ret
   exact⟨by rw[H2.out];rfl,X0.trans E1⟩
 . intro h2 i1 i2 i3 i4 i5 i6 i7 i8
   have H2:=zsz h2;clear h2;rw[hl]at i8;have t17:(f.kind==17)=true:=by rw[beq_iff_eq];exact i6
   clear i6;rw[i3]at hk;have Hk:=zsz hk;clear i3;clear hk hl hR
   go_enter func55,ntmps55
   go_wp2_with fail
   generalize w.alloc (.cells #[.string f.name,.int .i64 f.number,.int .i64 f.kind,.bool f.rep,.bool f.packed,.int .i64 f.of_] 43)=wx at*;have z1:wx.cell? ⟨w.heap.size,1,none⟩=some (.int .i64 f.number):=BF.cell 1;have z2:wx.cell? ⟨w.heap.size,2,none⟩=some (.int .i64 f.kind):=BF.cell 2;have z5:wx.cell? ⟨w.heap.size,5,none⟩=some (.int .i64 f.of_):=BF.cell 5;clear BF
   go_wp2_with (first
    |(go_at_call 61;refine(Hr.out _ (hs.up X0)).mono ?_;rintro e w1 ⟨rfl,E1⟩;replace z1:=E1.of_cell z1;replace z2:=E1.of_cell z2;replace z5:=E1.of_cell z5)
    |(go_at_call 85;refine(Hk.out _).mono ?_;rintro e w2 ⟨rfl,hw⟩;subst hw))
   go_ret
   exact⟨by rw[H2.out];rfl,X0.trans E1⟩
 . intro h2 i1 i2 i3 i4 i5 n6
   have H2:=zsz h2;clear h2;have t17:(f.kind==17)=false:=by rw[beq_eq_false_iff_ne];exact n6
   clear n6;rw[i3]at hk;have Hk:=zsz hk;clear i3;clear hk hl hR
   go_enter func55,ntmps55
   go_wp2_with fail
   generalize w.alloc (.cells #[.string f.name,.int .i64 f.number,.int .i64 f.kind,.bool f.rep,.bool f.packed,.int .i64 f.of_] 43)=wx at*;have z1:wx.cell? ⟨w.heap.size,1,none⟩=some (.int .i64 f.number):=BF.cell 1;have z2:wx.cell? ⟨w.heap.size,2,none⟩=some (.int .i64 f.kind):=BF.cell 2;have z5:wx.cell? ⟨w.heap.size,5,none⟩=some (.int .i64 f.of_):=BF.cell 5;clear BF
   go_wp2_with (first
    |(go_at_call 61;refine(Hr.out _ (hs.up X0)).mono ?_;rintro e w1 ⟨rfl,E1⟩;replace z1:=E1.of_cell z1;replace z2:=E1.of_cell z2;replace z5:=E1.of_cell z5)
    |(go_at_call 85;refine(Hk.out _).mono ?_;rintro e w2 ⟨rfl,hw⟩;subst hw))
   go_ret
   exact⟨by rw[H2.out];rfl,X0.trans E1⟩
theorem zjn:Calls prog 114 #[zaq f] w fun e w'=>e=.returned (.bool (f.rep&&zaf f.kind))/\Ext w w':=by
 have hk:=fun W=>zbP f.kind W
 have Hk:=zsz hk;clear hk;unfold zaq;rcases hr:f.rep with _|_
 . clear hr
   go_enter func114,ntmps114
   go_wp2
   go_ret
   exact⟨by simp,xx⟩
 . clear hr
   go_enter func114,ntmps114
   go_wp2_with (go_at_call 31;refine(Hk.out _).mono ?_;rintro e w1 ⟨rfl,E1⟩)
   go_ret
   exact⟨by simp,Ext.trans xx E1⟩
end Go.Proofs.YtpicpebolghcfaaGreatDoor
