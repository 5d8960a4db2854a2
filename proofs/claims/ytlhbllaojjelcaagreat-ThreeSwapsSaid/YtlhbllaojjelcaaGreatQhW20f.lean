/- Contracts of layer 14: does a value fit a field? -/
import Derived.Test.YtlhbllaojjelcaaGreatQhW20i
import Derived.Test.YtlhbllaojjelcaaGreatQhW14s
import Derived.Test.YtlhbllaojjelcaaGreatQhW18k

set_option linter.unusedVariables false
set_option maxRecDepth 100000
set_option maxHeartbeats 4000000
namespace Go.Proofs.YtlhbllaojjelcaaGreat
open Go.RowKit Go.Shelf Tryz
variable{w:World}{b:Nat}
theorem zqd{k:Int}{x:Nat}(hk:zad k=true)(hx:x<18446744073709551616)(hc:w.cell? ⟨b,2,none⟩=some (.int .i64 k)):
 Calls prog 121 #[.int .u64 (x:Int),.pointer (some ⟨b,0,none⟩)] w fun e w'=>e=.returned (.bool (decide (zay k x≠x)))/\Ext w w':=by
 have hb:=World.block_lt_of_cell? w _ hc;simp only at hb;have hcn:=fun W=>zfg (k:=k) (x:=x) (w:=W) (y:=(x:Int)) hk hx rfl
 generalize zay k x=y at*;have Hcn:=zsp hcn;clear hcn
 go_enter func121,ntmps121
 go_wp2_with (go_at_call 122;refine(Hcn.out _).mono ?_;rintro e w1 ⟨rfl,E1⟩)
 go_ret
 exact⟨zag (by by_cases h:y=x<;>simp[h]<;>omega),Ext.trans xx E1⟩
variable{t:ByteArray}
theorem zqe(ht:t.data.toList.length<=maxLen):
 Calls prog 125 #[.string t] w fun e w'=>e=.returned (.bool (!zcO t.data.toList))/\Ext w w':=by
 obtain⟨A7,c7,W7,run7,X7,hb7⟩:=zhs w t ht;have hu:=fun W (h:zab W A7 t.data.toList.length c7 t.data.toList)=>zqk h
 have Hu:=zsp hu;have Hb7:=zsp hb7;clear hu hb7
 go_enter func125,ntmps125
 go_wp2_with (go_at_call 126;refine(Hu.out _ (Hb7.out.up xx)).mono ?_;rintro e w1 ⟨rfl,rfl⟩)
 all_goals
  go_ret
  exact⟨zag (by simp),Ext.trans X7 xx⟩
variable{n c:Nat}{A:Option Addr}
theorem zqf{y:MsgR}{o:Int}{q:Bool}{w0:World}{bs:Nat}(hc:w.cell? ⟨b,5,none⟩=some (.int .i64 o))(hs:w.cell? ⟨bs,0,none⟩=some (.slice A n c))(h0:Ext w0 w)(hp:∀W:World,Ext w0 W->Calls prog 52 #[.slice A n c,.int .i64 o,treeV y] W fun e W'=>e=.returned (.bool q)/\Ext W W'):
 Calls prog 124 #[treeV y,.pointer (some ⟨bs,0,none⟩),.pointer (some ⟨b,0,none⟩)] w fun e w'=>e=.returned (.bool (!q))/\Ext w w':=by
 have hb:=World.block_lt_of_cell? w _ hc;have hbs:=World.block_lt_of_cell? w _ hs;simp only at hb hbs;unfold treeV at hp⊢;have Hp:=zsp hp;clear hp
 go_enter func124,ntmps124
 go_wp2_with (go_at_call 52;refine(Hp.out _ (h0.trans xx)).mono ?_;rintro e w1 ⟨rfl,E1⟩)
 all_goals
  go_ret
  exact⟨zag (by simp),Ext.trans xx E1⟩
theorem ziB{p:Prop}{b:Bool}(h:p<->b=true):eqB p=b:=by
 rcases b with _|_
 . exact zaC (fun q=>by cases h.1 q)
 . exact zbQ (h.2 rfl)
def SwP(S:List MsgD)(f:zaa)(v:ValR):Prop:=(zad f.kind=true/\v.texts=[]/\v.subs=[]/\∀w∈v.words,zay f.kind w=w)\/
 (zad f.kind=false/\kindB f.kind=true/\f.kind≠17/\v.words=[]/\v.subs=[]/\(f.kind=15->∀t∈v.texts,zcO t.data.toList=true))\/
 (f.kind=17/\v.words=[]/\v.texts=[]/\∀y∈v.subs,RI S f.of_ (bare y))
section
variable {S:List MsgD} {f:zaa} {v:ValR}
theorem zkn(hn:zad f.kind=true)(h:v.texts.length+v.subs.length=0):eqB (SwP S f v)= !(v.words.any fun x=>decide (zay f.kind x≠x)):=by
 refine ziB ?_;have ht:v.texts=[]:=List.eq_nil_of_length_eq_zero (by omega);have hs:v.subs=[]:=List.eq_nil_of_length_eq_zero (by omega);rw[Bool.not_eq_true',List.any_eq_false];unfold SwP;constructor
 . rintro(⟨_,_,_,h⟩|⟨q,_⟩|⟨q,_⟩)
   . intro x hx
     simp[h x hx]
   . rw[hn]at q
     cases q
   . rw[q]at hn
     exact absurd hn (by decide)
 . intro h
   refine .inl ⟨hn,ht,hs,fun x hx=> ?_⟩;have:=h x hx;simpa using this
theorem zgw(hn:zad f.kind=true)(h:¬v.texts.length+v.subs.length=0):eqB (SwP S f v)=false:=by
 refine zaC ?_;unfold SwP;rintro(⟨_,q1,q2,_⟩|⟨q,_⟩|⟨q,_⟩)
 . rw[q1,q2]at h
   exact h rfl
 . rw[hn]at q
   cases q
 . rw[q]at hn
   exact absurd hn (by decide)
theorem zqg(h17:f.kind=17)(h:v.words.length+v.texts.length=0):eqB (SwP S f v)= !(v.subs.any fun y=> !eqB (RI S f.of_ (bare y))):=by
 refine ziB ?_;have hw:v.words=[]:=List.eq_nil_of_length_eq_zero (by omega);have ht:v.texts=[]:=List.eq_nil_of_length_eq_zero (by omega);have hn:zad f.kind=false:=by rw[h17];decide
 rw[Bool.not_eq_true',List.any_eq_false];unfold SwP;constructor
 . rintro(⟨q,_⟩|⟨_,_,q,_⟩|⟨_,_,_,q⟩)
   . rw[hn]at q
     cases q
   . exact absurd h17 q
   . intro y hy
     rw[zbQ (q y hy)]
     decide
 . intro h
   refine .inr (.inr ⟨h17,hw,ht,fun y hy=> ?_⟩);have:=h y hy;by_cases c:RI S f.of_ (bare y)
   . exact c
   . rw[zaC c]at this
     exact absurd rfl this
theorem zko(h17:f.kind=17)(h:¬v.words.length+v.texts.length=0):eqB (SwP S f v)=false:=by
 refine zaC ?_;have hn:zad f.kind=false:=by rw[h17];decide
 unfold SwP;rintro(⟨q,_⟩|⟨_,_,q,_⟩|⟨_,q1,q2,_⟩)
 . rw[hn]at q
   cases q
 . exact absurd h17 q
 . rw[q1,q2]at h
   exact h rfl
theorem zor(h15:f.kind=15)(h:v.words.length+v.subs.length=0):eqB (SwP S f v)= !(v.texts.any fun t=> !zcO t.data.toList):=by
 refine ziB ?_;have hw:v.words=[]:=List.eq_nil_of_length_eq_zero (by omega);have hs:v.subs=[]:=List.eq_nil_of_length_eq_zero (by omega);have hn:zad f.kind=false:=by rw[h15];decide
 rw[Bool.not_eq_true',List.any_eq_false];unfold SwP;constructor
 . rintro(⟨q,_⟩|⟨_,_,_,_,_,q⟩|⟨q,_⟩)
   . rw[hn]at q
     cases q
   . intro t ht
     simp[q h15 t ht]
   . omega
 . intro h
   refine .inr (.inl ⟨hn,by rw[h15];decide,by omega,hw,hs,fun _ t ht=> ?_⟩);have:=h t ht;simpa using this
theorem ziC(h15:f.kind=15)(h:¬v.words.length+v.subs.length=0):eqB (SwP S f v)=false:=by
 refine zaC ?_;have hn:zad f.kind=false:=by rw[h15];decide
 unfold SwP;rintro(⟨q,_⟩|⟨_,_,_,q1,q2,_⟩|⟨q,_⟩)
 . rw[hn]at q
   cases q
 . rw[q1,q2]at h
   exact h rfl
 . omega
theorem zmj(h16:f.kind=16):eqB (SwP S f v)=decide (v.words.length+v.subs.length=0):=by
 refine ziB ?_;have hn:zad f.kind=false:=by rw[h16];decide
 rw[decide_eq_true_iff];unfold SwP;constructor
 . rintro(⟨q,_⟩|⟨_,_,_,q1,q2,_⟩|⟨q,_⟩)
   . rw[hn]at q
     cases q
   . rw[q1,q2]
     rfl
   . omega
 . intro h
   exact .inr (.inl ⟨hn,by rw[h16];decide,by omega,List.eq_nil_of_length_eq_zero (by omega),List.eq_nil_of_length_eq_zero (by omega),fun q=>absurd q (by omega)⟩)
theorem zos(hn:zad f.kind=false)(h17:¬f.kind=17)(h15:¬f.kind=15)(h16:¬f.kind=16):eqB (SwP S f v)=false:=by
 refine zaC ?_;unfold SwP;rintro(⟨q,_⟩|⟨_,q,_⟩|⟨q,_⟩)
 . rw[hn]at q
   cases q
 . unfold kindB at q
   unfold zad at hn;simp at q hn;omega
 . exact h17 q
end
variable{v:ValR}{f:zaa}{S:List MsgV}
theorem zrR(hs:zaj w A n c S)(hv:ValAt w v)(hwl:v.words.length<=1000000000000)(htl:v.texts.length<=1000000000000)(hsl:v.subs.length<=1000000000000)(h0:¬v.words.length+v.texts.length+v.subs.length=0)(h1:¬(1<v.words.length+v.texts.length+v.subs.length/\f.rep=false))(hp:∀y∈v.subs,∀W:World,Ext w W->Calls prog 52 #[.slice A n c,.int .i64 f.of_,treeV y] W fun e W'=>e=.returned (.bool (eqB (RI (S.map MsgV.d) f.of_ (bare y))))/\Ext W W'):
 Calls prog 84 #[.agg #[.string f.name,.int .i64 f.number,.int .i64 f.kind,.bool f.rep,.bool f.packed,.int .i64 f.of_],.slice A n c,.agg #[.int .i64 v.number,.slice v.a.1 v.words.length v.a.2,.slice v.b.1 v.texts.length v.b.2,.slice v.c.1 v.subs.length v.c.2]] w fun e w'=>e=.returned (.bool (eqB (SwP (S.map MsgV.d) f v)))/\Ext w w':=by
 have wcap:=hv.own.words.cap;have tcap:=hv.own.texts.at_.cap;have scap:=hv.own.subs.cap;have wmax:=hv.own.words.max;have tmax:=hv.own.texts.at_.max;have smax:=hv.own.subs.max;unfold maxLen at wmax tmax smax;have q0:(((v.words.length:Int)+(v.texts.length:Int)+(v.subs.length:Int))==0)=false:=by rw[beq_eq_false_iff_ne];omega
 have Hp:=zsp hp;have hN:=fun W=>zba f.kind W
 have HN:=zsp hN;have Hv:=zsp hv;have eg1:∀args w,(callFunc 121 args).run prog w=.ok (.enter 121 args) w:=enters_of func121 (by kernel_rfl) rfl;have eg2:∀args w,(callFunc 124 args).run prog w=.ok (.enter 124 args) w:=enters_of func124 (by kernel_rfl) rfl;have eg3:∀args w,(callFunc 125 args).run prog w=.ok (.enter 125 args) w:=enters_of func125 (by kernel_rfl) rfl;obtain⟨R0,hR0⟩:∃R0,R0=eqB (SwP (S.map MsgV.d) f v):=⟨_,rfl⟩
 rw[<-hR0];have Eg:=zsp (And.intro eg1 (And.intro eg2 eg3));clear hp hN eg1 eg2 eg3 hv hs
 have key:(1:Int)<(v.words.length:Int)+(v.texts.length:Int)+(v.subs.length:Int)/\f.rep=true\/¬(1:Int)<(v.words.length:Int)+(v.texts.length:Int)+(v.subs.length:Int):=by
  by_cases h:(1:Int)<(v.words.length:Int)+(v.texts.length:Int)+(v.subs.length:Int)
  . refine .inl ⟨h,?_⟩
    rcases hr:f.rep with _|_
    . exact absurd ⟨by omega,hr⟩ h1
    . rfl
  . exact .inr h
 clear h1;rcases key with⟨t1,hr⟩|t1
 . rw[hr]
   clear hr
   go_enter func84,ntmps84
   go_wp2_with fail
   have BF:=((BlkT.new w 61 #[.string f.name,.int .i64 f.number,.int .i64 f.kind,.bool true,.bool f.packed,.int .i64 f.of_] rfl).alloc (.cells #[.slice A n c] 23)).alloc (.cells #[.int .i64 v.number,.slice v.a.1 v.words.length v.a.2,.slice v.b.1 v.texts.length v.b.2,.slice v.c.1 v.subs.length v.c.2] 69);have BS:=(BlkT.new (w.alloc (.cells #[.string f.name,.int .i64 f.number,.int .i64 f.kind,.bool true,.bool f.packed,.int .i64 f.of_] 61)) 23 #[.slice A n c] (show w.heap.size+1=_ by simp)).alloc (.cells #[.int .i64 v.number,.slice v.a.1 v.words.length v.a.2,.slice v.b.1 v.texts.length v.b.2,.slice v.c.1 v.subs.length v.c.2] 69);have BV:=BlkT.new ((w.alloc (.cells #[.string f.name,.int .i64 f.number,.int .i64 f.kind,.bool true,.bool f.packed,.int .i64 f.of_] 61)).alloc (.cells #[.slice A n c] 23)) 69 #[.int .i64 v.number,.slice v.a.1 v.words.length v.a.2,.slice v.b.1 v.texts.length v.b.2,.slice v.c.1 v.subs.length v.c.2] (show w.heap.size+1+1=_ by simp);have X0:Ext w (((w.alloc (.cells #[.string f.name,.int .i64 f.number,.int .i64 f.kind,.bool true,.bool f.packed,.int .i64 f.of_] 61)).alloc (.cells #[.slice A n c] 23)).alloc (.cells #[.int .i64 v.number,.slice v.a.1 v.words.length v.a.2,.slice v.b.1 v.texts.length v.b.2,.slice v.c.1 v.subs.length v.c.2] 69)):=(((Ext.refl w).alloc _).alloc _).alloc _;generalize ((w.alloc (.cells #[.string f.name,.int .i64 f.number,.int .i64 f.kind,.bool true,.bool f.packed,.int .i64 f.of_] 61)).alloc (.cells #[.slice A n c] 23)).alloc (.cells #[.int .i64 v.number,.slice v.a.1 v.words.length v.a.2,.slice v.b.1 v.texts.length v.b.2,.slice v.c.1 v.subs.length v.c.2] 69)=wx at*;have z2:wx.cell? ⟨w.heap.size,2,none⟩=some (.int .i64 f.kind):=BF.cell 2;have z5:wx.cell? ⟨w.heap.size,5,none⟩=some (.int .i64 f.of_):=BF.cell 5;have y0:wx.cell? ⟨w.heap.size+1,0,none⟩=some (.slice A n c):=BS.cell 0;have x1:wx.cell? ⟨w.heap.size+1+1,1,none⟩=some (.slice v.a.1 v.words.length v.a.2):=BV.cell 1;have x2:wx.cell? ⟨w.heap.size+1+1,2,none⟩=some (.slice v.b.1 v.texts.length v.b.2):=BV.cell 2;have x3:wx.cell? ⟨w.heap.size+1+1,3,none⟩=some (.slice v.c.1 v.subs.length v.c.2):=BV.cell 3;have l0:=BF.lt;have l1:=BS.lt;have l2:=BV.lt;clear BF BS BV;rcases hn:zad f.kind with _|_
   . have H0:=HN.out
     rw[hn]at H0;have H1:=zsp H0;have Hn:=zsp hn;clear H0 hn;by_cases h17:f.kind=17
     . have t17:(f.kind==17)=true:=by rw[beq_iff_eq];exact h17
       by_cases hx:v.words.length+v.texts.length=0
       . have hS:=hR0.trans (zqg h17 hx)
         have q3:((v.subs.length:Int)==(v.words.length:Int)+(v.texts.length:Int)+(v.subs.length:Int))=true:=by rw[beq_iff_eq];omega
         have hc:=fun(W:World)(E:Ext wx W)=>zov (w:=W) (p:=fun y=> !eqB (RI (S.map MsgV.d) f.of_ (bare y))) (lb:=#[.pointer (some ⟨w.heap.size+1,0,none⟩),.pointer (some ⟨w.heap.size,0,none⟩)]) Eg.out.2.1 (Hv.out.own.subs.ext (X0.trans E)) (by omega) (fun W' y hy hE=>zqf ((E.trans hE).of_cell z5) ((E.trans hE).of_cell y0) (X0.trans (E.trans hE)) (Hp.out y hy))
         generalize (v.subs.any fun y=> !eqB (RI (S.map MsgV.d) f.of_ (bare y)))=R at*;have Hc:=zsp hc;clear hc h17 hx;have HS:=zsp hS;clear hS hR0
         go_wp2_with (first
          |(go_at_call 111;refine(H1.out _).mono ?_;rintro e w1 ⟨rfl,E1⟩;have X1:Ext wx w1:=Ext.trans xx E1;replace z2:=X1.of_cell z2;replace x1:=X1.of_cell x1;replace x2:=X1.of_cell x2;replace x3:=X1.of_cell x3)
          |(go_at_call 123;refine(Hc.out _ (X1.trans xx)).mono ?_;rintro e w2 ⟨rfl,E2⟩;have X2:Ext w1 w2:=Ext.trans xx E2))
         all_goals
          go_ret
          exact⟨zag (by rw[HS.out]),X0.trans (X1.trans (X2.trans xx))⟩
       . have hS:=hR0.trans (zko h17 hx)
         have q3:((v.subs.length:Int)==(v.words.length:Int)+(v.texts.length:Int)+(v.subs.length:Int))=false:=by rw[beq_eq_false_iff_ne];omega
         clear h17 hx;have HS:=zsp hS;clear hS hR0
         go_wp2_with (first
          |(go_at_call 111;refine(H1.out _).mono ?_;rintro e w1 ⟨rfl,E1⟩;have X1:Ext wx w1:=Ext.trans xx E1;replace z2:=X1.of_cell z2;replace x1:=X1.of_cell x1;replace x2:=X1.of_cell x2;replace x3:=X1.of_cell x3))
         all_goals
          go_ret
          exact⟨zag (by rw[HS.out]),X0.trans (X1.trans xx)⟩
     . have t17:(f.kind==17)=false:=by rw[beq_eq_false_iff_ne];exact h17
       by_cases h15:f.kind=15
       . have t15:(f.kind==15)=true:=by rw[beq_iff_eq];exact h15
         by_cases hx:v.words.length+v.subs.length=0
         . have hS:=hR0.trans (zor h15 hx)
           have q3:((v.texts.length:Int)==(v.words.length:Int)+(v.texts.length:Int)+(v.subs.length:Int))=true:=by rw[beq_iff_eq];omega
           have hc:=fun(W:World)(E:Ext wx W)=>zlq (w:=W) (p:=fun t=> !zcO t.data.toList) (lb:=#[]) Eg.out.2.2 (Hv.out.own.texts.up (X0.trans E)) (by omega) (fun W' t ht hE=>zqe ht.2)
           generalize (v.texts.any fun t=> !zcO t.data.toList)=R at*;have Hc:=zsp hc;clear hc h17 h15 hx;have HS:=zsp hS;clear hS hR0
           go_wp2_with (first
            |(go_at_call 111;refine(H1.out _).mono ?_;rintro e w1 ⟨rfl,E1⟩;have X1:Ext wx w1:=Ext.trans xx E1;replace z2:=X1.of_cell z2;replace x1:=X1.of_cell x1;replace x2:=X1.of_cell x2;replace x3:=X1.of_cell x3)
            |(go_at_call 85;refine(Hc.out _ (X1.trans xx)).mono ?_;rintro e w2 ⟨rfl,E2⟩;have X2:Ext w1 w2:=Ext.trans xx E2))
           all_goals
            go_ret
            exact⟨zag (by rw[HS.out]),X0.trans (X1.trans (X2.trans xx))⟩
         . have hS:=hR0.trans (ziC h15 hx)
           have q3:((v.texts.length:Int)==(v.words.length:Int)+(v.texts.length:Int)+(v.subs.length:Int))=false:=by rw[beq_eq_false_iff_ne];omega
           clear h17 h15 hx;have HS:=zsp hS;clear hS hR0
           go_wp2_with (first
            |(go_at_call 111;refine(H1.out _).mono ?_;rintro e w1 ⟨rfl,E1⟩;have X1:Ext wx w1:=Ext.trans xx E1;replace z2:=X1.of_cell z2;replace x1:=X1.of_cell x1;replace x2:=X1.of_cell x2;replace x3:=X1.of_cell x3))
           all_goals
            go_ret
            exact⟨zag (by rw[HS.out]),X0.trans (X1.trans xx)⟩
       . have t15:(f.kind==15)=false:=by rw[beq_eq_false_iff_ne];exact h15
         by_cases h16:f.kind=16
         . have t16:(f.kind==16)=true:=by rw[beq_iff_eq];exact h16
           have hS:=hR0.trans (zmj h16);clear h17 h15 h16;by_cases hx:v.words.length+v.subs.length=0
           . have q3:((v.texts.length:Int)==(v.words.length:Int)+(v.texts.length:Int)+(v.subs.length:Int))=true:=by rw[beq_iff_eq];omega
             rw[decide_eq_true hx]at hS;clear hx;have HS:=zsp hS;clear hS hR0
             go_wp2_with (first
              |(go_at_call 111;refine(H1.out _).mono ?_;rintro e w1 ⟨rfl,E1⟩;have X1:Ext wx w1:=Ext.trans xx E1;replace z2:=X1.of_cell z2;replace x1:=X1.of_cell x1;replace x2:=X1.of_cell x2;replace x3:=X1.of_cell x3))
             all_goals
              go_ret
              exact⟨zag (by rw[HS.out]),X0.trans (X1.trans xx)⟩
           . have q3:((v.texts.length:Int)==(v.words.length:Int)+(v.texts.length:Int)+(v.subs.length:Int))=false:=by rw[beq_eq_false_iff_ne];omega
             rw[decide_eq_false hx]at hS;clear hx;have HS:=zsp hS;clear hS hR0
             go_wp2_with (first
              |(go_at_call 111;refine(H1.out _).mono ?_;rintro e w1 ⟨rfl,E1⟩;have X1:Ext wx w1:=Ext.trans xx E1;replace z2:=X1.of_cell z2;replace x1:=X1.of_cell x1;replace x2:=X1.of_cell x2;replace x3:=X1.of_cell x3))
             all_goals
              go_ret
              exact⟨zag (by rw[HS.out]),X0.trans (X1.trans xx)⟩
         . have t16:(f.kind==16)=false:=by rw[beq_eq_false_iff_ne];exact h16
           have hS:=hR0.trans (zos Hn.out h17 h15 h16);clear h17 h15 h16;have HS:=zsp hS;clear hS hR0
           go_wp2_with (first
            |(go_at_call 111;refine(H1.out _).mono ?_;rintro e w1 ⟨rfl,E1⟩;have X1:Ext wx w1:=Ext.trans xx E1;replace z2:=X1.of_cell z2;replace x1:=X1.of_cell x1;replace x2:=X1.of_cell x2;replace x3:=X1.of_cell x3))
           all_goals
            go_ret
            exact⟨zag (by rw[HS.out]),X0.trans (X1.trans xx)⟩
   . have H0:=HN.out
     rw[hn]at H0;have H1:=zsp H0;clear H0;by_cases hx:v.texts.length+v.subs.length=0
     . have hS:=hR0.trans (zkn hn hx)
       have q3:((v.words.length:Int)==(v.words.length:Int)+(v.texts.length:Int)+(v.subs.length:Int))=true:=by rw[beq_iff_eq];omega
       have hc:=fun(W:World)(E:Ext wx W)=>zou (w:=W) (p:=fun x=>decide (zay f.kind x≠x)) (lb:=#[.pointer (some ⟨w.heap.size,0,none⟩)]) Eg.out.1 (Hv.out.own.words.ext (X0.trans E)) Hv.out.own.small (by omega) (fun W' x hx hE=>zqd hn hx ((E.trans hE).of_cell z2))
       generalize (v.words.any fun x=>decide (zay f.kind x≠x))=R at*;have Hc:=zsp hc;clear hc hn hx;have HS:=zsp hS;clear hS hR0
       go_wp2_with (first
        |(go_at_call 111;refine(H1.out _).mono ?_;rintro e w1 ⟨rfl,E1⟩;have X1:Ext wx w1:=Ext.trans xx E1;replace z2:=X1.of_cell z2;replace x1:=X1.of_cell x1;replace x2:=X1.of_cell x2;replace x3:=X1.of_cell x3)
        |(go_at_call 120;refine(Hc.out _ (X1.trans xx)).mono ?_;rintro e w2 ⟨rfl,E2⟩;have X2:Ext w1 w2:=Ext.trans xx E2))
       all_goals
        go_ret
        exact⟨zag (by rw[HS.out]),X0.trans (X1.trans (X2.trans xx))⟩
     . have hS:=hR0.trans (zgw hn hx)
       have q3:((v.words.length:Int)==(v.words.length:Int)+(v.texts.length:Int)+(v.subs.length:Int))=false:=by rw[beq_eq_false_iff_ne];omega
       clear hn hx;have HS:=zsp hS;clear hS hR0
       go_wp2_with (first
        |(go_at_call 111;refine(H1.out _).mono ?_;rintro e w1 ⟨rfl,E1⟩;have X1:Ext wx w1:=Ext.trans xx E1;replace z2:=X1.of_cell z2;replace x1:=X1.of_cell x1;replace x2:=X1.of_cell x2;replace x3:=X1.of_cell x3))
       all_goals
        go_ret
        exact⟨zag (by rw[HS.out]),X0.trans (X1.trans xx)⟩
 . obtain⟨rp,hrp⟩:∃rp,rp=f.rep:=⟨_,rfl⟩
   rw[<-hrp];clear hrp
   go_enter func84,ntmps84
   go_wp2_with fail
   have BF:=((BlkT.new w 61 #[.string f.name,.int .i64 f.number,.int .i64 f.kind,.bool rp,.bool f.packed,.int .i64 f.of_] rfl).alloc (.cells #[.slice A n c] 23)).alloc (.cells #[.int .i64 v.number,.slice v.a.1 v.words.length v.a.2,.slice v.b.1 v.texts.length v.b.2,.slice v.c.1 v.subs.length v.c.2] 69);have BS:=(BlkT.new (w.alloc (.cells #[.string f.name,.int .i64 f.number,.int .i64 f.kind,.bool rp,.bool f.packed,.int .i64 f.of_] 61)) 23 #[.slice A n c] (show w.heap.size+1=_ by simp)).alloc (.cells #[.int .i64 v.number,.slice v.a.1 v.words.length v.a.2,.slice v.b.1 v.texts.length v.b.2,.slice v.c.1 v.subs.length v.c.2] 69);have BV:=BlkT.new ((w.alloc (.cells #[.string f.name,.int .i64 f.number,.int .i64 f.kind,.bool rp,.bool f.packed,.int .i64 f.of_] 61)).alloc (.cells #[.slice A n c] 23)) 69 #[.int .i64 v.number,.slice v.a.1 v.words.length v.a.2,.slice v.b.1 v.texts.length v.b.2,.slice v.c.1 v.subs.length v.c.2] (show w.heap.size+1+1=_ by simp);have X0:Ext w (((w.alloc (.cells #[.string f.name,.int .i64 f.number,.int .i64 f.kind,.bool rp,.bool f.packed,.int .i64 f.of_] 61)).alloc (.cells #[.slice A n c] 23)).alloc (.cells #[.int .i64 v.number,.slice v.a.1 v.words.length v.a.2,.slice v.b.1 v.texts.length v.b.2,.slice v.c.1 v.subs.length v.c.2] 69)):=(((Ext.refl w).alloc _).alloc _).alloc _;generalize ((w.alloc (.cells #[.string f.name,.int .i64 f.number,.int .i64 f.kind,.bool rp,.bool f.packed,.int .i64 f.of_] 61)).alloc (.cells #[.slice A n c] 23)).alloc (.cells #[.int .i64 v.number,.slice v.a.1 v.words.length v.a.2,.slice v.b.1 v.texts.length v.b.2,.slice v.c.1 v.subs.length v.c.2] 69)=wx at*;have z2:wx.cell? ⟨w.heap.size,2,none⟩=some (.int .i64 f.kind):=BF.cell 2;have z5:wx.cell? ⟨w.heap.size,5,none⟩=some (.int .i64 f.of_):=BF.cell 5;have y0:wx.cell? ⟨w.heap.size+1,0,none⟩=some (.slice A n c):=BS.cell 0;have x1:wx.cell? ⟨w.heap.size+1+1,1,none⟩=some (.slice v.a.1 v.words.length v.a.2):=BV.cell 1;have x2:wx.cell? ⟨w.heap.size+1+1,2,none⟩=some (.slice v.b.1 v.texts.length v.b.2):=BV.cell 2;have x3:wx.cell? ⟨w.heap.size+1+1,3,none⟩=some (.slice v.c.1 v.subs.length v.c.2):=BV.cell 3;have l0:=BF.lt;have l1:=BS.lt;have l2:=BV.lt;clear BF BS BV;rcases hn:zad f.kind with _|_
   . have H0:=HN.out
     rw[hn]at H0;have H1:=zsp H0;have Hn:=zsp hn;clear H0 hn;by_cases h17:f.kind=17
     . have t17:(f.kind==17)=true:=by rw[beq_iff_eq];exact h17
       by_cases hx:v.words.length+v.texts.length=0
       . have hS:=hR0.trans (zqg h17 hx)
         have q3:((v.subs.length:Int)==(v.words.length:Int)+(v.texts.length:Int)+(v.subs.length:Int))=true:=by rw[beq_iff_eq];omega
         have hc:=fun(W:World)(E:Ext wx W)=>zov (w:=W) (p:=fun y=> !eqB (RI (S.map MsgV.d) f.of_ (bare y))) (lb:=#[.pointer (some ⟨w.heap.size+1,0,none⟩),.pointer (some ⟨w.heap.size,0,none⟩)]) Eg.out.2.1 (Hv.out.own.subs.ext (X0.trans E)) (by omega) (fun W' y hy hE=>zqf ((E.trans hE).of_cell z5) ((E.trans hE).of_cell y0) (X0.trans (E.trans hE)) (Hp.out y hy))
         generalize (v.subs.any fun y=> !eqB (RI (S.map MsgV.d) f.of_ (bare y)))=R at*;have Hc:=zsp hc;clear hc h17 hx;have HS:=zsp hS;clear hS hR0
         go_wp2_with (first
          |(go_at_call 111;refine(H1.out _).mono ?_;rintro e w1 ⟨rfl,E1⟩;have X1:Ext wx w1:=Ext.trans xx E1;replace z2:=X1.of_cell z2;replace x1:=X1.of_cell x1;replace x2:=X1.of_cell x2;replace x3:=X1.of_cell x3)
          |(go_at_call 123;refine(Hc.out _ (X1.trans xx)).mono ?_;rintro e w2 ⟨rfl,E2⟩;have X2:Ext w1 w2:=Ext.trans xx E2))
         all_goals
          go_ret
          exact⟨zag (by rw[HS.out]),X0.trans (X1.trans (X2.trans xx))⟩
       . have hS:=hR0.trans (zko h17 hx)
         have q3:((v.subs.length:Int)==(v.words.length:Int)+(v.texts.length:Int)+(v.subs.length:Int))=false:=by rw[beq_eq_false_iff_ne];omega
         clear h17 hx;have HS:=zsp hS;clear hS hR0
         go_wp2_with (first
          |(go_at_call 111;refine(H1.out _).mono ?_;rintro e w1 ⟨rfl,E1⟩;have X1:Ext wx w1:=Ext.trans xx E1;replace z2:=X1.of_cell z2;replace x1:=X1.of_cell x1;replace x2:=X1.of_cell x2;replace x3:=X1.of_cell x3))
         all_goals
          go_ret
          exact⟨zag (by rw[HS.out]),X0.trans (X1.trans xx)⟩
     . have t17:(f.kind==17)=false:=by rw[beq_eq_false_iff_ne];exact h17
       by_cases h15:f.kind=15
       . have t15:(f.kind==15)=true:=by rw[beq_iff_eq];exact h15
         by_cases hx:v.words.length+v.subs.length=0
         . have hS:=hR0.trans (zor h15 hx)
           have q3:((v.texts.length:Int)==(v.words.length:Int)+(v.texts.length:Int)+(v.subs.length:Int))=true:=by rw[beq_iff_eq];omega
           have hc:=fun(W:World)(E:Ext wx W)=>zlq (w:=W) (p:=fun t=> !zcO t.data.toList) (lb:=#[]) Eg.out.2.2 (Hv.out.own.texts.up (X0.trans E)) (by omega) (fun W' t ht hE=>zqe ht.2)
           generalize (v.texts.any fun t=> !zcO t.data.toList)=R at*;have Hc:=zsp hc;clear hc h17 h15 hx;have HS:=zsp hS;clear hS hR0
           go_wp2_with (first
            |(go_at_call 111;refine(H1.out _).mono ?_;rintro e w1 ⟨rfl,E1⟩;have X1:Ext wx w1:=Ext.trans xx E1;replace z2:=X1.of_cell z2;replace x1:=X1.of_cell x1;replace x2:=X1.of_cell x2;replace x3:=X1.of_cell x3)
            |(go_at_call 85;refine(Hc.out _ (X1.trans xx)).mono ?_;rintro e w2 ⟨rfl,E2⟩;have X2:Ext w1 w2:=Ext.trans xx E2))
           all_goals
            go_ret
            exact⟨zag (by rw[HS.out]),X0.trans (X1.trans (X2.trans xx))⟩
         . have hS:=hR0.trans (ziC h15 hx)
           have q3:((v.texts.length:Int)==(v.words.length:Int)+(v.texts.length:Int)+(v.subs.length:Int))=false:=by rw[beq_eq_false_iff_ne];omega
           clear h17 h15 hx;have HS:=zsp hS;clear hS hR0
           go_wp2_with (first
            |(go_at_call 111;refine(H1.out _).mono ?_;rintro e w1 ⟨rfl,E1⟩;have X1:Ext wx w1:=Ext.trans xx E1;replace z2:=X1.of_cell z2;replace x1:=X1.of_cell x1;replace x2:=X1.of_cell x2;replace x3:=X1.of_cell x3))
           all_goals
            go_ret
            exact⟨zag (by rw[HS.out]),X0.trans (X1.trans xx)⟩
       . have t15:(f.kind==15)=false:=by rw[beq_eq_false_iff_ne];exact h15
         by_cases h16:f.kind=16
         . have t16:(f.kind==16)=true:=by rw[beq_iff_eq];exact h16
           have hS:=hR0.trans (zmj h16);clear h17 h15 h16;by_cases hx:v.words.length+v.subs.length=0
           . have q3:((v.texts.length:Int)==(v.words.length:Int)+(v.texts.length:Int)+(v.subs.length:Int))=true:=by rw[beq_iff_eq];omega
             rw[decide_eq_true hx]at hS;clear hx;have HS:=zsp hS;clear hS hR0
             go_wp2_with (first
              |(go_at_call 111;refine(H1.out _).mono ?_;rintro e w1 ⟨rfl,E1⟩;have X1:Ext wx w1:=Ext.trans xx E1;replace z2:=X1.of_cell z2;replace x1:=X1.of_cell x1;replace x2:=X1.of_cell x2;replace x3:=X1.of_cell x3))
             all_goals
              go_ret
              exact⟨zag (by rw[HS.out]),X0.trans (X1.trans xx)⟩
           . have q3:((v.texts.length:Int)==(v.words.length:Int)+(v.texts.length:Int)+(v.subs.length:Int))=false:=by rw[beq_eq_false_iff_ne];omega
             rw[decide_eq_false hx]at hS;clear hx;have HS:=zsp hS;clear hS hR0
             go_wp2_with (first
              |(go_at_call 111;refine(H1.out _).mono ?_;rintro e w1 ⟨rfl,E1⟩;have X1:Ext wx w1:=Ext.trans xx E1;replace z2:=X1.of_cell z2;replace x1:=X1.of_cell x1;replace x2:=X1.of_cell x2;replace x3:=X1.of_cell x3))
             all_goals
              go_ret
              exact⟨zag (by rw[HS.out]),X0.trans (X1.trans xx)⟩
         . have t16:(f.kind==16)=false:=by rw[beq_eq_false_iff_ne];exact h16
           have hS:=hR0.trans (zos Hn.out h17 h15 h16);clear h17 h15 h16;have HS:=zsp hS;clear hS hR0
           go_wp2_with (first
            |(go_at_call 111;refine(H1.out _).mono ?_;rintro e w1 ⟨rfl,E1⟩;have X1:Ext wx w1:=Ext.trans xx E1;replace z2:=X1.of_cell z2;replace x1:=X1.of_cell x1;replace x2:=X1.of_cell x2;replace x3:=X1.of_cell x3))
           all_goals
            go_ret
            exact⟨zag (by rw[HS.out]),X0.trans (X1.trans xx)⟩
   . have H0:=HN.out
     rw[hn]at H0;have H1:=zsp H0;clear H0;by_cases hx:v.texts.length+v.subs.length=0
     . have hS:=hR0.trans (zkn hn hx)
       have q3:((v.words.length:Int)==(v.words.length:Int)+(v.texts.length:Int)+(v.subs.length:Int))=true:=by rw[beq_iff_eq];omega
       have hc:=fun(W:World)(E:Ext wx W)=>zou (w:=W) (p:=fun x=>decide (zay f.kind x≠x)) (lb:=#[.pointer (some ⟨w.heap.size,0,none⟩)]) Eg.out.1 (Hv.out.own.words.ext (X0.trans E)) Hv.out.own.small (by omega) (fun W' x hx hE=>zqd hn hx ((E.trans hE).of_cell z2))
       generalize (v.words.any fun x=>decide (zay f.kind x≠x))=R at*;have Hc:=zsp hc;clear hc hn hx;have HS:=zsp hS;clear hS hR0
       go_wp2_with (first
        |(go_at_call 111;refine(H1.out _).mono ?_;rintro e w1 ⟨rfl,E1⟩;have X1:Ext wx w1:=Ext.trans xx E1;replace z2:=X1.of_cell z2;replace x1:=X1.of_cell x1;replace x2:=X1.of_cell x2;replace x3:=X1.of_cell x3)
        |(go_at_call 120;refine(Hc.out _ (X1.trans xx)).mono ?_;rintro e w2 ⟨rfl,E2⟩;have X2:Ext w1 w2:=Ext.trans xx E2))
       all_goals
        go_ret
        exact⟨zag (by rw[HS.out]),X0.trans (X1.trans (X2.trans xx))⟩
     . have hS:=hR0.trans (zgw hn hx)
       have q3:((v.words.length:Int)==(v.words.length:Int)+(v.texts.length:Int)+(v.subs.length:Int))=false:=by rw[beq_eq_false_iff_ne];omega
       clear hn hx;have HS:=zsp hS;clear hS hR0
       go_wp2_with (first
        |(go_at_call 111;refine(H1.out _).mono ?_;rintro e w1 ⟨rfl,E1⟩;have X1:Ext wx w1:=Ext.trans xx E1;replace z2:=X1.of_cell z2;replace x1:=X1.of_cell x1;replace x2:=X1.of_cell x2;replace x3:=X1.of_cell x3))
       all_goals
        go_ret
        exact⟨zag (by rw[HS.out]),X0.trans (X1.trans xx)⟩
theorem tFits(hs:zaj w A n c S)(hv:ValAt w v)(hwl:v.words.length<=1000000000000)(htl:v.texts.length<=1000000000000)(hsl:v.subs.length<=1000000000000)(hp:∀y∈v.subs,∀W:World,Ext w W->Calls prog 52 #[.slice A n c,.int .i64 f.of_,treeV y] W fun e W'=>e=.returned (.bool (eqB (RI (S.map MsgV.d) f.of_ (bare y))))/\Ext W W'):
 Calls prog 84 #[zau f,.slice A n c,tvalV v] w fun e w'=>e=.returned (.bool (eqB (FitP (S.map MsgV.d) f (bareV v))))/\Ext w w':=by
 have wcap:=hv.own.words.cap;have tcap:=hv.own.texts.at_.cap;have scap:=hv.own.subs.cap;have wmax:=hv.own.words.max;have tmax:=hv.own.texts.at_.max;have smax:=hv.own.subs.max;unfold maxLen at wmax tmax smax;have hMB:manyU (bareV v)=v.words.length+v.texts.length+v.subs.length:=by unfold manyU bareV;simp
 unfold zau tvalV;by_cases h0:v.words.length+v.texts.length+v.subs.length=0
 . have q0:(((v.words.length:Int)+(v.texts.length:Int)+(v.subs.length:Int))==0)=true:=by rw[beq_iff_eq];omega
   have hF:¬FitP (S.map MsgV.d) f (bareV v):=fun h=>h.1 (by rw[hMB];exact h0)
   rw[zaC hF];clear hF hp hMB h0
   go_enter func84,ntmps84
   go_wp2
   go_ret
   exact⟨rfl,xx⟩
 . have q0:(((v.words.length:Int)+(v.texts.length:Int)+(v.subs.length:Int))==0)=false:=by rw[beq_eq_false_iff_ne];omega
   by_cases h1:1<v.words.length+v.texts.length+v.subs.length/\f.rep=false
   . obtain⟨h1,hr⟩:=h1
     have hF:¬FitP (S.map MsgV.d) f (bareV v):=fun h=>by have:=h.2.1 hr;rw[hMB]at this;omega
     have t1:(1:Int)<(v.words.length:Int)+(v.texts.length:Int)+(v.subs.length:Int):=by omega
     rw[zaC hF,hr];clear hF hp hMB h0 hr h1
     go_enter func84,ntmps84
     go_wp2
     go_ret
     exact⟨rfl,xx⟩
   . have hrN:f.rep=false->v.words.length+v.texts.length+v.subs.length=1:=fun hr=>by
      have:¬1<v.words.length+v.texts.length+v.subs.length:=fun h=>h1 ⟨h,hr⟩
      omega
     have hFit:FitP (S.map MsgV.d) f (bareV v)<->SwP (S.map MsgV.d) f v:=by
      unfold FitP SwP;rw[hMB];have hb:(bareV v).subs=v.subs.map bare:=rfl;have hb1:(bareV v).words=v.words:=rfl;have hb2:(bareV v).texts=v.texts:=rfl;rw[hb,hb1,hb2,List.map_eq_nil_iff];simp only[List.forall_mem_map];exact⟨fun h=>h.2.2,fun h=>⟨h0,hrN,h⟩⟩
     rw[zdI hFit];exact zrR hs hv hwl htl hsl h0 h1 hp
theorem zkp{bs:List UInt8}{r:Rec}{p:Nat}(h:zco bs=([r],p,0)):headV bs=(r.n,r.w,r.a,bs.length,0):=by
 have h0:(scan (nextV bs) Rec.t bs.length 0).2.2=0:=by
  show(zco bs).2.2=0;rw[h]
 have hl:=zlt bs bs.length 0 (by omega) (Nat.zero_le _) h0
 have h1:(scan (nextV bs) Rec.t bs.length 0).1=[r]:=by
  show(zco bs).1=[r]
  rw[h]
 rw[h1]at hl;have hn:=zlu bs r (by rw[h];simp)
 obtain⟨q1,q2⟩:r.f=0/\r.t=bs.length:=by
  simp[zoA]at hl;exact⟨hl.1,hl.2⟩
 rw[q1]at hn;have:=(zbu hn).1;rw[List.drop_zero]at this;rw[this,q2];simp
theorem zff{fs:List zaa}:zci fs t<->∃r p,zco t.data.toList=([r],p,0)/\idxB (numP (r.n:Int)) fs= -1:=by
 unfold zci;constructor
 . rintro⟨T,V,a,h,hf⟩
   refine⟨_,_,znm h,?_⟩;rcases zaL (numP (T:Int)) fs with⟨q,_⟩|⟨k,f,q1,q2,_⟩
   . exact q
   . have:=(zaX (p:=numP (T:Int)) (l:=fs)).2 k f q1 q2
     have hf':fs.find? (numP (T:Int))=none:=hf;rw[hf']at this;cases this
 . rintro⟨r,p,h,hi⟩
   exact⟨r.n,r.w,r.a,zkp h,(zaX (p:=numP (r.n:Int)) (l:=fs)).1 hi⟩
theorem zot{s:ByteArray}{l:List zaa}(hf:zax w A n c l)(hn:n<=1000000000000)(ht:t.data.toList.length<=1000000000):
 Calls prog 87 #[.agg #[.string s,.slice A n c],.string t] w fun e w'=>e=.returned (.bool (eqB (zci l t)))/\Ext w w':=by
 obtain⟨R0,hR0⟩:∃R0,R0=eqB (zci l t):=⟨_,rfl⟩
 rw[<-hR0];have hcode:(zco t.data.toList).2.2<=5:=ziX (zcI t.data.toList) (zje t.data.toList) t.data.toList.length 0 (by omega);rcases hsp:zco t.data.toList with⟨L,P,C⟩
 rw[hsp]at hcode;simp only at hcode;obtain⟨A7,c7,W7,run7,X7,hb7⟩:=zhs (w.alloc (.cells #[.string s,.slice A n c] 64)) t (by unfold maxLen;omega);have hspl:=fun(W:World)(h:zab W A7 t.data.toList.length c7 t.data.toList)=>zrg h ht hsp
 have B7:=(BlkT.new w 64 #[.string s,.slice A n c] rfl).up X7;have X0:Ext w W7:=Ext.trans ((Ext.refl w).alloc _) X7;have Hspl:=zsp hspl;have Hb7:=zsp hb7;have Hsp:=zsp hsp;have Hf:=zsp hf;clear hspl hb7 hsp hf;by_cases hC:C=0
 . subst hC
   by_cases h1:L.length=1
   . obtain⟨r,rfl⟩:=List.length_eq_one_iff.1 h1
     have hst:R0=decide (idxB (numP (r.n:Int)) l= -1):=by
      rw[hR0];refine ziB ?_;rw[decide_eq_true_iff,zff];constructor
      . rintro⟨r',p',h,hi⟩
        rw[Hsp.out]at h;cases h;exact hi
      . intro h
        exact⟨r,P,Hsp.out,h⟩
     have hbd:=(zqD (numP (r.n:Int)) l).1;clear h1;by_cases hi:idxB (numP (r.n:Int)) l= -1
     . rw[decide_eq_true hi]at hst
       have hby:=fun(W:World)(h:Ext w W)=>zfI (s:=s) (x:=(r.n:Int)) (Hf.out.up h) hn hi
       rw[show max (-1:Int) 0=0 by decide,show decide ((0:Int)<= -1)=false by decide]at hby;have HR0:=zsp hst
       have Hby:=zsp hby;clear hi hst hR0 hby hbd
       go_enter func87,ntmps87
       go_wp2_with (go_at_call 128;refine(Hspl.out _ Hb7.out).mono ?_;rintro e w2 ⟨A2,c2,rfl,own2⟩)
       have E2:Ext W7 w2:=Ext.trans xx own2.ext;obtain⟨b5,off5,r',hA,hrk,hb5,e0,e1,e2,e3,e4⟩:=own2.reads.rec' (show 0<1 by omega);simp only[List.getElem?_cons_zero,Option.some.injEq]at hrk;subst hrk;subst hA;have m0:w2.cell? ⟨w.heap.size,0,none⟩=some (.string s):=E2.of_cell (B7.cell 0);have m1:w2.cell? ⟨w.heap.size,1,none⟩=some (.slice A n c):=E2.of_cell (B7.cell 1);have ml:=Nat.lt_of_lt_of_le B7.lt E2.size;clear e1 e2 e3 e4;simp only[Nat.zero_mul,Nat.add_zero]at e0
       go_wp2
       have Xw:Ext w2 w2:=Ext.refl w2
       go_region_held3 (fun W=>Ext w2 W/\∀b o,b<w2.heap.size->W.cell? ⟨b,o,none⟩=w2.cell? ⟨b,o,none⟩) ((refine Ext.keep ?_;repeat with_reducible (first|assumption|exact Ext.refl _|refine Ext.alloc ?_ _|refine Ext.drew ?_|refine Ext.drewN ?_ _|refine Ext.setCell ?_ (by first|omega|(simp<;>omega)) _))) (first
        |(go_split_ands;go_at_call 83;refine(Hby.out _ ((X0.trans E2).trans (by with_reducible assumption))).mono ?_;rintro e w5 ⟨rfl,E5⟩;have q5:Ext w2 w5:=Ext.trans (by with_reducible assumption) E5))
       all_goals
        go_wp2
        go_ret
        exact⟨zag HR0.out.symm,(X0.trans E2).trans (by assumption)⟩
     . rw[decide_eq_false hi]at hst
       obtain⟨k,hk⟩:∃k:Nat,idxB (numP (r.n:Int)) l=(k:Int):=Int.eq_ofNat_of_zero_le (by omega);have hby:=fun(W:World)(h:Ext w W)=>zfI (s:=s) (x:=(r.n:Int)) (Hf.out.up h) hn hk
       rw[show max (k:Int) 0=k by omega,show decide ((0:Int)<=k)=true by rw[decide_eq_true_iff];omega]at hby;have HR0:=zsp hst
       have Hby:=zsp hby;clear hi hst hR0 hby hbd hk
       go_enter func87,ntmps87
       go_wp2_with (go_at_call 128;refine(Hspl.out _ Hb7.out).mono ?_;rintro e w2 ⟨A2,c2,rfl,own2⟩)
       have E2:Ext W7 w2:=Ext.trans xx own2.ext;obtain⟨b5,off5,r',hA,hrk,hb5,e0,e1,e2,e3,e4⟩:=own2.reads.rec' (show 0<1 by omega);simp only[List.getElem?_cons_zero,Option.some.injEq]at hrk;subst hrk;subst hA;have m0:w2.cell? ⟨w.heap.size,0,none⟩=some (.string s):=E2.of_cell (B7.cell 0);have m1:w2.cell? ⟨w.heap.size,1,none⟩=some (.slice A n c):=E2.of_cell (B7.cell 1);have ml:=Nat.lt_of_lt_of_le B7.lt E2.size;clear e1 e2 e3 e4;simp only[Nat.zero_mul,Nat.add_zero]at e0
       go_wp2
       have Xw:Ext w2 w2:=Ext.refl w2
       go_region_held3 (fun W=>Ext w2 W/\∀b o,b<w2.heap.size->W.cell? ⟨b,o,none⟩=w2.cell? ⟨b,o,none⟩) ((refine Ext.keep ?_;repeat with_reducible (first|assumption|exact Ext.refl _|refine Ext.alloc ?_ _|refine Ext.drew ?_|refine Ext.drewN ?_ _|refine Ext.setCell ?_ (by first|omega|(simp<;>omega)) _))) (first
        |(go_split_ands;go_at_call 83;refine(Hby.out _ ((X0.trans E2).trans (by with_reducible assumption))).mono ?_;rintro e w5 ⟨rfl,E5⟩;have q5:Ext w2 w5:=Ext.trans (by with_reducible assumption) E5))
       all_goals
        go_wp2
        go_ret
        exact⟨zag HR0.out.symm,(X0.trans E2).trans (by assumption)⟩
   . have hst:R0=false:=by
      rw[hR0];refine zaC ?_;rw[zff];rintro⟨r,p,h,_⟩;rw[Hsp.out]at h;cases h;exact h1 rfl
     have q1:((L.length:Int) !=1)=true:=by rw[bne_iff_ne];omega
     subst hst;clear hR0 h1
     go_enter func87,ntmps87
     go_wp2_with (go_at_call 128;refine(Hspl.out _ Hb7.out).mono ?_;rintro e w2 ⟨A2,c2,rfl,own2⟩)
     all_goals
      go_ret
      exact⟨rfl,X0.trans (Ext.trans own2.ext xx)⟩
 . have hst:R0=false:=by
    rw[hR0];refine zaC ?_;rw[zff];rintro⟨r,p,h,_⟩;rw[Hsp.out]at h;cases h;exact hC rfl
   have hC0:¬((C:Int)=0):=by omega
   have hCi:(C:Int)<256:=by omega
   subst hst;clear hR0
   go_enter func87,ntmps87
   go_wp2_with (go_at_call 128;refine(Hspl.out _ Hb7.out).mono ?_;rintro e w2 ⟨A2,c2,rfl,own2⟩)
   all_goals
    go_ret
    exact⟨rfl,X0.trans (Ext.trans own2.ext xx)⟩
theorem zqW{m:Nat}{M:MsgV}{b1 b2:Nat}(hs:zaj w A n c S)(hM:S[m]?=some M)(hn:M.n<=1000000000000)(ht:t.data.toList.length<=1000000000)(c1:w.cell? ⟨b1,0,none⟩=some (.slice A n c))(c2:w.cell? ⟨b2,0,none⟩=some (.int .i64 (m:Int))):
 Calls prog 86 #[.string t,.pointer (some ⟨b1,0,none⟩),.pointer (some ⟨b2,0,none⟩)] w fun e w'=>e=.returned (.bool (!eqB (zci M.d.fields t)))/\Ext w w':=by
 have hSl:=hs.length
 have hml:m<n:=by
  have:=(List.getElem?_eq_some_iff.1 hM).1;omega
 obtain⟨b,off,M',hSA,hM',hf,hnm,hb,s0,s1⟩:=hs.msg (k:=m) hml;rw[hM]at hM';cases hM';subst hSA;have hst:=fun W (h:Ext w W)=>zot (s:=M.d.name) (hf.up h) hn ht
 have l1:=World.block_lt_of_cell? w _ c1;have l2:=World.block_lt_of_cell? w _ c2;simp only at l1 l2;have mI:(m:Int)<n:=by omega
 have hcap:=hs.1.cap;have hmax:=hs.1.max;unfold maxLen at hmax;generalize eqB (zci M.d.fields t)=R at*;have Hst:=zsp hst;clear hst hs hf
 go_enter func86,ntmps86
 go_wp2_with (go_at_call 87;refine(Hst.out _ xx).mono ?_;rintro e w1 ⟨rfl,E1⟩)
 all_goals
  go_ret
  exact⟨zag (by simp),Ext.trans xx E1⟩
theorem znh{ok:ValT->Prop}{last:Int}{X:List ValT}{k:Nat}{v:ValT}(h:X[k]?=some v):valsP ok last (X.drop k)<->last<v.number/\ok v/\valsP ok v.number (X.drop (k+1)):=by
 rw[List.drop_eq_getElem?_toList_append,h];rfl
variable{x:MsgR}{root:Int}
theorem zqX(hR:zan (S.map MsgV.d)=true)(hs:zaj w A n c S)(hx:zah w x)(hvl:x.vals.length<=1000000000000)(hul:x.unk.length<=1000000000000)(hut:∀t∈x.unk,t.data.toList.length<=1000000000)(hp:∀v∈x.vals,∀(f:zaa)(W:World),Ext w W->Calls prog 84 #[zau f,.slice A n c,tvalV v] W fun e W'=>e=.returned (.bool (eqB (FitP (S.map MsgV.d) f (bareV v))))/\Ext W W'):
 Calls prog 52 #[.slice A n c,.int .i64 root,treeV x] w fun e w'=>e=.returned (.bool (eqB (RI (S.map MsgV.d) root (bare x))))/\Ext w w':=by
 have hSl:=hs.length;have hcap:=hs.1.cap;have hmax:=hs.1.max;have vcap:=hx.vals.cap;have ucap:=hx.unk.at_.cap;have vmax:=hx.vals.max;have umax:=hx.unk.at_.max;unfold maxLen at hmax vmax umax;obtain⟨R0,hR0⟩:∃R0,R0=eqB (RI (S.map MsgV.d) root (bare x)):=⟨_,rfl⟩
 rw[<-hR0];unfold treeV;have eg1:∀args w,(callFunc 86 args).run prog w=.ok (.enter 86 args) w:=enters_of func86 (by kernel_rfl) rfl;by_cases hneg:root<0
 . have hst:R0=false:=by
    rw[hR0];exact zaC (fun h=>by have:=h.1;omega)
   subst hst;clear hR0
   go_enter func52,ntmps52
   go_wp2
   go_ret
   exact⟨rfl,xx⟩
 . obtain⟨m,rfl⟩:=Int.eq_ofNat_of_zero_le (show 0<=root by omega)
   by_cases hml:m<n
   . obtain⟨b1,off1,M,hSA,hM,hf,hnm,hb1,s0,s1⟩:=hs.msg (k:=m) hml
     subst hSA;have hMd:(S.map MsgV.d)[m]?=some M.d:=by rw[List.getElem?_map,hM];rfl
     have hMn:M.n<=1000000:=by have:=(zbk hR hMd).2.2.1;have:=hf.length;omega
     have hiff:=zrz hR hMd (x:=bare x) (by
      rw[zbf];intro v hv;obtain⟨u,hu,rfl⟩:=List.mem_map.1 (show v∈x.vals.map bareV from hv)
      exact(hx.each u hu).small)
     have hbv:(bare x).vals=x.vals.map bareV:=by rw[zbf];rfl
     have hbu:(bare x).unk=x.unk:=by rw[zbf];rfl
     rw[hbv,hbu]at hiff;have hiff2:=hR0.trans (zdI hiff);have HI:=zsp hiff2;have hby:=fun(W:World)(y:Int)(I:Int)(h:Ext w W)(hi:idxB (fun f=>f.number==y) M.d.fields=I)=>zfI (s:=M.d.name) (x:=y) (hf.up h) (show M.n<=1000000000000 by omega) hi
     have hr1:=fun(W:World)(t:ByteArray)(b1' b2':Nat)(h:Ext w W)(ht:t.data.toList.length<=1000000000)=>zqW (M:=M) (t:=t) (b1:=b1') (b2:=b2') (hs.up h) hM (by omega) ht
     have Hby:=zsp hby;have Hr1:=zsp hr1;have Hp:=zsp hp;have Hf:=zsp hf;have Hx:=zsp hx;have Hut:=zsp hut;have Eg:=zsp eg1;have mI:(m:Int)<n:=by omega
     have mN:¬n<=m:=by omega
     clear hiff hiff2 hR0 hby hr1 hp hf hx hut eg1 hbv hbu hMd hM hR hs hneg hnm
     go_enter func52,ntmps52
     go_wp2
     have BS:=((BlkT.new w 23 #[.slice (some ⟨b1,off1,none⟩) n c] rfl).alloc (.cells #[.int .i64 (m:Int)] 3)).alloc (.cells #[.slice x.a.1 x.vals.length x.a.2,.slice x.b.1 x.unk.length x.b.2] 27);have BR:=(BlkT.new (w.alloc (.cells #[.slice (some ⟨b1,off1,none⟩) n c] 23)) 3 #[.int .i64 (m:Int)] (show w.heap.size+1=_ by simp)).alloc (.cells #[.slice x.a.1 x.vals.length x.a.2,.slice x.b.1 x.unk.length x.b.2] 27);have BX:=BlkT.new ((w.alloc (.cells #[.slice (some ⟨b1,off1,none⟩) n c] 23)).alloc (.cells #[.int .i64 (m:Int)] 3)) 27 #[.slice x.a.1 x.vals.length x.a.2,.slice x.b.1 x.unk.length x.b.2] (show w.heap.size+1+1=_ by simp);have X0:Ext w (((w.alloc (.cells #[.slice (some ⟨b1,off1,none⟩) n c] 23)).alloc (.cells #[.int .i64 (m:Int)] 3)).alloc (.cells #[.slice x.a.1 x.vals.length x.a.2,.slice x.b.1 x.unk.length x.b.2] 27)):=(((Ext.refl w).alloc _).alloc _).alloc _;generalize ((w.alloc (.cells #[.slice (some ⟨b1,off1,none⟩) n c] 23)).alloc (.cells #[.int .i64 (m:Int)] 3)).alloc (.cells #[.slice x.a.1 x.vals.length x.a.2,.slice x.b.1 x.unk.length x.b.2] 27)=wx at*;have y0:wx.cell? ⟨w.heap.size,0,none⟩=some (.slice (some ⟨b1,off1,none⟩) n c):=BS.cell 0;have y1:wx.cell? ⟨w.heap.size+1,0,none⟩=some (.int .i64 (m:Int)):=BR.cell 0;have x0:wx.cell? ⟨w.heap.size+1+1,0,none⟩=some (.slice x.a.1 x.vals.length x.a.2):=BX.cell 0;have x1:wx.cell? ⟨w.heap.size+1+1,1,none⟩=some (.slice x.b.1 x.unk.length x.b.2):=BX.cell 1;have l0:=BS.lt;have l1:=BR.lt;have l2:=BX.lt;have s0x:=X0.of_cell s0;have s1x:=X0.of_cell s1;have hb1x:=Nat.lt_of_lt_of_le hb1 X0.size;clear BS BR BX s0 s1 hb1
     go_loopw [6,7,9,10,11,23] (fun _ la _ _ _ i wr=>∃(k:Nat)(last:Int),k<=x.vals.length/\i=.int .i64 (k:Int)/\la=.int .i64 last/\Ext wx wr/\Hid (valsP (OkP (S.map MsgV.d) M.d) 0 (x.vals.map bareV)<->valsP (OkP (S.map MsgV.d) M.d) last ((x.vals.map bareV).drop k))) (fun _ _ _ _ _ i _=>x.vals.length - (intOf i).toNat)
     case atStart=>exact⟨0,0,Nat.zero_le _,rfl,rfl,Ext.refl _,Iff.rfl⟩
     case round=>
      rename World=>wr
      obtain⟨k,last,hk,rfl,rfl,hE,hV⟩:=hrel;by_cases hlt:k<x.vals.length
      . have hltI:(k:Int)<x.vals.length:=by omega
        obtain⟨b5,off5,v,hA,hvk,hb5,e0,e1,e2,e3⟩:=zdO (Hx.out.vals.ext (X0.trans hE)) hlt;have hvm:=List.mem_of_getElem? hvk;have hvb:(x.vals.map bareV)[k]?=some (bareV v):=by rw[List.getElem?_map,hvk];rfl
        have hstep:=znh (ok:=OkP (S.map MsgV.d) M.d) (last:=last) hvb;have hnv:(bareV v).number=v.number:=rfl;rw[hnv]at hstep;have hval:=Hp.out v hvm;unfold tvalV at hval;have Hval:=zsp hval;have Hst:=zsp hstep;have y0r:=hE.of_cell y0;have y1r:=hE.of_cell y1;have x0r:=hE.of_cell x0;have s0r:=hE.of_cell s0x;have s1r:=hE.of_cell s1x;have hb1r:=Nat.lt_of_lt_of_le hb1x hE.size;have l0r:=Nat.lt_of_lt_of_le l0 hE.size;have l1r:=Nat.lt_of_lt_of_le l1 hE.size;rw[hA]at x0r;rw[hA];clear hvb hstep hnv hval hvk;have BV:=BlkT.new wr 69 #[.int .i64 v.number,.slice v.a.1 v.words.length v.a.2,.slice v.b.1 v.texts.length v.b.2,.slice v.c.1 v.subs.length v.c.2] rfl;have Xv:Ext wr (wr.alloc (.cells #[.int .i64 v.number,.slice v.a.1 v.words.length v.a.2,.slice v.b.1 v.texts.length v.b.2,.slice v.c.1 v.subs.length v.c.2] 69)):=(Ext.refl wr).alloc _;have a0:=Xv.of_cell y0r;have a1:=Xv.of_cell y1r;have a2:=Xv.of_cell s0r;have a3:=Xv.of_cell s1r;have n0:=Nat.lt_of_lt_of_le hb1r Xv.size;have n1:=Nat.lt_of_lt_of_le l0r Xv.size;have n2:=Nat.lt_of_lt_of_le l1r Xv.size
        go_wp2_with fail
        generalize wr.alloc (.cells #[.int .i64 v.number,.slice v.a.1 v.words.length v.a.2,.slice v.b.1 v.texts.length v.b.2,.slice v.c.1 v.subs.length v.c.2] 69)=wv at*;have z0:wv.cell? ⟨wr.heap.size,0,none⟩=some (.int .i64 v.number):=BV.cell 0;have z1:wv.cell? ⟨wr.heap.size,1,none⟩=some (.slice v.a.1 v.words.length v.a.2):=BV.cell 1;have z2:wv.cell? ⟨wr.heap.size,2,none⟩=some (.slice v.b.1 v.texts.length v.b.2):=BV.cell 2;have z3:wv.cell? ⟨wr.heap.size,3,none⟩=some (.slice v.c.1 v.subs.length v.c.2):=BV.cell 3;have zl:=BV.lt;have Xvv:Ext wv wv:=Ext.refl wv;clear BV y0r y1r x0r s0r s1r;rcases zaL (fun f:zaa=>f.number==v.number) M.d.fields with⟨hi,hno⟩|⟨i,f,hi,hfi,hfn,_⟩
        . have hb:=fun(W:World)(h:Ext w W)=>Hby.out W v.number (-1) h hi
          rw[show max (-1:Int) 0=0 by decide,show decide ((0:Int)<= -1)=false by decide]at hb;have Hb:=zsp hb
          have hst:R0=false:=by
           rw[HI.out];refine zaC ?_;rintro⟨h,_⟩;rw[hV.out,Hst.out]at h;obtain⟨_,⟨f,hf,_⟩,_⟩:=h;have h1:=hno f (List.mem_of_find?_eq_some hf);have h2:=List.find?_some hf;have h3:(f.number==v.number)=true:=h2;rw[h3]at h1;cases h1
          have HS:=zsp hst;clear hi hno hb hst
          go_region_held3 (fun W=>Ext wv W/\∀b o,b<wv.heap.size->W.cell? ⟨b,o,none⟩=wv.cell? ⟨b,o,none⟩) ((refine Ext.keep ?_;repeat with_reducible (first|assumption|exact Ext.refl _|refine Ext.alloc ?_ _|refine Ext.drew ?_|refine Ext.drewN ?_ _|refine Ext.setCell ?_ (by first|omega|(simp<;>omega)) _))) (first|(go_split_ands;go_at_call 83;refine(Hb.out _ ((X0.trans (hE.trans Xv)).trans (by with_reducible assumption))).mono ?_;rintro e w5 ⟨rfl,E5⟩;have q5:Ext wv w5:=Ext.trans (by with_reducible assumption) E5))
          go_wp2
          go_quiet (fail)
          go_wp2
          go_ret
          exact⟨zag HS.out.symm,X0.trans (hE.trans (Xv.trans (Ext.trans q5 xx)))⟩
        . have hb:=fun(W:World)(h:Ext w W)=>Hby.out W v.number (i:Int) h hi
          rw[show max (i:Int) 0=i by omega,show decide ((0:Int)<=i)=true by rw[decide_eq_true_iff];omega]at hb;have Hb:=zsp hb;have hfind:M.d.fields.find? (fun g=>g.number==v.number)=some f:=(zaX (p:=fun f:zaa=>f.number==v.number) (l:=M.d.fields)).2 i f hi hfi;have Hfind:=zsp hfind;have hin:i<M.n:=by have:=(List.getElem?_eq_some_iff.1 hfi).1;have:=Hf.out.length;omega
          have iI:(i:Int)<M.n:=by omega
          obtain⟨b8,off8,f',hA8,hff,hok8,hb8,g0,g1,g2,g3,g4,g5⟩:=(Hf.out.up (X0.trans (hE.trans Xv))).field hin;rw[hfi]at hff;cases hff;by_cases hle:v.number<=last
          . have hst:R0=false:=by
             rw[HI.out];refine zaC ?_;rintro⟨h,_⟩;rw[hV.out,Hst.out]at h;omega
            have HS:=zsp hst;clear hi hfi hfn hb hst hfind hA8
            go_region_held3 (fun W=>Ext wv W/\∀b o,b<wv.heap.size->W.cell? ⟨b,o,none⟩=wv.cell? ⟨b,o,none⟩) ((refine Ext.keep ?_;repeat with_reducible (first|assumption|exact Ext.refl _|refine Ext.alloc ?_ _|refine Ext.drew ?_|refine Ext.drewN ?_ _|refine Ext.setCell ?_ (by first|omega|(simp<;>omega)) _))) (first|(go_split_ands;go_at_call 83;refine(Hb.out _ ((X0.trans (hE.trans Xv)).trans (by with_reducible assumption))).mono ?_;rintro e w5 ⟨rfl,E5⟩;have q5:Ext wv w5:=Ext.trans (by with_reducible assumption) E5))
            have z05:=q5.of_cell z0
            go_wp2
            go_quiet (fail)
            go_wp2
            go_ret
            exact⟨zag HS.out.symm,X0.trans (hE.trans (Xv.trans (Ext.trans q5 xx)))⟩
          . have hle2:decide (v.number<=last)=false:=decide_eq_false hle
            have hfit:=fun(W:World)(h:Ext w W)=>Hval.out f W h
            unfold zau at hfit;rw[hA8]at a3;have hby2:=Hb.out;rw[hA8]at hby2;have Hb:=zsp hby2;rcases hq:eqB (FitP (S.map MsgV.d) f (bareV v))with _|_
            . rw[hq]at hfit
              have hst:R0=false:=by
               rw[HI.out];refine zaC ?_;rintro⟨h,_⟩;rw[hV.out,Hst.out]at h;obtain⟨_,⟨g,hg,hF⟩,_⟩:=h;have hg':=Hfind.out.symm.trans hg;cases hg';rw[zbQ hF]at hq;cases hq
              have HS:=zsp hst;have Hfit:=zsp hfit;clear hi hfi hfn hb hst hfind hA8 hfit hq hby2
              go_region_held3 (fun W=>Ext wv W/\∀b o,b<wv.heap.size->W.cell? ⟨b,o,none⟩=wv.cell? ⟨b,o,none⟩) ((refine Ext.keep ?_;repeat with_reducible (first|assumption|exact Ext.refl _|refine Ext.alloc ?_ _|refine Ext.drew ?_|refine Ext.drewN ?_ _|refine Ext.setCell ?_ (by first|omega|(simp<;>omega)) _))) (first|(go_split_ands;go_at_call 83;refine(Hb.out _ ((X0.trans (hE.trans Xv)).trans (by with_reducible assumption))).mono ?_;rintro e w5 ⟨rfl,E5⟩;have q5:Ext wv w5:=Ext.trans (by with_reducible assumption) E5))
              rename Ext wv w5/\_=>hS5
              clear hS5;have a05:=q5.of_cell a0;have a15:=q5.of_cell a1;have a25:=q5.of_cell a2;have a35:=q5.of_cell a3;have z05:=q5.of_cell z0;have z15:=q5.of_cell z1;have z25:=q5.of_cell z2;have z35:=q5.of_cell z3;have g05:=q5.of_cell g0;have g15:=q5.of_cell g1;have g25:=q5.of_cell g2;have g35:=q5.of_cell g3;have g45:=q5.of_cell g4;have g55:=q5.of_cell g5;have m0:=Nat.lt_of_lt_of_le n0 q5.size;have m1:=Nat.lt_of_lt_of_le n1 q5.size;have m2:=Nat.lt_of_lt_of_le n2 q5.size;have m3:=Nat.lt_of_lt_of_le zl q5.size;have m4:=Nat.lt_of_lt_of_le hb8 q5.size;have X5:Ext w w5:=X0.trans (hE.trans (Xv.trans q5));clear a0 a1 a2 a3 z0 z1 z2 z3 g0 g1 g2 g3 g4 g5
              go_wp2
              have Q5:Ext w5 w5:=Ext.refl w5
              go_region_held3 (fun W=>Ext w5 W/\∀b o,b<w5.heap.size->W.cell? ⟨b,o,none⟩=w5.cell? ⟨b,o,none⟩) ((refine Ext.keep ?_;repeat with_reducible (first|assumption|exact Ext.refl _|refine Ext.alloc ?_ _|refine Ext.drew ?_|refine Ext.drewN ?_ _|refine Ext.setCell ?_ (by first|omega|(simp<;>omega)) _))) (first|(go_split_ands;go_at_call 84;refine(Hfit.out _ (X5.trans (by with_reducible assumption))).mono ?_;rintro e w6 ⟨rfl,E6⟩;have q6:Ext w5 w6:=Ext.trans (by with_reducible assumption) E6))
              go_wp2
              go_ret
              exact⟨zag HS.out.symm,X5.trans (Ext.trans q6 xx)⟩
            . rw[hq]at hfit
              have hF:FitP (S.map MsgV.d) f (bareV v):=by
               by_cases c:FitP (S.map MsgV.d) f (bareV v)
               . exact c
               . rw[zaC c]at hq
                 cases hq
              have hnext:valsP (OkP (S.map MsgV.d) M.d) 0 (x.vals.map bareV)<->valsP (OkP (S.map MsgV.d) M.d) v.number ((x.vals.map bareV).drop (k+1)):=by
               rw[hV.out,Hst.out];exact⟨fun h=>h.2.2,fun h=>⟨by omega,⟨f,Hfind.out,hF⟩,h⟩⟩
              have HN:=zsp hnext;have Hfit:=zsp hfit;clear hi hfi hfn hb hF hnext hfind hA8 hfit hq hby2
              go_region_held3 (fun W=>Ext wv W/\∀b o,b<wv.heap.size->W.cell? ⟨b,o,none⟩=wv.cell? ⟨b,o,none⟩) ((refine Ext.keep ?_;repeat with_reducible (first|assumption|exact Ext.refl _|refine Ext.alloc ?_ _|refine Ext.drew ?_|refine Ext.drewN ?_ _|refine Ext.setCell ?_ (by first|omega|(simp<;>omega)) _))) (first|(go_split_ands;go_at_call 83;refine(Hb.out _ ((X0.trans (hE.trans Xv)).trans (by with_reducible assumption))).mono ?_;rintro e w5 ⟨rfl,E5⟩;have q5:Ext wv w5:=Ext.trans (by with_reducible assumption) E5))
              rename Ext wv w5/\_=>hS5
              clear hS5;have a05:=q5.of_cell a0;have a15:=q5.of_cell a1;have a25:=q5.of_cell a2;have a35:=q5.of_cell a3;have z05:=q5.of_cell z0;have z15:=q5.of_cell z1;have z25:=q5.of_cell z2;have z35:=q5.of_cell z3;have g05:=q5.of_cell g0;have g15:=q5.of_cell g1;have g25:=q5.of_cell g2;have g35:=q5.of_cell g3;have g45:=q5.of_cell g4;have g55:=q5.of_cell g5;have m0:=Nat.lt_of_lt_of_le n0 q5.size;have m1:=Nat.lt_of_lt_of_le n1 q5.size;have m2:=Nat.lt_of_lt_of_le n2 q5.size;have m3:=Nat.lt_of_lt_of_le zl q5.size;have m4:=Nat.lt_of_lt_of_le hb8 q5.size;have X5:Ext w w5:=X0.trans (hE.trans (Xv.trans q5));clear a0 a1 a2 a3 z0 z1 z2 z3 g0 g1 g2 g3 g4 g5
              go_wp2
              have Q5:Ext w5 w5:=Ext.refl w5
              go_region_held3 (fun W=>Ext w5 W/\∀b o,b<w5.heap.size->W.cell? ⟨b,o,none⟩=w5.cell? ⟨b,o,none⟩) ((refine Ext.keep ?_;repeat with_reducible (first|assumption|exact Ext.refl _|refine Ext.alloc ?_ _|refine Ext.drew ?_|refine Ext.drewN ?_ _|refine Ext.setCell ?_ (by first|omega|(simp<;>omega)) _))) (first|(go_split_ands;go_at_call 84;refine(Hfit.out _ (X5.trans (by with_reducible assumption))).mono ?_;rintro e w6 ⟨rfl,E6⟩;have q6:Ext w5 w6:=Ext.trans (by with_reducible assumption) E6))
              have z06:=q6.of_cell z05
              go_wp2
              go_roundw
              case rel=>exact⟨k+1,v.number,by omega,by go_num,rfl,hE.trans (Xv.trans (q5.trans (Ext.trans q6 xx))),HN.out⟩
              case measure=>simp[intOf];omega
      . have hge:¬(k:Int)<x.vals.length:=by omega
        have hall:valsP (OkP (S.map MsgV.d) M.d) 0 (x.vals.map bareV):=by
         rw[hV.out,List.drop_eq_nil_of_le (by rw[List.length_map];omega)]
         trivial
        have hst:R0= !(x.unk.any fun t=> !eqB (zci M.d.fields t)):=by
         rw[HI.out];refine ziB ?_;rw[Bool.not_eq_true',List.any_eq_false];constructor
         . rintro⟨_,h⟩ t ht
           rw[zbQ (h t ht)]
           decide
         . intro h
           refine⟨hall,fun t ht=> ?_⟩;have:=h t ht;by_cases c:zci M.d.fields t
           . exact c
           . rw[zaC c]at this
             exact absurd rfl this
        have HS:=zsp hst;have y0r:=hE.of_cell y0;have y1r:=hE.of_cell y1;have x1r:=hE.of_cell x1;have hc:=fun(W:World)(E:Ext wr W)=>zlq (w:=W) (p:=fun t=> !eqB (zci M.d.fields t)) (lb:=#[.pointer (some ⟨w.heap.size,0,none⟩),.pointer (some ⟨w.heap.size+1,0,none⟩)]) Eg.out (Hx.out.unk.up (X0.trans (hE.trans E))) (by omega) (fun W' t ht hE'=>Hr1.out W' t _ _ (X0.trans (hE.trans (E.trans hE'))) (Hut.out t ht.1) ((E.trans hE').of_cell y0r) ((E.trans hE').of_cell y1r))
        generalize (x.unk.any fun t=> !eqB (zci M.d.fields t))=Q at*;have Hc:=zsp hc;clear hall hst hc
        go_wp2_with (go_at_call 85;refine(Hc.out _ xx).mono ?_;rintro e w2 ⟨rfl,E2⟩;have X2:Ext wr w2:=Ext.trans xx E2)
        all_goals
         go_ret
         exact⟨zag (by rw[HS.out]),X0.trans (hE.trans (X2.trans xx))⟩
   . have hst:R0=false:=by
      rw[hR0];refine zaC ?_;rintro⟨_,h⟩;rw[Int.toNat_natCast,zpW]at h;obtain⟨M,hM,_⟩:=h;have:=(List.getElem?_eq_some_iff.1 hM).1;rw[List.length_map]at this;omega
     have mI:¬((m:Int)<(n:Int)):=by omega
     subst hst;clear hR0
     go_enter func52,ntmps52
     go_wp2
     go_ret
     exact⟨rfl,xx⟩
inductive zaS{τ:Type}(B:Nat):MsgX τ->Prop
 |mk (x:MsgX τ) (unk:∀t∈x.unk,t.data.toList.length<=B) (sub:∀v∈x.vals,∀y∈v.subs,zaS B y):zaS B x
variable{B:Nat}{τ:Type}
theorem zaS.unk{x:MsgX τ}(h:zaS B x):∀t∈x.unk,t.data.toList.length<=B:=by cases h;assumption
theorem zaS.sub{x:MsgX τ}(h:zaS B x):∀v∈x.vals,∀y∈v.subs,zaS B y:=by cases h;assumption
theorem zaS.of_bare(x:MsgX τ)(h:zaS B (bare x)):zaS B x:=by
 refine MsgX.ind (P:=fun x=>zaS B (bare x)->zaS B x) (fun x ih h=> ?_) x h;rw[zbf]at h;refine .mk x h.unk (fun v hv y hy=>ih v hv y hy ?_);exact h.sub (bareV v) (List.mem_map_of_mem hv) (bare y) (List.mem_map_of_mem hy)
def zqh(S:List MsgV)(x:MsgR):Prop:=FitT 1000000000000 x->zaS 1000000000 x->∀(root:Int)(w:World)(A:Option Addr)(n c:Nat),zaj w A n c S->zah w x->
 Calls prog 52 #[.slice A n c,.int .i64 root,treeV x] w fun e w'=>e=.returned (.bool (eqB (RI (S.map MsgV.d) root (bare x))))/\Ext w w'
theorem zqY(hR:zan (S.map MsgV.d)=true)(x:MsgR):zqh S x:=by
 refine MsgX.ind (P:=zqh S) (fun x ih=> ?_) x;intro hfit htx root w A n c hs hx;refine zqX hR hs hx hfit.vals hfit.unk htx.unk (fun v hv f W hW=> ?_);obtain⟨l1,l2,l3⟩:=hfit.each v hv;exact tFits (hs.up hW) ((hx.val hv).up hW) l1 l2 l3 (fun y hy W' hW'=>ih v hv y hy (hfit.sub v hv y hy) (htx.sub v hv y hy) f.of_ W' A n c (hs.up (hW.trans hW')) ((hx.sub v hv y hy).up (hW.trans hW')))
theorem zjn(hs:zaj w A n c S)(hx:zah w x)(hfit:FitT 1000000000000 x)(htx:zaS 1000000000 x):
 Calls prog 26 #[.slice A n c,.int .i64 root,treeV x] w fun e w'=>e=.returned (.bool (zan (S.map MsgV.d)&&eqB (RI (S.map MsgV.d) root (bare x))))/\Ext w w':=by
 have hr:=fun W (h:zaj W A n c S)=>zmt h
 rcases hR:zan (S.map MsgV.d)with _|_
 . rw[hR]at hr
   have Hr:=zsp hr;clear hr hR;unfold treeV
   go_enter func26,ntmps26
   go_wp2_with (go_at_call 25;refine(Hr.out _ (hs.up xx)).mono ?_;rintro e w1 ⟨rfl,E1⟩)
   all_goals
    go_ret
    exact⟨rfl,Ext.trans xx E1⟩
 . have ht:=fun W (h:zaj W A n c S)(h2:zah W x)=>zqY hR x hfit htx root W A n c h h2
   rw[hR]at hr;generalize eqB (RI (S.map MsgV.d) root (bare x))=R at*;have Hr:=zsp hr;have Ht:=zsp ht;clear hr hR ht;unfold treeV at*
   go_enter func26,ntmps26
   go_wp2_with (first
    |(go_at_call 25;refine(Hr.out _ (hs.up xx)).mono ?_;rintro e w1 ⟨rfl,E1⟩;have X1:Ext w w1:=Ext.trans xx E1;have BX:BlkT w1 w.heap.size 27 #[.slice x.a.1 x.vals.length x.a.2,.slice x.b.1 x.unk.length x.b.2]:=(BlkT.new w _ _ rfl).up E1;have x0:w1.cell? ⟨w.heap.size,0,none⟩=some (.slice x.a.1 x.vals.length x.a.2):=BX.cell 0;have x1:w1.cell? ⟨w.heap.size,1,none⟩=some (.slice x.b.1 x.unk.length x.b.2):=BX.cell 1)
    |(go_at_call 52;refine(Ht.out _ (hs.up (X1.trans xx)) (hx.up (X1.trans xx))).mono ?_;rintro e w2 ⟨rfl,E2⟩))
   all_goals
    go_ret
    exact⟨zag (by simp),X1.trans (Ext.trans xx E2)⟩
end Go.Proofs.YtlhbllaojjelcaaGreat
