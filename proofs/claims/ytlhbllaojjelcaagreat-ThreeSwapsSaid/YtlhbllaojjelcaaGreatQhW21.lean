/- Contracts of layer 16: what a writer writes. -/
import Derived.Test.YtlhbllaojjelcaaGreatQhW18f

set_option linter.unusedVariables false
set_option maxRecDepth 100000
set_option maxHeartbeats 4000000
namespace Go.Proofs.YtlhbllaojjelcaaGreat
open Go.RowKit Go.Shelf Tryz
structure WrS(w0 wr:World)(bw:Nat)(SA:Option Addr)(sn sc:Nat)(xs:List UInt8)(A:Option Addr)(n c:Nat):Prop where
 o:BlkT wr bw 174 #[.slice SA sn sc,.slice A n c]
 own:Own w0 wr 5 1 A n c (xs.map bv)
 nL:n=xs.length
 base:w0.heap.size<=bw
def Else(bw:Nat)(A:Option Addr)(b:Nat):Prop:=b≠bw/\(Value.slice A 0 0).ownBlock≠some b
def zeD(w0:World)(bw:Nat)(SA:Option Addr)(sn sc:Nat)(xs:List UInt8)(A:Option Addr)(wr:World)(bs:List UInt8)(e:Ending)(w':World):Prop:=e=.returned (.tuple #[])/\∃A' n' c',WrS w0 w' bw SA sn sc (xs++bs) A' n' c'/\Stays (Else bw A) wr w'/\∀b,(Value.slice A' 0 0).ownBlock=some b->(Value.slice A 0 0).ownBlock=some b\/wr.heap.size<=b
section
variable {w0 wr w':World} {bw:Nat} {SA A:Option Addr} {sn sc n c:Nat} {xs:List UInt8}
theorem WrS.up(h:WrS w0 wr bw SA sn sc xs A n c)(X:Ext wr w'):WrS w0 w' bw SA sn sc xs A n c:=⟨h.o.up X,h.own.up X,h.nL,h.base⟩
theorem WrS.lt(h:WrS w0 wr bw SA sn sc xs A n c){b:Nat}(hb:wr.heap.size<=b):Else bw A b:=by
 refine⟨fun e=> ?_,fun e=> ?_⟩
 . have:=h.o.lt
   omega
 . have:=(h.own.new_lt e).2
   omega
theorem wPut{B:Option Addr}{m d:Nat}{number wire:Int}{vs:List UInt8}(h:WrS w0 wr bw SA sn sc xs A n c)(hn:n<=1000000000)(hv:zab wr B m d vs)(hm:m<=1000000000)(hr:(zao number wire&&fitsV wire vs)=true):
 Calls prog 168 #[.pointer (some ⟨bw,0,none⟩),.int .i64 number,.int .i64 wire,.slice B m d] wr (zeD w0 bw SA sn sc xs A wr (putB number wire vs)):=by
 have o1:wr.cell? ⟨bw,1,none⟩=some (.slice A n c):=h.o.cell 1;have ol:=h.o.lt;have Hp:=zsp (fun W (E:Ext wr W)=>rPut (h.own.bytes.up E) hn (hv.up E) hm hr);have Hh:=zsp h;clear h hr hv
 go_enter func168,ntmps168
 go_wp2_with (go_at_call 110;refine(Hp.out _ xx).mono ?_;rintro e w1 ⟨A1,c1,rfl,own1⟩;have E1:Ext wr w1:=Ext.trans xx own1.ext;have z1:=E1.of_cell o1;have zf:=(Hh.out.o.up E1).free 1;have zl:=Nat.lt_of_lt_of_le ol E1.size)
 go_end0
 have h:=Hh.out;have B1:=h.o.up E1;have own2:=own1.since h.own.ext;have hfar:=own2.far B1 (by decide) h.base 1 (.slice A1 (n+(putB number wire vs).length) c1);refine⟨rfl,A1,n+(putB number wire vs).length,c1,⟨B1.set_ 1 _,hfar,by rw[List.length_append,<-h.nL],h.base⟩,((Stays.of_ext E1).less (fun b hb=>hb)).set (fun q=>q.1 rfl) _,fun b hb=>.inr (own1.new_lt hb).1⟩
end
variable{u:Value}{b o bw:Nat}{A:Option Addr}
theorem Stays.cellE{w5 w6:World}(h:Stays (Else bw A) w5 w6)(hb:Else bw A b)(hc:w5.cell? ⟨b,o,none⟩=some u):w6.cell? ⟨b,o,none⟩=some u:=h.cell (p:=⟨b,o,none⟩) hb hc
variable{v:ValR}{f:zaa}{xs:List UInt8}{sn sc n c:Nat}{SA:Option Addr}{w0 wr:World}
theorem zow(h:WrS w0 wr bw SA sn sc xs A n c)(hn:n<=1000000)(hv:ValAt w0 v)(hk:zad f.kind=true)(hkb:kindB f.kind=true)(hr:f.rep=true)(ht:v.texts.length=0)(hs:v.subs.length=0)(hwl:v.words.length<=1000000)(r2:zao f.number 2=true):
 Calls prog 140 #[.pointer (some ⟨bw,0,none⟩),zau f,tvalV v] wr (zeD w0 bw SA sn sc xs A wr (putB f.number 2 (packW f.kind v.words))):=by
 have hpl:=zfx f.kind _ hv.own.small;have hN:=fun W=>zba f.kind W
 rw[hk]at hN;have hW:=fun W=>kWire f.kind W
 rw[zbH hkb,if_pos hkb]at hW;have hp:=fun W (E:Ext wr W)=>uPack (k:=f.kind) (w:=W) (hv.own.words.ext (h.own.ext.trans E)) hv.own.small (by omega) hk
 have wcap:=hv.own.words.cap;have wmax:=hv.own.words.max;unfold maxLen at wmax
 have hfit:(zao f.number 2&&fitsV 2 (packW f.kind v.words))=true:=by
  rw[r2];simp[fitsV]
 have hpu:=fun(W:World)(A9:Option Addr)(c9:Nat)(E:Ext wr W)(q:zab W A9 (packW f.kind v.words).length c9 (packW f.kind v.words))=>wPut (h.up E) (by omega) q (by omega) hfit
 have hlt:=fun(b:Nat)(hb:wr.heap.size<=b)=>h.lt hb
 have HN:=zsp hN;have HW:=zsp hW;have Hp:=zsp hp;have Hpu:=zsp hpu;have Hlt:=zsp hlt;generalize packW f.kind v.words=P at*;have tokA:True:=trivial;clear hN hW hp hpu hlt hfit hk hkb h hv;unfold zau tvalV;rw[hr,ht,hs];clear hr ht hs
 go_enter func140,ntmps140
 go_wp2_with fail
 have BF:=(BlkT.new wr 61 #[.string f.name,.int .i64 f.number,.int .i64 f.kind,.bool true,.bool f.packed,.int .i64 f.of_] rfl).alloc (.cells #[.int .i64 v.number,.slice v.a.1 v.words.length v.a.2,.slice v.b.1 0 v.b.2,.slice v.c.1 0 v.c.2] 69);have BV:=BlkT.new (wr.alloc (.cells #[.string f.name,.int .i64 f.number,.int .i64 f.kind,.bool true,.bool f.packed,.int .i64 f.of_] 61)) 69 #[.int .i64 v.number,.slice v.a.1 v.words.length v.a.2,.slice v.b.1 0 v.b.2,.slice v.c.1 0 v.c.2] (show wr.heap.size+1=_ by simp);have X0:Ext wr ((wr.alloc (.cells #[.string f.name,.int .i64 f.number,.int .i64 f.kind,.bool true,.bool f.packed,.int .i64 f.of_] 61)).alloc (.cells #[.int .i64 v.number,.slice v.a.1 v.words.length v.a.2,.slice v.b.1 0 v.b.2,.slice v.c.1 0 v.c.2] 69)):=((Ext.refl wr).alloc _).alloc _;generalize (wr.alloc (.cells #[.string f.name,.int .i64 f.number,.int .i64 f.kind,.bool true,.bool f.packed,.int .i64 f.of_] 61)).alloc (.cells #[.int .i64 v.number,.slice v.a.1 v.words.length v.a.2,.slice v.b.1 0 v.b.2,.slice v.c.1 0 v.c.2] 69)=wx at*;have z1:wx.cell? ⟨wr.heap.size,1,none⟩=some (.int .i64 f.number):=BF.cell 1;have z2:wx.cell? ⟨wr.heap.size,2,none⟩=some (.int .i64 f.kind):=BF.cell 2;have z3:wx.cell? ⟨wr.heap.size,3,none⟩=some (.bool true):=BF.cell 3;have z5:wx.cell? ⟨wr.heap.size,5,none⟩=some (.int .i64 f.of_):=BF.cell 5;have v1:wx.cell? ⟨wr.heap.size+1,1,none⟩=some (.slice v.a.1 v.words.length v.a.2):=BV.cell 1;have v2:wx.cell? ⟨wr.heap.size+1,2,none⟩=some (.slice v.b.1 0 v.b.2):=BV.cell 2;have v3:wx.cell? ⟨wr.heap.size+1,3,none⟩=some (.slice v.c.1 0 v.c.2):=BV.cell 3;have l1:=BF.lt;have l2:=BV.lt;clear BF BV
 go_wp2_with (first
  |(go_at_call 108;refine(HW.out _).mono ?_;rintro e w2 ⟨rfl,E2⟩;have X2:Ext wx w2:=Ext.trans xx E2;replace z1:=X2.of_cell z1;replace z2:=X2.of_cell z2;replace z3:=X2.of_cell z3;replace z5:=X2.of_cell z5;replace v1:=X2.of_cell v1;replace v2:=X2.of_cell v2;replace v3:=X2.of_cell v3)
  |(go_at_call 111;have _t:=tokA;refine(HN.out _).mono ?_;rintro e w3 ⟨rfl,E3⟩;have X3:Ext w2 w3:=Ext.trans xx E3;replace z1:=X3.of_cell z1;replace z2:=X3.of_cell z2;replace z3:=X3.of_cell z3;replace z5:=X3.of_cell z5;replace v1:=X3.of_cell v1;replace v2:=X3.of_cell v2;replace v3:=X3.of_cell v3;clear tokA)
  |(go_at_call 149;refine(Hp.out _ (X0.trans (X2.trans (X3.trans xx)))).mono ?_;rintro e w5 ⟨A5,c5,rfl,own5⟩;have X5:Ext w3 w5:=Ext.trans xx own5.ext;replace z1:=X5.of_cell z1;replace v2:=X5.of_cell v2;replace v3:=X5.of_cell v3)
  |(go_at_call 168;refine(Hpu.out _ _ _ (X0.trans (X2.trans (X3.trans X5))) own5.bytes).mono ?_;rintro e w6 ⟨rfl,A6,n6,c6,W6,S6,N6⟩;replace v2:=S6.cellE (Hlt.out _ (by omega)) v2;replace v3:=S6.cellE (Hlt.out _ (by omega)) v3))
 go_loopw [13,67] (fun _ i wq=>i=.int .i64 0/\wq=w6) (fun _ i _=>0)
 case atStart=>exact⟨rfl,rfl⟩
 case round=>
  rename World=>wq
  obtain⟨rfl,rfl⟩:=hrel
  go_wp2
  go_loopw [15,16,82] (fun _ _ i wp=>i=.int .i64 0/\wp=wq) (fun _ _ i _=>0)
  case atStart=>exact⟨rfl,rfl⟩
  case round=>
   rename World=>wp
   obtain⟨rfl,rfl⟩:=hrel
   go_wp2
   go_end0
   have XX:Ext wr w5:=X0.trans (X2.trans (X3.trans X5));exact⟨rfl,A6,n6,c6,W6,(Stays.of_ext XX).trans S6,fun b hb=>(N6 b hb).imp id (fun q=>Nat.le_trans XX.size q)⟩
theorem zni(h:WrS w0 wr bw SA sn sc xs A n c)(hn:n<=1000000)(hv:ValAt w0 v)(hk:zad f.kind=true)(hkb:kindB f.kind=true)(hr:f.rep=false)(ht:v.texts.length=0)(hs:v.subs.length=0){x:Nat}(hw:v.words=[x])(r2:zao f.number (wireI f.kind)=true):
 Calls prog 140 #[.pointer (some ⟨bw,0,none⟩),zau f,tvalV v] wr (zeD w0 bw SA sn sc xs A wr (putB f.number (wireI f.kind) (putS f.kind x))):=by
 have hx64:x<18446744073709551616:=hv.own.small x (by rw[hw];simp);have hpl:=(zbg (k:=f.kind) hx64).2;have hN:=fun W=>zba f.kind W
 rw[hk]at hN;have hW:=fun W=>kWire f.kind W
 rw[zbH hkb,if_pos hkb]at hW;have hp:=fun W=>sPut (k:=f.kind) (x:=x) (w:=W) hx64 hk rfl
 have hwd:=hv.own.words;rw[hw]at hwd;obtain⟨b5,off5,hA,hb5,hc5⟩:=Reads.at_ hwd (by simp);have e0:wr.cell? ⟨b5,off5,none⟩=some (.int .u64 (x:Int)):=h.own.ext.of_cell (hc5 0 _ rfl);have hb5r:=Nat.lt_of_lt_of_le hb5 h.own.ext.size;have hw1:v.words.length=1:=by rw[hw];rfl
 have hfit:(zao f.number (wireI f.kind)&&fitsV (wireI f.kind) (putS f.kind x))=true:=by
  obtain⟨Vw,q1,_,q3⟩:=zfk hk hx64;rw[r2,q1,q3];rfl
 have hpu:=fun(W:World)(A9:Option Addr)(c9:Nat)(E:Ext wr W)(q:zab W A9 (putS f.kind x).length c9 (putS f.kind x))=>wPut (h.up E) (by omega) q (by omega) hfit
 have hlt:=fun(b:Nat)(hb:wr.heap.size<=b)=>h.lt hb
 have HN:=zsp hN;have HW:=zsp hW;have Hp:=zsp hp;have Hpu:=zsp hpu;have Hlt:=zsp hlt;generalize putS f.kind x=P at*;generalize wireI f.kind=wi at*;have tokA:True:=trivial;have tokB:True:=trivial;clear hN hW hp hpu hlt hfit hk hkb h hv hwd hc5 hw;unfold zau tvalV;rw[hr,ht,hs,hw1,hA];clear hr ht hs hw1 hA
 go_enter func140,ntmps140
 go_wp2_with fail
 have BF:=(BlkT.new wr 61 #[.string f.name,.int .i64 f.number,.int .i64 f.kind,.bool false,.bool f.packed,.int .i64 f.of_] rfl).alloc (.cells #[.int .i64 v.number,.slice (some ⟨b5,off5,none⟩) 1 v.a.2,.slice v.b.1 0 v.b.2,.slice v.c.1 0 v.c.2] 69);have BV:=BlkT.new (wr.alloc (.cells #[.string f.name,.int .i64 f.number,.int .i64 f.kind,.bool false,.bool f.packed,.int .i64 f.of_] 61)) 69 #[.int .i64 v.number,.slice (some ⟨b5,off5,none⟩) 1 v.a.2,.slice v.b.1 0 v.b.2,.slice v.c.1 0 v.c.2] (show wr.heap.size+1=_ by simp);have X0:Ext wr ((wr.alloc (.cells #[.string f.name,.int .i64 f.number,.int .i64 f.kind,.bool false,.bool f.packed,.int .i64 f.of_] 61)).alloc (.cells #[.int .i64 v.number,.slice (some ⟨b5,off5,none⟩) 1 v.a.2,.slice v.b.1 0 v.b.2,.slice v.c.1 0 v.c.2] 69)):=((Ext.refl wr).alloc _).alloc _;generalize (wr.alloc (.cells #[.string f.name,.int .i64 f.number,.int .i64 f.kind,.bool false,.bool f.packed,.int .i64 f.of_] 61)).alloc (.cells #[.int .i64 v.number,.slice (some ⟨b5,off5,none⟩) 1 v.a.2,.slice v.b.1 0 v.b.2,.slice v.c.1 0 v.c.2] 69)=wx at*;have z1:wx.cell? ⟨wr.heap.size,1,none⟩=some (.int .i64 f.number):=BF.cell 1;have z2:wx.cell? ⟨wr.heap.size,2,none⟩=some (.int .i64 f.kind):=BF.cell 2;have z3:wx.cell? ⟨wr.heap.size,3,none⟩=some (.bool false):=BF.cell 3;have z5:wx.cell? ⟨wr.heap.size,5,none⟩=some (.int .i64 f.of_):=BF.cell 5;have v1:wx.cell? ⟨wr.heap.size+1,1,none⟩=some (.slice (some ⟨b5,off5,none⟩) 1 v.a.2):=BV.cell 1;have v2:wx.cell? ⟨wr.heap.size+1,2,none⟩=some (.slice v.b.1 0 v.b.2):=BV.cell 2;have v3:wx.cell? ⟨wr.heap.size+1,3,none⟩=some (.slice v.c.1 0 v.c.2):=BV.cell 3;have l1:=BF.lt;have l2:=BV.lt;clear BF BV
 go_wp2_with (first
  |(go_at_call 108;refine(HW.out _).mono ?_;rintro e w2 ⟨rfl,E2⟩;have X2:Ext wx w2:=Ext.trans xx E2;replace z1:=X2.of_cell z1;replace z2:=X2.of_cell z2;replace z3:=X2.of_cell z3;replace z5:=X2.of_cell z5;replace v1:=X2.of_cell v1;replace v2:=X2.of_cell v2;replace v3:=X2.of_cell v3)
  |(go_at_call 111;have _t:=tokA;refine(HN.out _).mono ?_;rintro e w3 ⟨rfl,E3⟩;have X3:Ext w2 w3:=Ext.trans xx E3;replace z1:=X3.of_cell z1;replace z2:=X3.of_cell z2;replace z3:=X3.of_cell z3;replace z5:=X3.of_cell z5;replace v1:=X3.of_cell v1;replace v2:=X3.of_cell v2;replace v3:=X3.of_cell v3;clear tokA)
  |(go_at_call 111;have _t:=tokB;refine(HN.out _).mono ?_;rintro e w4 ⟨rfl,E4⟩;have X4:Ext w3 w4:=Ext.trans xx E4;replace z1:=X4.of_cell z1;replace z2:=X4.of_cell z2;replace z3:=X4.of_cell z3;replace z5:=X4.of_cell z5;replace v1:=X4.of_cell v1;replace v2:=X4.of_cell v2;replace v3:=X4.of_cell v3;clear tokB))
 have e05:=(X0.trans (X2.trans (X3.trans X4))).of_cell e0;have lb:=Nat.lt_of_lt_of_le hb5r (X0.trans (X2.trans (X3.trans X4))).size;have la:=Nat.lt_of_lt_of_le l1 (X2.trans (X3.trans X4)).size;have lc:=Nat.lt_of_lt_of_le l2 (X2.trans (X3.trans X4)).size;have Q4:Ext w4 w4:=Ext.refl w4
 go_region_held3 (fun W=>Ext w4 W/\∀b o,b<w4.heap.size->W.cell? ⟨b,o,none⟩=w4.cell? ⟨b,o,none⟩) ((refine Ext.keep ?_;repeat with_reducible (first|assumption|exact Ext.refl _|refine Ext.alloc ?_ _|refine Ext.drew ?_|refine Ext.drewN ?_ _|refine Ext.setCell ?_ (by first|omega|(simp<;>omega)) _))) (first|(go_split_ands;go_at_call 114;refine(Hp.out _).mono ?_;rintro e w5 ⟨A5,c5,rfl,own5⟩;have q5:Ext w4 w5:=Ext.trans (by with_reducible assumption) own5.ext))
 rename Ext w4 w5/\_=>hS5
 clear hS5;have X5:=q5;replace z1:=X5.of_cell z1;replace v2:=X5.of_cell v2;replace v3:=X5.of_cell v3
 go_wp2_with (first
  |(go_at_call 168;refine(Hpu.out _ _ _ (X0.trans (X2.trans (X3.trans (X4.trans X5)))) own5.bytes).mono ?_;rintro e w6 ⟨rfl,A6,n6,c6,W6,S6,N6⟩;replace v2:=S6.cellE (Hlt.out _ (by omega)) v2;replace v3:=S6.cellE (Hlt.out _ (by omega)) v3))
 go_loopw [13,67] (fun _ i wq=>i=.int .i64 0/\wq=w6) (fun _ i _=>0)
 case atStart=>exact⟨rfl,rfl⟩
 case round=>
  rename World=>wq
  obtain⟨rfl,rfl⟩:=hrel
  go_wp2
  go_loopw [15,16,82] (fun _ _ i wp=>i=.int .i64 0/\wp=wq) (fun _ _ i _=>0)
  case atStart=>exact⟨rfl,rfl⟩
  case round=>
   rename World=>wp
   obtain⟨rfl,rfl⟩:=hrel
   go_wp2
   go_end0
   have XX:Ext wr w5:=X0.trans (X2.trans (X3.trans (X4.trans X5)));exact⟨rfl,A6,n6,c6,W6,(Stays.of_ext XX).trans S6,fun b hb=>(N6 b hb).imp id (fun q=>Nat.le_trans XX.size q)⟩
structure Went(w4 wq:World)(bw:Nat)(A A1:Option Addr):Prop where
 stays:Stays (Else bw A) w4 wq
 news:∀b,(Value.slice A1 0 0).ownBlock=some b->(Value.slice A 0 0).ownBlock=some b\/w4.heap.size<=b
theorem Went.refl(w4:World)(bw:Nat)(A:Option Addr):Went w4 w4 bw A A:=⟨Stays.refl _ _,fun _ h=>.inl h⟩
variable{A1:Option Addr}{w4 wq:World}
theorem Went.next{W7 w':World}{A2:Option Addr}(h:Went w4 wq bw A A1)(X:Ext wq W7)(S:Stays (Else bw A1) W7 w')(N:∀b,(Value.slice A2 0 0).ownBlock=some b->(Value.slice A1 0 0).ownBlock=some b\/W7.heap.size<=b):Went w4 w' bw A A2:=by
 have z1:=h.stays.size;have z2:=X.size;have z3:=S.size;refine⟨⟨by omega,fun b hb hlt=> ?_⟩,fun b hb=> ?_⟩
 . have h1:Else bw A1 b:=⟨hb.1,fun q=>by
    rcases h.news b q with q|q
    . exact hb.2 q
    . omega⟩
   rw[S.block b h1 (by omega),X.block b (by omega),h.stays.block b hb hlt]
 . rcases N b hb with q|q
   . exact h.news b q
   . exact .inr (by omega)
theorem Went.cell(h:Went w4 wq bw A A1)(hb:Else bw A b)(hc:w4.cell? ⟨b,o,none⟩=some u):wq.cell? ⟨b,o,none⟩=some u:=h.stays.cellE hb hc
theorem zls{se:MsgR->List UInt8}(h:WrS w0 wr bw SA sn sc xs A n c)(hn:n<=1000000)(hv:ValAt w0 v)(hk:zad f.kind=false)(hkb:kindB f.kind=true)(r2:zao f.number 2=true)(hp:∀y∈v.subs,∀(w1 w2:World)(bw2:Nat)(A2:Option Addr)(n2 c2:Nat),Ext w0 w1->WrS w1 w2 bw2 SA sn sc [] A2 n2 c2->Calls prog 98 #[.pointer (some ⟨bw2,0,none⟩),.int .i64 f.of_,treeV y] w2 (zeD w1 bw2 SA sn sc [] A2 w2 (se y)))(hl:n+((v.texts.map fun t=>putB f.number 2 t.data.toList).flatten.length+(v.subs.map fun y=>putB f.number 2 (se y)).flatten.length)<=2000000):
 Calls prog 140 #[.pointer (some ⟨bw,0,none⟩),zau f,tvalV v] wr (zeD w0 bw SA sn sc xs A wr ((v.texts.map fun t=>putB f.number 2 t.data.toList).flatten++(v.subs.map fun y=>putB f.number 2 (se y)).flatten)):=by
 obtain⟨T,hT⟩:∃T,T=v.texts.map fun t=>putB f.number 2 t.data.toList:=⟨_,rfl⟩
 obtain⟨U,hU⟩:∃U,U=v.subs.map fun y=>putB f.number 2 (se y):=⟨_,rfl⟩
 rw[<-hT,<-hU]at hl⊢;have hTl:T.length=v.texts.length:=by rw[hT,List.length_map]
 have hUl:U.length=v.subs.length:=by rw[hU,List.length_map]
 have hTs:∀k t,v.texts[k]?=some t->xs++(T.take (k+1)).flatten=(xs++(T.take k).flatten)++putB f.number 2 t.data.toList/\(xs++(T.take k).flatten).length<=2000000/\t.data.toList.length<=2000000:=fun k t q=>by
  have hm:T[k]?=some (putB f.number 2 t.data.toList):=by rw[hT,List.getElem?_map,q];rfl
  have h1:=zaD (List.mem_of_getElem? hm);have h2:=zfD (T:=T) k;have h3:=zeA f.number t.data.toList;have h4:=h.nL;exact⟨by rw[zap _ _ _ hm,List.flatten_append];simp,by rw[List.length_append];omega,by omega⟩
 have hUs:∀k y,v.subs[k]?=some y->xs++(T.flatten++(U.take (k+1)).flatten)=(xs++(T.flatten++(U.take k).flatten))++putB f.number 2 (se y)/\(xs++(T.flatten++(U.take k).flatten)).length<=2000000/\(se y).length<=2000000:=fun k y q=>by
  have hm:U[k]?=some (putB f.number 2 (se y)):=by rw[hU,List.getElem?_map,q];rfl
  have h1:=zaD (List.mem_of_getElem? hm);have h2:=zfD (T:=U) k;have h3:=zeA f.number (se y);have h4:=h.nL;exact⟨by rw[zap _ _ _ hm,List.flatten_append];simp,by rw[List.length_append,List.length_append];omega,by omega⟩
 have hfit:∀x:List UInt8,(zao f.number 2&&fitsV 2 x)=true:=fun x=>by
  rw[r2];simp[fitsV]
 have hN:=fun W=>zba f.kind W
 rw[hk]at hN;have hW:=fun W=>kWire f.kind W
 rw[zbH hkb,if_pos hkb,zcX hkb hk]at hW;have hlt:=fun(b:Nat)(hb:wr.heap.size<=b)=>h.lt hb
 have tcap:=hv.own.texts.at_.cap;have scap:=hv.own.subs.cap;have tmax:=hv.own.texts.at_.max;have smax:=hv.own.subs.max;unfold maxLen at tmax smax;have HN:=zsp hN;have HW:=zsp hW;have Hlt:=zsp hlt;have HTs:=zsp hTs;have HUs:=zsp hUs;have HTl:=zsp hTl;have HUl:=zsp hUl;have Hp:=zsp hp;have Hv:=zsp hv;have Hh:=zsp h;have Hfit:=zsp hfit;have tokA:True:=trivial;have tokB:True:=trivial;clear hN hW hlt hTs hUs hTl hUl hp hv h hfit hk hkb hT hU hl r2;unfold zau tvalV
 go_enter func140,ntmps140
 go_wp2_with fail
 have BF:=(BlkT.new wr 61 #[.string f.name,.int .i64 f.number,.int .i64 f.kind,.bool f.rep,.bool f.packed,.int .i64 f.of_] rfl).alloc (.cells #[.int .i64 v.number,.slice v.a.1 v.words.length v.a.2,.slice v.b.1 v.texts.length v.b.2,.slice v.c.1 v.subs.length v.c.2] 69);have BV:=BlkT.new (wr.alloc (.cells #[.string f.name,.int .i64 f.number,.int .i64 f.kind,.bool f.rep,.bool f.packed,.int .i64 f.of_] 61)) 69 #[.int .i64 v.number,.slice v.a.1 v.words.length v.a.2,.slice v.b.1 v.texts.length v.b.2,.slice v.c.1 v.subs.length v.c.2] (show wr.heap.size+1=_ by simp);have X0:Ext wr ((wr.alloc (.cells #[.string f.name,.int .i64 f.number,.int .i64 f.kind,.bool f.rep,.bool f.packed,.int .i64 f.of_] 61)).alloc (.cells #[.int .i64 v.number,.slice v.a.1 v.words.length v.a.2,.slice v.b.1 v.texts.length v.b.2,.slice v.c.1 v.subs.length v.c.2] 69)):=((Ext.refl wr).alloc _).alloc _;generalize (wr.alloc (.cells #[.string f.name,.int .i64 f.number,.int .i64 f.kind,.bool f.rep,.bool f.packed,.int .i64 f.of_] 61)).alloc (.cells #[.int .i64 v.number,.slice v.a.1 v.words.length v.a.2,.slice v.b.1 v.texts.length v.b.2,.slice v.c.1 v.subs.length v.c.2] 69)=wx at*;have z1:wx.cell? ⟨wr.heap.size,1,none⟩=some (.int .i64 f.number):=BF.cell 1;have z2:wx.cell? ⟨wr.heap.size,2,none⟩=some (.int .i64 f.kind):=BF.cell 2;have z3:wx.cell? ⟨wr.heap.size,3,none⟩=some (.bool f.rep):=BF.cell 3;have z5:wx.cell? ⟨wr.heap.size,5,none⟩=some (.int .i64 f.of_):=BF.cell 5;have v1:wx.cell? ⟨wr.heap.size+1,1,none⟩=some (.slice v.a.1 v.words.length v.a.2):=BV.cell 1;have v2:wx.cell? ⟨wr.heap.size+1,2,none⟩=some (.slice v.b.1 v.texts.length v.b.2):=BV.cell 2;have v3:wx.cell? ⟨wr.heap.size+1,3,none⟩=some (.slice v.c.1 v.subs.length v.c.2):=BV.cell 3;have l1:=BF.lt;have l2:=BV.lt;clear BF BV
 go_wp2_with (first
  |(go_at_call 108;refine(HW.out _).mono ?_;rintro e w2 ⟨rfl,E2⟩;have X2:Ext wx w2:=Ext.trans xx E2;replace z1:=X2.of_cell z1;replace z2:=X2.of_cell z2;replace z3:=X2.of_cell z3;replace z5:=X2.of_cell z5;replace v1:=X2.of_cell v1;replace v2:=X2.of_cell v2;replace v3:=X2.of_cell v3)
  |(go_at_call 111;have _t:=tokA;refine(HN.out _).mono ?_;rintro e w3 ⟨rfl,E3⟩;have X3:Ext w2 w3:=Ext.trans xx E3;replace z1:=X3.of_cell z1;replace z2:=X3.of_cell z2;replace z3:=X3.of_cell z3;replace z5:=X3.of_cell z5;replace v1:=X3.of_cell v1;replace v2:=X3.of_cell v2;replace v3:=X3.of_cell v3;clear tokA)
  |(go_at_call 111;have _t:=tokB;refine(HN.out _).mono ?_;rintro e w4 ⟨rfl,E4⟩;have X4:Ext w3 w4:=Ext.trans xx E4;replace z1:=X4.of_cell z1;replace z2:=X4.of_cell z2;replace z3:=X4.of_cell z3;replace z5:=X4.of_cell z5;replace v1:=X4.of_cell v1;replace v2:=X4.of_cell v2;replace v3:=X4.of_cell v3;clear tokB))
 have XX:Ext wr w4:=X0.trans (X2.trans (X3.trans X4));have hW4:=Hh.out.up XX;have Hz1:=zsp z1;have Hz5:=zsp z5;have Hv2:=zsp v2;have Hv3:=zsp v3;have HXX:=zsp XX;have la:wr.heap.size<w4.heap.size:=Nat.lt_of_lt_of_le l1 (X2.trans (X3.trans X4)).size;have lc:wr.heap.size+1<w4.heap.size:=Nat.lt_of_lt_of_le l2 (X2.trans (X3.trans X4)).size;clear z2 z3 v1 X0 X2 X3 X4 XX
 go_loopw [13,67] (fun _ i wq=>∃(k:Nat)(A1:Option Addr)(n1 c1:Nat),k<=v.texts.length/\i=.int .i64 (k:Int)/\WrS w0 wq bw SA sn sc (xs++(T.take k).flatten) A1 n1 c1/\Went w4 wq bw A A1) (fun _ i _=>v.texts.length - (intOf i).toNat)
 case atStart=>exact⟨0,A,n,c,Nat.zero_le _,rfl,by rw[List.take_zero,List.flatten_nil,List.append_nil];exact hW4,Went.refl _ _ _⟩
 case round=>
  rename World=>wq
  obtain⟨k,A1,n1,c1,hkk,rfl,hW1,hG⟩:=hrel;have z1q:=hG.cell (Hlt.out _ (Nat.le_refl _)) Hz1.out;have laq:=Nat.lt_of_lt_of_le la hG.stays.size;by_cases hlt:k<v.texts.length
  . have hltI:(k:Int)<v.texts.length:=by omega
    obtain⟨b5,off5,t,hA,htk,hb5,ht,e0⟩:=Hv.out.own.texts.text hlt;have e0q:=hW1.own.ext.of_cell e0;have hb5q:=Nat.lt_of_lt_of_le hb5 hW1.own.ext.size;obtain⟨hs1,hs2,hs3⟩:=HTs.out k t htk;have hn1:=hW1.nL;rw[<-hn1]at hs2;obtain⟨A7,c7,W7,run7,X7,hb7⟩:=zhs wq t ht;have z1s:=X7.of_cell z1q;have hpu:=wPut (hW1.up X7) (by omega) hb7 (by omega) (Hfit.out t.data.toList);have Hs1:=zsp hs1;have Hpu:=zsp hpu;have HG:=zsp hG;rw[hA];clear hs1 htk hpu hb7 hG hn1 hW1 e0
    go_wp2_with (go_at_call 168;refine Hpu.out.mono ?_;rintro e w6 ⟨rfl,A6,n6,c6,W6,S6,N6⟩)
    go_roundw
    case rel=>exact⟨k+1,A6,n6,c6,by omega,by go_num,by rw[Hs1.out];exact W6,HG.out.next X7 S6 N6⟩
    case measure=>simp[intOf];omega
  . have hge:¬((k:Int)<v.texts.length):=by omega
    have hkT:(T.take k).flatten=T.flatten:=by rw[List.take_of_length_le (by have:=HTl.out;omega)]
    rw[hkT]at hW1;have v3q:=hG.cell (Hlt.out _ (Nat.le_succ _)) Hv3.out;have lcq:=Nat.lt_of_lt_of_le lc hG.stays.size;clear hkT
    go_wp2
    go_loopw [15,16,82] (fun _ _ i wp=>∃(j:Nat)(A1:Option Addr)(n1 c1:Nat),j<=v.subs.length/\i=.int .i64 (j:Int)/\WrS w0 wp bw SA sn sc (xs++(T.flatten++(U.take j).flatten)) A1 n1 c1/\Went w4 wp bw A A1) (fun _ _ i _=>v.subs.length - (intOf i).toNat)
    case atStart=>exact⟨0,A1,n1,c1,Nat.zero_le _,rfl,by rw[List.take_zero,List.flatten_nil,List.append_nil];exact hW1,hG⟩
    case round=>
     rename World=>wp
     obtain⟨j,A2,n2,c2,hj,rfl,hW2,hG2⟩:=hrel;have o0:wp.cell? ⟨bw,0,none⟩=some (.slice SA sn sc):=hW2.o.cell 0;have ol:=hW2.o.lt;by_cases hltj:j<v.subs.length
     . have hltI:(j:Int)<v.subs.length:=by omega
       obtain⟨b5,off5,y,hA,hyk,hb5,e0,e1⟩:=zdw Hv.out.own.subs hltj;have hym:=List.mem_of_getElem? hyk;have e0p:=hW2.own.ext.of_cell e0;have e1p:=hW2.own.ext.of_cell e1;have hb5p:=Nat.lt_of_lt_of_le hb5 hW2.own.ext.size;have z1p:=hG2.cell (Hlt.out _ (Nat.le_refl _)) Hz1.out;have z5p:=hG2.cell (Hlt.out _ (Nat.le_refl _)) Hz5.out;have lap:=Nat.lt_of_lt_of_le la hG2.stays.size;obtain⟨hs1,hs2,hs3⟩:=HUs.out j y hyk;have hn2:=hW2.nL;rw[<-hn2]at hs2;have hcall:=Hp.out y hym wp;unfold treeV at hcall;have hpu:=fun(w5 W:World)(A5:Option Addr)(n5 c5:Nat)(X:Ext wp w5)(E:Ext w5 W)(q:zab w5 A5 n5 c5 (se y))(q2:Hid (n5=(se y).length))=>wPut (hW2.up (X.trans E)) (by omega) (q.up E) (by rw[q2.out];omega) (Hfit.out (se y))
       have Hs1:=zsp hs1;have Hpu:=zsp hpu;have Hcall:=zsp hcall;have HG:=zsp hG2;have HX0:=zsp hW2.own.ext;rw[hA];clear hs1 hyk hpu hcall hG2 hn2 hW2 e0 e1
       go_wp2_with (go_at_call 98;refine(Hcall.out _ (wp.heap.size+1) none 0 0 HX0.out ⟨BlkT.new (wp.alloc (.cells #[.slice y.a.1 y.vals.length y.a.2,.slice y.b.1 y.unk.length y.b.2] 27)) _ _ (by simp),Own.nil xx _ _,rfl,Nat.le_succ _⟩).mono ?_;rintro e w5 ⟨rfl,A5,n5,c5,W5,S5,N5⟩;rw[List.nil_append]at W5;have X5:=W5.own.ext;have z1s:=X5.of_cell z1p;have f5:w5.cell? ⟨wp.heap.size+1,1,none⟩=some (.slice A5 n5 c5):=W5.o.cell 1;have l5:=W5.o.lt;have la5:=Nat.lt_of_lt_of_le lap X5.size)
       have HW5:=zsp W5;clear W5 S5 N5
       go_region_law (first
        |(go_simp;go_at_call 168;refine(Hpu.out _ _ _ _ _ X5 xx HW5.out.own.bytes HW5.out.nL).mono ?_;rintro e w6 ⟨rfl,A6,n6,c6,W6,S6,N6⟩;have G6:=HG.out.next (X5.trans xx) S6 N6))
       all_goals
        go_simp
        go_wp2
        go_roundw
        case rel=>exact⟨j+1,A6,n6,c6,by omega,by go_num,by rw[Hs1.out];exact W6,G6⟩
        case measure=>simp[intOf];omega
     . have hge2:¬((j:Int)<v.subs.length):=by omega
       have hkU:(U.take j).flatten=U.flatten:=by rw[List.take_of_length_le (by have:=HUl.out;omega)]
       rw[hkU]at hW2;clear hkU
       go_wp2
       go_end0
       exact⟨rfl,A2,n2,c2,hW2,(Stays.of_ext HXX.out).trans hG2.stays,fun b hb=>(hG2.news b hb).imp id (fun q=>Nat.le_trans HXX.out.size q)⟩
end Go.Proofs.YtlhbllaojjelcaaGreat
