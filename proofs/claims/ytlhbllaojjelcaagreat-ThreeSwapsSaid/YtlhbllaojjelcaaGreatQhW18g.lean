/- Contracts of layer 18: the parts of a message, gathered. -/
import Derived.Test.YtlhbllaojjelcaaGreatQhW18f
import Derived.Test.YtlhbllaojjelcaaGreatQhW14w

set_option linter.unusedVariables false
set_option maxRecDepth 100000
set_option maxHeartbeats 4000000
namespace Go.Proofs.YtlhbllaojjelcaaGreat
open Go.RowKit Go.Shelf Tryz
structure RowG where
 A:Option Addr
 c:Nat
 vs:List ViewD
def RowG.v(r:RowG):Value:=.slice r.A r.vs.length r.c
def RowG.nil:RowG:=⟨none,0,[]⟩
def GatAt(w:World)(bm:Nat)(E:Int->RowG):Prop:=
 ∃M:List (Int×Value),MapV w bm (fun x:Int=>Value.int .i64 x) (fun x=>(Lit.int .i64 x).wf=true) M/\∀n:Int,(getV n M).getD (.slice none 0 0)=(E n).v
def numV(n:Int)(v:ViewD):Bool:= !decide (v.field<0)&&(v.r.n:Int)==n
def unkL(bs:List UInt8)(L:List ViewD):List UInt8:=(L.filter fun v=>decide (v.field<0)).flatMap fun v=>spanB bs v.r.f v.r.t
section
variable {w w':World} {bm:Nat} {E:Int->RowG} {s:Nat->Prop}
theorem GatAt.stays(h:GatAt w bm E)(k:Stays s w w')(hs:s bm):GatAt w' bm E:=by
 obtain⟨M,h1,h2⟩:=h;exact⟨M,h1.stays k hs,h2⟩
theorem GatAt.lt(h:GatAt w bm E):bm<w.heap.size:=by
 obtain⟨M,h1,h2⟩:=h;exact h1.lt
theorem GatAt.up(h:GatAt w bm E)(X:Ext w w'):GatAt w' bm E:=h.stays (s:=fun _=>True) (Stays.of_ext X) trivial
theorem GatAt.made(w:World):GatAt (w.alloc (.map #[] 0)) w.heap.size (fun _=>RowG.nil):=⟨[],MapV.made w _ _,fun i=>rfl⟩
theorem GatAt.not_row{w0:World}{e:TypeId}{size n c:Nat}{A:Option Addr}{xs:List Value}(h:GatAt w bm E)(o:Own w0 w e size A n c xs):(Value.slice A 0 0).ownBlock≠some bm:=by
 intro hb;obtain⟨cur,hc⟩:=o.typed hb;obtain⟨M,⟨es,cl,hh,_⟩,_⟩:=h;rw[hh]at hc;injection hc with hc;cases hc
theorem zol{x:Int}(h: -9223372036854775808<=x/\x<=9223372036854775807):(Lit.int .i64 x).wf=true:=by
 simp[Lit.wf,IntKind.min,IntKind.max,IntKind.signed,IntKind.bits];omega
end
theorem zom(u:World):(zeroValue 150).run prog u=.ok (.slice none 0 0) u:=by kernel_rfl
variable{n:Int}{E:Int->RowG}{bm:Nat}{w:World}
theorem GatAt.look(h:GatAt w bm E)(hn: -9223372036854775808<=n/\n<=9223372036854775807):
 (Instr.lookup 146 (.map (some bm)) (.int .i64 n) false).run prog w=.ok (.slice (E n).A (E n).vs.length (E n).c) w:=by
 obtain⟨M,h1,h2⟩:=h;have:=(h1.look (P:=prog) (t:=146) (zgE underlying3) underlying146 zom (x:=n) (zol hn)).1;rw[h2]at this;exact this
theorem GatAt.insert(h:GatAt w bm E)(hn: -9223372036854775808<=n/\n<=9223372036854775807)(r:RowG):
 ∃w',(Instr.mapUpdate 146 (.map (some bm)) (.int .i64 n) (.slice r.A r.vs.length r.c)).run prog w=.ok () w'/\GatAt w' bm (fun j=>if j=n then r else E j)/\w.grownBy w' (some bm):=by
 obtain⟨M,h1,h2⟩:=h;obtain⟨w',r1,r2,r3⟩:=h1.put (P:=prog) (t:=146) (zgE underlying3) underlying146 (x:=n) (zol hn) (RowG.v r);refine⟨w',r1,⟨_,r2,fun j=> ?_⟩,r3⟩;by_cases hj:j=n
 . subst hj
   rw[zch];simp
 . rw[zdt (fun e=>hj e.symm),h2]
   simp[hj]
structure Gat(w w5 wr:World)(b0:Nat)(bs:List UInt8)(L:List ViewD)(k:Nat)(E:Int->RowG)(U:Option Addr)(un uc:Nat):Prop where
 res:BlkT wr (b0+1) 148 #[.map none,.slice none 0 0]
 p:BlkT wr (b0+3) 148 #[.map (some (b0+2)),.slice U un uc]
 unk:Own w wr 5 1 U un uc ((unkL bs (L.take k)).map bv)
 unL:un=(unkL bs (L.take k)).length
 map:GatAt wr (b0+2) E
 own:∀n,Own w wr 191 7 (E n).A (E n).vs.length (E n).c ((E n).vs.flatMap viewC)
 apart:∀n m b,n≠m->(Value.slice (E n).A 0 0).ownBlock=some b->(Value.slice (E m).A 0 0).ownBlock≠some b
 vs:∀n,(E n).vs=(L.take k).filter (numV n)
 stays:Stays (fun b=>b≠b0+3/\b≠b0+2/\b<w5.heap.size) w5 wr
 new:∀n b,(Value.slice (E n).A 0 0).ownBlock=some b->w5.heap.size<=b
 unew:∀b,(Value.slice U 0 0).ownBlock=some b->w5.heap.size<=b
section
variable {w w5 wr:World} {b0:Nat} {bs:List UInt8} {L:List ViewD} {k:Nat} {E:Int->RowG} {U:Option Addr} {un uc:Nat} {v:ViewD}
theorem zmi{k:Nat}(h:L[k]?=some v)(hv:v.field<0):unkL bs (L.take (k+1))=unkL bs (L.take k)++spanB bs v.r.f v.r.t:=by
 unfold unkL;rw[List.take_add_one,h,List.filter_append,List.flatMap_append];simp[hv]
theorem zon{k:Nat}(h:L[k]?=some v)(hv:¬v.field<0):unkL bs (L.take (k+1))=unkL bs (L.take k):=by
 unfold unkL;rw[List.take_add_one,h,List.filter_append,List.flatMap_append];simp[hv]
theorem zpw{k:Nat}{n:Int}(h:L[k]?=some v)(hv:numV n v=true):(L.take (k+1)).filter (numV n)=(L.take k).filter (numV n)++[v]:=by
 rw[List.take_add_one,h,List.filter_append];simp[hv]
theorem zoo{k:Nat}{n:Int}(h:L[k]?=some v)(hv:numV n v=false):(L.take (k+1)).filter (numV n)=(L.take k).filter (numV n):=by
 rw[List.take_add_one,h,List.filter_append];simp[hv]
theorem Gat.up(h:Gat w w5 wr b0 bs L k E U un uc){w':World}(X:Ext wr w'):Gat w w5 w' b0 bs L k E U un uc:=
 ⟨h.res.up X,h.p.up X,h.unk.up X,h.unL,h.map.up X,fun n=>(h.own n).up X,h.apart,h.vs,h.stays.trans (Stays.of_ext X),h.new,h.unew⟩
theorem Gat.unk_step(h:Gat w w5 wr b0 bs L k E U un uc)(hb:b0=w.heap.size)(h5:b0+4<=w5.heap.size)(hv:L[k]?=some v)(hneg:v.field<0){w6 w7:World}(X6:Ext wr w6){m:Nat}(hm:(spanB bs v.r.f v.r.t).length=m){A7:Option Addr}{c7:Nat}(own7:Own w w7 5 1 A7 (un+m) c7 ((unkL bs (L.take k)).map bv++(spanB bs v.r.f v.r.t).map bv))(g7:w6.grownBy w7 (Value.slice U un uc).ownBlock)(m7:Moved w6 U A7):
 Gat w w5 (w7.setCell ⟨b0+3,1,none⟩ (.slice A7 (un+m) c7)) b0 bs L (k+1) E A7 (un+m) c7:=by
 have hu:=h.unk.up X6;have B7:=(h.p.up X6).beside hu (by decide) g7
 have hS:Stays (fun b=>(Value.slice U 0 0).ownBlock≠some b/\b≠b0+3) wr (w7.setCell ⟨b0+3,1,none⟩ (.slice A7 (un+m) c7)):=
  ((Stays.of_ext X6).trans (Stays.grown g7 (fun b hb q=>q.1 (by rw[zak U un uc 0 0]at hb;exact hb)))).set (fun q=>q.2 rfl) _
 have hfar:=own7.far B7 (by decide) (show w.heap.size<=b0+3 by omega) 1 (.slice A7 (un+m) c7)
 have hnot:∀n b,(Value.slice (E n).A 0 0).ownBlock=some b->(Value.slice U 0 0).ownBlock≠some b:=fun n b hb q=>by
  obtain⟨c1,h1⟩:=(h.own n).typed hb;obtain⟨c2,h2⟩:=h.unk.typed q;rw[h1]at h2;injection h2 with h2;injection h2 with _ h2;exact absurd h2 (by decide)
 have hs0:=h.stays.size;refine⟨h.res.stays hS ⟨fun q=> ?_,by omega⟩,B7.set_ 1 _,?_,?_,h.map.stays hS ⟨h.map.not_row h.unk,by omega⟩,fun n=>(h.own n).stays hS hfar.ext (fun b hb=>⟨hnot n b hb,?_⟩),h.apart,fun n=> ?_,?_,h.new,fun b hb=> ?_⟩
 . have:=h.unew _ q
   omega
 . rw[zmi hv hneg,List.map_append]
   exact hfar
 . rw[zmi hv hneg,List.length_append,<-h.unL,hm]
 . have:=h.new n b hb
   omega
 . rw[h.vs n,zoo hv]
   unfold numV;simp[hneg]
 . refine((h.stays.trans (Stays.of_ext X6)).trans (Stays.grown g7 (fun b hb q=> ?_))).set (fun q=>q.1 rfl) _
   rw[zak U un uc 0 0]at hb;have:=h.unew b hb;omega
 . rcases m7 with q|q
   . rw[q]at hb
     exact h.unew b hb
   . rw[q]at hb
     injection hb with hb;have:=X6.size;omega
theorem Gat.add_step(h:Gat w w5 wr b0 bs L k E U un uc)(hb:b0=w.heap.size)(h5:b0+4<=w5.heap.size)(hv:L[k]?=some v)(hneg:¬v.field<0)(hn:(v.r.n:Int)<=9223372036854775807){w6 w7:World}(X6:Ext wr w6){A7:Option Addr}{c7:Nat}(own7:Own w w7 191 7 A7 ((E v.r.n).vs.length+1) c7 ((E v.r.n).vs.flatMap viewC++viewC v))(g7:w6.grownBy w7 (Value.slice (E v.r.n).A (E v.r.n).vs.length (E v.r.n).c).ownBlock)(m7:Moved w6 (E v.r.n).A A7):
 ∃w8,(Instr.mapUpdate 146 (.map (some (b0+2))) (.int .i64 (v.r.n:Int)) (.slice A7 ((E v.r.n).vs.length+1) c7)).run prog w7=.ok () w8/\
  Gat w w5 w8 b0 bs L (k+1) (fun j=>if j=v.r.n then⟨A7,c7,(E v.r.n).vs++[v]⟩else E j) U un uc/\Stays (fun b=>b≠b0+2) w7 w8:=by
 have hold:=(h.own v.r.n).up X6
 have hS1:Stays (fun b=>(Value.slice (E v.r.n).A 0 0).ownBlock≠some b) wr w7:=
  (Stays.of_ext X6).trans (Stays.grown g7 (fun b hb q=>q (by rw[zak (E v.r.n).A _ _ 0 0]at hb;exact hb)))
 have hK7:=h.map.stays hS1 (h.map.not_row (h.own v.r.n));obtain⟨w8,r8,K8,g8⟩:=hK7.insert (n:=(v.r.n:Int)) ⟨by omega,hn⟩ ⟨A7,c7,(E v.r.n).vs++[v]⟩;have hlen:((E v.r.n).vs++[v]).length=(E v.r.n).vs.length+1:=by simp
 rw[hlen]at r8;have hs0:=h.stays.size;have hmlt:=h.map.lt;have hnotm:∀{e:TypeId}{size n c:Nat}{A:Option Addr}{xs:List Value},Own w wr e size A n c xs->(Value.slice A 0 0).ownBlock≠some (b0+2):=fun o=>h.map.not_row o
 have hS2:Stays (fun b=>b≠b0+2) w7 w8:=Stays.grown g8 (fun b hb q=>q (by injection hb with hb;exact hb.symm));have hS:Stays (fun b=>(Value.slice (E v.r.n).A 0 0).ownBlock≠some b/\b≠b0+2) wr w8:=(hS1.less (fun b q=>q.1)).trans (hS2.less (fun b q=>q.2));have hX8:Ext w w8:=own7.ext.into g8 (by omega)
 have hA7:(Value.slice A7 0 0).ownBlock≠some (b0+2):=by
  rcases m7 with q|q
  . rw[q]
    exact hnotm (h.own v.r.n)
  . rw[q]
    intro e;injection e with e;have:=X6.size;omega
 have own8:Own w w8 191 7 A7 ((E v.r.n).vs.length+1) c7 ((E v.r.n).vs.flatMap viewC++viewC v):=own7.stays hS2 hX8 (fun b hb e=>hA7 (by rw[<-e];exact hb))
 have hunot:∀n b,(Value.slice (E n).A 0 0).ownBlock=some b->(Value.slice U 0 0).ownBlock≠some b:=fun n b hb q=>by
  obtain⟨c1,h1⟩:=(h.own n).typed hb;obtain⟨c2,h2⟩:=h.unk.typed q;rw[h1]at h2;injection h2 with h2;injection h2 with _ h2;exact absurd h2 (by decide)
 refine⟨w8,r8,⟨h.res.stays hS ⟨fun q=> ?_,by omega⟩,h.p.stays hS ⟨fun q=> ?_,by omega⟩,?_,?_,K8,fun n=> ?_,fun n m b hnm hb=> ?_,fun n=> ?_,?_,fun n b hb=> ?_,h.unew⟩,hS2⟩
 . have:=h.new _ _ q
   omega
 . have:=h.new _ _ q
   omega
 . rw[zon hv hneg]
   exact h.unk.stays hS hX8 (fun b hb=>⟨fun q=>hunot _ b q hb,fun e=>hnotm h.unk (by rw[<-e];exact hb)⟩)
 . rw[zon hv hneg]
   exact h.unL
 . by_cases e:n=v.r.n
   . rw[if_pos e]
     show Own w w8 191 7 A7 ((E v.r.n).vs++[v]).length c7 (((E v.r.n).vs++[v]).flatMap viewC);rw[hlen,List.flatMap_append];simpa using own8
   . rw[if_neg e]
     exact(h.own n).stays hS hX8 (fun b hb=>⟨fun q=>h.apart n v.r.n b e hb q,fun e2=>hnotm (h.own n) (by rw[<-e2];exact hb)⟩)
 . have hnew:∀j b,(Value.slice (E j).A 0 0).ownBlock=some b->b<w6.heap.size:=fun j b q=>((h.own j).up X6).new_lt q|>.2
   by_cases e:n=v.r.n
   . rw[if_pos e]at hb
     rw[if_neg (fun q=>hnm (e.trans q.symm))];intro q;rcases m7 with r|r
     . have hb':(Value.slice A7 0 0).ownBlock=some b:=hb
       rw[r]at hb';exact h.apart v.r.n m b (fun q2=>hnm (e.trans q2)) hb' q
     . have hb':(Value.slice A7 0 0).ownBlock=some b:=hb
       rw[r]at hb';injection hb' with hb';have:=hnew m b q;omega
   . rw[if_neg e]at hb
     by_cases e2:m=v.r.n
     . rw[if_pos e2]
       intro q;have q:(Value.slice A7 0 0).ownBlock=some b:=q;rcases m7 with r|r
       . rw[r]at q
         exact h.apart n v.r.n b e hb q
       . rw[r]at q
         injection q with q;have:=hnew n b hb;omega
     . rw[if_neg e2]
       exact h.apart n m b hnm hb
 . by_cases e:n=v.r.n
   . rw[if_pos e]
     show(E v.r.n).vs++[v]=_;rw[h.vs,e,zpw hv];unfold numV;simp[hneg]
   . rw[if_neg e,h.vs n,zoo hv]
     unfold numV;have:((v.r.n:Int)==n)=false:=by simp;omega
     rw[this,Bool.and_false]
 . refine⟨Nat.le_trans hs0 hS.size,fun b hb hlt=> ?_⟩
   rw[hS.block b ⟨fun q=> ?_,hb.2.1⟩ (by omega),h.stays.block b hb hlt];have:=h.new _ _ q;omega
 . by_cases e:n=v.r.n
   . rw[if_pos e]at hb
     have hb':(Value.slice A7 0 0).ownBlock=some b:=hb;rcases m7 with r|r
     . rw[r]at hb'
       exact h.new _ b hb'
     . rw[r]at hb'
       injection hb' with hb';have:=X6.size;omega
   . rw[if_neg e]at hb
     exact h.new n b hb
end
variable{L:List ViewD}
theorem zop(bs:List UInt8)(h:∀v∈L,v.r.f<=v.r.t/\v.r.t<=bs.length):∀k,(unkL bs (L.take k)).length<=(L.flatMap fun v=>spanB bs v.r.f v.r.t).length:=fun k=>by
 have h1:∀l:List ViewD,(unkL bs l).length<=(l.flatMap fun v=>spanB bs v.r.f v.r.t).length:=fun l=>by
  have:=zgG bs (fun v=>decide (v.field<0)) l;unfold unkL;omega
 have h2:∀(k:Nat)(l:List ViewD),((l.take k).flatMap fun v=>spanB bs v.r.f v.r.t).length<=(l.flatMap fun v=>spanB bs v.r.f v.r.t).length:=fun k l=>by
  have:(l.flatMap fun v=>spanB bs v.r.f v.r.t)=((l.take k).flatMap fun v=>spanB bs v.r.f v.r.t)++((l.drop k).flatMap fun v=>spanB bs v.r.f v.r.t):=by
   rw[<-List.flatMap_append,List.take_append_drop]
  rw[this,List.length_append];omega
 exact Nat.le_trans (h1 _) (h2 k L)
variable{bs:List UInt8}{fs:List zaa}
theorem zpx{v:ViewD}(h:v∈(zac fs bs).1):v.r.n<=536870911:=by
 have h1:=(zbu (zdg fs bs v h).1).1;rcases zcz (bs.drop v.r.f)with⟨C,e,h2,_⟩|⟨T,V,N,a,g,ht,_,_,_,e⟩
 . rw[h1]at e
   simp only[Prod.mk.injEq]at e;exact absurd e.2.2.2.2.symm h2
 . rw[h1]at e
   simp only[Prod.mk.injEq]at e;have:=(zjc (bs.drop v.r.f)).2.2.2.1;rw[ht]at this;have h3:T<=536870911:=this;omega
noncomputable def regG(n:Nat):Code:=((Tryz.f79.body.bind (zcb n)).getD .skip)
theorem gReg8{Q0:Exit->Act->World->Prop}{u0 u1 u2 u3 u4 u6 u7 u8 u9 u11 u12 u13 u14 u15 u16 u17 u18 u19 u20 u21 u22 u23 u24 u25 u26 u27 u28 u29 u30 u31 u32 u33 u34 u35 u36 u37 u38 u39 u40 u41 u42 u43 u44 u45 u46 u47 u48 u49 u50 u51 u52 u53 u54 u55 u56:Value}{w5 wr:World}{k:Nat}{U:Option Addr}{un uc rn rw_ rf ra rt:Nat}{vf:Int}{vr:Bool}(Hm1:Hid (Gat w w5 wr w.heap.size bs L k E U un uc))(hs5:w.heap.size+4<=w5.heap.size)(Hv1:Hid (L[k]?=some ⟨⟨rn,rw_,rf,ra,rt⟩,vf,vr⟩))(hneg:0<=vf)(hnum:rn<=536870911)(hLn:L.length<=1000000)(hK:∀(v41 v42 v43 v44 v45 v46 v47 v48 v49 v50 v51 v52 v53 v54:Value)(w9:World)(E':Int->RowG),Gat w w5 w9 w.heap.size bs L (k+1) E' U un uc->Q0 .normal ⟨#[u0,u1,u2,u3,u4,.pointer (some ⟨w.heap.size+1+1+1,0,none⟩),u6,u7,u8,u9,.pointer (some ⟨wr.heap.size,0,none⟩),u11,u12,u13,u14,u15,u16,u17,u18,u19,u20,u21,u22,u23,u24,u25,u26,u27,u28,u29,u30,u31,u32,u33,u34,u35,u36,u37,u38,u39,u40,v41,v42,v43,v44,v45,v46,v47,v48,v49,v50,v51,v52,v53,v54,u55,u56],[]⟩ w9):
 Code.wp prog (regG 8) (calmQ Q0) ⟨#[u0,u1,u2,u3,u4,.pointer (some ⟨w.heap.size+1+1+1,0,none⟩),u6,u7,u8,u9,.pointer (some ⟨wr.heap.size,0,none⟩),u11,u12,u13,u14,u15,u16,u17,u18,u19,u20,u21,u22,u23,u24,u25,u26,u27,u28,u29,u30,u31,u32,u33,u34,u35,u36,u37,u38,u39,u40,u41,u42,u43,u44,u45,u46,u47,u48,u49,u50,u51,u52,u53,u54,u55,u56],[]⟩ (wr.alloc (.cells #[.int .i64 (rn:Int),.int .i64 (rw_:Int),.int .i64 (rf:Int),.int .i64 (ra:Int),.int .i64 (rt:Int),.int .i64 vf,.bool vr] 191)):=by
 have h8:=Hm1.out.up ((Ext.refl wr).alloc (.cells #[.int .i64 (rn:Int),.int .i64 (rw_:Int),.int .i64 (rf:Int),.int .i64 (ra:Int),.int .i64 (rt:Int),.int .i64 vf,.bool vr] 191));have v8:=BlkT.new wr 191 #[.int .i64 (rn:Int),.int .i64 (rw_:Int),.int .i64 (rf:Int),.int .i64 (ra:Int),.int .i64 (rt:Int),.int .i64 vf,.bool vr] rfl;have X8:Ext wr (wr.alloc (.cells #[.int .i64 (rn:Int),.int .i64 (rw_:Int),.int .i64 (rf:Int),.int .i64 (ra:Int),.int .i64 (rt:Int),.int .i64 vf,.bool vr] 191)):=(Ext.refl wr).alloc _;have hmb:=Hm1.out.map.lt;have HK:=zsp hK;clear hK;generalize wr.alloc (.cells #[.int .i64 (rn:Int),.int .i64 (rw_:Int),.int .i64 (rf:Int),.int .i64 (ra:Int),.int .i64 (rt:Int),.int .i64 vf,.bool vr] 191)=w8 at*;have q0:w8.cell? ⟨w.heap.size+3,0,none⟩=some (.map (some (w.heap.size+2))):=h8.p.cell 0;have ql:=h8.p.lt;have v0:=v8.cell 0;have v1:=v8.cell 1;have v2:=v8.cell 2;have v3:=v8.cell 3;have v4:=v8.cell 4;have v5:=v8.cell 5;have v6:=v8.cell 6;have vl:=v8.lt;simp only[List.getElem?_toArray,List.getElem?_cons_zero,List.getElem?_cons_succ]at v0 v1 v2 v3 v4 v5 v6;have r8:=(h8.up (Ext.refl w8).drew).map.look (n:=(rn:Int)) ⟨by omega,by omega⟩;have r9:=(h8.up ((Ext.refl w8).alloc (.cells #[.int .i64 (rn:Int),.int .i64 (rw_:Int),.int .i64 (rf:Int),.int .i64 (ra:Int),.int .i64 (rt:Int),.int .i64 vf,.bool vr] 191)).drew).map.look (n:=(rn:Int)) ⟨by omega,by omega⟩
 have hEl:(E (rn:Int)).vs.length<=L.length:=by
  rw[h8.vs];exact Nat.le_trans (List.length_filter_le _ _) (by rw[List.length_take];omega)
 have ho:=h8.own (rn:Int);have hor:=Hm1.out.own (rn:Int);rcases hRE:E (rn:Int)with⟨AE,cE,vsE⟩
 rw[hRE]at r8 r9 hEl ho hor;simp only at r8 r9 hEl ho hor;have Ho:=zsp ho;have Hor:=zsp hor;have HRE:=zsp hRE;have H8:=zsp h8;have Hv8:=zsp v8;clear ho hor hRE h8 v8
 conv=>arg 2;whnf
 go_region_held3 (fun W=>(W.cell? ⟨w.heap.size+3,0,none⟩=some (.map (some (w.heap.size+2))))/\(W.cell? ⟨wr.heap.size,0,none⟩=some (.int .i64 (rn:Int)))/\(W.cell? ⟨wr.heap.size,1,none⟩=some (.int .i64 (rw_:Int)))/\(W.cell? ⟨wr.heap.size,2,none⟩=some (.int .i64 (rf:Int)))/\(W.cell? ⟨wr.heap.size,3,none⟩=some (.int .i64 (ra:Int)))/\(W.cell? ⟨wr.heap.size,4,none⟩=some (.int .i64 (rt:Int)))/\(W.cell? ⟨wr.heap.size,5,none⟩=some (.int .i64 vf))/\(W.cell? ⟨wr.heap.size,6,none⟩=some (.bool vr)))
  (first|exact⟨by assumption,by assumption,by assumption,by assumption,by assumption,by assumption,by assumption,by assumption⟩|exact⟨by assumption,by assumption,by assumption,by assumption,by assumption,by assumption,by assumption,by assumption⟩|(go_split_ands;first|exact⟨by assumption,by assumption,by assumption,by assumption,by assumption,by assumption,by assumption,by assumption⟩|exact⟨Ext.of_cell (Ext.alloc (Ext.refl _) _) (by assumption),Ext.of_cell (Ext.alloc (Ext.refl _) _) (by assumption),Ext.of_cell (Ext.alloc (Ext.refl _) _) (by assumption),Ext.of_cell (Ext.alloc (Ext.refl _) _) (by assumption),Ext.of_cell (Ext.alloc (Ext.refl _) _) (by assumption),Ext.of_cell (Ext.alloc (Ext.refl _) _) (by assumption),Ext.of_cell (Ext.alloc (Ext.refl _) _) (by assumption),Ext.of_cell (Ext.alloc (Ext.refl _) _) (by assumption)⟩)) (first
  |(refine zcc zlX (by rfl) (.tmp 51) (.tmp 53) (by rfl) (by rfl) (Ho.out.up ((Ext.refl w8).alloc (.cells #[.int .i64 (rn:Int),.int .i64 (rw_:Int),.int .i64 (rf:Int),.int .i64 (ra:Int),.int .i64 (rt:Int),.int .i64 vf,.bool vr] 191)).drew) (by rfl) ((zbJ w8 (viewC ⟨⟨rn,rw_,rf,ra,rt⟩,vf,vr⟩) 191 rfl rfl).ext (Ext.refl _).drew) (zjY _) (by omega) (by unfold maxLen;omega) ?_;intro A7 c7 w7 own7 g7 m7;have B7:=(H8.out.p.up ((Ext.refl w8).alloc (.cells #[.int .i64 (rn:Int),.int .i64 (rw_:Int),.int .i64 (rf:Int),.int .i64 (ra:Int),.int .i64 (rt:Int),.int .i64 vf,.bool vr] 191)).drew).beside (Ho.out.up ((Ext.refl w8).alloc (.cells #[.int .i64 (rn:Int),.int .i64 (rw_:Int),.int .i64 (rf:Int),.int .i64 (ra:Int),.int .i64 (rt:Int),.int .i64 vf,.bool vr] 191)).drew) (by decide) g7;have z7:w7.cell? ⟨w.heap.size+3,0,none⟩=some (.map (some (w.heap.size+2))):=B7.cell 0;have zl:=B7.lt;have v7:=(Hv8.out.up ((Ext.refl w8).alloc (.cells #[.int .i64 (rn:Int),.int .i64 (rw_:Int),.int .i64 (rf:Int),.int .i64 (ra:Int),.int .i64 (rt:Int),.int .i64 vf,.bool vr] 191)).drew).stays (s:=fun b=>(Value.slice AE 0 0).ownBlock≠some b) (Stays.grown g7 (fun b hb q=>q (by rw[zak AE _ _ 0 0]at hb;exact hb))) (fun e=>(by have:=(Hor.out.new_lt e).2;omega));have k0:w7.cell? ⟨wr.heap.size,0,none⟩=some (.int .i64 (rn:Int)):=v7.cell 0;have k1:w7.cell? ⟨wr.heap.size,1,none⟩=some (.int .i64 (rw_:Int)):=v7.cell 1;have k2:w7.cell? ⟨wr.heap.size,2,none⟩=some (.int .i64 (rf:Int)):=v7.cell 2;have k3:w7.cell? ⟨wr.heap.size,3,none⟩=some (.int .i64 (ra:Int)):=v7.cell 3;have k4:w7.cell? ⟨wr.heap.size,4,none⟩=some (.int .i64 (rt:Int)):=v7.cell 4;have k5:w7.cell? ⟨wr.heap.size,5,none⟩=some (.int .i64 vf):=v7.cell 5;have k6:w7.cell? ⟨wr.heap.size,6,none⟩=some (.bool vr):=v7.cell 6;obtain⟨w9,run9,hG,hS9⟩:=Hm1.out.add_step rfl hs5 Hv1.out (by show¬vf<0;omega) (by show(rn:Int)<=_;omega) (w6:=(w8.alloc (.cells #[.int .i64 (rn:Int),.int .i64 (rw_:Int),.int .i64 (rf:Int),.int .i64 (ra:Int),.int .i64 (rt:Int),.int .i64 vf,.bool vr] 191)).drew) (X8.trans ((Ext.refl w8).alloc (.cells #[.int .i64 (rn:Int),.int .i64 (rw_:Int),.int .i64 (rf:Int),.int .i64 (ra:Int),.int .i64 (rt:Int),.int .i64 vf,.bool vr] 191)).drew) (by rw[HRE.out];exact own7) (by rw[HRE.out];exact g7) (by rw[HRE.out];exact m7);rw[HRE.out]at run9;have v9:=v7.stays hS9 (by omega);have y:w9.cell? ⟨w.heap.size+3,0,none⟩=some (.map (some (w.heap.size+2))):=hG.p.cell 0;have y0:w9.cell? ⟨wr.heap.size,0,none⟩=some (.int .i64 (rn:Int)):=v9.cell 0;have y1:w9.cell? ⟨wr.heap.size,1,none⟩=some (.int .i64 (rw_:Int)):=v9.cell 1;have y2:w9.cell? ⟨wr.heap.size,2,none⟩=some (.int .i64 (rf:Int)):=v9.cell 2;have y3:w9.cell? ⟨wr.heap.size,3,none⟩=some (.int .i64 (ra:Int)):=v9.cell 3;have y4:w9.cell? ⟨wr.heap.size,4,none⟩=some (.int .i64 (rt:Int)):=v9.cell 4;have y5:w9.cell? ⟨wr.heap.size,5,none⟩=some (.int .i64 vf):=v9.cell 5;have y6:w9.cell? ⟨wr.heap.size,6,none⟩=some (.bool vr):=v9.cell 6))
 all_goals
  go_simp
  exact HK.out _ _ _ _ _ _ _ _ _ _ _ _ _ _ _ _ hG
theorem zqV{nm:ByteArray}{MA:Option Addr}{Mn Mc:Nat}{A:Option Addr}{n c:Nat}{P C:Nat}(hf:zax w MA Mn Mc fs)(hMn:Mn<=1000000000000)(hb:zab w A n c bs)(hn:n<=1000000)(hv:zac fs bs=(L,P,C)):
 Calls prog 79 #[.agg #[.string nm,.slice MA Mn Mc],.slice A n c] w fun e w'=>∃(bm:Nat)(E:Int->RowG)(U:Option Addr)(uc:Nat),e=.returned (.agg #[.map (some bm),.slice U (unkL bs L).length uc])/\GatAt w' bm E/\zab w' U (unkL bs L).length uc (unkL bs L)/\
  (∀i,Reads w' (E i).A (E i).vs.length (E i).c 7 ((E i).vs.flatMap viewC))/\(∀i,(E i).vs=L.filter (numV i))/\Ext w w':=by
 have hbl:=hb.length;have hLn:L.length<=bs.length:=by have:=(zhd fs bs).2.1;rw[hv]at this;exact this
 have hLv:∀v∈L,v∈(zac fs bs).1:=fun v h=>by rw[hv];exact h
 have hul:∀k,(unkL bs (L.take k)).length<=bs.length:=fun k=>by
  have h1:=zop bs (L:=L) (fun v h=>(by have:=zcv (hLv v h);omega)) k;have h2:=zkO fs bs;rw[hv]at h2;exact Nat.le_trans h1 h2
 have hva:=fun W (h1:zax W MA Mn Mc fs)(h2:zab W A n c bs)=>vAllV (s:=nm) h1 hMn h2 (by omega) hv
 have Hva:=zsp hva;have Hf:=zsp hf;have Hb:=zsp hb;have HLv:=zsp hLv;have Hul:=zsp hul;clear hva hLv hf hb hv hul
 go_enter func79,ntmps79
 have hmm:= @run_makeMap prog
 go_wp2_with (go_at_call 107;refine(Hva.out _ (Hf.out.up xx) (Hb.out.up xx)).mono ?_;rintro e w5 ⟨A1,c1,rfl,own1⟩)
 clear hmm;have hs5:w.heap.size+4<=w5.heap.size:=by have:=own1.ext.size;simpa using this
 have R5:=(((BlkT.new (w.alloc (.cells #[.string nm,.slice MA Mn Mc] 64)) 148 #[.map none,.slice none 0 0] (show w.heap.size+1=_ by simp)).alloc (.map #[] 0)).alloc (.cells #[.map (some (w.heap.size+2)),.slice none 0 0] 148)).up own1.ext;have K5:=((GatAt.made ((w.alloc (.cells #[.string nm,.slice MA Mn Mc] 64)).alloc (.cells #[.map none,.slice none 0 0] 148))).up ((Ext.refl _).alloc (.cells #[.map (some (w.heap.size+2)),.slice none 0 0] 148))).up own1.ext;have P5:=(BlkT.new (((w.alloc (.cells #[.string nm,.slice MA Mn Mc] 64)).alloc (.cells #[.map none,.slice none 0 0] 148)).alloc (.map #[] 0)) 148 #[.map (some (w.heap.size+2)),.slice none 0 0] (show w.heap.size+3=_ by simp)).up own1.ext;have X5:Ext w w5:=(((((Ext.refl w).alloc _).alloc _).alloc _).alloc _).trans own1.ext;have L5:=own1.reads;have hLu:∀b,UsesA A1 L.length b->w.heap.size+4<=b/\b<w5.heap.size:=fun b hb=>⟨(by simpa using own1.uses_new hb),own1.reads.uses_lt hb⟩
 have hk2:((w.alloc (.cells #[.string nm,.slice MA Mn Mc] 64)).alloc (.cells #[.map none,.slice none 0 0] 148)).heap.size=w.heap.size+2:=by simp
 rw[hk2]at K5;clear own1 hk2;have HLu:=zsp hLu
 have start:Gat w w5 w5 w.heap.size bs L 0 (fun _=>RowG.nil) none 0 0:=
  ⟨R5,P5,Own.nil X5 _ _,rfl,K5,fun n=>Own.nil X5 _ _,(fun n m b _ h=>by cases h),fun n=>rfl,Stays.refl _ _,(fun n b h=>by cases h),(fun b h=>by cases h)⟩
 clear hLu R5 P5 K5
 go_loopw [22] (fun i wr=>∃(k:Nat)(E:Int->RowG)(U:Option Addr)(un uc:Nat),k<=L.length/\i=.int .i64 (k:Int)/\Gat w w5 wr w.heap.size bs L k E U un uc) (fun i _=>L.length - (intOf i).toNat)
 case atStart=>exact⟨0,_,none,0,0,Nat.zero_le _,rfl,start⟩
 case round=>
  obtain⟨k,E,U,un,uc,hk,rfl,hm1⟩:=hrel;have p0:wr.cell? ⟨w.heap.size+3,0,none⟩=some (.map (some (w.heap.size+2))):=hm1.p.cell 0;have p1:wr.cell? ⟨w.heap.size+3,1,none⟩=some (.slice U un uc):=hm1.p.cell 1;have pl:=hm1.p.lt;have pf:=hm1.p.free 1;have Xw:=hm1.unk.ext;by_cases hlt:k<L.length
  . have hltI:(k:Int)<L.length:=by omega
    have hLr:=L5.stays hm1.stays (fun b hb=>(by have:=HLu.out b hb;exact⟨by omega,by omega,by omega⟩));obtain⟨b5,off5,v,hA,hv,hb5,e0,e1,e2,e3,e4,e5,e6⟩:=hLr.view' hlt;subst hA;have hmb:=hm1.map.lt;have hun:un<=bs.length:=by rw[hm1.unL];exact Hul.out k
    have hvm:=List.mem_of_getElem? hv;have hbd:=zcv (HLv.out v hvm);have Hm1:=zsp hm1;have Hv1:=zsp hv;clear hm1 hv hLr;by_cases hneg:v.field<0
    . obtain⟨A9,run9,hb9⟩:=zbz (Hb.out.up Xw) (l:=v.r.f) (m:=v.r.t) (by omega) (by omega)
      have Hb9:=zsp hb9;have hsl:=hb9.length;clear hb9;have h8:=Hm1.out.up ((Ext.refl wr).alloc (.cells #[.int .i64 (v.r.n:Int),.int .i64 (v.r.w:Int),.int .i64 (v.r.f:Int),.int .i64 (v.r.a:Int),.int .i64 (v.r.t:Int),.int .i64 v.field,.bool v.run] 191));have v8:=BlkT.new wr 191 #[.int .i64 (v.r.n:Int),.int .i64 (v.r.w:Int),.int .i64 (v.r.f:Int),.int .i64 (v.r.a:Int),.int .i64 (v.r.t:Int),.int .i64 v.field,.bool v.run] rfl;have X8:Ext wr (wr.alloc (.cells #[.int .i64 (v.r.n:Int),.int .i64 (v.r.w:Int),.int .i64 (v.r.f:Int),.int .i64 (v.r.a:Int),.int .i64 (v.r.t:Int),.int .i64 v.field,.bool v.run] 191)):=(Ext.refl wr).alloc _
      go_wp2
      generalize wr.alloc (.cells #[.int .i64 (v.r.n:Int),.int .i64 (v.r.w:Int),.int .i64 (v.r.f:Int),.int .i64 (v.r.a:Int),.int .i64 (v.r.t:Int),.int .i64 v.field,.bool v.run] 191)=w8 at*;have q1:w8.cell? ⟨w.heap.size+3,1,none⟩=some (.slice U un uc):=h8.p.cell 1;have ql:=h8.p.lt;have v2:=v8.cell 2;have v4:=v8.cell 4;have vl:=v8.lt;simp only[List.getElem?_toArray,List.getElem?_cons_zero,List.getElem?_cons_succ]at v2 v4;have H8:=zsp h8;clear h8 v8
      go_region_law (first
       |(refine zcc elemB (by rfl) (.tmp 30) (.tmp 38) (by rfl) (by rfl) (H8.out.unk.up (Ext.refl w8).drew) (by rfl) (Hb9.out.up (X8.trans (Ext.refl w8).drew)) (zgh _) (by omega) (by unfold maxLen;omega) ?_;intro A7 c7 w7 own7 g7 m7;have B7:=(H8.out.p.up (Ext.refl w8).drew).beside (H8.out.unk.up (Ext.refl w8).drew) (by decide) g7;have z7:w7.cell? ⟨w.heap.size+3,1,none⟩=some (.slice U un uc):=B7.cell 1;have zf:=B7.free 1;have zl:=B7.lt))
      all_goals
       go_simp
       go_wp2
       go_roundw
       case rel=>exact⟨k+1,E,A7,un+(v.r.t - v.r.f),c7,by omega,by go_num,Hm1.out.unk_step rfl hs5 Hv1.out hneg (X8.trans (Ext.refl w8).drew) hsl own7 g7 m7⟩
       case measure=>simp[intOf];omega
    . have hnum:=zpx (HLv.out v hvm)
      obtain⟨⟨rn,rw_,rf,ra,rt⟩,vf,vr⟩:=v;simp only at hneg hnum e0 e1 e2 e3 e4 e5 e6
      go_wp2
      refine calm (fun _ _ _ hd h=>⟨hd,h.2⟩) (gReg8 Hm1 hs5 Hv1 (by omega) hnum (by omega) ?_);intro v41 v42 v43 v44 v45 v46 v47 v48 v49 v50 v51 v52 v53 v54 w9 E' hG
      go_wp2
      go_roundw
      case rel=>exact⟨k+1,E',U,un,uc,by omega,by go_num,hG⟩
      case measure=>simp[intOf];omega
  . obtain rfl:k=L.length:=by omega
    have hltI:¬(L.length:Int)<L.length:=by omega
    have t0:wr.cell? ⟨w.heap.size+1,0,none⟩=some (.map none):=hm1.res.cell 0;have t1:wr.cell? ⟨w.heap.size+1,1,none⟩=some (.slice none 0 0):=hm1.res.cell 1;have r0:=hm1.res.free 0;have r1:=hm1.res.free 1;have l2:=hm1.res.lt;have Hm1:=zsp hm1;clear hm1
    go_wp2
    (try simp only[Exit.inBlock,Exit.then])
    have BF:=(Hm1.out.res.set_ 0 (.map (some (w.heap.size+2)))).set_ 1 (.slice U un uc);have EF:Ext w ((wr.setCell ⟨w.heap.size+1,0,none⟩ (.map (some (w.heap.size+2)))).setCell ⟨w.heap.size+1,1,none⟩ (.slice U un uc)):=(Xw.setCell (show w.heap.size<=w.heap.size+1 by omega) _).setCell (show w.heap.size<=w.heap.size+1 by omega) _
    have hS2:Stays (fun b=>b≠w.heap.size+1) wr ((wr.setCell ⟨w.heap.size+1,0,none⟩ (.map (some (w.heap.size+2)))).setCell ⟨w.heap.size+1,1,none⟩ (.slice U un uc)):=
     ((Stays.refl _ wr).set (fun e=>e rfl) _).set (fun e=>e rfl) _
    have hu:=Hm1.out.unL;rw[List.take_length]at hu;subst hu;refine bodyPost_ret (results_cell_row (ty:=148) rfl _ _ (w.heap.size+1) _ _ (0,0) _ rfl BF underlying148 rfl (by kernel_rfl)) rfl ?_;have ou:=Hm1.out.unk.stays hS2 EF (fun b hb e=>(by have:=Hm1.out.unew b hb;omega));rw[List.take_length]at ou;exact⟨w.heap.size+2,E,U,uc,rfl,Hm1.out.map.stays hS2 (by omega),ou.bytes,fun i=>((Hm1.out.own i).stays hS2 EF (fun b hb e=>(by have:=Hm1.out.new i b hb;omega))).reads,fun i=>by rw[Hm1.out.vs,List.take_length],EF⟩
end Go.Proofs.YtlhbllaojjelcaaGreat
