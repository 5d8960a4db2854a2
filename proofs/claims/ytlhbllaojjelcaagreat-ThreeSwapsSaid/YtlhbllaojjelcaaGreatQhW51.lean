/- Contracts of layer 14: tree.Get. -/
import Derived.Test.YtlhbllaojjelcaaGreatQhW23
import Derived.Test.YtlhbllaojjelcaaGreatQhS46

set_option linter.unusedVariables false
set_option maxRecDepth 100000
set_option maxHeartbeats 2000000
namespace Go.Proofs.YtlhbllaojjelcaaGreat
open Go.RowKit Go.Shelf Tryz
variable{w:World}
theorem tGet1{f:ValR}{b:Nat}{x:Int}(hc:w.cell? ⟨b,0,none⟩=some (.int .i64 x)):
 Calls prog 133 #[tvalV f,.pointer (some ⟨b,0,none⟩)] w fun e w'=>e=.returned (.bool (f.number==x))/\Ext w w':=by
 have hb:=World.block_lt_of_cell? w _ hc;simp only at hb;unfold tvalV
 go_enter func133,ntmps133
 go_wp2
 go_ret
 exact⟨rfl,xx⟩
theorem zoB(a b:Value)(w:World):(Instr.field 27 (.agg #[a,b]) 0).run prog w=.ok a w:=by kernel_rfl
def noneV:ValR:=⟨(none,0),(none,0),(none,0),0,[],[],[]⟩
variable{N:Int}
theorem zrh{x:MsgR}(hx:zah w x)(hl:x.vals.length<=1000000000000)(h:idxB (fun v:ValR=>v.number==N) x.vals= -1):
 Calls prog 93 #[treeV x,.int .i64 N] w fun e w'=>e=.returned (.tuple #[tvalV noneV,.bool false])/\Ext w w':=by
 have eg:∀args w,(callFunc 133 args).run prog w=.ok (.enter 133 args) w:=enters_of func133 (by kernel_rfl) rfl;have hidx:=fun W (E:Ext w W)(hc:W.cell? ⟨w.heap.size+1,0,none⟩=some (.int .i64 N))=>zqi (w:=W) (p:=fun v:ValR=>v.number==N) (lb:=#[.pointer (some ⟨w.heap.size+1,0,none⟩)]) eg (hx.vals.ext E) (by omega) (fun W' f hf hE=>tGet1 (hE.of_cell hc))
 rw[h]at hidx;have Hidx:=zsp hidx;clear hidx h eg;unfold treeV tvalV noneV
 go_enter func93,ntmps93
 go_wp2_with fail
 have BX:=((BlkT.new w 27 #[.slice x.a.1 x.vals.length x.a.2,.slice x.b.1 x.unk.length x.b.2] rfl).alloc (.cells #[.int .i64 N] 3)).alloc (.cells #[.int .i64 0,.slice none 0 0,.slice none 0 0,.slice none 0 0] 69);have BN:=(BlkT.new (w.alloc (.cells #[.slice x.a.1 x.vals.length x.a.2,.slice x.b.1 x.unk.length x.b.2] 27)) 3 #[.int .i64 N] (show w.heap.size+1=_ by simp)).alloc (.cells #[.int .i64 0,.slice none 0 0,.slice none 0 0,.slice none 0 0] 69);have BV:=BlkT.new ((w.alloc (.cells #[.slice x.a.1 x.vals.length x.a.2,.slice x.b.1 x.unk.length x.b.2] 27)).alloc (.cells #[.int .i64 N] 3)) 69 #[.int .i64 0,.slice none 0 0,.slice none 0 0,.slice none 0 0] (show w.heap.size+2=_ by simp);have X0:Ext w (((w.alloc (.cells #[.slice x.a.1 x.vals.length x.a.2,.slice x.b.1 x.unk.length x.b.2] 27)).alloc (.cells #[.int .i64 N] 3)).alloc (.cells #[.int .i64 0,.slice none 0 0,.slice none 0 0,.slice none 0 0] 69)):=(((Ext.refl w).alloc _).alloc _).alloc _;have Z0:=X0.size;generalize ((w.alloc (.cells #[.slice x.a.1 x.vals.length x.a.2,.slice x.b.1 x.unk.length x.b.2] 27)).alloc (.cells #[.int .i64 N] 3)).alloc (.cells #[.int .i64 0,.slice none 0 0,.slice none 0 0,.slice none 0 0] 69)=w3 at*;have n0:w3.cell? ⟨w.heap.size+1,0,none⟩=some (.int .i64 N):=BN.cell 0;have nl:=BN.lt;refine(Hidx.out _ X0 n0).mono ?_;rintro e w4 ⟨rfl,E4⟩;have B4:=BV.up E4;have c0:w4.cell? ⟨w.heap.size+2,0,none⟩=some (.int .i64 0):=B4.cell 0;have c1:w4.cell? ⟨w.heap.size+2,1,none⟩=some (.slice none 0 0):=B4.cell 1;have c2:w4.cell? ⟨w.heap.size+2,2,none⟩=some (.slice none 0 0):=B4.cell 2;have c3:w4.cell? ⟨w.heap.size+2,3,none⟩=some (.slice none 0 0):=B4.cell 3;have f0:=B4.free 0;have f1:=B4.free 1;have f2:=B4.free 2;have f3:=B4.free 3;have l4:=B4.lt
 go_wp2
 (try simp only[Exit.inBlock,Exit.then])
 have BF:=(((B4.set_ 0 (.int .i64 0)).set_ 1 (.slice none 0 0)).set_ 2 (.slice none 0 0)).set_ 3 (.slice none 0 0);have h2:w.heap.size<=w.heap.size+2:=by omega
 have EF:=((((X0.trans E4).setCell (p:=⟨w.heap.size+2,0,none⟩) h2 (.int .i64 0)).setCell (p:=⟨w.heap.size+2,1,none⟩) h2 (.slice none 0 0)).setCell (p:=⟨w.heap.size+2,2,none⟩) h2 (.slice none 0 0)).setCell (p:=⟨w.heap.size+2,3,none⟩) h2 (.slice none 0 0);refine bodyPost_ret (zaJ (ty:=69) rfl _ _ (w.heap.size+2) _ _ (0,0) _ rfl BF underlying69 rfl (by kernel_rfl)) rfl ?_;exact⟨rfl,EF⟩
variable{v:ValR}{k:Nat}
theorem zpG{x:MsgR}(hx:zah w x)(hfit:FitT 1000000000000 x)(h:idxB (fun v:ValR=>v.number==N) x.vals=(k:Int))(hv:x.vals[k]?=some v):
 Calls prog 93 #[treeV x,.int .i64 N] w fun e w'=>∃u:ValR,e=.returned (.tuple #[tvalV u,.bool true])/\bareV u=bareV v/\ValAt w' u/\(∀b,UsesV u b->w.heap.size<=b)/\Ext w w':=by
 have eg:∀args w,(callFunc 133 args).run prog w=.ok (.enter 133 args) w:=enters_of func133 (by kernel_rfl) rfl;have hxl:=hfit.vals;have hidx:=fun W (E:Ext w W)(hc:W.cell? ⟨w.heap.size+1,0,none⟩=some (.int .i64 N))=>zqi (w:=W) (p:=fun v:ValR=>v.number==N) (lb:=#[.pointer (some ⟨w.heap.size+1,0,none⟩)]) eg (hx.vals.ext E) (by omega) (fun W' f hf hE=>tGet1 (hE.of_cell hc))
 rw[h]at hidx;have hcp:=fun W (E:Ext w W)=>tCopy x W (hx.up E) hfit
 have hkl:k<x.vals.length:=(List.getElem?_eq_some_iff.1 hv).1;unfold treeV at*;have Hidx:=zsp hidx;have Hcp:=zsp hcp;have Hv:=zsp hv;clear hidx hcp h eg hv
 go_enter func93,ntmps93
 go_wp2_with fail
 have BX:=((BlkT.new w 27 #[.slice x.a.1 x.vals.length x.a.2,.slice x.b.1 x.unk.length x.b.2] rfl).alloc (.cells #[.int .i64 N] 3)).alloc (.cells #[.int .i64 0,.slice none 0 0,.slice none 0 0,.slice none 0 0] 69);have BN:=(BlkT.new (w.alloc (.cells #[.slice x.a.1 x.vals.length x.a.2,.slice x.b.1 x.unk.length x.b.2] 27)) 3 #[.int .i64 N] (show w.heap.size+1=_ by simp)).alloc (.cells #[.int .i64 0,.slice none 0 0,.slice none 0 0,.slice none 0 0] 69);have BV:=BlkT.new ((w.alloc (.cells #[.slice x.a.1 x.vals.length x.a.2,.slice x.b.1 x.unk.length x.b.2] 27)).alloc (.cells #[.int .i64 N] 3)) 69 #[.int .i64 0,.slice none 0 0,.slice none 0 0,.slice none 0 0] (show w.heap.size+2=_ by simp);have X0:Ext w (((w.alloc (.cells #[.slice x.a.1 x.vals.length x.a.2,.slice x.b.1 x.unk.length x.b.2] 27)).alloc (.cells #[.int .i64 N] 3)).alloc (.cells #[.int .i64 0,.slice none 0 0,.slice none 0 0,.slice none 0 0] 69)):=(((Ext.refl w).alloc _).alloc _).alloc _;generalize ((w.alloc (.cells #[.slice x.a.1 x.vals.length x.a.2,.slice x.b.1 x.unk.length x.b.2] 27)).alloc (.cells #[.int .i64 N] 3)).alloc (.cells #[.int .i64 0,.slice none 0 0,.slice none 0 0,.slice none 0 0] 69)=w3 at*;have n0:w3.cell? ⟨w.heap.size+1,0,none⟩=some (.int .i64 N):=BN.cell 0;have nl:=BN.lt;refine(Hidx.out _ X0 n0).mono ?_;rintro e w4 ⟨rfl,E4⟩;have x0:w4.cell? ⟨w.heap.size,0,none⟩=some (.slice x.a.1 x.vals.length x.a.2):=(BX.up E4).cell 0;have x1:w4.cell? ⟨w.heap.size,1,none⟩=some (.slice x.b.1 x.unk.length x.b.2):=(BX.up E4).cell 1;have X4:Ext w w4:=X0.trans E4;have kN:¬((k:Int)<0):=by omega
 go_wp2_with (go_at_call 28;refine(Hcp.out _ X4).mono ?_;rintro e w5 ⟨y,rfl,q1,q2,q3,E5⟩;have hyl:y.vals.map bareV=x.vals.map bareV:=(by rw[zbf,zbf]at q1;injection q1);have hkl2:k<y.vals.length:=(by have:=congrArg List.length hyl;simp only[List.length_map]at this;omega);obtain⟨b6,off6,u,hA6,hu,hb6,e0,e1,e2,e3⟩:=zdO q2.vals hkl2;have kI:(k:Int)<y.vals.length:=(by omega);have hfd:=zoB (.slice (some ⟨b6,off6,none⟩) y.vals.length y.a.2) (.slice y.b.1 y.unk.length y.b.2) w5;have B5:=(BV.up E4).up E5;have f0:=B5.free 0;have f1:=B5.free 1;have f2:=B5.free 2;have f3:=B5.free 3;have l5:=B5.lt;have c0:w5.cell? ⟨w.heap.size+2,0,none⟩=some (.int .i64 0):=B5.cell 0;have c1:w5.cell? ⟨w.heap.size+2,1,none⟩=some (.slice none 0 0):=B5.cell 1;have c2:w5.cell? ⟨w.heap.size+2,2,none⟩=some (.slice none 0 0):=B5.cell 2;have c3:w5.cell? ⟨w.heap.size+2,3,none⟩=some (.slice none 0 0):=B5.cell 3;have Hu:=zsp hu;have Hyl:=zsp hyl;have Hq1:=zsp q1;clear hu hyl q1)
 (try simp only[Exit.inBlock,Exit.then])
 have BF:=(((B5.set_ 0 (.int .i64 u.number)).set_ 1 (.slice u.a.1 u.words.length u.a.2)).set_ 2 (.slice u.b.1 u.texts.length u.b.2)).set_ 3 (.slice u.c.1 u.subs.length u.c.2);have h2:w.heap.size<=w.heap.size+2:=by omega
 have EF:=((((X4.trans E5).setCell (p:=⟨w.heap.size+2,0,none⟩) h2 (.int .i64 u.number)).setCell (p:=⟨w.heap.size+2,1,none⟩) h2 (.slice u.a.1 u.words.length u.a.2)).setCell (p:=⟨w.heap.size+2,2,none⟩) h2 (.slice u.b.1 u.texts.length u.b.2)).setCell (p:=⟨w.heap.size+2,3,none⟩) h2 (.slice u.c.1 u.subs.length u.c.2);have hS2:=((((Stays.refl (fun b=>b≠w.heap.size+2) w5).set (p:=⟨w.heap.size+2,0,none⟩) (fun e=>e rfl) (.int .i64 u.number)).set (p:=⟨w.heap.size+2,1,none⟩) (fun e=>e rfl) (.slice u.a.1 u.words.length u.a.2)).set (p:=⟨w.heap.size+2,2,none⟩) (fun e=>e rfl) (.slice u.b.1 u.texts.length u.b.2)).set (p:=⟨w.heap.size+2,3,none⟩) (fun e=>e rfl) (.slice u.c.1 u.subs.length u.c.2);refine bodyPost_ret (zaJ (ty:=69) rfl _ _ (w.heap.size+2) _ _ (0,0) _ rfl BF underlying69 rfl (by kernel_rfl)) rfl ?_;have hum:=List.mem_of_getElem? Hu.out;have hl4:w.heap.size+2<w4.heap.size:=(BV.up E4).lt;have hub:∀b,UsesV u b->w4.heap.size<=b:=fun b hb=>q3 b (UsesT.of_val hum hb)
 refine⟨u,rfl,?_,(q2.val hum).stays hS2 (fun b hb=>by have:=hub b hb;omega),fun b hb=>by have:=hub b hb;have:=X4.size;omega,EF⟩;have h1:=congrArg (·[k]?) Hyl.out;simp only[List.getElem?_map,Hu.out,Hv.out,Option.map_some]at h1;injection h1
def sideV(v:ValR)(ok:Bool):Value:=.agg #[.int .i64 v.number,.slice v.a.1 v.words.length v.a.2,.slice v.b.1 v.texts.length v.b.2,.slice v.c.1 v.subs.length v.c.2,.bool ok]
def zat(x:Option ValT)(v:ValR)(ok:Bool):Prop:=(ok=true/\x=some (bareV v))\/(ok=false/\x=none/\v=noneV)
theorem zlv(W:World):ValAt W noneV:=
 ⟨⟨by decide,Reads.nil W 1,(fun n h=>by cases h),⟨Reads.nil W 1,(fun n h=>by cases h)⟩,Reads.nil W 2⟩,fun y h=>by cases h⟩
theorem znn{b:Nat}(h:UsesV noneV b):False:=by
 rcases h with(h|h|h)|⟨y,hy,_⟩
 . exact Nat.lt_irrefl 0 h.1
 . exact Nat.lt_irrefl 0 h.1
 . exact Nat.lt_irrefl 0 h.1
 . cases hy
theorem zoC(x:MsgR)(N:Int):sideT (bare x) N=(x.vals.find? fun v=>v.number==N).map bareV:=by
 unfold sideT;rw[zbf];show(x.vals.map bareV).find? _=_;rw[List.find?_map];rfl
theorem tGetS{x:MsgR}(hx:zah w x)(hfit:FitT 1000000000000 x):
 Calls prog 93 #[treeV x,.int .i64 N] w fun e w'=>∃(u:ValR)(ok:Bool),e=.returned (.tuple #[tvalV u,.bool ok])/\zat (sideT (bare x) N) u ok/\ValAt w' u/\(∀b,UsesV u b->w.heap.size<=b)/\Ext w w':=by
 rw[zoC];rcases zaL (fun v:ValR=>v.number==N) x.vals with⟨h,hn⟩|⟨k,v,h,hv,hp,hlt⟩
 . have e:(x.vals.find? fun v=>v.number==N)=none:=List.find?_eq_none.2 (fun v hv=>by rw[hn v hv];decide)
   rw[e];refine(zrh hx hfit.vals h).mono ?_;rintro e2 w' ⟨rfl,E⟩;exact⟨noneV,false,rfl,.inr ⟨rfl,rfl,rfl⟩,zlv _,fun b hb=>(znn hb).elim,E⟩
 . have e:(x.vals.find? fun v=>v.number==N)=some v:=by
    rw[List.find?_eq_some_iff_getElem];obtain⟨hk,hkv⟩:=List.getElem?_eq_some_iff.1 hv;refine⟨hp,k,hk,hkv,fun j hj=> ?_⟩;have:=hlt j _ hj (List.getElem?_eq_getElem (by omega));simp only[Bool.not_eq_true',this]
   rw[e];refine(zpG hx hfit h hv).mono ?_;rintro e2 w' ⟨u,rfl,u1,u2,u3,E⟩;exact⟨u,true,rfl,.inl ⟨rfl,by rw[u1];rfl⟩,u2,u3,E⟩
theorem kOf{x:MsgR}(hx:zah w x)(hfit:FitT 1000000000000 x):
 Calls prog 55 #[treeV x,.int .i64 N] w fun e w'=>∃(u:ValR)(ok:Bool),e=.returned (sideV u ok)/\zat (sideT (bare x) N) u ok/\ValAt w' u/\(∀b,UsesV u b->w.heap.size<=b)/\Ext w w':=by
 have hg:=fun W (E:Ext w W)=>tGetS (N:=N) (hx.up E) hfit
 unfold treeV at*;unfold tvalV at hg;have Hg:=zsp hg;clear hg hx hfit
 go_enter func55,ntmps55
 go_wp2_with fail
 have B4:=BlkT.new (w.alloc (.cells #[.slice x.a.1 x.vals.length x.a.2,.slice x.b.1 x.unk.length x.b.2] 27)) 114 #[.int .i64 0,.slice none 0 0,.slice none 0 0,.slice none 0 0,.bool false] (show w.heap.size+1=_ by simp);have X0:Ext w ((w.alloc (.cells #[.slice x.a.1 x.vals.length x.a.2,.slice x.b.1 x.unk.length x.b.2] 27)).alloc (.cells #[.int .i64 0,.slice none 0 0,.slice none 0 0,.slice none 0 0,.bool false] 114)):=((Ext.refl w).alloc _).alloc _;generalize (w.alloc (.cells #[.slice x.a.1 x.vals.length x.a.2,.slice x.b.1 x.unk.length x.b.2] 27)).alloc (.cells #[.int .i64 0,.slice none 0 0,.slice none 0 0,.slice none 0 0,.bool false] 114)=w3 at*;refine(Hg.out _ X0).mono ?_;rintro e w4 ⟨u,ok,rfl,u1,u2,u3,E4⟩;have B5:=B4.up E4;have X4:=X0.trans E4;have hl4:w.heap.size+1<w3.heap.size:=B4.lt;have g0:w4.cell? ⟨w.heap.size+1,0,none⟩=some (.int .i64 0):=B5.cell 0;have g1:w4.cell? ⟨w.heap.size+1,1,none⟩=some (.slice none 0 0):=B5.cell 1;have g2:w4.cell? ⟨w.heap.size+1,2,none⟩=some (.slice none 0 0):=B5.cell 2;have g3:w4.cell? ⟨w.heap.size+1,3,none⟩=some (.slice none 0 0):=B5.cell 3;have g4:w4.cell? ⟨w.heap.size+1,4,none⟩=some (.bool false):=B5.cell 4;have f0:=B5.free 0;have f1:=B5.free 1;have f2:=B5.free 2;have f3:=B5.free 3;have f4:=B5.free 4;have lb:=B5.lt
 go_wp2
 (try simp only[Exit.inBlock,Exit.then])
 have BF:=(((((B5.set_ 0 (.int .i64 u.number)).set_ 1 (.slice u.a.1 u.words.length u.a.2)).set_ 2 (.slice u.b.1 u.texts.length u.b.2)).set_ 3 (.slice u.c.1 u.subs.length u.c.2)).set_ 4 (.bool ok)).alloc (.cells #[.int .i64 u.number,.slice u.a.1 u.words.length u.a.2,.slice u.b.1 u.texts.length u.b.2,.slice u.c.1 u.subs.length u.c.2] 69);have h2:w.heap.size<=w.heap.size+1:=by omega
 have EF:=(((((X4.setCell (p:=⟨w.heap.size+1,0,none⟩) h2 (.int .i64 u.number)).setCell (p:=⟨w.heap.size+1,1,none⟩) h2 (.slice u.a.1 u.words.length u.a.2)).setCell (p:=⟨w.heap.size+1,2,none⟩) h2 (.slice u.b.1 u.texts.length u.b.2)).setCell (p:=⟨w.heap.size+1,3,none⟩) h2 (.slice u.c.1 u.subs.length u.c.2)).setCell (p:=⟨w.heap.size+1,4,none⟩) h2 (.bool ok)).alloc (.cells #[.int .i64 u.number,.slice u.a.1 u.words.length u.a.2,.slice u.b.1 u.texts.length u.b.2,.slice u.c.1 u.subs.length u.c.2] 69);have hS2:=(((((Stays.refl (fun b=>b≠w.heap.size+1) w4).set (p:=⟨w.heap.size+1,0,none⟩) (fun e=>e rfl) (.int .i64 u.number)).set (p:=⟨w.heap.size+1,1,none⟩) (fun e=>e rfl) (.slice u.a.1 u.words.length u.a.2)).set (p:=⟨w.heap.size+1,2,none⟩) (fun e=>e rfl) (.slice u.b.1 u.texts.length u.b.2)).set (p:=⟨w.heap.size+1,3,none⟩) (fun e=>e rfl) (.slice u.c.1 u.subs.length u.c.2)).set (p:=⟨w.heap.size+1,4,none⟩) (fun e=>e rfl) (.bool ok);refine bodyPost_ret (results_cell_row (ty:=114) rfl _ _ (w.heap.size+1) _ _ (0,0) _ rfl BF underlying114 rfl (by kernel_rfl)) rfl ?_;exact⟨u,ok,rfl,u1,(u2.stays hS2 (fun b hb=>by have:=u3 b hb;omega)).up ((Ext.refl _).alloc _),fun b hb=>by have:=u3 b hb;have:=X0.size;omega,EF⟩
theorem oneAt{W:World}(h:BlkT W k 69 #[.int .i64 v.number,.slice v.a.1 v.words.length v.a.2,.slice v.b.1 v.texts.length v.b.2,.slice v.c.1 v.subs.length v.c.2])(hv:ValAt W v):zah W (.mk (some ⟨k,0,none⟩,1) (none,0) [v] []):=by
 refine zah.of ⟨rfl,Nat.le_refl _,by show 1<=maxLen;unfold maxLen;omega,fun _=>⟨k,0,rfl,h.lt,fun j u hj=> ?_⟩⟩ ⟨⟨rfl,Nat.le_refl _,Nat.zero_le _,fun q=>absurd q (Nat.lt_irrefl 0)⟩,fun t ht=>by cases ht⟩ (fun u hu=> ?_)
 . rw[Nat.zero_add,h.cell]
   have hj:(tvalC v++[])[j]?=some u:=hj;rw[List.append_nil]at hj;simpa[tvalC] using hj
 . rw[List.mem_singleton.1 hu]
   exact hv
variable{ok:Bool}{u:ValR}{x y:Option ValT}
theorem zat.eq(h1:zat x v ok)(h2:zat y u ok):(x=y)=(bareV v=bareV u):=by
 rcases h1 with⟨rfl,rfl⟩|⟨rfl,rfl,rfl⟩
 . rcases h2 with⟨_,rfl⟩|⟨h,_⟩
   . simp
   . cases h
 . rcases h2 with⟨h,_⟩|⟨_,rfl,rfl⟩
   . cases h
   . simp
variable{a b:Bool}
theorem zat.ne(h1:zat x v a)(h2:zat y u b)(h:a≠b):x≠y:=by
 rcases h1 with⟨rfl,rfl⟩|⟨rfl,rfl,rfl⟩
 . rcases h2 with⟨rfl,rfl⟩|⟨rfl,rfl,rfl⟩
   . exact absurd rfl h
   . simp
 . rcases h2 with⟨rfl,rfl⟩|⟨rfl,rfl,rfl⟩
   . simp
   . exact absurd rfl h
theorem kSame(h1:zat x v a)(h2:zat y u b)(hv:ValAt w v)(hu:ValAt w u):
 Calls prog 91 #[sideV v a,sideV u b] w fun e w'=>e=.returned (.bool (eqB (x=y)))/\Ext w w':=by
 by_cases hab:a=b
 . subst hab
   rw[show eqB (x=y)=eqB (bareV v=bareV u)by rw[h1.eq h2]]
   have hs:∀W (k1 k2:Nat),Ext w W->BlkT W k1 69 #[.int .i64 v.number,.slice v.a.1 v.words.length v.a.2,.slice v.b.1 v.texts.length v.b.2,.slice v.c.1 v.subs.length v.c.2]->BlkT W k2 69 #[.int .i64 u.number,.slice u.a.1 u.words.length u.a.2,.slice u.b.1 u.texts.length u.b.2,.slice u.c.1 u.subs.length u.c.2]->Calls prog 131 #[.agg #[.slice (some ⟨k1,0,none⟩) 1 1,.slice none 0 0],.agg #[.slice (some ⟨k2,0,none⟩) 1 1,.slice none 0 0]] W fun e W'=>e=.returned (.bool (eqB (bareV v=bareV u)))/\Ext W W':=fun W k1 k2 E b1 b2=>by
    have:=tSame _ _ W (oneAt b1 (hv.up E)) (oneAt b2 (hu.up E))
    have e:(bare (.mk (some ⟨k1,0,none⟩,1) (none,0) [v] []:MsgR)=bare (.mk (some ⟨k2,0,none⟩,1) (none,0) [u] []:MsgR))=(bareV v=bareV u):=by
     rw[zbf,zbf];show(MsgX.mk () () [bareV v] []=MsgX.mk () () [bareV u] [])=_;simp
    rw[e]at this;exact this
   have Hs:=zsp hs;clear hs h1 h2 hv hu;generalize eqB (bareV v=bareV u)=R at*;unfold sideV;rcases a with _|_
   all_goals
    go_enter func91,ntmps91
    go_wp2_with (go_at_call 131;refine(Hs.out _ _ _ xx ((BlkT.new _ _ _ (by simp[go_sem])).alloc _) (BlkT.new _ _ _ (by simp[go_sem]))).mono ?_;rintro e w1 ⟨rfl,E1⟩;have X1:Ext w w1:=Ext.trans xx E1)
    go_ret
    exact⟨rfl,X1⟩
 . have hx:=h1.ne h2 hab
   rw[show eqB (x=y)=false from zaC hx]
   have hab2:(a==b)=false:=by
    rcases a with _|_<;>rcases b with _|_<;>first|rfl|exact absurd rfl hab
   clear h1 h2 hv hu hx;unfold sideV
   go_enter func91,ntmps91
   go_wp2
   go_ret
   exact⟨rfl,((Ext.refl w).alloc _).alloc _⟩
theorem kSub(h:zat x v ok)(hv:ValAt w v)(hs:ok=true->0<v.subs.length):
 Calls prog 92 #[sideV v ok] w fun e w'=>∃y:MsgR,e=.returned (treeV y)/\bare y=subT x/\zah w' y/\(∀q,UsesT y q->UsesV v q)/\Ext w w':=by
 rcases h with⟨rfl,rfl⟩|⟨rfl,rfl,rfl⟩
 . obtain⟨b,off,y,hA,hy,hb,c0,c1⟩:=zdw hv.own.subs (hs rfl)
   have hy0:subT (some (bareV v))=bare y:=by
    show((v.subs.map bare).head?).getD _=_;rw[List.head?_eq_getElem?,List.getElem?_map,hy];rfl
   have hyt:=hv.sub y (List.mem_of_getElem? hy);have hl:=hs rfl;have hus:∀q,UsesT y q->UsesV v q:=fun q hq=>.inr ⟨y,List.mem_of_getElem? hy,hq⟩
   have Hus:=zsp hus;clear hus;rw[hy0];have hlI:(0:Int)<v.subs.length:=by omega
   obtain⟨vn,va,vb,vc,hV⟩:∃vn va vb vc,sideV v true=.agg #[vn,va,vb,vc,.bool true]:=⟨_,_,_,_,rfl⟩
   have hvc:vc=.slice (some ⟨b,off,none⟩) v.subs.length v.c.2:=by
    unfold sideV at hV;rw[hA]at hV;injection hV with hV;injection hV with hV;simp only[List.cons.injEq]at hV;exact hV.2.2.2.1.symm
   rw[hV,hvc];simp only[Nat.zero_mul,Nat.add_zero]at c0 c1;have Hyt:=zsp hyt;clear hy0 hyt hv hs hV hvc hy hA
   go_enter func92,ntmps92
   go_wp2
   (try simp only[Exit.inBlock,Exit.then])
   have BF:=BlkT.new (w.alloc (.cells #[vn,va,vb,.slice (some ⟨b,off,none⟩) v.subs.length v.c.2,.bool true] 114)) 27 #[.slice y.a.1 y.vals.length y.a.2,.slice y.b.1 y.unk.length y.b.2] (show w.heap.size+1=_ by simp);refine bodyPost_ret (results_cell_row (ty:=27) rfl _ _ (w.heap.size+1) _ _ (0,0) _ rfl BF underlying27 rfl (by kernel_rfl)) rfl ?_;exact⟨y,rfl,rfl,Hyt.out.up (((Ext.refl w).alloc _).alloc _),Hus.out,((Ext.refl w).alloc _).alloc _⟩
 . unfold sideV
   go_enter func92,ntmps92
   go_wp2
   (try simp only[Exit.inBlock,Exit.then])
   have BF:=BlkT.new (w.alloc (.cells #[.int .i64 noneV.number,.slice noneV.a.1 noneV.words.length noneV.a.2,.slice noneV.b.1 noneV.texts.length noneV.b.2,.slice noneV.c.1 noneV.subs.length noneV.c.2,.bool false] 114)) 27 #[.slice none 0 0,.slice none 0 0] (show w.heap.size+1=_ by simp);refine bodyPost_ret (results_cell_row (ty:=27) rfl _ _ (w.heap.size+1) _ _ (0,0) _ rfl BF underlying27 rfl (by kernel_rfl)) rfl ?_;exact⟨.mk (none,0) (none,0) [] [],rfl,zki,zhr _,fun q hq=>(zkj hq).elim,((Ext.refl w).alloc _).alloc _⟩
end Go.Proofs.YtlhbllaojjelcaaGreat
