/- Contracts of layer 14: what bytes mean. -/
import Derived.Test.YtlhbllaojjelcaaGreatQhW14vS
import Derived.StillTailTactics

set_option linter.unusedVariables false
set_option maxRecDepth 100000
set_option maxHeartbeats 4000000
namespace Go.Proofs.YtlhbllaojjelcaaGreat
open Go.RowKit Go.Shelf Tryz
variable{w0 w:World}{sub:Nat->List UInt8->MsgT}{S:List MsgV}{d:Nat}
theorem zrO(ih:OfP S d sub){p:zaP}{SA:Option Addr}{sn sc:Nat}(hp:zbo w0 w p)(hS:zaj w0 SA sn sc S)(hlen:∀x∈zas p.f (p.vs.map BRow.bs),x.length<d)(hw:p.ws.length<=1000000)(hs:p.vs.length<=1000000)(hj:(p.vs.map BRow.bs).flatten.length<=1000000)(hof:p.f.kind=17->∃m:Nat,p.f.of_=(m:Int)/\m<S.length):
 Calls prog 139 #[ptrP p,.slice SA sn sc] w fun e w'=>∃u:ValR,e=.returned (.tuple #[tvalV u,.bool (decide ((0:Int)<(manyU u:Nat)))])/\bareV u=zaM sub p.f p.ws (p.vs.map BRow.bs)/\ValAt w' u/\(∀b,UsesV u b->Foot p b\/w.heap.size<=b)/\Stays (fun b=>¬Foot p b) w w'/\Ext w0 w':=by
 by_cases hk:p.f.kind=17
 . obtain⟨m,h1,h2⟩:=hof hk
   exact zqR ih hp hS hlen hw hs hj hk h1 h2
 . exact zqS ih hp hS hlen hw hs hj hk
theorem zoh:Elem prog 24 69 4 80:=Elem.mk' (z:=.agg #[.int .i64 0,.slice none 0 0,.slice none 0 0,.slice none 0 0]) underlying24 (by kernel_rfl) rfl (by omega)
theorem zqa{x:Int}(h: -9223372036854775808<=x/\x<=9223372036854775807):(Lit.int .i64 x).wf=true:=by
 simp[Lit.wf,IntKind.min,IntKind.max,IntKind.signed,IntKind.bits];omega
theorem zqQ(u:World):(zeroValue 220).run prog u=.ok (.pointer none) u:=by kernel_rfl
variable{i bm:Nat}{E:Nat->Option zaP}
theorem MetAt.look(h:MetAt w bm E)(hi:i<1000000):
 (Instr.lookup 218 (.map (some bm)) (.int .i64 (i:Int)) false).run prog w=.ok (((E i).map ptrP).getD (.pointer none)) w:=by
 obtain⟨M,h1,h2⟩:=h;have:=(h1.look (P:=prog) (t:=218) (zgE underlying3) underlying218 zqQ (x:=(i:Int)) (zqa (by omega))).1;rw[h2]at this;exact this
theorem MetAt.insert(h:MetAt w bm E)(hi:i<1000000)(p:zaP):
 ∃w',(Instr.mapUpdate 218 (.map (some bm)) (.int .i64 (i:Int)) (ptrP p)).run prog w=.ok () w'/\MetAt w' bm (fun j=>if j=i then some p else E j)/\w.grownBy w' (some bm):=by
 obtain⟨M,h1,h2⟩:=h;obtain⟨w',r1,r2,r3⟩:=h1.put (P:=prog) (t:=218) (zgE underlying3) underlying218 (x:=(i:Int)) (zqa (by omega)) (ptrP p);refine⟨w',r1,⟨_,r2,fun j=> ?_⟩,r3⟩;by_cases hj:j=i
 . subst hj
   rw[zch];simp
 . rw[zdt (by omega),h2]
   simp[hj]
structure Met1(w w5 wr:World)(bm:Nat)(fs:List zaa)(bs:List UInt8)(L:List ViewD)(nm:ByteArray)(MA:Option Addr)(Mn Mc k:Nat)(E:Nat->Option zaP)(U:Option Addr)(un uc:Nat):Prop where
 res:BlkT wr w.heap.size 27 #[.slice none 0 0,.slice none 0 0]
 x:BlkT wr (w.heap.size+1) 27 #[.slice none 0 0,.slice U un uc]
 m:BlkT wr (w.heap.size+2) 64 #[.string nm,.slice MA Mn Mc]
 unk:Own w wr 9 1 U un uc ((unkO bs (L.take k)).map strV)
 unL:un=(unkO bs (L.take k)).length
 met:MetAt wr bm E
 held:Held w wr w5.heap.size fs bs (zaf (L.take k)) E (fun _=>True)
 stays:Stays (fun b=>b≠w.heap.size+1/\b≠bm/\b<w5.heap.size) w5 wr
 unew:∀b,(Value.slice U 0 0).ownBlock=some b->w5.heap.size<=b
theorem MetAt.not_row{e:TypeId}{size n c:Nat}{A:Option Addr}{xs:List Value}(h:MetAt w bm E)(o:Own w0 w e size A n c xs):(Value.slice A 0 0).ownBlock≠some bm:=by
 intro hb;obtain⟨cur,hc⟩:=o.typed hb;obtain⟨M,⟨es,cl,hh,_⟩,_⟩:=h;rw[hh]at hc;injection hc with hc;cases hc
section
variable {w w5 wr:World} {bm:Nat} {fs:List zaa} {bs:List UInt8} {L:List ViewD} {nm:ByteArray} {MA:Option Addr} {Mn Mc k:Nat} {E:Nat->Option zaP} {U:Option Addr} {un uc:Nat} {v:ViewD}
theorem Met1.unk_step(h:Met1 w w5 wr bm fs bs L nm MA Mn Mc k E U un uc)(hbm:w.heap.size+3<=bm)(hw5:w5.heap.size=bm+1)(hv:L[k]?=some v)(hneg:v.field<0){w6 w7:World}(X6:Ext wr w6){ob:Obj}{A7:Option Addr}{c7:Nat}(own7:Own w w7 9 1 A7 (un+1) c7 ((unkO bs (L.take k)).map strV++[.string ⟨(spanB bs v.r.f v.r.t).toArray⟩]))(g7:(w6.alloc ob).grownBy w7 (Value.slice U un uc).ownBlock)(m7:Moved (w6.alloc ob) U A7):
 Met1 w w5 (w7.setCell ⟨w.heap.size+1,1,none⟩ (.slice A7 (un+1) c7)) bm fs bs L nm MA Mn Mc (k+1) E A7 (un+1) c7:=by
 have hX:Ext wr (w6.alloc ob):=X6.alloc ob;have hu:=h.unk.up hX;have B7:=(h.x.up hX).beside hu (by decide) g7;have hne1:w.heap.size+1≠w.heap.size:=by omega
 have hne2:w.heap.size+1≠w.heap.size+2:=by omega
 have hS:Stays (fun b=>(Value.slice U 0 0).ownBlock≠some b/\b≠w.heap.size+1) wr (w7.setCell ⟨w.heap.size+1,1,none⟩ (.slice A7 (un+1) c7)):=
  ((Stays.of_ext hX).trans (Stays.grown g7 (fun b hb q=>q.1 (by rw[zak U un uc 0 0]at hb;exact hb)))).set (fun q=>q.2 rfl) _
 have hV:zaf (L.take (k+1))=zaf (L.take k):=funext fun i=>zew hv (by omega)
 have hfar:=own7.far B7 (by decide) (show w.heap.size<=w.heap.size+1 by omega) 1 (.slice A7 (un+1) c7);refine⟨((h.res.up hX).beside hu (by decide) g7).set_far 1 hne1 _,B7.set_ 1 _,((h.m.up hX).beside hu (by decide) g7).set_far 1 hne2 _,?_,?_,h.met.stays hS ⟨h.met.not_row h.unk,by omega⟩,?_,?_,fun b hb=> ?_⟩
 . rw[zlG hv hneg,List.map_append]
   exact hfar
 . rw[zlG hv hneg,List.length_append,<-h.unL]
   rfl
 . rw[hV]
   refine h.held.stays hS hfar.ext (fun i p hi hp b hb=>⟨(h.held.each i p hi hp).1.other hb h.unk (by decide) (by decide) (by decide),?_⟩);have:=h.held.new i p hi hp b hb;omega
 . refine((h.stays.trans (Stays.of_ext hX)).trans (Stays.grown g7 (fun b hb q=> ?_))).set (fun q=>q.1 rfl) _
   rw[zak U un uc 0 0]at hb;have:=h.unew b hb;omega
 . rcases m7 with q|q
   . rw[q]at hb
     exact h.unew b hb
   . rw[q]at hb
     injection hb with hb;rw[<-hb];exact Nat.le_trans h.stays.size hX.size
theorem Met1.small(h:Met1 w w5 wr bm fs bs L nm MA Mn Mc k E U un uc)(i:Nat)(p:zaP)(hE:E i=some p){P C:Nat}(hL:zac fs bs=(L,P,C)):p.ws.length<=bs.length/\p.vs.length<=bs.length/\(p.vs.map BRow.bs).flatten.length<=bs.length:=by
 obtain⟨q1,q2,q3,q4⟩:=h.held.each i p trivial hE
 have hw:zaG (zaf (L.take k) i)<=bs.length:=by
  have h1:=zdn fs bs;rw[hL]at h1;exact Nat.le_trans (zey _ i) (Nat.le_trans (zea L k) h1)
 have hv:∀v∈zaf (L.take k) i,v.r.t<=bs.length:=fun v hv=>by
  have hm:v∈(zac fs bs).1:=by rw[hL];exact List.mem_of_mem_take (List.mem_filter.1 hv).1
  exact(zcv hm).2.2
 have h1:=zdo p.f bs _ hv;have h2:=(zdD p.f bs _ hv).1;have hl:p.vs.length=(p.vs.map BRow.bs).length:=by rw[List.length_map]
 rw[<-q3]at h1;rw[<-q4]at h2;omega
theorem Met1.up(h:Met1 w w5 wr bm fs bs L nm MA Mn Mc k E U un uc){w':World}(X:Ext wr w'):Met1 w w5 w' bm fs bs L nm MA Mn Mc k E U un uc:=
 ⟨h.res.up X,h.x.up X,h.m.up X,h.unk.up X,h.unL,h.met.stays (s:=fun _=>True) (Stays.of_ext X) trivial,h.held.stays (s:=fun _=>True) (Stays.of_ext X) (h.unk.ext.trans X) (fun _ _ _ _ _ _=>trivial),h.stays.trans (Stays.of_ext X),h.unew⟩
theorem Met1.new_step(h:Met1 w w5 wr bm fs bs L nm MA Mn Mc k E U un uc)(hbm:w.heap.size+3<=bm)(hw5:w5.heap.size=bm+1){i:Nat}(hi:i<1000000)(hE:E i=none)(hV:zaf (L.take k) i=[]){f:zaa}(hf:fs[i]?=some f)(hok:f.Ok){W:World}{b8:Nat}(X:Ext wr W)(BP:BlkT W b8 222 #[.string f.name,.int .i64 f.number,.int .i64 f.kind,.bool f.rep,.bool f.packed,.int .i64 f.of_,.slice none 0 0,.slice none 0 0])(hb8:wr.heap.size<=b8):
 ∃w7,(Instr.mapUpdate 218 (.map (some bm)) (.int .i64 (i:Int)) (.pointer (some ⟨b8,0,none⟩))).run prog W=.ok () w7/\
  Met1 w w5 w7 bm fs bs L nm MA Mn Mc k (fun j=>if j=i then some ⟨b8,f,none,0,[],none,0,[]⟩else E j) U un uc/\Stays (fun b=>b≠bm) W w7:=by
 have hu:=h.up X;obtain⟨w7,r7,K7,g7⟩:=hu.met.insert hi ⟨b8,f,none,0,[],none,0,[]⟩;have hS:Stays (fun b=>b≠bm) W w7:=Stays.grown g7 (fun b hb q=>q (by injection hb with hb;exact hb.symm));have hlt:=h.met.lt;have hxw:Ext w w7:=(h.unk.ext.trans X).into g7 (by omega);have hrl:=h.res.lt;refine⟨w7,r7,⟨hu.res.stays hS (by omega),hu.x.stays hS (by omega),hu.m.stays hS (by omega),hu.unk.stays hS hxw (fun b hb e=> ?_),h.unL,K7,?_,?_,h.unew⟩,hS⟩
 . have:=h.unew b hb
   omega
 . refine h.held.put (s:=fun b=>b≠bm) ((Stays.of_ext X).trans hS) (fun j p hj hne hp b hb=> ?_) ⟨BP.stays hS (by show b8≠bm;omega),(by show w.heap.size<=b8;omega),Own.nil hxw _ _,(fun x hx=>by cases hx),Own.nil hxw _ _,(fun x hx=>by cases hx),hok⟩ hxw hf (by rw[hV];rfl) (by rw[hV];rfl) (fun _ _=>rfl) trivial (fun b hb=> ?_) ?_
   . have:=h.held.new j p hj hp b hb
     omega
   . rcases hb with hb|hb|hb
     . refine .inr ?_
       have hb:b=b8:=hb;omega
     . cases hb
     . cases hb
   . exact h.stays.size
 . refine⟨Nat.le_trans hu.stays.size hS.size,fun b hb hlt=> ?_⟩
   rw[hS.block b hb.2.1 (Nat.lt_of_lt_of_le hlt hu.stays.size),hu.stays.block b hb hlt]
theorem Met1.add_step(h:Met1 w w5 wr bm fs bs L nm MA Mn Mc k E U un uc)(hbm:w.heap.size+3<=bm)(hw5:w5.heap.size=bm+1)(hv:L[k]?=some v){i:Nat}(hvi:v.field=(i:Int)){p p':zaP}(hE:E i=some p){w9:World}(G:Grew w wr w9 p p')(hws:p'.ws=p.ws++zhn p.f v.run (zal bs v))(hvs:p'.vs.map BRow.bs=p.vs.map BRow.bs++zfc p.f v.run (zal bs v)):
 Met1 w w5 w9 bm fs bs L nm MA Mn Mc (k+1) (fun j=>if j=i then some p' else E j) U un uc:=by
 have hf:=h.held.new i p trivial hE;have hS:=G.stays;have hx:=G.at_.words.ext;obtain⟨q1,q2,q3,q4⟩:=h.held.each i p trivial hE;have hno:¬v.field<0:=by omega
 refine⟨h.res.stays hS (fun q=> ?_),h.x.stays hS (fun q=> ?_),h.m.stays hS (fun q=> ?_),?_,?_,(h.met.stays hS (fun q=> ?_)).put hE G.b,?_,⟨Nat.le_trans h.stays.size hS.size,fun b hb hlt=> ?_⟩,h.unew⟩
 . have:=hf _ q
   omega
 . have:=hf _ q
   omega
 . have:=hf _ q
   omega
 . rw[zny hv hno]
   exact h.unk.stays hS hx (fun b hb q=>q1.other q h.unk (by decide) (by decide) (by decide) hb)
 . rw[zny hv hno]
   exact h.unL
 . have:=hf _ q
   omega
 . refine h.held.put hS (fun j p2 hj hne hp b hb q=>h.held.apart j i p2 p hj trivial hne hp hE b hb q) G.at_ hx (by rw[G.f];exact q2) ?_ ?_ (fun j hj=>zew hv (fun e=>hj (by omega))) trivial (fun b hb=> ?_) h.stays.size
   . rw[hws,zeS hv hvi,List.flatMap_append,G.f,q3,List.flatMap_singleton]
     rfl
   . rw[hvs,zeS hv hvi,List.flatMap_append,G.f,q4,List.flatMap_singleton]
     rfl
   . rcases G.foot b hb with h1|h1
     . exact .inl ⟨p,hE,h1⟩
     . exact .inr h1
 . rw[hS.block b (fun q=>(by have:=hf _ q;omega)) (Nat.lt_of_lt_of_le hlt h.stays.size),h.stays.block b hb hlt]
end
def Feet(E:Nat->Option zaP)(b:Nat):Prop:=∃i p,E i=some p/\Foot p b
def Yet(order:List Nat)(j i:Nat):Prop:=∃q,j<=q/\order[q]?=some i
variable{j:Nat}{order:List Nat}
theorem Yet.less(h:Yet order (j+1) i):Yet order j i:=by
 obtain⟨q,h1,h2⟩:=h;exact⟨q,by omega,h2⟩
theorem Yet.here(h:order[j]?=some i):Yet order j i:=⟨j,Nat.le_refl _,h⟩
theorem Yet.ne(hn:order.Nodup){i':Nat}(h:order[j]?=some i)(h':Yet order (j+1) i'):i'≠i:=by
 obtain⟨q,h1,h2⟩:=h';rintro rfl;obtain⟨a1,a2⟩:=List.getElem?_eq_some_iff.1 h;obtain⟨b1,b2⟩:=List.getElem?_eq_some_iff.1 h2;exact List.pairwise_iff_getElem.1 hn j q a1 b1 (by omega) (a2.trans b2.symm)
structure Met2(w w6 wq:World)(base:Nat)(fs:List zaa)(bs:List UInt8)(L:List ViewD)(E:Nat->Option zaP)(order:List Nat)(U:Option Addr)(un uc j:Nat)(V:Option Addr)(vn vc:Nat)(ys:List ValR):Prop where
 x:BlkT wq (w.heap.size+1) 27 #[.slice V vn vc,.slice U un uc]
 own:Own w wq 69 4 V vn vc (ys.flatMap tvalC)
 vnL:vn=ys.length
 vnew:∀b,(Value.slice V 0 0).ownBlock=some b->w6.heap.size<=b
 held:Held w wq base fs bs (zaf L) E (Yet order j)
 stays:Stays (fun b=>¬Feet E b/\b≠w.heap.size+1/\b<w6.heap.size) w6 wq
 at_:∀y∈ys,ValAt wq y
 away:∀y∈ys,∀b,UsesV y b->base<=b/\(Value.slice V 0 0).ownBlock≠some b/\∀i p,Yet order j i->E i=some p->¬Foot p b
section
variable {w w6 wq wz:World} {base:Nat} {fs:List zaa} {bs:List UInt8} {L:List ViewD} {E:Nat->Option zaP} {order:List Nat} {U:Option Addr} {un uc j:Nat} {V:Option Addr} {vn vc:Nat} {ys:List ValR}
theorem Met2.next(h:Met2 w w6 wq base fs bs L E order U un uc j V vn vc ys):Met2 w w6 wq base fs bs L E order U un uc (j+1) V vn vc ys:=
 ⟨h.x,h.own,h.vnL,h.vnew,h.held.less (fun i hi=>hi.less),h.stays,h.at_,fun y hy b hb=>⟨(h.away y hy b hb).1,(h.away y hy b hb).2.1,fun i p hi=>(h.away y hy b hb).2.2 i p hi.less⟩⟩
theorem Met2.up(h:Met2 w w6 wq base fs bs L E order U un uc j V vn vc ys)(X:Ext wq wz):Met2 w w6 wz base fs bs L E order U un uc j V vn vc ys:=
 ⟨h.x.up X,h.own.up X,h.vnL,h.vnew,h.held.stays (s:=fun _=>True) (Stays.of_ext X) (h.own.ext.trans X) (fun _ _ _ _ _ _=>trivial),h.stays.trans (Stays.of_ext X),fun y hy=>(h.at_ y hy).up X,h.away⟩
theorem Met2.told(h:Met2 w w6 wq base fs bs L E order U un uc j V vn vc ys)(hn:order.Nodup)(hb:w.heap.size+1<base)(hf6:∀b,Feet E b->b<w6.heap.size){i:Nat}(hi:order[j]?=some i){p:zaP}(hp:E i=some p)(hS:Stays (fun b=>¬Foot p b) wq wz)(hX:Ext w wz):
 Met2 w w6 wz base fs bs L E order U un uc (j+1) V vn vc ys:=by
 have hF:∀b,Foot p b->Feet E b:=fun b hb=>⟨i,p,hp,hb⟩
 have hnew:=h.held.new i p (Yet.here hi) hp
 have hrow:∀b,(Value.slice V 0 0).ownBlock=some b->¬Foot p b:=fun b hb q=>by
  have:=h.vnew b hb;have:=hf6 b (hF b q);omega
 refine⟨h.x.stays hS (fun q=> ?_),h.own.stays hS hX hrow,h.vnL,h.vnew,(h.held.less (fun i hi=>hi.less)).stays hS hX (fun i' p' hi' hp' b hb q=> ?_),h.stays.trans (hS.less (fun b q r=>q.1 (hF b r))),fun y hy=>(h.at_ y hy).stays hS (fun b hb=>(h.away y hy b hb).2.2 i p (Yet.here hi) hp),h.next.away⟩
 . have:=hnew _ q
   omega
 . exact h.held.apart i' i p' p hi'.less (Yet.here hi) (Yet.ne hn hi hi') hp' hp b hb q
theorem Met2.put(h:Met2 w w6 wq base fs bs L E order U un uc j V vn vc ys)(hb:w.heap.size+1<base)(h6:base<=w6.heap.size){u:ValR}(hu:ValAt wq u)(ha:∀b,UsesV u b->base<=b/\(Value.slice V 0 0).ownBlock≠some b/\∀i p,Yet order j i->E i=some p->¬Foot p b){ob:Obj}{V7:Option Addr}{c7:Nat}{w7:World}(own7:Own w w7 69 4 V7 (vn+1) c7 (ys.flatMap tvalC++tvalC u))(g7:(wq.alloc ob).grownBy w7 (Value.slice V vn vc).ownBlock)(m7:Moved (wq.alloc ob) V V7):
 Met2 w w6 (w7.setCell ⟨w.heap.size+1,0,none⟩ (.slice V7 (vn+1) c7)) base fs bs L E order U un uc j V7 (vn+1) c7 (ys++[u]):=by
 have X0:Ext wq (wq.alloc ob):=(Ext.refl wq).alloc ob;have hxu:=h.own.up X0;have hB:=(h.x.up X0).beside hxu (by decide) g7;have hlt:=h.stays.size
 have hS:Stays (fun b=>(Value.slice V 0 0).ownBlock≠some b/\b≠w.heap.size+1) wq (w7.setCell ⟨w.heap.size+1,0,none⟩ (.slice V7 (vn+1) c7)):=
  ((Stays.of_ext X0).trans (Stays.grown g7 (fun b hb q=>q.1 (by rw[zak V vn vc 0 0]at hb;exact hb)))).set (fun q=>q.2 rfl) _
 have hsz:wq.heap.size<(wq.alloc ob).heap.size:=by simp
 have hfar:=own7.far hB (by decide) (show w.heap.size<=w.heap.size+1 by omega) 0 (.slice V7 (vn+1) c7)
 have hnr:∀b,b<wq.heap.size->(Value.slice V 0 0).ownBlock≠some b->(Value.slice V7 0 0).ownBlock≠some b:=by
  intro b hb h0;rcases m7 with q|q
  . rw[q];exact h0
  . rw[q]
    intro r;injection r with r;omega
 have hall:∀y∈ys++[u],ValAt wq y/\∀b,UsesV y b->base<=b/\(Value.slice V 0 0).ownBlock≠some b/\∀i p,Yet order j i->E i=some p->¬Foot p b:=by
  intro y hy;rcases List.mem_append.1 hy with hy|hy
  . exact⟨h.at_ y hy,h.away y hy⟩
  . rw[List.mem_singleton]at hy
    subst hy;exact⟨hu,ha⟩
 refine⟨hB.set_ 0 _,?_,?_,fun b hb=> ?_,h.held.stays hS hfar.ext (fun i p hi hp b hb=>⟨fun q=> ?_,?_⟩),?_,fun y hy=>(hall y hy).1.stays hS (fun b hb=> ?_),fun y hy b hb=> ?_⟩
 . rw[List.flatMap_append]
   simpa using hfar
 . rw[List.length_append,<-h.vnL]
   rfl
 . rcases m7 with q|q
   . rw[q]at hb
     exact h.vnew b hb
   . rw[q]at hb
     injection hb with hb;omega
 . exact(h.held.each i p hi hp).1.other hb h.own (by decide) (by decide) (by decide) q
 . have:=h.held.new i p hi hp b hb
   omega
 . refine⟨Nat.le_trans hlt hS.size,fun b hb hlt2=> ?_⟩
   rw[hS.block b ⟨fun q=> ?_,hb.2.1⟩ (by omega),h.stays.block b hb hlt2];have:=h.vnew b q;omega
 . have:=(hall y hy).2 b hb
   exact⟨this.2.1,by omega⟩
 . have:=(hall y hy).2 b hb
   exact⟨this.1,hnr b ((hall y hy).1.lt hb) this.2.1,this.2.2⟩
theorem Met2.fresh(h:Met2 w w6 wq base fs bs L E order U un uc j V vn vc ys)(hn:order.Nodup)(hf6:∀b,Feet E b->b<w6.heap.size)(h6:base<=w6.heap.size){i:Nat}(hi:order[j]?=some i){p:zaP}(hp:E i=some p){u:ValR}(hu:∀b,UsesV u b->Foot p b\/wq.heap.size<=b):
 ∀b,UsesV u b->base<=b/\(Value.slice V 0 0).ownBlock≠some b/\∀i' p',Yet order (j+1) i'->E i'=some p'->¬Foot p' b:=by
 intro b hb;have hs:=h.stays.size;rcases hu b hb with q|q
 . have h1:=h.held.new i p (Yet.here hi) hp b q
   have h2:=hf6 b ⟨i,p,hp,q⟩;refine⟨h1,fun r=> ?_,fun i' p' hi' hp' r=> ?_⟩
   . have:=h.vnew b r
     omega
   . exact h.held.apart i' i p' p hi'.less (Yet.here hi) (Yet.ne hn hi hi') hp' hp b r q
 . refine⟨by omega,fun r=> ?_,fun i' p' hi' hp' r=> ?_⟩
   . have:=(h.own.new_lt r).2
     omega
   . have:=hf6 b ⟨i',p',hp',r⟩
     omega
theorem Met2.call(h:Met2 w w6 wq base fs bs L E order U un uc j V vn vc ys){S:List MsgV}{d:Nat}{sub:Nat->List UInt8->MsgT}(ih:OfP S d sub){SA:Option Addr}{sn sc:Nat}(hS:zaj w SA sn sc S){i:Nat}(hi:order[j]?=some i){p:zaP}(hp:E i=some p)(hf:∀f∈fs,f.kind=17->∃m:Nat,f.of_=(m:Int)/\m<S.length)(hL:L=(zac fs bs).1)(hd:bs.length<=d)(hd2:bs.length<=1000000)(hne:zaf L i≠ []):
 Calls prog 139 #[ptrP p,.slice SA sn sc] wq fun e w'=>∃u:ValR,e=.returned (.tuple #[tvalV u,.bool (decide ((0:Int)<(manyU u:Nat)))])/\
  (if manyU u=0 then none else some (bareV u))=zcl sub fs bs L i/\ValAt w' u/\(∀b,UsesV u b->Foot p b\/wq.heap.size<=b)/\Stays (fun b=>¬Foot p b) wq w'/\Ext w w':=by
 obtain⟨q1,q2,q3,q4⟩:=h.held.each i p (Yet.here hi) hp;have hm:∀v∈zaf L i,v∈(zac fs bs).1:=fun v hv=>by rw[<-hL];exact(List.mem_filter.1 hv).1
 have hb:∀v∈zaf L i,v.r.a<=v.r.t/\v.r.t<=bs.length:=fun v hv=>(by have:=zcv (hm v hv);omega)
 have hw:zaG (zaf L i)<=bs.length:=by
  have h1:=zdn fs bs;rw[<-hL]at h1;exact Nat.le_trans (zey _ i) h1
 have h1:=zdo p.f bs _ (fun v hv=>(hb v hv).2);have h2:=(zdD p.f bs _ (fun v hv=>(hb v hv).2)).1;have hl:p.vs.length=(p.vs.map BRow.bs).length:=by rw[List.length_map]
 rw[<-q3]at h1;rw[<-q4]at h2
 have h17:p.f.kind=17->∀v∈zaf L i,v.run=false:=by
  intro hk v hv;rcases zho (hm v hv)with e|⟨k,f,e1,e2,e3⟩
  . have:=(List.mem_filter.1 hv).2
    simp only[beq_iff_eq]at this;omega
  . have:=(List.mem_filter.1 hv).2
    simp only[beq_iff_eq]at this;have hki:k=i:=by omega
    subst hki;rw[q2]at e2;cases e2;rcases e3 with⟨_,_,e3⟩|⟨e3,_⟩
    . rw[hk]at e3
      exact absurd e3 (by decide)
    . exact e3
 have hlen:∀x∈zas p.f (p.vs.map BRow.bs),x.length<d:=by
  intro x hx;rw[q4,zdE]at hx;have:=zke hne hb hw h17 hx;omega
 refine(zrO ih q1 hS hlen (by omega) (by omega) (by omega) (hf p.f (List.mem_of_getElem? q2))).mono ?_;rintro e w' ⟨u,h1,h2,h3,h4,h5,h6⟩;refine⟨u,h1,?_,h3,h4,h5,h6⟩;have hmu:=zmY u;unfold zcl;rw[q2];simp only;rw[if_neg hne,zez,<-q3,<-q4,<-h2,hmu]
end
theorem oStep(hR:zan (S.map MsgV.d)=true)(hd:d<=100000)(ih:OfP S d sub):OfP S (d+1) (ofM sub (S.map MsgV.d)):=by
 intro w SA sn sc m A n c bs hS hm hb hn;have hSl:=hS.length;have hbl:=hb.length;obtain⟨b1,off1,M,hSA,hM,hf,hnm,hb1,s0,s1⟩:=hS.msg (k:=m) (by omega);subst hSA;have hMd:(S.map MsgV.d)[m]?=some M.d:=by rw[List.getElem?_map,hM];rfl
 have hMr:=zbk hR hMd;have hfl:M.d.fields.length=M.n:=hf.length;rcases hv:zac M.d.fields bs with⟨L,P,C⟩
 have hLn:L.length<=bs.length:=by have:=(zhd M.d.fields bs).2.1;rw[hv]at this;exact this
 have hLv:∀v∈L,v∈(zac M.d.fields bs).1:=fun v h=>by rw[hv];exact h
 have hva:=fun W (h1:zax W M.A M.n M.c M.d.fields)(h2:zab W A n c bs)=>vAllV (s:=M.d.name) h1 (by omega) h2 (by omega) hv
 have hof:∀f∈M.d.fields,f.kind=17->∃m:Nat,f.of_=(m:Int)/\m<S.length:=fun f hfm hk=>by
  obtain⟨i,hi⟩:=List.getElem?_of_mem hfm;obtain⟨o,h1,h2⟩:=zcj hR hMd hi hk;exact⟨o,h1,by simpa using h2⟩
 have Hof:=zsp hof;have Hva:=zsp hva;have Hf:=zsp hf;have HS:=zsp hS;have Hb:=zsp hb;have Ih:=zsp ih;have HLv:=zsp hLv;have Hv:=zsp hv;have HMr:=zsp hMr;have HMd:=zsp hMd;clear hva ih hLv hv hMr hMd hM hR hof;have hsn:m<sn:=by omega
 go_enter func97,ntmps97
 have hmm:= @run_makeMap prog
 go_wp2_with (go_at_call 107;refine(Hva.out _ (Hf.out.up xx) (Hb.out.up xx)).mono ?_;rintro e w4 ⟨A1,c1,rfl,own1⟩)
 clear hmm;have hs4:w.heap.size+3<=w4.heap.size:=by have:=own1.ext.size;simpa using this
 have R4:=((((BlkT.new w 27 #[.slice none 0 0,.slice none 0 0] rfl).alloc (.cells #[.slice none 0 0,.slice none 0 0] 27)).alloc (.cells #[.string M.d.name,.slice M.A M.n M.c] 64)).up own1.ext).alloc (.map #[] 0);have B4:=(((BlkT.new (w.alloc (.cells #[.slice none 0 0,.slice none 0 0] 27)) 27 #[.slice none 0 0,.slice none 0 0] (show w.heap.size+1=_ by simp)).alloc (.cells #[.string M.d.name,.slice M.A M.n M.c] 64)).up own1.ext).alloc (.map #[] 0);have M4:=((BlkT.new ((w.alloc (.cells #[.slice none 0 0,.slice none 0 0] 27)).alloc (.cells #[.slice none 0 0,.slice none 0 0] 27)) 64 #[.string M.d.name,.slice M.A M.n M.c] (show w.heap.size+2=_ by simp)).up own1.ext).alloc (.map #[] 0);have X4:Ext w (w4.alloc (.map #[] 0)):=((((Ext.refl w).alloc _).alloc _).alloc _).trans (own1.ext.alloc (.map #[] 0));have L4:=own1.reads.ext ((Ext.refl w4).alloc (.map #[] 0));have hLu:∀b,UsesA A1 L.length b->w.heap.size+3<=b/\b<w4.heap.size:=fun b hb=>⟨(by simpa using own1.uses_new hb),own1.reads.uses_lt hb⟩
 have K4:=MetAt.made w4;have hs5:(w4.alloc (.map #[] 0)).heap.size=w4.heap.size+1:=by simp
 obtain⟨w5,hw5⟩:∃w5,w5=w4.alloc (.map #[] 0):=⟨_,rfl⟩
 rw[<-hw5]at R4 B4 M4 X4 L4 K4 hs5⊢;clear hw5 own1;generalize w4.heap.size=bm at*;have HLu:=zsp hLu
 have start:Met1 w w5 w5 bm M.d.fields bs L M.d.name M.A M.n M.c 0 (fun _=>none) none 0 0:=
  ⟨R4,B4,M4,Own.nil X4 _ _,rfl,K4,⟨(fun i p _ h=>by cases h),(fun i j p q _ _ _ h=>by cases h),(fun i p _ h=>by cases h)⟩,Stays.refl _ _,(fun b h=>by cases h)⟩
 clear hLu R4 B4 M4 K4 w4
 go_loopw [14,34] (fun u i wr=>∃(k:Nat)(E:Nat->Option zaP)(U:Option Addr)(un uc:Nat),k<=L.length/\i=.int .i64 (k:Int)/\Met1 w w5 wr bm M.d.fields bs L M.d.name M.A M.n M.c k E U un uc/\Hid (∀i,E i=none<->zaf (L.take k) i=[])) (fun _ i _=>L.length - (intOf i).toNat)
 case atStart=>exact⟨0,_,none,0,0,Nat.zero_le _,rfl,start,fun i=>⟨fun _=>rfl,fun _=>rfl⟩⟩
 case round=>
  obtain⟨k,E,U,un,uc,hk,rfl,hm1,hN⟩:=hrel;by_cases hlt:k<L.length
  . have hltI:(k:Int)<L.length:=by omega
    have hLr:=L4.stays hm1.stays (fun b hb=>(by have:=HLu.out b hb;exact⟨by omega,by omega,by omega⟩));obtain⟨b5,off5,v,hA,hv,hb5,e0,e1,e2,e3,e4,e5,e6⟩:=hLr.view' hlt;subst hA;have x0:wr.cell? ⟨w.heap.size+1,0,none⟩=some (.slice none 0 0):=hm1.x.cell 0;have x1:wr.cell? ⟨w.heap.size+1,1,none⟩=some (.slice U un uc):=hm1.x.cell 1;have xf:=hm1.x.free 1;have xl:=hm1.x.lt;have m1:wr.cell? ⟨w.heap.size+2,1,none⟩=some (.slice M.A M.n M.c):=hm1.m.cell 1;have ml:=hm1.m.lt;have hmb:=hm1.met.lt;have Xw:=hm1.unk.ext;have hun:un<=L.length:=by rw[hm1.unL];exact zqA bs L k
    have hvm:=List.mem_of_getElem? hv;have hbd:=zcv (HLv.out v hvm);have Hm1:=zsp hm1;have Hv1:=zsp hv;clear hm1 hv hLr;rcases zho (HLv.out v hvm)with hf1|⟨i,f,hfi,hff,hway⟩
    . have hneg:v.field<0:=by omega
      have hrun:∀W,Ext wr W->Calls prog 137 #[.slice A n c,recV v.r] W fun e w'=>∃A' c',e=.returned (.slice A' (v.r.t - v.r.f) c')/\Own W w' 5 1 A' (v.r.t - v.r.f) c' ((spanB bs v.r.f v.r.t).map bv):=fun W h=>zrY (Hb.out.up (Xw.trans h)) (by omega) (by omega) (by omega)
      unfold recV at hrun;have Hrun:=zsp hrun;clear hrun
      go_wp2
      go_region_law (first
       |(go_simp;go_at_call 137;refine(Hrun.out _ xx).mono ?_;rintro e w6 ⟨A6,c6,rfl,own6⟩;have X6:Ext wr w6:=Ext.trans xx own6.ext;have y6:=X6.of_cell x1;have y6l:=Nat.lt_of_lt_of_le xl X6.size;have cv6:=zab.convert own6.reads (P:=prog) 46 5 9 underlying46 underlying5 underlying9)
       |(refine zcc zjj (by rfl) (.tmp 42) (.tmp 48) (by rfl) (by rfl) ((Hm1.out.unk.up X6).alloc _) (by rfl) (zcF w6 (.string ⟨(spanB bs v.r.f v.r.t).toArray⟩) 9 rfl) (by simp[Value.oneCell']) (by omega) (by unfold maxLen;omega) ?_;intro A7 c7 w7 own7 g7 m7;have B7:=((Hm1.out.x.up X6).alloc (.cells #[.string ⟨(spanB bs v.r.f v.r.t).toArray⟩] 9)).beside ((Hm1.out.unk.up X6).alloc _) (by decide) g7;have z7:w7.cell? ⟨w.heap.size+1,1,none⟩=some (.slice U un uc):=B7.cell 1;have zf:=B7.free 1;have zl:=B7.lt))
      all_goals
       go_simp
       go_wp2
       go_roundw
       case rel=>exact⟨k+1,E,A7,un+1,c7,by omega,by go_num,Hm1.out.unk_step (by omega) hs5 Hv1.out hneg X6 own7 g7 m7,fun j=>by rw[zew Hv1.out (by omega)];exact hN.out j⟩
       case measure=>simp[intOf];omega
    . have hneg:¬v.field<0:=by omega
      have hil:i<M.n:=by rw[<-hfl];exact(List.getElem?_eq_some_iff.1 hff).1
      have hd0:decide ((i:Int)<0)=false:=decide_eq_false (by omega);have hi6:i<1000000:=by have:=HMr.out.2.2.1;omega
      have r1:=(Hm1.out.met.stays (Stays.of_ext (s:=fun _=>True) ((Ext.refl wr).alloc (.cells #[.int .i64 (v.r.n:Int),.int .i64 (v.r.w:Int),.int .i64 (v.r.f:Int),.int .i64 (v.r.a:Int),.int .i64 (v.r.t:Int),.int .i64 (i:Int),.bool v.run] 191))) trivial).look hi6;rcases hE:E i with _|p1
      . rw[hE]at r1
        simp only[Option.map_none,Option.getD_none]at r1;have hfr:=Hf.out.up Xw;obtain⟨b8,off8,f8,hA8,hf8,hok8,hb8,g0,g1,g2,g3,g4,g5⟩:=hfr.field hil;rw[hff]at hf8;cases hf8;rw[hA8]at m1;clear hA8
        go_wp2
        obtain⟨w8,run8,h8,st8⟩:=Hm1.out.new_step (by omega) hs5 hi6 hE ((hN.out i).1 hE) hff hok8 (W:=((wr.alloc (.cells #[.int .i64 (v.r.n:Int),.int .i64 (v.r.w:Int),.int .i64 (v.r.f:Int),.int .i64 (v.r.a:Int),.int .i64 (v.r.t:Int),.int .i64 (i:Int),.bool v.run] 191)).alloc (.cells #[.string f.name,.int .i64 f.number,.int .i64 f.kind,.bool f.rep,.bool f.packed,.int .i64 f.of_,.slice none 0 0,.slice none 0 0] 222)).drew) (((Ext.refl wr).alloc _).alloc _).drew (b8:=wr.heap.size+1) (BlkT.new _ _ _ (by simp)).drew (by omega);have v7:BlkT ((wr.alloc (.cells #[.int .i64 (v.r.n:Int),.int .i64 (v.r.w:Int),.int .i64 (v.r.f:Int),.int .i64 (v.r.a:Int),.int .i64 (v.r.t:Int),.int .i64 (i:Int),.bool v.run] 191)).alloc (.cells #[.string f.name,.int .i64 f.number,.int .i64 f.kind,.bool f.rep,.bool f.packed,.int .i64 f.of_,.slice none 0 0,.slice none 0 0] 222)).drew wr.heap.size 191 #[.int .i64 (v.r.n:Int),.int .i64 (v.r.w:Int),.int .i64 (v.r.f:Int),.int .i64 (v.r.a:Int),.int .i64 (v.r.t:Int),.int .i64 (i:Int),.bool v.run]:=((BlkT.new wr 191 #[.int .i64 (v.r.n:Int),.int .i64 (v.r.w:Int),.int .i64 (v.r.f:Int),.int .i64 (v.r.a:Int),.int .i64 (v.r.t:Int),.int .i64 (i:Int),.bool v.run] rfl).alloc _).drew;have v8:=v7.stays st8 (by omega)
        go_cut []from 56 to 66 (fun wz=>Met1 w w5 wz bm M.d.fields bs L M.d.name M.A M.n M.c k (fun j=>if j=i then some ⟨wr.heap.size+1,f,none,0,[],none,0,[]⟩else E j) U un uc/\BlkT wz wr.heap.size 191 #[.int .i64 (v.r.n:Int),.int .i64 (v.r.w:Int),.int .i64 (v.r.f:Int),.int .i64 (v.r.a:Int),.int .i64 (v.r.t:Int),.int .i64 (i:Int),.bool v.run])
        case first=>
         have Hh8:=zsp h8;have Hv8:=zsp v8;clear h8 v8 v7 st8
         go_region_law (fail)
         all_goals
          go_wp2_with fail
          go_meet
          exact⟨Hh8.out,Hv8.out⟩
        case rest=>
        clear h8 v8 v7 st8 run8 w8;obtain⟨h8,v8⟩:=hcut
        rename World=>w8
        obtain⟨E1,hEE⟩:∃E1,E1=(fun j=>if j=i then some (⟨wr.heap.size+1,f,none,0,[],none,0,[]⟩:zaP)else E j):=⟨_,rfl⟩
        rw[<-hEE]at h8;obtain⟨p1,hp1⟩:∃p1:zaP,p1=⟨wr.heap.size+1,f,none,0,[],none,0,[]⟩:=⟨_,rfl⟩
        have hE1:E1 i=some p1:=by rw[hEE,hp1];simp
        have hEs:∀j,j≠i->E1 j=E j:=fun j hj=>by rw[hEE];simp[hj]
        clear hEE g0 g1 g2 g3 g4 g5 r1;clear hp1;have q8:=h8.held.each i p1 trivial hE1;have hsm:=h8.small i p1 hE1 Hv.out;obtain⟨A9,run9,hb9⟩:=zbz Hb.out (l:=v.r.a) (m:=v.r.t) (by omega) (by omega)
        have hadd:∀W,Ext (w8) W->Calls prog 138 #[.pointer (some ⟨p1.b,0,none⟩),.agg #[.int .i64 (v.r.n:Int),.int .i64 (v.r.w:Int),.int .i64 (v.r.f:Int),.int .i64 (v.r.a:Int),.int .i64 (v.r.t:Int),.int .i64 (i:Int),.bool v.run],.slice A9 (v.r.t - v.r.a) (c - v.r.a)] W fun e w'=>e=.returned (.tuple #[])/\∃p',Met1 w w5 w' bm M.d.fields bs L M.d.name M.A M.n M.c (k+1) (fun j=>if j=i then some p' else E1 j) U un uc:=fun W h=>by
         have hc:=pAdd (v:=v) (q8.1.up h) hb9 (by omega) (by omega) (by omega);unfold ptrP viewV at hc;rw[hfi]at hc;refine hc.mono ?_;rintro e w9 ⟨h1,p',h2,h3,h4⟩;exact⟨h1,p',(h8.up h).add_step (by omega) hs5 Hv1.out hfi hE1 h2 h3 h4⟩
        have Hadd:=zsp hadd;have r8:=h8.met.look hi6;have r8d:=(h8.up (Ext.refl (w8)).drew).met.look hi6;rw[hE1]at r8 r8d;simp only[Option.map_some,Option.getD_some]at r8 r8d;unfold ptrP at r8 r8d;have v0:=v8.cell 0;have v1:=v8.cell 1;have v2:=v8.cell 2;have v3:=v8.cell 3;have v4:=v8.cell 4;have v5:=v8.cell 5;have v6:=v8.cell 6;have vl:=v8.lt;simp only[List.getElem?_toArray,List.getElem?_cons_zero,List.getElem?_cons_succ]at v0 v1 v2 v3 v4 v5 v6
        have hNn:∀p':zaP,∀j,(if j=i then some p' else E1 j)=none<->zaf (L.take (k+1)) j=[]:=fun p' j=>by
         by_cases hj:j=i
         . subst hj
           rw[if_pos rfl,zeS Hv1.out hfi];simp
         . rw[if_neg hj,zew Hv1.out (by omega),hEs j hj]
           exact hN.out j
        have HNn:=zsp hNn;have H8:=zsp h8;clear hadd hb9 q8 hsm v8 hNn h8 hEs hE1
        go_wp2
        go_still_tail 13,(by kernel_rfl)
        change wpList _ _ _ _ _ w8.drew
        go_wp2_with (go_at_call 138;refine(Hadd.out _ xx).mono ?_;rintro e w9 ⟨rfl,p',h9⟩)
        go_roundw
        case rel=>exact⟨k+1,_,U,un,uc,by omega,by go_num,h9,HNn.out p'⟩
        case measure=>simp[intOf];omega
      . rw[hE]at r1
        simp only[Option.map_some,Option.getD_some]at r1;unfold ptrP at r1
        go_wp2
        have h8:=Hm1.out.up ((Ext.refl wr).alloc (.cells #[.int .i64 (v.r.n:Int),.int .i64 (v.r.w:Int),.int .i64 (v.r.f:Int),.int .i64 (v.r.a:Int),.int .i64 (v.r.t:Int),.int .i64 (i:Int),.bool v.run] 191));have v8:=BlkT.new wr 191 #[.int .i64 (v.r.n:Int),.int .i64 (v.r.w:Int),.int .i64 (v.r.f:Int),.int .i64 (v.r.a:Int),.int .i64 (v.r.t:Int),.int .i64 (i:Int),.bool v.run] rfl;obtain⟨E1,hEE⟩:∃E1,E1=E:=⟨_,rfl⟩
        have hE1:E1 i=some p1:=by rw[hEE,hE]
        have hEs:∀j,j≠i->E1 j=E j:=fun j hj=>by rw[hEE]
        rw[<-hEE]at h8;clear hEE;clear r1;have X8:Ext wr (wr.alloc (.cells #[.int .i64 (v.r.n:Int),.int .i64 (v.r.w:Int),.int .i64 (v.r.f:Int),.int .i64 (v.r.a:Int),.int .i64 (v.r.t:Int),.int .i64 (i:Int),.bool v.run] 191)):=(Ext.refl wr).alloc _;have hb8:wr.heap.size<(wr.alloc (.cells #[.int .i64 (v.r.n:Int),.int .i64 (v.r.w:Int),.int .i64 (v.r.f:Int),.int .i64 (v.r.a:Int),.int .i64 (v.r.t:Int),.int .i64 (i:Int),.bool v.run] 191)).heap.size:=v8.lt;generalize (wr.alloc (.cells #[.int .i64 (v.r.n:Int),.int .i64 (v.r.w:Int),.int .i64 (v.r.f:Int),.int .i64 (v.r.a:Int),.int .i64 (v.r.t:Int),.int .i64 (i:Int),.bool v.run] 191))=w8 at*;have q8:=h8.held.each i p1 trivial hE1;have hsm:=h8.small i p1 hE1 Hv.out;obtain⟨A9,run9,hb9⟩:=zbz Hb.out (l:=v.r.a) (m:=v.r.t) (by omega) (by omega)
        have hadd:∀W,Ext w8 W->Calls prog 138 #[.pointer (some ⟨p1.b,0,none⟩),.agg #[.int .i64 (v.r.n:Int),.int .i64 (v.r.w:Int),.int .i64 (v.r.f:Int),.int .i64 (v.r.a:Int),.int .i64 (v.r.t:Int),.int .i64 (i:Int),.bool v.run],.slice A9 (v.r.t - v.r.a) (c - v.r.a)] W fun e w'=>e=.returned (.tuple #[])/\∃p',Met1 w w5 w' bm M.d.fields bs L M.d.name M.A M.n M.c (k+1) (fun j=>if j=i then some p' else E1 j) U un uc:=fun W h=>by
         have hc:=pAdd (v:=v) (q8.1.up h) hb9 (by omega) (by omega) (by omega);unfold ptrP viewV at hc;rw[hfi]at hc;refine hc.mono ?_;rintro e w9 ⟨h1,p',h2,h3,h4⟩;exact⟨h1,p',(h8.up h).add_step (by omega) hs5 Hv1.out hfi hE1 h2 h3 h4⟩
        have Hadd:=zsp hadd;have r8:=h8.met.look hi6;have r8d:=(h8.up (Ext.refl w8).drew).met.look hi6;rw[hE1]at r8 r8d;simp only[Option.map_some,Option.getD_some]at r8 r8d;unfold ptrP at r8 r8d;have v0:=v8.cell 0;have v1:=v8.cell 1;have v2:=v8.cell 2;have v3:=v8.cell 3;have v4:=v8.cell 4;have v5:=v8.cell 5;have v6:=v8.cell 6;have vl:=v8.lt;simp only[List.getElem?_toArray,List.getElem?_cons_zero,List.getElem?_cons_succ]at v0 v1 v2 v3 v4 v5 v6
        have hNn:∀p':zaP,∀j,(if j=i then some p' else E1 j)=none<->zaf (L.take (k+1)) j=[]:=fun p' j=>by
         by_cases hj:j=i
         . subst hj
           rw[if_pos rfl,zeS Hv1.out hfi];simp
         . rw[if_neg hj,zew Hv1.out (by omega),hEs j hj]
           exact hN.out j
        have HNn:=zsp hNn;have H8:=zsp h8;clear hadd hb9 q8 hsm v8 hNn h8 hEs hE1
        go_still_tail 13,(by kernel_rfl)
        change wpList _ _ _ _ _ w8.drew
        go_wp2_with (go_at_call 138;refine(Hadd.out _ xx).mono ?_;rintro e w9 ⟨rfl,p',h9⟩)
        go_roundw
        case rel=>exact⟨k+1,_,U,un,uc,by omega,by go_num,h9,HNn.out p'⟩
        case measure=>simp[intOf];omega
  .
   obtain rfl:k=L.length:=by omega
   have hltI:¬(L.length:Int)<L.length:=by omega
   have m0:wr.cell? ⟨w.heap.size+2,0,none⟩=some (.string M.d.name):=hm1.m.cell 0;have m1:wr.cell? ⟨w.heap.size+2,1,none⟩=some (.slice M.A M.n M.c):=hm1.m.cell 1;have ml:=hm1.m.lt;have Xw:=hm1.unk.ext;have hso:=fun W (h:Ext w W)=>zlC (s:=M.d.name) (Hf.out.up h) (show M.n<=1000000000000 by have:=HMr.out.2.2.1;omega)
   have Hso:=zsp hso;have Hm1:=zsp hm1;clear hso hm1
   go_wp2_with (go_at_call 53;refine(Hso.out _ (Xw.trans xx)).mono ?_;rintro e w6 ⟨A6,c6,rfl,own6⟩)
   obtain⟨order,hord⟩:∃order,order=sortK (keyF M.d.fields) M.n:=⟨_,rfl⟩
   rw[<-hord]at own6;have hnd:order.Nodup:=by rw[hord];exact(zcf (keyF M.d.fields) M.n).nodup_iff.2 List.nodup_range
   have hol:order.length=M.n:=by rw[hord,zcL]
   have hom:∀i∈order,i<M.n:=fun i hi=>by rw[hord]at hi;exact zbl.1 hi
   have X6:=own6.ext;have s6:=X6.size;have s5:=Hm1.out.stays.size
   have hfeet:∀b,Feet E b->w5.heap.size<=b/\b<wr.heap.size:=by
    rintro b ⟨i,p,hp,hb⟩;exact⟨Hm1.out.held.new i p trivial hp b hb,((Hm1.out.held.each i p trivial hp).1.lt hb).2⟩
   have hfeetU:∀b,Feet E b->(Value.slice U 0 0).ownBlock≠some b:=by
    rintro b ⟨i,p,hp,hb⟩;exact(Hm1.out.held.each i p trivial hp).1.other hb Hm1.out.unk (by decide) (by decide) (by decide)
   have hm6:=Hm1.out.up X6
   have start2:Met2 w w6 w6 w5.heap.size M.d.fields bs L E order U un uc 0 none 0 0 []:=by
    refine⟨hm6.x,Own.nil (Xw.trans X6) _ _,rfl,(fun b h=>by cases h),?_,Stays.refl _ _,(fun y h=>by cases h),(fun y h=>by cases h)⟩;have:=hm6.held.less (R':=Yet order 0) (fun _ _=>trivial)
    rwa[List.take_length]at this
   have hNL:∀i,E i=none<->zaf L i=[]:=fun i=>by have:=hN.out i;rwa[List.take_length]at this
   have R6:=hm6.res;have O6:=own6.reads;have K6:=hm6.met;have hO6:∀b,UsesA A6 M.n b->wr.heap.size<=b:=fun b hb=>own6.uses_new hb
   have hnw:∀b,(Value.slice U 0 0).ownBlock=some b->w5.heap.size<=b:=Hm1.out.unew;have hU6:=Hm1.out.unk.up X6;have hunL:=hm6.unL;rw[List.take_length]at hU6 hunL;have Hord:=zsp hord;have HNL:=zsp hNL;have Hfeet:=zsp hfeet;have HfeetU:=zsp hfeetU;have HU:=zsp (And.intro hnw hU6);have HunL:=zsp hunL;have HK:=zsp K6;have HO:=zsp (And.intro O6 hO6);have HR:=zsp R6;have Hnd:=zsp hnd;have Hom:=zsp hom;have Hol:=zsp hol;clear hord hN hNL hfeet hfeetU hnw hU6 hunL K6 O6 R6 hO6 hnd hom hol own6 m0 m1 ml hm6 Hso;clear L4
   go_loopw [16,17,18,19,85] (fun _ _ _ _ i wq=>∃(j:Nat)(V:Option Addr)(vn vc:Nat)(ys:List ValR),j<=M.n/\i=.int .i64 (j:Int)/\Met2 w w6 wq w5.heap.size M.d.fields bs L E order U un uc j V vn vc ys/\Hid (ys.map bareV=(order.take j).filterMap (zcl sub M.d.fields bs L))) (fun _ _ _ _ i _=>M.n - (intOf i).toNat)
   case atStart=>exact⟨0,none,0,0,[],Nat.zero_le _,rfl,start2,rfl⟩
   case round=>
    rename World=>wq
    obtain⟨j,V,vn,vc,ys,hj,rfl,hm2,hD⟩:=hrel;by_cases hlt:j<M.n
    . have hltI:(j:Int)<M.n:=by omega
      obtain⟨i,hij⟩:∃i,order[j]?=some i:=⟨_,List.getElem?_eq_getElem (by rw[Hol.out];omega)⟩
      have him:=Hom.out i (List.mem_of_getElem? hij);have hst:=hm2.stays;have hOr:=HO.out.1.stays hst (fun b hb=>⟨fun q=>(by have:=(Hfeet.out b q).2;have:=HO.out.2 b hb;omega),(by have:=HO.out.2 b hb;omega),HO.out.1.uses_lt hb⟩);obtain⟨b9,off9,hA6,hb9,hc9⟩:=hOr.at_ (by omega);have e9:wq.cell? ⟨b9,off9+j,none⟩=some (.int .i64 (i:Int)):=hc9 j _ (by rw[List.getElem?_map,hij];rfl);subst hA6;have hKr:=HK.out.stays hst ⟨fun q=>(by have:=(Hfeet.out _ q).1;omega),by omega,HK.out.lt⟩;have hMn:M.n<=1000000:=by have:=HMr.out.2.2.1;omega
      have hi6:i<1000000:=by have:=HMr.out.2.2.1;omega
      have r1:=hKr.look hi6;have hx0:wq.cell? ⟨w.heap.size+1,0,none⟩=some (.slice V vn vc):=hm2.x.cell 0;have Hij:=zsp hij
      have hvl:vn<=M.n:=by
       rw[hm2.vnL];have h1:=congrArg List.length hD.out;rw[List.length_map]at h1;have h2:=List.length_filterMap_le (zcl sub M.d.fields bs L) (order.take j);rw[List.length_take]at h2;omega
      clear hOr hc9 hij hst;rcases hE:E i with _|p
      . rw[hE]at r1
        simp only[Option.map_none,Option.getD_none]at r1
        have hpl:zcl sub M.d.fields bs L i=none:=by
         unfold zcl;split
         . rfl
         . rw[if_pos ((HNL.out i).1 hE)]
        have Hm2:=zsp hm2;clear hm2 hE
        go_wp2
        go_roundw
        case rel=>exact⟨j+1,V,vn,vc,ys,by omega,by go_num,Hm2.out.next,by show _=_;rw[zdu _ Hij.out,hpl,hD.out];simp⟩
        case measure=>simp[intOf];omega
      . rw[hE]at r1
        simp only[Option.map_some,Option.getD_some]at r1;have hne:zaf L i≠ []:=fun q=>by rw[(HNL.out i).2 q]at hE;cases hE
        have hcall:∀W,Ext wq W->Calls prog 139 #[ptrP p,.slice (some ⟨b1,off1,none⟩) sn sc] W fun e w'=>∃u:ValR,((e=.returned (.tuple #[tvalV u,.bool false])/\zcl sub M.d.fields bs L i=none)\/(e=.returned (.tuple #[tvalV u,.bool true])/\zcl sub M.d.fields bs L i=some (bareV u)))/\
         ValAt w' u/\(∀b,UsesV u b->Foot p b\/W.heap.size<=b)/\Met2 w w6 w' w5.heap.size M.d.fields bs L E order U un uc (j+1) V vn vc ys:=fun W h=>by
         refine((hm2.up h).call Ih.out HS.out Hij.out hE Hof.out (by rw[Hv.out]) (by omega) (by omega) hne).mono ?_;rintro e w7 ⟨u,h1,hpl,hu,huu,hS7,hX7⟩;refine⟨u,?_,hu,huu,(hm2.up h).told Hnd.out (by omega) (fun b q=>by have:=(Hfeet.out b q).2;omega) Hij.out hE hS7 hX7⟩;by_cases h0:manyU u=0
         . rw[if_pos h0]at hpl
           rw[h0]at h1;exact .inl ⟨h1,hpl.symm⟩
         . rw[if_neg h0]at hpl
           rw[decide_eq_true (show(0:Int)<(manyU u:Nat)by omega)]at h1;exact .inr ⟨h1,hpl.symm⟩
        unfold ptrP at r1 hcall;unfold tvalV at hcall;have Hcall:=zsp hcall;have Hm2:=zsp hm2;have HE:=zsp hE;clear hm2 hE hcall hne
        go_wp2_with (first
         |(go_at_call 139;refine(Hcall.out _ xx).mono ?_;rintro e w7 ⟨u,(⟨rfl,hpl⟩|⟨rfl,hpl⟩),hu,huu,T7⟩;all_goals (have z7:w7.cell? ⟨w.heap.size+1,0,none⟩=some (.slice V vn vc):=T7.x.cell 0;have z7f:=T7.x.free 0;have z7l:=T7.x.lt))
         |(at_builtin;refine zbd zoh rfl (.tmp 102) (.tmp 104) rfl rfl ((T7.own.alloc _).alloc _) rfl (zbJ _ (tvalC u) 69 (by simp) rfl) (by simpa using zgO [u]) (by omega) (by unfold maxLen;omega) ?_;intro V8 c8 w8 own8 g8 m8;have hx8:=((T7.x.alloc _).alloc _).beside ((T7.own.alloc _).alloc _) (by decide) g8;have z8:w8.cell? ⟨w.heap.size+1,0,none⟩=some (.slice V vn vc):=hx8.cell 0;have z8f:=hx8.free 0;have z8l:=hx8.lt))
        . go_roundw
          case rel=>exact⟨j+1,V,vn,vc,ys,by omega,by go_num,T7.up ((Ext.refl w7).alloc _),by show _=_;rw[zdu _ Hij.out,hpl,hD.out];simp⟩
          case measure=>simp[intOf];omega
        . go_roundw
          case rel=>
           have hfr:=Hm2.out.fresh Hnd.out (fun b q=>(by have:=(Hfeet.out b q).2;omega)) (by omega) Hij.out HE.out huu;have T9:=(T7.up ((Ext.refl w7).alloc _)).put (by omega) (by omega) (hu.up ((Ext.refl w7).alloc _)) hfr own8 g8 m8;exact⟨j+1,V8,vn+1,c8,ys++[u],by omega,by go_num,T9,by show _=_;rw[zdu _ Hij.out,hpl,List.map_append,hD.out];simp⟩
          case measure=>simp[intOf];omega
    . obtain rfl:j=M.n:=by omega
      have hltI:¬(M.n:Int)<M.n:=by omega
      have hst:=hm2.stays;have hR:=HR.out.stays hst ⟨fun q=>(by have:=(Hfeet.out _ q).1;omega),by omega,by have:=HR.out.lt;omega⟩;have p0:wq.cell? ⟨w.heap.size+1,0,none⟩=some (.slice V vn vc):=hm2.x.cell 0;have p1:wq.cell? ⟨w.heap.size+1,1,none⟩=some (.slice U un uc):=hm2.x.cell 1;have q1:=hm2.x.lt;have t0:wq.cell? ⟨w.heap.size,0,none⟩=some (.slice none 0 0):=hR.cell 0;have t1:wq.cell? ⟨w.heap.size,1,none⟩=some (.slice none 0 0):=hR.cell 1;have r0:=hR.free 0;have r1:=hR.free 1;have l2:=hR.lt;have Hm2:=zsp hm2;have HR2:=zsp hR;clear hm2 hst hR
      go_wp2
      (try simp only[Exit.inBlock,Exit.then])
      have hunS:∀b,UsesA U un b->w5.heap.size<=b/\(¬Feet E b/\b≠w.heap.size+1/\b<w6.heap.size):=fun b hb=>by
       have h1:=Reads.row_uses hb HU.out.2;have h2:=HU.out.1 b h1;exact⟨h2,fun q=>HfeetU.out b q h1,by omega,(HU.out.2.new_lt h1).2⟩
      have BF:=(HR2.out.set_ 0 (.slice V vn vc)).set_ 1 (.slice U un uc);have EW:=Hm2.out.own.ext;have EF:Ext w ((wq.setCell ⟨w.heap.size,0,none⟩ (.slice V vn vc)).setCell ⟨w.heap.size,1,none⟩ (.slice U un uc)):=(EW.setCell (show w.heap.size<=w.heap.size by omega) _).setCell (show w.heap.size<=w.heap.size by omega) _;have o1:=Hm2.out.own.far HR2.out (by decide) (Nat.le_refl _) 0 (.slice V vn vc);have o2:=o1.far (HR2.out.set_ 0 (.slice V vn vc)) (by decide) (Nat.le_refl _) 1 (.slice U un uc);refine bodyPost_ret (results_cell_row (ty:=27) rfl _ _ w.heap.size _ _ (0,0) _ rfl BF underlying27 rfl (by kernel_rfl)) rfl ?_
      have hS2:Stays (fun b=>b≠w.heap.size) wq ((wq.setCell ⟨w.heap.size,0,none⟩ (.slice V vn vc)).setCell ⟨w.heap.size,1,none⟩ (.slice U un uc)):=
       ((Stays.refl _ wq).set (fun e=>e rfl) _).set (fun e=>e rfl) _
      have hSU:Stays (UsesA U un) w6 ((wq.setCell ⟨w.heap.size,0,none⟩ (.slice V vn vc)).setCell ⟨w.heap.size,1,none⟩ (.slice U un uc)):=
       (Hm2.out.stays.less (fun b hb=>(hunS b hb).2)).trans (hS2.less (fun b hb=>(by have:=(hunS b hb).1;omega)))
      refine⟨.mk (V,vc) (U,uc) ys (unkO bs L),?_,?_,?_,?_,EF⟩
      . show Ending.returned (Value.agg #[.slice V vn vc,.slice U un uc])=Ending.returned (Value.agg #[.slice V ys.length vc,.slice U (unkO bs L).length uc])
        rw[Hm2.out.vnL,HunL.out]
      . rw[zbf]
        show MsgX.mk () () (ys.map bareV) (unkO bs L)=_;unfold ofM;rw[HMd.out];simp only;rw[Hv.out,hD.out,List.take_of_length_le (by rw[Hol.out];exact Nat.le_refl _),Hord.out,hfl];rfl
      . refine zah.of ?_ ⟨?_,fun t ht=> ?_⟩ (fun y hy=> ?_)
        . show Reads _ V ys.length vc 4 (ys.flatMap tvalC)
          rw[<-Hm2.out.vnL];exact o2.reads
        . show Reads _ U (unkO bs L).length uc 1 ((unkO bs L).map strV)
          rw[<-HunL.out];exact HU.out.2.reads.stays hSU (fun b hb=>hb)
        . obtain⟨v,hv,rfl⟩:=List.mem_map.1 ht
          have h1:=(zcv (HLv.out v (List.mem_filter.1 hv).1))
          have h2:(spanB bs v.r.f v.r.t).length=v.r.t - v.r.f:=zaI bs h1.2.2;show(spanB bs v.r.f v.r.t).toArray.size<=maxLen;rw[List.size_toArray,h2];unfold maxLen;omega
        . refine(Hm2.out.at_ y hy).stays hS2 (fun b hb=> ?_)
          have:=(Hm2.out.away y hy b hb).1;omega
      . intro b hb
        rcases hb.cases' with hb|hb|⟨y,hy,hb⟩
        . refine o2.uses_new (b:=b) ?_
          have hb':UsesA V ys.length b:=hb;rw[<-Hm2.out.vnL]at hb';exact hb'
        . have hb':UsesA U (unkO bs L).length b:=hb
          rw[<-HunL.out]at hb';have:=(hunS b hb').1;omega
        . have:=(Hm2.out.away y hy b hb).1
          omega
end Go.Proofs.YtlhbllaojjelcaaGreat
