/- Words of my own for memory. No program is named. -/
import Derived.WalkKit
import Derived.WalkSpells
import Derived.WalkLawsBesides
import Derived.Maps.AppendAt
import Derived.Lib.Hide
import Derived.Laws.BytesArg
import Derived.Laws.IdiomCopy
import Derived.Lib.SliceRun

set_option linter.unusedVariables false
namespace Go.Proofs.YtpicpebolghcfaaGreatDoor
open Go.RowKit
def Ext(w w':World):Prop:=Below w.heap.size w w'
section
variable {w w' w'':World}
theorem Ext.refl(w:World):Ext w w:=Below.refl _ _
theorem Ext.trans(h:Ext w w')(k:Ext w' w''):Ext w w'':=Below.trans h (Below.mono k h.size)
theorem Ext.alloc(h:Ext w w')(o:Obj):Ext w (w'.alloc o):=Below.alloc h h.size o
theorem Ext.drew(h:Ext w w'):Ext w w'.drew:=Below.drew h
theorem Ext.drewN(h:Ext w w')(n:Nat):Ext w (w'.drewN n):=⟨h.os,h.tape,h.output,h.size,h.block⟩
theorem Ext.setCell(h:Ext w w'){p:Addr}(hp:w.heap.size<=p.block)(u:Value):Ext w (w'.setCell p u):=Below.setCell h hp u
theorem zsz{p:Prop}(h:p):Hid p:=h
theorem xy{w w':World}(h:Ext w w':=by repeat with_reducible (first|assumption|exact Ext.refl _|refine Ext.alloc ?_ _|refine Ext.drew ?_|refine Ext.drewN ?_ _|refine Ext.setCell ?_ (by first|omega|(simp<;>omega)) _)):Ext w w':=h
theorem xx{w w':World}(h:Ext w w':=by repeat with_reducible (first|exact Ext.refl _|refine Ext.alloc ?_ _|refine Ext.drew ?_|refine Ext.drewN ?_ _|refine Ext.setCell ?_ (by first|omega|(simp<;>omega)) _)):Ext w w':=h
theorem Ext.cell(h:Ext w w'){p:Addr}(hp:p.block<w.heap.size):w'.cell? p=w.cell? p:=Below.cell h hp
theorem Ext.of_cell(h:Ext w w'){p:Addr}{v:Value}(hp:w.cell? p=some v):w'.cell? p=some v:=
 (Below.cell h (World.block_lt_of_cell? w p hp)).trans hp
end
variable{w w':World}
theorem Ext.frozen(h:Ext w w'){p:Addr}(hp:p.block<w.heap.size):w'.frozen? p=w.frozen? p:=Below.frozen h hp
variable{t1:TypeId}{c1:Array Value}
theorem zaS{c2:Array Value}{t2:TypeId}(h:Ext ((w.alloc (.cells c1 t1)).alloc (.cells c2 t2)) w'):
 (∀i,w'.cell? ⟨w.heap.size,i,none⟩=c1[i]?)/\(∀i,w'.cell? ⟨w.heap.size+1,i,none⟩=c2[i]?)/\
 (∀i,w'.frozen? ⟨w.heap.size,i,none⟩=false)/\(∀i,w'.frozen? ⟨w.heap.size+1,i,none⟩=false)/\w.heap.size+2<=w'.heap.size:=by
 have hs:(w.alloc (.cells c1 t1)).heap.size=w.heap.size+1:=by simp
 have hs2:((w.alloc (.cells c1 t1)).alloc (.cells c2 t2)).heap.size=w.heap.size+2:=by simp
 have h1:((w.alloc (.cells c1 t1)).alloc (.cells c2 t2)).heap[w.heap.size]?=some (.cells c1 t1):=by
  have:=Below.heap_alloc (w.alloc (.cells c1 t1)) (.cells c2 t2) w.heap.size (by omega);rw[this];exact heap_alloc_new w _
 have h2:((w.alloc (.cells c1 t1)).alloc (.cells c2 t2)).heap[w.heap.size+1]?=some (.cells c2 t2):=by
  have:=heap_alloc_new (w.alloc (.cells c1 t1)) (.cells c2 t2)
  rwa[hs]at this
 have k1:=(h.block w.heap.size (by omega)).trans h1;have k2:=(h.block (w.heap.size+1) (by omega)).trans h2;refine⟨fun i=>cell_of_row w' _ i c1 t1 (0,0) k1,fun i=>cell_of_row w' _ i c2 t2 (0,0) k2,fun i=> ?_,fun i=> ?_,?_⟩
 . simp[World.frozen?,k1]
 . simp[World.frozen?,k2]
 . have:=h.size;omega
theorem zfl(h:Ext (w.alloc (.cells c1 t1)) w'):
 (∀i,w'.cell? ⟨w.heap.size,i,none⟩=c1[i]?)/\(∀i,w'.frozen? ⟨w.heap.size,i,none⟩=false)/\w.heap.size+1<=w'.heap.size:=by
 have hs:(w.alloc (.cells c1 t1)).heap.size=w.heap.size+1:=by simp
 have k1:=(h.block w.heap.size (by omega)).trans (heap_alloc_new w _);refine⟨fun i=>cell_of_row w' _ i c1 t1 (0,0) k1,fun i=> ?_,?_⟩
 . simp[World.frozen?,k1]
 . have:=h.size;omega
structure Reads(w:World)(A:Option Addr)(n c size:Nat)(xs:List Value):Prop where
 len:xs.length=n*size
 cap:n<=c
 max:c<=maxLen
 at_:0<n->∃b off,A=some ⟨b,off,none⟩/\b<w.heap.size/\∀j u,xs[j]?=some u->w.cell? ⟨b,off+j,none⟩=some u
section
variable {w w':World} {A:Option Addr} {n c size:Nat} {xs:List Value}
theorem Reads.ext(h:Reads w A n c size xs)(hE:Ext w w'):Reads w' A n c size xs:=
 ⟨h.len,h.cap,h.max,fun hn=>by
  obtain⟨b,off,e,hb,hc⟩:=h.at_ hn
  exact⟨b,off,e,Nat.lt_of_lt_of_le hb hE.size,fun j u hu=>(hE.cell hb).trans (hc j u hu)⟩⟩
theorem Reads.nil(w:World)(size:Nat):Reads w none 0 0 size []:=⟨by simp,Nat.le_refl _,by simp[maxLen],fun h=>absurd h (Nat.lt_irrefl _)⟩
theorem zdM(b off k:Nat):(⟨b,off,none⟩:Addr).add k=⟨b,off+k,none⟩:=by
 unfold Addr.add;split
 . rename_i h;subst h;rfl
 . rfl
theorem Reads.cut(h:Reads w A n c size xs){l m:Nat}(hl:l<=m)(hm:m<=n):
 Reads w (if c=l then A else A.map (·.add (l*size))) (m - l) (c - l) size ((xs.take (m*size)).drop (l*size)):=by
 have h1:=h.cap;have h2:=h.max;refine⟨?_,by omega,by omega,fun hn=> ?_⟩
 . have:=h.len
   rw[List.length_drop,List.length_take,this,Nat.min_eq_left (Nat.mul_le_mul_right _ hm),<-Nat.sub_mul]
 . obtain⟨b,off,rfl,hb,hc⟩:=h.at_ (by omega)
   rw[if_neg (by omega)];refine⟨b,off+l*size,by simp[zdM],hb,fun j u hu=> ?_⟩
   have hx:xs[l*size+j]?=some u:=by
    rw[List.getElem?_drop]at hu;by_cases hj:l*size+j<m*size
    . rwa[List.getElem?_take_of_lt hj]at hu
    . rw[List.getElem?_eq_none (by rw[List.length_take];omega)]at hu
      cases hu
   have:=hc _ _ hx
   rwa[<-Nat.add_assoc]at this
end
def bv(b:UInt8):Value:=.int .u8 (b.toNat:Int)
theorem u8_lt(x:UInt8):x.toNat<256:=x.toNat_lt
theorem zgQ(x:UInt8):(x.toNat:Int)<256:=by have:=x.toNat_lt;omega
def zac(w:World)(A:Option Addr)(n c:Nat)(bs:List UInt8):Prop:=Reads w A n c 1 (bs.map bv)
section
variable {w w':World} {A:Option Addr} {n c:Nat} {bs:List UInt8}
theorem zac.ext(h:zac w A n c bs)(hE:Ext w w'):zac w' A n c bs:=Reads.ext h hE
theorem zac.length(h:zac w A n c bs):bs.length=n:=by have:=Reads.len h;simpa using this
theorem zac.byte(h:zac w A n c bs){k:Nat}(hk:k<n):
 ∃b off x,A=some ⟨b,off,none⟩/\bs[k]?=some x/\w.cell? ⟨b,off+k,none⟩=some (.int .u8 (x.toNat:Int)):=by
 obtain⟨b,off,e,_,hc⟩:=Reads.at_ h (by omega);have hl:=h.length;have hx:bs[k]?=some (bs[k]'(by omega)):=List.getElem?_eq_getElem (by omega);exact⟨b,off,_,e,hx,hc k _ (by rw[List.getElem?_map,hx];rfl)⟩
theorem zac.nil(w:World):zac w none 0 0 []:=Reads.nil w 1
theorem strOf(bs:List UInt8):strOfNums (bs.map fun b=>(b.toNat:Int))=⟨bs.toArray⟩:=by
 apply ByteArray.ext;apply Array.toList_inj.1;rw[strOfNums_data,List.map_map];simp[Function.comp_def]
theorem zac.convert{P:Program}(h:zac w A n c bs)(src e dst:TypeId)(hs:P.underlying src=some (.slice e))(he:P.underlying e=some (.int .u8))(hd:P.underlying dst=some .string):
 (Go.convert src dst (.slice A n c)).run P w=.ok (.string ⟨bs.toArray⟩) w:=by
 have hl:=h.length;by_cases hn:n=0
 . subst hn
   have hb:bs=[]:=List.eq_nil_of_length_eq_zero hl;subst hb;rcases A with _|a
   . exact run_convert_bytes_nil w src e hs he 0 c dst hd
   . rw[run_convert_bytes_string w src dst e _ 0 c hs he hd,run_bytesToString w a 0 c [] (by simpa using run_loadCells_list (P:=P) w a [] (by simp))]
     rfl
 . obtain⟨b,off,rfl,_,hc⟩:=Reads.at_ h (by omega)
   have:=run_convert_bytes_arg (P:=P) w src e hs he b off n c (bs.map fun b=>(b.toNat:Int)) (by simpa using hl) (fun i hi=>by
    have hx:bs[i]?=some (bs[i]'(by omega)):=List.getElem?_eq_getElem (by omega);rw[hc i _ (by rw[List.getElem?_map,hx];rfl)]
    simp[bv,hx]) dst hd
   rw[strOf]at this;exact this
end
structure Elem(P:Program)(t e:TypeId)(size bytes:Nat):Prop where
 under:P.underlying t=some (.slice e)
 info:∃i z,P.info? e=some i/\i.zero=some z/\i.size=size/\i.bytes=bytes/\z.cells.size=size
 pos:0<size
variable{size:Nat}{t e:TypeId}{P:Program}
theorem Elem.mk'{z:Value}{bytes:Nat}(h:P.underlying t=some (.slice e))(hi:(P.info? e).map (fun i=>(i.zero,i.size,i.bytes))=some (some z,size,bytes))(hz:z.cells.size=size)(hs:0<size):Elem P t e size bytes:=by
 obtain⟨i,h1,h2,h3,h4⟩:=info_parts hi;exact⟨h,⟨i,z,h1,h2,h3,h4,hz⟩,hs⟩
structure Own(w0 w:World)(e:TypeId)(size:Nat)(A:Option Addr)(n c:Nat)(xs:List Value):Prop where
 row:w.ownsRow w0.heap.size e size (.slice A n c) n xs
 ext:Ext w0 w
section
variable {w0 w w':World} {e:TypeId} {size:Nat} {A:Option Addr} {n c:Nat} {xs:List Value}
theorem Own.nil(h:Ext w0 w)(e:TypeId)(size:Nat):Own w0 w e size none 0 0 []:=⟨World.ownsRow_nil _ _ _ _,h⟩
theorem Own.drew(h:Own w0 w e size A n c xs):Own w0 w.drew e size A n c xs:=⟨h.row,h.ext.drew⟩
theorem Own.alloc(h:Own w0 w e size A n c xs)(o:Obj):Own w0 (w.alloc o) e size A n c xs:=⟨h.row.alloc o,h.ext.alloc o⟩
theorem zdX{b b':Nat}{v:Value}(h:w.ownsRow b e size v n xs)(hb:b'<=b):w.ownsRow b' e size v n xs:=by
 refine⟨h.1,?_⟩;rcases h.2 with h2|⟨g,cap,cur,hv,hg,r⟩
 . exact .inl h2
 . exact .inr ⟨g,cap,cur,hv,by omega,r⟩
theorem Own.later(h:Own w0 w e size A n c xs)(hE:Ext w w'):Own w0 w' e size A n c xs:=by
 refine⟨⟨h.row.1,?_⟩,h.ext.trans hE⟩;rcases h.row.2 with h2|⟨g,cap,cur,hv,hg,hh,r⟩
 . exact .inl h2
 . refine .inr ⟨g,cap,cur,hv,hg,?_,r⟩
   rw[hE.block g (Array.getElem?_eq_some_iff.1 hh).1];exact hh
theorem Own.since(h:Own w0 w e size A n c xs){w00:World}(hE:Ext w00 w0):Own w00 w e size A n c xs:=⟨zdX h.row hE.size,hE.trans h.ext⟩
theorem Own.reads(h:Own w0 w e size A n c xs):Reads w A n c size xs:=by
 rcases h.row.2 with⟨hv,hn⟩|⟨g,cap,cur,hv,hg,hh,hnc,hcm,hcs,htake⟩
 . cases hv
   have hx:xs=[]:=List.eq_nil_of_length_eq_zero (by simpa[hn] using h.row.1);subst hx;exact Reads.nil w size
 . cases hv
   refine⟨h.row.1,hnc,hcm,fun _=>⟨g,0,rfl,(Array.getElem?_eq_some_iff.1 hh).1,fun j u hu=> ?_⟩⟩;have:=h.row.cells (g:=g) rfl j u hu
   rwa[zdM]at this
theorem Own.empty(h:Ext w0 w)(e:TypeId)(size:Nat):Own w0 (w.alloc (.cells #[] e)) e size (some ⟨w.heap.size,0,none⟩) 0 0 []:=
 ⟨World.ownsRow_made w #[] 0 h.size (by simp[maxLen]) (by simp),h.alloc _⟩
theorem Own.made(h:Ext w0 w)(e:TypeId)(size:Nat){cs:List Value}{n:Nat}(hn:n<=maxLen)(hs:cs.length=n*size):
 Own w0 (w.alloc (.cells cs.toArray e)) e size (some ⟨w.heap.size,0,none⟩) n n cs:=by
 have:=World.ownsRow_lit (e:=e) (size:=size) (base:=w0.heap.size) w cs.toArray n h.size hn (by simpa using hs);exact⟨by simpa using this,h.alloc _⟩
variable {P:Program} {t:TypeId} {bytes:Nat}
theorem zdY(T:Elem P t e size bytes)(ty:TypeId)(h:Own w0 w e size A n c xs){B:Option Addr}{m d:Nat}{ys:List Value}(hr:Reads w B m d size ys)(h1:∀u∈ys,u.oneCell'=true)(hb:(n+m)*bytes<=140737488355328)(h63:n+m<=maxLen):
 ∃A' c' w',(Builtin.append_ #[t,t] ty #[.slice A n c,.slice B m d]).run P w=.ok (.slice A' (n+m) c') w'/\Own w0 w' e size A' (n+m) c' (xs++ys)/\w.grownBy w' (Value.slice A n c).ownBlock:=by
 obtain⟨i,z,hi,hz,hsz,hby,hzs⟩:=T.info
 have shape:∀{v':Value}{w':World}{k:Nat}{zs:List Value},w'.ownsRow w0.heap.size e size v' k zs->∃A' c',v'=.slice A' k c':=by
  intro v' w' k zs hrow;rcases hrow.2 with⟨rfl,rfl⟩|⟨g,cap,cur,rfl,_⟩
  . exact⟨_,_,rfl⟩
  . exact⟨_,_,rfl⟩
 have go:∀(ad:Addr),B=some ad->(∀j u,ys[j]?=some u->w.cell? (ad.add j)=some u)->
  ∃A' c' w',(Builtin.append_ #[t,t] ty #[.slice A n c,.slice B m d]).run P w=.ok (.slice A' (n+m) c') w'/\Own w0 w' e size A' (n+m) c' (xs++ys)/\w.grownBy w' (Value.slice A n c).ownBlock:=by
  intro ad hB hcells;subst hB;obtain⟨v',w',hrun,h2,h3,_,_⟩:=run_append_own_at (P:=P) w w0.heap.size t ty e i z size bytes T.under hi hz hsz hby hzs T.pos _ n xs h.row ad m d ys hr.len hcells h1 h63 hb h.ext.size;obtain⟨A',c',rfl⟩:=shape h2;refine⟨A',c',w',hrun,⟨h2,?_⟩,h3⟩;exact Below.grown h.ext h3 h.ext.size (fun k hk=>(h.row.lt k hk).1)
 by_cases hm:m=0
 . subst hm
   have hys:ys=[]:=List.eq_nil_of_length_eq_zero (by simpa using hr.len);subst hys;rcases B with _|ad
   . refine⟨A,c,w,?_,by simpa using h,World.grownBy.refl w _⟩
     have:=h.reads.cap;rcases h.row.2 with⟨hv,rfl⟩|⟨g,cap,cur,hv,_,_,hnc,_⟩
     . cases hv
       simp[Builtin.append_,run_underlying T.under,sizeOf,typeInfo,hi,Builtin.lenOf,Builtin.firstCells]
     . cases hv
       simp[Builtin.append_,run_underlying T.under,sizeOf,typeInfo,hi,Builtin.lenOf,Builtin.firstCells,hnc,storeCells]
   . exact go ad rfl (by simp)
 . obtain⟨b,off,rfl,_,hc⟩:=hr.at_ (by omega)
   exact go _ rfl (fun j u hu=>by rw[zdM];exact hc j u hu)
theorem zba{ops:Array Oper}{rest:List Oper}{o:Oper}{a:Act}{Q:Exit->Act->World->Prop}(T:Elem P t e size bytes)(hgd:Region.wanted o (yielded ops a.tmps)=true)(s x:Operand)(ho:o.op=.call {callee:=.builtin .append,args:=#[s,x],argTypes:=#[t,t]})(hs:a.eval s=.slice A n c)(h:Own w0 w e size A n c xs){B:Option Addr}{m d:Nat}{ys:List Value}(hx:a.eval x=.slice B m d)(hr:Reads w B m d size ys)(h1:∀u∈ys,u.oneCell'=true)(hb:(n+m)*bytes<=140737488355328)(h63:n+m<=maxLen)(k:∀A' c' w',Own w0 w' e size A' (n+m) c' (xs++ys)->w.grownBy w' (Value.slice A n c).ownBlock->wpList P ops Q rest (a.put o.dst (.slice A' (n+m) c')) w'):wpList P ops Q (o::rest) a w:=by
 obtain⟨A',c',w',hrun,h2,h3⟩:=zdY T o.type h hr h1 hb h63;refine wpList_step fun _ hK=> ?_
 rw[if_pos hgd];unfold Oper.wp execOp;simp only[ho,resolve,invoke,builtin,Sem.run_bind,Sem.run_pure,Result.andThen_ok,List.map_toArray,List.map_cons,List.map_nil,hs,hx,hrun];exact hK _ _ (k A' c' w' h2 h3)
theorem zce(w:World)(u:Value)(e:TypeId){b:Nat}(hb:b=w.heap.size):Reads (w.alloc (.cells #[u] e)) (some ⟨b,0,none⟩) 1 1 1 [u]:=by
 subst hb
 exact⟨rfl,Nat.le_refl _,by simp[maxLen],fun _=>⟨w.heap.size,0,rfl,by simp,fun j x hx=>by
  rcases j with _|j
  . simp at hx;subst hx;exact World.cell?_alloc_new w #[u] e 0
  . simp at hx⟩⟩
theorem zaH{ops:Array Oper}{rest:List Oper}{o:Oper}{a:Act}{Q:Exit->Act->World->Prop}(T:Elem P t e 1 bytes)(hgd:Region.wanted o (yielded ops a.tmps)=true)(s x:Operand)(ho:o.op=.call {callee:=.builtin .append,args:=#[s,x],argTypes:=#[t,t]})(hs:a.eval s=.slice A n c)(h:Own w0 w e 1 A n c xs){u:Value}{b:Nat}(hx:a.eval x=.slice (some ⟨b,0,none⟩) 1 1)(hb0:b=w.heap.size)(h1:u.oneCell'=true)(hb:(n+1)*bytes<=140737488355328)(h63:n+1<=maxLen)(k:∀A' c' w',Own w0 w' e 1 A' (n+1) c' (xs++[u])->(w.alloc (.cells #[u] e)).grownBy w' (Value.slice A n c).ownBlock->wpList P ops Q rest (a.put o.dst (.slice A' (n+1) c')) w'):
 wpList P ops Q (o::rest) a (w.alloc (.cells #[u] e)):=
 zba T hgd s x ho hs (h.alloc _) hx (zce w u e hb0) (by simpa using h1) hb h63 k
theorem zoa{ops:Array Oper}{o:Oper}{a:Act}{K:Act->World->Prop}{Q:Exit->Act->World->Prop}{E:Prop}(T:Elem P t e size bytes)(hgd:o.guard=none)(s x:Operand)(ho:o.op=.call {callee:=.builtin .append,args:=#[s,x],argTypes:=#[t,t]})(hs:a.eval s=.slice A n c)(h:Own w0 w e size A n c xs){B:Option Addr}{m d:Nat}{ys:List Value}(hx:a.eval x=.slice B m d)(hr:Reads w B m d size ys)(h1:∀u∈ys,u.oneCell'=true)(hb:(n+m)*bytes<=140737488355328)(h63:n+m<=maxLen)(k:∀A' c' w',Own w0 w' e size A' (n+m) c' (xs++ys)->w.grownBy w' (Value.slice A n c).ownBlock->K (a.put o.dst (.slice A' (n+m) c')) w'):
 if Region.wanted o (yielded ops a.tmps)=true then Oper.wp P o a w K Q else E:=by
 have hw:Region.wanted o (yielded ops a.tmps)=true:=by simp[Region.wanted,hgd]
 rw[if_pos hw];obtain⟨A',c',w',hrun,h2,h3⟩:=zdY T o.type h hr h1 hb h63;unfold Oper.wp execOp;simp only[ho,resolve,invoke,builtin,Sem.run_bind,Sem.run_pure,Result.andThen_ok,List.map_toArray,List.map_cons,List.map_nil,hs,hx,hrun];exact k A' c' w' h2 h3
end
theorem zdZ(bs:List UInt8):∀u∈bs.map bv,u.oneCell'=true:=by
 intro u hu;obtain⟨b,_,rfl⟩:=List.mem_map.1 hu;rfl
variable{b:Nat}
theorem zjA(w:World)(e:TypeId)(vs:List Value)(bs:List UInt8)(n:Nat)(hb:b=w.heap.size)(hv:vs=bs.map bv)(hl:bs.length=n)(hn:n<=maxLen):
 zac (w.alloc (.cells vs.toArray e)) (some ⟨b,0,none⟩) n n bs:=by
 subst hv hb;exact(Own.made (Ext.refl w) e 1 (cs:=bs.map bv) (n:=n) hn (by simpa using hl)).reads
theorem bv_of(x:Nat)(h:x<256):bv x.toUInt8=.int .u8 (x:Int):=by
 unfold bv;congr 2;show(x % 256:Nat)=x;omega
theorem zlP(x:Nat)(h:x<256):x.toUInt8.toNat=x:=by
 show(x % 256:Nat)=x;omega
section
variable {P:Program} {t e:TypeId} {size bytes:Nat} {w:World} {A:Option Addr} {n c:Nat} {xs:List Value}
theorem zbx(T:Elem P t e size bytes)(h:Reads w A n c size xs)(k:IntKind){l:Nat}(hl:l<=n):
 ∃A',(∀W:World,(Instr.slice t (.slice A n c) (some (.int k (l:Int))) none none).run P W=.ok (.slice A' (n - l) (c - l)) W)/\Reads w A' (n - l) (c - l) size (xs.drop (l*size)):=by
 obtain⟨i,z,hi,_,hsz,_,_⟩:=T.info;refine⟨if c=l then A else A.map (·.add (l*size)),fun W=> ?_,?_⟩
 . simp[Instr.slice,run_underlying T.under,Instr.sliceBounds,run_sliceBound,sizeOf,typeInfo,hi,hsz,(by omega:(l:Int)<=n)]
 . have:=h.cut hl (Nat.le_refl n)
   rwa[List.take_of_length_le (by rw[h.len];exact Nat.le_refl _)]at this
theorem zgR(T:Elem P t e size bytes)(h:Reads w A n c size xs)(k:IntKind){m:Nat}(hm:m<=n):
 ∃A',(∀W:World,(Instr.slice t (.slice A n c) none (some (.int k (m:Int))) none).run P W=.ok (.slice A' m c) W)/\Reads w A' m c size (xs.take (m*size)):=by
 obtain⟨i,z,hi,_,_,_,_⟩:=T.info;have hc:=h.cap;refine⟨if c=0 then A else A.map (·.add (0*size)),fun W=> ?_,?_⟩
 . simp[Instr.slice,run_underlying T.under,Instr.sliceBounds,run_sliceBound,sizeOf,typeInfo,hi,(by omega:(m:Int)<=c)]
 . have:=h.cut (Nat.zero_le m) hm
   simpa using this
theorem ziT(T:Elem P t e size bytes)(h:Reads w A n c size xs)(k k':IntKind){l m:Nat}(hl:l<=m)(hm:m<=n):
 ∃A',(∀W:World,(Instr.slice t (.slice A n c) (some (.int k (l:Int))) (some (.int k' (m:Int))) none).run P W=.ok (.slice A' (m - l) (c - l)) W)/\Reads w A' (m - l) (c - l) size ((xs.take (m*size)).drop (l*size)):=by
 obtain⟨i,z,hi,_,hsz,_,_⟩:=T.info;have hc:=h.cap;refine⟨if c=l then A else A.map (·.add (l*size)),fun W=> ?_,h.cut hl hm⟩;simp[Instr.slice,run_underlying T.under,Instr.sliceBounds,run_sliceBound,sizeOf,typeInfo,hi,hsz,(by omega:(m:Int)<=c),(by omega:(l:Int)<=m)]
end
theorem zob(ts:Array TypeId)(t:TypeId)(k k':IntKind)(x y:Int)(w:World):(Builtin.min_ ts t #[.int k x,.int k' y]).run P w=.ok (.int k (min x y)) w:=by
 have:(if y<x then y else x)=min x y:=by split<;>omega
 simp[Builtin.min_,Builtin.min2,this]
theorem zjB(ts:Array TypeId)(t:TypeId)(k k':IntKind)(x y:Int)(w:World):(Builtin.max_ ts t #[.int k x,.int k' y]).run P w=.ok (.int k (max x y)) w:=by
 have:(if x<y then y else x)=max x y:=by split<;>omega
 simp[Builtin.max_,Builtin.max2,this]
def lenOf:Value->Nat
 |.slice _ m _=>m
 |_=>0
variable{n c:Nat}{A:Option Addr}
theorem zdx{n':Nat}(h:n=n'):Ending.returned (.slice A n c)=.returned (.slice A n' c):=by rw[h]
section
variable {w0 w w' w'':World} {e:TypeId} {size:Nat} {A:Option Addr} {n c:Nat} {xs:List Value} {bs:List UInt8}
theorem Ext.up(h:Ext w w')(k:Ext w' w''):Ext w w'':=h.trans k
theorem Reads.up(h:Reads w A n c size xs)(k:Ext w w'):Reads w' A n c size xs:=h.ext k
theorem zac.up(h:zac w A n c bs)(k:Ext w w'):zac w' A n c bs:=h.ext k
theorem Own.up(h:Own w0 w e size A n c xs)(k:Ext w w'):Own w0 w' e size A n c xs:=h.later k
theorem Own.bytes(h:Own w0 w e 1 A n c (bs.map bv)):zac w A n c bs:=h.reads
end
variable{cs:Array Value}
theorem Ext.new_cells(h:Ext (w.alloc (.cells cs t)) w'):
 (∀i,w'.cell? ⟨w.heap.size,i,none⟩=cs[i]?)/\(∀i,w'.frozen? ⟨w.heap.size,i,none⟩=false)/\w.heap.size<w'.heap.size:=
 ⟨(zfl h).1,(zfl h).2.1,(zfl h).2.2⟩
variable{α:Type}
theorem zby{f:α->List Value}(hf:∀x,(f x).length=size)(l:List α):(l.flatMap f).length=l.length*size:=by
 induction l with
 |nil=>simp
 |cons r l ih=>rw[List.flatMap_cons,List.length_append,ih,List.length_cons,hf,Nat.succ_mul];omega
theorem Reads.elem{f:α->List Value}(hf:∀x,(f x).length=size)(hs:0<size){l:List α}(h:Reads w A n c size (l.flatMap f)){k:Nat}(hk:k<n):
 ∃b off x,A=some ⟨b,off,none⟩/\l[k]?=some x/\b<w.heap.size/\∀j u,(f x)[j]?=some u->w.cell? ⟨b,off+k*size+j,none⟩=some u:=by
 have hl:l.length=n:=by have:=h.len;rw[zby hf]at this;exact Nat.eq_of_mul_eq_mul_right hs this
 obtain⟨b,off,e,hb,hc⟩:=h.at_ (by omega);have hx:l[k]?=some (l[k]'(by omega)):=List.getElem?_eq_getElem (by omega);refine⟨b,off,_,e,hx,hb,fun j u hu=> ?_⟩;rw[Nat.add_assoc];refine hc (k*size+j) u ?_
 have hsp:l=l.take k++l[k]'(by omega)::l.drop (k+1):=by
  rw[<-List.drop_eq_getElem_cons (by omega),List.take_append_drop]
 have hlt:(l.take k).length=k:=by rw[List.length_take];omega
 rw[hsp,List.flatMap_append,List.flatMap_cons,List.getElem?_append_right (by rw[zby hf,hlt];omega),zby hf,hlt,Nat.add_sub_cancel_left]
 have hj5:j<size:=by
  rcases Nat.lt_or_ge j size with h|h
  . exact h
  . rw[List.getElem?_eq_none (by rw[hf];exact h)]at hu;cases hu
 rw[List.getElem?_append_left (by rw[hf];exact hj5)];exact hu
structure Blk(w:World)(b:Nat)(cs:Array Value):Prop where
 cell:∀i,w.cell? ⟨b,i,none⟩=cs[i]?
 free:∀i,w.frozen? ⟨b,i,none⟩=false
 lt:b<w.heap.size
theorem Blk.up(h:Blk w b cs)(k:Ext w w'):Blk w' b cs:=
 ⟨fun i=>(k.cell (p:=⟨b,i,none⟩) h.lt).trans (h.cell i),fun i=>(k.frozen (p:=⟨b,i,none⟩) h.lt).trans (h.free i),Nat.lt_of_lt_of_le h.lt k.size⟩
theorem Ext.new_blk(h:Ext (w.alloc (.cells cs t)) w'):Blk w' w.heap.size cs:=
 ⟨h.new_cells.1,h.new_cells.2.1,h.new_cells.2.2⟩
section
variable {P:Program} {w0 w:World} {e t:TypeId} {size bytes:Nat} {A:Option Addr} {n c:Nat} {xs:List Value}
theorem zdy(w:World)(cs:List Value)(e:TypeId){b:Nat}(hb:b=w.heap.size)(hs:cs.length=size):Reads (w.alloc (.cells cs.toArray e)) (some ⟨b,0,none⟩) 1 1 size cs:=by
 subst hb;exact(Own.made (Ext.refl w) e size (cs:=cs) (n:=1) (by simp[maxLen]) (by omega)).reads
theorem zkK{ops:Array Oper}{rest:List Oper}{o:Oper}{a:Act}{Q:Exit->Act->World->Prop}(T:Elem P t e size bytes)(hgd:Region.wanted o (yielded ops a.tmps)=true)(s x:Operand)(ho:o.op=.call {callee:=.builtin .append,args:=#[s,x],argTypes:=#[t,t]})(hs:a.eval s=.slice A n c)(h:Own w0 w e size A n c xs){cs:List Value}{b:Nat}(hx:a.eval x=.slice (some ⟨b,0,none⟩) 1 1)(hb0:b=w.heap.size)(hcs:cs.length=size)(h1:∀u∈cs,u.oneCell'=true)(hb:(n+1)*bytes<=140737488355328)(h63:n+1<=maxLen)(k:∀A' c' w',Own w0 w' e size A' (n+1) c' (xs++cs)->(w.alloc (.cells cs.toArray e)).grownBy w' (Value.slice A n c).ownBlock->wpList P ops Q rest (a.put o.dst (.slice A' (n+1) c')) w'):
 wpList P ops Q (o::rest) a (w.alloc (.cells cs.toArray e)):=
 zba T hgd s x ho hs (h.alloc _) hx (zdy w cs e hb0 hcs) h1 hb h63 k
theorem zoc{ops:Array Oper}{o:Oper}{a:Act}{K:Act->World->Prop}{Q:Exit->Act->World->Prop}{E:Prop}(T:Elem P t e size bytes)(hgd:o.guard=none)(s x:Operand)(ho:o.op=.call {callee:=.builtin .append,args:=#[s,x],argTypes:=#[t,t]})(hs:a.eval s=.slice A n c)(h:Own w0 w e size A n c xs){cs:List Value}{b:Nat}(hx:a.eval x=.slice (some ⟨b,0,none⟩) 1 1)(hb0:b=w.heap.size)(hcs:cs.length=size)(h1:∀u∈cs,u.oneCell'=true)(hb:(n+1)*bytes<=140737488355328)(h63:n+1<=maxLen)(k:∀A' c' w',Own w0 w' e size A' (n+1) c' (xs++cs)->(w.alloc (.cells cs.toArray e)).drew.grownBy w' (Value.slice A n c).ownBlock->K (a.put o.dst (.slice A' (n+1) c')) w'):
 if Region.wanted o (yielded ops a.tmps)=true then Oper.wp P o a (w.alloc (.cells cs.toArray e)).drew K Q else E:=
 zoa T hgd s x ho hs (h.alloc _).drew hx ((zdy w cs e hb0 hcs).ext (Ext.refl _).drew) h1 hb h63 k
theorem zbp{W w4:World}(own:Own w0 w e size A n c xs)(hg:W.grownBy w4 (Value.slice A n c).ownBlock){p:Addr}(h1:w.heap.size<=p.block)(h2:p.block<W.heap.size):w4.cell? p=W.cell? p:=
 World.cell?_of_block (hg.block p.block h2 (fun e=>by have:=(own.row.lt p.block e.symm).2;omega))
end
variable{W:World}
theorem Ext.keep(X:Ext w W):Ext w W/\∀b o,b<w.heap.size->W.cell? ⟨b,o,none⟩=w.cell? ⟨b,o,none⟩:=⟨X,fun b o h=>X.cell (p:=⟨b,o,none⟩) h⟩
theorem Ext.new_blk_drew(h:Ext (w.alloc (.cells cs t)).drew w'):Blk w' w.heap.size cs:=Ext.new_blk ((Ext.refl _).drew.trans h)
variable{g:Nat}
theorem zod{cur:Array Value}{fr:Nat×Nat}(h:w.heap[g]?=some (.cells cur e fr))(o:Nat)(u:Value):
 (w.setCell ⟨g,o,none⟩ u).heap[g]?=some (.cells (cur.setIfInBounds o u) e fr):=by
 simp[World.setCell,Array.getElem?_modify,h]
theorem zlQ{g:Nat}{e:TypeId}{fr:Nat×Nat}:∀(vs:List Value)(o:Nat)(w:World)(cur:Array Value),w.heap[g]?=some (.cells cur e fr)->
 ∃cur',(w.setCells g o vs).heap[g]?=some (.cells cur' e fr)/\cur'.size=cur.size/\∀i,i<o->cur'[i]?=cur[i]?
 |[],o,w,cur,h=>⟨cur,h,rfl,fun _ _=>rfl⟩
 |v::r,o,w,cur,h=>by
  obtain⟨cur',h1,h2,h3⟩:=zlQ r (o+1) (w.setCell ⟨g,o,none⟩ v) _ (zod h o v);refine⟨cur',h1,by rw[h2];simp,fun i hi=> ?_⟩;rw[h3 i (by omega),Array.getElem?_setIfInBounds];rw[if_neg (by omega)]
variable{w0:World}
theorem Ext.sets(hg:w0.heap.size<=g):∀(vs:List Value)(o:Nat)(w:World),Ext w0 w->Ext w0 (w.setCells g o vs)
 |[],_,_,h=>h
 |v::r,o,w,h=>Ext.sets hg r (o+1) _ (h.setCell hg v)
def Only(g:Nat)(w w':World):Prop:=w.grownBy w' (some g)
section
variable {g:Nat} {w w' w'':World}
theorem Only.refl(g:Nat)(w:World):Only g w w:=World.grownBy.refl w _
theorem Only.ext(h:Only g w w')(k:Ext w' w''):Only g w w'':=
 ⟨k.os.trans h.os,k.tape.trans h.tape,k.output.trans h.output,Nat.le_trans h.size k.size,fun i hi hn=>(k.block i (Nat.lt_of_lt_of_le hi h.size)).trans (h.block i hi hn)⟩
theorem Only.set(h:Only g w w')(o:Nat)(u:Value):Only g w (w'.setCell ⟨g,o,none⟩ u):=
 ⟨h.os,h.tape,h.output,by simpa[World.setCell] using h.size,fun i hi hn=>(Below.heap_setCell w' _ u i (by
  rintro rfl
  exact hn rfl)).trans (h.block i hi hn)⟩
theorem Only.cell(h:Only g w w'){p:Addr}(hp:p.block<w.heap.size)(hg:p.block≠g):w'.cell? p=w.cell? p:=
 World.cell?_of_block (h.block p.block hp (fun e=>hg (by injection e)))
theorem Only.toExt{w0:World}(h:Only g w w')(hE:Ext w0 w)(hg:w0.heap.size<=g):Ext w0 w':=
 Below.grown hE h hE.size (fun k hk=>by injection hk with hk;omega)
end
section
variable {w0 w:World} {e:TypeId} {size:Nat} {g n c:Nat} {xs:List Value}
theorem Own.base(h:Own w0 w e size (some ⟨g,0,none⟩) n c xs):w0.heap.size<=g/\g<w.heap.size:=by
 rcases h.row.2 with⟨hv,_⟩|⟨g',cap,cur,hv,hg,hh,_⟩
 . cases hv
 . cases hv
   exact⟨hg,(Array.getElem?_eq_some_iff.1 hh).1⟩
theorem Own.put(h:Own w0 w e size (some ⟨g,0,none⟩) n c xs)(o:Nat)(u:Value):Own w0 (w.setCell ⟨g,o,none⟩ u) e size (some ⟨g,0,none⟩) n c (xs.set o u):=by
 have hE:=h.ext;rcases h.row.2 with⟨hv,_⟩|⟨g',cap,cur,hv,hg,hh,hnc,hcm,hcs,ht⟩
 . cases hv
 . cases hv
   refine⟨⟨by rw[List.length_set];exact h.row.1,.inr ⟨g,c,_,rfl,hg,zod hh o u,hnc,hcm,by simpa using hcs,?_⟩⟩,hE.setCell hg u⟩;rw[Array.toList_setIfInBounds,<-ht,List.take_set]
theorem Own.head(h:Own w0 w e size (some ⟨g,0,none⟩) n c xs){k o:Nat}(hk:k<=n)(ho:k*size<=o)(vs:List Value):Own w0 (w.setCells g o vs) e size (some ⟨g,0,none⟩) k c (xs.take (k*size)):=by
 have hE:=h.ext;have hl:=h.row.1;rcases h.row.2 with⟨hv,_⟩|⟨g',cap,cur,hv,hg,hh,hnc,hcm,hcs,ht⟩
 . cases hv
 . cases hv
   obtain⟨cur',h1,h2,h3⟩:=zlQ vs o w cur hh;have hks:k*size<=n*size:=Nat.mul_le_mul_right _ hk;refine⟨⟨by rw[List.length_take];omega,.inr ⟨g,c,cur',rfl,hg,h1,by omega,hcm,by rw[h2];exact hcs,?_⟩⟩,Ext.sets hg vs o w hE⟩;apply List.ext_getElem?;intro i;by_cases hi:i<k*size
   . rw[List.getElem?_take_of_lt hi,List.getElem?_take_of_lt hi,<-ht,List.getElem?_take_of_lt (by omega)]
     simpa using h3 i (by omega)
   . rw[List.getElem?_eq_none (by rw[List.length_take];omega),List.getElem?_eq_none (by rw[List.length_take];omega)]
end
theorem zbU(z:Array Value)(n:Nat):(Builtin.zeroCells z n).toList.length=n*z.size:=by simp[Builtin.zeroCells]
theorem ziU(w:World)(t e:TypeId)(z:Value)(ht:P.underlying t=some (.slice e))(hv:∀w,(zeroValue e).run P w=.ok z w)(h1:∀n,∀v∈(Builtin.zeroCells z.cells n).toList,v.oneCell'=true)(b o n c:Nat)(hc:∀j,j<n*z.cells.size->(w.cell? ⟨b,o+j,none⟩).isSome=true)(hf:∀j,j<n*z.cells.size->w.frozen? ⟨b,o+j,none⟩=false):
 ∃vs,∀ty,(Builtin.clear_ #[t] ty #[.slice (some ⟨b,o,none⟩) n c]).run P w=.ok (.tuple #[]) (w.setCells b o vs):=by
 rcases n with _|m
 . exact⟨[],fun ty=>by simp[Builtin.clear_,run_underlying ht,World.setCells]⟩
 . have hst:=run_storeCells_cells (P:=P) b o (Builtin.zeroCells z.cells (m+1)).toList 0 w (by rw[zbU];simpa using hc) (by rw[zbU];simpa using hf) (h1 _)
   simp only[Nat.add_zero]at hst;exact⟨_,fun ty=>by simp[Builtin.clear_,run_underlying ht,hv,hst];rfl⟩
variable{xs ys:List Value}{m d size':Nat}{B:Option Addr}{e':TypeId}{w1:World}
theorem Own.other(h:Own w0 w e size A n c xs)(o:Own w1 w e' size' B m d ys)(hne:e≠e')(hA:A=some ⟨g,0,none⟩):
 (Value.slice B m d).ownBlock≠some g:=by
 subst hA;rcases h.row.2 with⟨hv,_⟩|⟨g1,_,cur,hv,_,hh,_⟩
 . cases hv
 . cases hv
   rcases o.row.2 with⟨hv2,_⟩|⟨g2,_,cur2,hv2,_,hh2,_⟩
   . cases hv2;simp[Value.ownBlock]
   . cases hv2
     intro he;have:g2=g:=by simpa[Value.ownBlock] using he
     subst this;rw[hh]at hh2;injection hh2 with hh2;injection hh2 with _ ht;exact hne ht
theorem Own.beside(h:Own w0 w e size A n c xs)(o:Own w1 w e' size' B m d ys)(hne:e≠e')(hE:Ext w W)(hg:W.grownBy w' (Value.slice B m d).ownBlock)(hx:Ext w0 w'):Own w0 w' e size A n c xs:=by
 have hW:=h.up hE;refine⟨⟨hW.row.1,?_⟩,hx⟩;rcases hW.row.2 with h2|⟨g,cap,cur,hv,hb,hh,r⟩
 . exact .inl h2
 . refine .inr ⟨g,cap,cur,hv,hb,?_,r⟩
   have hA:A=some ⟨g,0,none⟩:=by injection hv
   have hn:=h.other o hne hA;rw[hg.block g (Array.getElem?_eq_some_iff.1 hh).1 (fun e=>hn e.symm)];exact hh
structure Rows(w0 w:World)(eb:TypeId)(vs:List Value)(rows:List (List UInt8)):Prop where
 len:vs.length=rows.length
 row:∀(i:Nat) r,rows[i]?=some r->∃A n c,vs[i]?=some (.slice A n c)/\r.length=n/\Own w0 w eb 1 A n c (r.map bv)
section
variable {w0 w w':World} {eb:TypeId} {vs:List Value} {rows:List (List UInt8)}
end
def BlkT(w:World)(b:Nat)(t:TypeId)(cs:Array Value):Prop:=w.heap[b]?=some (.cells cs t (0,0))
section
variable {w w':World} {b:Nat} {t:TypeId} {cs:Array Value}
theorem BlkT.lt(h:BlkT w b t cs):b<w.heap.size:=(Array.getElem?_eq_some_iff.1 h).1
theorem BlkT.cell(h:BlkT w b t cs)(i:Nat):w.cell? ⟨b,i,none⟩=cs[i]?:=cell_of_row w b i cs t (0,0) h
theorem BlkT.free(h:BlkT w b t cs)(i:Nat):w.frozen? ⟨b,i,none⟩=false:=by
 unfold BlkT at h;simp[World.frozen?,h]
theorem BlkT.new(w:World)(t:TypeId)(cs:Array Value){b:Nat}(hb:b=w.heap.size):BlkT (w.alloc (.cells cs t)) b t cs:=by subst hb;exact heap_alloc_new w _
theorem BlkT.drew(h:BlkT w b t cs):BlkT w.drew b t cs:=h
theorem BlkT.alloc(h:BlkT w b t cs)(o:Obj):BlkT (w.alloc o) b t cs:=(Below.heap_alloc w o b h.lt).trans h
theorem BlkT.up(h:BlkT w b t cs)(k:Ext w w'):BlkT w' b t cs:=(k.block b h.lt).trans h
theorem BlkT.set_(h:BlkT w b t cs)(i:Nat)(u:Value):BlkT (w.setCell ⟨b,i,none⟩ u) b t (cs.setIfInBounds i u):=by
 unfold BlkT at h⊢;simp[World.setCell,Array.getElem?_modify,h]
theorem BlkT.far(h:BlkT w b t cs){p:Addr}(hp:b≠p.block)(u:Value):BlkT (w.setCell p u) b t cs:=(Below.heap_setCell w p u b hp).trans h
theorem BlkT.beside{w0:World}{e:TypeId}{size n c:Nat}{A:Option Addr}{xs:List Value}(h:BlkT w b t cs)(own:Own w0 w e size A n c xs)(hne:e≠t)(hg:w.grownBy w' (Value.slice A n c).ownBlock):BlkT w' b t cs:=by
 refine(hg.block b h.lt (fun q=> ?_)).trans h;rcases own.row.2 with⟨hv,_⟩|⟨g,cap,cur,hv,_,hh,_⟩
 . cases hv;simp[Value.ownBlock]at q
 . cases hv
   have hq:b=g:=by simpa[Value.ownBlock] using q
   subst hq;unfold BlkT at h;rw[h]at hh;injection hh with hh;injection hh with _ ht;exact hne ht.symm
theorem Own.far{w0:World}{e:TypeId}{size n c:Nat}{A:Option Addr}{xs:List Value}(own:Own w0 w e size A n c xs)(h:BlkT w b t cs)(hne:e≠t)(hb:w0.heap.size<=b)(i:Nat)(u:Value):Own w0 (w.setCell ⟨b,i,none⟩ u) e size A n c xs:=by
 refine⟨⟨own.row.1,?_⟩,own.ext.setCell hb u⟩;rcases own.row.2 with h2|⟨g,cap,cur,hv,hg,hh,r⟩
 . exact .inl h2
 . refine .inr ⟨g,cap,cur,hv,hg,?_,r⟩
   have hgb:g≠b:=by
    rintro rfl;unfold BlkT at h;rw[h]at hh;injection hh with hh;injection hh with _ ht;exact hne ht.symm
   rw[Below.heap_setCell w ⟨b,i,none⟩ u g hgb];exact hh
end
end Go.Proofs.YtpicpebolghcfaaGreatDoor
