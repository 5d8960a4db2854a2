/- Words of my own for memory: pieces of fields. -/
import Derived.Test.YtlhbllaojjelcaaGreatQhW14o
import Derived.Test.YtlhbllaojjelcaaGreatQhW17
import Derived.Test.YtlhbllaojjelcaaGreatQhW16

set_option linter.unusedVariables false
namespace Go.Proofs.YtlhbllaojjelcaaGreat
open Go.RowKit
section
variable {w0 w w' w'':World} {s:Nat->Prop}
theorem Own.stays{e:TypeId}{size n c:Nat}{A:Option Addr}{xs:List Value}(h:Own w0 w e size A n c xs)(k:Stays s w w')(hE:Ext w0 w')(hs:∀b,(Value.slice A 0 0).ownBlock=some b->s b):Own w0 w' e size A n c xs:=by
 refine⟨⟨h.row.1,?_⟩,hE⟩;rcases h.row.2 with h2|⟨g,cap,cur,hv,hg,hh,r⟩
 . exact .inl h2
 . refine .inr ⟨g,cap,cur,hv,hg,?_,r⟩
   rw[k.block g (hs g (by injection hv with hA;rw[hA];rfl)) (Array.getElem?_eq_some_iff.1 hh).1];exact hh
theorem BlkT.stays{b:Nat}{t:TypeId}{cs:Array Value}(h:BlkT w b t cs)(k:Stays s w w')(hs:s b):BlkT w' b t cs:=(k.block b hs h.lt).trans h
theorem MapV.stays{K:Type}{b:Nat}{enc:K->Value}{ok:K->Prop}{M:List (K×Value)}(h:MapV w b enc ok M)(k:Stays s w w')(hs:s b):MapV w' b enc ok M:=h.same (k.block b hs h.lt)
theorem Own.typed{e:TypeId}{size n c b:Nat}{A:Option Addr}{xs:List Value}(h:Own w0 w e size A n c xs)(hb:(Value.slice A 0 0).ownBlock=some b):∃cur,w.heap[b]?=some (.cells cur e (0,0)):=by
 rcases h.row.2 with⟨hv,_⟩|⟨g,cap,cur,hv,hg,hh,r⟩
 . injection hv with hA
   rw[hA]at hb;cases hb
 . injection hv with hA
   rw[hA]at hb;cases hb;exact⟨cur,hh⟩
theorem Own.new_lt{e:TypeId}{size n c b:Nat}{A:Option Addr}{xs:List Value}(h:Own w0 w e size A n c xs)(hb:(Value.slice A 0 0).ownBlock=some b):w0.heap.size<=b/\b<w.heap.size:=h.row.lt b (by rw[zak A n c 0 0];exact hb)
end
structure zaP where
 b:Nat
 f:zaa
 A:Option Addr
 c:Nat
 ws:List Nat
 B:Option Addr
 d:Nat
 vs:List BRow
def zlE(p:zaP):Array Value:=#[.string p.f.name,.int .i64 p.f.number,.int .i64 p.f.kind,.bool p.f.rep,.bool p.f.packed,.int .i64 p.f.of_,.slice p.A p.ws.length p.c,.slice p.B p.vs.length p.d]
def ptrP(p:zaP):Value:=.pointer (some ⟨p.b,0,none⟩)
def Foot(p:zaP)(b:Nat):Prop:=b=p.b\/(Value.slice p.A 0 0).ownBlock=some b\/(Value.slice p.B 0 0).ownBlock=some b
structure zbo(w0 w:World)(p:zaP):Prop where
 blk:BlkT w p.b 222 (zlE p)
 new:w0.heap.size<=p.b
 words:Own w0 w 100 1 p.A p.ws.length p.c (p.ws.map uv)
 small:∀x∈p.ws,x<18446744073709551616
 vals:Own w0 w 46 1 p.B p.vs.length p.d (p.vs.map browV)
 each:∀r∈p.vs,zab w0 r.A r.n r.c r.bs
 ok:p.f.Ok
section
variable {w0 w w':World} {s:Nat->Prop} {p p':zaP} {b:Nat}
theorem zbo.lt(h:zbo w0 w p)(hb:Foot p b):w0.heap.size<=b/\b<w.heap.size:=by
 rcases hb with rfl|hb|hb
 . exact⟨h.new,h.blk.lt⟩
 . exact h.words.new_lt hb
 . exact h.vals.new_lt hb
theorem zbo.stays(h:zbo w0 w p)(k:Stays s w w')(hE:Ext w0 w')(hs:∀b,Foot p b->s b):zbo w0 w' p:=
 ⟨h.blk.stays k (hs _ (.inl rfl)),h.new,h.words.stays k hE (fun b hb=>hs b (.inr (.inl hb))),h.small,h.vals.stays k hE (fun b hb=>hs b (.inr (.inr hb))),h.each,h.ok⟩
theorem zbo.typed(h:zbo w0 w p)(hb:Foot p b):∃cur t,w.heap[b]?=some (.cells cur t (0,0))/\(t=222\/t=100\/t=46):=by
 rcases hb with rfl|hb|hb
 . exact⟨_,_,h.blk,.inl rfl⟩
 . obtain⟨cur,hc⟩:=h.words.typed hb
   exact⟨_,_,hc,.inr (.inl rfl)⟩
 . obtain⟨cur,hc⟩:=h.vals.typed hb
   exact⟨_,_,hc,.inr (.inr rfl)⟩
theorem zbo.other(h:zbo w0 w p)(hb:Foot p b){w1:World}{e:TypeId}{size n c:Nat}{A:Option Addr}{xs:List Value}(o:Own w1 w e size A n c xs)(h1:e≠222)(h2:e≠100)(h3:e≠46):(Value.slice A 0 0).ownBlock≠some b:=by
 intro q;obtain⟨cur,t,hc,ht⟩:=h.typed hb;obtain⟨cur',hc'⟩:=o.typed q;rw[hc]at hc';injection hc' with hc';injection hc' with _ he;subst he;rcases ht with rfl|rfl|rfl
 . exact h1 rfl
 . exact h2 rfl
 . exact h3 rfl
theorem zbo.up(h:zbo w0 w p)(k:Ext w w'):zbo w0 w' p:=h.stays (s:=fun _=>True) (Stays.of_ext k) (h.words.ext.trans k) (fun _ _=>trivial)
end
structure Grew(w0 w w':World)(p p':zaP):Prop where
 at_:zbo w0 w' p'
 b:p'.b=p.b
 f:p'.f=p.f
 stays:Stays (fun b=>¬Foot p b) w w'
 foot:∀b,Foot p' b->Foot p b\/w.heap.size<=b
section
variable {w0 w W w2:World} {p:zaP} {A':Option Addr} {c':Nat}
theorem zhM(hp:zbo w0 w p)(E1:Ext w W){ys:List Nat}{m:Nat}(hm:ys.length=m)(hs:∀x∈ys,x<18446744073709551616)(own:Own w0 w2 100 1 A' (p.ws.length+m) c' (p.ws.map uv++ys.map uv))(g:W.grownBy w2 (Value.slice p.A p.ws.length p.c).ownBlock)(mv:Moved W p.A A'):Grew w0 w (w2.setCell ⟨p.b,6,none⟩ (.slice A' (p.ws.length+m) c')) p {p with A:=A',c:=c',ws:=p.ws++ys}:=by
 subst hm;have h1:=hp.up E1;have B2:=h1.blk.beside h1.words (by decide) g;have V2:=h1.vals.beside h1.words (by decide) (Ext.refl _) g own.ext;have hnb:w0.heap.size<=p.b:=hp.new;refine⟨⟨?_,hp.new,?_,?_,V2.far B2 (by decide) hnb 6 _,hp.each,hp.ok⟩,rfl,rfl,?_,?_⟩
 . have:=B2.set_ 6 (.slice A' (p.ws.length+ys.length) c')
   simpa[zlE] using this
 . have:=own.far B2 (by decide) hnb 6 (.slice A' (p.ws.length+ys.length) c')
   simpa using this
 . intro x hx
   rcases List.mem_append.1 hx with hx|hx
   . exact hp.small x hx
   . exact hs x hx
 . refine Stays.set (((Stays.of_ext E1).trans (Stays.grown g (fun k hk=> ?_)))) (fun h=>h (.inl rfl)) _
   intro h;rw[zak p.A _ _ 0 0]at hk;exact h (.inr (.inl hk))
 . intro b hb
   rcases hb with hb|hb|hb
   . exact .inl (.inl hb)
   . rcases mv with e|e
     . exact .inl (.inr (.inl (e▸hb)))
     . refine .inr ?_
       have hb:(Value.slice A' 0 0).ownBlock=some b:=hb;rw[e]at hb;injection hb with hb;have:=E1.size;omega
   . exact .inl (.inr (.inr hb))
theorem znx(hp:zbo w0 w p)(E1:Ext w W){r:BRow}(hr:zab w0 r.A r.n r.c r.bs)(own:Own w0 w2 46 1 A' (p.vs.length+1) c' (p.vs.map browV++[browV r]))(g:W.grownBy w2 (Value.slice p.B p.vs.length p.d).ownBlock)(mv:Moved W p.B A'):Grew w0 w (w2.setCell ⟨p.b,7,none⟩ (.slice A' (p.vs.length+1) c')) p {p with B:=A',d:=c',vs:=p.vs++[r]}:=by
 have h1:=hp.up E1;have B2:=h1.blk.beside h1.vals (by decide) g;have V2:=h1.words.beside h1.vals (by decide) (Ext.refl _) g own.ext;have hnb:w0.heap.size<=p.b:=hp.new;refine⟨⟨?_,hp.new,V2.far B2 (by decide) hnb 7 _,hp.small,?_,?_,hp.ok⟩,rfl,rfl,?_,?_⟩
 . have:=B2.set_ 7 (.slice A' (p.vs.length+1) c')
   simpa[zlE] using this
 . have:=own.far B2 (by decide) hnb 7 (.slice A' (p.vs.length+1) c')
   simpa using this
 . intro x hx
   rcases List.mem_append.1 hx with hx|hx
   . exact hp.each x hx
   . rw[List.mem_singleton]at hx
     subst hx;exact hr
 . refine Stays.set (((Stays.of_ext E1).trans (Stays.grown g (fun k hk=> ?_)))) (fun h=>h (.inl rfl)) _
   intro h;rw[zak p.B _ _ 0 0]at hk;exact h (.inr (.inr hk))
 . intro b hb
   rcases hb with hb|hb|hb
   . exact .inl (.inl hb)
   . exact .inl (.inr (.inl hb))
   . rcases mv with e|e
     . exact .inl (.inr (.inr (e▸hb)))
     . refine .inr ?_
       have hb:(Value.slice A' 0 0).ownBlock=some b:=hb;rw[e]at hb;injection hb with hb;have:=E1.size;omega
end
structure Held(w0 wr:World)(base:Nat)(fs:List zaa)(bs:List UInt8)(V:Nat->List ViewD)(E:Nat->Option zaP)(R:Nat->Prop):Prop where
 each:∀i p,R i->E i=some p->zbo w0 wr p/\fs[i]?=some p.f/\p.ws=(V i).flatMap (zaw p.f bs)/\p.vs.map BRow.bs=(V i).flatMap (zam p.f bs)
 apart:∀i j p q,R i->R j->i≠j->E i=some p->E j=some q->∀b,Foot p b->¬Foot q b
 new:∀i p,R i->E i=some p->∀b,Foot p b->base<=b
section
variable {w0 wr w':World} {base:Nat} {fs:List zaa} {bs:List UInt8} {V V':Nat->List ViewD} {E:Nat->Option zaP} {R R':Nat->Prop} {s:Nat->Prop}
theorem Held.stays(h:Held w0 wr base fs bs V E R)(k:Stays s wr w')(hE:Ext w0 w')(hs:∀i p,R i->E i=some p->∀b,Foot p b->s b):Held w0 w' base fs bs V E R:=
 ⟨fun i p hi hp=>by
  obtain⟨h1,h2,h3,h4⟩:=h.each i p hi hp
  exact⟨h1.stays k hE (hs i p hi hp),h2,h3,h4⟩,h.apart,h.new⟩
theorem Held.less(h:Held w0 wr base fs bs V E R)(hR:∀i,R' i->R i):Held w0 wr base fs bs V E R':=
 ⟨fun i p hi=>h.each i p (hR i hi),fun i j p q hi hj=>h.apart i j p q (hR i hi) (hR j hj),fun i p hi=>h.new i p (hR i hi)⟩
theorem Held.put(h:Held w0 wr base fs bs V E R){i:Nat}{p':zaP}(hk:Stays s wr w')(hs:∀j p,R j->j≠i->E j=some p->∀b,Foot p b->s b)(hat:zbo w0 w' p')(hE:Ext w0 w')(hf:fs[i]?=some p'.f)(hw:p'.ws=(V' i).flatMap (zaw p'.f bs))(hv:p'.vs.map BRow.bs=(V' i).flatMap (zam p'.f bs))(hV:∀j,j≠i->V' j=V j)(hi:R i)(hft:∀b,Foot p' b->(∃p,E i=some p/\Foot p b)\/wr.heap.size<=b)(hbase:base<=wr.heap.size):Held w0 w' base fs bs V' (fun j=>if j=i then some p' else E j) R:=by
 have hk1:∀j p,R j->j≠i->E j=some p->∀b,Foot p b->∀q,E i=some q->¬Foot q b:=fun j p hj hne hp b hb q hq=>h.apart j i p q hj hi hne hp hq b hb
 have hap:∀j p,R j->j≠i->E j=some p->∀b,Foot p b->¬Foot p' b:=by
  intro j p hj hne hp b hb hb';rcases hft b hb' with⟨q,hq,hqb⟩|hlt
  . exact hk1 j p hj hne hp b hb q hq hqb
  . have:=((h.each j p hj hp).1.lt hb).2
    omega
 refine⟨fun j p hj hp=> ?_,fun j1 j2 p q hj1 hj2 hne hp hq b hb hqb=> ?_,fun j p hj hp b hb=> ?_⟩
 . by_cases hji:j=i
   . subst hji
     simp only[if_true]at hp;cases hp;exact⟨hat,hf,hw,hv⟩
   . rw[if_neg hji]at hp
     obtain⟨h1,h2,h3,h4⟩:=h.each j p hj hp;rw[hV j hji];exact⟨h1.stays hk hE (hs j p hj hji hp),h2,h3,h4⟩
 . by_cases h1:j1=i
   . rw[if_pos h1]at hp
     cases hp;have h2:j2≠i:=fun e=>hne (h1.trans e.symm)
     rw[if_neg h2]at hq;exact hap j2 q hj2 h2 hq b hqb hb
   . rw[if_neg h1]at hp
     by_cases h2:j2=i
     . rw[if_pos h2]at hq
       cases hq;exact hap j1 p hj1 h1 hp b hb hqb
     . rw[if_neg h2]at hq
       exact h.apart j1 j2 p q hj1 hj2 hne hp hq b hb hqb
 . by_cases hji:j=i
   . rw[if_pos hji]at hp
     cases hp;rcases hft b hb with⟨q,hq,hqb⟩|hlt
     . exact h.new i q hi hq b hqb
     . omega
   . rw[if_neg hji]at hp
     exact h.new j p hj hp b hb
end
def MetAt(w:World)(bm:Nat)(E:Nat->Option zaP):Prop:=
 ∃M,MapV w bm (fun x:Int=>Value.int .i64 x) (fun x=>(Lit.int .i64 x).wf=true) M/\∀i:Nat,getV (i:Int) M=(E i).map ptrP
section
variable {w w':World} {bm:Nat} {E:Nat->Option zaP} {s:Nat->Prop}
theorem MetAt.stays(h:MetAt w bm E)(k:Stays s w w')(hs:s bm):MetAt w' bm E:=by
 obtain⟨M,h1,h2⟩:=h;exact⟨M,h1.stays k hs,h2⟩
theorem MetAt.lt(h:MetAt w bm E):bm<w.heap.size:=by
 obtain⟨M,h1,h2⟩:=h;exact h1.lt
theorem MetAt.made(w:World):MetAt (w.alloc (.map #[] 0)) w.heap.size (fun _=>none):=⟨[],MapV.made w _ _,fun i=>rfl⟩
theorem MetAt.put(h:MetAt w bm E){i:Nat}{p p':zaP}(hp:E i=some p)(hb:p'.b=p.b):MetAt w bm (fun j=>if j=i then some p' else E j):=by
 obtain⟨M,h1,h2⟩:=h;refine⟨M,h1,fun j=> ?_⟩;by_cases hj:j=i
 . subst hj
   rw[h2,hp];simp[ptrP,hb]
 . rw[h2]
   simp[hj]
end
theorem zaJ{P:Program}{fn:Func}{p u:Tmp}{ty:TypeId}(h:fn.results=#[.cell p ty,.tmp u])(tmps:Array Value)(w:World)(g:Nat)(t:TypeId)(cs:Array Value)(fr:Nat×Nat)(d:TypeDesc)(hp:tmps.getD p undef=.pointer (some ⟨g,0,none⟩))(hg:w.heap[g]?=some (.cells cs t fr))(hu:P.underlying ty=some d)(hd:(match d with|.struct _|.array _ _=>true|_=>false)=true)(hi:(P.info? ty).map (·.size)=some cs.size):
 (results fn tmps).run P w=.ok (.tuple #[.agg cs,tmps.getD u undef]) w:=by
 have hp':tmps[p]?.getD undef=.pointer (some ⟨g,0,none⟩):=by simpa using hp
 simp[results,h,hp',asAddr,run_loadVar_row w g t ty cs fr d hg hu hd hi]
variable{n:Nat}
theorem zgC(w3:World)(h:n<=w3.heap.size):∃wb:World,Ext wb w3/\wb.heap.size=n:=by
 refine⟨{w3 with heap:=w3.heap.extract 0 n},⟨rfl,rfl,rfl,?_,fun b hb=> ?_⟩,?_⟩
 . simp
   try omega
 . have hb':b<(w3.heap.extract 0 n).size:=hb
   have hn:b<n:=by
    rw[Array.size_extract]at hb';omega
   show w3.heap[b]?=(w3.heap.extract 0 n)[b]?;rw[Array.getElem?_extract];simp;omega
 . simp
   try omega
section
variable {w0 w w' wb w3:World}
theorem ziI(h:Ext w0 w3)(k:Ext wb w3)(hn:w0.heap.size<=wb.heap.size):Ext w0 wb:=
 ⟨k.os.symm.trans h.os,k.tape.symm.trans h.tape,k.output.symm.trans h.output,hn,fun b hb=>(k.block b (Nat.lt_of_lt_of_le hb hn)).symm.trans (h.block b hb)⟩
end
variable{xs:List Value}{c:Nat}{A:Option Addr}{w:World}
theorem ziJ{l:Nat}(h:Reads w A n c 1 xs)(hl:l<=n):
 Reads w (if c=l then A else A.map (fun x=>x.add l)) (n - l) (c - l) 1 (xs.drop l)/\∀m b,UsesA (if c=l then A else A.map (fun x=>x.add l)) m b->(Value.slice A 0 0).ownBlock=some b:=by
 refine⟨?_,?_⟩
 . have:=h.cut hl (Nat.le_refl n)
   rw[List.take_of_length_le (by rw[h.len];exact Nat.le_refl _),Nat.mul_one]at this;exact this
 . rintro m b ⟨_,p,hp,rfl⟩
   split at hp
   . rw[hp];rfl
   . rcases A with _|⟨b',o,s⟩
     . cases hp
     . simp only[Option.map_some,Option.some.injEq]at hp
       subst hp;show some b'=some _;congr 1;unfold Addr.add;split<;>rfl
theorem zgD(n:Nat):(if(1:Int)<(n:Int)then(n:Int) - 1 else 0).toNat=n - 1:=by
 split<;>omega
variable{s:Nat->Prop}{w':World}
theorem Stays.set_new(h:Stays s w w'){p:Addr}(hp:w.heap.size<=p.block)(u:Value):Stays s w (w'.setCell p u):=
 ⟨by simpa[World.setCell] using h.size,fun b hs hb=>(Below.heap_setCell w' p u b (by omega)).trans (h.block b hs hb)⟩
theorem Stays.drew(h:Stays s w w'):Stays s w w'.drew:=⟨h.size,h.block⟩
variable{size b:Nat}{e:TypeId}{w0:World}
theorem Own.not_blk{t:TypeId}{cs:Array Value}(h:Own w0 w e size A n c xs)(k:BlkT w b t cs)(hne:e≠t){g:Nat}(hg:(Value.slice A 0 0).ownBlock=some g):g≠b:=by
 rintro rfl;obtain⟨cur,hc⟩:=h.typed hg;unfold BlkT at k;rw[hc]at k;injection k with k;injection k with _ k;exact hne k
theorem zaN.stays{l:List BRow}(h:zaN w A n c l)(k:Stays s w w')(h1:∀b,UsesA A n b->s b)(h2:∀r∈l,∀b,UsesA r.A r.n b->s b):zaN w' A n c l:=
 ⟨Reads.stays h.1 k h1,fun r hr=>Reads.stays (h.2 r hr) k (h2 r hr)⟩
theorem Reads.row_uses(hb:UsesA A n b)(h:Own w0 w e size A n c xs):(Value.slice A 0 0).ownBlock=some b:=by
 obtain⟨_,p,rfl,rfl⟩:=hb;rfl
structure ValGo(w0 w w3:World)(p:zaP)(ws:List Nat)(aw:Option Addr)(nw cw:Nat)(rows:List BRow)(av:Option Addr)(nv cv:Nat):Prop where
 res:BlkT w3 w.heap.size 69 #[.int .i64 0,.slice none 0 0,.slice none 0 0,.slice none 0 0]
 val:BlkT w3 (w.heap.size+1) 69 #[.int .i64 p.f.number,.slice aw nw cw,.slice none 0 0,.slice none 0 0]
 blk:BlkT w3 p.b 222 #[.string p.f.name,.int .i64 p.f.number,.int .i64 p.f.kind,.bool p.f.rep,.bool p.f.packed,.int .i64 p.f.of_,.slice aw nw cw,.slice av nv cv]
 ext:Ext w0 w3
 stays:Stays (fun b=>¬Foot p b) w w3
 words:Reads w3 aw nw cw 1 (ws.map uv)
 wfoot:∀b,UsesA aw nw b->Foot p b
 at_:zaN w3 av nv cv rows
 raway:∀b,UsesA av nv b->b≠w.heap.size/\b≠w.heap.size+1
 baway:∀r∈rows,∀b,UsesA r.A r.n b->b≠w.heap.size/\b≠w.heap.size+1
 wsEq:ws=zaZ p.f p.ws
 rowsEq:rows.map BRow.bs=zas p.f (p.vs.map BRow.bs)
structure zlF(w0 w wz:World)(p:zaP)(ws:List Nat)(aw:Option Addr)(nw cw:Nat)(rows:List BRow)(av:Option Addr)(nv cv:Nat):Prop where
 res:BlkT wz w.heap.size 69 #[.int .i64 0,.slice none 0 0,.slice none 0 0,.slice none 0 0]
 val:BlkT wz (w.heap.size+1) 69 #[.int .i64 p.f.number,.slice none 0 0,.slice none 0 0,.slice none 0 0]
 blk:BlkT wz p.b 222 #[.string p.f.name,.int .i64 p.f.number,.int .i64 p.f.kind,.bool p.f.rep,.bool p.f.packed,.int .i64 p.f.of_,.slice aw nw cw,.slice av nv cv]
 ext:Ext w0 wz
 stays:Stays (fun b=>¬Foot p b) w wz
 words:Reads wz aw nw cw 1 (ws.map uv)
 wfoot:∀b,UsesA aw nw b->Foot p b
 at_:zaN wz av nv cv rows
 raway:∀b,UsesA av nv b->b≠w.heap.size/\b≠w.heap.size+1
 baway:∀r∈rows,∀b,UsesA r.A r.n b->b≠w.heap.size/\b≠w.heap.size+1
 wsEq:ws=zaZ p.f p.ws
 rowsEq:rows.map BRow.bs=zas p.f (p.vs.map BRow.bs)
 old:∀b,Foot p b->b<w.heap.size
 base:w0.heap.size<=w.heap.size
 nwl:nw<=1000000
 nvl:nv<=1000000
 small:∀x∈ws,x<18446744073709551616
theorem zlF.go{wz:World}{p:zaP}{ws:List Nat}{aw:Option Addr}{nw cw:Nat}{rows:List BRow}{av:Option Addr}{nv cv:Nat}(h:zlF w0 w wz p ws aw nw cw rows av nv cv):
 ValGo w0 w (wz.setCell ⟨w.heap.size+1,1,none⟩ (.slice aw nw cw)) p ws aw nw cw rows av nv cv:=by
 have hb:=h.old p.b (.inl rfl);have sv:=(Stays.refl (fun b=>b≠w.heap.size+1) wz).set (p:=⟨w.heap.size+1,1,none⟩) (fun h=>h rfl) (.slice aw nw cw)
 exact⟨h.res.set_far 1 (by omega) _,h.val.set_ 1 _,h.blk.set_far 1 (by omega) _,h.ext.setCell (p:=⟨w.heap.size+1,1,none⟩) (by have:=h.base;show w0.heap.size<=w.heap.size+1;omega) _,h.stays.set_new (p:=⟨w.heap.size+1,1,none⟩) (by show w.heap.size<=w.heap.size+1;omega) _,
  h.words.stays sv (fun b hb=>(by have:=h.old b (h.wfoot b hb);omega)),h.wfoot,zaN.stays h.at_ sv (fun b hb=>(h.raway b hb).2) (fun r hr b hb=>(h.baway r hr b hb).2),h.raway,h.baway,h.wsEq,h.rowsEq⟩
section
variable {w1 wr w' w7 W0:World} {f:zaa} {ws:List Nat} {ts:List ByteArray} {js:List UInt8} {ys:List MsgR} {W:Option Addr} {wn wc:Nat} {T:Option Addr} {tn tc:Nat} {X:Option Addr} {xn xc:Nat} {J:Option Addr} {jn jc:Nat}
end
def unkO(bs:List UInt8)(L:List ViewD):List ByteArray:=(L.filter fun v=>decide (v.field<0)).map fun v=>textO (spanB bs v.r.f v.r.t)
variable{v:ViewD}{k:Nat}{L:List ViewD}{bs:List UInt8}
theorem zlG(h:L[k]?=some v)(hv:v.field<0):unkO bs (L.take (k+1))=unkO bs (L.take k)++[textO (spanB bs v.r.f v.r.t)]:=by
 unfold unkO;rw[zap _ _ _ h,List.filter_append,List.map_append];simp[hv]
theorem zny(h:L[k]?=some v)(hv:¬v.field<0):unkO bs (L.take (k+1))=unkO bs (L.take k):=by
 unfold unkO;rw[zap _ _ _ h,List.filter_append,List.map_append];simp[hv]
theorem zqA(bs:List UInt8)(L:List ViewD)(k:Nat):(unkO bs (L.take k)).length<=L.length:=by
 unfold unkO;rw[List.length_map];refine Nat.le_trans (List.length_filter_le _ _) ?_;rw[List.length_take];omega
end Go.Proofs.YtlhbllaojjelcaaGreat
namespace Go.Proofs.YtlhbllaojjelcaaGreat
open Go.RowKit Go.Shelf
variable{n c:Nat}{A:Option Addr}{w:World}
theorem uses_lt{bs:List UInt8}(h:zab w A n c bs){b:Nat}(hu:UsesA A n b):b<w.heap.size:=by
 obtain⟨h0,p,rfl,rfl⟩:=hu;obtain⟨b,off,e,hb,_⟩:=h.at_ h0;cases e;exact hb
theorem zqB{w0:World}{xs:List Value}{e:TypeId}{size:Nat}(h:Own w0 w e size A n c xs):∀b,UsesA A n b->w0.heap.size<=b:=by
 rintro b ⟨h0,p,rfl,rfl⟩;have:=(h.row.lt p.block (Reads.row_uses (b:=p.block) ⟨h0,p,rfl,rfl⟩ h|>fun q=>by rw[zak _ n c 0 0];exact q)).1;exact this
end Go.Proofs.YtlhbllaojjelcaaGreat
