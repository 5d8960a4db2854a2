/- Words of my own for memory: what stands while three's maker makes a message, field by field. -/
import Derived.Test.YtlhbllaojjelcaaGreatQhM37
import Derived.Orders

set_option linter.unusedVariables false
namespace Go.Proofs.YtlhbllaojjelcaaGreat
open Go.RowKit Go.Shelf
variable{A:Option Addr}{n c:Nat}{w0 w:World}
theorem Own.uses_block{e:TypeId}{size:Nat}{xs:List Value}(h:Own w0 w e size A n c xs){g:Nat}(hu:UsesA A n g):(Value.slice A 0 0).ownBlock=some g:=by
 obtain⟨hn,p,rfl,rfl⟩:=hu;rcases h.row.2 with⟨hv,_⟩|⟨g,cap,cur,hv,hg,_⟩
 . cases hv
 . cases hv;rfl
variable{s:Nat->Prop}{l:List WRow}{w':World}
theorem KS.stays{bk:Nat}{SA:Option Addr}{sn sc:Nat}(h:KS w0 w bk SA sn sc A n c l)(k:Stays s w w')(E:Ext w0 w')(hs:∀b,KU bk A l b->s b):KS w0 w' bk SA sn sc A n c l:=
 ⟨h.o.stays k (hs bk (.inl rfl)),⟨h.parts.own.stays k E (fun b hb=>hs b (.inr (.inl hb))),fun r hr=>Reads.stays (h.parts.each r hr) k (fun b hb=>hs b (.inr (.inr ⟨r,hr,hb⟩))),h.parts.apart⟩,h.base⟩
structure KLoop(w0 wx wr:World)(bk:Nat)(SA:Option Addr)(sn sc:Nat)(A:Option Addr)(l:List WRow)(ko:Nat)(A2:Option Addr)(n2 c2:Nat)(l2:List WRow)(U:Value)(V:Option Addr)(yn vc:Nat)(ys:List ValR)(L:List ValT)(ways:List Way):Prop where
 K:KS w0 wr bk SA sn sc A2 n2 c2 l2
 way:l2.map (·.way)=l.map (·.way)++ways
 new:∀b,KU bk A2 l2 b->KU bk A l b\/wx.heap.size<=b
 st:Stays (fun b=>¬KU bk A l b/\b≠ko) wx wr
 out:BlkT wr ko 27 #[.slice V yn vc,U]
 own:Own w0 wr 69 4 V yn vc (ys.flatMap tvalC)
 vnew:∀b,(Value.slice V 0 0).ownBlock=some b->wx.heap.size<=b/\¬KU bk A2 l2 b
 vals:ys.map bareV=L
 each:∀y∈ys,ValAt wr y/\∀q,UsesV y q->wx.heap.size<=q/\¬KU bk A2 l2 q/\(Value.slice V 0 0).ownBlock≠some q
 ko_:w0.heap.size<=ko/\ko<wx.heap.size/\¬KU bk A l ko
section
variable {w0 wx wr w':World} {bk ko kr:Nat} {SA A A2 A3 V V8:Option Addr} {sn sc n2 c2 n3 c3 yn vc c8:Nat} {l l2 l3:List WRow} {U U':Value} {ys:List ValR} {L:List ValT} {ways cs:List Way}
theorem KLoop.len(h:KLoop w0 wx wr bk SA sn sc A l ko A2 n2 c2 l2 U V yn vc ys L ways):yn=ys.length:=by
 have:=h.own.reads.len;rw[zbF (size:=4) (f:=tvalC) (fun _=>rfl)]at this;omega
theorem KLoop.kku(h:KLoop w0 wx wr bk SA sn sc A l ko A2 n2 c2 l2 U V yn vc ys L ways){k:Nat}(hk:k<wx.heap.size)(hu:¬KU bk A l k):¬KU bk A2 l2 k:=fun q=>by
 rcases h.new _ q with q|q
 . exact hu q
 . omega
theorem KLoop.next(h:KLoop w0 wx wr bk SA sn sc A l ko A2 n2 c2 l2 U V yn vc ys L ways)(S:Stays (fun b=>¬KU bk A2 l2 b/\b≠ko) wr w')(K3:KS w0 w' bk SA sn sc A3 n3 c3 l3)(L3:l3.map (·.way)=l2.map (·.way)++cs)(N3:∀b,KU bk A3 l3 b->KU bk A2 l2 b\/wr.heap.size<=b)(out':BlkT w' ko 27 #[.slice V yn vc,U']):
 KLoop w0 wx w' bk SA sn sc A l ko A3 n3 c3 l3 U' V yn vc ys L (ways++cs):=by
 have hz:=h.st.size
 have ne:∀b,wx.heap.size<=b->b≠ko:=fun b hb=>by
  have h1:=h.ko_.2.1;omega
 refine⟨K3,by rw[L3,h.way,List.append_assoc],fun b hb=> ?_,⟨Nat.le_trans hz S.size,fun b hb hlt=> ?_⟩,out',h.own.stays S K3.ext (fun b hb=>⟨(h.vnew b hb).2,ne b (h.vnew b hb).1⟩),fun b hb=>⟨(h.vnew b hb).1,fun q=> ?_⟩,h.vals,fun y hy=>⟨(h.each y hy).1.stays S (fun q hq=>⟨((h.each y hy).2 q hq).2.1,ne q ((h.each y hy).2 q hq).1⟩),fun q hq=>⟨((h.each y hy).2 q hq).1,fun p=> ?_,((h.each y hy).2 q hq).2.2⟩⟩,h.ko_⟩
 . rcases N3 b hb with q|q
   . exact h.new b q
   . exact .inr (Nat.le_trans hz q)
 . refine(S.block b ⟨h.kku hlt hb.1,hb.2⟩ (Nat.lt_of_lt_of_le hlt hz)).trans (h.st.block b hb hlt)
 . rcases N3 b q with q|q
   . exact(h.vnew b hb).2 q
   . have:=(h.own.new_lt hb).2
     omega
 . rcases N3 q p with p|p
   . exact((h.each y hy).2 q hq).2.1 p
   . have:=(h.each y hy).1.lt hq
     omega
theorem KLoop.up(h:KLoop w0 wx wr bk SA sn sc A l ko A2 n2 c2 l2 U V yn vc ys L ways)(X:Ext wr w'):KLoop w0 wx w' bk SA sn sc A l ko A2 n2 c2 l2 U V yn vc ys L ways:=by
 have:=h.next (cs:=[]) (Stays.of_ext X) (h.K.up X) (by rw[List.append_nil]) (fun b hb=>.inl hb) (h.out.up X)
 rwa[List.append_nil]at this
theorem KLoop.unk(h:KLoop w0 wx wr bk SA sn sc A l ko A2 n2 c2 l2 U V yn vc ys L ways)(U':Value):KLoop w0 wx (wr.setCell ⟨ko,1,none⟩ U') bk SA sn sc A l ko A2 n2 c2 l2 U' V yn vc ys L ways:=by
 have S:Stays (fun b=>b≠ko) wr (wr.setCell ⟨ko,1,none⟩ U'):=(Stays.refl _ wr).set (p:=⟨ko,1,none⟩) (fun q=>q rfl) _;have E:Ext w0 (wr.setCell ⟨ko,1,none⟩ U'):=h.K.ext.setCell (p:=⟨ko,1,none⟩) h.ko_.1 _;have:=h.next (cs:=[]) (S.less (fun b hb=>hb.2)) (h.K.stays S E (fun b hb e=>h.kku h.ko_.2.1 h.ko_.2.2 (by rw[<-e];exact hb))) (by rw[List.append_nil]) (fun b hb=>.inl hb) (h.out.set_ 1 U')
 rwa[List.append_nil]at this
theorem KLoop.step(h:KLoop w0 wx wr bk SA sn sc A l ko A2 n2 c2 l2 U V yn vc ys L ways)(S:Stays (fun b=>¬KU bk A2 l2 b) wr w')(K3:KS w0 w' bk SA sn sc A3 n3 c3 l3)(L3:l3.map (·.way)=l2.map (·.way)++cs)(N3:∀b,KU bk A3 l3 b->KU bk A2 l2 b\/wr.heap.size<=b):
 KLoop w0 wx w' bk SA sn sc A l ko A3 n3 c3 l3 U V yn vc ys L (ways++cs):=
 h.next (S.less (fun b hb=>hb.1)) K3 L3 N3 (h.out.stays S (h.kku h.ko_.2.1 h.ko_.2.2))
theorem KLoop.push{wa w8:World}{u:ValR}(h:KLoop w0 wx wr bk SA sn sc A l ko A2 n2 c2 l2 U V yn vc ys L ways)(X:Ext wr wa)(hu:ValAt wr u)(hq:∀q,UsesV u q->wx.heap.size<=q/\¬KU bk A2 l2 q/\(Value.slice V 0 0).ownBlock≠some q)(own8:Own w0 w8 69 4 V8 (yn+1) c8 (ys.flatMap tvalC++tvalC u))(g8:wa.grownBy w8 (Value.slice V yn vc).ownBlock)(m8:Moved wa V V8):
 KLoop w0 wx (w8.setCell ⟨ko,0,none⟩ (.slice V8 (yn+1) c8)) bk SA sn sc A l ko A2 n2 c2 l2 U V8 (yn+1) c8 (ys++[u]) (L++[bareV u]) ways:=by
 have hz:=h.st.size;have hX:=X.size
 have S:Stays (fun b=>(Value.slice V 0 0).ownBlock≠some b/\b≠ko) wr (w8.setCell ⟨ko,0,none⟩ (.slice V8 (yn+1) c8)):=
  ((Stays.of_ext X).trans (Stays.grown g8 (fun k hk q=>q.1 (by rw[zak V 0 0 yn vc];exact hk)))).set (p:=⟨ko,0,none⟩) (fun q=>q.2 rfl) _
 have E:Ext w0 (w8.setCell ⟨ko,0,none⟩ (.slice V8 (yn+1) c8)):=own8.ext.setCell (p:=⟨ko,0,none⟩) h.ko_.1 _
 have ne:∀b,wx.heap.size<=b->b≠ko:=fun b hb=>by
  have h1:=h.ko_.2.1;omega
 have B8:=(h.out.up X).beside (h.own.up X) (by decide) g8
 have hV8:∀b,(Value.slice V8 0 0).ownBlock=some b->(Value.slice V 0 0).ownBlock=some b\/b=wa.heap.size:=fun b hb=>by
  rcases m8 with m|m
  . rw[m]at hb
    exact .inl hb
  . rw[m]at hb
    injection hb with hb;exact .inr hb.symm
 refine⟨h.K.stays S E (fun b hb=>⟨fun q=>(h.vnew b q).2 hb,fun e=>h.kku h.ko_.2.1 h.ko_.2.2 (by rw[<-e];exact hb)⟩),h.way,h.new,⟨Nat.le_trans hz S.size,fun b hb hlt=> ?_⟩,B8.set_ 0 _,?_,fun b hb=> ?_,by rw[List.map_append,h.vals];rfl,fun y hy=> ?_,h.ko_⟩
 . refine(S.block b ⟨fun q=> ?_,hb.2⟩ (Nat.lt_of_lt_of_le hlt hz)).trans (h.st.block b hb hlt)
   have:=(h.vnew b q).1;omega
 . rw[List.flatMap_append,List.flatMap_cons,List.flatMap_nil,List.append_nil]
   exact own8.far B8 (by decide) h.ko_.1 0 _
 . rcases hV8 b hb with q|rfl
   . exact h.vnew b q
   . exact⟨Nat.le_trans hz hX,h.K.apart hX⟩
 . have key:ValAt wr y/\∀q,UsesV y q->wx.heap.size<=q/\¬KU bk A2 l2 q/\(Value.slice V 0 0).ownBlock≠some q:=by
    rcases List.mem_append.1 hy with hy|hy
    . exact h.each y hy
    . rw[List.mem_singleton.1 hy]
      exact⟨hu,hq⟩
   obtain⟨k1,k2⟩:=key;refine⟨k1.stays S (fun q hq=>⟨(k2 q hq).2.2,ne q (k2 q hq).1⟩),fun q hq=>⟨(k2 q hq).1,(k2 q hq).2.1,fun e=> ?_⟩⟩;rcases hV8 q e with p|p
   . exact(k2 q hq).2.2 p
   . have:=k1.lt hq
     omega
def KMade(w0:World)(bk:Nat)(SA:Option Addr)(sn sc:Nat)(A:Option Addr)(l:List WRow)(W:World)(a b:MsgR)(R:MsgT×List Way)(e:Ending)(W':World):Prop:=
 ∃y:MsgR,e=.returned (.agg #[.slice y.a.1 y.vals.length y.a.2,.slice y.b.1 y.unk.length y.b.2])/\bare y=R.1/\zah W' y/\(∀q,UsesT y q->UsesT a q\/UsesT b q\/W.heap.size<=q)/\Made w0 bk SA sn sc A l W R.2 (UsesT y) W'
theorem KLoop.done{w w9:World}{a b x:MsgR}{n c:Nat}{R:MsgT×List Way}(h:KLoop w0 wx wr bk SA sn sc A l ko A2 n2 c2 l2 U V yn vc ys L ways)(hU:U=.slice x.b.1 x.unk.length x.b.2)(hx:x=a\/x=b)(X:Ext w wx)(hk:w.heap.size<=ko/\w.heap.size<=kr)(kr2:kr<wx.heap.size/\kr≠ko)(h0:KS w0 w bk SA sn sc A n c l)(ax:zah w x)(ux:∀q,UsesT x q->¬KU bk A l q)(S9:Stays (fun b=>b≠kr) wr w9)(E9:Ext w0 w9)(hR:R=(.mk () () L x.unk,ways)):
 KMade w0 bk SA sn sc A l w a b R (.returned (.agg #[.slice V yn vc,U])) w9:=by
 have hz:=h.st.size;have hX:=X.size;have kk:=h.kku kr2.1 (h0.apart hk.2);have hl:=h.len;subst hl
 have ne:∀b,wx.heap.size<=b->b≠kr:=fun b hb=>by
  have h1:=kr2.1;omega
 have St:Stays (fun b=>¬KU bk A l b) w w9:=⟨Nat.le_trans hX (Nat.le_trans hz S9.size),fun b hb hlt=>(S9.block b (by omega) (by omega)).trans ((h.st.block b ⟨hb,by omega⟩ (by omega)).trans (X.block b hlt))⟩
 have ax9:=ax.stays St ux;have own9:=h.own.stays S9 E9 (fun b hb=>ne b (h.vnew b hb).1);refine⟨.mk (V,vc) x.b ys x.unk,by rw[hU];rfl,?_,zah.of own9.reads ax9.unk (fun y hy=>(h.each y hy).1.stays S9 (fun q hq=>ne q ((h.each y hy).2 q hq).1)),fun q hq=> ?_,A2,n2,c2,l2,h.K.stays S9 E9 (fun b hb e=>kk (by rw[<-e];exact hb)),by rw[hR];exact h.way,St,fun b hb=>(h.new b hb).imp id (fun q=>Nat.le_trans hX q),fun q hq p=> ?_⟩
 . rw[zbf,hR]
   show MsgX.mk () () (ys.map bareV) x.unk=_;rw[h.vals]
 . rcases hq.cases' with hq|hq|⟨y,hy,hq⟩
   . have:=(h.vnew q (own9.uses_block hq)).1
     exact .inr (.inr (by omega))
   . have hq:UsesT x q:=.unk hq
     rcases hx with rfl|rfl
     . exact .inl hq
     . exact .inr (.inl hq)
   . have:=((h.each y hy).2 q hq).1
     exact .inr (.inr (by omega))
 . rcases hq.cases' with hq|hq|⟨y,hy,hq⟩
   . exact(h.vnew q (own9.uses_block hq)).2 p
   . have hq:UsesT x q:=.unk hq
     have h1:=ax.lt hq;rcases h.new q p with p|p
     . exact ux q hq p
     . omega
   . exact((h.each y hy).2 q hq).2.1 p
end
def WUses(A:Option Addr)(n:Nat)(l:List WRow)(q:Nat):Prop:=UsesA A n q\/∃r∈l,UsesA r.A r.n q
theorem zbA.stays(h:zbA w A n c l)(k:Stays s w w')(hs:∀q,WUses A n l q->s q):zbA w' A n c l:=
 ⟨Reads.stays h.1 k (fun b hb=>hs b (.inl hb)),fun r hr=>Reads.stays (h.2 r hr) k (fun b hb=>hs b (.inr ⟨r,hr,hb⟩))⟩
theorem zbA.uses_lt(h:zbA w A n c l){q:Nat}(hq:WUses A n l q):q<w.heap.size:=by
 rcases hq with hq|⟨r,hr,hq⟩
 . exact Reads.uses_lt h.1 hq
 . exact Reads.uses_lt (h.2 r hr) hq
section
variable {w w1 wr w' w7:World} {bx:Nat} {x:MsgR} {v:ValR} {V:Option Addr} {vn vc:Nat} {ys:List ValR}
end
section
variable {w wx wr wq w2:World} {ko:Nat} {a b z z2:MsgR} {C C':Option Addr} {cn cc cn' cc':Nat} {l l':List WRow} {L:List ValT} {ways cs:List Way}
end
end Go.Proofs.YtlhbllaojjelcaaGreat
namespace Go.Proofs.YtlhbllaojjelcaaGreat
open Go.RowKit
theorem ff{b:Bool}{p:Prop}(h:b=false)(k:b=true):p:=absurd (h.symm.trans k) (by decide)
section
variable {P:Program} {md:Region.Mode} {ops:Array Oper} {Q:Exit->Act->World->Prop}
theorem zcW{listed:Array Bool}{i:Nat}(h:i∈Region.ready md ops listed):i<ops.size/\listed.getD i true=false/\∀o,ops[i]?=some o->o.after.all (fun e=> !Region.binds md e||listed.getD e.on false)=true:=by
 unfold Region.ready at h;rw[List.mem_filter,List.mem_range]at h;obtain⟨h1,h2⟩:=h;rw[Bool.and_eq_true]at h2;refine⟨h1,by simpa using h2.1,fun o ho=> ?_⟩;have h3:=h2.2;rw[ho]at h3;simpa using h3
theorem zfK:∀{l:List Bool}{i:Nat},l[i]?=some false->(l.set i true).count false+1=l.count false
 |[],i,h=>by simp at h
 |b::l,0,h=>by
  simp at h;subst h;simp
 |b::l,i+1,h=>by
  simp at h;have:=zfK (l:=l) (i:=i) h;simp only[List.set_cons_succ,List.count_cons];omega
theorem znt{I:Array Bool->Act->World->Prop}(hstep:∀(i:Nat)(listed:Array Bool)(a:Act)(w:World),I listed a w->i∈Region.ready md ops listed->wpOp P ops Q i (I (listed.setIfInBounds i true)) a w)(hfin:∀(listed:Array Bool)(a:Act)(w:World),I listed a w->Region.ready md ops listed=[]->Q .normal a w):
 ∀(fuel:Nat)(listed:Array Bool)(a:Act)(w:World),listed.size=ops.size->listed.toList.count false<=fuel->I listed a w->wpAny P md ops Q fuel listed a w:=by
 intro fuel
 induction fuel with
 |zero=>
  intro listed a w hsz hc hI
  have hr:Region.ready md ops listed=[]:=by
   rcases h:Region.ready md ops listed with _|⟨i,l⟩
   . rfl
   . obtain⟨h1,h2,_⟩:=zcW (md:=md) (ops:=ops) (listed:=listed) (i:=i) (by rw[h];simp)
     have h3:listed.toList[i]?=some false:=by
      rw[Array.getElem?_toList];rw[Array.getD_eq_getD_getElem?]at h2;rcases h4:listed[i]? with _|b
      . rw[h4]at h2
        cases h2
      . rw[h4]at h2
        simp at h2;rw[h2]
     have:=zfK h3;omega
  exact⟨hr,hfin _ _ _ hI hr⟩
 |succ fuel ih=>
  intro listed a w hsz hc hI;refine⟨fun hr=>hfin _ _ _ hI hr,fun i hi=>wpOp_mono (fun a w h=>ih _ a w (by simpa using hsz) ?_ h) (hstep i listed a w hI hi)⟩;obtain⟨h1,h2,_⟩:=zcW hi
  have h3:listed.toList[i]?=some false:=by
   rw[Array.getElem?_toList];rw[Array.getD_eq_getD_getElem?]at h2;rcases h4:listed[i]? with _|b
   . rw[h4]at h2
     cases h2
   . rw[h4]at h2
     simp at h2;rw[h2]
  have:=zfK h3;rw[Array.toList_setIfInBounds];omega
theorem zcQ{I:Array Bool->Act->World->Prop}{id:Nat}{a:Act}{w:World}(hm:P.follows .mixedOrders=true)(hstep:∀(i:Nat)(listed:Array Bool)(a:Act)(w:World),I listed a w->i∈Region.ready .any ops listed->wpOp P ops Q i (I (listed.setIfInBounds i true)) a w)(hfin:∀(listed:Array Bool)(a:Act)(w:World),I listed a w->Region.ready .any ops listed=[]->Q .normal a w)(h0:I (Array.replicate ops.size false) a w.drew):(Code.region id ops true).wp P Q a w:=
 wp_region_any hm (znt hstep hfin ops.size _ a _ (by simp) (by simp) h0)
theorem zae{listed:Array Bool}{i:Nat}{o:Oper}(hr:Region.ready md ops listed=[])(ho:ops[i]?=some o)(hd:o.after.all (fun e=> !Region.binds md e||listed.getD e.on false)=true)(hi:i<listed.size):listed.getD i true=true:=by
 rcases h:listed.getD i true with _|_
 . have hlt:i<ops.size:=(Array.getElem?_eq_some_iff.1 ho).1
   have:i∈Region.ready md ops listed:=by
    unfold Region.ready;rw[List.mem_filter,List.mem_range,h,ho];exact⟨hlt,by simpa using hd⟩
   rw[hr]at this;cases this
 . rfl
theorem zai{i:Nat}{o:Oper}{K2:Act->World->Prop}{a:Act}{w:World}(ho:ops[i]?=some o)(hw:Region.wanted o (yielded ops a.tmps)=true)(h:∀K:Act->World->Prop,(∀a w,K2 a w->K a w)->o.wp P a w K Q):wpOp P ops Q i K2 a w:=by
 unfold wpOp;rw[ho];simp only;rw[if_pos hw];exact .inl (h K2 (fun _ _ h=>h))
end
end Go.Proofs.YtlhbllaojjelcaaGreat
