/- Contracts of layer 7: the same schemas. -/
import Derived.Test.YtlhbllaojjelcaaGreatQhW14w
import Derived.Test.YtlhbllaojjelcaaGreatQhW21

set_option linter.unusedVariables false
set_option maxRecDepth 100000
namespace Go.Proofs.YtlhbllaojjelcaaGreat
open Go.RowKit Tryz
theorem MsgD.eq_iff{x y:MsgD}:x=y<->x.name=y.name/\x.fields=y.fields:=by
 constructor
 . rintro rfl
   exact⟨rfl,rfl⟩
 . rintro⟨h1,h2⟩
   obtain⟨a,b⟩:=x;obtain⟨c,d⟩:=y;simp only at h1 h2;rw[h1,h2]
instance:DecidableEq MsgD:=fun x y=>decidable_of_iff _ MsgD.eq_iff.symm
theorem znz{P:Program}{t e:TypeId}(h:P.underlying t=some (.slice e))(a:Option Addr)(n c:Nat)(w:World):(Go.binOp .eql t (.slice a n c) (.slice none 0 0)).run P w=.ok (.bool a.isNone) w:=by
 simp only[Go.binOp];simp[run_equal_slice_nil (P:=P) w t e a n c h]
variable{w:World}{A:Sl}
theorem znA{l:List ByteArray}(h:zbG w A l)(hn:l.length<=1000000000000):
 Calls prog 59 #[.slice A.1 l.length A.2] w fun e w'=>∃A' c',e=.returned (.slice A' l.length c')/\Own w w' 9 1 A' l.length c' (l.map strV):=by
 have hr:=h.at_;have hnil:=znz underlying25;obtain⟨a,c⟩:=A;simp only at hr⊢;have hm:=hr.max;have hcap:=hr.cap;unfold maxLen at hm;clear h;generalize hl:l.length=n at*;have Hl:=zsp hl;clear hl;rcases a with _|a
 . have h0:n=0:=by
    rcases Nat.eq_zero_or_pos n with h|h
    . exact h
    . obtain⟨b,off,e,_⟩:=hr.at_ h
      cases e
   subst h0;have hl0:l=[]:=List.eq_nil_of_length_eq_zero Hl.out;subst hl0
   go_enter func59,ntmps59
   go_wp2
   go_ret
   exact⟨none,0,rfl,Own.nil (Ext.refl _) _ _⟩
 . go_enter func59,ntmps59
   go_wp2_with (at_builtin;refine zaT zjj rfl (.tmp 5) (.tmp 6) rfl rfl (Own.empty (Ext.refl w) 9 1) rfl (hr.ext (Ext.alloc (Ext.refl _) _)) (zoZ _) (by omega) (by unfold maxLen;omega) ?_;intro A4 c4 w4 own4 g4;simp only[Nat.zero_add,List.nil_append]at own4)
   go_ret
   exact⟨A4,c4,rfl,own4⟩
theorem zqC{l:List Nat}(h:Reads w A.1 l.length A.2 1 (l.map uv))(hn:l.length<=1000000000000):
 Calls prog 60 #[.slice A.1 l.length A.2] w fun e w'=>∃A' c',e=.returned (.slice A' l.length c')/\Own w w' 100 1 A' l.length c' (l.map uv):=by
 have hr:=h;have hnil:=znz underlying66;obtain⟨a,c⟩:=A;simp only at hr⊢;have hm:=hr.max;have hcap:=hr.cap;unfold maxLen at hm;clear h;generalize hl:l.length=n at*;have Hl:=zsp hl;clear hl;rcases a with _|a
 . have h0:n=0:=by
    rcases Nat.eq_zero_or_pos n with h|h
    . exact h
    . obtain⟨b,off,e,_⟩:=hr.at_ h
      cases e
   subst h0;have hl0:l=[]:=List.eq_nil_of_length_eq_zero Hl.out;subst hl0
   go_enter func60,ntmps60
   go_wp2
   go_ret
   exact⟨none,0,rfl,Own.nil (Ext.refl _) _ _⟩
 . go_enter func60,ntmps60
   go_wp2_with (at_builtin;refine zaT elemU rfl (.tmp 5) (.tmp 6) rfl rfl (Own.empty (Ext.refl w) 100 1) rfl (hr.ext (Ext.alloc (Ext.refl _) _)) (zoV _) (by omega) (by unfold maxLen;omega) ?_;intro A4 c4 w4 own4 g4;simp only[Nat.zero_add,List.nil_append]at own4)
   go_ret
   exact⟨A4,c4,rfl,own4⟩
end Go.Proofs.YtlhbllaojjelcaaGreat
namespace Go.Proofs.YtlhbllaojjelcaaGreat
open Go.RowKit Go.Shelf Tryz
def zV(x:Int):Value:=.int .i64 x
theorem zpU(l:List Int):∀u∈l.map zV,u.oneCell'=true:=by
 intro u hu;obtain⟨b,_,rfl⟩:=List.mem_map.1 hu;rfl
abbrev WayAt(w:World)(A:Option Addr)(n c:Nat)(l:Way):Prop:=Reads w A n c 1 (l.map zV)
structure WRow where
 A:Option Addr
 n:Nat
 c:Nat
 way:Way
def wrowV(r:WRow):Value:=.slice r.A r.n r.c
theorem zpa(l:List WRow):∀u∈l.map wrowV,u.oneCell'=true:=by
 intro u hu;obtain⟨b,_,rfl⟩:=List.mem_map.1 hu;rfl
def zbA(w:World)(A:Option Addr)(n c:Nat)(l:List WRow):Prop:=Reads w A n c 1 (l.map wrowV)/\∀r∈l,WayAt w r.A r.n r.c r.way
variable{l:List WRow}{n c:Nat}{A:Option Addr}{w w':World}
theorem zbA.up(h:zbA w A n c l)(X:Ext w w'):zbA w' A n c l:=⟨h.1.ext X,fun r hr=>(h.2 r hr).ext X⟩
theorem zbA.length(h:zbA w A n c l):l.length=n:=by
 have:=h.1.len;rw[List.length_map]at this;omega
structure zdx(w0 w:World)(bk:Nat)(A:Option Addr)(n c:Nat)(l:List WRow):Prop where
 own:Own w0 w 82 1 A n c (l.map wrowV)
 each:∀r∈l,WayAt w r.A r.n r.c r.way
 apart:∀r∈l,∀b,UsesA r.A r.n b->(Value.slice A 0 0).ownBlock≠some b/\b≠bk
variable{bk:Nat}{w0:World}
theorem zdx.up(h:zdx w0 w bk A n c l)(X:Ext w w'):zdx w0 w' bk A n c l:=⟨h.own.up X,fun r hr=>(h.each r hr).ext X,h.apart⟩
theorem zdx.ways(h:zdx w0 w bk A n c l):zbA w A n c l:=⟨h.own.reads,h.each⟩
theorem znB{l:Way}(h:WayAt w A n c l){b:Nat}(hu:UsesA A n b):b<w.heap.size:=by
 obtain⟨h0,p,rfl,rfl⟩:=hu;obtain⟨b,off,e,hb,_⟩:=h.at_ h0;cases e;exact hb
theorem zdx.more{w1:World}{A':Option Addr}{c':Nat}{r:WRow}(h:zdx w0 w bk A n c l)(hk:bk<w.heap.size)(X:Ext w w1)(hr:WayAt w1 r.A r.n r.c r.way)(hu:∀b,UsesA r.A r.n b->w.heap.size<=b)(own':Own w0 w' 82 1 A' (n+1) c' (l.map wrowV++[wrowV r]))(g:w1.grownBy w' (Value.slice A n c).ownBlock)(m:Moved w1 A A'):zdx w0 w' bk A' (n+1) c' (l++[r]):=by
 have st:Stays (fun b=>(Value.slice A 0 0).ownBlock≠some b) w1 w':=Stays.grown g (fun k hk q=>q (by rw[zak A 0 0 n c];exact hk))
 have hl:∀b,(Value.slice A 0 0).ownBlock=some b->b<w.heap.size:=fun b hb=>by
  have:=(h.own.row.lt b (by rw[zak A n c 0 0];exact hb)).2;exact this
 have ap:∀q∈l++[r],∀b,UsesA q.A q.n b->(Value.slice A 0 0).ownBlock≠some b/\b<w1.heap.size/\b≠bk:=fun q hq b hb=>by
  rcases List.mem_append.1 hq with hq|hq
  . exact⟨(h.apart q hq b hb).1,Nat.lt_of_lt_of_le (znB (h.each q hq) hb) X.size,(h.apart q hq b hb).2⟩
  . simp only[List.mem_singleton]at hq
    subst hq;have h2:=hu b hb;refine⟨fun e=> ?_,znB hr hb,by omega⟩;have h1:=hl b e;omega
 have at1:∀q∈l++[r],WayAt w1 q.A q.n q.c q.way:=fun q hq=>by
  rcases List.mem_append.1 hq with hq|hq
  . exact(h.each q hq).ext X
  . simp only[List.mem_singleton]at hq
    subst hq;exact hr
 refine⟨by rw[List.map_append];exact own',fun q hq=>Reads.stays (at1 q hq) st (fun b hb=>(ap q hq b hb).1),fun q hq b hb=>⟨fun e=> ?_,(ap q hq b hb).2.2⟩⟩;obtain⟨a1,a2,_⟩:=ap q hq b hb;rcases m with m|m
 . rw[m]at e
   exact a1 e
 . rw[m]at e
   injection e with e;omega
structure KS(w0 w:World)(bk:Nat)(SA:Option Addr)(sn sc:Nat)(A:Option Addr)(n c:Nat)(l:List WRow):Prop where
 o:BlkT w bk 73 #[.slice SA sn sc,.slice A n c]
 parts:zdx w0 w bk A n c l
 base:w0.heap.size<=bk
def KU(bk:Nat)(A:Option Addr)(l:List WRow)(b:Nat):Prop:=b=bk\/(Value.slice A 0 0).ownBlock=some b\/∃r∈l,UsesA r.A r.n b
def Made(w0:World)(bk:Nat)(SA:Option Addr)(sn sc:Nat)(A:Option Addr)(l:List WRow)(wr:World)(more:List Way)(use:Nat->Prop)(w':World):Prop:=∃A' n' c' l',KS w0 w' bk SA sn sc A' n' c' l'/\l'.map (·.way)=l.map (·.way)++more/\Stays (fun b=>¬KU bk A l b) wr w'/\(∀b,KU bk A' l' b->KU bk A l b\/wr.heap.size<=b)/\∀b,use b->¬KU bk A' l' b
section
variable {w0 wr w':World} {bk:Nat} {SA A:Option Addr} {sn sc n c:Nat} {l:List WRow}
theorem KS.up(h:KS w0 wr bk SA sn sc A n c l)(X:Ext wr w'):KS w0 w' bk SA sn sc A n c l:=⟨h.o.up X,h.parts.up X,h.base⟩
theorem KS.len(h:KS w0 wr bk SA sn sc A n c l):l.length=n:=h.parts.ways.length
theorem KS.ext(h:KS w0 wr bk SA sn sc A n c l):Ext w0 wr:=h.parts.own.ext
theorem KS.elder(h:KS w0 wr bk SA sn sc A n c l){b:Nat}(hb:KU bk A l b):b<wr.heap.size:=by
 rcases hb with rfl|hb|⟨r,hr,hb⟩
 . exact h.o.lt
 . exact(h.parts.own.new_lt hb).2
 . exact znB (h.parts.each r hr) hb
theorem KS.apart(h:KS w0 wr bk SA sn sc A n c l){b:Nat}(hb:wr.heap.size<=b):¬KU bk A l b:=fun q=>by
 have:=h.elder q;omega
theorem KS.far(h:KS w0 wr bk SA sn sc A n c l){b:Nat}{t:TypeId}{cs:Array Value}(B:BlkT wr b t cs)(ht:82≠t)(hb:w0.heap.size<=b)(hu:¬KU bk A l b)(i:Nat)(v:Value):KS w0 (wr.setCell ⟨b,i,none⟩ v) bk SA sn sc A n c l:=
 ⟨h.o.far (p:=⟨b,i,none⟩) (fun e=>hu (.inl e.symm)) v,⟨h.parts.own.far B ht hb i v,fun r hr=>Reads.stays (h.parts.each r hr) ((Stays.refl (fun q=>q≠b) wr).set (p:=⟨b,i,none⟩) (fun q=>q rfl) v) (fun q hq e=>hu (.inr (.inr ⟨r,hr,by rw[<-e];exact hq⟩))),h.parts.apart⟩,h.base⟩
theorem KS.none(h:KS w0 wr bk SA sn sc A n c l)(X:Ext wr w'){use:Nat->Prop}(hu:∀b,use b->¬KU bk A l b):Made w0 bk SA sn sc A l wr [] use w':=
 ⟨A,n,c,l,h.up X,by rw[List.append_nil],(Stays.of_ext X).less (fun b hb=>hb),fun b hb=>.inl hb,hu⟩
theorem zrx:Elem prog 31 82 1 24:=Elem.mk' (z:=.slice none 0 0) underlying31 (by kernel_rfl) rfl (by omega)
theorem clWay{B:Option Addr}{m d:Nat}{l:Way}{w:World}(h:WayAt w B m d l)(hn:m<=1000000000000):
 Calls prog 56 #[.slice B m d] w fun e w'=>∃A' c',e=.returned (.slice A' m c')/\Own w w' 3 1 A' m c' (l.map zV):=by
 have hr:=h;have hnil:=znz underlying82;have hm:=hr.max;have hcap:=hr.cap;have hlen:l.length=m:=by have:=hr.len;rw[List.length_map]at this;omega
 unfold maxLen at hm;clear h;have Hl:=zsp hlen;clear hlen;rcases B with _|a
 . have h0:m=0:=by
    rcases Nat.eq_zero_or_pos m with h|h
    . exact h
    . obtain⟨b,off,e,_⟩:=hr.at_ h
      cases e
   subst h0;have hl0:l=[]:=List.eq_nil_of_length_eq_zero Hl.out;subst hl0
   go_enter func56,ntmps56
   go_wp2
   go_ret
   exact⟨none,0,rfl,Own.nil (Ext.refl _) _ _⟩
 . go_enter func56,ntmps56
   go_wp2_with (at_builtin;refine zaT elemI rfl (.tmp 5) (.tmp 6) rfl rfl (Own.empty (Ext.refl w) 3 1) rfl (hr.ext (Ext.alloc (Ext.refl _) _)) (zpU _) (by omega) (by unfold maxLen;omega) ?_;intro A4 c4 w4 own4 g4;simp only[Nat.zero_add,List.nil_append]at own4)
   go_ret
   exact⟨A4,c4,rfl,own4⟩
end
end Go.Proofs.YtlhbllaojjelcaaGreat
