/- Contracts of layer 9. -/
import Derived.Test.YtpicpebolghcfaaGreatDoorQlW8
import Derived.RangeFuncNested
import Derived.RangeFuncBound
import Derived.RangeFuncCalls
import Derived.RangeFuncLeaves
import Derived.Shelf.Abstract
import Derived.Shelf.RegionOpen
import Derived.OwnWalkIn
import Derived.TacticsInMore
import Derived.LoopNIn
import Derived.LoopIn
import Derived.RangeFuncBox

set_option linter.unusedVariables false
set_option maxRecDepth 100000
set_option maxHeartbeats 1000000
namespace Go.Proofs.YtpicpebolghcfaaGreatDoor
open Go.RowKit Tryz
def Same(s:Nat->Prop)(W W':World):Prop:=∀b,s b->W'.heap[b]?=W.heap[b]?
theorem Same.refl(s:Nat->Prop)(W:World):Same s W W:=fun _ _=>rfl
theorem Same.trans{s:Nat->Prop}{A B C:World}(h:Same s A B)(k:Same s B C):Same s A C:=fun b hb=>(k b hb).trans (h b hb)
def IterK{β:Type}(P:Program)(gf:Nat)(lb:Array Value)(encs:β->Array Value)(vs:List β)(s:Nat->Prop)(B:Nat)(w:World):Prop:=
 ∀(l:Nat)(J:Nat->World->Prop)(Jx:World->Prop)(W:World),w.heap.size<=W.heap.size->Same s w W->(∀k W W',J k W->Only B W W'->J k W')->(∀W W',Jx W->Only B W W'->Jx W')->(∀k W,J k W->w.heap.size<=W.heap.size)->
  (∀k x W1,J k W1->vs[k]?=some x->YieldAt Fence.wide 1 P l (encs x) W1 fun e W'=>(e=.returned (.bool true)/\J (k+1) W'/\Same s W1 W')\/(e=.returned (.bool false)/\Jx W'))->
  J 0 W->CallsIn Fence.wide 2 P gf (#[.func (.yield l) #[] #[]]++lb) W fun e W'=>(∃v,e=.returned v)/\(J vs.length W'\/Jx W')
def zqt(s:Nat->Prop)(I:Nat->World->Prop)(Ix:Code->World->Prop)(k:Nat)(W:World):Exit->Act->World->Prop
 |.normal,_,W'=>KeepsOthers W W'/\Same s W W'/\I (k+1) W'
 |.ret,_,W'=>KeepsOthers W W'/\Ix .ret W'
 |.exit id,_,W'=>KeepsOthers W W'/\Ix (.exit id) W'
 |_,_,_=>False
def zlH(N:Nat)(I:World->Prop):Prop:=∀W W' b o,I W->N<=b->W.heap[b]?=some o->o.isCells=false->Only b W W'->I W'
variable{o:Obj}{cs:Array Value}{t:TypeId}{b r:Nat}{W W':World}
theorem BlkT.besides(h:BlkT W r t cs)(hb:W.heap[b]?=some o)(hc:o.isCells=false)(g:Only b W W'):BlkT W' r t cs:=by
 refine(g.block r h.lt (fun e=> ?_)).trans h;injection e with e;subst e;unfold BlkT at h;rw[h]at hb;injection hb with hb;subst hb;cases hc
variable{B:Nat}
theorem BlkT.onlyB(h:BlkT W r t cs)(g:Only B W W')(hne:r≠B):BlkT W' r t cs:=(g.block r h.lt (fun e=>hne (by injection e))).trans h
theorem BlkT.putObj{D:Nat}(h:BlkT W r t cs)(hne:r≠D)(o:Obj):BlkT (W.putObj D o) r t cs:=(World.putObj_heap_other hne).trans h
theorem zaN(W:World)(l:Nat)(o:Obj):Only l W (W.putObj l o):=grownBy_putObj' W l o
theorem zdK(h:Only B W W')(hb:W.heap[b]?=some o)(hne:b≠B):W'.heap[b]?=some o:=
 (h.block b (Array.getElem?_eq_some_iff.1 hb).1 (fun e=>hne (by injection e))).trans hb
section
variable {P:Program}
theorem zgM{β:Type}{g:Operand}{ps:Array Tmp}{assign body:Code}{Q:Exit->Act->World->Prop}{a:Act}{w:World}{gf:Nat}{lb:Array Value}(hg:a.eval g=.func (.func gf) #[] lb)(eg:∀args w,(callFunc gf args).run P w=.ok (.enter gf args) w){encs:β->Array Value}{vs:List β}{s:Nat->Prop}{B:Nat}(hit:IterK P gf lb encs vs s B w)(hs:∀b,s b->b<w.heap.size)(hB:B<w.heap.size)(hps:∀x,(encs x).size=ps.size)(I:Nat->World->Prop)(Ix:Code->World->Prop)(A:Nat->β->Act->World->Prop)(hsz:∀k W,I k W->w.heap.size<=W.heap.size)(hI:∀k,zlH w.heap.size (I k))(hIB:∀k W W',I k W->Only B W W'->I k W')(hIx:∀c,zlH w.heap.size (Ix c))(hIxB:∀c W W',Ix c W->Only B W W'->Ix c W')(hA:∀k x a₁,zlH w.heap.size (A k x a₁))(h0:I 0 w)(hassign:∀(l k:Nat)(x:β)(W:World)(K:Act->World->Prop),I k W->vs[k]?=some x->(∀a₁ w₁,A k x a₁ w₁->Ext W w₁->K a₁ w₁)->assign.wpIn (Fence.wide.inRound l) 1 P (Exit.then K (fun _ _ _=>False)) {tmps:=(ps.zip (encs x)).foldl (fun t (p,v)=>t.setIfInBounds p v) a.tmps,defers:=[]} W)(hbody:∀(l k:Nat)(x:β)(a₁:Act)(W:World),A k x a₁ W->vs[k]?=some x->body.wpIn (Fence.wide.inRound l) 1 P (zqt s I Ix k W) a₁ W)(hdone:∀(D:Nat)(W:World),w.heap.size<=D->I vs.length W->W.heap[D]?=some (.deferred (some []))->Q .normal {a with defers:={target:=.collected D,args:=#[]}::a.defers} W)(hstop:∀(D:Nat)(c:Code)(W:World),w.heap.size<=D->Ix c W->W.heap[D]?=some (.deferred (some []))->c.wpIn Fence.wide 3 P Q {a with defers:={target:=.collected D,args:=#[]}::a.defers} W):
 (Code.rangeFunc g ps assign body).wpIn Fence.wide 3 P Q a w:=by
 refine wpIn_rangeFunc ?_;intro fn hfn;obtain⟨rc,hrc⟩:∃rc:LoopState->Option Code->Loop,rc=fun st pe=>{state:=st,pending:=pe,fn,tmps:=a.tmps,params:=ps,assign,body,defers:=w.heap.size}:=⟨_,rfl⟩
 have hD0:∀W1,W1=(w.alloc (.deferred (some []))).alloc (.loop (rc .ready none))->W1.heap[w.heap.size]?=some (.deferred (some []))/\W1.heap[w.heap.size+1]?=some (.loop (rc .ready none))/\Ext w W1:=by
  rintro W1 rfl;refine⟨(Below.heap_alloc _ _ _ (by simp)).trans (World.alloc_heap_new w _),?_,Ext.alloc (Ext.alloc (Ext.refl w) _) _⟩;have:=World.alloc_heap_new (w.alloc (.deferred (some []))) (.loop (rc .ready none))
  rwa[World.size_alloc]at this
 obtain⟨W1,hW1⟩:∃W1,W1=(w.alloc (.deferred (some []))).alloc (.loop (rc .ready none)):=⟨_,rfl⟩
 obtain⟨hK1,hL1,hE1⟩:=hD0 W1 hW1;have hO1:Only B w W1:=(Only.refl B w).ext hE1
 refine⟨w.heap.size+1,[{target:=.collected w.heap.size,args:=#[]}],W1,{target:=.fn (.func gf) lb,args:=#[.func (.yield (w.heap.size+1)) #[] #[]]},W1,gf,
  #[.func (.yield (w.heap.size+1)) #[] #[]]++lb,W1,?_,?_,fun _ _=>trivial,?_,fun _=>by omega,?_⟩
 . rw[hW1,hrc];exact run_enterLoop_outer _ _ _ _ _
 . simp only[resolve,hg]
   simp[go_sem]
 . simp[invoke,go_sem,eg]
 . have book:∀{W W':World}{l':Nat}{o o':Obj},W.heap[l']?=some o->Only B W W'->l'≠B->W'.heap[l']?=some o:=fun h k hne=>zdK k h hne
   refine(hit (w.heap.size+1) (fun k W=>I k W/\W.heap[w.heap.size+1]?=some (.loop (rc .ready none))/\W.heap[w.heap.size]?=some (.deferred (some [])))
    (fun W=>∃c,Ix c W/\W.heap[w.heap.size+1]?=some (.loop (rc .done (some c)))/\W.heap[w.heap.size]?=some (.deferred (some []))) W1 hE1.size (fun b hb=>hE1.block b (hs b hb))
    (fun k W W' h ho=>⟨hIB k W W' h.1 ho,zdK ho h.2.1 (by omega),zdK ho h.2.2 (by omega)⟩)
    (fun W W' h ho=>by
     obtain⟨c,h1,h2,h3⟩:=h
     exact⟨c,hIxB c W W' h1 ho,zdK ho h2 (by omega),zdK ho h3 (by omega)⟩)
    (fun k W h=>hsz k W h.1) ?_ ⟨hIB 0 w W1 h0 hO1,hL1,hK1⟩).mono ?_
   .
    rintro k x W ⟨hi,hl,hk⟩ hx;have hlt:w.heap.size+1<W.heap.size:=(Array.getElem?_eq_some_iff.1 hl).1;have hy:=run_yield (P:=P) (args:=encs x) hl (by rw[hrc];exact hps x);rw[hrc]at hy;refine⟨fn,_,assign,body,hy,roundIn_of_wpIn hfn (hassign _ k x W _ hi hx fun a₁ w₁ hA1 hEa=> ?_)⟩;have hl1:w₁.heap[w.heap.size+1]?=some (.loop (rc .ready none)):=(hEa.block _ hlt).trans hl;have hk1:w₁.heap[w.heap.size]?=some (.deferred (some [])):=(hEa.block _ (by omega)).trans hk;have hlt1:w.heap.size+1<w₁.heap.size:=(Array.getElem?_eq_some_iff.1 hl1).1;refine⟨_,run_beginRound hl1 (by rw[hrc]),?_⟩;obtain⟨W2,hW2⟩:∃W2,W2=w₁.putObj (w.heap.size+1) (.loop {rc .ready none with state:=.busy}):=⟨_,rfl⟩
    rw[<-hW2];have hl2:W2.heap[w.heap.size+1]?=some (.loop {rc .ready none with state:=.busy}):=by rw[hW2];exact World.putObj_heap_same hlt1
    have hk2:W2.heap[w.heap.size]?=some (.deferred (some [])):=by rw[hW2];exact(World.putObj_heap_other (by omega)).trans hk1
    have hA2:A k x a₁ W2:=hA k x a₁ w₁ W2 _ _ hA1 (Nat.le_succ _) hl1 rfl (by rw[hW2];exact zaN _ _ _)
    have hs2:Same s W W2:=fun b hb=>by
     have:=hs b hb;rw[hW2,World.putObj_heap_other (by omega)];exact hEa.block b (by omega)
    refine wpIn_mono (hbody _ k x a₁ W2 hA2 hx) ?_
    have fin:∀(jump:Option Code)(W3:World),KeepsOthers W2 W3->
     (Instr.endRound (w.heap.size+1) jump).run P W3=.ok (.bool jump.isNone) (W3.putObj (w.heap.size+1) (.loop (rc (if jump.isNone then .ready else .done) jump)))/\
     W3.heap[w.heap.size+1]?=some (.loop {rc .ready none with state:=.busy})/\
     (W3.putObj (w.heap.size+1) (.loop (rc (if jump.isNone then .ready else .done) jump))).heap[w.heap.size+1]?=some (.loop (rc (if jump.isNone then .ready else .done) jump))/\
     (W3.putObj (w.heap.size+1) (.loop (rc (if jump.isNone then .ready else .done) jump))).heap[w.heap.size]?=some (.deferred (some [])):=fun jump W3 h3=>by
     have hl3:=h3.same _ _ hl2 rfl;have hr:=run_endRound (P:=P) jump hl3;rw[hrc]at hr⊢;exact⟨hr,by rw[hrc]at hl3;exact hl3,World.putObj_heap_same (Array.getElem?_eq_some_iff.1 hl3).1,(World.putObj_heap_other (by omega)).trans (h3.same _ _ hk2 rfl)⟩
    rintro e a3 W3 hp
    cases e with
    |normal=>
     obtain⟨h3,hs3,hi3⟩:=hp;obtain⟨hr,hl3,hl4,hk4⟩:=fin none W3 h3;refine⟨_,_,hr,.inl ⟨rfl,⟨hI _ _ _ _ _ hi3 (Nat.le_succ _) hl3 rfl (zaN _ _ _),hl4,hk4⟩,(hs2.trans hs3).trans fun b hb=> ?_⟩⟩;have:=hs b hb;exact World.putObj_heap_other (by omega)
    |ret=>
     obtain⟨h3,hi3⟩:=hp;obtain⟨hr,hl3,hl4,hk4⟩:=fin (some .ret) W3 h3;exact⟨_,_,hr,.inr ⟨rfl,.ret,hIx _ _ _ _ _ hi3 (Nat.le_succ _) hl3 rfl (zaN _ _ _),hl4,hk4⟩⟩
    |exit id=>
     obtain⟨h3,hi3⟩:=hp;obtain⟨hr,hl3,hl4,hk4⟩:=fin (some (.exit id)) W3 h3;exact⟨_,_,hr,.inr ⟨rfl,.exit id,hIx _ _ _ _ _ hi3 (Nat.le_succ _) hl3 rfl (zaN _ _ _),hl4,hk4⟩⟩
    |goto t=>exact hp.elim
    |panic ch=>exact hp.elim
    |outgrown=>exact hp.elim
   .
    rintro e W2 ⟨⟨v,rfl⟩,⟨hi,hl,hk⟩|⟨c,hi,hl,hk⟩⟩
    . have hr:=run_endLoop (P:=P) hl (by rw[hrc];simp)
      have hr2:(Instr.endLoop (w.heap.size+1)).run P W2=.ok none (W2.putObj (w.heap.size+1) (.loop {rc .ready none with state:=.exhausted})):=by rw[hr,hrc]
      exact⟨none,_,hr2,hdone _ _ (Nat.le_refl _) (hI _ _ _ _ _ hi (Nat.le_succ _) hl rfl (zaN _ _ _)) ((World.putObj_heap_other (by omega)).trans hk)⟩
    . have hr:=run_endLoop (P:=P) hl (by rw[hrc];simp)
      have hr2:(Instr.endLoop (w.heap.size+1)).run P W2=.ok (some c) (W2.putObj (w.heap.size+1) (.loop {rc .done (some c)with state:=.exhausted})):=by rw[hr,hrc]
      exact⟨some c,_,hr2,hstop _ c _ (Nat.le_refl _) (hIx _ _ _ _ _ hi (Nat.le_succ _) hl rfl (zaN _ _ _)) ((World.putObj_heap_other (by omega)).trans hk)⟩
end
end Go.Proofs.YtpicpebolghcfaaGreatDoor
namespace Go.Proofs.YtpicpebolghcfaaGreatDoor
open Go.RowKit Go.Shelf Tryz
attribute [local go_sem] Oper.semAt_some
variable{w:World}{k:Int}{bs:List UInt8}{n c:Nat}{A:Option Addr}
theorem uSize{W:Int}(hb:zac w A n c bs)(hk:zaf k=true)(hW:wireI k=W):
 Calls prog 94 #[.int .i64 W,.slice A n c] w fun e w'=>e=.returned (.tuple #[.int .i64 ((stepN k bs).1:Nat),.int .u8 ((stepN k bs).2:Nat)])/\w=w':=by
 have hl:=hb.length;rcases zcd hk with⟨h12,hw⟩|⟨h12,h9,hw⟩|⟨h12,h9,hw⟩
 . rw[hw]at hW
   subst hW;have hs:stepN k bs=if bs.length<8 then(0,3)else(8,0):=by unfold stepN;rw[if_neg (by omega),if_neg (by omega)]
   rw[hs,hl];clear hs hw hl;by_cases h8:n<8
   . have h8i:(n:Int)<8:=by omega
     rw[if_pos h8]
     go_enter func94,ntmps94
     go_wp2
     go_ret2
     exact⟨rfl,rfl⟩
   . have h8i:¬(n:Int)<8:=by omega
     rw[if_neg h8]
     go_enter func94,ntmps94
     go_wp2
     go_ret2
     exact⟨rfl,rfl⟩
 . rw[hw]at hW
   subst hW;have hs:stepN k bs=if bs.length<4 then(0,3)else(4,0):=by unfold stepN;rw[if_neg (by omega),if_pos (by omega)]
   rw[hs,hl];clear hs hw hl;by_cases h8:n<4
   . have h8i:(n:Int)<4:=by omega
     rw[if_pos h8]
     go_enter func94,ntmps94
     go_wp2
     go_ret2
     exact⟨rfl,rfl⟩
   . have h8i:¬(n:Int)<4:=by omega
     rw[if_neg h8]
     go_enter func94,ntmps94
     go_wp2
     go_ret2
     exact⟨rfl,rfl⟩
 . rw[hw]at hW
   subst hW;have hs:stepN k bs=((readV bs).2.1,(readV bs).2.2):=by unfold stepN;rw[if_pos (by omega)]
   rw[hs];rcases hv:readV bs with⟨V,N,C⟩
   have Hv:=zsz hv;clear hs hw hl hv
   go_enter func94,ntmps94
   go_wp2_with (go_at_call 121;refine(vSkip hb Hv.out).mono ?_;rintro e w' ⟨rfl,rfl⟩)
   go_ret2
   exact⟨rfl,rfl⟩
structure RunV where
 A:Option Addr
 n:Nat
 c:Nat
 bs:List UInt8
 e:Nat
def runV(v:RunV):Value:=.agg #[.slice v.A v.n v.c,.int .u8 (v.e:Int)]
def InS(s:Nat->Prop)(A:Option Addr):Prop:=∀a,A=some a->s a.block
theorem zpz(a:Addr)(n:Nat):(a.add n).block=a.block:=by unfold Addr.add;split<;>rfl
variable{s:Nat->Prop}
theorem InS.cut(h:InS s A)(p:Prop) [Decidable p](l:Nat):InS s (if p then A else A.map (·.add l)):=by
 intro a ha;split at ha
 . exact h a ha
 . rcases A with _|b
   . cases ha
   . simp only[Option.map_some,Option.some.injEq]at ha
     subst ha;rw[zpz];exact h b rfl
theorem zcw{W W':World}(h:zac W A n c bs)(hA:0<n->InS s A)(hs:Same s W W'):zac W' A n c bs:=
 ⟨h.len,h.cap,h.max,fun hn=>by
  obtain⟨b,off,e,hb,hc⟩:=h.at_ hn;have hsb:=hs b (hA hn _ e)
  have hlt:b<W'.heap.size:=by
   rw[Array.getElem?_eq_getElem hb]at hsb;exact(Array.getElem?_eq_some_iff.1 hsb).1
  exact⟨b,off,e,hlt,fun j u hu=>(World.cell?_of_block (a:=⟨b,off+j,none⟩) hsb).trans (hc j u hu)⟩⟩
theorem zfk{P:Program}{t e:TypeId}{size bytes:Nat}{xs:List Value}(T:Elem P t e size bytes)(h:Reads w A n c size xs)(k:IntKind){l:Nat}(hl:l<=n):
 ∃A',(∀s,InS s A->InS s A')/\(∀W:World,(Instr.slice t (.slice A n c) (some (.int k (l:Int))) none none).run P W=.ok (.slice A' (n - l) (c - l)) W):=by
 obtain⟨i,z,hi,_,hsz,_,_⟩:=T.info;refine⟨if c=l then A else A.map (·.add (l*size)),fun s hs=>hs.cut _ _,fun W=> ?_⟩;simp[Instr.slice,run_underlying T.under,Instr.sliceBounds,run_sliceBound,sizeOf,typeInfo,hi,hsz,(by omega:(l:Int)<=n)]
inductive Chain(k:Int):Option Addr->Nat->Nat->List UInt8->List RunV->Prop
 |nil (A:Option Addr) (c:Nat):Chain k A 0 c [] []
 |ok {A A1 A2:Option Addr} {m c n:Nat} {bs:List UInt8} {vs:List RunV} (hb:bs≠ []) (h:stepN k bs=(n,0))
  (h1:∀W:World,(Instr.slice 24 (.slice A m c) none (some (.int .i64 (n:Int))) none).run prog W=.ok (.slice A1 n c) W)
  (h2:∀W:World,(Instr.slice 24 (.slice A m c) (some (.int .i64 (n:Int))) none none).run prog W=.ok (.slice A2 (m - n) (c - n)) W)
  (hA:∀s,InS s A->InS s A2) (t:Chain k A2 (m - n) (c - n) (bs.drop n) vs):Chain k A m c bs (⟨A1,n,c,bs.take n,0⟩::vs)
 |bad {A A1:Option Addr} {m c C:Nat} {bs:List UInt8} (hb:bs≠ []) (h:stepN k bs=(0,C)) (hC:C≠0)
  (h1:∀W:World,(Instr.slice 24 (.slice A m c) none (some (.int .i64 (0:Int))) none).run prog W=.ok (.slice A1 0 c) W):Chain k A m c bs [⟨A1,0,c,[],C⟩]
theorem zkC(k:Int):∀(f:Nat)(A:Option Addr)(m c:Nat)(bs:List UInt8)(w:World),zac w A m c bs->bs.length<=f->
 ∃vs,Chain k A m c bs vs/\(∀v∈vs,zac w v.A v.n v.c v.bs/\v.e<=4/\v.n<=m)/\vs.map (fun v=>(v.bs,v.e))=valsF k f bs
 |f,A,m,c,[],w,hb,_=>by
  have hm:=hb.length;simp only[List.length_nil]at hm;subst hm;exact⟨[],.nil A c,(fun v h=>by cases h),(by cases f<;>rfl)⟩
 |0,A,m,c,a::l,w,hb,h=>by simp at h
 |f+1,A,m,c,a::l,w,hb,h=>by
  have hm:=hb.length;rcases hs:stepN k (a::l)with⟨n,C⟩
  have hbd:=zdp k (a::l);rw[hs]at hbd;simp only at hbd;by_cases hC:C=0
  . subst hC
    have hn:1<=n/\n<=m:=by omega
    obtain⟨A1,h1,r1⟩:=zgR elemB hb .i64 (m:=n) hn.2;obtain⟨A2,h2,r2⟩:=zbx elemB hb .i64 (l:=n) hn.2;obtain⟨A3,h3,h4⟩:=zfk elemB hb .i64 (l:=n) hn.2
    have e3:A3=A2:=by
     have e:=(h2 w).symm.trans (h4 w);injection e with e _;injection e with e _ _;exact e.symm
    rw[e3]at h3;have r1':zac w A1 n c ((a::l).take n):=by unfold zac;rw[List.map_take];simpa using r1
    have r2':zac w A2 (m - n) (c - n) ((a::l).drop n):=by unfold zac;rw[List.map_drop];simpa using r2
    obtain⟨vs,c1,c2,c3⟩:=zkC k f A2 (m - n) (c - n) ((a::l).drop n) w r2' (by rw[List.length_drop];simp only[List.length_cons]at h⊢;omega);refine⟨⟨A1,n,c,(a::l).take n,0⟩::vs,.ok (by simp) hs h1 h2 h3 c1,fun v hv=> ?_,?_⟩
    . rcases List.mem_cons.1 hv with rfl|hv
      . exact⟨r1',by simp,hn.2⟩
      . have:=c2 v hv
        exact⟨this.1,this.2.1,by omega⟩
    . rw[List.map_cons,c3]
      conv=>rhs;unfold valsF
      rw[if_neg (by simp),hs,if_pos rfl]
  . have hn:n=0:=by omega
    subst hn;obtain⟨A1,h1,r1⟩:=zgR elemB hb .i64 (m:=0) (Nat.zero_le _);have r1':zac w A1 0 c []:=by unfold zac;simpa using r1
    refine⟨[⟨A1,0,c,[],C⟩],.bad (by simp) hs hC h1,fun v hv=> ?_,?_⟩
    . simp only[List.mem_singleton]at hv
      subst hv;exact⟨r1',by simp only;omega,Nat.zero_le _⟩
    . conv=>rhs;unfold valsF
      rw[if_neg (by simp),hs,if_neg hC];rfl
theorem zdT(W:World)(B:Nat)(v:Value):Only B W (W.setCell ⟨B,0,none⟩ v):=grownBy_setCell' W B v
variable{vs:List RunV}{m:Nat}
theorem zqu(h:Chain k A m c bs vs)(hl:bs.length=m):(m=0/\vs=[])\/(0<m/\bs≠ []):=by
 cases h with
 |nil=>exact .inl ⟨rfl,rfl⟩
 |ok hb=>exact .inr ⟨by cases bs with|nil=>exact absurd rfl hb|cons a l=>simp only[List.length_cons]at hl;omega,hb⟩
 |bad hb=>exact .inr ⟨by cases bs with|nil=>exact absurd rfl hb|cons a l=>simp only[List.length_cons]at hl;omega,hb⟩
variable{Bk B:Nat}
theorem znU(hb:zac w A m c bs)(hm:m<=1000000000)(hk:zaf k=true)(hch:Chain k A m c bs vs)(cB:BlkT w B 24 #[.slice A m c])(ck:BlkT w Bk 3 #[.int .i64 k])(hsk:s Bk)(hsB:s B)(hne:Bk≠B)(hA:0<m->InS (fun b=>s b/\b≠B) A):
 IterK prog 93 #[.pointer (some ⟨Bk,0,none⟩),.pointer (some ⟨B,0,none⟩)] (fun v=>#[runV v]) vs s B w:=by
 intro l J Jx W hsz hsame hJ hJx hJs hY h0;have ckW:BlkT W Bk 3 #[.int .i64 k]:=(hsame Bk hsk).trans ck;have cBW:BlkT W B 24 #[.slice A m c]:=(hsame B hsB).trans cB;have hbW:zac W A m c bs:=zcw hb (fun h0 a ha=>(hA h0 a ha).1) hsame;have HJ:=zsz hJ;have HY:=zsz hY;have Hch:=zsz hch;have HcB:=zsz cBW;have Hck:=zsz ckW;have k0:W.cell? ⟨Bk,0,none⟩=some (.int .i64 k):=ckW.cell 0;clear hJ hY hJx hJs hsame hsz hb cB ck hch cBW ckW;refine callsIn_of_wp func93 rfl trivial ?_ rfl;simp only[ntmps93,List.size_toArray,List.length_cons,List.length_nil,Nat.reduceAdd,Nat.reduceSub,Array.replicate_succ,Array.replicate_zero,List.push_toArray,List.append_toArray,List.nil_append,List.cons_append]
 gi_wp2_with (first|(refine⟨trivial,?_⟩;gi_at_call 31;refine(callsIn_wide.2 (zbP k _)).mono ?_;rintro e w1 ⟨rfl,E1⟩;rw[hk];have k1:=E1.of_cell k0;have kl:Bk<w1.heap.size:=Nat.lt_of_lt_of_le (Hck.out.lt) E1.size)|(refine⟨trivial,?_⟩;gi_at_call 58;refine(callsIn_wide.2 (zgC hk rfl)).mono ?_;rintro e w2 ⟨rfl,E2⟩))
 have X2:=E1.trans E2
 gi_loopw [6] (fun u wr=>∃(j:Nat)(A':Option Addr)(m' c':Nat)(bs':List UInt8),Hid (Chain k A' m' c' bs' (vs.drop j))/\j<=vs.length/\Hid (BlkT wr B 24 #[.slice A' m' c'])/\zac wr A' m' c' bs'/\m'<=1000000000/\(0<m'->InS (fun b=>s b/\b≠B) A')/\J j wr)
  (fun _ wr=>lenOf ((wr.cell? ⟨B,0,none⟩).getD undef))
 case atStart=>exact⟨0,A,m,c,bs,by simpa using Hch,Nat.zero_le _,HcB.out.up X2,hbW.up X2,hm,hA,HJ.out 0 W w2 h0 ((Only.refl B W).ext X2)⟩
 case round=>
  obtain⟨j,A',m',c',bs',hc,hj,hB,hb',hm',hA',hJj⟩:=hrel;have b0:wr.cell? ⟨B,0,none⟩=some (.slice A' m' c'):=hB.out.cell 0;have bl:=hB.out.lt;rcases zqu hc.out hb'.length with⟨rfl,hnil⟩|⟨hpos,hbs⟩
  . have hje:j=vs.length:=by
     have:=congrArg List.length hnil;rw[List.length_drop]at this;simp only[List.length_nil]at this;omega
    subst hje;have HJj:=zsz hJj;clear hnil hJj
    gi_wp2
    go_end0
    exact⟨⟨_,rfl⟩,.inl HJj.out⟩
  . have hposi:(0:Int)<m':=by omega
    have hcc:=hc.out
    cases hd:vs.drop j with
    |nil=>rw[hd]at hcc;cases hcc;exact absurd rfl hbs
    |cons v vs'=>
     have hjl:j<vs.length:=by
      have:=congrArg List.length hd;rw[List.length_drop]at this;simp only[List.length_cons]at this;omega
     have hvj:vs[j]?=some v:=by have:=congrArg (fun l=>l[0]?) hd;simpa using this
     have hd2:vs.drop (j+1)=vs':=by have:=congrArg (List.drop 1) hd;simpa using this
     rw[hd]at hcc;obtain⟨fn,tmps,assign,body,hy,hR⟩:=HY.out j v wr hJj hvj
     cases hcc with
     | @ok _ A1 A2 _ _ n _ _ hb1 hst h1 h2 hAA ht=>
       have hbd:=zdp k bs';rw[hst]at hbd;simp only at hbd;have hbl:=hb'.length;have hn:n<=m':=by omega
       have hcap:=Reads.cap hb';have hsz:=uSize (w:=wr) hb' hk rfl;rw[hst]at hsz;obtain⟨A3,h3,r3⟩:=zbx elemB hb' .i64 (l:=n) hn;have r3':zac wr A3 (m' - n) (c' - n) (bs'.drop n):=by unfold zac;rw[List.map_drop];simpa using r3
       have e3:A3=A2:=by
        have e:=(h2 wr).symm.trans (h3 wr);injection e with e _;injection e with e _ _;exact e.symm
       rw[e3]at r3';have Hsz:=zsz hsz;have Hd2:=zsz hd2;have Ht:=zsz ht;have HR:=zsz hR;have hni:(n:Int)<=m':=by omega
       have hdec:Hid (m' - n<m'):=by show m' - n<m';omega
       unfold runV at hy;simp only at hy;rw[show((0:Nat):Int)=0 from rfl]at hy;clear hsz hd hd2 ht hR hst hbd hbl h3 r3 e3 hb1 hvj
       gi_wp2_with (first|(refine⟨trivial,?_⟩;gi_at_call 94;refine(callsIn_wide.2 Hsz.out).mono ?_;rintro e w3 ⟨rfl,rfl⟩))
       refine HR.out.mono ?_;rintro e W' (⟨rfl,hJ',hsm⟩|⟨rfl,hJx'⟩)
       . have hB':BlkT W' B 24 #[.slice A' m' c']:=(hsm B hsB).trans hB.out
         have b1:W'.cell? ⟨B,0,none⟩=some (.slice A' m' c'):=hB'.cell 0;have b2:W'.frozen? ⟨B,0,none⟩=false:=hB'.free 0;have bl2:=hB'.lt;have r4:=zcw r3' (s:=fun b=>s b/\b≠B) (fun _=>hAA _ (hA' hpos)) (fun b hb=>hsm b hb.1);have r5:zac (W'.setCell ⟨B,0,none⟩ (.slice A2 (m' - n) (c' - n))) A2 (m' - n) (c' - n) (bs'.drop n):=zcw r4 (fun _=>hAA _ (hA' hpos)) (fun b hb=>Below.heap_setCell W' ⟨B,0,none⟩ _ b hb.2);have HB':=zsz hB';have HJ':=zsz hJ';have hB2:BlkT (W'.setCell ⟨B,0,none⟩ (.slice A2 (m' - n) (c' - n))) B 24 #[.slice A2 (m' - n) (c' - n)]:=by have:=hB'.set_ 0 (.slice A2 (m' - n) (c' - n));simpa using this
         have HB2:=zsz hB2;clear hJ' hB' hB2 hsm r3' r4
         gi_wp2
         go_roundw
         case rel=>exact⟨j+1,A2,m' - n,c' - n,bs'.drop n,by rw[Hd2.out];exact Ht.out,by omega,HB2,r5,by omega,fun _=>hAA _ (hA' hpos),HJ.out _ _ _ HJ'.out (zdT _ _ _)⟩
         case measure=>
          have e1:=HB2.out.cell 0;rw[e1,b0];exact hdec.out
       . gi_wp2
         exact bodyPost_ret (results_none rfl _ _ _) rfl ⟨⟨_,rfl⟩,.inr hJx'⟩
     | @bad _ A1 _ _ C _ hb1 hst hC h1=>
       have hbd:=zdp k bs';rw[hst]at hbd;simp only at hbd;have hcap:=Reads.cap hb';have hsz:=uSize (w:=wr) hb' hk rfl;rw[hst]at hsz
       have hlast:j+1=vs.length:=by
        have:=congrArg List.length hd;rw[List.length_drop]at this;simp only[List.length_cons,List.length_nil]at this;omega
       have Hsz:=zsz hsz;have HR:=zsz hR;have HC:((C:Int) !=0)=true:=by rw[bne_iff_ne];omega
       have Hlast:=zsz hlast;unfold runV at hy;simp only at hy;have hz:((0:Nat):Int)=0:=rfl;clear hsz hd hd2 hR hst hbd hb1 hvj hlast hC
       gi_wp2_with (first|(refine⟨trivial,?_⟩;gi_at_call 94;refine(callsIn_wide.2 Hsz.out).mono ?_;rintro e w3 ⟨rfl,rfl⟩))
       refine HR.out.mono ?_;rintro e W' (⟨rfl,hJ',hsm⟩|⟨rfl,hJx'⟩)
       . rw[Hlast.out]at hJ'
         have HJ':=zsz hJ';clear hJ' hsm
         gi_wp2
         exact bodyPost_ret (results_none rfl _ _ _) rfl ⟨⟨_,rfl⟩,.inl HJ'.out⟩
       . gi_wp2
         exact bodyPost_ret (results_none rfl _ _ _) rfl ⟨⟨_,rfl⟩,.inr hJx'⟩
theorem zjw(hk:zaf k=false)(ck:BlkT w Bk 3 #[.int .i64 k])(hsk:s Bk):
 IterK prog 93 #[.pointer (some ⟨Bk,0,none⟩),.pointer (some ⟨B,0,none⟩)] (fun v=>#[runV v]) [⟨none,0,0,[],2⟩] s B w:=by
 intro l J Jx W hsz hsame hJ hJx hJs hY h0;have ckW:BlkT W Bk 3 #[.int .i64 k]:=(hsame Bk hsk).trans ck;have HJ:=zsz hJ;have HY:=zsz hY;have Hck:=zsz ckW;have k0:W.cell? ⟨Bk,0,none⟩=some (.int .i64 k):=ckW.cell 0;have kl:=ckW.lt;clear hJ hY hJx hJs hsame hsz ck ckW;refine callsIn_of_wp func93 rfl trivial ?_ rfl;simp only[ntmps93,List.size_toArray,List.length_cons,List.length_nil,Nat.reduceAdd,Nat.reduceSub,Array.replicate_succ,Array.replicate_zero,List.push_toArray,List.append_toArray,List.nil_append,List.cons_append]
 gi_wp2_with (first|(refine⟨trivial,?_⟩;gi_at_call 31;refine(callsIn_wide.2 (zbP k _)).mono ?_;rintro e w1 ⟨rfl,E1⟩;rw[hk];obtain⟨fn,tmps,assign,body,hy,hR⟩:=HY.out 0 _ w1 (HJ.out 0 W w1 h0 ((Only.refl B W).ext E1)) rfl;unfold runV at hy;simp only at hy;rw[show((2:Nat):Int)=2 from rfl]at hy;have HR:=zsz hR;clear hR))
 refine HR.out.mono ?_;rintro e W' (⟨rfl,hJ',hsm⟩|⟨rfl,hJx'⟩)
 . gi_wp2
   exact bodyPost_ret (results_none rfl _ _ _) rfl ⟨⟨_,rfl⟩,.inl hJ'⟩
 . gi_wp2
   exact bodyPost_ret (results_none rfl _ _ _) rfl ⟨⟨_,rfl⟩,.inr hJx'⟩
end Go.Proofs.YtpicpebolghcfaaGreatDoor
namespace Go.Proofs.YtpicpebolghcfaaGreatDoor
open Go.RowKit Go.Shelf Tryz
attribute [local go_sem] Oper.semAt_some
variable{w:World}{k:Int}{c:Nat}{A:Option Addr}
theorem zrz{n:Nat}:
 Calls prog 59 #[.int .i64 k,.slice A n c] w fun e w'=>e=.returned (.func (.func 93) #[] #[.pointer (some ⟨w.heap.size,0,none⟩),.pointer (some ⟨w.heap.size+1,0,none⟩)])/\
  (w.alloc (.cells #[.int .i64 k] 3)).alloc (.cells #[.slice A n c] 24)=w':=by
 go_enter func59,ntmps59
 go_wp2
 go_ret
 exact⟨rfl,rfl⟩
structure Vals(k:Int)(bs:List UInt8)(w:World)(m:Nat)(vs:List RunV):Prop where
 each:∀v∈vs,zac w v.A v.n v.c v.bs/\v.e<=4/\v.n<=m
 list:vs.map (fun v=>(v.bs,v.e))=valsV k bs
variable{bs:List UInt8}{m:Nat}
theorem zpA{w0:World}(hb:zac w0 A m c bs)(hm:m<=1000000000)(hE:Ext w0 w){Bk B:Nat}(cB:BlkT w B 24 #[.slice A m c])(ck:BlkT w Bk 3 #[.int .i64 k])(h1:w0.heap.size<=Bk)(h2:w0.heap.size<=B)(hne:Bk≠B):
 ∃vs,Vals k bs w0 m vs/\IterK prog 93 #[.pointer (some ⟨Bk,0,none⟩),.pointer (some ⟨B,0,none⟩)] (fun v=>#[runV v]) vs (fun b=>b<w0.heap.size\/b=Bk\/b=B) B w:=by
 rcases hk:zaf k with _|_
 . refine⟨_,⟨fun v hv=> ?_,?_⟩,zjw (Bk:=Bk) (B:=B) hk ck (.inr (.inl rfl))⟩
   . simp only[List.mem_singleton]at hv
     subst hv;exact⟨zac.nil w0,by simp,by simp⟩
   . unfold valsV
     rw[if_pos hk];rfl
 . obtain⟨vs,c1,c2,c3⟩:=zkC k bs.length A m c bs w0 hb (Nat.le_refl _)
   refine⟨vs,⟨c2,by unfold valsV;rw[if_neg (by rw[hk];simp)];exact c3⟩,znU (hb.up hE) hm hk c1 cB ck (.inr (.inl rfl)) (.inr (.inr rfl)) hne (fun h0 a ha=> ?_)⟩;obtain⟨b,off,e,hb1,_⟩:=hb.at_ h0;rw[e]at ha;cases ha;exact⟨.inl hb1,by show b≠B;omega⟩
theorem Vals.bad{k:Int}{bs:List UInt8}{w:World}{m j:Nat}{vs:List RunV}{x:RunV}(h:Vals k bs w m vs)(hx:vs[j]?=some x)(he:x.e≠0):codeV k bs=x.e:=by
 have:(valsV k bs)[j]?=some (x.bs,x.e):=by rw[<-h.list,List.getElem?_map,hx];rfl
 exact zeh this he
theorem Vals.fine{vs:List RunV}(h:Vals k bs w m vs)(hf:∀(i:Nat) v,i<vs.length->vs[i]?=some v->v.e=0):codeV k bs=0:=by
 refine zga (fun j x hx=> ?_);rw[<-h.list,List.getElem?_map]at hx;rcases hv:vs[j]? with _|v
 . rw[hv]at hx;cases hx
 . rw[hv]at hx
   simp only[Option.map_some,Option.some.injEq]at hx;subst hx;exact hf j v (List.getElem?_eq_some_iff.1 hv).1 hv
structure zqO(w wa:World)(vs:List RunV)(j:Nat)(W:World):Prop where
 r0:BlkT W w.heap.size 3 #[.int .i64 0]
 r1:BlkT W (w.heap.size+1) 28 #[.int .u8 0]
 r2:BlkT W (w.heap.size+1+1) 3 #[.int .i64 (j:Int)]
 ext:Ext w W
 size:wa.heap.size<=W.heap.size
 fine:∀(i:Nat) v,i<j->vs[i]?=some v->v.e=0
structure zst(w:World)(bs:List UInt8)(k:Int)(c:Code)(W:World):Prop where
 ret:c=.ret
 r0:BlkT W w.heap.size 3 #[.int .i64 0]
 r1:BlkT W (w.heap.size+1) 28 #[.int .u8 (codeV k bs:Nat)]
 ext:Ext w W
 bad:codeV k bs≠0
theorem zpB(hb:zac w A m c bs)(hm:m<=1000000000):
 Calls prog 79 #[.int .i64 k,.slice A m c] w fun e w'=>e=.returned (.tuple #[.int .i64 (zgv k bs:Nat),.int .u8 (codeV k bs:Nat)])/\Ext w w':=by
 refine(callsIn_wide (n:=3)).1 ?_;refine callsIn_of_wp_marks func79 rfl trivial ?_ rfl;simp only[ntmps79,List.size_toArray,List.length_cons,List.length_nil,Nat.reduceAdd,Nat.reduceSub,Array.replicate_succ,Array.replicate_zero,List.push_toArray,List.append_toArray,List.nil_append,List.cons_append]
 gi_wp2_with (first|(refine⟨trivial,?_⟩;gi_at_call 59;refine(callsIn_wide.2 zrz).mono ?_;rintro e w1 ⟨rfl,rfl⟩))
 obtain⟨wa,hwa⟩:∃wa,wa=(((((w.alloc (.cells #[.int .i64 0] 3)).alloc (.cells #[.int .u8 0] 28)).alloc (.cells #[.int .i64 0] 3)).alloc (.cells #[.int .i64 k] 3)).alloc (.cells #[.slice A m c] 24)):=⟨_,rfl⟩
 rw[<-hwa];have X:Ext w wa:=by rw[hwa];exact xx
 have sz:wa.heap.size=w.heap.size+5:=by rw[hwa];simp
 have b0:BlkT wa w.heap.size 3 #[.int .i64 0]:=by rw[hwa];exact((((BlkT.new w _ _ rfl).alloc _).alloc _).alloc _).alloc _
 have b1:BlkT wa (w.heap.size+1) 28 #[.int .u8 0]:=by rw[hwa];exact(((BlkT.new _ _ _ (by simp)).alloc _).alloc _).alloc _
 have b2:BlkT wa (w.heap.size+1+1) 3 #[.int .i64 0]:=by rw[hwa];exact((BlkT.new _ _ _ (by simp)).alloc _).alloc _
 have b3:BlkT wa (w.heap.size+1+1+1) 3 #[.int .i64 k]:=by rw[hwa];exact(BlkT.new _ _ _ (by simp)).alloc _
 have b4:BlkT wa (w.heap.size+1+1+1+1) 24 #[.slice A m c]:=by rw[hwa];exact BlkT.new _ _ _ (by simp)
 obtain⟨vs,hV,hit⟩:=zpA hb hm X b4 b3 (by omega) (by omega) (by omega);have hvl:vs.length<=m+1:=by have:=zhz k bs;rw[<-hV.list,List.length_map,hb.length]at this;exact this
 refine zgM (w:=wa) rfl (enters_of func93 (by kernel_rfl) rfl) hit (fun b h=>by have:=b4.lt;omega) b4.lt (fun _=>rfl)
  (zqO w wa vs) (zst w bs k)
  (fun j x a₁ W=>zqO w wa vs j W/\∃b7,BlkT W b7 123 #[.slice x.A x.n x.c,.int .u8 (x.e:Int)]/\w.heap.size+5<=b7/\a₁={tmps:=#[.int .i64 k,.slice A m c,undef,undef,.pointer (some ⟨w.heap.size,0,none⟩),.pointer (some ⟨w.heap.size+1,0,none⟩),.pointer (some ⟨w.heap.size+1+1,0,none⟩),.pointer (some ⟨b7,0,none⟩),.int .i64 k,.slice A m c,
   .func (.func 93) #[] #[.pointer (some ⟨w.heap.size+1+1+1,0,none⟩),.pointer (some ⟨w.heap.size+1+1+1+1,0,none⟩)],runV x,undef,undef,undef,undef,undef,undef,undef,undef],defers:=[]})
  (fun j W h=>h.size) ?hI ?hIB ?hIx ?hIxB ?hA ⟨b0,b1,b2,X,Nat.le_refl _,fun i v h=>absurd h (Nat.not_lt_zero i)⟩ ?assign ?body ?done ?stop
 case hI=>
  intro j W W' b o h hb2 ho hc hO;exact⟨h.r0.besides ho hc hO,h.r1.besides ho hc hO,h.r2.besides ho hc hO,hO.toExt h.ext (by omega),Nat.le_trans h.size hO.size,h.fine⟩
 case hIB=>
  intro j W W' h hO;exact⟨h.r0.onlyB hO (by omega),h.r1.onlyB hO (by omega),h.r2.onlyB hO (by omega),hO.toExt h.ext (by omega),Nat.le_trans h.size hO.size,h.fine⟩
 case hIx=>
  intro cc W W' b o h hb2 ho hc hO;exact⟨h.ret,h.r0.besides ho hc hO,h.r1.besides ho hc hO,hO.toExt h.ext (by omega),h.bad⟩
 case hIxB=>
  intro cc W W' h hO;exact⟨h.ret,h.r0.onlyB hO (by omega),h.r1.onlyB hO (by omega),hO.toExt h.ext (by omega),h.bad⟩
 case hA=>
  rintro j x a₁ W W' b o ⟨h,b7,h7,hl,rfl⟩ hb2 ho hc hO;exact⟨⟨h.r0.besides ho hc hO,h.r1.besides ho hc hO,h.r2.besides ho hc hO,hO.toExt h.ext (by omega),Nat.le_trans h.size hO.size,h.fine⟩,b7,h7.besides ho hc hO,hl,rfl⟩
 case assign=>
  intro l j x W K h hx hK;unfold runV
  gi_wp2
  refine hK _ _ ⟨?_,W.heap.size,BlkT.new W _ _ rfl,by have:=h.size;omega,rfl⟩ (Ext.alloc (Ext.refl W) _);exact⟨h.r0.alloc _,h.r1.alloc _,h.r2.alloc _,h.ext.alloc _,Nat.le_trans h.size (by simp),h.fine⟩
 case body=>
  rintro l j x a₁ W ⟨h,b7,h7,hl,rfl⟩ hx;have y7:W.cell? ⟨b7,1,none⟩=some (.int .u8 (x.e:Int)):=h7.cell 1;have yl:=h7.lt;by_cases he:x.e=0
  . have H:=zsz h
    have y2:=h.r2.cell 0;have f2:=h.r2.free 0;have l2:=h.r2.lt;have q:((x.e:Int) !=0)=false:=by rw[he];rfl
    have He:=zsz he;have Hx:=zsz hx;have hj:j<vs.length:=(List.getElem?_eq_some_iff.1 hx).1;clear h he h7 b0 b1 b2 b3 b4 hit hwa hx
    gi_wp2
    have h:=H.out;refine⟨KeepsOthers.setCell _ _ _,fun b hb3=>Below.heap_setCell W ⟨w.heap.size+1+1,0,none⟩ _ b (by show b≠w.heap.size+1+1;omega),?_⟩;refine⟨h.r0.far (by show w.heap.size≠w.heap.size+1+1;omega) _,h.r1.far (by show w.heap.size+1≠w.heap.size+1+1;omega) _,?_,h.ext.setCell (by show w.heap.size<=w.heap.size+1+1;omega) _,by have:=h.size;simpa using this,fun i v hi hv=> ?_⟩
    . have:=h.r2.set_ 0 (.int .i64 ((j:Int)+1))
      simpa using this
    . by_cases e:i=j
      . subst e
        have:=Hx.out.symm.trans hv;cases this;exact He.out
      . exact h.fine i v (by omega) hv
  . have H:=zsz h
    have hcd:=hV.bad hx he;have y0:=h.r0.cell 0;have y1:=h.r1.cell 0;have f0:=h.r0.free 0;have f1:=h.r1.free 0;have l0:=h.r0.lt;have l1:=h.r1.lt;have q:((x.e:Int) !=0)=true:=by rw[bne_iff_ne];omega
    have Hcd:=zsz hcd;have He:=zsz he;clear h he h7 b0 b1 b2 b3 b4 hit hwa hx hcd;have hmx:prog.follows .mixedOrders=true:=by kernel_rfl
    gi_wp2
    gi_region_with_o (fail)
    all_goals gi_wp2
    all_goals
     have h:=H.out;refine⟨((KeepsOthers.setCell _ _ _).trans (KeepsOthers.setCell _ _ _)).trans (KeepsOthers.drew _),rfl,?_,?_,?_,by rw[Hcd.out];exact He.out⟩
     . have:=((h.r0.set_ 0 (.int .i64 0)).far (p:=⟨w.heap.size+1,0,none⟩) (by show w.heap.size≠w.heap.size+1;omega) (.int .u8 (x.e:Int))).drew
       simpa using this
     . have:=((h.r1.far (p:=⟨w.heap.size,0,none⟩) (by show w.heap.size+1≠w.heap.size;omega) (.int .i64 0)).set_ 0 (.int .u8 (x.e:Int))).drew
       rw[Hcd.out];simpa using this
     . exact((h.ext.setCell (p:=⟨w.heap.size,0,none⟩) (Nat.le_refl _) _).setCell (p:=⟨w.heap.size+1,0,none⟩) (Nat.le_succ _) _).drew
 case done=>
  intro D W hD h hK;have y2:=h.r2.cell 0;have l2:=h.r2.lt;have H:=zsz h;have z0:=h.r0.cell 0;have z1:=h.r1.cell 0;have g0:=h.r0.free 0;have g1:=h.r1.free 0;have l0:=h.r0.lt;have l1:=h.r1.lt;have hcd:=hV.fine h.fine;have hll:vs.length=(valsV k bs).length:=by rw[<-hV.list,List.length_map]
  have HK:=zsz hK;have Hcd:=zsz hcd;have Hll:=zsz hll;clear h b0 b1 b2 b3 b4 hit hwa hcd hll
  gi_wp2
  have h:=H.out;refine⟨by simp,.inl ⟨_,_,rfl,run_takeDeferred (b:=D) (ds:=[]) ?_,?_⟩⟩
  . rw[Below.heap_setCell _ ⟨w.heap.size+1,0,none⟩ _ D (by show D≠w.heap.size+1;omega),Below.heap_setCell _ ⟨w.heap.size,0,none⟩ _ D (by show D≠w.heap.size;omega)]
    exact HK.out
  . have R0:=(((h.r0.set_ 0 (.int .i64 (vs.length:Int))).far (p:=⟨w.heap.size+1,0,none⟩) (by show w.heap.size≠w.heap.size+1;omega) (.int .u8 0)).putObj (D:=D) (by omega) (.deferred none)).cell 0
    have R1:=(((h.r1.far (p:=⟨w.heap.size,0,none⟩) (by show w.heap.size+1≠w.heap.size;omega) (.int .i64 (vs.length:Int))).set_ 0 (.int .u8 0)).putObj (D:=D) (by omega) (.deferred none)).cell 0;have E:Ext w (((W.setCell ⟨w.heap.size,0,none⟩ (.int .i64 (vs.length:Int))).setCell ⟨w.heap.size+1,0,none⟩ (.int .u8 0)).putObj D (.deferred none)):=(zaN _ _ _).toExt ((h.ext.setCell (p:=⟨w.heap.size,0,none⟩) (Nat.le_refl _) _).setCell (p:=⟨w.heap.size+1,0,none⟩) (Nat.le_succ _) _) (by omega);simp at R0 R1;exact⟨.tuple #[.int .i64 (vs.length:Int),.int .u8 0],by simp[results,results79,go_sem,R0,R1],by unfold zgv;rw[Hcd.out,if_pos rfl,Hll.out];rfl,E⟩
 case stop=>
  intro D cc W hD h hK;obtain rfl:=h.ret;have H:=zsz h;have HK:=zsz hK;clear h b0 b1 b2 b3 b4 hit hwa
  gi_wp2
  have h:=H.out;refine⟨by simp,.inl ⟨_,_,rfl,run_takeDeferred HK.out,?_⟩⟩;have R0:=(h.r0.putObj (D:=D) (by omega) (.deferred none)).cell 0;have R1:=(h.r1.putObj (D:=D) (by omega) (.deferred none)).cell 0;have E:Ext w (W.putObj D (.deferred none)):=(zaN _ _ _).toExt h.ext (by omega);simp at R0 R1;exact⟨.tuple #[.int .i64 0,.int .u8 (codeV k bs:Nat)],by simp[results,results79,go_sem,R0,R1],by unfold zgv;rw[if_neg h.bad];rfl,E⟩
end Go.Proofs.YtpicpebolghcfaaGreatDoor
namespace Go.Proofs.YtpicpebolghcfaaGreatDoor
open Go.RowKit Go.Shelf Tryz
attribute [local go_sem] Oper.semAt_some
variable{b n c base:Nat}{xs:List Value}{A:Option Addr}{e:TypeId}
theorem zhS{F:Fence}{d:Nat}{P:Program}{ops:Array Oper}{rest:List Oper}{o:Oper}{a:Act}{Q:Exit->Act->World->Prop}{t:TypeId}{bytes:Nat}{w:World}(T:Elem P t e 1 bytes)(hgd:o.guard=none)(s x:Operand)(ho:o.op=.call {callee:=.builtin .append,args:=#[s,x],argTypes:=#[t,t]})(hs:a.eval s=.slice A n c)(row:w.ownsRow base e 1 (.slice A n c) n xs){u:Value}(hx:a.eval x=.slice (some ⟨b,0,none⟩) 1 1)(hb0:b=w.heap.size)(h1:u.oneCell'=true)(hb:(n+1)*bytes<=140737488355328)(h63:n+1<=maxLen)(hbase:base<=w.heap.size)(k:∀A' c' w',w'.ownsRow base e 1 (.slice A' (n+1) c') (n+1) (xs++[u])->(w.alloc (.cells #[u] e)).grownBy w' (Value.slice A n c).ownBlock->wpListIn F d P ops Q rest (a.put o.dst (.slice A' (n+1) c')) w'):
 wpListIn F d P ops Q (o::rest) a (w.alloc (.cells #[u] e)):=by
 obtain⟨i,z,hi,hz,hsz,hby,hzs⟩:=T.info;subst hb0;refine wpListIn_append_own _ hgd s x t ho base e i z 1 bytes T.under hi hz hsz hby hzs (by omega) (.slice A n c) n xs hs (row.alloc _) ⟨w.heap.size,0,none⟩ 1 1 [u] hx rfl (fun j v hv=> ?_) (by simpa using h1) h63 hb (by simp;omega) ?_
 . rcases j with _|j
   . simp at hv;subst hv
     simp[zdM]
   . simp at hv
 . intro v' w' hrow hg _
   obtain⟨g,cap,rfl⟩:=ownsRow_succ hrow;exact k _ _ _ hrow hg
variable{size:Nat}{W W':World}
theorem zsu(h:W.ownsRow base e size (.slice A n c) n xs)(hE:Ext W W'):W'.ownsRow base e size (.slice A n c) n xs:=by
 refine⟨h.1,?_⟩;rcases h.2 with h2|⟨g,cap,cur,hv,hg,hh,r⟩
 . exact .inl h2
 . refine .inr ⟨g,cap,cur,hv,hg,?_,r⟩
   rw[hE.block g (Array.getElem?_eq_some_iff.1 hh).1];exact hh
variable{B:Nat}
theorem zqv(h:W.ownsRow base e size (.slice A n c) n xs)(hO:Only B W W')(hB:B<base):W'.ownsRow base e size (.slice A n c) n xs:=by
 refine h.kept hO ?_;rcases h.2 with⟨hv,_⟩|⟨g,cap,cur,hv,hg,_⟩
 . exact .inl (by rw[hv];rfl)
 . refine .inr fun e'=> ?_
   rw[hv]at e';have:g=B:=by simpa[Value.ownBlock] using e'
   omega
variable{o:Obj}
theorem zhT(h:W.ownsRow base e size (.slice A n c) n xs)(ho:W.heap[b]?=some o)(hc:o.isCells=false)(hO:Only b W W'):W'.ownsRow base e size (.slice A n c) n xs:=by
 refine h.kept hO ?_;rcases h.2 with⟨hv,_⟩|⟨g,cap,cur,hv,hg,hh,_⟩
 . exact .inl (by rw[hv];rfl)
 . refine .inr fun e'=> ?_
   rw[hv]at e';have:g=b:=by simpa[Value.ownBlock] using e'
   subst this;rw[ho]at hh;cases hh;cases hc
theorem zhU(h:W.ownsRow base e size (.slice A n c) n xs)(hb:(Value.slice A n c).ownBlock=some b):base<=b/\∃o,W.heap[b]?=some o/\o.isCells=true:=by
 rcases h.2 with⟨hv,_⟩|⟨g,cap,cur,hv,hg,hh,_⟩
 . rw[hv]at hb;cases hb
 . rw[hv]at hb
   have:g=b:=by simpa[Value.ownBlock] using hb
   subst this;exact⟨hg,_,hh,rfl⟩
variable{w2 w4:World}
theorem ziP(row:W.ownsRow base e size (.slice A n c) n xs)(E2:Ext W w2)(hbase:base<=W.heap.size)(hg:(w2.alloc o).grownBy w4 (Value.slice A n c).ownBlock)(hb:b<base):w4.heap[b]?=W.heap[b]?:=by
 have l2:=E2.size;refine(hg.block b (by simp;omega) (fun q=> ?_)).trans ((Below.heap_alloc _ _ _ (by omega)).trans (E2.block b (by omega)));have:=(zhU row q.symm).1;omega
theorem zkD(row:W.ownsRow base e size (.slice A n c) n xs)(E2:Ext W w2)(hbase:base<=W.heap.size)(hg:(w2.alloc o).grownBy w4 (Value.slice A n c).ownBlock)(hB:B<base)(v:Value):
 KeepsOthers W (w4.setCell ⟨B,0,none⟩ v)/\(∀b,b<base->b≠B->(w4.setCell ⟨B,0,none⟩ v).heap[b]?=W.heap[b]?)/\(∀w0,Ext w0 W->w0.heap.size<=B->Ext w0 (w4.setCell ⟨B,0,none⟩ v))/\W.heap.size<=(w4.setCell ⟨B,0,none⟩ v).heap.size:=by
 have hk:KeepsOthers W w2:=⟨E2.size,fun l o h _=>(E2.block l (Array.getElem?_eq_some_iff.1 h).1).trans h⟩
 have hk4:KeepsOthers W w4:=(hk.trans (KeepsOthers.alloc w2 o)).trans (KeepsOthers.of_grownBy hg fun j o' ej hj=>by
  obtain⟨_,o2,h2,hc⟩:=zhU row ej;have h3:=(Below.heap_alloc w2 o j (by have:=(Array.getElem?_eq_some_iff.1 h2).1;have:=E2.size;omega)).trans ((E2.block j (Array.getElem?_eq_some_iff.1 h2).1).trans h2);rw[h3]at hj;cases hj
  exact hc)
 refine⟨hk4.trans (KeepsOthers.setCell _ _ _),fun b hb hne=>(Below.heap_setCell w4 ⟨B,0,none⟩ v b hne).trans (ziP row E2 hbase hg hb),fun w0 h0 hw=> ?_,(hk4.trans (KeepsOthers.setCell _ _ _)).size⟩;refine Ext.setCell (p:=⟨B,0,none⟩) (Below.grown ((h0.trans E2).alloc o) hg (((h0.trans E2).alloc o).size) (fun k hk=> ?_)) hw v;have:=(zhU row hk).1;omega
def zaD(k:Int)(bs:List UInt8):List Nat×Nat:=(if codeV k bs=0 then(valsV k bs).map (fun v=>(readS k v.1).1)else[],codeV k bs)
end Go.Proofs.YtpicpebolghcfaaGreatDoor
namespace Go.Proofs.YtpicpebolghcfaaGreatDoor
open Go.RowKit Go.Shelf Tryz
attribute [local go_sem] Oper.semAt_some
end Go.Proofs.YtpicpebolghcfaaGreatDoor
namespace Go.Proofs.YtpicpebolghcfaaGreatDoor
open Go.RowKit Tryz
end Go.Proofs.YtpicpebolghcfaaGreatDoor
namespace Go.Proofs.YtpicpebolghcfaaGreatDoor
open Go.RowKit Go.Shelf Tryz
attribute [local go_sem] Oper.semAt_some
end Go.Proofs.YtpicpebolghcfaaGreatDoor
namespace Go.Proofs.YtpicpebolghcfaaGreatDoor
open Go.RowKit Go.Shelf Tryz
attribute [local go_sem] Oper.semAt_some
end Go.Proofs.YtpicpebolghcfaaGreatDoor
