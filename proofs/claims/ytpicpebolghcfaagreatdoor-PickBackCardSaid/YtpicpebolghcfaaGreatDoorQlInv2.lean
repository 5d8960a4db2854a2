/- Plain words for a stable sort in place: what swaps, shifts, rotations and merges make of a list. No program is named. -/
import Derived.Test.YtpicpebolghcfaaGreatDoorQlInv
import Derived.RegionTactic

set_option linter.unusedVariables false
namespace Go.Proofs.YtpicpebolghcfaaGreatDoor
def ltK(key:Nat->Int)(x y:Nat):Prop:=key x<key y\/(key x=key y/\x<y)
theorem zqR{key:Nat->Int}{x y:Nat}(h:ltK key x y):key x<=key y:=by unfold ltK at h;omega
section
variable {key:Nat->Int}
end
section
variable {key:Nat->Int}
def insK(key:Nat->Int)(x:Nat)(l:List Nat):List Nat:=l.takeWhile (fun y=>decide (key y<=key x))++x::l.dropWhile (fun y=>decide (key y<=key x))
def sortK(key:Nat->Int):Nat->List Nat
 |0=>[]
 |n+1=>insK key n (sortK key n)
theorem zjx(key:Nat->Int)(x:Nat)(l:List Nat):(insK key x l).Perm (x::l):=by
 unfold insK;refine List.perm_middle.trans ?_;rw[List.takeWhile_append_dropWhile]
theorem zfL(key:Nat->Int):∀n,(sortK key n).Perm (List.range n)
 |0=>List.Perm.refl _
 |n+1=>by
  rw[List.range_succ];refine(zjx key n (sortK key n)).trans ?_;refine((zfL key n).cons n).trans ?_;exact(List.perm_append_comm (l₁:=[n]) (l₂:=List.range n))
theorem zgl(key:Nat->Int)(n:Nat):(sortK key n).length=n:=by rw[(zfL key n).length_eq,List.length_range]
theorem zdw{n i:Nat}:i∈sortK key n<->i<n:=by rw[(zfL key n).mem_iff,List.mem_range]
theorem zjy{x:Nat}:∀{l:List Nat},l.Pairwise (ltK key)->(∀y∈l,y<x)->(insK key x l).Pairwise (ltK key)
 |[],_,_=>by simp[insK]
 |y::l,h,hx=>by
  rw[List.pairwise_cons]at h;by_cases c:key y<=key x
  . have e:insK key x (y::l)=y::insK key x l:=by simp[insK,c]
    rw[e,List.pairwise_cons];refine⟨fun z hz=> ?_,zjy h.2 (fun z hz=>hx z (List.mem_cons_of_mem _ hz))⟩;rw[(zjx key x l).mem_iff]at hz;rcases List.mem_cons.1 hz with rfl|hz
    . have:=hx y List.mem_cons_self
      unfold ltK;omega
    . exact h.1 z hz
  . have e:insK key x (y::l)=x::y::l:=by simp[insK,c]
    rw[e,List.pairwise_cons,List.pairwise_cons];refine⟨fun z hz=> ?_,h.1,h.2⟩;rcases List.mem_cons.1 hz with rfl|hz
    . left;omega
    . have:=zqR (h.1 z hz)
      left;omega
theorem zia(key:Nat->Int):∀n,(sortK key n).Pairwise (ltK key)
 |0=>List.Pairwise.nil
 |n+1=>zjy (zia key n) (fun y hy=>zdw.1 hy)
theorem zeL{α:Type}(p:α->Bool):∀(l:List α)(k:Nat),(∀j x,j<k->l[j]?=some x->p x=true)->(∀x,l[k]?=some x->p x=false)->k<=l.length->l.takeWhile p=l.take k/\l.dropWhile p=l.drop k
 |[],k,_,_,h=>by simp
 |y::l,0,_,h2,_=>by
  have:=h2 y rfl;simp[this]
 |y::l,k+1,h1,h2,h=>by
  have hy:=h1 0 y (by omega) rfl;have:=zeL p l k (fun j x hj hx=>h1 (j+1) x (by omega) (by simpa using hx)) (fun x hx=>h2 x (by simpa using hx)) (by simpa using h);simp[hy,this.1,this.2]
theorem zqS{key:Nat->Int}{x k:Nat}{l:List Nat}(h1:∀j y,j<k->l[j]?=some y->key y<=key x)(h2:∀y,l[k]?=some y->¬key y<=key x)(hk:k<=l.length):insK key x l=l.take k++x::l.drop k:=by
 obtain⟨e1,e2⟩:=zeL (fun y=>decide (key y<=key x)) l k (fun j y hj hy=>decide_eq_true (h1 j y hj hy)) (fun y hy=>decide_eq_false (h2 y hy)) hk;unfold insK;rw[e1,e2]
end
end Go.Proofs.YtpicpebolghcfaaGreatDoor
namespace Go.Proofs.YtpicpebolghcfaaGreatDoor
open Go.RowKit
def Moved(W:World)(A A':Option Addr):Prop:=(Value.slice A' 0 0).ownBlock=(Value.slice A 0 0).ownBlock\/(Value.slice A' 0 0).ownBlock=some W.heap.size
theorem zaV(A:Option Addr)(n c n' c':Nat):(Value.slice A n c).ownBlock=(Value.slice A n' c').ownBlock:=by
 rcases A with _|⟨b,o,s⟩
 . rfl
 . rfl
section
variable {w0 w w':World} {e:TypeId} {size:Nat} {A:Option Addr} {n c:Nat} {xs:List Value}
variable {P:Program} {t:TypeId} {bytes:Nat}
theorem zdU(T:Elem P t e size bytes)(ty:TypeId)(h:Own w0 w e size A n c xs){B:Option Addr}{m d:Nat}{ys:List Value}(hr:Reads w B m d size ys)(h1:∀u∈ys,u.oneCell'=true)(hb:(n+m)*bytes<=140737488355328)(h63:n+m<=maxLen):
 ∃A' c' w',(Builtin.append_ #[t,t] ty #[.slice A n c,.slice B m d]).run P w=.ok (.slice A' (n+m) c') w'/\Own w0 w' e size A' (n+m) c' (xs++ys)/\w.grownBy w' (Value.slice A n c).ownBlock/\Moved w A A':=by
 obtain⟨i,z,hi,hz,hsz,hby,hzs⟩:=T.info
 have shape:∀{v':Value}{w':World}{k:Nat}{zs:List Value},w'.ownsRow w0.heap.size e size v' k zs->∃A' c',v'=.slice A' k c':=by
  intro v' w' k zs hrow;rcases hrow.2 with⟨rfl,rfl⟩|⟨g,cap,cur,rfl,_⟩
  . exact⟨_,_,rfl⟩
  . exact⟨_,_,rfl⟩
 have go:∀(ad:Addr),B=some ad->(∀j u,ys[j]?=some u->w.cell? (ad.add j)=some u)->
  ∃A' c' w',(Builtin.append_ #[t,t] ty #[.slice A n c,.slice B m d]).run P w=.ok (.slice A' (n+m) c') w'/\Own w0 w' e size A' (n+m) c' (xs++ys)/\w.grownBy w' (Value.slice A n c).ownBlock/\Moved w A A':=by
  intro ad hB hcells;subst hB;obtain⟨v',w',hrun,h2,h3,_,h5⟩:=run_append_own_at (P:=P) w w0.heap.size t ty e i z size bytes T.under hi hz hsz hby hzs T.pos _ n xs h.row ad m d ys hr.len hcells h1 h63 hb h.ext.size;obtain⟨A',c',rfl⟩:=shape h2;refine⟨A',c',w',hrun,⟨h2,?_⟩,h3,?_⟩
  . exact Below.grown h.ext h3 h.ext.size (fun k hk=>(h.row.lt k hk).1)
  . rwa[zaV A' _ _ 0 0,zaV A _ _ 0 0]at h5
 by_cases hm:m=0
 . subst hm
   have hys:ys=[]:=List.eq_nil_of_length_eq_zero (by simpa using hr.len);subst hys;rcases B with _|ad
   . refine⟨A,c,w,?_,by simpa using h,World.grownBy.refl w _,.inl rfl⟩
     have:=h.reads.cap;rcases h.row.2 with⟨hv,rfl⟩|⟨g,cap,cur,hv,_,_,hnc,_⟩
     . cases hv
       simp[Builtin.append_,run_underlying T.under,sizeOf,typeInfo,hi,Builtin.lenOf,Builtin.firstCells]
     . cases hv
       simp[Builtin.append_,run_underlying T.under,sizeOf,typeInfo,hi,Builtin.lenOf,Builtin.firstCells,hnc,storeCells]
   . exact go ad rfl (by simp)
 . obtain⟨b,off,rfl,_,hc⟩:=hr.at_ (by omega)
   exact go _ rfl (fun j u hu=>by rw[zdM];exact hc j u hu)
theorem zaK{ops:Array Oper}{rest:List Oper}{o:Oper}{a:Act}{Q:Exit->Act->World->Prop}(T:Elem P t e size bytes)(hgd:Region.wanted o (yielded ops a.tmps)=true)(s x:Operand)(ho:o.op=.call {callee:=.builtin .append,args:=#[s,x],argTypes:=#[t,t]})(hs:a.eval s=.slice A n c)(h:Own w0 w e size A n c xs){B:Option Addr}{m d:Nat}{ys:List Value}(hx:a.eval x=.slice B m d)(hr:Reads w B m d size ys)(h1:∀u∈ys,u.oneCell'=true)(hb:(n+m)*bytes<=140737488355328)(h63:n+m<=maxLen)(k:∀A' c' w',Own w0 w' e size A' (n+m) c' (xs++ys)->w.grownBy w' (Value.slice A n c).ownBlock->Moved w A A'->wpList P ops Q rest (a.put o.dst (.slice A' (n+m) c')) w'):wpList P ops Q (o::rest) a w:=by
 obtain⟨A',c',w',hrun,h2,h3,h4⟩:=zdU T o.type h hr h1 hb h63;refine wpList_step fun _ hK=> ?_
 rw[if_pos hgd];unfold Oper.wp execOp;simp only[ho,resolve,invoke,builtin,Sem.run_bind,Sem.run_pure,Result.andThen_ok,List.map_toArray,List.map_cons,List.map_nil,hs,hx,hrun];exact hK _ _ (k A' c' w' h2 h3 h4)
theorem zes{ops:Array Oper}{o:Oper}{a:Act}{K:Act->World->Prop}{Q:Exit->Act->World->Prop}{E:Prop}(T:Elem P t e size bytes)(hgd:o.guard=none)(s x:Operand)(ho:o.op=.call {callee:=.builtin .append,args:=#[s,x],argTypes:=#[t,t]})(hs:a.eval s=.slice A n c)(h:Own w0 w e size A n c xs){B:Option Addr}{m d:Nat}{ys:List Value}(hx:a.eval x=.slice B m d)(hr:Reads w B m d size ys)(h1:∀u∈ys,u.oneCell'=true)(hb:(n+m)*bytes<=140737488355328)(h63:n+m<=maxLen)(k:∀A' c' w',Own w0 w' e size A' (n+m) c' (xs++ys)->w.grownBy w' (Value.slice A n c).ownBlock->Moved w A A'->K (a.put o.dst (.slice A' (n+m) c')) w'):
 if Region.wanted o (yielded ops a.tmps)=true then Oper.wp P o a w K Q else E:=by
 have hw:Region.wanted o (yielded ops a.tmps)=true:=by simp[Region.wanted,hgd]
 rw[if_pos hw];obtain⟨A',c',w',hrun,h2,h3,h4⟩:=zdU T o.type h hr h1 hb h63;unfold Oper.wp execOp;simp only[ho,resolve,invoke,builtin,Sem.run_bind,Sem.run_pure,Result.andThen_ok,List.map_toArray,List.map_cons,List.map_nil,hs,hx,hrun];exact k A' c' w' h2 h3 h4
end
structure ValG(τ σ:Type) where
 a:τ
 b:τ
 c:τ
 number:Int
 words:List Nat
 texts:List ByteArray
 subs:List σ
inductive MsgX(τ:Type) where
 |mk (a b:τ) (vals:List (ValG τ (MsgX τ))) (unk:List ByteArray)
namespace MsgX
variable {τ:Type}
def a:MsgX τ->τ
 |.mk a _ _ _=>a
def b:MsgX τ->τ
 |.mk _ b _ _=>b
def vals:MsgX τ->List (ValG τ (MsgX τ))
 |.mk _ _ v _=>v
def unk:MsgX τ->List ByteArray
 |.mk _ _ _ u=>u
theorem sub_lt{x:MsgX τ}{v:ValG τ (MsgX τ)}{y:MsgX τ}(hv:v∈x.vals)(hy:y∈v.subs):SizeOf.sizeOf y<SizeOf.sizeOf x:=by
 obtain⟨a,b,vs,u⟩:=x;have h1:=List.sizeOf_lt_of_mem (show v∈vs from hv);have h2:=List.sizeOf_lt_of_mem hy;obtain⟨va,vb,vc,n,ws,ts,ss⟩:=v;simp only[MsgX.mk.sizeOf_spec];simp only[ValG.mk.sizeOf_spec]at h1;simp only at h2;omega
theorem ind{P:MsgX τ->Prop}(h:∀x:MsgX τ,(∀v∈x.vals,∀y∈v.subs,P y)->P x)(x:MsgX τ):P x:=
 h x (fun v hv y hy=>ind h y)
termination_by SizeOf.sizeOf x
decreasing_by exact sub_lt hv hy
end MsgX
theorem zib{α β:Type}(l:List α)(g:α->β):l.attach.map (fun x=>g x.1)=l.map g:=by
 have h:l.attach.map (fun x=>g x.1)=(l.attach.map Subtype.val).map g:=by rw[List.map_map];rfl
 rw[h,List.attach_map_subtype_val]
abbrev MsgT:=MsgX Unit
abbrev ValT:=ValG Unit MsgT
def bare{τ:Type}(x:MsgX τ):MsgT:=
 .mk () () (x.vals.attach.map fun v=>⟨(),(),(),v.1.number,v.1.words,v.1.texts,v.1.subs.attach.map fun y=>bare y.1⟩) x.unk
termination_by SizeOf.sizeOf x
decreasing_by exact MsgX.sub_lt v.2 y.2
variable{τ:Type}
def bareV(v:ValG τ (MsgX τ)):ValT:=⟨(),(),(),v.number,v.words,v.texts,v.subs.map bare⟩
theorem zgO(x:MsgX τ):bare x=.mk () () (x.vals.map bareV) x.unk:=by
 rw[bare];congr 1;rw[zib x.vals (fun v=>(⟨(),(),(),v.number,v.words,v.texts,v.subs.attach.map fun y=>bare y.1⟩:ValT))];refine List.map_congr_left fun v _=> ?_
 unfold bareV;rw[zib v.subs bare]
abbrev Sl:=Option Addr×Nat
abbrev MsgR:=MsgX Sl
abbrev ValR:=ValG Sl MsgR
def strV(s:ByteArray):Value:=.string s
def tvalC(v:ValR):List Value:=[.int .i64 v.number,.slice v.a.1 v.words.length v.a.2,.slice v.b.1 v.texts.length v.b.2,.slice v.c.1 v.subs.length v.c.2]
def tvalV(v:ValR):Value:=.agg #[.int .i64 v.number,.slice v.a.1 v.words.length v.a.2,.slice v.b.1 v.texts.length v.b.2,.slice v.c.1 v.subs.length v.c.2]
def treeC(x:MsgR):List Value:=[.slice x.a.1 x.vals.length x.a.2,.slice x.b.1 x.unk.length x.b.2]
def treeV(x:MsgR):Value:=.agg #[.slice x.a.1 x.vals.length x.a.2,.slice x.b.1 x.unk.length x.b.2]
theorem znY(l:List ValR):∀u∈l.flatMap tvalC,u.oneCell'=true:=by
 intro u hu;obtain⟨f,_,hf⟩:=List.mem_flatMap.1 hu;simp only[tvalC,List.mem_cons,List.not_mem_nil,or_false]at hf;rcases hf with rfl|rfl|rfl|rfl<;>rfl
theorem zjz(l:List MsgR):∀u∈l.flatMap treeC,u.oneCell'=true:=by
 intro u hu;obtain⟨f,_,hf⟩:=List.mem_flatMap.1 hu;simp only[treeC,List.mem_cons,List.not_mem_nil,or_false]at hf;rcases hf with rfl|rfl<;>rfl
structure zcK(w:World)(A:Sl)(l:List ByteArray):Prop where
 at_:Reads w A.1 l.length A.2 1 (l.map strV)
 size:∀t∈l,t.size<=maxLen
structure ValL(w:World)(v:ValR):Prop where
 num: -9223372036854775808<=v.number/\v.number<9223372036854775808
 words:Reads w v.a.1 v.words.length v.a.2 1 (v.words.map uv)
 small:∀x∈v.words,x<18446744073709551616
 texts:zcK w v.b v.texts
 subs:Reads w v.c.1 v.subs.length v.c.2 2 (v.subs.flatMap treeC)
inductive zay(w:World):MsgR->Prop
 |mk (x:MsgR) (vals:Reads w x.a.1 x.vals.length x.a.2 4 (x.vals.flatMap tvalC)) (unk:zcK w x.b x.unk) (each:∀v∈x.vals,ValL w v) (sub:∀v∈x.vals,∀y∈v.subs,zay w y):zay w x
section
variable {w w':World} {x:MsgR} {v:ValR}
theorem zcK.up{A:Sl}{l:List ByteArray}(h:zcK w A l)(k:Ext w w'):zcK w' A l:=⟨h.at_.ext k,h.size⟩
theorem ValL.up(h:ValL w v)(k:Ext w w'):ValL w' v:=⟨h.num,h.words.ext k,h.small,h.texts.up k,h.subs.ext k⟩
theorem zay.up(h:zay w x)(k:Ext w w'):zay w' x:=by
 induction h with
 |mk x vals unk each sub ih=>exact .mk x (vals.ext k) (unk.up k) (fun v hv=>(each v hv).up k) (fun v hv y hy=>ih v hv y hy)
theorem zay.vals(h:zay w x):Reads w x.a.1 x.vals.length x.a.2 4 (x.vals.flatMap tvalC):=by cases h;assumption
theorem zay.unk(h:zay w x):zcK w x.b x.unk:=by cases h;assumption
theorem zay.each(h:zay w x):∀v∈x.vals,ValL w v:=by cases h;assumption
theorem zay.sub(h:zay w x):∀v∈x.vals,∀y∈v.subs,zay w y:=by cases h;assumption
structure ValAt(w:World)(v:ValR):Prop where
 own:ValL w v
 sub:∀y∈v.subs,zay w y
theorem ValAt.up(h:ValAt w v)(k:Ext w w'):ValAt w' v:=⟨h.own.up k,fun y hy=>(h.sub y hy).up k⟩
theorem zay.val(h:zay w x)(hv:v∈x.vals):ValAt w v:=⟨h.each v hv,h.sub v hv⟩
theorem zay.of(vals:Reads w x.a.1 x.vals.length x.a.2 4 (x.vals.flatMap tvalC))(unk:zcK w x.b x.unk)(each:∀v∈x.vals,ValAt w v):zay w x:=
 .mk x vals unk (fun v hv=>(each v hv).own) (fun v hv=>(each v hv).sub)
theorem zgE{A:Option Addr}{n c k:Nat}{l:List ValR}(h:Reads w A n c 4 (l.flatMap tvalC))(hk:k<n):
 ∃b off v,A=some ⟨b,off,none⟩/\l[k]?=some v/\b<w.heap.size/\w.cell? ⟨b,off+k*4,none⟩=some (.int .i64 v.number)/\w.cell? ⟨b,off+k*4+1,none⟩=some (.slice v.a.1 v.words.length v.a.2)/\
  w.cell? ⟨b,off+k*4+2,none⟩=some (.slice v.b.1 v.texts.length v.b.2)/\w.cell? ⟨b,off+k*4+3,none⟩=some (.slice v.c.1 v.subs.length v.c.2):=by
 obtain⟨b,off,v,e,hx,hb,hj⟩:=h.elem (size:=4) (fun _=>rfl) (by omega) hk;exact⟨b,off,v,e,hx,hb,hj 0 _ rfl,hj 1 _ rfl,hj 2 _ rfl,hj 3 _ rfl⟩
theorem zgP{A:Option Addr}{n c k:Nat}{l:List MsgR}(h:Reads w A n c 2 (l.flatMap treeC))(hk:k<n):
 ∃b off x,A=some ⟨b,off,none⟩/\l[k]?=some x/\b<w.heap.size/\w.cell? ⟨b,off+k*2,none⟩=some (.slice x.a.1 x.vals.length x.a.2)/\w.cell? ⟨b,off+k*2+1,none⟩=some (.slice x.b.1 x.unk.length x.b.2):=by
 obtain⟨b,off,v,e,hx,hb,hj⟩:=h.elem (size:=2) (fun _=>rfl) (by omega) hk;exact⟨b,off,v,e,hx,hb,hj 0 _ rfl,hj 1 _ rfl⟩
theorem zcK.text{A:Sl}{l:List ByteArray}{k:Nat}(h:zcK w A l)(hk:k<l.length):
 ∃b off t,A.1=some ⟨b,off,none⟩/\l[k]?=some t/\b<w.heap.size/\t.size<=maxLen/\w.cell? ⟨b,off+k,none⟩=some (.string t):=by
 obtain⟨b,off,e,hb,hc⟩:=h.at_.at_ (by omega);have hx:l[k]?=some (l[k]'hk):=List.getElem?_eq_getElem hk;exact⟨b,off,_,e,hx,hb,h.size _ (List.mem_of_getElem? hx),hc k _ (by rw[List.getElem?_map,hx];rfl)⟩
end
def UsesA(A:Option Addr)(n b:Nat):Prop:=0<n/\∃p,A=some p/\p.block=b
def UsesL(v:ValR)(b:Nat):Prop:=UsesA v.a.1 v.words.length b\/UsesA v.b.1 v.texts.length b\/UsesA v.c.1 v.subs.length b
inductive UsesT:MsgR->Nat->Prop
 |vals {x:MsgR} {b:Nat} (h:UsesA x.a.1 x.vals.length b):UsesT x b
 |unk {x:MsgR} {b:Nat} (h:UsesA x.b.1 x.unk.length b):UsesT x b
 |val {x:MsgR} {b:Nat} {v:ValR} (hv:v∈x.vals) (h:UsesL v b):UsesT x b
 |sub {x:MsgR} {b:Nat} {v:ValR} {y:MsgR} (hv:v∈x.vals) (hy:y∈v.subs) (h:UsesT y b):UsesT x b
def UsesV(v:ValR)(b:Nat):Prop:=UsesL v b\/∃y∈v.subs,UsesT y b
theorem UsesT.cases'{x:MsgR}{b:Nat}(h:UsesT x b):UsesA x.a.1 x.vals.length b\/UsesA x.b.1 x.unk.length b\/∃v∈x.vals,UsesV v b:=by
 cases h with
 |vals h=>exact .inl h
 |unk h=>exact .inr (.inl h)
 |val hv h=>exact .inr (.inr ⟨_,hv,.inl h⟩)
 |sub hv hy h=>exact .inr (.inr ⟨_,hv,.inr ⟨_,hy,h⟩⟩)
structure Stays(s:Nat->Prop)(w w':World):Prop where
 size:w.heap.size<=w'.heap.size
 block:∀b,s b->b<w.heap.size->w'.heap[b]?=w.heap[b]?
section
variable {w w' w'':World} {s:Nat->Prop}
theorem Stays.refl(s:Nat->Prop)(w:World):Stays s w w:=⟨Nat.le_refl _,fun _ _ _=>rfl⟩
theorem Stays.trans(h:Stays s w w')(k:Stays s w' w''):Stays s w w'':=⟨Nat.le_trans h.size k.size,fun b hs hb=>(k.block b hs (Nat.lt_of_lt_of_le hb h.size)).trans (h.block b hs hb)⟩
theorem Stays.of_ext(h:Ext w w'):Stays s w w':=⟨h.size,fun b _ hb=>h.block b hb⟩
theorem Stays.less{t:Nat->Prop}(h:Stays s w w')(ht:∀b,t b->s b):Stays t w w':=⟨h.size,fun b hb=>h.block b (ht b hb)⟩
theorem Stays.set(h:Stays s w w'){p:Addr}(hp:¬s p.block)(u:Value):Stays s w (w'.setCell p u):=
 ⟨by simpa[World.setCell] using h.size,fun b hs hb=>(Below.heap_setCell w' p u b (fun e=>hp (by rw[<-e];exact hs))).trans (h.block b hs hb)⟩
theorem Stays.grown{g:Option Nat}(h:w.grownBy w' g)(hg:∀k,g=some k->¬s k):Stays s w w':=
 ⟨h.size,fun b hs hb=>h.block b hb (fun e=>hg b e.symm hs)⟩
theorem Stays.cell(h:Stays s w w'){p:Addr}(hs:s p.block){v:Value}(hc:w.cell? p=some v):w'.cell? p=some v:=by
 rw[<-hc];exact World.cell?_of_block (h.block p.block hs (World.block_lt_of_cell? w p hc))
theorem Reads.stays{A:Option Addr}{n c size:Nat}{xs:List Value}(h:Reads w A n c size xs)(k:Stays s w w')(hu:∀b,UsesA A n b->s b):Reads w' A n c size xs:=
 ⟨h.len,h.cap,h.max,fun hn=>by
  obtain⟨b,off,e,hb,hc⟩:=h.at_ hn
  exact⟨b,off,e,Nat.lt_of_lt_of_le hb k.size,fun j u hj=>k.cell (hu b ⟨hn,_,e,rfl⟩) (hc j u hj)⟩⟩
theorem Reads.uses_lt{A:Option Addr}{n c size b:Nat}{xs:List Value}(h:Reads w A n c size xs)(hu:UsesA A n b):b<w.heap.size:=by
 obtain⟨hn,p,e,rfl⟩:=hu;obtain⟨b',off,e',hb,_⟩:=h.at_ hn;rw[e]at e';cases e';exact hb
theorem zcK.stays{A:Sl}{l:List ByteArray}(h:zcK w A l)(k:Stays s w w')(hu:∀b,UsesA A.1 l.length b->s b):zcK w' A l:=⟨h.at_.stays k hu,h.size⟩
theorem ValL.stays{v:ValR}(h:ValL w v)(k:Stays s w w')(hu:∀b,UsesL v b->s b):ValL w' v:=
 ⟨h.num,h.words.stays k (fun b hb=>hu b (.inl hb)),h.small,h.texts.stays k (fun b hb=>hu b (.inr (.inl hb))),h.subs.stays k (fun b hb=>hu b (.inr (.inr hb)))⟩
theorem zay.stays{x:MsgR}(h:zay w x)(k:Stays s w w')(hu:∀b,UsesT x b->s b):zay w' x:=by
 induction h with
 |mk x vals unk each sub ih=>
  exact .mk x (vals.stays k (fun b hb=>hu b (.vals hb))) (unk.stays k (fun b hb=>hu b (.unk hb))) (fun v hv=>(each v hv).stays k (fun b hb=>hu b (.val hv hb))) (fun v hv y hy=>ih v hv y hy (fun b hb=>hu b (.sub hv hy hb)))
theorem ValAt.stays{v:ValR}(h:ValAt w v)(k:Stays s w w')(hu:∀b,UsesV v b->s b):ValAt w' v:=
 ⟨h.own.stays k (fun b hb=>hu b (.inl hb)),fun y hy=>(h.sub y hy).stays k (fun b hb=>hu b (.inr ⟨y,hy,hb⟩))⟩
theorem ValL.lt{v:ValR}{b:Nat}(h:ValL w v)(hu:UsesL v b):b<w.heap.size:=by
 rcases hu with hu|hu|hu
 . exact h.words.uses_lt hu
 . exact h.texts.at_.uses_lt hu
 . exact h.subs.uses_lt hu
theorem zay.lt{x:MsgR}{b:Nat}(h:zay w x)(hu:UsesT x b):b<w.heap.size:=by
 induction hu with
 |vals hu=>exact h.vals.uses_lt hu
 |unk hu=>exact h.unk.at_.uses_lt hu
 |val hv hu=>exact(h.each _ hv).lt hu
 |sub hv hy _ ih=>exact ih (h.sub _ hv _ hy)
theorem ValAt.lt{v:ValR}{b:Nat}(h:ValAt w v)(hu:UsesV v b):b<w.heap.size:=by
 rcases hu with hu|⟨y,hy,hu⟩
 . exact h.own.lt hu
 . exact(h.sub y hy).lt hu
theorem Own.uses_new{w0 w:World}{e:TypeId}{size n c b:Nat}{A:Option Addr}{xs:List Value}(h:Own w0 w e size A n c xs)(hu:UsesA A n b):w0.heap.size<=b:=by
 obtain⟨hn,p,rfl,rfl⟩:=hu;rcases h.row.2 with⟨hv,_⟩|⟨g,cap,cur,hv,hg,_⟩
 . cases hv
 . cases hv
   exact hg
theorem Own.block_new{w0 w:World}{e:TypeId}{size n c g:Nat}{A:Option Addr}{xs:List Value}(h:Own w0 w e size A n c xs)(hg:(Value.slice A n c).ownBlock=some g):w0.heap.size<=g/\g<w.heap.size:=h.row.lt g hg
end
section
variable {τ:Type} {B:Nat} {x:MsgX τ}
end
section
variable {P:Program} {ops:Array Oper} {Q:Exit->Act->World->Prop} {i:Nat} {o:Oper} {K2:Act->World->Prop} {a:Act} {w:World}
theorem zad(ho:ops[i]?=some o)(hw:Region.wanted o (yielded ops a.tmps)=true)(h:∀K:Act->World->Prop,Hid (∀a w,K2 a w->K a w)->o.wp P a w K Q):wpOp P ops Q i K2 a w:=
 zcy ho hw fun K hK=>h K (zsz hK)
theorem zmR(ho:ops[i]?=some o)(h:∀K':Act->World->Prop,Hid (∀a w,K2 a w->K' a w)->if Region.wanted o (yielded ops a.tmps)=true then Oper.wp P o a w K' Q else K' (a.put o.dst undef) w):wpOp P ops Q i K2 a w:=
 wpOp_step ho fun K hK=>h K (zsz hK)
end
end Go.Proofs.YtpicpebolghcfaaGreatDoor
