/- What a law is handed: fields and messages, in my own words for memory. No program is named. -/
import Derived.Deep.Slices
import Derived.Deep.Fields
import Derived.ChangeSame
import Derived.ChangeArms
import Derived.Lib.SmallJoins
import Derived.Test.YtpicpebolghcfaaGreatDoorRows
import Derived.SliceStrings
import Derived.Test.YtpicpebolghcfaaGreatDoorQlS18b
import Derived.Test.YtpicpebolghcfaaGreatDoorQlW38

set_option linter.unusedVariables false
namespace Go.Proofs.YtpicpebolghcfaaGreatDoor
open Go.ChangeShapes Go.WideShapes Go.ChangeAt Go.RowKit Go.Deep Go.Joins
theorem zeb{α:Type}{Q:Nat->α->Prop}:∀(n:Nat),(∀i,i<n->∃x,Q i x)->∃l:List α,l.length=n/\∀(i:Nat) x,l[i]?=some x->Q i x
 |0,_=>⟨[],rfl,fun i x h=>by simp at h⟩
 |n+1,h=>by
  obtain⟨l,hl,hq⟩:=zeb n (fun i hi=>h i (by omega));obtain⟨x,hx⟩:=h n (by omega);refine⟨l++[x],by simp[hl],fun i y hy=> ?_⟩;by_cases hi:i<l.length
  . rw[List.getElem?_append_left hi]at hy
    exact hq i y hy
  . rw[List.getElem?_append_right (by omega)]at hy
    have h0:i - l.length=0:=by
     rcases Nat.eq_zero_or_pos (i - l.length)with h|h
     . exact h
     . rw[List.getElem?_eq_none (by simp;omega)]at hy;cases hy
    rw[h0]at hy;simp at hy;subst hy;rw[show i=n by omega];exact hx
theorem zlX{α:Type}{f:α->List Value}{size:Nat}(hf:∀x,(f x).length=size):∀(l:List α)(q:Nat)(u:Value),(l.flatMap f)[q]?=some u->∃i x j,q=i*size+j/\l[i]?=some x/\(f x)[j]?=some u
 |[],q,u,h=>by simp at h
 |x::l,q,u,h=>by
  rw[List.flatMap_cons]at h;by_cases hq:q<size
  . rw[List.getElem?_append_left (by rw[hf];exact hq)]at h
    exact⟨0,x,q,by omega,rfl,h⟩
  . rw[List.getElem?_append_right (by rw[hf];omega),hf]at h
    obtain⟨i,y,j,e,h1,h2⟩:=zlX hf l (q - size) u h;exact⟨i+1,y,j,by rw[Nat.succ_mul];omega,h1,h2⟩
theorem zfp{α:Type}{f:α->List Value}{size:Nat}(hf:∀x,(f x).length=size)(hs:0<size){w:World}{a:Addr}{n c:Nat}{l:List α}(hl:l.length=n)(hnc:n<=c)(hc:c<=maxLen)(hcell:∀(i:Nat) x,l[i]?=some x->∀(j:Nat) u,(f x)[j]?=some u->w.cell? (a.add (i*size+j))=some u):Reads w (some a) n c size (l.flatMap f):=by
 refine⟨by rw[zby hf,hl],hnc,hc,fun hn=> ?_⟩;obtain⟨b,off,spot⟩:=a;have h0:l[0]?=some (l[0]'(by omega)):=List.getElem?_eq_getElem (by omega);have hu:(f (l[0]'(by omega)))[0]?=some ((f (l[0]'(by omega)))[0]'(by rw[hf];exact hs)):=List.getElem?_eq_getElem _;have hc0:=hcell 0 _ h0 0 _ hu;simp only[Nat.zero_mul,Nat.zero_add]at hc0;have hspot:spot=none:=by simpa[Addr.add] using World.cell?_spot hc0
 subst hspot;have hb:=World.block_lt_of_cell? w _ hc0;refine⟨b,off,rfl,by simpa[Addr.add] using hb,fun q u hq=> ?_⟩;obtain⟨i,x,j,e,h1,h2⟩:=zlX hf l q u hq;have:=hcell i x h1 j u h2;rw[zdM,<-e]at this;exact this
section
variable {H:Type} {enc:TypeId×Value->H} {P:Program} {w:World} {base:Nat} {spare:Nat->Bool} {held:Bool}
theorem zgq{t e:TypeId}{fs:Array Field}{fuel:Nat}{cs:List Value}{x:DataW H×List MemPlace}(ht:P.underlying t=some (.slice e))(he:P.underlying e=some (.struct fs))(hone:oneCellFields P fs=true)(hC:P.cellsOf e=fs.size)(h:DataW.trod enc P w base spare held fuel t cs=some x):
 cs=[.slice none 0 0]\/∃(a:Addr)(len cap:Nat),cs=[.slice (some a) len cap]/\len<=cap/\cap<=maxLen/\
  ∀i,i<len->∃n:Nat,∀(j:Nat)(f:Field),fs[j]?=some f->∃(v:Value)(y:DataW H×List MemPlace),w.cell? (a.add (i*fs.size+j))=some v/\DataW.trod enc P w base spare held n f.type [v]=some y:=by
 rcases open_slice ht h with h0|⟨a,len,cap,m,n,D,Pl,hcs,hb,hl,hm,hmm,hx,hi⟩
 . exact .inl h0.1
 . refine .inr ⟨a,len,cap,hcs,hl,hm,fun i hil=> ?_⟩
   have him:i<m:=by rw[hmm];split<;>omega
   obtain⟨cs',hc,ht'⟩:=hi i him;rw[hC]at hc;obtain⟨ys,n',_,_,_,hyl,hf⟩:=DataW.trod_struct he ht';obtain⟨_,hcl,hat⟩:=World.cells?_some hc;refine⟨n',fun j f hj=> ?_⟩;obtain⟨ho,hk⟩:=hone_of hone j f hj;have hjl:j<fs.size:=(Array.getElem?_eq_some_iff.1 hj).1;have hcell:=hat j hjl;have hv:cs'[j]?=some (cs'[j]'(by omega)):=List.getElem?_eq_getElem (by omega);have h1:=hf j f hj;rw[ho,hk]at h1
   have h1c:(cs'.drop j).take 1=[cs'[j]'(by omega)]:=by
    rw[List.drop_eq_getElem_cons (by omega)];rfl
   rw[h1c]at h1;have hys:ys[j]?=some (ys[j]'(by omega)):=List.getElem?_eq_getElem (by omega);refine⟨_,_,?_,h1.trans hys⟩;rw[<-Go.Deep.add_add,hcell,hv]
theorem zkR{t e:TypeId}{f0 f1 f2 f3 f4 f5:Field}{fuel:Nat}{v:Value}{x:DataW H×List MemPlace}(ht:P.underlying t=some (.slice e))(he:P.underlying e=some (.struct #[f0,f1,f2,f3,f4,f5]))(hone:oneCellFields P #[f0,f1,f2,f3,f4,f5]=true)(hC:P.cellsOf e=6)(u0:P.underlying f0.type=some .string)(u1:P.underlying f1.type=some (.int .i64))(u2:P.underlying f2.type=some (.int .i64))(u3:P.underlying f3.type=some .bool)(u4:P.underlying f4.type=some .bool)(u5:P.underlying f5.type=some (.int .i64))(h:DataW.trod enc P w base spare held fuel t [v]=some x):
 ∃A n c l,v=.slice A n c/\zav w A n c l:=by
 rcases zgq ht he hone hC h with h0|⟨a,len,cap,hcs,hl,hm,hi⟩
 . cases h0
   exact⟨none,0,0,[],rfl,Reads.nil w 6,fun f hf=>by cases hf⟩
 . cases hcs
   have each:∀i,i<len->∃f:zab,f.Ok/\∀(j:Nat) u,(zed f)[j]?=some u->w.cell? (a.add (i*6+j))=some u:=by
    intro i hil;obtain⟨n,hf⟩:=hi i hil;obtain⟨v0,y0,c0,t0⟩:=hf 0 f0 rfl;obtain⟨v1,y1,c1,t1⟩:=hf 1 f1 rfl;obtain⟨v2,y2,c2,t2⟩:=hf 2 f2 rfl;obtain⟨v3,y3,c3,t3⟩:=hf 3 f3 rfl;obtain⟨v4,y4,c4,t4⟩:=hf 4 f4 rfl;obtain⟨v5,y5,c5,t5⟩:=hf 5 f5 rfl;obtain⟨s,e0,_,w0⟩:=DataW.trod_string u0 t0;obtain⟨x1,e1,_,w1⟩:=DataW.trod_int u1 t1;obtain⟨x2,e2,_,w2⟩:=DataW.trod_int u2 t2;obtain⟨x3,e3,_⟩:=DataW.trod_bool u3 t3;obtain⟨x4,e4,_⟩:=DataW.trod_bool u4 t4;obtain⟨x5,e5,_,w5⟩:=DataW.trod_int u5 t5;simp only[List.cons.injEq,and_true]at e0 e1 e2 e3 e4 e5;subst e0 e1 e2 e3 e4 e5;simp[Lit.wf,IntKind.min,IntKind.max,IntKind.signed,IntKind.bits]at w1 w2 w5;unfold maxLen at w0;refine⟨⟨s,x1,x2,x3,x4,x5⟩,⟨⟨by simp only;omega,by simp only;omega⟩,⟨by simp only;omega,by simp only;omega⟩,⟨by simp only;omega,by simp only;omega⟩,by show s.size<=_;omega⟩,fun j u hu=> ?_⟩
    match j,hu with
    |0,hu=>simp[zed]at hu;subst hu;exact c0
    |1,hu=>simp[zed]at hu;subst hu;exact c1
    |2,hu=>simp[zed]at hu;subst hu;exact c2
    |3,hu=>simp[zed]at hu;subst hu;exact c3
    |4,hu=>simp[zed]at hu;subst hu;exact c4
    |5,hu=>simp[zed]at hu;subst hu;exact c5
    |j+6,hu=>simp[zed]at hu
   obtain⟨l,hll,hq⟩:=zeb len each;refine⟨some a,len,cap,l,rfl,zfp (size:=6) (fun _=>rfl) (by omega) hll hl hm (fun i f hf=>(hq i f hf).2),fun f hf=> ?_⟩;obtain⟨i,hi',rfl⟩:=List.getElem_of_mem hf;exact(hq i _ (List.getElem?_eq_getElem hi')).1
end
section
variable {H:Type} {enc:TypeId×Value->H} {P:Program} {w:World} {base:Nat} {spare:Nat->Bool} {held:Bool}
theorem zkS{t em tf e:TypeId}{g0 g1 f0 f1 f2 f3 f4 f5:Field}{fuel:Nat}{v:Value}{x:DataW H×List MemPlace}(hts:P.underlying t=some (.slice em))(hs:P.underlying em=some (.struct #[g0,g1]))(hone2:oneCellFields P #[g0,g1]=true)(hC2:P.cellsOf em=2)(v0:P.underlying g0.type=some .string)(v1:g1.type=tf)(ht:P.underlying tf=some (.slice e))(he:P.underlying e=some (.struct #[f0,f1,f2,f3,f4,f5]))(hone:oneCellFields P #[f0,f1,f2,f3,f4,f5]=true)(hC:P.cellsOf e=6)(u0:P.underlying f0.type=some .string)(u1:P.underlying f1.type=some (.int .i64))(u2:P.underlying f2.type=some (.int .i64))(u3:P.underlying f3.type=some .bool)(u4:P.underlying f4.type=some .bool)(u5:P.underlying f5.type=some (.int .i64))(h:DataW.trod enc P w base spare held fuel t [v]=some x):
 ∃A n c l,v=.slice A n c/\zag w A n c l:=by
 rcases zgq hts hs hone2 hC2 h with h0|⟨a,len,cap,hcs,hl,hm,hi⟩
 . cases h0
   exact⟨none,0,0,[],rfl,Reads.nil w 2,fun f hf=>by cases hf⟩
 . cases hcs
   have each:∀i,i<len->∃m:MsgV,(zav w m.A m.n m.c m.d.fields/\m.d.name.size<=9223372036854775807)/\∀(j:Nat) u,(msgC m)[j]?=some u->w.cell? (a.add (i*2+j))=some u:=by
    intro i hil;obtain⟨n,hf⟩:=hi i hil;obtain⟨z0,y0,c0,t0⟩:=hf 0 g0 rfl;obtain⟨z1,y1,c1,t1⟩:=hf 1 g1 rfl;obtain⟨s,e0,_,w0⟩:=DataW.trod_string v0 t0;rw[v1]at t1;obtain⟨A,nn,c,l,e1,hfa⟩:=zkR ht he hone hC u0 u1 u2 u3 u4 u5 t1;simp only[List.cons.injEq,and_true]at e0;subst e0 e1;unfold maxLen at w0;refine⟨⟨⟨s,l⟩,A,nn,c⟩,⟨hfa,by simp only;omega⟩,fun j u hu=> ?_⟩
    match j,hu with
    |0,hu=>simp[msgC]at hu;subst hu;exact c0
    |1,hu=>simp[msgC]at hu;subst hu;exact c1
    |j+2,hu=>simp[msgC]at hu
   obtain⟨l,hll,hq⟩:=zeb len each;refine⟨some a,len,cap,l,rfl,zfp (size:=2) (fun _=>rfl) (by omega) hll hl hm (fun i f hf=>(hq i f hf).2),fun f hf=> ?_⟩;obtain⟨i,hi',rfl⟩:=List.getElem_of_mem hf;exact(hq i _ (List.getElem?_eq_getElem hi')).1
end
section
variable {τ:Type} {B C:Nat} {x:MsgX τ}
end
section
variable {H:Type} {enc:TypeId×Value->H} {P:Program} {w:World} {base:Nat} {held:Bool}
end
section
variable {H:Type} {enc:TypeId×Value->H} {P:Program} {w:World} {base:Nat} {spare:Nat->Bool} {held:Bool}
end
end Go.Proofs.YtpicpebolghcfaaGreatDoor
namespace Go.Proofs.YtpicpebolghcfaaGreatDoor
open Go.RowKit
section
variable {S:List MsgD}
end
end Go.Proofs.YtpicpebolghcfaaGreatDoor
namespace Go.Proofs.YtpicpebolghcfaaGreatDoor
open Go.RowKit
open Go.Lib (uvarint)
def partL(rep:Bool)(b:List UInt8):List UInt8:=(if rep=true then uvarint b.length else[])++b
theorem zjJ(b:List UInt8):partL true b=uvarint b.length++b:=rfl
theorem zqT{α:Type}{l:List α}{g:α->List UInt8}{B:Nat}(h:∀x∈l,(g x).length<=B):((l.map g).flatten).length<=l.length*B:=by
 induction l with
 |nil=>simp
 |cons x l ih=>
  rw[List.map_cons,List.flatten_cons,List.length_append,List.length_cons,Nat.add_mul,Nat.one_mul];have h1:=h x List.mem_cons_self;have h2:=ih (fun y hy=>h y (List.mem_cons_of_mem _ hy));omega
end Go.Proofs.YtpicpebolghcfaaGreatDoor
namespace Go.Proofs.YtpicpebolghcfaaGreatDoor
open Go.RowKit
open Go.Lib (uvarint uvarint_small uvarint_big uvarint_pos)
section
variable {se:Nat->MsgT->List UInt8} {sub:Nat->List UInt8->MsgT} {f:zab} {bs:List UInt8} {fs:List zab} {S:List MsgD} {m:Nat} {M:MsgD}
end
end Go.Proofs.YtpicpebolghcfaaGreatDoor
namespace Go.Proofs.YtpicpebolghcfaaGreatDoor
open Go.RowKit
open Go.Lib (uvarint)
def zaW(f:zab)(bs:List UInt8):List (List UInt8):=
 if runL f=true then(if bs=[]then[]else[putB f.number 2 bs])else(zaI f.rep bs).map fun x=>putB f.number (wireI f.kind) x.1
def wordsL(f:zab)(bs:List UInt8):List Nat:=
 if runL f=true then(zaD f.kind bs).1 else if zaf f.kind=true then(zaI f.rep bs).map fun x=>(readS f.kind x.1).1 else[]
def zaT(f:zab)(bs:List UInt8):List (List UInt8):=if zaf f.kind=true then[]else(zaI f.rep bs).map fun x=>x.1
theorem zgr:∀(f:Nat)(bs:List UInt8),∀x∈zaY f bs,x.1.length<=bs.length
 |0,bs,x,h=>by simp[zaY]at h
 |f+1,bs,x,h=>by
  unfold zaY at h;split at h
  . cases h
  . split at h
    . rcases List.mem_cons.1 h with rfl|h
      . simp only[List.length_take,List.length_drop]
        omega
      . have:=zgr f _ x h
        rw[List.length_drop]at this;omega
    . simp only[List.mem_singleton]at h
      subst h;exact Nat.zero_le _
theorem zfq{rep:Bool}{bs:List UInt8}{x:List UInt8×Nat}(h:x∈zaI rep bs):x.1.length<=bs.length:=by
 unfold zaI at h;split at h
 . exact zgr _ _ x h
 . simp only[List.mem_singleton]at h
   subst h;exact Nat.le_refl _
section
variable {S:List MsgD} {m i:Nat} {M:MsgD} {f:zab}
theorem zfQ(hkb:kindB f.kind=true)(hn:zaf f.kind=false):wireI f.kind=2:=by
 unfold kindB at hkb;have hk':=of_decide_eq_true hkb;unfold zaf at hn;have hn':=of_decide_eq_false hn;unfold wireI;rw[if_neg (by omega),if_neg (by omega),if_neg (by omega)]
theorem zna(hR:zan S=true)(hM:S[m]?=some M)(hf:M.fields[i]?=some f)(hr:runL f=true){val:List UInt8}(hc:codeV f.kind val=0)(hl:val.length<18446744073709551616)(d:Nat):
 Chunk M.fields i f (putB f.number 2 val) (zaD f.kind val).1 []/\(zai S d m (putB f.number 2 val)).2=0:=by
 obtain⟨⟨T,hT⟩,n1,n2,_⟩:=zbl hR hM hf
 have hrr:f.rep=true/\zaf f.kind=true:=by
  unfold runL at hr;simpa using hr
 have hr2:zaw (T:Int) ((2:Nat):Int)=true:=zcC (by omega) (by omega) (by decide)
 have hs:∀r:Rec,r.n=T->r.w=2->seenV M.fields r=(⟨r,(i:Int),true⟩,0):=fun r h1 h2=>by
  rw[zgF hR hM hf (by rw[h1,hT]),hrr.1,hrr.2,h2];rfl
 have h:=zjb (i:=i) (f:=f) (fs:=M.fields) (T:=T) (V:=2) (val:=val) (run:=true) hr2 (ziM _) hl hs;rw[hT];refine⟨h,zfO hM hr2 (ziM _) hl hs (fun c u h1 h2 h3=> ?_)⟩;rw[(zdB (subC S d) none h1 hf h2).1];show codeV f.kind (zak c u)=0;rw[h3];exact hc
theorem zkT(hR:zan S=true)(hM:S[m]?=some M)(hf:M.fields[i]?=some f)(hn:zaf f.kind=true)(hr:f.rep=false){val:List UInt8}(hc:(readS f.kind val).2=0)(hl:val.length<18446744073709551616)(d:Nat):
 Chunk M.fields i f (putB f.number (wireI f.kind) val) [(readS f.kind val).1] []/\(zai S d m (putB f.number (wireI f.kind) val)).2=0:=by
 obtain⟨⟨T,hT⟩,n1,n2,hkb⟩:=zbl hR hM hf
 have hfit:fitsV (wireI f.kind) val=true:=by
  rw[zhV hn val]at hc;by_cases h:fitsV (wireI f.kind) val=true
  . exact h
  . rw[if_neg h]at hc
    cases hc
 obtain⟨V,hV,hV2,_⟩:=zgX hn (w:=0) (by decide);have hr2:zaw (T:Int) (V:Int)=true:=zcC (by omega) (by omega) hV2
 have hs:∀r:Rec,r.n=T->r.w=V->seenV M.fields r=(⟨r,(i:Int),false⟩,0):=fun r h1 h2=>by
  rw[zgF hR hM hf (by rw[h1,hT]),hr];simp[hkb,hV,h2]
 rw[hV]at hfit;have h:=zjb (i:=i) (f:=f) (fs:=M.fields) (T:=T) (V:=V) (val:=val) (run:=false) hr2 hfit hl hs
 have e1:ziG f false val=[(readS f.kind val).1]:=by
  unfold ziG;rw[hn];rfl
 have e2:zgg f false val=[]:=by
  unfold zgg;rw[hn];rfl
 rw[e1,e2]at h;rw[hT,hV]
 have h15:¬f.kind=15:=by
  intro q;rw[q]at hn;cases hn
 refine⟨h,zfO hM hr2 hfit hl hs (fun c u h1 h2 h3=> ?_)⟩;rw[(zcE (subC S d) none h1 hf h2 h15 (zbC hn)).1]
theorem zgs(hR:zan S=true)(hM:S[m]?=some M)(hf:M.fields[i]?=some f)(hn:zaf f.kind=false){val:List UInt8}{d:Nat}(h15:f.kind=15->zca val=true)(h17:f.kind=17->(zai S d f.of_.toNat val).2=0)(hl:val.length<18446744073709551616):
 Chunk M.fields i f (putB f.number (wireI f.kind) val) [] [val]/\(zai S (d+1) m (putB f.number (wireI f.kind) val)).2=0:=by
 obtain⟨⟨T,hT⟩,n1,n2,hkb⟩:=zbl hR hM hf;have hw2:=zfQ hkb hn;have hc:=zkO hR hM hf hn hl;rw[hw2];have hr2:zaw (T:Int) ((2:Nat):Int)=true:=zcC (by omega) (by omega) (by decide)
 have hs:∀r:Rec,r.n=T->r.w=2->seenV M.fields r=(⟨r,(i:Int),false⟩,0):=fun r h1 h2=>by
  rw[zgF hR hM hf (by rw[h1,hT]),hn];simp[hkb,hw2,h2]
 refine⟨hc,?_⟩;rw[hT];refine zfO hM hr2 (ziM _) hl hs (fun c u h1 h2 h3=> ?_);by_cases k15:f.kind=15
 . rw[(zcZ (subC S (d+1)) none h1 hf h2 k15).1]
   have:=h15 k15;rw[<-h3]at this;have this:zca (spanB c u.r.a u.r.t)=true:=this;simp[this]
 . by_cases k17:f.kind=17
   . rw[((zbq (S:=S) (d:=d+1) (bs:=c) h1 hf h2 k17).2 d rfl).1]
     show(zai S d f.of_.toNat (zak c u)).2=0;rw[h3];exact h17 k17
   . rw[(zcE (subC S (d+1)) none h1 hf h2 k15 k17).1]
theorem zlY{d:Int}{b:List UInt8}(h:oneL S f d b=0):(zaf f.kind=true->(readS f.kind b).2=0)/\(f.kind=15->zca b=true)/\(f.kind=17->(zaM S f.of_ b d).2=0):=by
 unfold oneL at h;refine⟨fun hn=> ?_,fun h15=> ?_,fun h17=> ?_⟩
 . rw[if_pos hn]at h
   exact h
 . rw[if_neg (by rw[h15];decide),if_pos h15]at h
   by_cases ht:zca b=true
   . exact ht
   . rw[if_neg ht]at h
     cases h
 . rw[if_neg (by rw[h17];decide),if_neg (by rw[h17];decide),if_pos h17]at h
   exact h
theorem zpP(h:runL f=false)(hn:zaf f.kind=true):f.rep=false:=by
 unfold runL at h;rw[hn,Bool.and_true]at h;exact h
theorem zeY(hR:zan S=true)(hM:S[m]?=some M)(hf:M.fields[i]?=some f){d:Int}{bs:List UInt8}(hc:codeL S f bs d=0)(hl:bs.length<=100000):
 (∀c∈zaW f bs,∃ws ps,Chunk M.fields i f c ws ps)/\((zaW f bs).flatMap fun c=>(zah (zae M.fields c).1 i).flatMap (zaz f c))=wordsL f bs/\
  ((zaW f bs).flatMap fun c=>(zah (zae M.fields c).1 i).flatMap (zaj f c))=zaT f bs/\∀c∈zaW f bs,(zai S (d.toNat+1) m c).2=0:=by
 have h0:argsL S f d=0:=by
  by_cases h0:argsL S f d=0
  . exact h0
  . rw[zen h0]at hc
    exact absurd hc h0
 rcases hr:runL f with _|_
 . rw[zdi h0 hr]at hc
   have hfine:=zfg hc
   have key:∀x∈zaI f.rep bs,Chunk M.fields i f (putB f.number (wireI f.kind) x.1) (if zaf f.kind=true then[(readS f.kind x.1).1]else[]) (if zaf f.kind=true then[]else[x.1])/\(zai S (d.toNat+1) m (putB f.number (wireI f.kind) x.1)).2=0:=fun x hx=>by
    obtain⟨_,h2⟩:=hfine x hx;obtain⟨o1,o2,o3⟩:=zlY h2;have hxl:=zfq hx;rcases hn:zaf f.kind with _|_
    . exact zgs hR hM hf hn o2 (fun h17=>by
       have:=o3 h17
       exact(zlw this).2.2.2.2.2) (by omega)
    . exact zkT hR hM hf hn (zpP hr hn) (o1 hn) (by omega) _
   have hch:zaW f bs=(zaI f.rep bs).map fun x=>putB f.number (wireI f.kind) x.1:=by
    unfold zaW;rw[if_neg (by rw[hr];decide)]
   rw[hch];refine⟨fun c hc=> ?_,?_,?_,fun c hc=> ?_⟩
   . obtain⟨x,hx,rfl⟩:=List.mem_map.1 hc
     exact⟨_,_,(key x hx).1⟩
   . rw[List.flatMap_map]
     have:wordsL f bs=(zaI f.rep bs).flatMap fun x=>if zaf f.kind=true then[(readS f.kind x.1).1]else[]:=by
      unfold wordsL;rw[if_neg (by rw[hr];decide)];rcases zaf f.kind with _|_
      . simp
      . simp[List.map_eq_flatMap]
     rw[this];exact zcp fun x hx=>(key x hx).1.words
   . rw[List.flatMap_map]
     have:zaT f bs=(zaI f.rep bs).flatMap fun x=>if zaf f.kind=true then[]else[x.1]:=by
      unfold zaT;rcases zaf f.kind with _|_
      . simp[List.map_eq_flatMap]
      . simp
     rw[this];exact zcp fun x hx=>(key x hx).1.pieces
   . obtain⟨x,hx,rfl⟩:=List.mem_map.1 hc
     exact(key x hx).2
 . rw[zfF h0 hr]at hc
   have hn:zaf f.kind=true:=by
    unfold runL at hr;rw[Bool.and_eq_true]at hr;exact hr.2
   obtain⟨k1,k2⟩:=zna hR hM hf hr hc (by omega) (d.toNat+1)
   have hw:wordsL f bs=(zaD f.kind bs).1:=by
    unfold wordsL;rw[if_pos hr]
   have hp:zaT f bs=[]:=by
    unfold zaT;rw[if_pos hn]
   rw[hw,hp];by_cases hb:bs=[]
   . have hch:zaW f bs=[]:=by
      unfold zaW;rw[if_pos hr,if_pos hb]
     rw[hch];refine⟨fun c hc=>(by cases hc),?_,rfl,fun c hc=>(by cases hc)⟩
     have hv:valsV f.kind []=[]:=by
      unfold valsV;rw[if_neg (by rw[hn];decide)];rfl
     rw[hb];unfold zaD;rw[hv];simp
   . have hch:zaW f bs=[putB f.number 2 bs]:=by
      unfold zaW;rw[if_pos hr,if_neg hb]
     rw[hch];refine⟨fun c hc=> ?_,by simpa using k1.words,by simpa using k1.pieces,fun c hc=> ?_⟩
     . simp only[List.mem_singleton]at hc
       subst hc;exact⟨_,_,k1⟩
     . simp only[List.mem_singleton]at hc
       subst hc;exact k2
end
end Go.Proofs.YtpicpebolghcfaaGreatDoor
