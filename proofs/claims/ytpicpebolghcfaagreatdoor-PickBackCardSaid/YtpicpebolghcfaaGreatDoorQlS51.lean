/- Plain laws of layers 12, 13 and 22: the names of a path, the way that they lead, the pieces that lie there. -/
import Derived.Test.YtpicpebolghcfaaGreatDoorQlW10
import Derived.Lib.IndexLaws
import Derived.Lib.IndexBytes

set_option linter.unusedVariables false
namespace Go.Proofs.YtpicpebolghcfaaGreatDoor
open Go.RowKit Go.Shelf
def zbv:List UInt8->List (List UInt8)
 |[]=>[[]]
 |c::r=>if c=46 then[]::zbv r else(zbv r).modifyHead (c:: ·)
theorem zij:∀l:List UInt8,0<(zbv l).length
 |[]=>by simp[zbv]
 |c::r=>by
  have:=zij r;unfold zbv;split
  . simp
  . simpa using this
theorem zhe:∀l:List UInt8,∀x∈zbv l,x.length<=l.length
 |[],x,h=>by simp[zbv]at h;simp[h]
 |c::r,x,h=>by
  have ih:=zhe r;unfold zbv at h;split at h
  . rcases List.mem_cons.1 h with rfl|h
    . simp
    . have:=ih x h
      simp only[List.length_cons];omega
  . rcases hs:zbv r with _|⟨a,t⟩
    . rw[hs]at h
      simp at h
    . rw[hs]at h ih
      simp only[List.modifyHead_cons,List.mem_cons]at h;rcases h with rfl|h
      . have:=ih a List.mem_cons_self
        simp only[List.length_cons];omega
      . have:=ih x (List.mem_cons_of_mem _ h)
        simp only[List.length_cons];omega
theorem zhf:∀l:List UInt8,(∀k:Nat,l[k]?≠some 46)->zbv l=[l]
 |[],_=>rfl
 |c::r,h=>by
  have hc:c≠46:=fun e=>h 0 (by simp[e])
  have ih:=zhf r (fun k=>by have:=h (k+1);simpa using this);unfold zbv;rw[if_neg hc,ih];rfl
theorem zhg:∀(l:List UInt8)(i:Nat),l[i]?=some 46->(∀k:Nat,k<i->l[k]?≠some 46)->zbv l=l.take i::zbv (l.drop (i+1))
 |[],i,h,_=>by simp at h
 |c::r,0,h,_=>by
  simp only[List.getElem?_cons_zero,Option.some.injEq]at h
  conv=>lhs;unfold zbv
  rw[if_pos h];simp
 |c::r,i+1,h,hk=>by
  have hc:c≠46:=fun e=>hk 0 (by omega) (by simp[e])
  have ih:=zhg r i (by simpa using h) (fun k hki=>by have:=hk (k+1) (by omega);simpa using this)
  conv=>lhs;unfold zbv
  rw[if_neg hc,ih];simp
theorem zom{a b:ByteArray}(h:a.data.toList=b.data.toList):a=b:=by
 obtain⟨⟨a⟩⟩:=a;obtain⟨⟨b⟩⟩:=b;simp only at h;rw[h]
def zbh(p:ByteArray):List ByteArray:=(zbv p.data.toList).map textO
theorem zfR(p:ByteArray):0<(zbh p).length:=by unfold zbh;rw[List.length_map];exact zij _
theorem zhh(p:ByteArray):∀s∈zbh p,s.size<=p.size:=fun s h=>by
 unfold zbh at h;obtain⟨x,hx,rfl⟩:=List.mem_map.1 h;have:=zhe _ x hx;rw[Lib.size_eq,Lib.size_eq];exact this
variable{p:ByteArray}
theorem zkU(h:Lib.indexByte p.data.toList 46= -1):zbh p=[p]:=by
 unfold zbh;rw[zhf _ (Lib.indexByte_none h)];rfl
theorem zkV{i:Nat}(h:Lib.indexByte p.data.toList 46=i):zbh p=p.extract 0 i::zbh (p.extract (i+1) p.size)/\i<p.size:=by
 obtain⟨h1,h2⟩:=Lib.indexByte_some h;have hi:=(List.getElem?_eq_some_iff.1 h1).1;rw[<-Lib.size_eq]at hi;refine⟨?_,hi⟩;unfold zbh;rw[zhg _ i h1 h2,List.map_cons,Lib.extract_to_end];congr 1;apply zom;rw[Lib.extract_data];simp[textO]
def zbB(p:ByteArray):Option (List ByteArray):=if(zbh p).all nameB=true/\(zbh p).length<=65 then some (zbh p)else none
def wayV(S:List MsgD):Nat->List ByteArray->Option (List Int)
 |_,[]=>some []
 |m,s::l=>match S[m]? with
  |none=>none
  |some M=>match M.fields.find? (zdj s)with
   |none=>none
   |some f=>if l=[]then some [f.number]else if f.rep=true\/f.kind≠17 then none else(wayV S f.of_.toNat l).map (f.number:: ·)
def zbj(S:List MsgD)(m:Nat)(n:Int):Option zab:=match S[m]? with
 |none=>none
 |some M=>M.fields.find? (numP n)
inductive OnWay(S:List MsgD):Nat->List Int->zab->Prop
 |last {m:Nat} {n:Int} {f:zab} (h:zbj S m n=some f):OnWay S m [n] f
 |step {m:Nat} {n:Int} {f g:zab} {l:List Int} (h:zbj S m n=some f) (hk:f.kind=17) (hr:f.rep=false) (t:OnWay S f.of_.toNat l g):OnWay S m (n::l) g
variable{f:zab}{m:Nat}{S:List MsgD}
theorem OnWay.ne{l:List Int}(h:OnWay S m l f):l≠ []:=by cases h<;>simp
theorem zkW(hR:zan S=true){M:MsgD}(hM:S[m]?=some M)(hf:f∈M.fields):zbj S m f.number=some f:=by
 obtain⟨k,hk⟩:=List.getElem?_of_mem hf;have h:=(zdO hR hM hk).2;unfold zbj;rw[hM];simp only
 have e:(fun g:zab=>decide (g.number=f.number))=numP f.number:=by
  funext g;unfold numP;by_cases q:g.number=f.number
  . simp[q]
  . simp[q]
 rw[e]at h;exact(zbm (p:=numP f.number)).2 k f h hk
theorem zon{S:List MsgD}(hR:zan S=true):∀(l:List ByteArray)(m:Nat)(way:List Int),l≠ []->wayV S m l=some way->∃f,OnWay S m way f/\way.length=l.length
 |[],_,_,h,_=>absurd rfl h
 |s::l,m,way,_,h=>by
  unfold wayV at h;rcases hM:S[m]? with _|M
  . rw[hM]at h;simp at h
  . rw[hM]at h
    simp only at h;rcases hf:M.fields.find? (zdj s)with _|f
    . rw[hf]at h;simp at h
    . rw[hf]at h
      simp only at h;have hfm:=List.mem_of_find?_eq_some hf;have hn:=zkW hR hM hfm;by_cases hl:l=[]
      . rw[if_pos hl]at h
        injection h with h;subst h;subst hl;exact⟨f,.last hn,rfl⟩
      . rw[if_neg hl]at h
        by_cases hb:f.rep=true\/f.kind≠17
        . rw[if_pos hb]at h;simp at h
        . rw[if_neg hb]at h
          rcases hw:wayV S f.of_.toNat l with _|way'
          . rw[hw]at h;simp at h
          . rw[hw]at h
            simp only[Option.map_some,Option.some.injEq]at h;subst h;obtain⟨g,hg,hlen⟩:=zon hR l _ _ hl hw;have h1:f.kind=17:=Classical.byContradiction fun q=>hb (.inr q)
            have h2:f.rep=false:=by cases q:f.rep with
             |false=>rfl
             |true=>exact absurd (.inl q) hb
            exact⟨g,.step hn h1 h2 hg,by simp[hlen]⟩
def argsM(S:List MsgD)(root:Int):Nat:=if zan S=false then 9 else if root<0\/(S.length:Int)<=root then 2 else 0
theorem zkX{root:Int}(h:argsM S root=0):zan S=true/\0<=root/\root<S.length:=by
 unfold argsM at h;by_cases h1:zan S=false
 . rw[if_pos h1]at h;cases h
 . rw[if_neg h1]at h
   by_cases h2:root<0\/(S.length:Int)<=root
   . rw[if_pos h2]at h;cases h
   . exact⟨by simpa using h1,by omega,by omega⟩
def zas(S:List MsgD)(root:Int)(p:ByteArray):List Int×Nat:=
 if argsM S root≠0 then([],argsM S root)else match zbB p with
 |none=>([],10)
 |some l=>match wayV S root.toNat l with
  |none=>([],10)
  |some way=>(way,0)
def zaU(fs:List zab)(bs:List UInt8)(n:Int):List (List UInt8):=((zae fs bs).1.filter (ofP n)).map (zak bs)
def zar(S:List MsgD)(m:Nat):List zab:=match S[m]? with
 |none=>[]
 |some M=>M.fields
def zao(S:List MsgD):Nat->List UInt8->List Int->List (List UInt8)
 |_,_,[]=>[]
 |m,bs,n::l=>if l=[]then zaU (zar S m) bs n else match zbj S m n with
  |none=>[]
  |some f=>zao S f.of_.toNat (zaU (zar S m) bs n).flatten l
end Go.Proofs.YtpicpebolghcfaaGreatDoor
