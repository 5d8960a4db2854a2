/- Plain words of layers 7 and 10. No program is named. -/
import Derived.Test.YtpicpebolghcfaaGreatDoorQlSA

set_option linter.unusedVariables false
namespace Go.Proofs.YtpicpebolghcfaaGreatDoor
open Go.RowKit
structure zab where
 name:ByteArray
 number:Int
 kind:Int
 rep:Bool
 packed:Bool
 of_:Int
 deriving DecidableEq
instance:Inhabited zab:=⟨⟨⟨#[]⟩,0,0,false,false,0⟩⟩
def zed(f:zab):List Value:=[.string f.name,.int .i64 f.number,.int .i64 f.kind,.bool f.rep,.bool f.packed,.int .i64 f.of_]
def zaq(f:zab):Value:=.agg #[.string f.name,.int .i64 f.number,.int .i64 f.kind,.bool f.rep,.bool f.packed,.int .i64 f.of_]
structure zab.Ok(f:zab):Prop where
 number: -9223372036854775808<=f.number/\f.number<9223372036854775808
 kind: -9223372036854775808<=f.kind/\f.kind<9223372036854775808
 of_: -9223372036854775808<=f.of_/\f.of_<9223372036854775808
 name:f.name.size<=9223372036854775807
def zav(w:World)(A:Option Addr)(n c:Nat)(l:List zab):Prop:=Reads w A n c 6 (l.flatMap zed)/\∀f∈l,f.Ok
section
variable {w w':World} {A:Option Addr} {n c:Nat} {l:List zab}
theorem zav.up(h:zav w A n c l)(k:Ext w w'):zav w' A n c l:=⟨h.1.ext k,h.2⟩
theorem zav.length(h:zav w A n c l):l.length=n:=by
 have:=h.1.len;rw[zby (size:=6) (fun _=>rfl)]at this;omega
theorem zav.field(h:zav w A n c l){k:Nat}(hk:k<n):
 ∃b off f,A=some ⟨b,off,none⟩/\l[k]?=some f/\f.Ok/\b<w.heap.size/\w.cell? ⟨b,off+k*6,none⟩=some (.string f.name)/\w.cell? ⟨b,off+k*6+1,none⟩=some (.int .i64 f.number)/\
  w.cell? ⟨b,off+k*6+2,none⟩=some (.int .i64 f.kind)/\w.cell? ⟨b,off+k*6+3,none⟩=some (.bool f.rep)/\w.cell? ⟨b,off+k*6+4,none⟩=some (.bool f.packed)/\w.cell? ⟨b,off+k*6+5,none⟩=some (.int .i64 f.of_):=by
 obtain⟨b,off,f,e,hx,hb,hj⟩:=h.1.elem (size:=6) (fun _=>rfl) (by omega) hk;exact⟨b,off,f,e,hx,h.2 f (List.mem_of_getElem? hx),hb,hj 0 _ rfl,hj 1 _ rfl,hj 2 _ rfl,hj 3 _ rfl,hj 4 _ rfl,hj 5 _ rfl⟩
end
variable{α:Type}
def idxB(p:α->Bool)(l:List α):Int:=match l.findIdx? p with
 |some i=>(i:Int)
 |none=> -1
variable{k:Nat}
theorem zcU{p:α->Bool}{l:List α}{x:α}(hx:l[k]?=some x)(hp:p x=true)(hn:∀(j:Nat) y,j<k->l[j]?=some y->p y=false):idxB p l=k:=by
 have:l.findIdx? p=some k:=by
  rw[List.findIdx?_eq_some_iff_getElem];have hlt:=(List.getElem?_eq_some_iff.1 hx).1;have he:=(List.getElem?_eq_some_iff.1 hx).2;refine⟨hlt,by rw[he];exact hp,fun j hj=> ?_⟩;have:=hn j (l[j]'(by omega)) hj (List.getElem?_eq_getElem (by omega));simp[this]
 unfold idxB;rw[this]
theorem zee{p:α->Bool}{l:List α}(hn:∀(j:Nat) y,l[j]?=some y->p y=false):idxB p l= -1:=by
 have:l.findIdx? p=none:=by
  rw[List.findIdx?_eq_none_iff];intro x hx;obtain⟨j,hj,rfl⟩:=List.getElem_of_mem hx;exact hn j _ (List.getElem?_eq_getElem hj)
 unfold idxB;rw[this]
theorem zaL(p:α->Bool)(l:List α):idxB p l= -1/\(∀x∈l,p x=false)\/∃k x,idxB p l=(k:Nat)/\l[k]?=some x/\p x=true/\∀(j:Nat) y,j<k->l[j]?=some y->p y=false:=by
 rcases h:l.findIdx? p with _|k
 . left
   refine⟨by unfold idxB;rw[h],?_⟩;rw[List.findIdx?_eq_none_iff]at h;exact h
 . right
   have h':=h;rw[List.findIdx?_eq_some_iff_getElem]at h';obtain⟨hlt,hp,hj⟩:=h';refine⟨k,l[k],by unfold idxB;rw[h],List.getElem?_eq_getElem hlt,hp,fun j y hjk hy=> ?_⟩;have:=hj j hjk;rw[(List.getElem?_eq_some_iff.1 hy).2]at this;simpa using this
structure MsgD where
 name:ByteArray
 fields:List zab
structure MsgV where
 d:MsgD
 A:Option Addr
 n:Nat
 c:Nat
def msgC(m:MsgV):List Value:=[.string m.d.name,.slice m.A m.n m.c]
def zag(w:World)(A:Option Addr)(n c:Nat)(l:List MsgV):Prop:=Reads w A n c 2 (l.flatMap msgC)/\∀m∈l,zav w m.A m.n m.c m.d.fields/\m.d.name.size<=9223372036854775807
section
variable {w w':World} {A:Option Addr} {n c:Nat} {l:List MsgV}
theorem zag.up(h:zag w A n c l)(k:Ext w w'):zag w' A n c l:=⟨h.1.ext k,fun m hm=>⟨(h.2 m hm).1.up k,(h.2 m hm).2⟩⟩
theorem zag.length(h:zag w A n c l):l.length=n:=by
 have:=h.1.len;rw[zby (size:=2) (fun _=>rfl)]at this;omega
theorem zag.msg(h:zag w A n c l){k:Nat}(hk:k<n):
 ∃b off m,A=some ⟨b,off,none⟩/\l[k]?=some m/\zav w m.A m.n m.c m.d.fields/\m.d.name.size<=9223372036854775807/\b<w.heap.size/\w.cell? ⟨b,off+k*2,none⟩=some (.string m.d.name)/\w.cell? ⟨b,off+k*2+1,none⟩=some (.slice m.A m.n m.c):=by
 obtain⟨b,off,m,e,hx,hb,hj⟩:=h.1.elem (size:=2) (fun _=>rfl) (by omega) hk;have hm:=h.2 m (List.mem_of_getElem? hx);exact⟨b,off,m,e,hx,hm.1,hm.2,hb,hj 0 _ rfl,hj 1 _ rfl⟩
end
def zfT(x:Nat):Bool:=decide (65<=x/\x<=90\/97<=x/\x<=122\/x=95)
theorem zoy{x:Nat}(h:x<256):zfT x=(decide (97<=(x|||32))&&decide ((x|||32)<=122)||decide (x=95)):=by
 have:∀y:Fin 256,zfT y.val=(decide (97<=(y.val|||32))&&decide ((y.val|||32)<=122)||decide (y.val=95)):=by decide+kernel
 exact this ⟨x,h⟩
def charB(k x:Nat):Bool:=zfT x||(decide (0<k)&&decide (48<=x)&&decide (x<=57))
def zfw:Nat->List UInt8->Bool
 |_,[]=>true
 |k,c::l=>charB k c.toNat&&zfw (k+1) l
theorem zfU:∀(l:List UInt8)(i k:Nat)(c:UInt8),l[k]?=some c->charB (i+k) c.toNat=false->zfw i l=false
 |[],_,k,_,h,_=>by simp at h
 |a::r,i,0,c,h,hc=>by
  simp only[List.getElem?_cons_zero,Option.some.injEq]at h;subst h;unfold zfw;rw[show charB i a.toNat=false from hc];rfl
 |a::r,i,k+1,c,h,hc=>by
  unfold zfw;rw[zfU r (i+1) k c (by simpa using h) (by rw[show i+1+k=i+(k+1)by omega];exact hc),Bool.and_false]
theorem zfV:∀(l:List UInt8)(i:Nat),(∀(k:Nat) c,l[k]?=some c->charB (i+k) c.toNat=true)->zfw i l=true
 |[],_,_=>rfl
 |a::r,i,h=>by
  unfold zfw;rw[show charB i a.toNat=true from h 0 a rfl,zfV r (i+1) (fun k c hk=>by rw[show i+1+k=i+(k+1)by omega];exact h (k+1) c (by simpa using hk))];rfl
def nameB(s:ByteArray):Bool:=zfw 0 s.data.toList&&(decide (1<=s.size)&&decide (s.size<=60))
variable{s:ByteArray}
theorem zcV(h:nameB s=true):1<=s.size/\s.size<=60:=by
 unfold nameB at h;simp only[Bool.and_eq_true,decide_eq_true_eq]at h;exact h.2
def zcs(n:Int):Bool:=decide (1<=n)&&decide (n<=536870911)&&(decide (n<19000)||decide (19999<n))
theorem zfc{n:Int}(h:zcs n=true):1<=n/\n<=536870911:=by
 unfold zcs at h;simp only[Bool.and_eq_true,decide_eq_true_eq]at h;exact h.1
def ofB(n:Nat)(f:zab):Bool:=f.kind==17&&(decide (f.of_<0)||decide ((n:Int)<=f.of_))||f.kind !=17&&f.of_ !=0
def zbf(n:Nat)(before:List zab)(f:zab):Nat:=
 if nameB f.name=false then 5 else if(before.any fun g=>decide (g.name=f.name))=true then 6 else if zcs f.number=false then 7 else if(before.any fun g=>decide (g.number=f.number))=true then 8
 else if kindB f.kind=false then 9 else if(f.packed&& !(f.rep&&zaf f.kind))=true then 10 else if ofB n f=true then 11 else 0
def okF(f:zab):Prop:=f.name≠⟨#[]⟩/\f.name.size<=60/\1<=f.number/\f.number<=536870911
variable{f:zab}{before:List zab}{n:Nat}
theorem zjR(h:zbf n before f=0):okF f:=by
 unfold zbf at h;by_cases h1:nameB f.name=false
 . rw[if_pos h1]at h;omega
 . rw[if_neg h1]at h
   split at h
   . omega
   . by_cases h2:zcs f.number=false
     . rw[if_pos h2]at h;omega
     . have a:=zcV (by simpa using h1)
       have b:=zfc (by simpa using h2);refine⟨fun e=> ?_,a.2,b⟩;rw[e]at a;have:(⟨#[]⟩:ByteArray).size=0:=rfl;omega
def zeN{β:Type}(f:Nat->Option β):Nat->Nat->Option (Nat×β)
 |0,_=>none
 |m+1,k=>match f k with
  |some x=>some (k,x)
  |none=>zeN f m (k+1)
theorem zef{β:Type}{f:Nat->Option β}:∀(m k j:Nat)(x:β),k<=j->j<k+m->(∀i,k<=i->i<j->f i=none)->f j=some x->zeN f m k=some (j,x)
 |0,k,j,x,h1,h2,_,_=>by omega
 |m+1,k,j,x,h1,h2,h3,h4=>by
  unfold zeN;by_cases e:k=j
  . subst e;rw[h4]
  . rw[h3 k (Nat.le_refl _) (by omega)]
    exact zef m (k+1) j x (by omega) (by omega) (fun i hi hj=>h3 i (by omega) hj) h4
theorem zfd{β:Type}{f:Nat->Option β}:∀(m k:Nat),(∀i,k<=i->i<k+m->f i=none)->zeN f m k=none
 |0,_,_=>rfl
 |m+1,k,h=>by
  unfold zeN;rw[h k (Nat.le_refl _) (by omega)];exact zfd m (k+1) (fun i hi hj=>h i (by omega) (by omega))
theorem zdn{β:Type}(f:Nat->Option β):∀(m k:Nat),(zeN f m k=none/\∀i,k<=i->i<k+m->f i=none)\/∃j x,zeN f m k=some (j,x)/\k<=j/\j<k+m/\f j=some x/\∀i,k<=i->i<j->f i=none
 |0,k=>.inl ⟨rfl,fun i h1 h2=>by omega⟩
 |m+1,k=>by
  unfold zeN;rcases hf:f k with _|x
  . simp only
    rcases zdn f m (k+1)with⟨h1,h2⟩|⟨j,x,h1,h2,h3,h4,h5⟩
    . refine .inl ⟨h1,fun i hi hj=> ?_⟩
      by_cases e:i=k
      . subst e;exact hf
      . exact h2 i (by omega) (by omega)
    . refine .inr ⟨j,x,h1,by omega,by omega,h4,fun i hi hj=> ?_⟩
      by_cases e:i=k
      . subst e;exact hf
      . exact h5 i (by omega) hj
  . exact .inr ⟨k,x,rfl,Nat.le_refl _,by omega,hf,fun i h1 h2=>by omega⟩
def zdc(n:Nat)(l:List zab)(k:Nat):Option Nat:=match l[k]? with
 |none=>none
 |some f=>if zbf n (l.take k) f=0 then none else some (zbf n (l.take k) f)
def msgF(S:List MsgD)(i:Nat):Option (Int×Nat):=match S[i]? with
 |none=>none
 |some m=>if nameB m.name=false then some (-1,2)else if((S.take i).any fun g=>decide (g.name=m.name))=true then some (-1,3)else if 200<m.fields.length then some (-1,4)
  else(zeN (zdc S.length m.fields) m.fields.length 0).map fun p=>((p.1:Int),p.2)
def zcM(S:List MsgD):Int×Int×Nat:=
 if S.length=0\/100<S.length then(-1, -1,1)else match zeN (msgF S) S.length 0 with
 |none=>(0,0,0)
 |some (i,k,w)=>((i:Int),k,w)
def zan(S:List MsgD):Bool:=decide ((zcM S).2.2=0)
variable{w i:Nat}{S:List MsgD}
theorem zfW(h:¬(S.length=0\/100<S.length)){k:Int}(hi:i<S.length)(hb:∀j,j<i->msgF S j=none)(hf:msgF S i=some (k,w)):zcM S=((i:Int),k,w):=by
 unfold zcM;rw[if_neg h,zef _ 0 i (k,w) (by omega) (by omega) (fun j _ hj=>hb j hj) hf]
theorem zho(h:¬(S.length=0\/100<S.length))(hb:∀j,j<S.length->msgF S j=none):zcM S=(0,0,0):=by
 unfold zcM;rw[if_neg h,zfd _ 0 (fun j _ hj=>hb j (by omega))]
variable{m:MsgD}
theorem zhp(h:S[i]?=some m)(h1:nameB m.name=false):msgF S i=some (-1,2):=by unfold msgF;simp only[h];rw[if_pos h1]
theorem ziu(h:S[i]?=some m)(h1:nameB m.name=true)(h2:((S.take i).any fun g=>decide (g.name=m.name))=true):msgF S i=some (-1,3):=by unfold msgF;simp only[h];rw[if_neg (by rw[h1];simp),if_pos h2]
theorem zjS(h:S[i]?=some m)(h1:nameB m.name=true)(h2:((S.take i).any fun g=>decide (g.name=m.name))=false)(h3:200<m.fields.length):msgF S i=some (-1,4):=by
 unfold msgF;simp only[h];rw[if_neg (by rw[h1];simp),if_neg (by rw[h2];simp),if_pos h3]
theorem ziv(h:S[i]?=some m)(h1:nameB m.name=true)(h2:((S.take i).any fun g=>decide (g.name=m.name))=false)(h3:¬200<m.fields.length)(hf:m.fields[k]?=some f)(hb:∀j,j<k->zdc S.length m.fields j=none)(hw:zbf S.length (m.fields.take k) f=w)(h0:w≠0):msgF S i=some ((k:Int),w):=by
 unfold msgF;simp only[h];rw[if_neg (by rw[h1];simp),if_neg (by rw[h2];simp),if_neg h3];have:zdc S.length m.fields k=some w:=by unfold zdc;simp only[hf];rw[hw,if_neg h0]
 rw[zef _ 0 k w (by omega) (by have:=(List.getElem?_eq_some_iff.1 hf).1;omega) (fun j _ hj=>hb j hj) this];rfl
theorem zlc(h:S[i]?=some m)(h1:nameB m.name=true)(h2:((S.take i).any fun g=>decide (g.name=m.name))=false)(h3:¬200<m.fields.length)(hb:∀j,j<m.fields.length->zdc S.length m.fields j=none):msgF S i=none:=by
 unfold msgF;simp only[h];rw[if_neg (by rw[h1];simp),if_neg (by rw[h2];simp),if_neg h3,zfd _ 0 (fun j _ hj=>hb j (by omega))];rfl
theorem zmk(h:S[i]?=some m)(hn:msgF S i=none):nameB m.name=true/\((S.take i).any fun g=>decide (g.name=m.name))=false/\m.fields.length<=200/\∀(k:Nat) f,m.fields[k]?=some f->zbf S.length (m.fields.take k) f=0:=by
 unfold msgF at hn;simp only[h]at hn;by_cases h1:nameB m.name=false
 . rw[if_pos h1]at hn;cases hn
 . rw[if_neg h1]at hn
   by_cases h2:((S.take i).any fun g=>decide (g.name=m.name))=true
   . rw[if_pos h2]at hn;cases hn
   . rw[if_neg h2]at hn
     by_cases h3:200<m.fields.length
     . rw[if_pos h3]at hn;cases hn
     . rw[if_neg h3]at hn
       refine⟨by simpa using h1,by simpa using h2,by omega,fun k f hf=> ?_⟩;rcases zdn (zdc S.length m.fields) m.fields.length 0 with⟨_,g⟩|⟨j,x,g,_⟩
       . have hk:=g k (by omega) (by have:=(List.getElem?_eq_some_iff.1 hf).1;omega)
         unfold zdc at hk;simp only[hf]at hk;by_cases h0:zbf S.length (m.fields.take k) f=0
         . exact h0
         . rw[if_neg h0]at hk;cases hk
       . rw[g]at hn;cases hn
theorem ziw(h:zan S=true):1<=S.length/\S.length<=100/\∀(i:Nat) m,S[i]?=some m->msgF S i=none:=by
 unfold zan at h;have h:=of_decide_eq_true h;unfold zcM at h;by_cases hl:S.length=0\/100<S.length
 . rw[if_pos hl]at h;simp at h
 . rw[if_neg hl]at h
   refine⟨by omega,by omega,fun i m hm=> ?_⟩;have hi:=(List.getElem?_eq_some_iff.1 hm).1;rcases zdn (msgF S) S.length 0 with⟨_,g⟩|⟨j,⟨k,w⟩,g,_,_,g4,_⟩
   . exact g i (by omega) (by omega)
   . rw[g]at h
     simp only at h;subst h;exfalso;have hj:=g4;unfold msgF at hj;rcases hS:S[j]? with _|m'
     . rw[hS]at hj;cases hj
     . simp only[hS]at hj
       split at hj
       . cases hj
       . split at hj
         . cases hj
         . split at hj
           . cases hj
           . rcases zdn (zdc S.length m'.fields) m'.fields.length 0 with⟨q,_⟩|⟨k',x,q,_,_,q4,_⟩
             . rw[q]at hj;cases hj
             . rw[q]at hj
               simp only[Option.map_some,Option.some.injEq,Prod.mk.injEq]at hj;unfold zdc at q4;rcases hf:m'.fields[k']? with _|f
               . rw[hf]at q4;cases q4
               . simp only[hf]at q4
                 split at q4
                 . cases q4
                 . rename_i h0
                   simp only[Option.some.injEq]at q4;omega
abbrev MetK:=Int×ByteArray×Int
def zdV(x:MetK):Value:=.agg #[.int .i64 x.1,.string x.2.1,.int .i64 x.2.2]
def okMet(x:MetK):Prop:=(Lit.int .i64 x.1).wf=true/\x.2.1.size<=maxLen/\(Lit.int .i64 x.2.2).wf=true
def metM(P:List (Nat×zab)):List (MetK×Value):=P.flatMap fun p=>[(((p.1:Int),p.2.name,0),.int .i64 1),(((p.1:Int),⟨#[]⟩,p.2.number),.int .i64 1)]
theorem zoz(P:List (Nat×zab))(i:Nat)(f:zab):metM (P++[(i,f)])=metM P++[(((i:Int),f.name,0),.int .i64 1)]++[(((i:Int),⟨#[]⟩,f.number),.int .i64 1)]:=by
 unfold metM;rw[List.flatMap_append];simp
variable{P:List (Nat×zab)}
theorem zpT(hP:∀p∈P,okF p.2)(hs:s≠⟨#[]⟩):((P.any fun p=>decide (p.1=i)&&decide (p.2.name=s))=true/\getV ((i:Int),s,0) (metM P)=some (.int .i64 1))\/
 ((P.any fun p=>decide (p.1=i)&&decide (p.2.name=s))=false/\∀q∈metM P,q.1≠((i:Int),s,0)):=by
 induction P with
 |nil=>exact .inr ⟨rfl,fun q hq=>by simp[metM]at hq⟩
 |cons p P ih=>
  have ih:=ih (fun q hq=>hP q (.tail _ hq));have hp:=hP p (.head _);have he:metM (p::P)=(((p.1:Int),p.2.name,0),.int .i64 1)::(((p.1:Int),⟨#[]⟩,p.2.number),.int .i64 1)::metM P:=rfl
  have h2:¬(((p.1:Int),(⟨#[]⟩:ByteArray),p.2.number):MetK)=((i:Int),s,0):=by
   intro e;simp only[Prod.mk.injEq]at e;have:=hp.2.2.1;omega
  by_cases h1:p.1=i/\p.2.name=s
  . refine .inl ⟨?_,?_⟩
    . rw[List.any_cons,h1.1,h1.2];simp
    . rw[he];unfold getV;rw[if_pos (by simp only;rw[h1.1,h1.2])]
  . have h3:¬(((p.1:Int),p.2.name,0):MetK)=((i:Int),s,0):=by
     intro e;simp only[Prod.mk.injEq]at e;exact h1 ⟨by omega,e.2.1⟩
    have h4:(decide (p.1=i)&&decide (p.2.name=s))=false:=by
     rw[<-Bool.decide_and];exact decide_eq_false h1
    rw[List.any_cons,h4,Bool.false_or,he];rcases ih with⟨a,b⟩|⟨a,b⟩
    . refine .inl ⟨a,?_⟩
      unfold getV;rw[if_neg h3];unfold getV;rw[if_neg h2];exact b
    . refine .inr ⟨a,fun q hq=> ?_⟩
      rcases List.mem_cons.1 hq with rfl|hq
      . exact h3
      . rcases List.mem_cons.1 hq with rfl|hq
        . exact h2
        . exact b q hq
theorem znk(hP:∀p∈P,okF p.2){x:Int}(hx:1<=x):((P.any fun p=>decide (p.1=i)&&decide (p.2.number=x))=true/\getV ((i:Int),⟨#[]⟩,x) (metM P)=some (.int .i64 1))\/
 ((P.any fun p=>decide (p.1=i)&&decide (p.2.number=x))=false/\∀q∈metM P,q.1≠((i:Int),⟨#[]⟩,x)):=by
 induction P with
 |nil=>exact .inr ⟨rfl,fun q hq=>by simp[metM]at hq⟩
 |cons p P ih=>
  have ih:=ih (fun q hq=>hP q (.tail _ hq));have hp:=hP p (.head _);have he:metM (p::P)=(((p.1:Int),p.2.name,0),.int .i64 1)::(((p.1:Int),⟨#[]⟩,p.2.number),.int .i64 1)::metM P:=rfl
  have h2:¬(((p.1:Int),p.2.name,(0:Int)):MetK)=((i:Int),⟨#[]⟩,x):=by
   intro e;simp only[Prod.mk.injEq]at e;omega
  by_cases h1:p.1=i/\p.2.number=x
  . refine .inl ⟨?_,?_⟩
    . rw[List.any_cons,h1.1,h1.2];simp
    . rw[he];unfold getV;rw[if_neg h2];unfold getV;rw[if_pos (by simp only;rw[h1.1,h1.2])]
  . have h3:¬(((p.1:Int),(⟨#[]⟩:ByteArray),p.2.number):MetK)=((i:Int),⟨#[]⟩,x):=by
     intro e;simp only[Prod.mk.injEq]at e;exact h1 ⟨by omega,e.2.2⟩
    have h4:(decide (p.1=i)&&decide (p.2.number=x))=false:=by
     rw[<-Bool.decide_and];exact decide_eq_false h1
    rw[List.any_cons,h4,Bool.false_or,he];rcases ih with⟨a,b⟩|⟨a,b⟩
    . refine .inl ⟨a,?_⟩
      unfold getV;rw[if_neg h2];unfold getV;rw[if_neg h3];exact b
    . refine .inr ⟨a,fun q hq=> ?_⟩
      rcases List.mem_cons.1 hq with rfl|hq
      . exact h2
      . rcases List.mem_cons.1 hq with rfl|hq
        . exact h3
        . exact b q hq
def zcg:Nat->List MsgD->List (Nat×zab)
 |_,[]=>[]
 |i,m::S=>(m.fields.map fun f=>(i,f))++zcg (i+1) S
theorem zjT:∀(S:List MsgD)(i:Nat),∀p∈zcg i S,p.1<i+S.length
 |[],_,p,h=>by simp[zcg]at h
 |m::S,i,p,h=>by
  unfold zcg at h;rcases List.mem_append.1 h with h|h
  . obtain⟨f,_,rfl⟩:=List.mem_map.1 h
    simp
  . have:=zjT S (i+1) p h
    simp only[List.length_cons];omega
theorem zhq:∀(S:List MsgD)(m:MsgD)(i:Nat),zcg i (S++[m])=zcg i S++m.fields.map fun f=>(i+S.length,f)
 |[],m,i=>by simp[zcg]
 |a::S,m,i=>by
  rw[List.cons_append,zcg,zcg,zhq S m (i+1),List.append_assoc];simp only[List.length_cons];rw[show i+1+S.length=i+(S.length+1)by omega]
theorem znl{l:List zab}{q:zab->Bool}:(((zcg 0 S)++l.map fun f=>(S.length,f)).any fun p=>decide (p.1=S.length)&&q p.2)=l.any q:=by
 rw[List.any_append,List.any_map]
 have h1:((zcg 0 S).any fun p=>decide (p.1=S.length)&&q p.2)=false:=by
  rw[List.any_eq_false];intro p hp;have:=zjT S 0 p hp;simp;intro e;omega
 rw[h1,Bool.false_or];congr 1;funext f;simp
theorem zeg{β:Type} [DecidableEq β]{l:List α}{f:α->β}{x:α}(hx:l[k]?=some x)(hn:((l.take k).any fun g=>decide (f g=f x))=false):idxB (fun g=>decide (f g=f x)) l=(k:Nat):=by
 refine zcU hx (by simp) (fun j y hj hy=> ?_);rw[List.any_eq_false]at hn;have:=hn y (List.mem_of_getElem? (by rw[List.getElem?_take_of_lt hj];exact hy));simpa using this
theorem zcW(h:zbf n before f=0):
 nameB f.name=true/\(before.any fun g=>decide (g.name=f.name))=false/\zcs f.number=true/\(before.any fun g=>decide (g.number=f.number))=false/\kindB f.kind=true/\(f.packed&& !(f.rep&&zaf f.kind))=false/\ofB n f=false:=by
 unfold zbf at h;by_cases h1:nameB f.name=false
 . rw[if_pos h1]at h;omega
 . rw[if_neg h1]at h
   by_cases h2:(before.any fun g=>decide (g.name=f.name))=true
   . rw[if_pos h2]at h;omega
   . rw[if_neg h2]at h
     by_cases h3:zcs f.number=false
     . rw[if_pos h3]at h;omega
     . rw[if_neg h3]at h
       by_cases h4:(before.any fun g=>decide (g.number=f.number))=true
       . rw[if_pos h4]at h;omega
       . rw[if_neg h4]at h
         by_cases h5:kindB f.kind=false
         . rw[if_pos h5]at h;omega
         . rw[if_neg h5]at h
           by_cases h6:(f.packed&& !(f.rep&&zaf f.kind))=true
           . rw[if_pos h6]at h;omega
           . rw[if_neg h6]at h
             by_cases h7:ofB n f=true
             . rw[if_pos h7]at h;omega
             . simp only[Bool.not_eq_false,Bool.not_eq_true]at h1 h2 h3 h4 h5 h6 h7
               exact⟨h1,h2,h3,h4,h5,h6,h7⟩
theorem zbd(h:zan S=true)(hm:S[i]?=some m):
 nameB m.name=true/\((S.take i).any fun g=>decide (g.name=m.name))=false/\m.fields.length<=200/\∀(k:Nat) f,m.fields[k]?=some f->zbf S.length (m.fields.take k) f=0:=
 zmk hm ((ziw h).2.2 i m hm)
theorem zdO(h:zan S=true)(hm:S[i]?=some m)(hf:m.fields[k]?=some f):
 idxB (fun g:zab=>decide (g.name=f.name)) m.fields=(k:Nat)/\idxB (fun g:zab=>decide (g.number=f.number)) m.fields=(k:Nat):=by
 obtain⟨h1,h2,h3,h4,_⟩:=zcW ((zbd h hm).2.2.2 k f hf);exact⟨zeg (f:=zab.name) hf h2,zeg (f:=zab.number) hf h4⟩
end Go.Proofs.YtpicpebolghcfaaGreatDoor
namespace Go.Proofs.YtpicpebolghcfaaGreatDoor
open Go.RowKit Go.Lib
structure ViewD where
 r:Rec
 field:Int
 run:Bool
 deriving DecidableEq
def ViewD.zero:ViewD:=⟨Rec.zero,0,false⟩
def numP(x:Int)(f:zab):Bool:=f.number==x
def seenV(l:List zab)(r:Rec):ViewD×Nat:=
 match l.findIdx? (numP (r.n:Int))with
 |none=>(⟨r, -1,false⟩,0)
 |some i=>match l[i]? with
  |none=>(ViewD.zero,0)
  |some f=>if(f.rep&&zaf f.kind&&r.w==2)=true then(⟨r,(i:Int),true⟩,0)else if kindB f.kind=true/\wireI f.kind=(r.w:Int)then(⟨r,(i:Int),false⟩,0)else(ViewD.zero,6)
def lookV(l:List zab)(bs:List UInt8)(p:Nat):ViewD×Nat:=if(nextV bs p).2=0 then seenV l (nextV bs p).1 else(ViewD.zero,(nextV bs p).2)
def lookI(l:List zab)(bs:List UInt8)(p:Int):ViewD×Nat:=if(nextI bs p).2=0 then seenV l (nextI bs p).1 else(ViewD.zero,(nextI bs p).2)
variable{r:Rec}{l:List zab}
theorem zbL(h:idxB (numP (r.n:Int)) l= -1):seenV l r=(⟨r, -1,false⟩,0):=by
 unfold seenV;unfold idxB at h;rcases hf:l.findIdx? (numP (r.n:Int))with _|i
 . rfl
 . rw[hf]at h;simp only at h;omega
theorem zbD{k:Nat}{f:zab}(h:idxB (numP (r.n:Int)) l=(k:Nat))(hf:l[k]?=some f):
 seenV l r=if(f.rep&&zaf f.kind&&r.w==2)=true then(⟨r,(k:Int),true⟩,0)else if kindB f.kind=true/\wireI f.kind=(r.w:Int)then(⟨r,(k:Int),false⟩,0)else(ViewD.zero,6):=by
 unfold seenV;unfold idxB at h;rcases hi:l.findIdx? (numP (r.n:Int))with _|i
 . rw[hi]at h;simp only at h;omega
 . rw[hi]at h
   simp only at h;obtain rfl:i=k:=by omega
   simp only[hf]
variable{v:ViewD}
theorem zml(h:seenV l r=(v,0)):v.r=r:=by
 rcases zaL (numP (r.n:Int)) l with⟨h1,_⟩|⟨k,f,h1,h2,_⟩
 . rw[zbL h1]at h;cases h;rfl
 . rw[zbD h1 h2]at h
   split at h
   . cases h;rfl
   . split at h
     . cases h;rfl
     . cases h
theorem zpU(l:List zab)(r:Rec):(seenV l r).2<=6:=by
 rcases zaL (numP (r.n:Int)) l with⟨h1,_⟩|⟨k,f,h1,h2,_⟩
 . rw[zbL h1];simp
 . rw[zbD h1 h2]
   split
   . simp
   . split<;>simp
variable{p:Nat}{bs:List UInt8}
theorem zbW(h:lookV l bs p=(v,0)):nextV bs p=(v.r,0)/\seenV l v.r=(v,0):=by
 unfold lookV at h;by_cases hc:(nextV bs p).2=0
 . rw[if_pos hc]at h
   have hr:=zml h;rw[hr];exact⟨by rw[<-hc],h⟩
 . rw[if_neg hc]at h
   simp only[Prod.mk.injEq]at h;exact absurd h.2 hc
theorem zpV(l:List zab)(bs:List UInt8)(p:Nat):(lookV l bs p).2<=6:=by
 unfold lookV;split
 . exact zpU l _
 . have:=zmr bs p
   show(nextV bs p).2<=6;omega
def ViewD.to(v:ViewD):Nat:=v.r.t
theorem zaB(l:List zab)(bs:List UInt8):zcN (lookV l bs) ViewD.to bs.length:=by
 intro p hp hc;have h:=zbW (l:=l) (bs:=bs) (p:=p) (v:=(lookV l bs p).1) (by rw[<-hc]);have:=zci h.1;unfold ViewD.to;omega
theorem zoA(hp:p<bs.length):nextI bs (p:Int)=nextV bs p:=by
 unfold nextI;rw[if_neg (by omega),Int.toNat_natCast]
theorem zjU(hp:p<bs.length):lookI l bs (p:Int)=lookV l bs p:=by
 unfold lookI lookV;rw[zoA hp]
def zae(l:List zab)(bs:List UInt8):List ViewD×Nat×Nat:=scan (lookV l bs) ViewD.to bs.length 0
theorem zdd(l:List zab)(bs:List UInt8):(zae l bs).2.1<=bs.length/\(zae l bs).1.length<=bs.length/\((zae l bs).2.2≠0->(zae l bs).1=[])/\((zae l bs).2.2=0->(zae l bs).2.1=0):=by
 have h:=zhr (zaB l bs) bs.length 0 (by omega);unfold zae;exact⟨h.2.2.2 (by omega),by have:=h.2.2.1 (by omega);omega,h.1,h.2.1⟩
theorem zmm{α:Type}{step:Nat->α×Nat}{to:α->Nat}{len m:Nat}(hO:zcN step to len)(h:∀p,(step p).2<=m):∀(k p:Nat),len - p<=k->(scan step to len p).2.2<=m
 |0,p,hk=>by rw[zaE (by omega)];simp
 |k+1,p,hk=>by
  by_cases hp:len<=p
  . rw[zaE hp];simp
  . rcases hs:step p with⟨x,C⟩
    have hC:=h p;rw[hs]at hC;by_cases h0:C=0
    . subst h0
      have h1:=hO p (by omega) (by rw[hs]);rw[hs]at h1;rw[zbE hO (by omega) hs];have ih:=zmm hO h k (to x) (by simp only at h1;omega);unfold pre;split
      . simp
      . exact ih
    . rw[zaR (by omega) hs h0]
      exact hC
end Go.Proofs.YtpicpebolghcfaaGreatDoor
