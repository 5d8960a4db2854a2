/- Plain words of layers 1 to 3, 5, 6, 8, 9. No program is named. -/
import Derived.Test.YtpicpebolghcfaaGreatDoorQlMap
import Derived.Lib.Zigzag
import Derived.Laws.BitsAllLaws
import Derived.Lib.BitFns
import Derived.Lib.ItoaNum

set_option linter.unusedVariables false
namespace Go.Proofs.YtpicpebolghcfaaGreatDoor
section
variable {α:Type}
def pre(l:List α)(r:List α×Nat×Nat):List α×Nat×Nat:=if r.2.2=0 then(l++r.1,r.2.1,0)else([],r.2.1,r.2.2)
theorem zld(l m:List α)(r:List α×Nat×Nat):pre l (pre m r)=pre (l++m) r:=by
 unfold pre;by_cases h:r.2.2=0
 . simp[h]
 . simp[h]
def scanF(step:Nat->α×Nat)(to:α->Nat)(len:Nat):Nat->Nat->List α×Nat×Nat
 |0,_=>([],0,0)
 |f+1,p=>if len<=p then([],0,0)else if(step p).2=0 then pre [(step p).1] (scanF step to len f (to (step p).1))else([],p,(step p).2)
def scan(step:Nat->α×Nat)(to:α->Nat)(len p:Nat):List α×Nat×Nat:=scanF step to len (len - p) p
def zcN(step:Nat->α×Nat)(to:α->Nat)(len:Nat):Prop:=∀p,p<len->(step p).2=0->p<to (step p).1/\to (step p).1<=len
variable {step:Nat->α×Nat} {to:α->Nat} {len:Nat}
theorem zix(hO:zcN step to len):∀(f g p:Nat),len - p<=f->len - p<=g->scanF step to len f p=scanF step to len g p
 |0,0,_,_,_=>rfl
 |0,g+1,p,h,_=>by rw[scanF,scanF,if_pos (by omega)]
 |f+1,0,p,_,h=>by rw[scanF,scanF,if_pos (by omega)]
 |f+1,g+1,p,h1,h2=>by
  rw[scanF,scanF];by_cases hp:len<=p
  . rw[if_pos hp,if_pos hp]
  . rw[if_neg hp,if_neg hp]
    by_cases hc:(step p).2=0
    . have:=hO p (by omega) hc
      rw[if_pos hc,if_pos hc,zix hO f g _ (by omega) (by omega)]
    . rw[if_neg hc,if_neg hc]
theorem zaE{p:Nat}(h:len<=p):scan step to len p=([],0,0):=by
 unfold scan;rw[show len - p=0 by omega];rfl
theorem zbE(hO:zcN step to len){p:Nat}(h:p<len){x:α}(hs:step p=(x,0)):scan step to len p=pre [x] (scan step to len (to x)):=by
 have h1:=hO p h (by rw[hs]);rw[hs]at h1;simp only at h1;unfold scan;obtain⟨k,hk⟩:∃k,len - p=k+1:=⟨len - p - 1,by omega⟩
 rw[hk,scanF,if_neg (by omega),hs,if_pos rfl];simp only;rw[zix hO k (len - to x) _ (by omega) (Nat.le_refl _)]
theorem zaR{p:Nat}(h:p<len){x:α}{C:Nat}(hs:step p=(x,C))(hC:C≠0):scan step to len p=([],p,C):=by
 unfold scan;obtain⟨k,hk⟩:∃k,len - p=k+1:=⟨len - p - 1,by omega⟩
 rw[hk,scanF,if_neg (by omega),hs];simp only;rw[if_neg hC]
theorem zmn(l:List α){p C:Nat}(hC:C≠0):pre l ([],p,C)=([],p,C):=by unfold pre;rw[if_neg hC]
theorem zle(l:List α):pre l ([],0,0)=(l,0,0):=by unfold pre;simp
theorem zqV(r:List α×Nat×Nat)(h:r.2.2≠0->r.1=[]):pre [] r=r:=by
 unfold pre;by_cases h0:r.2.2=0
 . rw[if_pos h0];ext<;>simp[h0]
 . rw[if_neg h0];rw[<-h h0]
theorem zhr(hO:zcN step to len):∀(m p:Nat),len - p<=m->((scan step to len p).2.2≠0->(scan step to len p).1=[])/\((scan step to len p).2.2=0->(scan step to len p).2.1=0)/\(p<=len->(scan step to len p).1.length<=len - p)/\(p<=len->(scan step to len p).2.1<=len)
 |0,p,h=>by rw[zaE (by omega)];simp
 |m+1,p,h=>by
  by_cases hp:len<=p
  . rw[zaE hp];simp
  . rcases hs:step p with⟨x,C⟩
    by_cases hC:C=0
    . subst hC
      have h1:=hO p (by omega) (by rw[hs]);rw[hs]at h1;simp only at h1;have ih:=zhr hO m (to x) (by omega);rw[zbE hO (by omega) hs];unfold pre;by_cases h0:(scan step to len (to x)).2.2=0
      . rw[if_pos h0]
        refine⟨by simp,fun _=>ih.2.1 h0,fun _=> ?_,fun _=>ih.2.2.2 h1.2⟩;have:=ih.2.2.1 h1.2;simp;omega
      . rw[if_neg h0]
        exact⟨by simp,by simp[h0],by simp,fun _=>ih.2.2.2 h1.2⟩
    . rw[zaR (by omega) hs hC]
      exact⟨by simp,by simp[hC],by simp,fun _=>by simp;omega⟩
theorem zgG(hO:zcN step to len)(p:Nat):pre [] (scan step to len p)=scan step to len p:=zqV _ (zhr hO _ p (Nat.le_refl _)).1
theorem zmo(hO:zcN step to len){P:α->Prop}(hP:∀p x,p<len->step p=(x,0)->P x):∀(m p:Nat),len - p<=m->∀x∈(scan step to len p).1,P x
 |0,p,h=>by rw[zaE (by omega)];simp
 |m+1,p,h=>by
  by_cases hp:len<=p
  . rw[zaE hp];simp
  . rcases hs:step p with⟨x,C⟩
    by_cases hC:C=0
    . subst hC
      have h1:=hO p (by omega) (by rw[hs]);rw[hs]at h1;simp only at h1;have ih:=zmo hO hP m (to x) (by omega);rw[zbE hO (by omega) hs];unfold pre;by_cases h0:(scan step to len (to x)).2.2=0
      . rw[if_pos h0]
        intro y hy;simp only[List.singleton_append,List.mem_cons]at hy;rcases hy with rfl|hy
        . exact hP p _ (by omega) hs
        . exact ih y hy
      . rw[if_neg h0];simp
    . rw[zaR (by omega) hs hC];simp
end
end Go.Proofs.YtpicpebolghcfaaGreatDoor
namespace Go.Proofs.YtpicpebolghcfaaGreatDoor
open Go.RowKit Go.Lib
theorem zbF{k:IntKind}{a b:Int}(h:a=b):Ending.returned (.int k a)=.returned (.int k b):=by rw[h]
theorem zam{a b:Bool}(h:a=b):Ending.returned (.bool a)=.returned (.bool b):=by rw[h]
def zbb(n:Int):Int:=if 2147483648<=n % 4294967296 then n % 4294967296 - 4294967296 else n % 4294967296
def wideI(n:Int):Int:=if 0<=n then n else n+18446744073709551616
def zagI(n:Int):Int:=if n % 2=1 then -(n / 2) - 1 else n / 2
theorem zjV(n:Int):wrap32 (n % 4294967296)=zbb n:=by
 unfold zbb wrap32;split<;>omega
theorem zfX(n:Int): -2147483648<=zbb n/\zbb n<2147483648:=by
 unfold zbb;split<;>omega
theorem znm(n:Int)(h0: -9223372036854775808<=n)(h1:n<9223372036854775808):IntKind.u64.wrap n=wideI n:=by
 rw[IntKind.wrap_u64];unfold wideI;split<;>omega
theorem zpW(n:Int)(h0: -9223372036854775808<=n)(h1:n<9223372036854775808):0<=wideI n/\wideI n<18446744073709551616:=by
 unfold wideI;split<;>omega
def zfe:Nat->Nat->List UInt8
 |0,_=>[]
 |m+1,x=>(x % 256).toUInt8::zfe m (x / 256)
theorem zdv:∀(k x:Nat),(zfe k x).length=k
 |0,_=>rfl
 |k+1,x=>by simp[zfe,zdv k]
theorem zhs(k:Nat):2^(8*k)=256^k:=by rw[Nat.pow_mul]
def wordN:List UInt8->Nat
 |[]=>0
 |b::r=>b.toNat+256*wordN r
theorem zcQ:∀l:List UInt8,wordN l<256^l.length
 |[]=>by simp[wordN]
 |b::r=>by
  have:=zcQ r;have:=b.toNat_lt;rw[wordN,List.length_cons,Nat.pow_succ];omega
theorem zfY:∀(l:List UInt8)(b:UInt8),wordN (l++[b])=wordN l+b.toNat*256^l.length
 |[],b=>by simp[wordN]
 |a::r,b=>by
  rw[List.cons_append,wordN,zfY r b,wordN,List.length_cons,Nat.pow_succ,Nat.mul_add,Nat.mul_left_comm,Nat.mul_comm (256^r.length) 256];omega
theorem zoB(y z k:Nat)(hy:y<2^k)(hz:z*2^k<18446744073709551616)(hy':y<18446744073709551616):
 bits BinOp.or IntKind.u64 (y:Int) ((z*2^k:Nat):Int)=((y+z*2^k:Nat):Int):=by
 rw[u64_or_nat _ _ hy' hz,Nat.or_comm,nat_join k _ _ (Nat.mul_mod_left _ _) hy,Nat.add_comm]
theorem zqW(l:List UInt8)(k:Nat)(x:UInt8)(hl:l.length=k)(hk:k<8):
 bits BinOp.or IntKind.u64 (wordN l:Int) (IntKind.u64.wrap (IntKind.u64.wrap (x.toNat:Int)*2^(8*k)))=((wordN (l++[x]):Nat):Int):=by
 have hx:=x.toNat_lt;have hw1:=zcQ l;rw[hl]at hw1;have hk7:256^k<=256^7:=Nat.pow_le_pow_right (by decide) (by omega)
 have hpz:x.toNat*256^k<18446744073709551616:=
  Nat.lt_of_le_of_lt (Nat.mul_le_mul (show x.toNat<=255 by omega) hk7) (by decide)
 have hor:=zoB (wordN l) x.toNat (8*k) (by rw[zhs];exact hw1) (by rw[zhs];exact hpz) (Nat.lt_of_lt_of_le hw1 (Nat.le_trans hk7 (by decide)))
 have e:IntKind.u64.wrap (IntKind.u64.wrap (x.toNat:Int)*2^(8*k))=((x.toNat*2^(8*k):Nat):Int):=by
  have hp:(2:Int)^(8*k)=((256^k:Nat):Int):=by rw[<-zhs];simp
  have hxm:(x.toNat:Int) % 18446744073709551616=(x.toNat:Int):=by omega
  rw[IntKind.wrap_u64,IntKind.wrap_u64,hp,zhs,hxm,<-Int.natCast_mul,Int.emod_eq_of_lt (by omega) (by omega)]
 rw[e,hor,zfY,hl,zhs]
theorem zrN(x y:Int)(h0:0<=x)(h1:x<2147483648)(h2:0<=y)(h3:y<8):bits BinOp.or IntKind.u64 (x*8) y=8*x+y:=by
 obtain⟨a,rfl⟩:=Int.eq_ofNat_of_zero_le h0;obtain⟨b,rfl⟩:=Int.eq_ofNat_of_zero_le h2;have h:=zoB b a 3 (by omega) (by omega) (by omega);rw[show((a:Int)*8)=((a*2^3:Nat):Int)by omega,u64_or_nat _ _ (by omega) (by omega),Nat.or_comm,<-u64_or_nat _ _ (by omega) (by omega),h];omega
theorem zaC{α:Type}(l:List α)(k:Nat)(b:α)(h:l[k]?=some b):l.take (k+1)=l.take k++[b]:=by
 rw[List.take_add_one,h];rfl
def wordV:List UInt8->Nat
 |[]=>0
 |b::r=>b.toNat % 128+128*wordV r
theorem zjf:∀l:List UInt8,wordV l<128^l.length
 |[]=>by simp[wordV]
 |b::r=>by
  have:=zjf r;rw[wordV,List.length_cons,Nat.pow_succ];omega
theorem zfZ:∀(l:List UInt8)(b:UInt8),wordV (l++[b])=wordV l+b.toNat % 128*128^l.length
 |[],b=>by simp[wordV]
 |a::r,b=>by
  rw[List.cons_append,wordV,zfZ r b,wordV,List.length_cons,Nat.pow_succ,Nat.mul_add,Nat.mul_left_comm,Nat.mul_comm (128^r.length) 128];omega
def readI:Nat->List UInt8->Nat×Nat×Nat
 |_,[]=>(0,0,3)
 |i,b::r=>
  if i=9/\1<b.toNat then(0,0,4)
  else if b.toNat<128 then(b.toNat,1,0)
  else if(readI (i+1) r).2.2=0 then(b.toNat % 128+128*(readI (i+1) r).1,(readI (i+1) r).2.1+1,0)
  else(0,0,(readI (i+1) r).2.2)
def readV(bs:List UInt8):Nat×Nat×Nat:=readI 0 bs
def Cont(bs:List UInt8)(k:Nat):Prop:=∀j,j<k->∃x,bs[j]?=some x/\128<=x.toNat
theorem Cont.zero(bs:List UInt8):Cont bs 0:=fun j h=>absurd h (Nat.not_lt_zero j)
variable{k:Nat}{bs:List UInt8}
theorem Cont.succ{x:UInt8}(h:Cont bs k)(hx:bs[k]?=some x)(hb:128<=x.toNat):Cont bs (k+1):=by
 intro j hj;by_cases e:j=k
 . subst e;exact⟨x,hx,hb⟩
 . exact h j (by omega)
theorem Cont.head{b:UInt8}{r:List UInt8}(h:Cont (b::r) (k+1)):128<=b.toNat/\Cont r k:=by
 constructor
 . obtain⟨x,hx,hb⟩:=h 0 (by omega)
   simp at hx;subst hx;exact hb
 . intro j hj
   obtain⟨x,hx,hb⟩:=h (j+1) (by omega);exact⟨x,by simpa using hx,hb⟩
theorem Cont.le(h:Cont bs k):k<=bs.length:=by
 rcases Nat.lt_or_ge bs.length k with hlt|hge
 . obtain⟨x,hx,_⟩:=h bs.length hlt
   simp at hx
 . exact hge
theorem ziy:∀(k i:Nat)(bs:List UInt8)(c:UInt8),Cont bs k->i+k=9->bs[k]?=some c->1<c.toNat->readI i bs=(0,0,4)
 |0,i,bs,c,_,hi,hc,h1=>by
  match bs,hc with
  |b::r,hc=>simp at hc;subst hc;rw[readI,if_pos ⟨by omega,h1⟩]
 |k+1,i,bs,c,h,hi,hc,h1=>by
  match bs,hc,h with
  |b::r,hc,h=>
   have hh:=h.head;have ih:=ziy k (i+1) r c hh.2 (by omega) (by simpa using hc) h1;rw[readI,if_neg (by omega),if_neg (by omega),ih,if_neg (by decide)]
theorem zht:∀(k i:Nat)(bs:List UInt8),Cont bs k->i+k<=9->bs.length=k->readI i bs=(0,0,3)
 |0,i,bs,_,_,hl=>by
  have:bs=[]:=List.eq_nil_of_length_eq_zero hl;subst this;rfl
 |k+1,i,bs,h,hi,hl=>by
  match bs,hl,h with
  |b::r,hl,h=>
   have hh:=h.head;have ih:=zht k (i+1) r hh.2 (by omega) (by simpa using hl);rw[readI,if_neg (by omega),if_neg (by omega),ih,if_neg (by decide)]
theorem ziz:∀(k i:Nat)(bs:List UInt8)(c:UInt8),Cont bs k->i+k<=9->bs[k]?=some c->c.toNat<128->(i+k=9->c.toNat<=1)->
 readI i bs=(wordV (bs.take (k+1)),k+1,0)
 |0,i,bs,c,_,hi,hc,h1,h9=>by
  match bs,hc with
  |b::r,hc=>
   simp at hc;subst hc;rw[readI,if_neg (by omega),if_pos h1];simp[wordV];omega
 |k+1,i,bs,c,h,hi,hc,h1,h9=>by
  match bs,hc,h with
  |b::r,hc,h=>
   have hh:=h.head;have ih:=ziz k (i+1) r c hh.2 (by omega) (by simpa using hc) h1 (fun e=>h9 (by omega));rw[readI,if_neg (by omega),if_neg (by omega),ih,if_pos rfl,List.take_succ_cons,wordV]
variable{c:UInt8}
theorem zdC(h:Cont bs 9)(hc:bs[9]?=some c)(h1:1<c.toNat):readV bs=(0,0,4):=ziy 9 0 bs c h rfl hc h1
theorem zdP(h:Cont bs k)(hk:k<=9)(hl:bs.length=k):readV bs=(0,0,3):=zht k 0 bs h (by omega) hl
theorem zcX(h:Cont bs k)(hk:k<=9)(hc:bs[k]?=some c)(h1:c.toNat<128)(h9:k=9->c.toNat<=1):
 readV bs=(wordV (bs.take (k+1)),k+1,0):=ziz k 0 bs c h (by omega) hc h1 (fun e=>h9 (by omega))
theorem zff(bs:List UInt8):readV bs=(0,0,4)\/readV bs=(0,0,3)\/
 ∃k c,Cont bs k/\k<=9/\bs[k]?=some c/\c.toNat<128/\(k=9->c.toNat<=1)/\readV bs=(wordV (bs.take (k+1)),k+1,0):=by
 have go:∀m k,m+k=9->Cont bs k->readV bs=(0,0,4)\/readV bs=(0,0,3)\/
  ∃k c,Cont bs k/\k<=9/\bs[k]?=some c/\c.toNat<128/\(k=9->c.toNat<=1)/\readV bs=(wordV (bs.take (k+1)),k+1,0):=by
  intro m
  induction m with
  |zero=>
   intro k hk h;obtain rfl:k=9:=by omega
   rcases hx:bs[9]? with _|c
   . have:=h.le
     have hl:bs.length=9:=by
      have:=List.getElem?_eq_none_iff.1 hx;omega
     exact .inr (.inl (zdP h (Nat.le_refl _) hl))
   . by_cases h1:1<c.toNat
     . exact .inl (zdC h hx h1)
     . exact .inr (.inr ⟨9,c,h,Nat.le_refl _,hx,by omega,fun _=>by omega,zcX h (Nat.le_refl _) hx (by omega) (fun _=>by omega)⟩)
  |succ m ih=>
   intro k hk h;rcases hx:bs[k]? with _|c
   . have:=h.le
     have hl:bs.length=k:=by
      have:=List.getElem?_eq_none_iff.1 hx;omega
     exact .inr (.inl (zdP h (by omega) hl))
   . by_cases h1:c.toNat<128
     . exact .inr (.inr ⟨k,c,h,by omega,hx,h1,fun _=>by omega,zcX h (by omega) hx h1 (fun _=>by omega)⟩)
     . exact ih (k+1) (by omega) (h.succ hx (by omega))
 exact go 9 0 rfl (Cont.zero bs)
theorem zfx(hk:k<=9)(hc:bs[k]?=some c)(h9:k=9->c.toNat<=1):wordV (bs.take (k+1))<18446744073709551616:=by
 have hl:(bs.take k).length=k:=by
  have:=(List.getElem?_eq_some_iff.1 hc).1;rw[List.length_take];omega
 have h1:=zjf (bs.take k);rw[zaC bs k c hc,zfZ,hl];rw[hl]at h1;by_cases e:k=9
 . subst e
   have:=h9 rfl;have:c.toNat % 128*128^9<=1*128^9:=Nat.mul_le_mul (by omega) (Nat.le_refl _);have e1:(128:Nat)^9=9223372036854775808:=by decide
   rw[e1]at*;omega
 . have h2:128^k<=128^8:=Nat.pow_le_pow_right (by decide) (by omega)
   have h3:c.toNat % 128*128^k<=127*128^8:=Nat.mul_le_mul (by omega) h2;have e1:(128:Nat)^8=72057594037927936:=by decide
   rw[e1]at*;omega
theorem zaP(bs:List UInt8):(readV bs).1<18446744073709551616/\(readV bs).2.1<=bs.length/\(readV bs).2.1<=10/\(readV bs).2.2<=4/\
 ((readV bs).2.2=0->1<=(readV bs).2.1)/\((readV bs).2.2≠0->(readV bs).1=0/\(readV bs).2.1=0):=by
 rcases zff bs with h|h|⟨k,c,hC,hk,hc,h1,h9,h⟩
 . rw[h];simp
 . rw[h];simp
 . rw[h]
   have:=(List.getElem?_eq_some_iff.1 hc).1;refine⟨zfx hk hc h9,by show k+1<=_;omega,by show k+1<=_;omega,by simp,fun _=>by show 1<=k+1;omega,fun h=>absurd rfl h⟩
theorem zfy:∀(l:List UInt8)(j:Nat),wordV (l.drop j)<=wordV l
 |l,0=>Nat.le_refl _
 |[],j+1=>Nat.le_refl _
 |b::r,j+1=>by
  have:=zfy r j;rw[List.drop_succ_cons,wordV];omega
theorem znn(l:List UInt8)(j:Nat)(x:UInt8)(h:l[j]?=some x):wordV (l.drop j)=x.toNat % 128+128*wordV (l.drop (j+1)):=by
 have hj:=(List.getElem?_eq_some_iff.1 h).1;rw[List.drop_eq_getElem_cons hj,wordV];have:l[j]=x:=by rw[List.getElem?_eq_getElem hj]at h;simpa using h
 rw[this]
theorem zrO(x:UInt8):bits BinOp.and IntKind.u8 (x.toNat:Int) 127=((x.toNat % 128:Nat):Int):=by
 have h:=x.toNat_lt;rw[u8_and _ 127 (by omega) (by omega) (by decide) (by decide)];have e:=nat_mask7 x.toNat;rw[Int.toNat_natCast,show((127:Int)).toNat=127 from rfl,e]
theorem zhu(k:Nat):2^(7*k)=128^k:=by rw[Nat.pow_mul]
theorem zqX(l:List UInt8)(k:Nat)(x:UInt8)(hl:l.length=k)(hk:k<=9)(h9:k=9->x.toNat<=1):
 bits BinOp.or IntKind.u64 (wordV l:Int) (IntKind.u64.wrap (((x.toNat % 128:Nat):Int)*2^(7*k)))=((wordV (l++[x]):Nat):Int):=by
 have hx:=x.toNat_lt;have hw1:=zjf l;rw[hl]at hw1
 have hp:x.toNat % 128*128^k<18446744073709551616:=by
  by_cases e:k=9
  . subst e
    have:=h9 rfl;have h2:x.toNat % 128*128^9<=1*128^9:=Nat.mul_le_mul (by omega) (Nat.le_refl _);exact Nat.lt_of_le_of_lt h2 (by decide)
  . have h2:128^k<=128^8:=Nat.pow_le_pow_right (by decide) (by omega)
    exact Nat.lt_of_le_of_lt (Nat.mul_le_mul (show x.toNat % 128<=127 by omega) h2) (by decide)
 have h64:wordV l<18446744073709551616:=Nat.lt_of_lt_of_le hw1 (Nat.le_trans (Nat.pow_le_pow_right (by decide) hk) (by decide));have hor:=zoB (wordV l) (x.toNat % 128) (7*k) (by rw[zhu];exact hw1) (by rw[zhu];exact hp) h64
 have e:IntKind.u64.wrap (((x.toNat % 128:Nat):Int)*2^(7*k))=((x.toNat % 128*2^(7*k):Nat):Int):=by
  have hq:(2:Int)^(7*k)=((128^k:Nat):Int):=by rw[<-zhu];simp
  rw[IntKind.wrap_u64,hq,zhu,<-Int.natCast_mul,Int.emod_eq_of_lt (by omega) (by omega)]
 rw[e,hor,zfZ,hl,zhu]
theorem zpX(l:List UInt8)(k:Nat)(x:UInt8)(hl:l.length=k)(hk:k<=9)(h9:k=9->x.toNat<=1):
 bits BinOp.or IntKind.u64 (wordV l:Int) (IntKind.u64.wrap (IntKind.u64.wrap (bits BinOp.and IntKind.u8 (x.toNat:Int) 127)*2^(7*k)))=((wordV (l++[x]):Nat):Int):=by
 have hx:=x.toNat_lt;have e:IntKind.u64.wrap ((x.toNat % 128:Nat):Int)=((x.toNat % 128:Nat):Int):=by rw[IntKind.wrap_u64];omega
 rw[zrO,e,zqX l k x hl hk h9]
theorem or128(x:Nat):bits BinOp.or IntKind.u8 ((x:Int) % 256) 128=((x % 128+128:Nat):Int):=by
 have h:=u8_or128_any ((x:Int) % 256) (by omega) (by omega);rw[h];omega
theorem zjg:∀(x i:Nat)(more:List UInt8),i<=9->x<2^(64 - 7*i)->readI i (uvarint x++more)=(x,(uvarint x).length,0):=by
 intro x
 induction x using Nat.strongRecOn with
 |_ x ih=>
  intro i more hi hx;by_cases h:x<128
  . rw[uvarint_small h,List.singleton_append,readI,toNat_u8' x (by omega),if_neg,if_pos h]
    . rfl
    . rintro⟨rfl,h1⟩
      simp at hx;omega
  . have hi8:i<=8:=by
     rcases Nat.lt_or_ge i 9 with h|h
     . omega
     . obtain rfl:i=9:=by omega
       simp at hx;omega
    have hb:(x % 128+128).toUInt8.toNat=x % 128+128:=toNat_u8' _ (by omega)
    have hx':x / 128<2^(64 - 7*(i+1)):=by
     have:2^(64 - 7*i)=2^(64 - 7*(i+1))*128:=by
      rw[show 64 - 7*i=(64 - 7*(i+1))+7 by omega,Nat.pow_add]
     rw[this]at hx;exact Nat.div_lt_of_lt_mul (by rw[Nat.mul_comm];exact hx)
    have:=ih (x / 128) (by omega) (i+1) more (by omega) hx';rw[uvarint_big (by omega),List.cons_append,readI,hb,if_neg (by omega),if_neg (by omega),this,if_pos rfl];simp only[List.length_cons];congr 1;omega
where toNat_u8' (x:Nat) (h:x<256):x.toUInt8.toNat=x:=by show x % 256=x;omega
theorem zch(x:Nat)(more:List UInt8)(h:x<18446744073709551616):readV (uvarint x++more)=(x,(uvarint x).length,0):=
 zjg x 0 more (by omega) (by simpa using h)
def zaw(number wire:Int):Bool:=decide (1<=number/\number<=536870911/\(wire=0\/wire=1\/wire=2\/wire=5))
def tagV(bs:List UInt8):Nat×Nat×Nat×Nat:=
 if(readV bs).2.2≠0 then(0,0,0,(readV bs).2.2)
 else if zaw ((readV bs).1 / 8:Nat) ((readV bs).1 % 8:Nat)=true then((readV bs).1 / 8,(readV bs).1 % 8,(readV bs).2.1,0)
 else(0,0,0,5)
theorem zhv(bs:List UInt8):(tagV bs).2.2.2<=5/\(tagV bs).2.2.1<=bs.length/\(tagV bs).2.2.1<=10/\(tagV bs).1<=536870911/\(tagV bs).2.1<=5/\
 ((tagV bs).2.2.2=0->1<=(tagV bs).2.2.1/\zaw (tagV bs).1 (tagV bs).2.1=true):=by
 have h:=zaP bs;unfold tagV;split
 . rename_i hc
   refine⟨by show(readV bs).2.2<=5;omega,by simp,by simp,by simp,by simp,fun h0=>absurd h0 hc⟩
 . rename_i hc
   have hc:(readV bs).2.2=0:=by simpa using hc
   split
   . rename_i hr
     have hr':=hr;unfold zaw at hr';have hd:=of_decide_eq_true hr';refine⟨by simp,h.2.1,h.2.2.1,?_,?_,fun _=>⟨h.2.2.2.2.1 hc,hr⟩⟩
     . show(readV bs).1 / 8<=_;omega
     . show(readV bs).1 % 8<=_;omega
   . simp
theorem and7(x:Nat)(h:x<18446744073709551616):bits BinOp.and IntKind.u64 (x:Int) 7=(x:Int) % 8:=by
 rw[u64_and _ 7 (by omega) (by omega) (by decide) (by decide)];have e:=nat_mask3 x;rw[Int.toNat_natCast,show((7:Int)).toNat=7 from rfl,e];omega
def sizeV(wire:Nat)(bs:List UInt8):Nat×Nat×Nat:=
 if wire=0 then(0,(readV bs).2.1,(readV bs).2.2)
 else if wire=1 then(0,8,0)
 else if wire=5 then(0,4,0)
 else((readV bs).2.1,(readV bs).1,(readV bs).2.2)
theorem zmp(wire:Nat)(bs:List UInt8):(sizeV wire bs).1<=bs.length/\(sizeV wire bs).1<=10/\(sizeV wire bs).2.1<18446744073709551616/\(sizeV wire bs).2.2<=4:=by
 have h:=zaP bs;unfold sizeV;split
 . exact⟨by simp,by simp,by simp only;omega,h.2.2.2.1⟩
 . split
   . simp
   . split
     . simp
     . exact⟨h.2.1,h.2.2.1,h.1,h.2.2.2.1⟩
structure Rec where
 n:Nat
 w:Nat
 f:Nat
 a:Nat
 t:Nat
 deriving DecidableEq
def Rec.zero:Rec:=⟨0,0,0,0,0⟩
def headV(bs:List UInt8):Nat×Nat×Nat×Nat×Nat:=
 if(tagV bs).2.2.2≠0 then(0,0,0,0,(tagV bs).2.2.2)
 else if(sizeV (tagV bs).2.1 (bs.drop (tagV bs).2.2.1)).2.2≠0 then(0,0,0,0,(sizeV (tagV bs).2.1 (bs.drop (tagV bs).2.2.1)).2.2)
 else if bs.length - ((tagV bs).2.2.1+(sizeV (tagV bs).2.1 (bs.drop (tagV bs).2.2.1)).1)<(sizeV (tagV bs).2.1 (bs.drop (tagV bs).2.2.1)).2.1 then(0,0,0,0,3)
 else((tagV bs).1,(tagV bs).2.1,(tagV bs).2.2.1+(sizeV (tagV bs).2.1 (bs.drop (tagV bs).2.2.1)).1,(tagV bs).2.2.1+(sizeV (tagV bs).2.1 (bs.drop (tagV bs).2.2.1)).1+(sizeV (tagV bs).2.1 (bs.drop (tagV bs).2.2.1)).2.1,0)
variable{T V N C:Nat}
theorem zhw(h:tagV bs=(T,V,N,C))(hC:C≠0):headV bs=(0,0,0,0,C):=by
 unfold headV;rw[h];rw[if_pos hC]
variable{a g:Nat}
theorem zeA(h:tagV bs=(T,V,N,0))(hs:sizeV V (bs.drop N)=(a,g,C))(hC:C≠0):headV bs=(0,0,0,0,C):=by
 unfold headV;rw[h];simp only;rw[hs,if_neg (by simp),if_pos hC]
theorem zde(h:tagV bs=(T,V,N,0))(hs:sizeV V (bs.drop N)=(a,g,0))(hl:bs.length - (N+a)<g):headV bs=(0,0,0,0,3):=by
 unfold headV;rw[h];simp only;rw[hs,if_neg (by simp),if_neg (by simp),if_pos hl]
theorem zcz(h:tagV bs=(T,V,N,0))(hs:sizeV V (bs.drop N)=(a,g,0))(hl:¬bs.length - (N+a)<g):headV bs=(T,V,N+a,N+a+g,0):=by
 unfold headV;rw[h];simp only;rw[hs,if_neg (by simp),if_neg (by simp),if_neg hl]
def zcb(p:Nat)(h:Nat×Nat×Nat×Nat×Nat):Rec×Nat:=if h.2.2.2.2=0 then(⟨h.1,h.2.1,p,p+h.2.2.1,p+h.2.2.2.1⟩,0)else(Rec.zero,h.2.2.2.2)
def nextV(bs:List UInt8)(p:Nat):Rec×Nat:=zcb p (headV (bs.drop p))
def nextI(bs:List UInt8)(p:Int):Rec×Nat:=if p<0\/(bs.length:Int)<=p then(Rec.zero,2)else nextV bs p.toNat
theorem zdf(bs:List UInt8):(∃C,headV bs=(0,0,0,0,C)/\C≠0/\C<=5)\/
 ∃T V N a g,tagV bs=(T,V,N,0)/\sizeV V (bs.drop N)=(a,g,0)/\N+a+g<=bs.length/\1<=N/\headV bs=(T,V,N+a,N+a+g,0):=by
 rcases ht:tagV bs with⟨T,V,N,C⟩
 have tb:=zhv bs;rw[ht]at tb;simp only at tb;by_cases hC:C=0
 . subst hC
   rcases hs:sizeV V (bs.drop N)with⟨a,g,D⟩
   have sb:=zmp V (bs.drop N);rw[hs,List.length_drop]at sb;simp only at sb;by_cases hD:D=0
   . subst hD
     by_cases hl:bs.length - (N+a)<g
     . exact .inl ⟨3,zde ht hs hl,by omega,by omega⟩
     . refine .inr ⟨T,V,N,a,g,rfl,hs,by omega,?_,zcz ht hs hl⟩
       have:=tb.2.2.2.2.2 rfl;omega
   . exact .inl ⟨D,zeA ht hs hD,hD,by omega⟩
 . exact .inl ⟨C,zhw ht hC,hC,tb.1⟩
variable{t:Nat}
theorem zmq(h:headV bs=(T,V,a,t,0)):1<=a/\a<=t/\t<=bs.length:=by
 rcases zdf bs with⟨C,h1,h2,_⟩|⟨T',V',N,a',g,_,_,h3,h4,h5⟩
 . rw[h]at h1;simp only[Prod.mk.injEq]at h1;exact absurd h1.2.2.2.2.symm h2
 . rw[h]at h5;simp only[Prod.mk.injEq]at h5;omega
theorem zpY(bs:List UInt8):(headV bs).2.2.2.2<=5:=by
 rcases zdf bs with⟨C,h1,_,h2⟩|⟨T',V',N,a',g,_,_,h3,h4,h5⟩
 . rw[h1];exact h2
 . rw[h5];simp
variable{r:Rec}{p:Nat}
theorem zci(h:nextV bs p=(r,0)):headV (bs.drop p)=(r.n,r.w,r.a - p,r.t - p,0)/\r.f=p/\p<r.a/\r.a<=r.t/\r.t<=bs.length:=by
 unfold nextV zcb at h;by_cases hc:(headV (bs.drop p)).2.2.2.2=0
 . rw[if_pos hc]at h
   simp only[Prod.mk.injEq,and_true]at h;rcases hh:headV (bs.drop p)with⟨T,V,a,t,C⟩
   rw[hh]at h hc;simp only at h hc;subst hc;have hb:=zmq hh;rw[List.length_drop]at hb;subst h;simp only;refine⟨by simp,trivial,by omega,by omega,by omega⟩
 . rw[if_neg hc]at h
   simp only[Prod.mk.injEq]at h;exact absurd h.2 hc
theorem zmr(bs:List UInt8)(p:Nat):(nextV bs p).2<=5:=by
 unfold nextV zcb;have:=zpY (bs.drop p);split
 . simp
 . exact this
theorem Cont.append(h:Cont bs k)(more:List UInt8):Cont (bs++more) k:=fun j hj=>by
 obtain⟨x,hx,hb⟩:=h j hj;exact⟨x,by rw[List.getElem?_append_left (List.getElem?_eq_some_iff.1 hx).1];exact hx,hb⟩
theorem Cont.taken{m:Nat}(h:Cont bs k)(hm:k<=m):Cont (bs.take m) k:=fun j hj=>by
 obtain⟨x,hx,hb⟩:=h j hj;exact⟨x,by rw[List.getElem?_take_of_lt (by omega)];exact hx,hb⟩
variable{W:Nat}
theorem zdo(h:readV bs=(W,N,0))(more:List UInt8):readV (bs++more)=(W,N,0):=by
 rcases zff bs with h1|h1|⟨k,c,hC,hk,hc,h128,h9,h1⟩
 . rw[h1]at h;cases h
 . rw[h1]at h;cases h
 . have hlt:=(List.getElem?_eq_some_iff.1 hc).1
   have h2:=zcX (bs:=bs++more) (hC.append more) hk (by rw[List.getElem?_append_left hlt];exact hc) h128 h9;rw[h2,<-h,h1,List.take_append_of_le_length (by omega)]
theorem zno(h:readV bs=(W,N,0)):readV (bs.take N)=(W,N,0):=by
 rcases zff bs with h1|h1|⟨k,c,hC,hk,hc,h128,h9,h1⟩
 . rw[h1]at h;cases h
 . rw[h1]at h;cases h
 . rw[h1]at h
   simp only[Prod.mk.injEq,and_true]at h;obtain⟨rfl,rfl⟩:=h;have h2:=zcX (bs:=bs.take (k+1)) (hC.taken (by omega)) hk (by rw[List.getElem?_take_of_lt (by omega)];exact hc) h128 h9;rw[h2,List.take_take,Nat.min_self]
theorem zjh(h:tagV bs=(T,V,N,0)):∃W,readV bs=(W,N,0)/\W / 8=T/\W % 8=V/\zaw (T:Int) (V:Int)=true:=by
 rcases hv:readV bs with⟨W,M,C⟩
 unfold tagV at h;rw[hv]at h;simp only at h;by_cases hC:C=0
 . subst hC
   rw[if_neg (by simp)]at h;by_cases hr:zaw ((W / 8:Nat):Int) ((W % 8:Nat):Int)=true
   . rw[if_pos hr]at h
     simp only[Prod.mk.injEq,and_true]at h;obtain⟨rfl,rfl,rfl⟩:=h;exact⟨W,rfl,rfl,rfl,hr⟩
   . rw[if_neg hr]at h
     simp at h
 . rw[if_pos hC]at h
   simp only[Prod.mk.injEq]at h;exact absurd h.2.2.2 hC
theorem zji(h:readV bs=(W,N,0))(hr:zaw ((W / 8:Nat):Int) ((W % 8:Nat):Int)=true):tagV bs=(W / 8,W % 8,N,0):=by
 unfold tagV;rw[h];simp only;rw[if_neg (by simp),if_pos hr]
theorem zhx(h:tagV bs=(T,V,N,0))(more:List UInt8):tagV (bs++more)=(T,V,N,0):=by
 obtain⟨W,hv,rfl,rfl,hr⟩:=zjh h;exact zji (zdo hv more) hr
theorem zjW(h:sizeV V bs=(a,g,0))(more:List UInt8):sizeV V (bs++more)=(a,g,0):=by
 have key:(readV bs).2.2=0->readV (bs++more)=readV bs:=by
  intro h0;rcases hv:readV bs with⟨W,N,C⟩
  rw[hv]at h0;simp only at h0;subst h0;exact zdo hv more
 unfold sizeV at h⊢;by_cases e0:V=0
 . rw[if_pos e0]at h⊢
   rw[key (by simpa using congrArg (fun x=>x.2.2) h)];exact h
 . rw[if_neg e0]at h⊢
   by_cases e1:V=1
   . rw[if_pos e1]at h⊢;exact h
   . rw[if_neg e1]at h⊢
     by_cases e5:V=5
     . rw[if_pos e5]at h⊢;exact h
     . rw[if_neg e5]at h⊢
       rw[key (by simpa using congrArg (fun x=>x.2.2) h)];exact h
theorem zgt(h:headV bs=(T,V,a,t,0))(more:List UInt8):headV (bs++more)=(T,V,a,t,0):=by
 rcases zdf bs with⟨C,h1,h2,_⟩|⟨T',V',N,a',g,h1,h2,h3,h4,h5⟩
 . rw[h1]at h;simp only[Prod.mk.injEq]at h;exact absurd h.2.2.2.2 h2
 . rw[h5]at h
   rw[<-h];have hN:N<=bs.length:=by omega
   exact zcz (zhx h1 more) (by rw[List.drop_append_of_le_length hN];exact zjW h2 more) (by rw[List.length_append];omega)
def Rec.shift(k:Nat)(r:Rec):Rec:=⟨r.n,r.w,r.f+k,r.a+k,r.t+k⟩
theorem znp{a:List UInt8}(hp:p<a.length)(h:nextV a p=(r,0))(b:List UInt8):nextV (a++b) p=(r,0):=by
 obtain⟨h1,hf,h2⟩:=zci h;have h3:=zgt h1 b;rw[<-List.drop_append_of_le_length (by omega)]at h3;unfold nextV;rw[h3];obtain⟨rn,rw_,rf,ra,rt⟩:=r;simp only at h2 hf;simp[zcb];omega
theorem zlf(a b:List UInt8)(q:Nat):nextV (a++b) (a.length+q)=(if(nextV b q).2=0 then(nextV b q).1.shift a.length else Rec.zero,(nextV b q).2):=by
 unfold nextV;have:(a++b).drop (a.length+q)=b.drop q:=by rw[List.drop_append,List.drop_of_length_le (by omega)];simp
 rw[this];unfold zcb;by_cases h:(headV (b.drop q)).2.2.2.2=0
 . simp only[if_pos h,if_true,Rec.shift]
   congr 2<;>omega
 . simp only[if_neg h]
end Go.Proofs.YtpicpebolghcfaaGreatDoor
namespace Go.Proofs.YtpicpebolghcfaaGreatDoor
open Go.RowKit
def formL:List (Int×ByteArray×Int×Int):=[(1,⟨#[105,110,116,51,50]⟩,0,32),(2,⟨#[105,110,116,54,52]⟩,0,64),(3,⟨#[117,105,110,116,51,50]⟩,0,32),(4,⟨#[117,105,110,116,54,52]⟩,0,64),(5,⟨#[115,105,110,116,51,50]⟩,0,32),(6,⟨#[115,105,110,116,54,52]⟩,0,64),(7,⟨#[98,111,111,108]⟩,0,1),(8,⟨#[101,110,117,109]⟩,0,32),(9,⟨#[102,105,120,101,100,51,50]⟩,5,32),(10,⟨#[115,102,105,120,101,100,51,50]⟩,5,32),(11,⟨#[102,108,111,97,116]⟩,5,32),(12,⟨#[102,105,120,101,100,54,52]⟩,1,64),(13,⟨#[115,102,105,120,101,100,54,52]⟩,1,64),(14,⟨#[100,111,117,98,108,101]⟩,1,64),(15,⟨#[115,116,114,105,110,103]⟩,2,0),(16,⟨#[98,121,116,101,115]⟩,2,0),(17,⟨#[109,101,115,115,97,103,101]⟩,2,0)]
def formV(p:ByteArray×Int×Int):Value:=.agg #[.string p.1,.int .i64 p.2.1,.int .i64 p.2.2]
def ziA:List (Int×Value):=formL.map fun p=>(p.1,formV p.2)
def zhy(k:Int):ByteArray×Int×Int:=((formL.find? fun p=>decide (k=p.1)).map (·.2)).getD (⟨#[]⟩,0,0)
theorem zjj(k:Int):∀(l:List (Int×ByteArray×Int×Int)),valI k (l.map fun p=>(p.1,formV p.2))=((l.find? fun p=>decide (k=p.1)).map (·.2)).map formV
 |[]=>rfl
 |p::r=>by
  rw[List.map_cons,valI,List.find?_cons];by_cases h:k=p.1
  . rw[if_pos h,decide_eq_true h];rfl
  . rw[if_neg h,decide_eq_false h];exact zjj k r
theorem znq(k:Int):(valI k ziA).getD (formV (⟨#[]⟩,0,0))=formV (zhy k):=by
 unfold ziA zhy;rw[zjj];generalize (formL.find? fun p=>decide (k=p.1)).map (·.2)=o;cases o<;>rfl
def kindB(k:Int):Bool:=decide (1<=k/\k<=17)
variable{k:Int}
theorem zeB(h:1<=k/\k<=17):k=1\/k=2\/k=3\/k=4\/k=5\/k=6\/k=7\/k=8\/k=9\/k=10\/k=11\/k=12\/k=13\/k=14\/k=15\/k=16\/k=17:=by omega
theorem zoC(h:¬(1<=k/\k<=17)):(formL.find? fun p=>decide (k=p.1))=none:=by
 rw[List.find?_eq_none];intro p hp
 have:1<=p.1/\p.1<=17:=by
  have hall:∀p∈formL,1<=p.1/\p.1<=17:=by decide
  exact hall p hp
 simp only[decide_eq_true_eq];omega
theorem zoD(k:Int):(valI k ziA).isSome=kindB k:=by
 unfold ziA;rw[zjj,Option.isSome_map,Option.isSome_map];by_cases h:1<=k/\k<=17
 . have e:kindB k=true:=decide_eq_true h
   rw[e];rcases zeB h with h|h|h|h|h|h|h|h|h|h|h|h|h|h|h|h|h<;>subst h<;>decide
 . have e:kindB k=false:=decide_eq_false h
   rw[zoC h,e];rfl
def wireI(k:Int):Int:=if k<=8 then 0 else if k<=11 then 5 else if k<=14 then 1 else 2
theorem zlg(h:1<=k/\k<=17):(zhy k).2.1=wireI k:=by
 rcases zeB h with h|h|h|h|h|h|h|h|h|h|h|h|h|h|h|h|h<;>subst h<;>decide
def zaf(k:Int):Bool:=decide (1<=k/\k<=14)
def zaF(k:Int)(w:Nat):Nat:=
 if k=1\/k=8 then(wideI (zbb w)).toNat
 else if k=7 then(if w=0 then 0 else 1)
 else if k=3\/k=5\/k=9\/k=10\/k=11 then w % 4294967296
 else w
theorem zlh(h:1<=k/\k<=14):((zhy k).2.2=32<->(k=1\/k=3\/k=5\/k=8\/k=9\/k=10\/k=11)):=by
 rcases zeB (k:=k) ⟨h.1,by omega⟩with h|h|h|h|h|h|h|h|h|h|h|h|h|h|h|h|h<;>subst h<;>first|decide|omega
theorem zcj(w:Nat):0<=wideI (zbb w)/\wideI (zbb w)<18446744073709551616:=by
 have:=zfX w;exact zpW _ (by omega) (by omega)
theorem zfz(k:Int){w:Nat}(h:w<18446744073709551616):zaF k w<18446744073709551616:=by
 have:=zcj w;unfold zaF;split
 . omega
 . split
   . split<;>omega
   . split<;>omega
def twosI(w:Nat):Int:=if w<9223372036854775808 then(w:Int)else(w:Int) - 18446744073709551616
def zli(k:Int)(w:Nat):Int:=
 if k=1\/k=8\/k=10 then zbb w
 else if k=2\/k=13 then twosI w
 else if k=5 then zagI (w % 4294967296)
 else if k=6 then zagI w
 else 0
theorem zdg(h:zaf k=true):1<=k/\k<=14:=of_decide_eq_true h
theorem zgu{x:Nat}(hx:x<18446744073709551616):zaF k (zaF k x)=zaF k x/\zli k (zaF k x)=zli k x:=by
 have key:((wideI (zbb x)).toNat:Int)=wideI (zbb x):=by have:=zcj x;omega
 have e1:zbb ((wideI (zbb x)).toNat:Int)=zbb x:=by
  rw[key];unfold wideI zbb
  repeat' split
  all_goals omega
 unfold zaF zli;by_cases h1:k=1\/k=8
 . simp only[if_pos h1,e1]
   refine⟨trivial,?_⟩;rw[if_pos (by omega),if_pos (by omega)]
 . by_cases h7:k=7
   . subst h7
     simp only[if_neg h1];by_cases h0:x=0
     . subst h0;simp
     . simp[h0]
   . by_cases h3:k=3\/k=5\/k=9\/k=10\/k=11
     . simp only[if_neg h1,if_neg h7,if_pos h3]
       refine⟨Nat.mod_mod _ _,?_⟩;have a1:(((x % 4294967296:Nat):Nat):Int)=(x:Int) % 4294967296:=by omega
       rcases h3 with h|h|h|h|h
       . subst h;simp
       . subst h;simp[a1]
       . subst h;simp
       . subst h
         rw[if_pos (by decide),if_pos (by decide),a1];unfold zbb;split<;>split<;>omega
       . subst h;simp
     . simp only[if_neg h1,if_neg h7,if_neg h3]
       trivial
end Go.Proofs.YtpicpebolghcfaaGreatDoor
namespace Go.Proofs.YtpicpebolghcfaaGreatDoor
open Go.RowKit Go.Lib
def putS(k:Int)(w:Nat):List UInt8:=if 12<=k then zfe 8 (zaF k w)else if 9<=k then zfe 4 (zaF k w)else uvarint (zaF k w)
def readS(k:Int)(bs:List UInt8):Nat×Nat:=
 if zaf k=false then(0,2)
 else if 12<=k then(if bs.length=8 then(zaF k (wordN bs),0)else(0,12))
 else if 9<=k then(if bs.length=4 then(zaF k (wordN bs),0)else(0,12))
 else(if(readV bs).2.2=0/\(readV bs).2.1=bs.length then(zaF k (readV bs).1,0)else(0,12))
theorem zfA(k:Int)(bs:List UInt8):(readS k bs).1<18446744073709551616/\(readS k bs).2<=12:=by
 have h:=(zaP bs).1;unfold readS;split
 . simp
 . split
   . split
     . rename_i hl
       have:=zcQ bs;rw[hl]at this;exact⟨zfz k (by simpa using this),by simp⟩
     . simp
   . split
     . split
       . rename_i hl
         have:=zcQ bs;rw[hl]at this;exact⟨zfz k (Nat.lt_of_lt_of_le this (by decide)),by simp⟩
       . simp
     . split
       . exact⟨zfz k h,by simp⟩
       . simp
theorem zlj(k:Int)(bs:List UInt8):zaF k (readS k bs).1=(readS k bs).1:=by
 have h:=(zaP bs).1
 have h0:zaF k 0=0:=by
  have:=zgu (k:=k) (x:=0) (by decide);unfold zaF wideI zbb
  repeat' split
  all_goals simp_all
 have hw:∀x:Nat,x<18446744073709551616->zaF k (zaF k x)=zaF k x:=fun x hx=>(zgu hx).1
 unfold readS;split
 . exact h0
 . split
   . split
     . rename_i hl
       have:=zcQ bs;rw[hl]at this;exact hw _ (by simpa using this)
     . exact h0
   . split
     . split
       . rename_i hl
         have:=zcQ bs;rw[hl]at this;exact hw _ (Nat.lt_of_lt_of_le this (by decide))
       . exact h0
     . split
       . exact hw _ h
       . exact h0
end Go.Proofs.YtpicpebolghcfaaGreatDoor
namespace Go.Proofs.YtpicpebolghcfaaGreatDoor
open Go.RowKit
def stepN(k:Int)(bs:List UInt8):Nat×Nat:=
 if k<9 then((readV bs).2.1,(readV bs).2.2)else if k<12 then(if bs.length<4 then(0,3)else(4,0))else(if bs.length<8 then(0,3)else(8,0))
theorem zdp(k:Int)(bs:List UInt8):((stepN k bs).2=0/\1<=(stepN k bs).1/\(stepN k bs).1<=bs.length)\/((stepN k bs).2≠0/\(stepN k bs).1=0/\(stepN k bs).2<=4):=by
 unfold stepN;split
 . have h:=zaP bs
   by_cases h0:(readV bs).2.2=0
   . exact .inl ⟨h0,h.2.2.2.2.1 h0,h.2.1⟩
   . exact .inr ⟨h0,(h.2.2.2.2.2 h0).2,h.2.2.2.1⟩
 . split
   . split
     . exact .inr ⟨by simp,rfl,by simp⟩
     . exact .inl ⟨rfl,by simp,by simp only;omega⟩
   . split
     . exact .inr ⟨by simp,rfl,by simp⟩
     . exact .inl ⟨rfl,by simp,by simp only;omega⟩
def valsF(k:Int):Nat->List UInt8->List (List UInt8×Nat)
 |0,_=>[]
 |f+1,bs=>if bs=[]then[]else if(stepN k bs).2=0 then(bs.take (stepN k bs).1,0)::valsF k f (bs.drop (stepN k bs).1)else[([],(stepN k bs).2)]
theorem zeC(k:Int):∀(f g:Nat)(bs:List UInt8),bs.length<=f->bs.length<=g->valsF k f bs=valsF k g bs
 |0,0,_,_,_=>rfl
 |0,g+1,bs,h,_=>by rw[List.eq_nil_of_length_eq_zero (by omega:bs.length=0)];rfl
 |f+1,0,bs,_,h=>by rw[List.eq_nil_of_length_eq_zero (by omega:bs.length=0)];rfl
 |f+1,g+1,bs,h1,h2=>by
  unfold valsF;by_cases hb:bs=[]
  . rw[if_pos hb,if_pos hb]
  . rw[if_neg hb,if_neg hb]
    by_cases hc:(stepN k bs).2=0
    . have:=zdp k bs
      rw[if_pos hc,if_pos hc,zeC k f g _ (by rw[List.length_drop];omega) (by rw[List.length_drop];omega)]
    . rw[if_neg hc,if_neg hc]
def valsV(k:Int)(bs:List UInt8):List (List UInt8×Nat):=if zaf k=false then[([],2)]else valsF k bs.length bs
def codeV(k:Int)(bs:List UInt8):Nat:=match (valsV k bs).getLast? with
 |none=>0
 |some v=>v.2
theorem ziB(k:Int):∀(f:Nat)(bs:List UInt8)(j:Nat)(x:List UInt8×Nat),(valsF k f bs)[j]?=some x->x.2≠0->(valsF k f bs).getLast?=some x
 |0,bs,j,x,h,_=>by simp[valsF]at h
 |f+1,bs,j,x,h,hx=>by
  unfold valsF at h⊢;by_cases hb:bs=[]
  . rw[if_pos hb]at h;simp at h
  . rw[if_neg hb]at h⊢
    by_cases hc:(stepN k bs).2=0
    . rw[if_pos hc]at h⊢
      cases j with
      |zero=>simp only[List.getElem?_cons_zero,Option.some.injEq]at h;subst h;exact absurd rfl hx
      |succ j=>
       rw[List.getElem?_cons_succ]at h;have ih:=ziB k f _ j x h hx;rw[List.getLast?_cons,ih];rfl
    . rw[if_neg hc]at h⊢
      cases j with
      |zero=>simp only[List.getElem?_cons_zero,Option.some.injEq]at h;subst h;rfl
      |succ j=>simp at h
variable{bs:List UInt8}{k:Int}
theorem zeh{j:Nat}{x:List UInt8×Nat}(h:(valsV k bs)[j]?=some x)(hx:x.2≠0):codeV k bs=x.2:=by
 have hl:(valsV k bs).getLast?=some x:=by
  unfold valsV at h⊢;by_cases hk:zaf k=false
  . rw[if_pos hk]at h⊢
    cases j with
    |zero=>simp only[List.getElem?_cons_zero,Option.some.injEq]at h;subst h;rfl
    |succ j=>simp at h
  . rw[if_neg hk]at h⊢
    exact ziB k _ bs j x h hx
 unfold codeV;rw[hl]
theorem zga(h:∀(j:Nat) x,(valsV k bs)[j]?=some x->x.2=0):codeV k bs=0:=by
 unfold codeV;rcases hl:(valsV k bs).getLast? with _|x
 . rfl
 . obtain⟨j,hj⟩:=List.getElem?_of_mem (List.mem_of_getLast? hl)
   exact h j x hj
def zgv(k:Int)(bs:List UInt8):Nat:=if codeV k bs=0 then(valsV k bs).length else 0
theorem zjX(k:Int):∀(f:Nat)(bs:List UInt8),(valsF k f bs).length<=f
 |0,bs=>by simp[valsF]
 |f+1,bs=>by
  unfold valsF;split
  . simp
  . split
    . have:=zjX k f (bs.drop (stepN k bs).1);simp only[List.length_cons];omega
    . simp
theorem zhz(k:Int)(bs:List UInt8):(valsV k bs).length<=bs.length+1:=by
 unfold valsV;split
 . simp
 . have:=zjX k bs.length bs;omega
theorem zgH{g n:Nat}(hb:bs≠ [])(h:stepN k bs=(n,0)):valsF k (g+1) bs=(bs.take n,0)::valsF k g (bs.drop n):=by
 conv=>lhs;unfold valsF
 rw[if_neg hb,h,if_pos rfl]
def sumL:List (List UInt8×Nat)->Nat
 |[]=>0
 |v::l=>v.1.length+sumL l
theorem zjY(x:List UInt8×Nat):∀l,sumL (l++[x])=sumL l+x.1.length
 |[]=>by simp[sumL]
 |y::l=>by simp[sumL,zjY x l];omega
def zdh(a:Nat):List (List UInt8×Nat)->List Nat
 |[]=>[]
 |v::l=>(a+v.1.length)::zdh (a+v.1.length) l
theorem zhA(x:List UInt8×Nat):∀(l:List (List UInt8×Nat))(a:Nat),zdh a (l++[x])=zdh a l++[a+sumL l+x.1.length]
 |[],a=>by simp[zdh,sumL]
 |y::l,a=>by simp[zdh,sumL,zhA x l];omega
theorem zdD:∀(l:List (List UInt8×Nat))(a:Nat),(zdh a l).length=l.length
 |[],a=>rfl
 |y::l,a=>by simp[zdh,zdD l]
def endsV(k:Int)(bs:List UInt8):List Nat×Nat:=(if codeV k bs=0 then zdh 0 (valsV k bs)else[],codeV k bs)
structure SoFar(k:Int)(bs:List UInt8)(d:List (List UInt8×Nat))(p:Nat):Prop where
 list:valsV k bs=d++valsF k (bs.drop p).length (bs.drop p)
 fine:∀x∈d,x.2=0
 sum:p=sumL d
 len:d.length<=p
theorem SoFar.start(hk:zaf k=true)(bs:List UInt8):SoFar k bs [] 0:=
 ⟨by unfold valsV;rw[if_neg (by rw[hk];simp)];rfl,fun x h=>(by cases h),rfl,Nat.le_refl _⟩
variable{p:Nat}{d:List (List UInt8×Nat)}
theorem SoFar.ends(h:SoFar k bs d p)(hp:p=bs.length):endsV k bs=(zdh 0 d,0):=by
 have e:valsV k bs=d:=by
  rw[h.list,List.drop_of_length_le (by omega)];simp[valsF]
 have hc:codeV k bs=0:=zga (fun j x hx=>by rw[e]at hx;exact h.fine x (List.mem_of_getElem? hx));unfold endsV;rw[hc,if_pos rfl,e]
theorem SoFar.bad{k:Int}{bs:List UInt8}{d:List (List UInt8×Nat)}{p C:Nat}(h:SoFar k bs d p)(hp:p<bs.length)(hs:stepN k (bs.drop p)=(0,C))(hC:C≠0):endsV k bs=([],C):=by
 have hl:(bs.drop p).length=(bs.drop p).length - 1+1:=by rw[List.length_drop];omega
 have hne:bs.drop p≠ []:=by
  intro e;rw[e]at hl;simp at hl
 have e1:valsF k ((bs.drop p).length - 1+1) (bs.drop p)=[([],C)]:=by
  conv=>lhs;unfold valsF
  rw[if_neg hne,hs,if_neg hC]
 have e:valsV k bs=d++[([],C)]:=by rw[h.list,hl,e1]
 have hc:codeV k bs=C:=zeh (j:=d.length) (x:=([],C)) (by rw[e];simp) hC;unfold endsV;rw[hc,if_neg hC]
variable{N:Nat}
theorem SoFar.more(h:SoFar k bs d p)(hp:p<bs.length)(hs:stepN k (bs.drop p)=(N,0)):SoFar k bs (d++[((bs.drop p).take N,0)]) (p+N)/\zdh 0 (d++[((bs.drop p).take N,0)])=zdh 0 d++[p+N]:=by
 have hl:(bs.drop p).length=(bs.drop p).length - 1+1:=by rw[List.length_drop];omega
 have hne:bs.drop p≠ []:=by
  intro e;rw[e]at hl;simp at hl
 have hbd:=zdp k (bs.drop p);rw[hs]at hbd;simp only at hbd;have hN:1<=N/\N<=(bs.drop p).length:=by omega
 have ht:((bs.drop p).take N).length=N:=by rw[List.length_take];omega
 refine⟨⟨?_,fun x hx=> ?_,?_,?_⟩,?_⟩
 . rw[h.list]
   conv=>lhs;rw[hl,zgH hne hs]
   rw[List.drop_drop,List.append_assoc];congr 2;exact zeC k _ _ _ (by simp only[List.length_drop];omega) (Nat.le_refl _)
 . rcases List.mem_append.1 hx with hx|hx
   . exact h.fine x hx
   . simp only[List.mem_singleton]at hx;subst hx;rfl
 . rw[zjY,ht,<-h.sum]
 . have:=h.len
   rw[List.length_append];simp only[List.length_singleton];omega
 . rw[zhA,ht,<-h.sum]
   simp
def joinL(l:List (List UInt8×Nat)):List UInt8:=l.flatMap (·.1)
theorem ziC{k:Int}:∀(f:Nat)(bs:List UInt8),bs.length<=f->(∀x∈valsF k f bs,x.2=0)->joinL (valsF k f bs)=bs
 |0,bs,h,_=>by rw[List.eq_nil_of_length_eq_zero (by omega:bs.length=0)];rfl
 |f+1,bs,h,hf=>by
  by_cases hb:bs=[]
  . subst hb;simp[valsF,joinL]
  . rcases hs:stepN k bs with⟨N,C⟩
    have hbd:=zdp k bs;rw[hs]at hbd;simp only at hbd;by_cases hC:C=0
    . subst hC
      rw[zgH hb hs]at hf⊢;have ih:=ziC f (bs.drop N) (by rw[List.length_drop];omega) (fun x hx=>hf x (List.mem_cons_of_mem _ hx));unfold joinL at ih⊢;rw[List.flatMap_cons,ih];exact List.take_append_drop N bs
    . have e:valsF k (f+1) bs=[([],C)]:=by
       conv=>lhs;unfold valsF
       rw[if_neg hb,hs,if_neg hC]
      rw[e]at hf;exact absurd (hf _ (List.mem_singleton.2 rfl)) hC
theorem zhB(h:codeV k bs=0):∀x∈valsV k bs,x.2=0:=by
 intro x hx;obtain⟨j,hj⟩:=List.getElem?_of_mem hx;by_cases h0:x.2=0
 . exact h0
 . have:=zeh hj h0
   omega
theorem zgw(h:codeV k bs=0):zaf k=true:=by
 rcases hk:zaf k with _|_
 . have:codeV k bs=2:=zeh (j:=0) (x:=([],2)) (by unfold valsV;rw[if_pos hk];rfl) (by simp)
   omega
 . rfl
theorem zpZ(hk:zaf k=false):codeV k bs=2:=
 zeh (j:=0) (x:=([],2)) (by unfold valsV;rw[if_pos hk];rfl) (by simp)
theorem znr(h:codeV k bs=0):joinL (valsV k bs)=bs:=by
 have ha:=zhB h;unfold valsV at ha⊢;rw[if_neg (by rw[zgw h];simp)]at ha⊢;exact ziC _ bs (Nat.le_refl _) ha
theorem zhC:∀(l:List (List UInt8×Nat))(a p:Nat),p<l.length->(zdh a l)[p]?=some (a+sumL (l.take (p+1)))
 |v::l,a,0,_=>by simp[zdh,sumL]
 |v::l,a,p+1,h=>by
  simp only[List.length_cons]at h;simp only[zdh,List.getElem?_cons_succ,zhC l (a+v.1.length) p (by omega),List.take_succ_cons,sumL];rw[Nat.add_assoc]
theorem zjZ:∀(l:List (List UInt8×Nat))(p:Nat)(x:List UInt8×Nat),l[p]?=some x->((joinL l).take (sumL (l.take (p+1)))).drop (sumL (l.take p))=x.1/\sumL (l.take (p+1))=sumL (l.take p)+x.1.length/\sumL (l.take (p+1))<=(joinL l).length
 |v::l,0,x,h=>by
  simp only[List.getElem?_cons_zero,Option.some.injEq]at h;subst h;simp[joinL,sumL]
 |v::l,p+1,x,h=>by
  rw[List.getElem?_cons_succ]at h;obtain⟨h1,h2,h3⟩:=zjZ l p x h;have e:joinL (v::l)=v.1++joinL l:=rfl;simp only[List.take_succ_cons,sumL,e,List.length_append];refine⟨?_,by omega,by omega⟩;rw[List.take_length_add_append,List.drop_length_add_append];exact h1
theorem zka(h:stepN k bs=(N,0))(more:List UInt8):stepN k (bs++more)=(N,0):=by
 unfold stepN at h⊢;by_cases h9:k<9
 . rw[if_pos h9]at h⊢
   rcases hv:readV bs with⟨W,n,C⟩
   rw[hv]at h;cases h;rw[zdo hv]
 . rw[if_neg h9]at h⊢
   by_cases h12:k<12
   . rw[if_pos h12]at h⊢
     by_cases hl:bs.length<4
     . rw[if_pos hl]at h;cases h
     . rw[if_neg hl]at h
       rw[if_neg (by rw[List.length_append];omega)];exact h
   . rw[if_neg h12]at h⊢
     by_cases hl:bs.length<8
     . rw[if_pos hl]at h;cases h
     . rw[if_neg hl]at h
       rw[if_neg (by rw[List.length_append];omega)];exact h
theorem zgx{k:Int}(more:List UInt8):∀(f g:Nat)(bs:List UInt8),bs.length<=f->(bs++more).length<=g->(∀x∈valsF k f bs,x.2=0)->valsF k g (bs++more)=valsF k f bs++valsF k more.length more
 |0,g,bs,h,hg,_=>by
  rw[List.eq_nil_of_length_eq_zero (by omega:bs.length=0)];simp only[List.nil_append,List.length_append]at hg⊢;exact zeC k g _ more (by omega) (Nat.le_refl _)
 |f+1,g,bs,h,hg,hf=>by
  by_cases hb:bs=[]
  . subst hb
    have:valsF k (f+1) []=[]:=by unfold valsF;rw[if_pos rfl]
    rw[this];simp only[List.nil_append]at hg⊢;exact zeC k g _ more (by omega) (Nat.le_refl _)
  . rcases hs:stepN k bs with⟨N,C⟩
    have hbd:=zdp k bs;rw[hs]at hbd;simp only at hbd;by_cases hC:C=0
    . subst hC
      rw[List.length_append]at hg;obtain⟨g,rfl⟩:∃g',g=g'+1:=⟨g - 1,by omega⟩
      rw[zgH hb hs]at hf⊢;rw[zgH (by simp[hb]) (zka hs more)];rw[List.take_append_of_le_length (by omega),List.drop_append_of_le_length (by omega),List.cons_append];congr 1;exact zgx more f g (bs.drop N) (by rw[List.length_drop];omega) (by rw[List.length_append,List.length_drop];omega) (fun x hx=>hf x (List.mem_cons_of_mem _ hx))
    . have e:valsF k (f+1) bs=[([],C)]:=by
       conv=>lhs;unfold valsF
       rw[if_neg hb,hs,if_neg hC]
      rw[e]at hf;exact absurd (hf _ (List.mem_singleton.2 rfl)) hC
variable{a:List UInt8}
theorem zgy(h:codeV k a=0)(b:List UInt8):valsV k (a++b)=valsV k a++valsV k b:=by
 have hk:=zgw h;have ha:=zhB h;unfold valsV at ha⊢;rw[if_neg (by rw[hk];simp)]at ha⊢;rw[if_neg (by rw[hk];simp),if_neg (by rw[hk];simp)];exact zgx b _ _ a (Nat.le_refl _) (Nat.le_refl _) ha
theorem zgz(h:codeV k a=0)(b:List UInt8):codeV k (a++b)=codeV k b:=by
 have hv:=zgy h b;have ha:=zhB h;by_cases hb:valsV k b=[]
 . have h1:codeV k b=0:=by unfold codeV;rw[hb];rfl
   rw[h1];refine zga (fun j x hx=> ?_);rw[hv,hb,List.append_nil]at hx;exact ha x (List.mem_of_getElem? hx)
 . unfold codeV
   rw[hv,List.getLast?_append];rcases hl:(valsV k b).getLast? with _|x
   . exact absurd (List.getLast?_eq_none_iff.1 hl) hb
   . rfl
end Go.Proofs.YtpicpebolghcfaaGreatDoor
