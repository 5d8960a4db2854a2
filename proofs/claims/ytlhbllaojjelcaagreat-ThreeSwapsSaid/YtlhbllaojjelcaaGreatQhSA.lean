/- Plain words of layers 1 to 3, 5, 6, 8, 9. No program is named. -/
import Derived.Test.YtlhbllaojjelcaaGreatQhMap
import Derived.Lib.Zigzag
import Derived.Laws.BitsAllLaws
import Derived.Lib.BitFns
import Derived.Lib.ItoaNum

set_option linter.unusedVariables false
namespace Go.Proofs.YtlhbllaojjelcaaGreat
section
variable {α:Type}
def pre(l:List α)(r:List α×Nat×Nat):List α×Nat×Nat:=if r.2.2=0 then(l++r.1,r.2.1,0)else([],r.2.1,r.2.2)
theorem zkS(l m:List α)(r:List α×Nat×Nat):pre l (pre m r)=pre (l++m) r:=by
 unfold pre;by_cases h:r.2.2=0
 . simp[h]
 . simp[h]
def scanF(step:Nat->α×Nat)(to:α->Nat)(len:Nat):Nat->Nat->List α×Nat×Nat
 |0,_=>([],0,0)
 |f+1,p=>if len<=p then([],0,0)else if(step p).2=0 then pre [(step p).1] (scanF step to len f (to (step p).1))else([],p,(step p).2)
def scan(step:Nat->α×Nat)(to:α->Nat)(len p:Nat):List α×Nat×Nat:=scanF step to len (len - p) p
def zcH(step:Nat->α×Nat)(to:α->Nat)(len:Nat):Prop:=∀p,p<len->(step p).2=0->p<to (step p).1/\to (step p).1<=len
variable {step:Nat->α×Nat} {to:α->Nat} {len:Nat}
theorem zik(hO:zcH step to len):∀(f g p:Nat),len - p<=f->len - p<=g->scanF step to len f p=scanF step to len g p
 |0,0,_,_,_=>rfl
 |0,g+1,p,h,_=>by rw[scanF,scanF,if_pos (by omega)]
 |f+1,0,p,_,h=>by rw[scanF,scanF,if_pos (by omega)]
 |f+1,g+1,p,h1,h2=>by
  rw[scanF,scanF];by_cases hp:len<=p
  . rw[if_pos hp,if_pos hp]
  . rw[if_neg hp,if_neg hp]
    by_cases hc:(step p).2=0
    . have:=hO p (by omega) hc
      rw[if_pos hc,if_pos hc,zik hO f g _ (by omega) (by omega)]
    . rw[if_neg hc,if_neg hc]
theorem zaA{p:Nat}(h:len<=p):scan step to len p=([],0,0):=by
 unfold scan;rw[show len - p=0 by omega];rfl
theorem zby(hO:zcH step to len){p:Nat}(h:p<len){x:α}(hs:step p=(x,0)):scan step to len p=pre [x] (scan step to len (to x)):=by
 have h1:=hO p h (by rw[hs]);rw[hs]at h1;simp only at h1;unfold scan;obtain⟨k,hk⟩:∃k,len - p=k+1:=⟨len - p - 1,by omega⟩
 rw[hk,scanF,if_neg (by omega),hs,if_pos rfl];simp only;rw[zik hO k (len - to x) _ (by omega) (Nat.le_refl _)]
theorem zaR{p:Nat}(h:p<len){x:α}{C:Nat}(hs:step p=(x,C))(hC:C≠0):scan step to len p=([],p,C):=by
 unfold scan;obtain⟨k,hk⟩:∃k,len - p=k+1:=⟨len - p - 1,by omega⟩
 rw[hk,scanF,if_neg (by omega),hs];simp only;rw[if_neg hC]
theorem zlT(l:List α){p C:Nat}(hC:C≠0):pre l ([],p,C)=([],p,C):=by unfold pre;rw[if_neg hC]
theorem ziY(l:List α):pre l ([],0,0)=(l,0,0):=by unfold pre;simp
theorem zqE(r:List α×Nat×Nat)(h:r.2.2≠0->r.1=[]):pre [] r=r:=by
 unfold pre;by_cases h0:r.2.2=0
 . rw[if_pos h0];ext<;>simp[h0]
 . rw[if_neg h0];rw[<-h h0]
theorem zft(hO:zcH step to len):∀(m p:Nat),len - p<=m->((scan step to len p).2.2≠0->(scan step to len p).1=[])/\((scan step to len p).2.2=0->(scan step to len p).2.1=0)/\(p<=len->(scan step to len p).1.length<=len - p)/\(p<=len->(scan step to len p).2.1<=len)
 |0,p,h=>by rw[zaA (by omega)];simp
 |m+1,p,h=>by
  by_cases hp:len<=p
  . rw[zaA hp];simp
  . rcases hs:step p with⟨x,C⟩
    by_cases hC:C=0
    . subst hC
      have h1:=hO p (by omega) (by rw[hs]);rw[hs]at h1;simp only at h1;have ih:=zft hO m (to x) (by omega);rw[zby hO (by omega) hs];unfold pre;by_cases h0:(scan step to len (to x)).2.2=0
      . rw[if_pos h0]
        refine⟨by simp,fun _=>ih.2.1 h0,fun _=> ?_,fun _=>ih.2.2.2 h1.2⟩;have:=ih.2.2.1 h1.2;simp;omega
      . rw[if_neg h0]
        exact⟨by simp,by simp[h0],by simp,fun _=>ih.2.2.2 h1.2⟩
    . rw[zaR (by omega) hs hC]
      exact⟨by simp,by simp[hC],by simp,fun _=>by simp;omega⟩
theorem zgH(hO:zcH step to len)(p:Nat):pre [] (scan step to len p)=scan step to len p:=zqE _ (zft hO _ p (Nat.le_refl _)).1
theorem ziZ(hO:zcH step to len){P:α->Prop}(hP:∀p x,p<len->step p=(x,0)->P x):∀(m p:Nat),len - p<=m->∀x∈(scan step to len p).1,P x
 |0,p,h=>by rw[zaA (by omega)];simp
 |m+1,p,h=>by
  by_cases hp:len<=p
  . rw[zaA hp];simp
  . rcases hs:step p with⟨x,C⟩
    by_cases hC:C=0
    . subst hC
      have h1:=hO p (by omega) (by rw[hs]);rw[hs]at h1;simp only at h1;have ih:=ziZ hO hP m (to x) (by omega);rw[zby hO (by omega) hs];unfold pre;by_cases h0:(scan step to len (to x)).2.2=0
      . rw[if_pos h0]
        intro y hy;simp only[List.singleton_append,List.mem_cons]at hy;rcases hy with rfl|hy
        . exact hP p _ (by omega) hs
        . exact ih y hy
      . rw[if_neg h0];simp
    . rw[zaR (by omega) hs hC];simp
end
end Go.Proofs.YtlhbllaojjelcaaGreat
namespace Go.Proofs.YtlhbllaojjelcaaGreat
open Go.RowKit Go.Lib
theorem zbT{k:IntKind}{a b:Int}(h:a=b):Ending.returned (.int k a)=.returned (.int k b):=by rw[h]
theorem zag{a b:Bool}(h:a=b):Ending.returned (.bool a)=.returned (.bool b):=by rw[h]
def zbp(n:Int):Int:=if 2147483648<=n % 4294967296 then n % 4294967296 - 4294967296 else n % 4294967296
def wideI(n:Int):Int:=if 0<=n then n else n+18446744073709551616
def zagI(n:Int):Int:=if n % 2=1 then -(n / 2) - 1 else n / 2
theorem zjO(n:Int):wrap32 (n % 4294967296)=zbp n:=by
 unfold zbp wrap32;split<;>omega
theorem zil(n:Int): -2147483648<=zbp n/\zbp n<2147483648:=by
 unfold zbp;split<;>omega
theorem zmJ(n:Int)(h0: -9223372036854775808<=n)(h1:n<9223372036854775808):IntKind.u64.wrap n=wideI n:=by
 rw[IntKind.wrap_u64];unfold wideI;split<;>omega
theorem zpk(n:Int)(h0: -9223372036854775808<=n)(h1:n<9223372036854775808):0<=wideI n/\wideI n<18446744073709551616:=by
 unfold wideI;split<;>omega
def zbK:Nat->Nat->List UInt8
 |0,_=>[]
 |m+1,x=>(x % 256).toUInt8::zbK m (x / 256)
theorem zgp:∀(k x:Nat),zbK (k+1) x=zbK k x++[(x / 256^k % 256).toUInt8]
 |0,x=>by simp[zbK]
 |k+1,x=>by
  rw[zbK,zgp k (x / 256),zbK,Nat.div_div_eq_div_mul,<-Nat.pow_succ'];rfl
theorem zaB:∀(k x:Nat),(zbK k x).length=k
 |0,_=>rfl
 |k+1,x=>by simp[zbK,zaB k]
theorem zfU(k:Nat):2^(8*k)=256^k:=by rw[Nat.pow_mul]
def wordN:List UInt8->Nat
 |[]=>0
 |b::r=>b.toNat+256*wordN r
theorem zdT:∀l:List UInt8,wordN l<256^l.length
 |[]=>by simp[wordN]
 |b::r=>by
  have:=zdT r;have:=b.toNat_lt;rw[wordN,List.length_cons,Nat.pow_succ];omega
theorem zim:∀(l:List UInt8)(b:UInt8),wordN (l++[b])=wordN l+b.toNat*256^l.length
 |[],b=>by simp[wordN]
 |a::r,b=>by
  rw[List.cons_append,wordN,zim r b,wordN,List.length_cons,Nat.pow_succ,Nat.mul_add,Nat.mul_left_comm,Nat.mul_comm (256^r.length) 256];omega
theorem znQ(y z k:Nat)(hy:y<2^k)(hz:z*2^k<18446744073709551616)(hy':y<18446744073709551616):
 bits BinOp.or IntKind.u64 (y:Int) ((z*2^k:Nat):Int)=((y+z*2^k:Nat):Int):=by
 rw[u64_or_nat _ _ hy' hz,Nat.or_comm,nat_join k _ _ (Nat.mul_mod_left _ _) hy,Nat.add_comm]
theorem zqF(l:List UInt8)(k:Nat)(x:UInt8)(hl:l.length=k)(hk:k<8):
 bits BinOp.or IntKind.u64 (wordN l:Int) (IntKind.u64.wrap (IntKind.u64.wrap (x.toNat:Int)*2^(8*k)))=((wordN (l++[x]):Nat):Int):=by
 have hx:=x.toNat_lt;have hw1:=zdT l;rw[hl]at hw1;have hk7:256^k<=256^7:=Nat.pow_le_pow_right (by decide) (by omega)
 have hpz:x.toNat*256^k<18446744073709551616:=
  Nat.lt_of_le_of_lt (Nat.mul_le_mul (show x.toNat<=255 by omega) hk7) (by decide)
 have hor:=znQ (wordN l) x.toNat (8*k) (by rw[zfU];exact hw1) (by rw[zfU];exact hpz) (Nat.lt_of_lt_of_le hw1 (Nat.le_trans hk7 (by decide)))
 have e:IntKind.u64.wrap (IntKind.u64.wrap (x.toNat:Int)*2^(8*k))=((x.toNat*2^(8*k):Nat):Int):=by
  have hp:(2:Int)^(8*k)=((256^k:Nat):Int):=by rw[<-zfU];simp
  have hxm:(x.toNat:Int) % 18446744073709551616=(x.toNat:Int):=by omega
  rw[IntKind.wrap_u64,IntKind.wrap_u64,hp,zfU,hxm,<-Int.natCast_mul,Int.emod_eq_of_lt (by omega) (by omega)]
 rw[e,hor,zim,hl,zfU]
theorem zrE(x y:Int)(h0:0<=x)(h1:x<2147483648)(h2:0<=y)(h3:y<8):bits BinOp.or IntKind.u64 (x*8) y=8*x+y:=by
 obtain⟨a,rfl⟩:=Int.eq_ofNat_of_zero_le h0;obtain⟨b,rfl⟩:=Int.eq_ofNat_of_zero_le h2;have h:=znQ b a 3 (by omega) (by omega) (by omega);rw[show((a:Int)*8)=((a*2^3:Nat):Int)by omega,u64_or_nat _ _ (by omega) (by omega),Nat.or_comm,<-u64_or_nat _ _ (by omega) (by omega),h];omega
theorem zap{α:Type}(l:List α)(k:Nat)(b:α)(h:l[k]?=some b):l.take (k+1)=l.take k++[b]:=by
 rw[List.take_add_one,h];rfl
def wordV:List UInt8->Nat
 |[]=>0
 |b::r=>b.toNat % 128+128*wordV r
theorem zja:∀l:List UInt8,wordV l<128^l.length
 |[]=>by simp[wordV]
 |b::r=>by
  have:=zja r;rw[wordV,List.length_cons,Nat.pow_succ];omega
theorem zfV:∀(l:List UInt8)(b:UInt8),wordV (l++[b])=wordV l+b.toNat % 128*128^l.length
 |[],b=>by simp[wordV]
 |a::r,b=>by
  rw[List.cons_append,wordV,zfV r b,wordV,List.length_cons,Nat.pow_succ,Nat.mul_add,Nat.mul_left_comm,Nat.mul_comm (128^r.length) 128];omega
def readI:Nat->List UInt8->Nat×Nat×Nat
 |_,[]=>(0,0,3)
 |i,b::r=>
  if i=9/\1<b.toNat then(0,0,4)
  else if b.toNat<128 then(b.toNat,1,0)
  else if(readI (i+1) r).2.2=0 then(b.toNat % 128+128*(readI (i+1) r).1,(readI (i+1) r).2.1+1,0)
  else(0,0,(readI (i+1) r).2.2)
def readV(bs:List UInt8):Nat×Nat×Nat:=readI 0 bs
def Cont(bs:List UInt8)(k:Nat):Prop:=∀j,j<k->∃x,bs[j]?=some x/\128<=x.toNat
theorem Cont.zero(bs:List UInt8):Cont bs 0:=fun j h=>absurd h (Nat.not_lt_zero j)
variable{k:Nat}{bs:List UInt8}
theorem Cont.succ{x:UInt8}(h:Cont bs k)(hx:bs[k]?=some x)(hb:128<=x.toNat):Cont bs (k+1):=by
 intro j hj;by_cases e:j=k
 . subst e;exact⟨x,hx,hb⟩
 . exact h j (by omega)
theorem Cont.head{b:UInt8}{r:List UInt8}(h:Cont (b::r) (k+1)):128<=b.toNat/\Cont r k:=by
 constructor
 . obtain⟨x,hx,hb⟩:=h 0 (by omega)
   simp at hx;subst hx;exact hb
 . intro j hj
   obtain⟨x,hx,hb⟩:=h (j+1) (by omega);exact⟨x,by simpa using hx,hb⟩
theorem Cont.le(h:Cont bs k):k<=bs.length:=by
 rcases Nat.lt_or_ge bs.length k with hlt|hge
 . obtain⟨x,hx,_⟩:=h bs.length hlt
   simp at hx
 . exact hge
theorem zin:∀(k i:Nat)(bs:List UInt8)(c:UInt8),Cont bs k->i+k=9->bs[k]?=some c->1<c.toNat->readI i bs=(0,0,4)
 |0,i,bs,c,_,hi,hc,h1=>by
  match bs,hc with
  |b::r,hc=>simp at hc;subst hc;rw[readI,if_pos ⟨by omega,h1⟩]
 |k+1,i,bs,c,h,hi,hc,h1=>by
  match bs,hc,h with
  |b::r,hc,h=>
   have hh:=h.head;have ih:=zin k (i+1) r c hh.2 (by omega) (by simpa using hc) h1;rw[readI,if_neg (by omega),if_neg (by omega),ih,if_neg (by decide)]
theorem zhe:∀(k i:Nat)(bs:List UInt8),Cont bs k->i+k<=9->bs.length=k->readI i bs=(0,0,3)
 |0,i,bs,_,_,hl=>by
  have:bs=[]:=List.eq_nil_of_length_eq_zero hl;subst this;rfl
 |k+1,i,bs,h,hi,hl=>by
  match bs,hl,h with
  |b::r,hl,h=>
   have hh:=h.head;have ih:=zhe k (i+1) r hh.2 (by omega) (by simpa using hl);rw[readI,if_neg (by omega),if_neg (by omega),ih,if_neg (by decide)]
theorem zio:∀(k i:Nat)(bs:List UInt8)(c:UInt8),Cont bs k->i+k<=9->bs[k]?=some c->c.toNat<128->(i+k=9->c.toNat<=1)->
 readI i bs=(wordV (bs.take (k+1)),k+1,0)
 |0,i,bs,c,_,hi,hc,h1,h9=>by
  match bs,hc with
  |b::r,hc=>
   simp at hc;subst hc;rw[readI,if_neg (by omega),if_pos h1];simp[wordV];omega
 |k+1,i,bs,c,h,hi,hc,h1,h9=>by
  match bs,hc,h with
  |b::r,hc,h=>
   have hh:=h.head;have ih:=zio k (i+1) r c hh.2 (by omega) (by simpa using hc) h1 (fun e=>h9 (by omega));rw[readI,if_neg (by omega),if_neg (by omega),ih,if_pos rfl,List.take_succ_cons,wordV]
variable{c:UInt8}
theorem zdC(h:Cont bs 9)(hc:bs[9]?=some c)(h1:1<c.toNat):readV bs=(0,0,4):=zin 9 0 bs c h rfl hc h1
theorem zdU(h:Cont bs k)(hk:k<=9)(hl:bs.length=k):readV bs=(0,0,3):=zhe k 0 bs h (by omega) hl
theorem zcZ(h:Cont bs k)(hk:k<=9)(hc:bs[k]?=some c)(h1:c.toNat<128)(h9:k=9->c.toNat<=1):
 readV bs=(wordV (bs.take (k+1)),k+1,0):=zio k 0 bs c h (by omega) hc h1 (fun e=>h9 (by omega))
theorem zfa(bs:List UInt8):readV bs=(0,0,4)\/readV bs=(0,0,3)\/
 ∃k c,Cont bs k/\k<=9/\bs[k]?=some c/\c.toNat<128/\(k=9->c.toNat<=1)/\readV bs=(wordV (bs.take (k+1)),k+1,0):=by
 have go:∀m k,m+k=9->Cont bs k->readV bs=(0,0,4)\/readV bs=(0,0,3)\/
  ∃k c,Cont bs k/\k<=9/\bs[k]?=some c/\c.toNat<128/\(k=9->c.toNat<=1)/\readV bs=(wordV (bs.take (k+1)),k+1,0):=by
  intro m
  induction m with
  |zero=>
   intro k hk h;obtain rfl:k=9:=by omega
   rcases hx:bs[9]? with _|c
   . have:=h.le
     have hl:bs.length=9:=by
      have:=List.getElem?_eq_none_iff.1 hx;omega
     exact .inr (.inl (zdU h (Nat.le_refl _) hl))
   . by_cases h1:1<c.toNat
     . exact .inl (zdC h hx h1)
     . exact .inr (.inr ⟨9,c,h,Nat.le_refl _,hx,by omega,fun _=>by omega,zcZ h (Nat.le_refl _) hx (by omega) (fun _=>by omega)⟩)
  |succ m ih=>
   intro k hk h;rcases hx:bs[k]? with _|c
   . have:=h.le
     have hl:bs.length=k:=by
      have:=List.getElem?_eq_none_iff.1 hx;omega
     exact .inr (.inl (zdU h (by omega) hl))
   . by_cases h1:c.toNat<128
     . exact .inr (.inr ⟨k,c,h,by omega,hx,h1,fun _=>by omega,zcZ h (by omega) hx h1 (fun _=>by omega)⟩)
     . exact ih (k+1) (by omega) (h.succ hx (by omega))
 exact go 9 0 rfl (Cont.zero bs)
theorem zfu(hk:k<=9)(hc:bs[k]?=some c)(h9:k=9->c.toNat<=1):wordV (bs.take (k+1))<18446744073709551616:=by
 have hl:(bs.take k).length=k:=by
  have:=(List.getElem?_eq_some_iff.1 hc).1;rw[List.length_take];omega
 have h1:=zja (bs.take k);rw[zap bs k c hc,zfV,hl];rw[hl]at h1;by_cases e:k=9
 . subst e
   have:=h9 rfl;have:c.toNat % 128*128^9<=1*128^9:=Nat.mul_le_mul (by omega) (Nat.le_refl _);have e1:(128:Nat)^9=9223372036854775808:=by decide
   rw[e1]at*;omega
 . have h2:128^k<=128^8:=Nat.pow_le_pow_right (by decide) (by omega)
   have h3:c.toNat % 128*128^k<=127*128^8:=Nat.mul_le_mul (by omega) h2;have e1:(128:Nat)^8=72057594037927936:=by decide
   rw[e1]at*;omega
theorem zbt(bs:List UInt8):(readV bs).1<18446744073709551616/\(readV bs).2.1<=bs.length/\(readV bs).2.1<=10/\(readV bs).2.2<=4/\
 ((readV bs).2.2=0->1<=(readV bs).2.1)/\((readV bs).2.2≠0->(readV bs).1=0/\(readV bs).2.1=0):=by
 rcases zfa bs with h|h|⟨k,c,hC,hk,hc,h1,h9,h⟩
 . rw[h];simp
 . rw[h];simp
 . rw[h]
   have:=(List.getElem?_eq_some_iff.1 hc).1;refine⟨zfu hk hc h9,by show k+1<=_;omega,by show k+1<=_;omega,by simp,fun _=>by show 1<=k+1;omega,fun h=>absurd rfl h⟩
theorem zfv:∀(l:List UInt8)(j:Nat),wordV (l.drop j)<=wordV l
 |l,0=>Nat.le_refl _
 |[],j+1=>Nat.le_refl _
 |b::r,j+1=>by
  have:=zfv r j;rw[List.drop_succ_cons,wordV];omega
theorem zmK(l:List UInt8)(j:Nat)(x:UInt8)(h:l[j]?=some x):wordV (l.drop j)=x.toNat % 128+128*wordV (l.drop (j+1)):=by
 have hj:=(List.getElem?_eq_some_iff.1 h).1;rw[List.drop_eq_getElem_cons hj,wordV];have:l[j]=x:=by rw[List.getElem?_eq_getElem hj]at h;simpa using h
 rw[this]
theorem zrF(x:UInt8):bits BinOp.and IntKind.u8 (x.toNat:Int) 127=((x.toNat % 128:Nat):Int):=by
 have h:=x.toNat_lt;rw[u8_and _ 127 (by omega) (by omega) (by decide) (by decide)];have e:=nat_mask7 x.toNat;rw[Int.toNat_natCast,show((127:Int)).toNat=127 from rfl,e]
theorem zhf(k:Nat):2^(7*k)=128^k:=by rw[Nat.pow_mul]
theorem zqG(l:List UInt8)(k:Nat)(x:UInt8)(hl:l.length=k)(hk:k<=9)(h9:k=9->x.toNat<=1):
 bits BinOp.or IntKind.u64 (wordV l:Int) (IntKind.u64.wrap (((x.toNat % 128:Nat):Int)*2^(7*k)))=((wordV (l++[x]):Nat):Int):=by
 have hx:=x.toNat_lt;have hw1:=zja l;rw[hl]at hw1
 have hp:x.toNat % 128*128^k<18446744073709551616:=by
  by_cases e:k=9
  . subst e
    have:=h9 rfl;have h2:x.toNat % 128*128^9<=1*128^9:=Nat.mul_le_mul (by omega) (Nat.le_refl _);exact Nat.lt_of_le_of_lt h2 (by decide)
  . have h2:128^k<=128^8:=Nat.pow_le_pow_right (by decide) (by omega)
    exact Nat.lt_of_le_of_lt (Nat.mul_le_mul (show x.toNat % 128<=127 by omega) h2) (by decide)
 have h64:wordV l<18446744073709551616:=Nat.lt_of_lt_of_le hw1 (Nat.le_trans (Nat.pow_le_pow_right (by decide) hk) (by decide));have hor:=znQ (wordV l) (x.toNat % 128) (7*k) (by rw[zhf];exact hw1) (by rw[zhf];exact hp) h64
 have e:IntKind.u64.wrap (((x.toNat % 128:Nat):Int)*2^(7*k))=((x.toNat % 128*2^(7*k):Nat):Int):=by
  have hq:(2:Int)^(7*k)=((128^k:Nat):Int):=by rw[<-zhf];simp
  rw[IntKind.wrap_u64,hq,zhf,<-Int.natCast_mul,Int.emod_eq_of_lt (by omega) (by omega)]
 rw[e,hor,zfV,hl,zhf]
theorem zpl(l:List UInt8)(k:Nat)(x:UInt8)(hl:l.length=k)(hk:k<=9)(h9:k=9->x.toNat<=1):
 bits BinOp.or IntKind.u64 (wordV l:Int) (IntKind.u64.wrap (IntKind.u64.wrap (bits BinOp.and IntKind.u8 (x.toNat:Int) 127)*2^(7*k)))=((wordV (l++[x]):Nat):Int):=by
 have hx:=x.toNat_lt;have e:IntKind.u64.wrap ((x.toNat % 128:Nat):Int)=((x.toNat % 128:Nat):Int):=by rw[IntKind.wrap_u64];omega
 rw[zrF,e,zqG l k x hl hk h9]
theorem or128(x:Nat):bits BinOp.or IntKind.u8 ((x:Int) % 256) 128=((x % 128+128:Nat):Int):=by
 have h:=u8_or128_any ((x:Int) % 256) (by omega) (by omega);rw[h];omega
theorem zjb:∀(x i:Nat)(more:List UInt8),i<=9->x<2^(64 - 7*i)->readI i (uvarint x++more)=(x,(uvarint x).length,0):=by
 intro x
 induction x using Nat.strongRecOn with
 |_ x ih=>
  intro i more hi hx;by_cases h:x<128
  . rw[uvarint_small h,List.singleton_append,readI,toNat_u8' x (by omega),if_neg,if_pos h]
    . rfl
    . rintro⟨rfl,h1⟩
      simp at hx;omega
  . have hi8:i<=8:=by
     rcases Nat.lt_or_ge i 9 with h|h
     . omega
     . obtain rfl:i=9:=by omega
       simp at hx;omega
    have hb:(x % 128+128).toUInt8.toNat=x % 128+128:=toNat_u8' _ (by omega)
    have hx':x / 128<2^(64 - 7*(i+1)):=by
     have:2^(64 - 7*i)=2^(64 - 7*(i+1))*128:=by
      rw[show 64 - 7*i=(64 - 7*(i+1))+7 by omega,Nat.pow_add]
     rw[this]at hx;exact Nat.div_lt_of_lt_mul (by rw[Nat.mul_comm];exact hx)
    have:=ih (x / 128) (by omega) (i+1) more (by omega) hx';rw[uvarint_big (by omega),List.cons_append,readI,hb,if_neg (by omega),if_neg (by omega),this,if_pos rfl];simp only[List.length_cons];congr 1;omega
where toNat_u8' (x:Nat) (h:x<256):x.toUInt8.toNat=x:=by show x % 256=x;omega
theorem zcS(x:Nat)(more:List UInt8)(h:x<18446744073709551616):readV (uvarint x++more)=(x,(uvarint x).length,0):=
 zjb x 0 more (by omega) (by simpa using h)
def zao(number wire:Int):Bool:=decide (1<=number/\number<=536870911/\(wire=0\/wire=1\/wire=2\/wire=5))
def tagV(bs:List UInt8):Nat×Nat×Nat×Nat:=
 if(readV bs).2.2≠0 then(0,0,0,(readV bs).2.2)
 else if zao ((readV bs).1 / 8:Nat) ((readV bs).1 % 8:Nat)=true then((readV bs).1 / 8,(readV bs).1 % 8,(readV bs).2.1,0)
 else(0,0,0,5)
theorem zjc(bs:List UInt8):(tagV bs).2.2.2<=5/\(tagV bs).2.2.1<=bs.length/\(tagV bs).2.2.1<=10/\(tagV bs).1<=536870911/\(tagV bs).2.1<=5/\
 ((tagV bs).2.2.2=0->1<=(tagV bs).2.2.1/\zao (tagV bs).1 (tagV bs).2.1=true):=by
 have h:=zbt bs;unfold tagV;split
 . rename_i hc
   refine⟨by show(readV bs).2.2<=5;omega,by simp,by simp,by simp,by simp,fun h0=>absurd h0 hc⟩
 . rename_i hc
   have hc:(readV bs).2.2=0:=by simpa using hc
   split
   . rename_i hr
     have hr':=hr;unfold zao at hr';have hd:=of_decide_eq_true hr';refine⟨by simp,h.2.1,h.2.2.1,?_,?_,fun _=>⟨h.2.2.2.2.1 hc,hr⟩⟩
     . show(readV bs).1 / 8<=_;omega
     . show(readV bs).1 % 8<=_;omega
   . simp
theorem and7(x:Nat)(h:x<18446744073709551616):bits BinOp.and IntKind.u64 (x:Int) 7=(x:Int) % 8:=by
 rw[u64_and _ 7 (by omega) (by omega) (by decide) (by decide)];have e:=nat_mask3 x;rw[Int.toNat_natCast,show((7:Int)).toNat=7 from rfl,e];omega
def sizeV(wire:Nat)(bs:List UInt8):Nat×Nat×Nat:=
 if wire=0 then(0,(readV bs).2.1,(readV bs).2.2)
 else if wire=1 then(0,8,0)
 else if wire=5 then(0,4,0)
 else((readV bs).2.1,(readV bs).1,(readV bs).2.2)
theorem zlU(wire:Nat)(bs:List UInt8):(sizeV wire bs).1<=bs.length/\(sizeV wire bs).1<=10/\(sizeV wire bs).2.1<18446744073709551616/\(sizeV wire bs).2.2<=4:=by
 have h:=zbt bs;unfold sizeV;split
 . exact⟨by simp,by simp,by simp only;omega,h.2.2.2.1⟩
 . split
   . simp
   . split
     . simp
     . exact⟨h.2.1,h.2.2.1,h.1,h.2.2.2.1⟩
structure Rec where
 n:Nat
 w:Nat
 f:Nat
 a:Nat
 t:Nat
 deriving DecidableEq
def Rec.zero:Rec:=⟨0,0,0,0,0⟩
def headV(bs:List UInt8):Nat×Nat×Nat×Nat×Nat:=
 if(tagV bs).2.2.2≠0 then(0,0,0,0,(tagV bs).2.2.2)
 else if(sizeV (tagV bs).2.1 (bs.drop (tagV bs).2.2.1)).2.2≠0 then(0,0,0,0,(sizeV (tagV bs).2.1 (bs.drop (tagV bs).2.2.1)).2.2)
 else if bs.length - ((tagV bs).2.2.1+(sizeV (tagV bs).2.1 (bs.drop (tagV bs).2.2.1)).1)<(sizeV (tagV bs).2.1 (bs.drop (tagV bs).2.2.1)).2.1 then(0,0,0,0,3)
 else((tagV bs).1,(tagV bs).2.1,(tagV bs).2.2.1+(sizeV (tagV bs).2.1 (bs.drop (tagV bs).2.2.1)).1,(tagV bs).2.2.1+(sizeV (tagV bs).2.1 (bs.drop (tagV bs).2.2.1)).1+(sizeV (tagV bs).2.1 (bs.drop (tagV bs).2.2.1)).2.1,0)
variable{T V N C:Nat}
theorem zhg(h:tagV bs=(T,V,N,C))(hC:C≠0):headV bs=(0,0,0,0,C):=by
 unfold headV;rw[h];rw[if_pos hC]
variable{a g:Nat}
theorem zeP(h:tagV bs=(T,V,N,0))(hs:sizeV V (bs.drop N)=(a,g,C))(hC:C≠0):headV bs=(0,0,0,0,C):=by
 unfold headV;rw[h];simp only;rw[hs,if_neg (by simp),if_pos hC]
theorem zdd(h:tagV bs=(T,V,N,0))(hs:sizeV V (bs.drop N)=(a,g,0))(hl:bs.length - (N+a)<g):headV bs=(0,0,0,0,3):=by
 unfold headV;rw[h];simp only;rw[hs,if_neg (by simp),if_neg (by simp),if_pos hl]
theorem zcT(h:tagV bs=(T,V,N,0))(hs:sizeV V (bs.drop N)=(a,g,0))(hl:¬bs.length - (N+a)<g):headV bs=(T,V,N+a,N+a+g,0):=by
 unfold headV;rw[h];simp only;rw[hs,if_neg (by simp),if_neg (by simp),if_neg hl]
def zbX(p:Nat)(h:Nat×Nat×Nat×Nat×Nat):Rec×Nat:=if h.2.2.2.2=0 then(⟨h.1,h.2.1,p,p+h.2.2.1,p+h.2.2.2.1⟩,0)else(Rec.zero,h.2.2.2.2)
def nextV(bs:List UInt8)(p:Nat):Rec×Nat:=zbX p (headV (bs.drop p))
def nextI(bs:List UInt8)(p:Int):Rec×Nat:=if p<0\/(bs.length:Int)<=p then(Rec.zero,2)else nextV bs p.toNat
theorem zcz(bs:List UInt8):(∃C,headV bs=(0,0,0,0,C)/\C≠0/\C<=5)\/
 ∃T V N a g,tagV bs=(T,V,N,0)/\sizeV V (bs.drop N)=(a,g,0)/\N+a+g<=bs.length/\1<=N/\headV bs=(T,V,N+a,N+a+g,0):=by
 rcases ht:tagV bs with⟨T,V,N,C⟩
 have tb:=zjc bs;rw[ht]at tb;simp only at tb;by_cases hC:C=0
 . subst hC
   rcases hs:sizeV V (bs.drop N)with⟨a,g,D⟩
   have sb:=zlU V (bs.drop N);rw[hs,List.length_drop]at sb;simp only at sb;by_cases hD:D=0
   . subst hD
     by_cases hl:bs.length - (N+a)<g
     . exact .inl ⟨3,zdd ht hs hl,by omega,by omega⟩
     . refine .inr ⟨T,V,N,a,g,rfl,hs,by omega,?_,zcT ht hs hl⟩
       have:=tb.2.2.2.2.2 rfl;omega
   . exact .inl ⟨D,zeP ht hs hD,hD,by omega⟩
 . exact .inl ⟨C,zhg ht hC,hC,tb.1⟩
variable{t:Nat}
theorem zjd(h:headV bs=(T,V,a,t,0)):1<=a/\a<=t/\t<=bs.length:=by
 rcases zcz bs with⟨C,h1,h2,_⟩|⟨T',V',N,a',g,_,_,h3,h4,h5⟩
 . rw[h]at h1;simp only[Prod.mk.injEq]at h1;exact absurd h1.2.2.2.2.symm h2
 . rw[h]at h5;simp only[Prod.mk.injEq]at h5;omega
theorem zpm(bs:List UInt8):(headV bs).2.2.2.2<=5:=by
 rcases zcz bs with⟨C,h1,_,h2⟩|⟨T',V',N,a',g,_,_,h3,h4,h5⟩
 . rw[h1];exact h2
 . rw[h5];simp
variable{r:Rec}{p:Nat}
theorem zbu(h:nextV bs p=(r,0)):headV (bs.drop p)=(r.n,r.w,r.a - p,r.t - p,0)/\r.f=p/\p<r.a/\r.a<=r.t/\r.t<=bs.length:=by
 unfold nextV zbX at h;by_cases hc:(headV (bs.drop p)).2.2.2.2=0
 . rw[if_pos hc]at h
   simp only[Prod.mk.injEq,and_true]at h;rcases hh:headV (bs.drop p)with⟨T,V,a,t,C⟩
   rw[hh]at h hc;simp only at h hc;subst hc;have hb:=zjd hh;rw[List.length_drop]at hb;subst h;simp only;refine⟨by simp,trivial,by omega,by omega,by omega⟩
 . rw[if_neg hc]at h
   simp only[Prod.mk.injEq]at h;exact absurd h.2 hc
theorem zje(bs:List UInt8)(p:Nat):(nextV bs p).2<=5:=by
 unfold nextV zbX;have:=zpm (bs.drop p);split
 . simp
 . exact this
theorem zcI(bs:List UInt8):zcH (nextV bs) Rec.t bs.length:=by
 intro p hp hc;have:=zbu (bs:=bs) (p:=p) (r:=(nextV bs p).1) (by rw[<-hc]);omega
def zco(bs:List UInt8):List Rec×Nat×Nat:=scan (nextV bs) Rec.t bs.length 0
theorem Cont.append(h:Cont bs k)(more:List UInt8):Cont (bs++more) k:=fun j hj=>by
 obtain⟨x,hx,hb⟩:=h j hj;exact⟨x,by rw[List.getElem?_append_left (List.getElem?_eq_some_iff.1 hx).1];exact hx,hb⟩
theorem Cont.taken{m:Nat}(h:Cont bs k)(hm:k<=m):Cont (bs.take m) k:=fun j hj=>by
 obtain⟨x,hx,hb⟩:=h j hj;exact⟨x,by rw[List.getElem?_take_of_lt (by omega)];exact hx,hb⟩
variable{W:Nat}
theorem zet(h:readV bs=(W,N,0))(more:List UInt8):readV (bs++more)=(W,N,0):=by
 rcases zfa bs with h1|h1|⟨k,c,hC,hk,hc,h128,h9,h1⟩
 . rw[h1]at h;cases h
 . rw[h1]at h;cases h
 . have hlt:=(List.getElem?_eq_some_iff.1 hc).1
   have h2:=zcZ (bs:=bs++more) (hC.append more) hk (by rw[List.getElem?_append_left hlt];exact hc) h128 h9;rw[h2,<-h,h1,List.take_append_of_le_length (by omega)]
theorem zmL(h:readV bs=(W,N,0)):readV (bs.take N)=(W,N,0):=by
 rcases zfa bs with h1|h1|⟨k,c,hC,hk,hc,h128,h9,h1⟩
 . rw[h1]at h;cases h
 . rw[h1]at h;cases h
 . rw[h1]at h
   simp only[Prod.mk.injEq,and_true]at h;obtain⟨rfl,rfl⟩:=h;have h2:=zcZ (bs:=bs.take (k+1)) (hC.taken (by omega)) hk (by rw[List.getElem?_take_of_lt (by omega)];exact hc) h128 h9;rw[h2,List.take_take,Nat.min_self]
theorem zlV(h:tagV bs=(T,V,N,0)):∃W,readV bs=(W,N,0)/\W / 8=T/\W % 8=V/\zao (T:Int) (V:Int)=true:=by
 rcases hv:readV bs with⟨W,M,C⟩
 unfold tagV at h;rw[hv]at h;simp only at h;by_cases hC:C=0
 . subst hC
   rw[if_neg (by simp)]at h;by_cases hr:zao ((W / 8:Nat):Int) ((W % 8:Nat):Int)=true
   . rw[if_pos hr]at h
     simp only[Prod.mk.injEq,and_true]at h;obtain⟨rfl,rfl,rfl⟩:=h;exact⟨W,rfl,rfl,rfl,hr⟩
   . rw[if_neg hr]at h
     simp at h
 . rw[if_pos hC]at h
   simp only[Prod.mk.injEq]at h;exact absurd h.2.2.2 hC
theorem zkT(h:readV bs=(W,N,0))(hr:zao ((W / 8:Nat):Int) ((W % 8:Nat):Int)=true):tagV bs=(W / 8,W % 8,N,0):=by
 unfold tagV;rw[h];simp only;rw[if_neg (by simp),if_pos hr]
theorem zkU(h:tagV bs=(T,V,N,0))(more:List UInt8):tagV (bs++more)=(T,V,N,0):=by
 obtain⟨W,hv,rfl,rfl,hr⟩:=zlV h;exact zkT (zet hv more) hr
theorem zjP(h:sizeV V bs=(a,g,0))(more:List UInt8):sizeV V (bs++more)=(a,g,0):=by
 have key:(readV bs).2.2=0->readV (bs++more)=readV bs:=by
  intro h0;rcases hv:readV bs with⟨W,N,C⟩
  rw[hv]at h0;simp only at h0;subst h0;exact zet hv more
 unfold sizeV at h⊢;by_cases e0:V=0
 . rw[if_pos e0]at h⊢
   rw[key (by simpa using congrArg (fun x=>x.2.2) h)];exact h
 . rw[if_neg e0]at h⊢
   by_cases e1:V=1
   . rw[if_pos e1]at h⊢;exact h
   . rw[if_neg e1]at h⊢
     by_cases e5:V=5
     . rw[if_pos e5]at h⊢;exact h
     . rw[if_neg e5]at h⊢
       rw[key (by simpa using congrArg (fun x=>x.2.2) h)];exact h
theorem zgq(h:headV bs=(T,V,a,t,0))(more:List UInt8):headV (bs++more)=(T,V,a,t,0):=by
 rcases zcz bs with⟨C,h1,h2,_⟩|⟨T',V',N,a',g,h1,h2,h3,h4,h5⟩
 . rw[h1]at h;simp only[Prod.mk.injEq]at h;exact absurd h.2.2.2.2 h2
 . rw[h5]at h
   rw[<-h];have hN:N<=bs.length:=by omega
   exact zcT (zkU h1 more) (by rw[List.drop_append_of_le_length hN];exact zjP h2 more) (by rw[List.length_append];omega)
def Rec.shift(k:Nat)(r:Rec):Rec:=⟨r.n,r.w,r.f+k,r.a+k,r.t+k⟩
theorem zmM{a:List UInt8}(hp:p<a.length)(h:nextV a p=(r,0))(b:List UInt8):nextV (a++b) p=(r,0):=by
 obtain⟨h1,hf,h2⟩:=zbu h;have h3:=zgq h1 b;rw[<-List.drop_append_of_le_length (by omega)]at h3;unfold nextV;rw[h3];obtain⟨rn,rw_,rf,ra,rt⟩:=r;simp only at h2 hf;simp[zbX];omega
theorem zkV(a b:List UInt8)(q:Nat):nextV (a++b) (a.length+q)=(if(nextV b q).2=0 then(nextV b q).1.shift a.length else Rec.zero,(nextV b q).2):=by
 unfold nextV;have:(a++b).drop (a.length+q)=b.drop q:=by rw[List.drop_append,List.drop_of_length_le (by omega)];simp
 rw[this];unfold zbX;by_cases h:(headV (b.drop q)).2.2.2.2=0
 . simp only[if_pos h,if_true,Rec.shift]
   congr 2<;>omega
 . simp only[if_neg h]
end Go.Proofs.YtlhbllaojjelcaaGreat
namespace Go.Proofs.YtlhbllaojjelcaaGreat
open Go.RowKit
def formL:List (Int×ByteArray×Int×Int):=[(1,⟨#[105,110,116,51,50]⟩,0,32),(2,⟨#[105,110,116,54,52]⟩,0,64),(3,⟨#[117,105,110,116,51,50]⟩,0,32),(4,⟨#[117,105,110,116,54,52]⟩,0,64),(5,⟨#[115,105,110,116,51,50]⟩,0,32),(6,⟨#[115,105,110,116,54,52]⟩,0,64),(7,⟨#[98,111,111,108]⟩,0,1),(8,⟨#[101,110,117,109]⟩,0,32),(9,⟨#[102,105,120,101,100,51,50]⟩,5,32),(10,⟨#[115,102,105,120,101,100,51,50]⟩,5,32),(11,⟨#[102,108,111,97,116]⟩,5,32),(12,⟨#[102,105,120,101,100,54,52]⟩,1,64),(13,⟨#[115,102,105,120,101,100,54,52]⟩,1,64),(14,⟨#[100,111,117,98,108,101]⟩,1,64),(15,⟨#[115,116,114,105,110,103]⟩,2,0),(16,⟨#[98,121,116,101,115]⟩,2,0),(17,⟨#[109,101,115,115,97,103,101]⟩,2,0)]
def formV(p:ByteArray×Int×Int):Value:=.agg #[.string p.1,.int .i64 p.2.1,.int .i64 p.2.2]
def ziq:List (Int×Value):=formL.map fun p=>(p.1,formV p.2)
def zhh(k:Int):ByteArray×Int×Int:=((formL.find? fun p=>decide (k=p.1)).map (·.2)).getD (⟨#[]⟩,0,0)
theorem zjf(k:Int):∀(l:List (Int×ByteArray×Int×Int)),valI k (l.map fun p=>(p.1,formV p.2))=((l.find? fun p=>decide (k=p.1)).map (·.2)).map formV
 |[]=>rfl
 |p::r=>by
  rw[List.map_cons,valI,List.find?_cons];by_cases h:k=p.1
  . rw[if_pos h,decide_eq_true h];rfl
  . rw[if_neg h,decide_eq_false h];exact zjf k r
theorem zmN(k:Int):(valI k ziq).getD (formV (⟨#[]⟩,0,0))=formV (zhh k):=by
 unfold ziq zhh;rw[zjf];generalize (formL.find? fun p=>decide (k=p.1)).map (·.2)=o;cases o<;>rfl
def kindB(k:Int):Bool:=decide (1<=k/\k<=17)
variable{k:Int}
theorem zeQ(h:1<=k/\k<=17):k=1\/k=2\/k=3\/k=4\/k=5\/k=6\/k=7\/k=8\/k=9\/k=10\/k=11\/k=12\/k=13\/k=14\/k=15\/k=16\/k=17:=by omega
theorem znR(h:¬(1<=k/\k<=17)):(formL.find? fun p=>decide (k=p.1))=none:=by
 rw[List.find?_eq_none];intro p hp
 have:1<=p.1/\p.1<=17:=by
  have hall:∀p∈formL,1<=p.1/\p.1<=17:=by decide
  exact hall p hp
 simp only[decide_eq_true_eq];omega
theorem znS(k:Int):(valI k ziq).isSome=kindB k:=by
 unfold ziq;rw[zjf,Option.isSome_map,Option.isSome_map];by_cases h:1<=k/\k<=17
 . have e:kindB k=true:=decide_eq_true h
   rw[e];rcases zeQ h with h|h|h|h|h|h|h|h|h|h|h|h|h|h|h|h|h<;>subst h<;>decide
 . have e:kindB k=false:=decide_eq_false h
   rw[znR h,e];rfl
def wireI(k:Int):Int:=if k<=8 then 0 else if k<=11 then 5 else if k<=14 then 1 else 2
theorem zkW(h:1<=k/\k<=17):(zhh k).2.1=wireI k:=by
 rcases zeQ h with h|h|h|h|h|h|h|h|h|h|h|h|h|h|h|h|h<;>subst h<;>decide
def zad(k:Int):Bool:=decide (1<=k/\k<=14)
def zay(k:Int)(w:Nat):Nat:=
 if k=1\/k=8 then(wideI (zbp w)).toNat
 else if k=7 then(if w=0 then 0 else 1)
 else if k=3\/k=5\/k=9\/k=10\/k=11 then w % 4294967296
 else w
theorem zkX(h:1<=k/\k<=14):((zhh k).2.2=32<->(k=1\/k=3\/k=5\/k=8\/k=9\/k=10\/k=11)):=by
 rcases zeQ (k:=k) ⟨h.1,by omega⟩with h|h|h|h|h|h|h|h|h|h|h|h|h|h|h|h|h<;>subst h<;>first|decide|omega
theorem zde(w:Nat):0<=wideI (zbp w)/\wideI (zbp w)<18446744073709551616:=by
 have:=zil w;exact zpk _ (by omega) (by omega)
theorem zcJ(k:Int){w:Nat}(h:w<18446744073709551616):zay k w<18446744073709551616:=by
 have:=zde w;unfold zay;split
 . omega
 . split
   . split<;>omega
   . split<;>omega
def twosI(w:Nat):Int:=if w<9223372036854775808 then(w:Int)else(w:Int) - 18446744073709551616
def zkY(k:Int)(w:Nat):Int:=
 if k=1\/k=8\/k=10 then zbp w
 else if k=2\/k=13 then twosI w
 else if k=5 then zagI (w % 4294967296)
 else if k=6 then zagI w
 else 0
theorem zdV(h:zad k=true):1<=k/\k<=14:=of_decide_eq_true h
theorem zgr{x:Nat}(hx:x<18446744073709551616):zay k (zay k x)=zay k x/\zkY k (zay k x)=zkY k x:=by
 have key:((wideI (zbp x)).toNat:Int)=wideI (zbp x):=by have:=zde x;omega
 have e1:zbp ((wideI (zbp x)).toNat:Int)=zbp x:=by
  rw[key];unfold wideI zbp
  repeat' split
  all_goals omega
 unfold zay zkY;by_cases h1:k=1\/k=8
 . simp only[if_pos h1,e1]
   refine⟨trivial,?_⟩;rw[if_pos (by omega),if_pos (by omega)]
 . by_cases h7:k=7
   . subst h7
     simp only[if_neg h1];by_cases h0:x=0
     . subst h0;simp
     . simp[h0]
   . by_cases h3:k=3\/k=5\/k=9\/k=10\/k=11
     . simp only[if_neg h1,if_neg h7,if_pos h3]
       refine⟨Nat.mod_mod _ _,?_⟩;have a1:(((x % 4294967296:Nat):Nat):Int)=(x:Int) % 4294967296:=by omega
       rcases h3 with h|h|h|h|h
       . subst h;simp
       . subst h;simp[a1]
       . subst h;simp
       . subst h
         rw[if_pos (by decide),if_pos (by decide),a1];unfold zbp;split<;>split<;>omega
       . subst h;simp
     . simp only[if_neg h1,if_neg h7,if_neg h3]
       trivial
end Go.Proofs.YtlhbllaojjelcaaGreat
namespace Go.Proofs.YtlhbllaojjelcaaGreat
open Go.RowKit Go.Lib
def putS(k:Int)(w:Nat):List UInt8:=if 12<=k then zbK 8 (zay k w)else if 9<=k then zbK 4 (zay k w)else uvarint (zay k w)
def readS(k:Int)(bs:List UInt8):Nat×Nat:=
 if zad k=false then(0,2)
 else if 12<=k then(if bs.length=8 then(zay k (wordN bs),0)else(0,12))
 else if 9<=k then(if bs.length=4 then(zay k (wordN bs),0)else(0,12))
 else(if(readV bs).2.2=0/\(readV bs).2.1=bs.length then(zay k (readV bs).1,0)else(0,12))
theorem zbg{k:Int}{w:Nat}(hw:w<18446744073709551616):1<=(putS k w).length/\(putS k w).length<=10:=by
 unfold putS;split
 . rw[zaB];omega
 . split
   . rw[zaB];omega
   . exact⟨uvarint_pos _,uvarint_length64 (zcJ k hw)⟩
theorem zcU(k:Int)(bs:List UInt8):(readS k bs).1<18446744073709551616/\(readS k bs).2<=12:=by
 have h:=(zbt bs).1;unfold readS;split
 . simp
 . split
   . split
     . rename_i hl
       have:=zdT bs;rw[hl]at this;exact⟨zcJ k (by simpa using this),by simp⟩
     . simp
   . split
     . split
       . rename_i hl
         have:=zdT bs;rw[hl]at this;exact⟨zcJ k (Nat.lt_of_lt_of_le this (by decide)),by simp⟩
       . simp
     . split
       . exact⟨zcJ k h,by simp⟩
       . simp
theorem zfb(k:Int)(bs:List UInt8):zay k (readS k bs).1=(readS k bs).1:=by
 have h:=(zbt bs).1
 have h0:zay k 0=0:=by
  have:=zgr (k:=k) (x:=0) (by decide);unfold zay wideI zbp
  repeat' split
  all_goals simp_all
 have hw:∀x:Nat,x<18446744073709551616->zay k (zay k x)=zay k x:=fun x hx=>(zgr hx).1
 unfold readS;split
 . exact h0
 . split
   . split
     . rename_i hl
       have:=zdT bs;rw[hl]at this;exact hw _ (by simpa using this)
     . exact h0
   . split
     . split
       . rename_i hl
         have:=zdT bs;rw[hl]at this;exact hw _ (Nat.lt_of_lt_of_le this (by decide))
       . exact h0
     . split
       . exact hw _ h
       . exact h0
end Go.Proofs.YtlhbllaojjelcaaGreat
namespace Go.Proofs.YtlhbllaojjelcaaGreat
open Go.RowKit
def stepN(k:Int)(bs:List UInt8):Nat×Nat:=
 if k<9 then((readV bs).2.1,(readV bs).2.2)else if k<12 then(if bs.length<4 then(0,3)else(4,0))else(if bs.length<8 then(0,3)else(8,0))
theorem zdW(k:Int)(bs:List UInt8):((stepN k bs).2=0/\1<=(stepN k bs).1/\(stepN k bs).1<=bs.length)\/((stepN k bs).2≠0/\(stepN k bs).1=0/\(stepN k bs).2<=4):=by
 unfold stepN;split
 . have h:=zbt bs
   by_cases h0:(readV bs).2.2=0
   . exact .inl ⟨h0,h.2.2.2.2.1 h0,h.2.1⟩
   . exact .inr ⟨h0,(h.2.2.2.2.2 h0).2,h.2.2.2.1⟩
 . split
   . split
     . exact .inr ⟨by simp,rfl,by simp⟩
     . exact .inl ⟨rfl,by simp,by simp only;omega⟩
   . split
     . exact .inr ⟨by simp,rfl,by simp⟩
     . exact .inl ⟨rfl,by simp,by simp only;omega⟩
def valsF(k:Int):Nat->List UInt8->List (List UInt8×Nat)
 |0,_=>[]
 |f+1,bs=>if bs=[]then[]else if(stepN k bs).2=0 then(bs.take (stepN k bs).1,0)::valsF k f (bs.drop (stepN k bs).1)else[([],(stepN k bs).2)]
theorem zir(k:Int):∀(f g:Nat)(bs:List UInt8),bs.length<=f->bs.length<=g->valsF k f bs=valsF k g bs
 |0,0,_,_,_=>rfl
 |0,g+1,bs,h,_=>by rw[List.eq_nil_of_length_eq_zero (by omega:bs.length=0)];rfl
 |f+1,0,bs,_,h=>by rw[List.eq_nil_of_length_eq_zero (by omega:bs.length=0)];rfl
 |f+1,g+1,bs,h1,h2=>by
  unfold valsF;by_cases hb:bs=[]
  . rw[if_pos hb,if_pos hb]
  . rw[if_neg hb,if_neg hb]
    by_cases hc:(stepN k bs).2=0
    . have:=zdW k bs
      rw[if_pos hc,if_pos hc,zir k f g _ (by rw[List.length_drop];omega) (by rw[List.length_drop];omega)]
    . rw[if_neg hc,if_neg hc]
def valsV(k:Int)(bs:List UInt8):List (List UInt8×Nat):=if zad k=false then[([],2)]else valsF k bs.length bs
def codeV(k:Int)(bs:List UInt8):Nat:=match (valsV k bs).getLast? with
 |none=>0
 |some v=>v.2
theorem zis(k:Int):∀(f:Nat)(bs:List UInt8)(j:Nat)(x:List UInt8×Nat),(valsF k f bs)[j]?=some x->x.2≠0->(valsF k f bs).getLast?=some x
 |0,bs,j,x,h,_=>by simp[valsF]at h
 |f+1,bs,j,x,h,hx=>by
  unfold valsF at h⊢;by_cases hb:bs=[]
  . rw[if_pos hb]at h;simp at h
  . rw[if_neg hb]at h⊢
    by_cases hc:(stepN k bs).2=0
    . rw[if_pos hc]at h⊢
      cases j with
      |zero=>simp only[List.getElem?_cons_zero,Option.some.injEq]at h;subst h;exact absurd rfl hx
      |succ j=>
       rw[List.getElem?_cons_succ]at h;have ih:=zis k f _ j x h hx;rw[List.getLast?_cons,ih];rfl
    . rw[if_neg hc]at h⊢
      cases j with
      |zero=>simp only[List.getElem?_cons_zero,Option.some.injEq]at h;subst h;rfl
      |succ j=>simp at h
variable{bs:List UInt8}{k:Int}
theorem zfw{j:Nat}{x:List UInt8×Nat}(h:(valsV k bs)[j]?=some x)(hx:x.2≠0):codeV k bs=x.2:=by
 have hl:(valsV k bs).getLast?=some x:=by
  unfold valsV at h⊢;by_cases hk:zad k=false
  . rw[if_pos hk]at h⊢
    cases j with
    |zero=>simp only[List.getElem?_cons_zero,Option.some.injEq]at h;subst h;rfl
    |succ j=>simp at h
  . rw[if_neg hk]at h⊢
    exact zis k _ bs j x h hx
 unfold codeV;rw[hl]
theorem zfW(h:∀(j:Nat) x,(valsV k bs)[j]?=some x->x.2=0):codeV k bs=0:=by
 unfold codeV;rcases hl:(valsV k bs).getLast? with _|x
 . rfl
 . obtain⟨j,hj⟩:=List.getElem?_of_mem (List.mem_of_getLast? hl)
   exact h j x hj
def znT(k:Int)(bs:List UInt8):Nat:=if codeV k bs=0 then(valsV k bs).length else 0
theorem zjQ(k:Int):∀(f:Nat)(bs:List UInt8),(valsF k f bs).length<=f
 |0,bs=>by simp[valsF]
 |f+1,bs=>by
  unfold valsF;split
  . simp
  . split
    . have:=zjQ k f (bs.drop (stepN k bs).1);simp only[List.length_cons];omega
    . simp
theorem zhi(k:Int)(bs:List UInt8):(valsV k bs).length<=bs.length+1:=by
 unfold valsV;split
 . simp
 . have:=zjQ k bs.length bs;omega
def packW(k:Int):List Nat->List UInt8
 |[]=>[]
 |x::l=>putS k x++packW k l
theorem zit(k:Int)(x:Nat):∀l:List Nat,packW k (l++[x])=packW k l++putS k x
 |[]=>by simp[packW]
 |y::l=>by simp[packW,zit k x l]
theorem zfx(k:Int):∀l:List Nat,(∀x∈l,x<18446744073709551616)->(packW k l).length<=10*l.length
 |[],_=>by simp[packW]
 |y::l,h=>by
  have h1:=(zbg (k:=k) (h y (List.mem_cons_self ..))).2;have h2:=zfx k l (fun x hx=>h x (List.mem_cons_of_mem _ hx));simp only[packW,List.length_append,List.length_cons];omega
theorem znU{x:Nat}(hx:x<18446744073709551616)(more:List UInt8):stepN k (putS k x++more)=((putS k x).length,0):=by
 by_cases h9:k<9
 . have hp:putS k x=Lib.uvarint (zay k x):=by unfold putS;rw[if_neg (by omega),if_neg (by omega)]
   unfold stepN;rw[hp,if_pos h9,zcS _ _ (zcJ k hx)]
 . by_cases h12:k<12
   . have hp:putS k x=zbK 4 (zay k x):=by unfold putS;rw[if_neg (by omega),if_pos (by omega)]
     unfold stepN;rw[hp,if_neg h9,if_pos h12,zaB,if_neg (by rw[List.length_append,zaB];omega)]
   . have hp:putS k x=zbK 8 (zay k x):=by unfold putS;rw[if_pos (by omega)]
     unfold stepN;rw[hp,if_neg h9,if_neg h12,zaB,if_neg (by rw[List.length_append,zaB];omega)]
theorem zlW{g n:Nat}(hb:bs≠ [])(h:stepN k bs=(n,0)):valsF k (g+1) bs=(bs.take n,0)::valsF k g (bs.drop n):=by
 conv=>lhs;unfold valsF
 rw[if_neg hb,h,if_pos rfl]
theorem ziu{k:Int}:∀(ws:List Nat)(f:Nat),(∀x∈ws,x<18446744073709551616)->(packW k ws).length<=f->valsF k f (packW k ws)=ws.map fun x=>(putS k x,0)
 |[],f,_,_=>by cases f<;>rfl
 |x::l,f,h,hf=>by
  have hx:=h x (List.mem_cons_self ..);have h1:=(zbg (k:=k) hx).1;simp only[packW,List.length_append]at hf;obtain⟨g,rfl⟩:∃g,f=g+1:=⟨f - 1,by omega⟩
  have hne:putS k x++packW k l≠ []:=by
   intro e;have:=congrArg List.length e;simp only[List.length_append,List.length_nil]at this;omega
  simp only[packW];rw[zlW hne (znU hx _)];simp only[List.take_left,List.drop_left,List.map_cons];rw[ziu l g (fun y hy=>h y (List.mem_cons_of_mem _ hy)) (by omega)]
theorem zmO{ws:List Nat}(hk:zad k=true)(h:∀x∈ws,x<18446744073709551616):valsV k (packW k ws)=ws.map fun x=>(putS k x,0):=by
 unfold valsV;rw[if_neg (by rw[hk];simp),ziu ws _ h (Nat.le_refl _)]
def sumL:List (List UInt8×Nat)->Nat
 |[]=>0
 |v::l=>v.1.length+sumL l
theorem zjR(x:List UInt8×Nat):∀l,sumL (l++[x])=sumL l+x.1.length
 |[]=>by simp[sumL]
 |y::l=>by simp[sumL,zjR x l];omega
def zeg(a:Nat):List (List UInt8×Nat)->List Nat
 |[]=>[]
 |v::l=>(a+v.1.length)::zeg (a+v.1.length) l
theorem zhj(x:List UInt8×Nat):∀(l:List (List UInt8×Nat))(a:Nat),zeg a (l++[x])=zeg a l++[a+sumL l+x.1.length]
 |[],a=>by simp[zeg,sumL]
 |y::l,a=>by simp[zeg,sumL,zhj x l];omega
theorem zfX:∀(l:List (List UInt8×Nat))(a:Nat),(zeg a l).length=l.length
 |[],a=>rfl
 |y::l,a=>by simp[zeg,zfX l]
def endsV(k:Int)(bs:List UInt8):List Nat×Nat:=(if codeV k bs=0 then zeg 0 (valsV k bs)else[],codeV k bs)
structure SoFar(k:Int)(bs:List UInt8)(d:List (List UInt8×Nat))(p:Nat):Prop where
 list:valsV k bs=d++valsF k (bs.drop p).length (bs.drop p)
 fine:∀x∈d,x.2=0
 sum:p=sumL d
 len:d.length<=p
theorem SoFar.start(hk:zad k=true)(bs:List UInt8):SoFar k bs [] 0:=
 ⟨by unfold valsV;rw[if_neg (by rw[hk];simp)];rfl,fun x h=>(by cases h),rfl,Nat.le_refl _⟩
variable{p:Nat}{d:List (List UInt8×Nat)}
theorem SoFar.ends(h:SoFar k bs d p)(hp:p=bs.length):endsV k bs=(zeg 0 d,0):=by
 have e:valsV k bs=d:=by
  rw[h.list,List.drop_of_length_le (by omega)];simp[valsF]
 have hc:codeV k bs=0:=zfW (fun j x hx=>by rw[e]at hx;exact h.fine x (List.mem_of_getElem? hx));unfold endsV;rw[hc,if_pos rfl,e]
theorem SoFar.bad{k:Int}{bs:List UInt8}{d:List (List UInt8×Nat)}{p C:Nat}(h:SoFar k bs d p)(hp:p<bs.length)(hs:stepN k (bs.drop p)=(0,C))(hC:C≠0):endsV k bs=([],C):=by
 have hl:(bs.drop p).length=(bs.drop p).length - 1+1:=by rw[List.length_drop];omega
 have hne:bs.drop p≠ []:=by
  intro e;rw[e]at hl;simp at hl
 have e1:valsF k ((bs.drop p).length - 1+1) (bs.drop p)=[([],C)]:=by
  conv=>lhs;unfold valsF
  rw[if_neg hne,hs,if_neg hC]
 have e:valsV k bs=d++[([],C)]:=by rw[h.list,hl,e1]
 have hc:codeV k bs=C:=zfw (j:=d.length) (x:=([],C)) (by rw[e];simp) hC;unfold endsV;rw[hc,if_neg hC]
theorem SoFar.more{N:Nat}(h:SoFar k bs d p)(hp:p<bs.length)(hs:stepN k (bs.drop p)=(N,0)):SoFar k bs (d++[((bs.drop p).take N,0)]) (p+N)/\zeg 0 (d++[((bs.drop p).take N,0)])=zeg 0 d++[p+N]:=by
 have hl:(bs.drop p).length=(bs.drop p).length - 1+1:=by rw[List.length_drop];omega
 have hne:bs.drop p≠ []:=by
  intro e;rw[e]at hl;simp at hl
 have hbd:=zdW k (bs.drop p);rw[hs]at hbd;simp only at hbd;have hN:1<=N/\N<=(bs.drop p).length:=by omega
 have ht:((bs.drop p).take N).length=N:=by rw[List.length_take];omega
 refine⟨⟨?_,fun x hx=> ?_,?_,?_⟩,?_⟩
 . rw[h.list]
   conv=>lhs;rw[hl,zlW hne hs]
   rw[List.drop_drop,List.append_assoc];congr 2;exact zir k _ _ _ (by simp only[List.length_drop];omega) (Nat.le_refl _)
 . rcases List.mem_append.1 hx with hx|hx
   . exact h.fine x hx
   . simp only[List.mem_singleton]at hx;subst hx;rfl
 . rw[zjR,ht,<-h.sum]
 . have:=h.len
   rw[List.length_append];simp only[List.length_singleton];omega
 . rw[zhj,ht,<-h.sum]
   simp
theorem zpn(hk:zad k=false):codeV k bs=2:=
 zfw (j:=0) (x:=([],2)) (by unfold valsV;rw[if_pos hk];rfl) (by simp)
end Go.Proofs.YtlhbllaojjelcaaGreat
