/- Plain laws of layer 4: code points' bytes. No program is named. -/
import Derived.Test.YtpicpebolghcfaaGreatDoorQlW10

set_option linter.unusedVariables false
namespace Go.Proofs.YtpicpebolghcfaaGreatDoor
open Go.RowKit
def headN(b:Nat):Nat×Nat:=
 if b<128 then(1,b)else if b / 32=6 then(2,b % 32)else if b / 16=14 then(3,b % 16)else if b / 8=30 then(4,b % 8)else(0,0)
def zcD(n:Nat):Nat:=if n<=1 then 0 else if n=2 then 128 else if n=3 then 2048 else 65536
def tailB(c:UInt8):Bool:=decide (c.toNat / 64=2)
def joinN(r:Nat):List UInt8->Nat
 |[]=>r
 |c::l=>joinN (r*64+c.toNat % 64) l
def zbA(n R:Nat):Bool:= !(decide (R<zcD n)||decide (1114111<R)||(decide (55296<=R)&&decide (R<=57343)))
def nextU:List UInt8->Nat
 |[]=>0
 |b::t=>if(headN b.toNat).1=0\/t.length+1<(headN b.toNat).1 then 0
   else if(t.take ((headN b.toNat).1 - 1)).all tailB=true/\zbA (headN b.toNat).1 (joinN (headN b.toNat).2 (t.take ((headN b.toNat).1 - 1)))=true then(headN b.toNat).1 else 0
theorem zfP(b:UInt8)(t:List UInt8):nextU (b::t)=if(headN b.toNat).1=0\/t.length+1<(headN b.toNat).1 then 0
 else if(t.take ((headN b.toNat).1 - 1)).all tailB=true/\zbA (headN b.toNat).1 (joinN (headN b.toNat).2 (t.take ((headN b.toNat).1 - 1)))=true then(headN b.toNat).1 else 0:=rfl
theorem zlT(b:Nat)(h:b<256):(headN b).1<=4/\(headN b).2<128/\((headN b).2+1)*64^((headN b).1 - 1)<=2097152:=by
 unfold headN
 repeat' split
 all_goals simp only
 all_goals omega
theorem zdl:∀(l:List UInt8)(r:Nat),joinN r l+1<=(r+1)*64^l.length
 |[],r=>by simp[joinN]
 |c::l,r=>by
  have:=zdl l (r*64+c.toNat % 64);rw[joinN,List.length_cons,Nat.pow_succ]
  have h:(r*64+c.toNat % 64+1)*64^l.length<=(r+1)*(64^l.length*64):=by
   rw[Nat.mul_comm (64^l.length) 64,<-Nat.mul_assoc];exact Nat.mul_le_mul_right _ (by omega)
  omega
theorem zcT:∀(l:List UInt8)(r:Nat)(c:UInt8),joinN r (l++[c])=joinN r l*64+c.toNat % 64
 |[],r,c=>rfl
 |d::l,r,c=>by
  rw[List.cons_append,joinN,joinN];exact zcT l _ c
theorem zfm(bs:List UInt8):nextU bs<=bs.length/\nextU bs<=4:=by
 cases bs with
 |nil=>exact⟨Nat.le_refl _,by decide⟩
 |cons b t=>
  have:=(zlT b.toNat b.toNat_lt).1;rw[zfP];split
  . exact⟨Nat.zero_le _,Nat.zero_le _⟩
  . split
    . simp only[List.length_cons];omega
    . exact⟨Nat.zero_le _,Nat.zero_le _⟩
def walkV(bs:List UInt8)(room:Nat):Nat×Nat:=
 if h:nextU bs=0\/room<nextU bs then(0,0)
 else
  let p:=walkV (bs.drop (nextU bs)) (room - nextU bs)
  (nextU bs+p.1,p.2+1)
termination_by bs.length
decreasing_by
 have:=zfm bs;rw[List.length_drop];omega
variable{room:Nat}{bs:List UInt8}
theorem zmW(h:nextU bs=0\/room<nextU bs):walkV bs room=(0,0):=by
 rw[walkV,dif_pos h]
theorem zmX(h:¬(nextU bs=0\/room<nextU bs)):walkV bs room=(nextU bs+(walkV (bs.drop (nextU bs)) (room - nextU bs)).1,(walkV (bs.drop (nextU bs)) (room - nextU bs)).2+1):=by
 rw[walkV,dif_neg h]
def zca(bs:List UInt8):Bool:=decide ((walkV bs bs.length).1=bs.length)
def putU(r:Nat):List UInt8:=
 if 1114111<r\/(55296<=r/\r<=57343)then[]
 else if r<128 then[r.toUInt8]
 else if r<2048 then[(192+r / 64).toUInt8,(128+r % 64).toUInt8]
 else if r<65536 then[(224+r / 4096).toUInt8,(128+r / 64 % 64).toUInt8,(128+r % 64).toUInt8]
 else[(240+r / 262144).toUInt8,(128+r / 4096 % 64).toUInt8,(128+r / 64 % 64).toUInt8,(128+r % 64).toUInt8]
theorem u8_eq(x:Nat)(h:x<256)(c:UInt8):x.toUInt8=c<->x=c.toNat:=by
 constructor
 . intro e;rw[<-e];exact(zlP x h).symm
 . intro e;apply UInt8.toNat_inj.1;rw[zlP x h,e]
def tryN(n:Nat):List UInt8->Nat
 |[]=>0
 |b::t=>joinN (if n=2 then b.toNat % 32 else if n=3 then b.toNat % 16 else if n=4 then b.toNat % 8 else b.toNat) (t.take (n - 1))
theorem zcO{c:UInt8}:tailB c=true<->128+c.toNat % 64=c.toNat:=by
 have:=c.toNat_lt;unfold tailB;rw[decide_eq_true_iff];omega
theorem zrG(b:Nat)(h:b<256):(headN b).1=1<->b<128:=by
 unfold headN;repeat' split
 all_goals constructor
 all_goals intro h
 all_goals first|omega|(simp only at h⊢;omega)
theorem zrH(b:Nat)(h:b<256):(headN b).1=2<->b / 32=6:=by
 unfold headN;repeat' split
 all_goals constructor
 all_goals intro h
 all_goals first|omega|(simp only at h⊢;omega)
theorem zrI(b:Nat)(h:b<256):(headN b).1=3<->b / 16=14:=by
 unfold headN;repeat' split
 all_goals constructor
 all_goals intro h
 all_goals first|omega|(simp only at h⊢;omega)
theorem zrJ(b:Nat)(h:b<256):(headN b).1=4<->b / 8=30:=by
 unfold headN;repeat' split
 all_goals constructor
 all_goals intro h
 all_goals first|omega|(simp only at h⊢;omega)
theorem zok(b:Nat)(h:b<256):((headN b).1=1->(headN b).2=b)/\((headN b).1=2->(headN b).2=b % 32)/\((headN b).1=3->(headN b).2=b % 16)/\((headN b).1=4->(headN b).2=b % 8):=by
 unfold headN;repeat' split
 all_goals simp
theorem zbH(n R:Nat):zbA n R=true<->zcD n<=R/\R<=1114111/\(R<55296\/57343<R):=by
 unfold zbA;simp;omega
theorem zpM{b:UInt8}{t:List UInt8}{n:Nat}(h1:1<=n):nextU (b::t)=n<->(headN b.toNat).1=n/\n<=t.length+1/\(t.take (n - 1)).all tailB=true/\zbA n (joinN (headN b.toNat).2 (t.take (n - 1)))=true:=by
 rw[zfP];constructor
 . intro h
   split at h
   . omega
   . split at h
     . rename_i k1 k2
       subst h;exact⟨rfl,by omega,k2⟩
     . omega
 . rintro⟨rfl,h2,h3⟩
   rw[if_neg (by omega),if_pos h3]
theorem zfn(n:Nat)(h1:1<=n)(h4:n<=4)(bs:List UInt8)(hn:n<=bs.length):putU (tryN n bs)=bs.take n<->nextU bs=n:=by
 cases bs with
 |nil=>simp at hn;omega
 |cons b t=>
  have hb:=b.toNat_lt;have hle:n<=t.length+1:=by simpa using hn
  rw[zpM h1];obtain⟨e1,e2,e3,e4⟩:=zok b.toNat hb;rcases(show n=1\/n=2\/n=3\/n=4 by omega)with rfl|rfl|rfl|rfl
  . have hq:=zrG b.toNat hb
    simp only[tryN,List.take_succ_cons,List.take_zero,Nat.sub_self,joinN,List.all_nil,true_and,show¬(1=2)by decide,show¬(1=3)by decide,show¬(1=4)by decide,if_false];constructor
    . intro h
      have hlt:b.toNat<128:=by
       unfold putU at h;rw[if_neg (by omega)]at h;split at h
       . assumption
       . rw[if_pos (by omega)]at h
         simp at h
      refine⟨hq.2 hlt,by omega,?_⟩;rw[e1 (hq.2 hlt),zbH];simp only[zcD,Nat.le_refl,if_true];omega
    . rintro⟨h,_,_⟩
      have hlt:=hq.1 h;unfold putU;rw[if_neg (by omega),if_pos hlt,(u8_eq _ (by omega) _).2 rfl]
  . rcases t with _|⟨c,t⟩
    . simp at hle
    . have hc:=c.toNat_lt
      have hq:=zrH b.toNat hb;simp only[tryN,List.take_succ_cons,List.take_zero,joinN,List.all_cons,List.all_nil,Bool.and_true,if_true,show 2 - 1=1 from rfl];generalize hR:b.toNat % 32*64+c.toNat % 64=R;constructor
      . intro h
        unfold putU at h;rw[if_neg (by omega)]at h;split at h
        . simp at h
        . rw[if_pos (by omega)]at h
          simp only[List.cons.injEq,and_true]at h;rw[u8_eq _ (by omega),u8_eq _ (by omega)]at h;have hh:=hq.2 (by omega);refine⟨hh,by simp,zcO.2 (by omega),?_⟩;rw[e2 hh,hR,zbH];simp only[zcD];simp;omega
      . rintro⟨h,_,ht,hp⟩
        rw[zcO]at ht;rw[e2 h,hR,zbH]at hp;simp only[zcD]at hp;simp at hp;have:=hq.1 h;unfold putU;rw[if_neg (by omega),if_neg (by omega),if_pos (by omega)];simp only[List.cons.injEq,and_true];rw[u8_eq _ (by omega),u8_eq _ (by omega)];omega
  . rcases t with _|⟨c,_|⟨d,t⟩⟩
    . simp at hle
    . simp at hle
    . have hc:=c.toNat_lt
      have hd:=d.toNat_lt;have hq:=zrI b.toNat hb;simp only[tryN,List.take_succ_cons,List.take_zero,joinN,List.all_cons,List.all_nil,Bool.and_true,Bool.and_eq_true,if_true,show 3 - 1=2 from rfl,show¬(3=2)by decide,if_false];generalize hR:(b.toNat % 16*64+c.toNat % 64)*64+d.toNat % 64=R;constructor
      . intro h
        unfold putU at h;split at h
        . simp at h
        . split at h
          . simp at h
          . split at h
            . simp at h
            . rw[if_pos (by omega)]at h
              simp only[List.cons.injEq,and_true]at h;rw[u8_eq _ (by omega),u8_eq _ (by omega),u8_eq _ (by omega)]at h;have hh:=hq.2 (by omega);refine⟨hh,by simp,⟨zcO.2 (by omega),zcO.2 (by omega)⟩,?_⟩;rw[e3 hh,hR,zbH];simp only[zcD];simp;omega
      . rintro⟨h,_,⟨ht,ht2⟩,hp⟩
        rw[zcO]at ht ht2;rw[e3 h,hR,zbH]at hp;simp only[zcD]at hp;simp at hp;have:=hq.1 h;unfold putU;rw[if_neg (by omega),if_neg (by omega),if_neg (by omega),if_pos (by omega)];simp only[List.cons.injEq,and_true];rw[u8_eq _ (by omega),u8_eq _ (by omega),u8_eq _ (by omega)];omega
  . rcases t with _|⟨c,_|⟨d,_|⟨f,t⟩⟩⟩
    . simp at hle
    . simp at hle
    . simp at hle
    . have hc:=c.toNat_lt
      have hd:=d.toNat_lt;have hf:=f.toNat_lt;have hq:=zrJ b.toNat hb;simp only[tryN,List.take_succ_cons,List.take_zero,joinN,List.all_cons,List.all_nil,Bool.and_true,Bool.and_eq_true,if_true,show 4 - 1=3 from rfl,show¬(4=2)by decide,show¬(4=3)by decide,if_false];generalize hR:((b.toNat % 8*64+c.toNat % 64)*64+d.toNat % 64)*64+f.toNat % 64=R;constructor
      . intro h
        unfold putU at h;split at h
        . simp at h
        . split at h
          . simp at h
          . split at h
            . simp at h
            . split at h
              . simp at h
              . simp only[List.cons.injEq,and_true]at h
                rw[u8_eq _ (by omega),u8_eq _ (by omega),u8_eq _ (by omega),u8_eq _ (by omega)]at h;have hh:=hq.2 (by omega);refine⟨hh,by simp,⟨zcO.2 (by omega),zcO.2 (by omega),zcO.2 (by omega)⟩,?_⟩;rw[e4 hh,hR,zbH];simp only[zcD];simp;omega
      . rintro⟨h,_,⟨ht,ht2,ht3⟩,hp⟩
        rw[zcO]at ht ht2 ht3;rw[e4 h,hR,zbH]at hp;simp only[zcD]at hp;simp at hp;have:=hq.1 h;unfold putU;rw[if_neg (by omega),if_neg (by omega),if_neg (by omega),if_neg (by omega)];simp only[List.cons.injEq,and_true];rw[u8_eq _ (by omega),u8_eq _ (by omega),u8_eq _ (by omega),u8_eq _ (by omega)];omega
theorem zpN{α:Type}{s1 s2:Nat->α×Nat}{tt:α->Nat}{len:Nat}{g:α->Nat}(hO:zcN s1 tt len)(h1:∀p x,p<len->s1 p=(x,0)->s2 p=(x,g x))(h2:∀p,p<len->(s1 p).2≠0->(s2 p).2≠0):
 zcN s2 tt len/\∀(m p:Nat),len - p<=m->(((scan s2 tt len p).2.2=0<->(scan s1 tt len p).2.2=0/\∀x∈(scan s1 tt len p).1,g x=0)/\((scan s2 tt len p).2.2=0->(scan s2 tt len p).1=(scan s1 tt len p).1)):=by
 have hO2:zcN s2 tt len:=by
  intro p hp h0;rcases hs:s1 p with⟨x,C⟩
  by_cases hC:C=0
  . subst hC
    have:=hO p hp (by rw[hs]);rw[hs]at this;rw[h1 p x hp hs];exact this
  . exact absurd h0 (h2 p hp (by rw[hs];exact hC))
 refine⟨hO2,fun m=> ?_⟩
 induction m with
 |zero=>
  intro p h;rw[zaE (by omega),zaE (by omega)];simp
 |succ m ih=>
  intro p h;by_cases hp:len<=p
  . rw[zaE hp,zaE hp]
    simp
  . rcases hs:s1 p with⟨x,C⟩
    by_cases hC:C=0
    . subst hC
      have hx:=hO p (by omega) (by rw[hs]);rw[hs]at hx;simp only at hx;have hs2:=h1 p x (by omega) hs;obtain⟨i1,i2⟩:=ih (tt x) (by omega);rw[zbE hO (by omega) hs];by_cases hg:g x=0
      . rw[hg]at hs2
        rw[zbE hO2 (by omega) hs2];unfold pre;by_cases c1:(scan s1 tt len (tt x)).2.2=0
        . by_cases c2:(scan s2 tt len (tt x)).2.2=0
          . rw[if_pos c1,if_pos c2]
            have:=(i1.1 c2).2;simp only[List.singleton_append,List.mem_cons,forall_eq_or_imp,true_and,true_iff,hg];exact⟨this,fun _=>by rw[i2 c2]⟩
          . rw[if_pos c1,if_neg c2]
            refine⟨⟨fun h0=>absurd h0 c2,fun h0=>absurd (i1.2 ⟨c1,fun y hy=>h0.2 y (by simp[hy])⟩) c2⟩,fun h0=>absurd h0 c2⟩
        . by_cases c2:(scan s2 tt len (tt x)).2.2=0
          . exact absurd (i1.1 c2).1 c1
          . rw[if_neg c1,if_neg c2]
            exact⟨⟨fun h0=>absurd h0 c2,fun h0=>absurd h0.1 c1⟩,fun h0=>absurd h0 c2⟩
      . rw[zaR (by omega) hs2 hg]
        refine⟨⟨fun h0=>absurd h0 hg,fun h0=> ?_⟩,fun h0=>absurd h0 hg⟩;unfold pre at h0;by_cases c1:(scan s1 tt len (tt x)).2.2=0
        . rw[if_pos c1]at h0
          exact absurd (h0.2 x (by simp)) hg
        . rw[if_neg c1]at h0
          exact absurd h0.1 c1
    . have hs2:=h2 p (by omega) (by rw[hs];exact hC)
      rw[zaR (by omega) hs hC,zaR (step:=s2) (x:=(s2 p).1) (C:=(s2 p).2) (by omega) rfl hs2];exact⟨⟨fun h0=>absurd h0 hs2,fun h0=>absurd h0.1 hC⟩,fun h0=>absurd h0 hs2⟩
def zbc(sub:Option (Nat->List UInt8->Nat×Nat))(fs:List zab)(bs:List UInt8)(v:ViewD):Nat×Nat:=
 if v.field<0 then(0,0)else match fs[v.field.toNat]? with
 |none=>(0,0)
 |some f=>
  if v.run=true then(v.r.f,codeV f.kind (spanB bs v.r.a v.r.t))
  else if f.kind=15 then(v.r.f,if zca (spanB bs v.r.a v.r.t)=true then 0 else 7)
  else if f.kind=17 then match sub with
   |none=>(v.r.f,8)
   |some g=>(v.r.a+(g f.of_.toNat (spanB bs v.r.a v.r.t)).1,(g f.of_.toNat (spanB bs v.r.a v.r.t)).2)
  else(0,0)
def stepC(sub:Option (Nat->List UInt8->Nat×Nat))(fs:List zab)(bs:List UInt8)(p:Nat):ViewD×Nat:=
 if(lookV fs bs p).2=0 then((lookV fs bs p).1,(zbc sub fs bs (lookV fs bs p).1).2)else(ViewD.zero,(lookV fs bs p).2)
def zlU(sub:Option (Nat->List UInt8->Nat×Nat))(fs:List zab)(bs:List UInt8)(p:Nat):Nat:=
 if(lookV fs bs p).2=0 then(zbc sub fs bs (lookV fs bs p).1).1 else p
def fromC(sub:Option (Nat->List UInt8->Nat×Nat))(fs:List zab)(bs:List UInt8)(p:Nat):Nat×Nat:=
 if(scan (stepC sub fs bs) ViewD.to bs.length p).2.2=0 then(0,0)else(zlU sub fs bs (scan (stepC sub fs bs) ViewD.to bs.length p).2.1,(scan (stepC sub fs bs) ViewD.to bs.length p).2.2)
def zdA(sub:Option (Nat->List UInt8->Nat×Nat))(S:List MsgD)(m:Nat)(bs:List UInt8):Nat×Nat:=match S[m]? with
 |none=>(0,0)
 |some M=>fromC sub M.fields bs 0
def zai(S:List MsgD):Nat->Nat->List UInt8->Nat×Nat
 |0=>zdA none S
 |d+1=>zdA (some (zai S d)) S
def subC(S:List MsgD):Nat->Option (Nat->List UInt8->Nat×Nat)
 |0=>none
 |d+1=>some (zai S d)
theorem zaQ(S:List MsgD)(d:Nat):zai S d=zdA (subC S d) S:=by cases d<;>rfl
theorem zea(sub:Option (Nat->List UInt8->Nat×Nat))(fs:List zab)(bs:List UInt8):
 zcN (stepC sub fs bs) ViewD.to bs.length/\∀(m p:Nat),bs.length - p<=m->(((scan (stepC sub fs bs) ViewD.to bs.length p).2.2=0<->(scan (lookV fs bs) ViewD.to bs.length p).2.2=0/\∀x∈(scan (lookV fs bs) ViewD.to bs.length p).1,(zbc sub fs bs x).2=0)/\
  ((scan (stepC sub fs bs) ViewD.to bs.length p).2.2=0->(scan (stepC sub fs bs) ViewD.to bs.length p).1=(scan (lookV fs bs) ViewD.to bs.length p).1)):=by
 refine zpN (g:=fun x=>(zbc sub fs bs x).2) (zaB fs bs) (fun p x hp h=> ?_) (fun p hp h=> ?_)
 . unfold stepC
   rw[h,if_pos rfl]
 . unfold stepC
   rw[if_neg h];exact h
variable{p:Nat}{fs:List zab}{sub:Option (Nat->List UInt8->Nat×Nat)}
theorem zha(h:bs.length<=p):fromC sub fs bs p=(0,0):=by
 unfold fromC;rw[zaE h,if_pos rfl]
variable{C:Nat}{v:ViewD}
theorem zih(h:p<bs.length)(hl:lookV fs bs p=(v,C))(hC:C≠0):fromC sub fs bs p=(p,C):=by
 have hs:stepC sub fs bs p=(ViewD.zero,C):=by unfold stepC;rw[hl,if_neg hC]
 unfold fromC;rw[zaR h hs hC,if_neg hC];unfold zlU;rw[hl,if_neg hC]
variable{P:Nat}
theorem zjH(h:p<bs.length)(hl:lookV fs bs p=(v,0))(hv:zbc sub fs bs v=(P,C))(hC:C≠0):fromC sub fs bs p=(P,C):=by
 have hs:stepC sub fs bs p=(v,C):=by unfold stepC;rw[hl,if_pos rfl,hv]
 unfold fromC;rw[zaR h hs hC,if_neg hC];unfold zlU;rw[hl,if_pos rfl,hv]
theorem zlV(h:p<bs.length)(hl:lookV fs bs p=(v,0))(hv:zbc sub fs bs v=(P,0)):fromC sub fs bs p=fromC sub fs bs v.r.t:=by
 have hs:stepC sub fs bs p=(v,0):=by unfold stepC;rw[hl,if_pos rfl,hv]
 unfold fromC;rw[zbE (zea sub fs bs).1 h hs];unfold pre ViewD.to;by_cases c:(scan (stepC sub fs bs) (fun v=>v.r.t) bs.length v.r.t).2.2=0
 . rw[if_pos c,if_pos rfl,if_pos c]
 . rw[if_neg c,if_neg c]
variable{M:MsgD}{m:Nat}{S:List MsgD}
theorem zaA(hm:S[m]?=some M)(bs:List UInt8):
 (zdA sub S m bs).2=0<->(zae M.fields bs).2.2=0/\∀v∈(zae M.fields bs).1,(zbc sub M.fields bs v).2=0:=by
 unfold zdA;rw[hm];simp only;have h:=((zea sub M.fields bs).2 bs.length 0 (by omega)).1;unfold zae;rw[<-h];unfold fromC;by_cases c:(scan (stepC sub M.fields bs) ViewD.to bs.length 0).2.2=0
 . rw[if_pos c];simp[c]
 . rw[if_neg c]
def deepC(sub:Option (Nat->List UInt8->Nat))(fs:List zab)(bs:List UInt8)(v:ViewD):Nat:=
 if v.field<0 then 0 else match fs[v.field.toNat]? with
 |none=>0
 |some f=>if v.run=true then 0 else if f.kind=17 then match sub with
  |none=>0
  |some g=>1+g f.of_.toNat (spanB bs v.r.a v.r.t)
  else 0
def deepL(sub:Option (Nat->List UInt8->Nat))(fs:List zab)(bs:List UInt8):List ViewD->Nat
 |[]=>0
 |v::L=>max (deepC sub fs bs v) (deepL sub fs bs L)
def deepM(sub:Option (Nat->List UInt8->Nat))(S:List MsgD)(m:Nat)(bs:List UInt8):Nat:=match S[m]? with
 |none=>0
 |some M=>deepL sub M.fields bs (zae M.fields bs).1
def deepV(S:List MsgD):Nat->Nat->List UInt8->Nat
 |0=>deepM none S
 |d+1=>deepM (some (deepV S d)) S
def subD(S:List MsgD):Nat->Option (Nat->List UInt8->Nat)
 |0=>none
 |d+1=>some (deepV S d)
theorem zlW(S:List MsgD)(d:Nat):deepV S d=deepM (subD S d) S:=by cases d<;>rfl
theorem zgo(sub:Option (Nat->List UInt8->Nat))(fs:List zab)(bs:List UInt8):∀L K:List ViewD,deepL sub fs bs (L++K)=max (deepL sub fs bs L) (deepL sub fs bs K)
 |[],K=>by simp[deepL]
 |v::L,K=>by simp only[List.cons_append,deepL,zgo sub fs bs L K];omega
theorem zhb{sub sub':Option (Nat->List UInt8->Nat)}{fs:List zab}{bs bs':List UInt8}:∀{L:List ViewD},(∀v∈L,deepC sub fs bs v=deepC sub' fs bs' v)->deepL sub fs bs L=deepL sub' fs bs' L
 |[],_=>rfl
 |v::L,h=>by
  have:=zhb (L:=L) (fun x hx=>h x (List.mem_cons_of_mem _ hx));simp only[deepL,this,h v (List.mem_cons_self ..)]
theorem zbO(h:v∈(zae fs bs).1):v.r.f<v.r.a/\v.r.a<=v.r.t/\v.r.t<=bs.length:=by
 have:=zci (zbI fs bs v h).1;omega
theorem zfo(a b:List UInt8){x t:Nat}(h:t<=a.length):spanB (a++b) x t=spanB a x t:=by
 unfold spanB;rw[List.take_append_of_le_length h]
theorem zex(a b:List UInt8)(x t:Nat):spanB (a++b) (a.length+x) (a.length+t)=spanB b x t:=by
 unfold spanB;rw[List.take_length_add_append,List.drop_length_add_append]
variable{a:List UInt8}
theorem zhc(sub:Option (Nat->List UInt8->Nat×Nat))(b:List UInt8)(h:v.r.t<=a.length):zbc sub fs (a++b) v=zbc sub fs a v:=by
 unfold zbc;rw[zfo a b h]
theorem zgp(sub:Option (Nat->List UInt8->Nat×Nat))(a b:List UInt8)(v:ViewD):(zbc sub fs (a++b) (v.shift a.length)).2=(zbc sub fs b v).2:=by
 have hs:spanB (a++b) (v.shift a.length).r.a (v.shift a.length).r.t=spanB b v.r.a v.r.t:=by
  unfold ViewD.shift Rec.shift;simp only;rw[Nat.add_comm v.r.a,Nat.add_comm v.r.t];exact zex a b _ _
 have h1:(v.shift a.length).field=v.field:=rfl;have h2:(v.shift a.length).run=v.run:=rfl;unfold zbc;rw[hs,h1,h2];split
 . rfl
 . split
   . rfl
   . split
     . rfl
     . split
       . rfl
       . split
         . cases sub<;>rfl
         . rfl
theorem zmY(sub:Option (Nat->List UInt8->Nat))(b:List UInt8)(h:v.r.t<=a.length):deepC sub fs (a++b) v=deepC sub fs a v:=by
 unfold deepC;rw[zfo a b h]
theorem zkQ(sub:Option (Nat->List UInt8->Nat))(a b:List UInt8)(v:ViewD):deepC sub fs (a++b) (v.shift a.length)=deepC sub fs b v:=by
 have hs:spanB (a++b) (v.shift a.length).r.a (v.shift a.length).r.t=spanB b v.r.a v.r.t:=by
  unfold ViewD.shift Rec.shift;simp only;rw[Nat.add_comm v.r.a,Nat.add_comm v.r.t];exact zex a b _ _
 have h1:(v.shift a.length).field=v.field:=rfl;have h2:(v.shift a.length).run=v.run:=rfl;unfold deepC;rw[hs,h1,h2]
variable{d:Nat}
theorem zcP(b:List UInt8)(h:(zai S d m a).2=0):
 ((zai S d m (a++b)).2=0<->(zai S d m b).2=0)/\((zai S d m b).2=0->deepV S d m (a++b)=max (deepV S d m a) (deepV S d m b)):=by
 rw[zaQ]at h⊢;rw[zlW];rcases hm:S[m]? with _|M
 . simp[zdA,deepM,hm]
 . rw[zaA hm]at h
   rw[zaA hm,zaA hm];unfold deepM;simp only[hm];rw[zbM h.1];by_cases hb:(zae M.fields b).2.2=0
   . rw[if_pos hb]
     constructor
     . constructor
       . rintro⟨_,h2⟩
         refine⟨hb,fun v hv=> ?_⟩;rw[<-zgp _ a b v];exact h2 _ (List.mem_append_right _ (List.mem_map_of_mem hv))
       . rintro⟨_,h2⟩
         refine⟨rfl,fun v hv=> ?_⟩;rcases List.mem_append.1 hv with hv|hv
         . rw[zhc _ b (zbO hv).2.2]
           exact h.2 v hv
         . obtain⟨u,hu,rfl⟩:=List.mem_map.1 hv
           rw[zgp];exact h2 u hu
     . intro _
       rw[zgo];congr 1
       . exact zhb fun v hv=>zmY _ b (zbO hv).2.2
       . have key:∀L:List ViewD,deepL (subD S d) M.fields (a++b) (L.map (ViewD.shift a.length))=deepL (subD S d) M.fields b L:=by
          intro L
          induction L with
          |nil=>rfl
          |cons v L ih=>simp only[List.map_cons,deepL,ih,zkQ]
         exact key _
   . rw[if_neg hb]
     exact⟨⟨fun h0=>absurd h0.1 hb,fun h0=>absurd h0.1 hb⟩,fun h0=>absurd h0.1 hb⟩
theorem zmZ(h:(fromC sub fs bs p).2=0):(scan (lookV fs bs) ViewD.to bs.length p).2.2=0:=by
 have hh:=((zea sub fs bs).2 (bs.length - p) p (Nat.le_refl _)).1;refine(hh.1 ?_).1;unfold fromC at h;by_cases c:(scan (stepC sub fs bs) ViewD.to bs.length p).2.2=0
 . exact c
 . rw[if_neg c]at h;exact absurd h c
def fromD(sub:Option (Nat->List UInt8->Nat))(fs:List zab)(bs:List UInt8)(p:Nat):Nat:=deepL sub fs bs (scan (lookV fs bs) ViewD.to bs.length p).1
variable{sd:Option (Nat->List UInt8->Nat)}
theorem zol(h:bs.length<=p):fromD sd fs bs p=0:=by
 unfold fromD;rw[zaE h];rfl
theorem zpO(h:p<bs.length)(hl:lookV fs bs p=(v,0))(hr:(fromC sub fs bs v.r.t).2=0):
 fromD sd fs bs p=max (deepC sd fs bs v) (fromD sd fs bs v.r.t):=by
 have hc:=zmZ hr;unfold fromD;rw[zbE (zaB fs bs) h hl];unfold pre ViewD.to at*;rw[if_pos hc];rfl
theorem zhd(hm:S[m]?=some M)(bs:List UInt8):zai S d m bs=fromC (subC S d) M.fields bs 0/\deepV S d m bs=fromD (subD S d) M.fields bs 0:=by
 rw[zaQ,zlW];unfold zdA deepM;rw[hm];exact⟨rfl,rfl⟩
theorem zii(h:lookV fs bs p=(v,0)):v.field= -1\/∃k f,v.field=(k:Nat)/\fs[k]?=some f:=by
 obtain⟨_,h2⟩:=zbW h;rcases zaL (numP (v.r.n:Int)) fs with⟨h1,_⟩|⟨k,f,h1,h3,_⟩
 . rw[zbL h1]at h2
   simp only[Prod.mk.injEq,and_true]at h2;exact .inl (by rw[<-h2])
 . rw[zbD h1 h3]at h2
   split at h2
   . simp only[Prod.mk.injEq,and_true]at h2
     exact .inr ⟨k,f,by rw[<-h2],h3⟩
   . split at h2
     . simp only[Prod.mk.injEq,and_true]at h2
       exact .inr ⟨k,f,by rw[<-h2],h3⟩
     . simp only[Prod.mk.injEq]at h2
       omega
theorem zjI(sub:Option (Nat->List UInt8->Nat×Nat))(sd:Option (Nat->List UInt8->Nat))(h:v.field= -1):zbc sub fs bs v=(0,0)/\deepC sd fs bs v=0:=by
 unfold zbc deepC;rw[if_pos (by omega),if_pos (by omega)];exact⟨rfl,rfl⟩
variable{f:zab}{k:Nat}
theorem zdB(sub:Option (Nat->List UInt8->Nat×Nat))(sd:Option (Nat->List UInt8->Nat))(h:v.field=(k:Nat))(hf:fs[k]?=some f)(hr:v.run=true):zbc sub fs bs v=(v.r.f,codeV f.kind (spanB bs v.r.a v.r.t))/\deepC sd fs bs v=0:=by
 unfold zbc deepC;have hneg:¬(k:Int)<0:=by omega
 simp only[h,Int.toNat_natCast,hf,if_neg hneg];simp only[if_pos hr];exact⟨trivial,trivial⟩
theorem zcZ(sub:Option (Nat->List UInt8->Nat×Nat))(sd:Option (Nat->List UInt8->Nat))(h:v.field=(k:Nat))(hf:fs[k]?=some f)(hr:v.run=false)(hk:f.kind=15):zbc sub fs bs v=(v.r.f,if zca (spanB bs v.r.a v.r.t)=true then 0 else 7)/\deepC sd fs bs v=0:=by
 unfold zbc deepC;have hneg:¬(k:Int)<0:=by omega
 simp only[h,Int.toNat_natCast,hf,if_neg hneg];have h17:¬f.kind=17:=by omega
 simp only[hr,if_pos hk,if_neg h17];exact⟨rfl,rfl⟩
theorem zbq(h:v.field=(k:Nat))(hf:fs[k]?=some f)(hr:v.run=false)(hk:f.kind=17):
 (d=0->zbc (subC S d) fs bs v=(v.r.f,8))/\∀e,d=e+1->zbc (subC S d) fs bs v=(v.r.a+(zai S e f.of_.toNat (spanB bs v.r.a v.r.t)).1,(zai S e f.of_.toNat (spanB bs v.r.a v.r.t)).2)/\deepC (subD S d) fs bs v=1+deepV S e f.of_.toNat (spanB bs v.r.a v.r.t):=by
 unfold zbc deepC;have hneg:¬(k:Int)<0:=by omega
 simp only[h,Int.toNat_natCast,hf,if_neg hneg];have h15:¬f.kind=15:=by omega
 simp only[hr,if_pos hk,if_neg h15];refine⟨fun h0=>by subst h0;rfl,fun e he=>by subst he;exact⟨rfl,rfl⟩⟩
theorem zcE(sub:Option (Nat->List UInt8->Nat×Nat))(sd:Option (Nat->List UInt8->Nat))(h:v.field=(k:Nat))(hf:fs[k]?=some f)(hr:v.run=false)(h15:¬f.kind=15)(h17:¬f.kind=17):zbc sub fs bs v=(0,0)/\deepC sd fs bs v=0:=by
 unfold zbc deepC;have hneg:¬(k:Int)<0:=by omega
 simp only[h,Int.toNat_natCast,hf,if_neg hneg];simp only[hr,if_neg h15,if_neg h17];exact⟨rfl,rfl⟩
theorem zbV(h:zan S=true){i:Nat}{m:MsgD}(hm:S[i]?=some m)(hf:m.fields[k]?=some f)(h17:f.kind=17):∃o:Nat,f.of_=(o:Nat)/\o<S.length:=by
 have ho:=(zcW ((zbd h hm).2.2.2 k f hf)).2.2.2.2.2.2;unfold ofB at ho;rw[h17]at ho;simp only[beq_self_eq_true,Bool.true_and,Bool.or_eq_false_iff,decide_eq_false_iff_not]at ho;refine⟨f.of_.toNat,by omega,by omega⟩
def argsV(S:List MsgD)(root d:Int):Nat:=if zan S=false then 9 else if root<0\/(S.length:Int)<=root\/d<0\/64<d then 2 else 0
def zaM(S:List MsgD)(root:Int)(bs:List UInt8)(d:Int):Nat×Nat:=if argsV S root d=0 then zai S d.toNat root.toNat bs else(0,argsV S root d)
end Go.Proofs.YtpicpebolghcfaaGreatDoor
