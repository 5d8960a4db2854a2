/- Contracts of layer 14: tree.Of. -/
import Derived.Test.YtpicpebolghcfaaGreatDoorQlW14x
import Derived.Test.YtpicpebolghcfaaGreatDoorQlW32

set_option linter.unusedVariables false
set_option maxRecDepth 100000
set_option maxHeartbeats 4000000
namespace Go.Proofs.YtpicpebolghcfaaGreatDoor
open Go.RowKit Go.Shelf Tryz
theorem zlw{S:List MsgD}{root d:Int}{bs:List UInt8}(h:(zaM S root bs d).2=0):zan S=true/\0<=root/\root<S.length/\0<=d/\d<=64/\(zai S d.toNat root.toNat bs).2=0:=by
 unfold zaM at h;by_cases h0:argsV S root d=0
 . rw[if_pos h0]at h
   unfold argsV at h0;split at h0
   . cases h0
   . rename_i hr
     split at h0
     . cases h0
     . exact⟨by simpa using hr,by omega,by omega,by omega,by omega,h⟩
 . rw[if_neg h0]at h
   exact absurd h h0
end Go.Proofs.YtpicpebolghcfaaGreatDoor
namespace Go.Proofs.YtpicpebolghcfaaGreatDoor
open Go.RowKit Tryz
open Go.Lib (uvarint)
def itemN(bs:List UInt8):Nat×Nat×Nat:=
 if(readV bs).2.2≠0 then(0,0,(readV bs).2.2)else if bs.length - (readV bs).2.1<(readV bs).1 then(0,0,3)else((readV bs).2.1,(readV bs).1,0)
theorem zmC(bs:List UInt8):((itemN bs).2.2=0/\1<=(itemN bs).1/\(itemN bs).1+(itemN bs).2.1<=bs.length/\(itemN bs).2.1=(readV bs).1/\(itemN bs).1=(readV bs).2.1/\(readV bs).2.2=0)\/((itemN bs).2.2≠0/\(itemN bs).2.2<=4):=by
 have h:=zaP bs;unfold itemN;by_cases h0:(readV bs).2.2≠0
 . rw[if_pos h0]
   exact .inr ⟨h0,h.2.2.2.1⟩
 . rw[if_neg h0]
   have h0':(readV bs).2.2=0:=by omega
   split
   . exact .inr ⟨by simp,by simp⟩
   . exact .inl ⟨rfl,h.2.2.2.2.1 h0',by simp only;omega,rfl,rfl,h0'⟩
def zaY:Nat->List UInt8->List (List UInt8×Nat)
 |0,_=>[]
 |f+1,bs=>if bs=[]then[]else if(itemN bs).2.2=0 then((bs.drop (itemN bs).1).take (itemN bs).2.1,0)::zaY f (bs.drop ((itemN bs).1+(itemN bs).2.1))else[([],(itemN bs).2.2)]
theorem zhL:∀(f g:Nat)(bs:List UInt8),bs.length<=f->bs.length<=g->zaY f bs=zaY g bs
 |0,0,_,_,_=>rfl
 |0,g+1,bs,h,_=>by rw[List.eq_nil_of_length_eq_zero (by omega:bs.length=0)];rfl
 |f+1,0,bs,_,h=>by rw[List.eq_nil_of_length_eq_zero (by omega:bs.length=0)];rfl
 |f+1,g+1,bs,h1,h2=>by
  unfold zaY;by_cases hb:bs=[]
  . rw[if_pos hb,if_pos hb]
  . rw[if_neg hb,if_neg hb]
    by_cases hc:(itemN bs).2.2=0
    . have:=zmC bs
      rw[if_pos hc,if_pos hc,zhL f g _ (by rw[List.length_drop];omega) (by rw[List.length_drop];omega)]
    . rw[if_neg hc,if_neg hc]
theorem ziJ:∀(f:Nat)(bs:List UInt8),(zaY f bs).length<=f
 |0,bs=>by simp[zaY]
 |f+1,bs=>by
  unfold zaY;split
  . simp
  . split
    . have:=ziJ f (bs.drop ((itemN bs).1+(itemN bs).2.1));simp only[List.length_cons];omega
    . simp
variable{bs:List UInt8}
theorem zhM{f:Nat}(hb:bs≠ [])(h:(itemN bs).2.2=0):zaY (f+1) bs=((bs.drop (itemN bs).1).take (itemN bs).2.1,0)::zaY f (bs.drop ((itemN bs).1+(itemN bs).2.1)):=by
 conv=>lhs;unfold zaY
 rw[if_neg hb,if_pos h]
def zaI(rep:Bool)(bs:List UInt8):List (List UInt8×Nat):=if rep=true then zaY bs.length bs else[(bs,0)]
theorem ziK(rep:Bool)(bs:List UInt8):(zaI rep bs).length<=bs.length+1:=by
 unfold zaI;split
 . have:=ziJ bs.length bs
   omega
 . simp
def oneL(S:List MsgD)(f:zab)(d:Int)(b:List UInt8):Nat:=
 if zaf f.kind=true then(readS f.kind b).2 else if f.kind=15 then(if zca b=true then 0 else 7)else if f.kind=17 then(zaM S f.of_ b d).2 else 0
def zbi(g:List UInt8->Nat):List (List UInt8×Nat)->Nat
 |[]=>0
 |x::l=>if x.2≠0 then x.2 else if g x.1≠0 then g x.1 else zbi g l
theorem zkp{g:List UInt8->Nat}:∀{l:List (List UInt8×Nat)}{j:Nat}{x:List UInt8×Nat},l[j]?=some x->(∀i y,i<j->l[i]?=some y->y.2=0/\g y.1=0)->(x.2≠0->zbi g l=x.2)/\(x.2=0->g x.1≠0->zbi g l=g x.1)
 |[],j,x,h,_=>by simp at h
 |y::l,0,x,h,_=>by
  simp only[List.getElem?_cons_zero,Option.some.injEq]at h;subst h;refine⟨fun h=> ?_,fun h h2=> ?_⟩
  . unfold zbi
    rw[if_pos h]
  . unfold zbi
    rw[if_neg (by simpa using h),if_pos h2]
 |y::l,j+1,x,h,hf=>by
  obtain⟨h1,h2⟩:=hf 0 y (by omega) rfl;rw[List.getElem?_cons_succ]at h;have ih:=zkp (g:=g) (l:=l) h (fun i z hi hz=>hf (i+1) z (by omega) (by rw[List.getElem?_cons_succ];exact hz))
  have e:zbi g (y::l)=zbi g l:=by
   conv=>lhs;unfold zbi
   rw[if_neg (by simpa using h1),if_neg (by simpa using h2)]
  rw[e];exact ih
theorem zgj{g:List UInt8->Nat}:∀{l:List (List UInt8×Nat)},(∀x∈l,x.2=0/\g x.1=0)->zbi g l=0
 |[],_=>rfl
 |y::l,h=>by
  obtain⟨h1,h2⟩:=h y List.mem_cons_self;unfold zbi;rw[if_neg (by simpa using h1),if_neg (by simpa using h2)];exact zgj (fun x hx=>h x (List.mem_cons_of_mem _ hx))
theorem zfg{g:List UInt8->Nat}:∀{l:List (List UInt8×Nat)},zbi g l=0->∀x∈l,x.2=0/\g x.1=0
 |[],_,x,hx=>by cases hx
 |y::l,h,x,hx=>by
  unfold zbi at h;by_cases h1:y.2=0
  . by_cases h2:g y.1=0
    . rw[if_neg (by simpa using h1),if_neg (by simpa using h2)]at h
      rcases List.mem_cons.1 hx with rfl|hx
      . exact⟨h1,h2⟩
      . exact zfg h x hx
    . rw[if_neg (by simpa using h1),if_pos h2]at h
      exact absurd h h2
  . rw[if_pos h1]at h
    exact absurd h h1
def runL(f:zab):Bool:=f.rep&&zaf f.kind
def codeL(S:List MsgD)(f:zab)(bs:List UInt8)(d:Int):Nat:=
 if argsL S f d≠0 then argsL S f d else if runL f=true then codeV f.kind bs else zbi (oneL S f d) (zaI f.rep bs)
variable{d:Int}{f:zab}{S:List MsgD}
theorem zen(h:argsL S f d≠0):codeL S f bs d=argsL S f d:=if_pos h
theorem zfF(h:argsL S f d=0)(hr:runL f=true):codeL S f bs d=codeV f.kind bs:=by
 unfold codeL;rw[if_neg (by simpa using h),if_pos hr]
theorem zdi(h:argsL S f d=0)(hr:runL f=false):codeL S f bs d=zbi (oneL S f d) (zaI f.rep bs):=by
 unfold codeL;rw[if_neg (by simpa using h),if_neg (by rw[hr];decide)]
end Go.Proofs.YtpicpebolghcfaaGreatDoor
namespace Go.Proofs.YtpicpebolghcfaaGreatDoor
open Go.RowKit Go.Shelf Tryz
inductive zfG:Option Addr->Nat->Nat->List UInt8->List RunV->Prop
 |nil (A:Option Addr) (c:Nat):zfG A 0 c [] []
 |ok {A A1 A2 A3:Option Addr} {m c n k:Nat} {bs:List UInt8} {vs:List RunV} (hb:bs≠ []) (h:readV bs=(k,n,0)) (hk:k<=bs.length - n)
  (h2:∀W:World,(Instr.slice 24 (.slice A m c) (some (.int .i64 (n:Int))) none none).run prog W=.ok (.slice A2 (m - n) (c - n)) W)
  (h1:∀W:World,(Instr.slice 24 (.slice A2 (m - n) (c - n)) none (some (.int .u64 (k:Int))) none).run prog W=.ok (.slice A1 k (c - n)) W)
  (h3:∀W:World,(Instr.slice 24 (.slice A2 (m - n) (c - n)) (some (.int .u64 (k:Int))) none none).run prog W=.ok (.slice A3 (m - n - k) (c - n - k)) W)
  (hA:∀s,InS s A->InS s A2) (hA3:∀s,InS s A2->InS s A3) (t:zfG A3 (m - n - k) (c - n - k) (bs.drop (n+k)) vs):zfG A m c bs (⟨A1,k,c - n,(bs.drop n).take k,0⟩::vs)
 |bad {A:Option Addr} {m c C k n:Nat} {bs:List UInt8} (hb:bs≠ []) (h:readV bs=(k,n,C)) (hC:C≠0):zfG A m c bs [⟨none,0,0,[],C⟩]
 |long {A A2:Option Addr} {m c k n:Nat} {bs:List UInt8} (hb:bs≠ []) (h:readV bs=(k,n,0)) (hk:bs.length - n<k)
  (h2:∀W:World,(Instr.slice 24 (.slice A m c) (some (.int .i64 (n:Int))) none none).run prog W=.ok (.slice A2 (m - n) (c - n)) W):zfG A m c bs [⟨none,0,0,[],3⟩]
theorem ziL:∀(f:Nat)(A:Option Addr)(m c:Nat)(bs:List UInt8)(w:World),zac w A m c bs->bs.length<=f->
 ∃vs,zfG A m c bs vs/\(∀v∈vs,zac w v.A v.n v.c v.bs/\v.e<=4/\v.n<=m)/\vs.map (fun v=>(v.bs,v.e))=zaY f bs
 |f,A,m,c,[],w,hb,_=>by
  have hm:=hb.length;simp only[List.length_nil]at hm;subst hm;exact⟨[],.nil A c,(fun v h=>by cases h),(by cases f<;>rfl)⟩
 |0,A,m,c,a::l,w,hb,h=>by simp at h
 |f+1,A,m,c,a::l,w,hb,h=>by
  have hm:=hb.length;rcases hr:readV (a::l)with⟨k,n,C⟩
  have hbd:=zaP (a::l);rw[hr]at hbd;simp only at hbd;have hit:itemN (a::l)=if C≠0 then(0,0,C)else if(a::l).length - n<k then(0,0,3)else(n,k,0):=by unfold itemN;rw[hr]
  by_cases hC:C=0
  . subst hC
    rw[if_neg (by simp)]at hit;have hn1:=hbd.2.2.2.2.1 rfl;have hn:n<=m:=by omega
    obtain⟨A2,h2,r2⟩:=zbx elemB hb .i64 (l:=n) hn;obtain⟨A4,h5,h4⟩:=zfk elemB hb .i64 (l:=n) hn
    have e4:A4=A2:=by
     have e:=(h2 w).symm.trans (h4 w);injection e with e _;injection e with e _ _;exact e.symm
    rw[e4]at h5;have r2':zac w A2 (m - n) (c - n) ((a::l).drop n):=by unfold zac;rw[List.map_drop];simpa using r2
    by_cases hk:(a::l).length - n<k
    . rw[if_pos hk]at hit
      refine⟨_,.long (by simp) hr hk h2,fun v hv=> ?_,?_⟩
      . simp only[List.mem_singleton]at hv
        subst hv;exact⟨zac.nil w,by simp,by simp⟩
      . conv=>rhs;unfold zaY
        rw[if_neg (by simp),hit,if_neg (by simp)];rfl
    . rw[if_neg hk]at hit
      have hk':k<=m - n:=by omega
      obtain⟨A1,h1,r1⟩:=zgR elemB r2' .u64 (m:=k) hk';obtain⟨A3,h3,r3⟩:=zbx elemB r2' .u64 (l:=k) hk';obtain⟨A5,h6,h7⟩:=zfk elemB r2' .u64 (l:=k) hk'
      have e5:A5=A3:=by
       have e:=(h3 w).symm.trans (h7 w);injection e with e _;injection e with e _ _;exact e.symm
      rw[e5]at h6;have r1':zac w A1 k (c - n) (((a::l).drop n).take k):=by unfold zac;rw[List.map_take];simpa using r1
      have r3':zac w A3 (m - n - k) (c - n - k) ((a::l).drop (n+k)):=by
       rw[<-List.drop_drop];unfold zac;rw[List.map_drop];simpa using r3
      obtain⟨vs,c1,c2,c3⟩:=ziL f A3 (m - n - k) (c - n - k) ((a::l).drop (n+k)) w r3' (by rw[List.length_drop];simp only[List.length_cons]at h⊢;omega);refine⟨⟨A1,k,c - n,((a::l).drop n).take k,0⟩::vs,.ok (by simp) hr (by omega) h2 h1 h3 h5 h6 c1,fun v hv=> ?_,?_⟩
      . rcases List.mem_cons.1 hv with rfl|hv
        . exact⟨r1',by simp,by simp only;omega⟩
        . have:=c2 v hv
          exact⟨this.1,this.2.1,by omega⟩
      . rw[List.map_cons,c3]
        conv=>rhs;unfold zaY
        rw[if_neg (by simp),hit,if_pos rfl]
  . rw[if_pos hC]at hit
    refine⟨[⟨none,0,0,[],C⟩],.bad (by simp) hr hC,fun v hv=> ?_,?_⟩
    . simp only[List.mem_singleton]at hv
      subst hv;exact⟨zac.nil w,by simp only;omega,Nat.zero_le _⟩
    . conv=>rhs;unfold zaY
      rw[if_neg (by simp),hit,if_neg hC];rfl
variable{vs:List RunV}{bs:List UInt8}{m c:Nat}{A:Option Addr}
theorem zpd(h:zfG A m c bs vs)(hl:bs.length=m):(m=0/\vs=[])\/(0<m/\bs≠ []):=by
 have hp:∀{bs:List UInt8},bs≠ []->0<bs.length:=fun{bs} hb=>by
  cases bs with
  |nil=>exact absurd rfl hb
  |cons a l=>simp
 cases h with
 |nil=>exact .inl ⟨rfl,rfl⟩
 |ok hb=>exact .inr ⟨by have:=hp hb;omega,hb⟩
 |bad hb=>exact .inr ⟨by have:=hp hb;omega,hb⟩
 |long hb=>exact .inr ⟨by have:=hp hb;omega,hb⟩
theorem zpe{B:Nat}{s:Nat->Prop}{w:World}(hb:zac w A m c bs)(hm:m<=1000000000)(hch:zfG A m c bs vs)(cB:BlkT w B 24 #[.slice A m c])(hsB:s B)(hA:0<m->InS (fun b=>s b/\b≠B) A):
 IterK prog 154 #[.pointer (some ⟨B,0,none⟩)] (fun v=>#[runV v]) vs s B w:=by
 intro l J Jx W hsz hsame hJ hJx hJs hY h0;have cBW:BlkT W B 24 #[.slice A m c]:=(hsame B hsB).trans cB;have hbW:zac W A m c bs:=zcw hb (fun h0 a ha=>(hA h0 a ha).1) hsame;have HJ:=zsz hJ;have HY:=zsz hY;have Hch:=zsz hch;have HcB:=zsz cBW;clear hJ hY hJx hJs hsame hsz hb cB hch cBW;refine callsIn_of_wp func154 rfl trivial ?_ rfl;simp only[ntmps154,List.size_toArray,List.length_cons,List.length_nil,Nat.reduceAdd,Nat.reduceSub,Array.replicate_succ,Array.replicate_zero,List.push_toArray,List.append_toArray,List.nil_append,List.cons_append]
 gi_wp2
 gi_loopw [3,4,5] (fun _ _ _ wr=>∃(j:Nat)(A':Option Addr)(m' c':Nat)(bs':List UInt8),Hid (zfG A' m' c' bs' (vs.drop j))/\j<=vs.length/\Hid (BlkT wr B 24 #[.slice A' m' c'])/\zac wr A' m' c' bs'/\m'<=1000000000/\(0<m'->InS (fun b=>s b/\b≠B) A')/\J j wr)
  (fun _ _ _ wr=>lenOf ((wr.cell? ⟨B,0,none⟩).getD undef))
 case atStart=>exact⟨0,A,m,c,bs,by simpa using Hch,Nat.zero_le _,HcB,hbW,hm,hA,h0⟩
 case round=>
  obtain⟨j,A',m',c',bs',hc,hj,hB,hb',hm',hA',hJj⟩:=hrel;have b0:wr.cell? ⟨B,0,none⟩=some (.slice A' m' c'):=hB.out.cell 0;have bf:wr.frozen? ⟨B,0,none⟩=false:=hB.out.free 0;have bl:=hB.out.lt;have hbl:=hb'.length;rcases zpd hc.out hbl with⟨rfl,hnil⟩|⟨hpos,hbs⟩
  . have hje:j=vs.length:=by
     have:=congrArg List.length hnil;rw[List.length_drop]at this;simp only[List.length_nil]at this;omega
    subst hje;have HJj:=zsz hJj;clear hnil hJj hbl
    gi_wp2
    go_end0
    exact⟨⟨_,rfl⟩,.inl HJj.out⟩
  . have hposi:(0:Int)<m':=by omega
    have hcc:=hc.out
    cases hd:vs.drop j with
    |nil=>rw[hd]at hcc;cases hcc;exact absurd rfl hbs
    |cons v vs'=>
     have hjl:j<vs.length:=by
      have:=congrArg List.length hd;rw[List.length_drop]at this;simp only[List.length_cons]at this;omega
     have hvj:vs[j]?=some v:=by have:=congrArg (fun l=>l[0]?) hd;simpa using this
     have hd2:vs.drop (j+1)=vs':=by have:=congrArg (List.drop 1) hd;simpa using this
     rw[hd]at hcc
     cases hcc with
     | @ok _ A1 A2 A3 _ _ n k _ _ hb1 hr hk h2 h1 h3 hAA hA3 ht=>
       have hbd:=zaP bs';rw[hr]at hbd;simp only at hbd;have hn:n<=m':=by omega
       have hn1:=hbd.2.2.2.2.1 trivial;have hk64:=hbd.1;have hcap:=Reads.cap hb';have hrd:=vRead (w:=wr) hb' hr;have hB1:BlkT (wr.setCell ⟨B,0,none⟩ (.slice A2 (m' - n) (c' - n))) B 24 #[.slice A2 (m' - n) (c' - n)]:=by have:=hB.out.set_ 0 (.slice A2 (m' - n) (c' - n));simpa using this
       have hJ1:=HJ.out j wr _ hJj (zdT wr B (.slice A2 (m' - n) (c' - n)));obtain⟨fn,tmps,assign,body,hy,hR⟩:=HY.out j _ _ hJ1 hvj;have hS1:Same (fun b=>s b/\b≠B) wr (wr.setCell ⟨B,0,none⟩ (.slice A2 (m' - n) (c' - n))):=fun b hb=>Below.heap_setCell wr ⟨B,0,none⟩ _ b hb.2
       have r3:zac wr A3 (m' - n - k) (c' - n - k) (bs'.drop (n+k)):=by
        obtain⟨A7,e7,r7⟩:=zbx elemB hb' .i64 (l:=n) hn
        have e8:A7=A2:=by
         have e:=(e7 wr).symm.trans (h2 wr);injection e with e _;injection e with e _ _
        subst e8;have r7':zac wr A7 (m' - n) (c' - n) (bs'.drop n):=by unfold zac;rw[List.map_drop];simpa using r7
        obtain⟨A8,e9,r9⟩:=zbx elemB r7' .u64 (l:=k) (by omega)
        have e10:A8=A3:=by
         have e:=(e9 wr).symm.trans (h3 wr);injection e with e _;injection e with e _ _
        subst e10;rw[<-List.drop_drop];unfold zac;rw[List.map_drop];simpa using r9
       have b1:(wr.setCell ⟨B,0,none⟩ (.slice A2 (m' - n) (c' - n))).cell? ⟨B,0,none⟩=some (.slice A2 (m' - n) (c' - n)):=hB1.cell 0;have Hrd:=zsz hrd;have Hd2:=zsz hd2;have Ht:=zsz ht;have HR:=zsz hR;have HB1:=zsz hB1;have Hr3:=zsz r3;have HS1:=zsz hS1;have hni:(n:Int)<=m':=by omega
       have hk2:k<=m' - n:=by omega
       have hk3:(k:Int)<=((m' - n:Nat):Int):=by omega
       have hmn:m' - n<=1000000000:=by omega
       have hdec:Hid (m' - n - k<m'):=by show m' - n - k<m';omega
       unfold runV at hy;simp only at hy;rw[show((0:Nat):Int)=0 from rfl]at hy;clear hrd hd hd2 ht hR hr hbd hbl hb1 hvj hB1 hJ1 hS1 r3 hk hJj;generalize m' - n=p at*;generalize c' - n=q at*;generalize p - k=p2 at*;generalize q - k=q2 at*;have hkk:¬(p:Int)<(k:Int):=by omega
       gi_wp2_with (first|(refine⟨trivial,?_⟩;gi_at_call 96;refine(callsIn_wide.2 Hrd.out).mono ?_;rintro e w3 ⟨rfl,rfl⟩))
       refine HR.out.mono ?_;rintro e W' (⟨rfl,hJ',hsm⟩|⟨rfl,hJx'⟩)
       . have hIn:=hA3 _ (hAA _ (hA' hpos))
         have hB':BlkT W' B 24 #[.slice A2 p q]:=(hsm B hsB).trans HB1.out;have b2:W'.cell? ⟨B,0,none⟩=some (.slice A2 p q):=hB'.cell 0;have b3:W'.frozen? ⟨B,0,none⟩=false:=hB'.free 0;have bl2:=hB'.lt;have r4:=zcw Hr3.out (s:=fun b=>s b/\b≠B) (fun _=>hIn) (HS1.out.trans (fun b hb=>hsm b hb.1));have r5:zac (W'.setCell ⟨B,0,none⟩ (.slice A3 p2 q2)) A3 p2 q2 (bs'.drop (n+k)):=zcw r4 (fun _=>hIn) (fun b hb=>Below.heap_setCell W' ⟨B,0,none⟩ _ b hb.2);have hB2:BlkT (W'.setCell ⟨B,0,none⟩ (.slice A3 p2 q2)) B 24 #[.slice A3 p2 q2]:=by have:=hB'.set_ 0 (.slice A3 p2 q2);simpa using this
         have HJ':=zsz hJ';have HB2:=zsz hB2;have hp2:Hid (p2<=1000000000):=by have:=hdec.out;show p2<=1000000000;omega
         clear hJ' hB' hB2 hsm r4
         gi_wp2
         go_roundw
         case rel=>exact⟨j+1,A3,p2,q2,bs'.drop (n+k),by rw[Hd2.out];exact Ht.out,by omega,HB2,r5,hp2.out,fun _=>hIn,HJ.out _ _ _ HJ'.out (zdT _ _ _)⟩
         case measure=>
          have e1:=HB2.out.cell 0;rw[e1,b0];exact hdec.out
       . gi_wp2
         exact bodyPost_ret (results_none rfl _ _ _) rfl ⟨⟨_,rfl⟩,.inr hJx'⟩
     | @bad _ _ _ C k n _ hb1 hr hC=>
       have hrd:=vRead (w:=wr) hb' hr
       have hlast:j+1=vs.length:=by
        have:=congrArg List.length hd;rw[List.length_drop]at this;simp only[List.length_cons,List.length_nil]at this;omega
       obtain⟨fn,tmps,assign,body,hy,hR⟩:=HY.out j _ _ hJj hvj;have Hrd:=zsz hrd;have HR:=zsz hR;have HC:((C:Int) !=0)=true:=by rw[bne_iff_ne];omega
       have Hlast:=zsz hlast;unfold runV at hy;simp only at hy;clear hrd hd hd2 hR hr hbl hb1 hvj hlast hC hJj
       gi_wp2_with (first|(refine⟨trivial,?_⟩;gi_at_call 96;refine(callsIn_wide.2 Hrd.out).mono ?_;rintro e w3 ⟨rfl,rfl⟩))
       refine HR.out.mono ?_;rintro e W' (⟨rfl,hJ',hsm⟩|⟨rfl,hJx'⟩)
       . rw[Hlast.out]at hJ'
         have HJ':=zsz hJ';clear hJ' hsm
         gi_wp2
         exact bodyPost_ret (results_none rfl _ _ _) rfl ⟨⟨_,rfl⟩,.inl HJ'.out⟩
       . gi_wp2
         exact bodyPost_ret (results_none rfl _ _ _) rfl ⟨⟨_,rfl⟩,.inr hJx'⟩
     | @long _ A2 _ _ k n _ hb1 hr hk h2=>
       have hbd:=zaP bs';rw[hr]at hbd;simp only at hbd;have hn:n<=m':=by omega
       have hk64:=hbd.1;have hcap:=Reads.cap hb';have hrd:=vRead (w:=wr) hb' hr;have hB1:BlkT (wr.setCell ⟨B,0,none⟩ (.slice A2 (m' - n) (c' - n))) B 24 #[.slice A2 (m' - n) (c' - n)]:=by have:=hB.out.set_ 0 (.slice A2 (m' - n) (c' - n));simpa using this
       have hJ1:=HJ.out j wr _ hJj (zdT wr B (.slice A2 (m' - n) (c' - n)));obtain⟨fn,tmps,assign,body,hy,hR⟩:=HY.out j _ _ hJ1 hvj
       have hlast:j+1=vs.length:=by
        have:=congrArg List.length hd;rw[List.length_drop]at this;simp only[List.length_cons,List.length_nil]at this;omega
       have b1:(wr.setCell ⟨B,0,none⟩ (.slice A2 (m' - n) (c' - n))).cell? ⟨B,0,none⟩=some (.slice A2 (m' - n) (c' - n)):=hB1.cell 0;have Hrd:=zsz hrd;have HR:=zsz hR;have Hlast:=zsz hlast;have hni:(n:Int)<=m':=by omega
       have hk2:m' - n<k:=by omega
       have hmn:m' - n<=1000000000:=by omega
       unfold runV at hy;simp only at hy;rw[show((3:Nat):Int)=3 from rfl]at hy;clear hrd hd hd2 hR hr hbd hbl hb1 hvj hB1 hJ1 hk hJj hlast;generalize m' - n=p at*;generalize c' - n=q at*;have hkk:(p:Int)<(k:Int):=by omega
       gi_wp2_with (first|(refine⟨trivial,?_⟩;gi_at_call 96;refine(callsIn_wide.2 Hrd.out).mono ?_;rintro e w3 ⟨rfl,rfl⟩))
       refine HR.out.mono ?_;rintro e W' (⟨rfl,hJ',hsm⟩|⟨rfl,hJx'⟩)
       . rw[Hlast.out]at hJ'
         have HJ':=zsz hJ';clear hJ' hsm
         gi_wp2
         exact bodyPost_ret (results_none rfl _ _ _) rfl ⟨⟨_,rfl⟩,.inl HJ'.out⟩
       . gi_wp2
         exact bodyPost_ret (results_none rfl _ _ _) rfl ⟨⟨_,rfl⟩,.inr hJx'⟩
end Go.Proofs.YtpicpebolghcfaaGreatDoor
