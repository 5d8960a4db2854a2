/- The walk of the law ScalarPuts, out of its callees' contracts. -/
import Derived.Test.YtpicpebolghcfaaGreatDoorQlW9

set_option linter.unusedVariables false
set_option maxRecDepth 100000
set_option maxHeartbeats 1000000
namespace Go.Proofs.YtpicpebolghcfaaGreatDoor
open Go.RowKit Tryz
variable{k:Int}
theorem zhV(hk:zaf k=true)(bs:List UInt8):(readS k bs).2=if fitsV (wireI k) bs=true then 0 else 12:=by
 unfold fitsV;rcases zcd hk with⟨h12,hw⟩|⟨h12,h9,hw⟩|⟨h12,h9,hw⟩
 . rw[zgL hk h12,hw]
   by_cases h:bs.length=8<;>simp[h]
 . rw[zju hk h12 h9,hw]
   by_cases h:bs.length=4<;>simp[h]
 . rcases hv:readV bs with⟨W,N,C⟩
   rw[zjv hk h12 h9 hv,hw];by_cases h:C=0/\N=bs.length<;>simp[h]
theorem zlJ{k:Int}(hk:zaf k=true){bs:List UInt8}(hf:fitsV (wireI k) bs=true):
 (readS k bs)=(zaF k (if wireI k=0 then(readV bs).1 else wordN (bs.take 8)),0):=by
 unfold fitsV at hf;have hf:=of_decide_eq_true hf;rcases zcd hk with⟨h12,hw⟩|⟨h12,h9,hw⟩|⟨h12,h9,hw⟩
 . rw[hw]at hf
   have h8:bs.length=8:=by omega
   rw[zgL hk h12,hw,if_pos h8,if_neg (by omega),List.take_of_length_le (by omega)]
 . rw[hw]at hf
   have h8:bs.length=4:=by omega
   rw[zju hk h12 h9,hw,if_pos h8,if_neg (by omega),List.take_of_length_le (by omega)]
 . rcases hv:readV bs with⟨W,N,C⟩
   rw[hw,hv]at hf;simp only at hf;have h0:C=0/\N=bs.length:=by omega
   rw[zjv hk h12 h9 hv,hw,if_pos h0,if_pos rfl]
theorem zlK(bs:List UInt8):wordN (bs.take 8)<18446744073709551616:=by
 have h1:=zcQ (bs.take 8);have h2:(bs.take 8).length<=8:=by rw[List.length_take];omega
 exact Nat.lt_of_lt_of_le h1 (Nat.le_trans (Nat.pow_le_pow_right (by decide) h2) (by decide))
variable{w:World}{bs:List UInt8}{n c:Nat}{A:Option Addr}
theorem zkF{W C:Nat}(hb:zac w A n c bs)(hn:n<=9000000000000000000)(hr:readS k bs=(W,C)):
 Calls prog 39 #[.int .i64 k,.slice A n c] w fun e w'=>e=.returned (.tuple #[.int .u64 (W:Int),.int .i64 (C:Int)])/\w=w':=by
 rcases hk:zaf k with _|_
 . have kn:=fun W:World=>zbz k W
   rw[hk]at kn;have Kn:=zsz kn;clear kn;rw[zmL hk]at hr;cases hr
   go_enter func39,ntmps39
   go_wp2_with (go_at_call 14;refine(Kn.out _).mono ?_;rintro e w' ⟨rfl,rfl⟩)
   go_ret2
   exact⟨rfl,rfl⟩
 . have kn:=fun W:World=>zbz k W
   rw[hk]at kn;have Kn:=zsz kn;clear kn;have kc:=fun(x:Nat)(hx:x<18446744073709551616)(W:World)=>zlz k x hx W
   have ft:=fun W:World=>zsf (w:=W) (A:=A) (n:=n) (c:=c) (bs:=bs) (wire:=wireI k)
   have h0:=zhV hk bs;have h1:= @zlJ k hk bs;rcases hv:readV bs with⟨V,N,D⟩
   have b1:=(zaP bs).1;rw[hv]at b1;simp only at b1;rcases hf:fitsV (wireI k) bs with _|_
   . rw[hf]at ft
     rw[hr,hf]at h0;simp at h0
     have hW:W=0:=by
      have h2:=hr;rcases zcd hk with⟨h12,hw⟩|⟨h12,h9,hw⟩|⟨h12,h9,hw⟩
      . rw[zgL hk h12]at h2;split at h2<;>simp_all
      . rw[zju hk h12 h9]at h2;split at h2<;>simp_all
      . rw[zjv hk h12 h9 hv]at h2;split at h2<;>simp_all
     subst hW h0;have Ft:=zsz ft;have Hk:=zsz hk;clear ft hr hk hv h1 hf kc
     go_enter func39,ntmps39
     go_wp2_with (first|(go_at_call 14;refine(Kn.out _).mono ?_;rintro e w' ⟨rfl,rfl⟩)|(go_at_call 68;refine(zlF Hk.out rfl).mono ?_;rintro e w' ⟨rfl,rfl⟩)|(go_at_call 67;refine(Ft.out _ hb hn).mono ?_;rintro e w' ⟨rfl,rfl⟩))
     go_ret2
     exact⟨rfl,rfl⟩
   . rw[hf]at ft
     have h2:=h1 hf;rw[hr]at h2;simp only[Prod.mk.injEq]at h2;obtain⟨rfl,rfl⟩:=h2;have hwt:=zlK bs;have Ft:=zsz ft;have Hk:=zsz hk;have Hv:=zsz hv;by_cases hw0:wireI k=0
     . rw[hv,if_pos hw0]
       clear ft hr hk hv h1 hf kc h0;rw[hw0]at Ft;have Hw:=zsz hw0;clear hw0
       go_enter func39,ntmps39
       go_wp2_with (first|(go_at_call 14;refine(Kn.out _).mono ?_;rintro e w' ⟨rfl,rfl⟩)|(go_at_call 68;refine(zlF Hk.out Hw.out).mono ?_;rintro e w' ⟨rfl,rfl⟩)|(go_at_call 67;refine(Ft.out _ hb hn).mono ?_;rintro e w' ⟨rfl,rfl⟩)|(go_at_call 69;refine(wordR hb).mono ?_;rintro e w' ⟨rfl,rfl⟩)|(go_at_call 70;refine(zdk (p:=0) hb rfl (Nat.zero_le _) hn Hv.out).mono ?_;rintro e w' ⟨rfl,rfl⟩)|(go_at_call 53;refine(zlz _ _ b1 _).mono ?_;rintro e w' ⟨rfl,rfl⟩))
       go_ret2
       exact⟨rfl,rfl⟩
     . rw[if_neg hw0]
       have q:(wireI k==0)=false:=by simp;exact hw0
       clear ft hr hk hv h1 hf kc h0 hw0
       go_enter func39,ntmps39
       go_wp2_with (first|(go_at_call 14;refine(Kn.out _).mono ?_;rintro e w' ⟨rfl,rfl⟩)|(go_at_call 68;refine(zlF Hk.out rfl).mono ?_;rintro e w' ⟨rfl,rfl⟩)|(go_at_call 67;refine(Ft.out _ hb hn).mono ?_;rintro e w' ⟨rfl,rfl⟩)|(go_at_call 69;refine(wordR hb).mono ?_;rintro e w' ⟨rfl,rfl⟩)|(go_at_call 53;refine(zlz _ _ hwt _).mono ?_;rintro e w' ⟨rfl,rfl⟩))
       go_ret2
       exact⟨rfl,rfl⟩
def zmM(w:World)(A:Option Addr)(n c:Nat)(l:List Nat):Prop:=Reads w A n c 1 (l.map iv)
theorem zpD(hk:zaf k=false):
 Calls prog 52 #[.int .i64 k,.slice A n c] w fun e w'=>e=.returned (.tuple #[.slice none 0 0,.int .i64 2])/\w=w':=by
 have kn:=fun W:World=>zbz k W
 rw[hk]at kn;have Kn:=zsz kn;clear kn
 go_enter func52,ntmps52
 go_wp2_with (go_at_call 14;refine(Kn.out _).mono ?_;rintro e w' ⟨rfl,rfl⟩)
 go_ret2
 exact⟨rfl,rfl⟩
theorem zsx(hb:zac w A n c bs)(hn:n<=1000000000)(hk:zaf k=true):
 Calls prog 52 #[.int .i64 k,.slice A n c] w fun e w'=>∃A' c',e=.returned (.tuple #[.slice A' (endsV k bs).1.length c',.int .i64 ((endsV k bs).2:Nat)])/\Own w w' 3 1 A' (endsV k bs).1.length c' ((endsV k bs).1.map iv):=by
 have hlen:=hb.length;have kn:=fun W:World=>zbz k W
 rw[hk]at kn;have Kn:=zsz kn;have H0:=zsz (SoFar.start hk bs);have Hk:=zsz hk;clear kn hk
 go_enter func52,ntmps52
 go_wp2_with (go_at_call 14;refine(Kn.out _).mono ?_;rintro e w' ⟨rfl,rfl⟩)
 go_loopw [6,7] (fun u i wr=>∃(p:Nat)(A2:Option Addr)(c2:Nat)(d:List (List UInt8×Nat)),p<=n/\i=.int .i64 p/\u=.slice A2 d.length c2/\Own w wr 3 1 A2 d.length c2 ((zdh 0 d).map iv)/\Hid (SoFar k bs d p)) (fun _ i _=>n - (intOf i).toNat)
 case atStart=>exact⟨0,none,0,[],Nat.zero_le _,rfl,rfl,Own.nil (Ext.refl _) 3 1,H0⟩
 case round=>
  obtain⟨p,A2,c2,d,hp,rfl,rfl,own,hS⟩:=hrel;by_cases hlt:(p:Int)<n
  . have hdl:=hS.out.len
    have hpl:p<bs.length:=by omega
    have hdp:(bs.drop p).length=n - p:=by rw[List.length_drop,hlen]
    by_cases h12:k<12
    . by_cases h9:k<9
      . rcases hv:readV (bs.drop p)with⟨W,N,C⟩
        have hbd:=zaP (bs.drop p);rw[hv]at hbd;simp only at hbd;obtain⟨_,b2,_,b4,b5,b6⟩:=hbd;have Hv:=zsz hv;have hst:stepN k (bs.drop p)=(N,C):=by unfold stepN;rw[if_pos h9,hv]
        by_cases hC:C=0
        . subst hC
          have b5':=b5 rfl;have hfit:¬(n:Int)<(p:Int)+N:=by omega
          have q:(((0:Nat):Int) !=0)=false:=rfl;have hsp:stepN k (bs.drop p)=(N,0):=hst;obtain⟨s1,s2⟩:=hS.out.more hpl hsp;have S1:=zsz s1;have S2:=zsz s2;clear hsp s1 s2 hpl hdp hlen hst hv b2 b4 b5 b6
          go_wp2_with (first|(go_at_call 70;refine(zdk (hb.ext own.ext) rfl hp (by omega) Hv.out).mono ?_;rintro e w2 ⟨rfl,rfl⟩)|(at_builtin;refine zaH elemI rfl (.tmp 43) (.tmp 45) rfl rfl own rfl (by first|rfl|simp) rfl (by omega) (by unfold maxLen;omega) ?_;intro A4 c4 w4 own4 _))
          go_roundw
          case rel=>
           refine⟨p+N,A4,c4,_,by omega,by go_num,?_,?_,S1⟩
           . simp only[List.length_append,List.length_singleton]
           . rw[S2.out];simpa[iv] using own4
          case measure=>simp[intOf];omega
        . have q:((C:Int) !=0)=true:=by rw[bne_iff_ne];omega
          have hN:=(b6 hC).2;subst hN;have hsp:stepN k (bs.drop p)=(0,C):=hst;have he:=hS.out.bad hpl hsp (by omega);have He:=zsz he;clear hsp he hpl hdp hlen hst hv b2 b4 b5 b6 hC
          go_wp2_with (go_at_call 70;refine(zdk (hb.ext own.ext) rfl hp (by omega) Hv.out).mono ?_;rintro e w2 ⟨rfl,rfl⟩)
          rw[He.out]
          go_ret2
          exact⟨none,0,rfl,Own.nil own.ext 3 1⟩
      . by_cases hf:bs.length - p<4
        . have hfit:(n:Int)<(p:Int)+4:=by omega
          have hsp:stepN k (bs.drop p)=(0,3):=by unfold stepN;rw[if_neg h9,if_pos h12,if_pos (by omega)]
          have he:=hS.out.bad hpl hsp (by omega);have He:=zsz he;clear hsp he hpl hdp hlen hf
          go_wp2
          rw[He.out]
          go_ret2
          exact⟨none,0,rfl,Own.nil own.ext 3 1⟩
        . have hfit:¬(n:Int)<(p:Int)+4:=by omega
          have hsp:stepN k (bs.drop p)=(4,0):=by unfold stepN;rw[if_neg h9,if_pos h12,if_neg (by omega)]
          obtain⟨s1,s2⟩:=hS.out.more hpl hsp;have S1:=zsz s1;have S2:=zsz s2;clear hsp s1 s2 hpl hdp hlen hf
          go_wp2_with (first|(at_builtin;refine zaH elemI rfl (.tmp 43) (.tmp 45) rfl rfl own rfl (by first|rfl|simp) rfl (by omega) (by unfold maxLen;omega) ?_;intro A4 c4 w4 own4 _))
          go_roundw
          case rel=>
           refine⟨p+4,A4,c4,_,by omega,by go_num,?_,?_,S1⟩
           . simp only[List.length_append,List.length_singleton]
           . rw[S2.out];simpa[iv] using own4
          case measure=>simp[intOf];omega
    . have h9:¬k<9:=by omega
      by_cases hf:bs.length - p<8
      . have hfit:(n:Int)<(p:Int)+8:=by omega
        have hsp:stepN k (bs.drop p)=(0,3):=by unfold stepN;rw[if_neg h9,if_neg h12,if_pos (by omega)]
        have he:=hS.out.bad hpl hsp (by omega);have He:=zsz he;clear hsp he hpl hdp hlen hf
        go_wp2
        rw[He.out]
        go_ret2
        exact⟨none,0,rfl,Own.nil own.ext 3 1⟩
      . have hfit:¬(n:Int)<(p:Int)+8:=by omega
        have hsp:stepN k (bs.drop p)=(8,0):=by unfold stepN;rw[if_neg h9,if_neg h12,if_neg (by omega)]
        obtain⟨s1,s2⟩:=hS.out.more hpl hsp;have S1:=zsz s1;have S2:=zsz s2;clear hsp s1 s2 hpl hdp hlen hf
        go_wp2_with (first|(at_builtin;refine zaH elemI rfl (.tmp 43) (.tmp 45) rfl rfl own rfl (by first|rfl|simp) rfl (by omega) (by unfold maxLen;omega) ?_;intro A4 c4 w4 own4 _))
        go_roundw
        case rel=>
         refine⟨p+8,A4,c4,_,by omega,by go_num,?_,?_,S1⟩
         . simp only[List.length_append,List.length_singleton]
         . rw[S2.out];simpa[iv] using own4
        case measure=>simp[intOf];omega
  . have he:=hS.out.ends (by omega)
    have He:=zsz he;clear he hlen
    go_wp2
    rw[He.out]
    go_ret2
    refine⟨A2,c2,?_,?_⟩
    . rw[zdD];rfl
    . rw[zdD];exact own
theorem zmM.num{l:List Nat}(h:zmM w A n c l){k:Nat}(hk:k<n):
 ∃b off x,A=some ⟨b,off,none⟩/\l[k]?=some x/\w.cell? ⟨b,off+k,none⟩=some (.int .i64 (x:Int)):=by
 obtain⟨b,off,e,_,hc⟩:=Reads.at_ h (by omega);have hl:l.length=n:=by have:=Reads.len h;simpa using this
 have hx:l[k]?=some (l[k]'(by omega)):=List.getElem?_eq_getElem (by omega);exact⟨b,off,_,e,hx,hc k _ (by rw[List.getElem?_map,hx];rfl)⟩
theorem zqx(hb:zac w A n c bs){l m:Nat}(hl:l<=m)(hm:m<=n):
 ∃A',(∀W:World,(Instr.slice 24 (.slice A n c) (some (.int .i64 (l:Int))) (some (.int .i64 (m:Int))) none).run prog W=.ok (.slice A' (m - l) (c - l)) W)/\zac w A' (m - l) (c - l) ((bs.take m).drop l):=by
 obtain⟨A',h1,h2⟩:=ziT elemB hb .i64 .i64 hl hm;exact⟨A',h1,by simpa[zac,List.map_drop,List.map_take] using h2⟩
theorem zqy(hk:zaf k=false):endsV k bs=([],2):=by
 unfold endsV;rw[zpZ hk];rfl
theorem zlL(hb:zac w A n c bs)(hn:n<=1000000000):
 Calls prog 52 #[.int .i64 k,.slice A n c] w fun e w'=>∃A' c',e=.returned (.tuple #[.slice A' (endsV k bs).1.length c',.int .i64 ((endsV k bs).2:Nat)])/\Own w w' 3 1 A' (endsV k bs).1.length c' ((endsV k bs).1.map iv):=by
 rcases hk:zaf k with _|_
 . rw[zqy hk]
   refine(zpD hk).mono ?_;rintro e w' ⟨rfl,rfl⟩;exact⟨none,0,rfl,Own.nil (Ext.refl _) 3 1⟩
 . exact zsx hb hn hk
theorem znW(k:Int)(bs:List UInt8):(zaD k bs).1.length=(endsV k bs).1.length/\(zaD k bs).2=(endsV k bs).2/\(endsV k bs).1.length<=bs.length+1:=by
 have:=zhz k bs;unfold zaD endsV;by_cases h:codeV k bs=0
 . simp only[if_pos h,List.length_map,zdD]
   exact⟨trivial,trivial,this⟩
 . simp only[if_neg h,List.length_nil]
   exact⟨trivial,trivial,Nat.zero_le _⟩
theorem zrC{k:Int}{bs:List UInt8}{p:Nat}(hp:p<(endsV k bs).1.length):
 ∃(S0 S1:Nat)(W C:Nat),(endsV k bs).1[p]?=some S1/\(p=0->S0=0)/\(∀q,p=q+1->(endsV k bs).1[q]?=some S0)/\S0<=S1/\S1<=bs.length/\readS k ((bs.take S1).drop S0)=(W,C)/\(zaD k bs).1[p]?=some W:=by
 have h0:codeV k bs=0:=by
  by_cases h:codeV k bs=0
  . exact h
  . unfold endsV at hp
    simp only[if_neg h,List.length_nil]at hp;omega
 unfold endsV at hp⊢;unfold zaD;simp only[if_pos h0,zdD]at hp⊢;have hx:(valsV k bs)[p]?=some ((valsV k bs)[p]):=List.getElem?_eq_getElem hp;obtain⟨c1,c2,c3⟩:=zjZ _ p _ hx;rw[znr h0]at c1 c3;refine⟨sumL ((valsV k bs).take p),sumL ((valsV k bs).take (p+1)),(readS k (valsV k bs)[p].1).1,(readS k (valsV k bs)[p].1).2,?_,fun h=>by subst h;rfl,fun q hq=> ?_,by omega,c3,by rw[c1],by rw[List.getElem?_map,hx];rfl⟩
 . rw[zhC _ 0 p hp,Nat.zero_add]
 . subst hq
   rw[zhC _ 0 q (by omega),Nat.zero_add]
theorem zpE(hb:zac w A n c bs)(hn:n<=1000000000):
 Calls prog 23 #[.int .i64 k,.slice A n c] w fun e w'=>∃A' c',e=.returned (.tuple #[.slice A' (zaD k bs).1.length c',.int .i64 ((zaD k bs).2:Nat)])/\Own w w' 68 1 A' (zaD k bs).1.length c' ((zaD k bs).1.map uv):=by
 have hlen:=hb.length;obtain⟨e1,e2,e3⟩:=znW k bs;have Hw:=zsz (fun p=> @zrC k bs p);have hE:=zlL (k:=k) hb hn;rw[e1,e2];generalize hL:(endsV k bs).1=L at*;generalize (endsV k bs).2=C0 at*;generalize hWs:(zaD k bs).1=Ws at*;have HL:=zsz hL;have HWs:=zsz hWs;have HE:=zsz hE;have He1:=zsz e1;clear hL hWs hE e1 e2
 go_enter func23,ntmps23
 go_wp2_with (go_at_call 52;refine HE.out.mono ?_;rintro e w1 ⟨A1,c1,rfl,own1⟩)
 go_loopw [8,9] (fun u i wr=>∃(p:Nat)(A2:Option Addr)(c2:Nat),p<=L.length/\i=.int .i64 p/\u=.slice A2 p c2/\Own w1 wr 68 1 A2 p c2 ((Ws.take p).map uv)) (fun _ i _=>L.length - (intOf i).toNat)
 case atStart=>exact⟨0,none,0,Nat.zero_le _,rfl,rfl,Own.nil (Ext.refl _) 68 1⟩
 case round=>
  obtain⟨p,A2,c2,hp,rfl,rfl,own⟩:=hrel;by_cases hlt:p<L.length
  . have hlti:(p:Int)<L.length:=by omega
    have hw2:=Hw.out p hlt;obtain⟨S0,S1,W,C,g1,g2,g3,g4,g5,g6,g7⟩:=hw2;obtain⟨b,off,x,rfl,hx,hcell⟩:=zmM.num (l:=L) (Reads.ext own1.reads own.ext) hlt;have hx2:x=S1:=by have:=g1.symm.trans hx;injection this with this;exact this.symm
    subst hx2;obtain⟨A5,hcut,hb5⟩:=zqx hb g4 (by omega:x<=n);have G6:=zsz g6;have hs:Ws.take (p+1)=Ws.take p++[W]:=by rw[List.take_add_one,g7];rfl
    have Hs:=zsz hs;have hi1:(S0:Int)<=x:=by omega
    have hi2:(x:Int)<=n:=by omega
    have hcap:=Reads.cap hb;by_cases hp0:p=0
    . have hS0:=g2 hp0
      subst hS0;subst hp0;rw[Nat.add_zero]at hcell;simp only[Nat.sub_zero,show((0:Nat):Int)=0 from rfl]at hcut hb5;clear g1 g3 g6 g7 hx hs g2
      go_wp2_with (first|(go_at_call 39;refine(zkF (hb5.up (own1.ext.trans own.ext)) (by omega) G6.out).mono ?_;rintro e w2 ⟨rfl,rfl⟩)|(at_builtin;refine zaH elemU rfl (.tmp 44) (.tmp 46) rfl rfl own rfl (by first|rfl|simp) rfl (by omega) (by unfold maxLen;omega) ?_;intro A4 c4 w4 own4 _))
      go_roundw
      case rel=>exact⟨0+1,A4,c4,by omega,by go_num,rfl,by rw[Hs.out];simpa[uv] using own4⟩
      case measure=>simp[intOf];omega
    . obtain⟨q,rfl⟩:∃q,p=q+1:=⟨p - 1,by omega⟩
      have hq:=g3 q rfl;obtain⟨b',off',y,e,hy,hcell2⟩:=zmM.num (l:=L) (Reads.ext own1.reads own.ext) (show q<L.length by omega);cases e;have hy2:y=S0:=by have:=hq.symm.trans hy;injection this with this;exact this.symm
      subst hy2;clear g1 g2 g3 g6 g7 hx hs hq hy hp0;have hq0:(0:Int)<((q+1:Nat):Int):=by omega
      go_wp2_with (first|(go_at_call 39;refine(zkF (hb5.up (own1.ext.trans own.ext)) (by omega) G6.out).mono ?_;rintro e w2 ⟨rfl,rfl⟩)|(at_builtin;refine zaH elemU rfl (.tmp 44) (.tmp 46) rfl rfl own rfl (by first|rfl|simp) rfl (by omega) (by unfold maxLen;omega) ?_;intro A4 c4 w4 own4 _))
      go_roundw
      case rel=>exact⟨q+1+1,A4,c4,by omega,by go_num,rfl,by rw[Hs.out];simpa[uv] using own4⟩
      case measure=>simp[intOf];omega
  . have hpn:p=L.length:=by omega
    subst hpn
    go_wp2
    go_ret2
    refine⟨A2,c2,rfl,?_⟩;have:=own.since own1.ext
    rwa[List.take_of_length_le (by have:=He1.out;omega)]at this
end Go.Proofs.YtpicpebolghcfaaGreatDoor
