/- The walk of the law ScalarPuts, out of its callees' contracts. -/
import Derived.Test.YtlhbllaojjelcaaGreatQhW9

set_option linter.unusedVariables false
set_option maxRecDepth 100000
set_option maxHeartbeats 1000000
namespace Go.Proofs.YtlhbllaojjelcaaGreat
open Go.RowKit Tryz
variable{w:World}{k:Int}{n c:Nat}{A:Option Addr}
theorem zoT(hk:zad k=false):
 Calls prog 68 #[.int .i64 k,.slice A n c] w fun e w'=>e=.returned (.tuple #[.slice none 0 0,.int .i64 2])/\w=w':=by
 have kn:=fun W:World=>zfH k W
 rw[hk]at kn;have Kn:=zsp kn;clear kn
 go_enter func68,ntmps68
 go_wp2_with (go_at_call 44;refine(Kn.out _).mono ?_;rintro e w' ⟨rfl,rfl⟩)
 go_ret2
 exact⟨rfl,rfl⟩
variable{bs:List UInt8}
theorem zsn(hb:zab w A n c bs)(hn:n<=1000000000)(hk:zad k=true):
 Calls prog 68 #[.int .i64 k,.slice A n c] w fun e w'=>∃A' c',e=.returned (.tuple #[.slice A' (endsV k bs).1.length c',.int .i64 ((endsV k bs).2:Nat)])/\Own w w' 3 1 A' (endsV k bs).1.length c' ((endsV k bs).1.map iv):=by
 have hlen:=hb.length;have kn:=fun W:World=>zfH k W
 rw[hk]at kn;have Kn:=zsp kn;have H0:=zsp (SoFar.start hk bs);have Hk:=zsp hk;clear kn hk
 go_enter func68,ntmps68
 go_wp2_with (go_at_call 44;refine(Kn.out _).mono ?_;rintro e w' ⟨rfl,rfl⟩)
 go_loopw [6,7] (fun u i wr=>∃(p:Nat)(A2:Option Addr)(c2:Nat)(d:List (List UInt8×Nat)),p<=n/\i=.int .i64 p/\u=.slice A2 d.length c2/\Own w wr 3 1 A2 d.length c2 ((zeg 0 d).map iv)/\Hid (SoFar k bs d p)) (fun _ i _=>n - (intOf i).toNat)
 case atStart=>exact⟨0,none,0,[],Nat.zero_le _,rfl,rfl,Own.nil (Ext.refl _) 3 1,H0⟩
 case round=>
  obtain⟨p,A2,c2,d,hp,rfl,rfl,own,hS⟩:=hrel;by_cases hlt:(p:Int)<n
  . have hdl:=hS.out.len
    have hpl:p<bs.length:=by omega
    have hdp:(bs.drop p).length=n - p:=by rw[List.length_drop,hlen]
    by_cases h12:k<12
    . by_cases h9:k<9
      . rcases hv:readV (bs.drop p)with⟨W,N,C⟩
        have hbd:=zbt (bs.drop p);rw[hv]at hbd;simp only at hbd;obtain⟨_,b2,_,b4,b5,b6⟩:=hbd;have Hv:=zsp hv;have hst:stepN k (bs.drop p)=(N,C):=by unfold stepN;rw[if_pos h9,hv]
        by_cases hC:C=0
        . subst hC
          have b5':=b5 rfl;have hfit:¬(n:Int)<(p:Int)+N:=by omega
          have q:(((0:Nat):Int) !=0)=false:=rfl;have hsp:stepN k (bs.drop p)=(N,0):=hst;obtain⟨s1,s2⟩:=hS.out.more hpl hsp;have S1:=zsp s1;have S2:=zsp s2;clear hsp s1 s2 hpl hdp hlen hst hv b2 b4 b5 b6
          go_wp2_with (first|(go_at_call 73;refine(zeI (hb.ext own.ext) rfl hp (by omega) Hv.out).mono ?_;rintro e w2 ⟨rfl,rfl⟩)|(at_builtin;refine zcq elemI rfl (.tmp 43) (.tmp 45) rfl rfl own rfl (by first|rfl|simp) rfl (by omega) (by unfold maxLen;omega) ?_;intro A4 c4 w4 own4 _))
          go_roundw
          case rel=>
           refine⟨p+N,A4,c4,_,by omega,by go_num,?_,?_,S1⟩
           . simp only[List.length_append,List.length_singleton]
           . rw[S2.out];simpa[iv] using own4
          case measure=>simp[intOf];omega
        . have q:((C:Int) !=0)=true:=by rw[bne_iff_ne];omega
          have hN:=(b6 hC).2;subst hN;have hsp:stepN k (bs.drop p)=(0,C):=hst;have he:=hS.out.bad hpl hsp (by omega);have He:=zsp he;clear hsp he hpl hdp hlen hst hv b2 b4 b5 b6 hC
          go_wp2_with (go_at_call 73;refine(zeI (hb.ext own.ext) rfl hp (by omega) Hv.out).mono ?_;rintro e w2 ⟨rfl,rfl⟩)
          rw[He.out]
          go_ret2
          exact⟨none,0,rfl,Own.nil own.ext 3 1⟩
      . by_cases hf:bs.length - p<4
        . have hfit:(n:Int)<(p:Int)+4:=by omega
          have hsp:stepN k (bs.drop p)=(0,3):=by unfold stepN;rw[if_neg h9,if_pos h12,if_pos (by omega)]
          have he:=hS.out.bad hpl hsp (by omega);have He:=zsp he;clear hsp he hpl hdp hlen hf
          go_wp2
          rw[He.out]
          go_ret2
          exact⟨none,0,rfl,Own.nil own.ext 3 1⟩
        . have hfit:¬(n:Int)<(p:Int)+4:=by omega
          have hsp:stepN k (bs.drop p)=(4,0):=by unfold stepN;rw[if_neg h9,if_pos h12,if_neg (by omega)]
          obtain⟨s1,s2⟩:=hS.out.more hpl hsp;have S1:=zsp s1;have S2:=zsp s2;clear hsp s1 s2 hpl hdp hlen hf
          go_wp2_with (first|(at_builtin;refine zcq elemI rfl (.tmp 43) (.tmp 45) rfl rfl own rfl (by first|rfl|simp) rfl (by omega) (by unfold maxLen;omega) ?_;intro A4 c4 w4 own4 _))
          go_roundw
          case rel=>
           refine⟨p+4,A4,c4,_,by omega,by go_num,?_,?_,S1⟩
           . simp only[List.length_append,List.length_singleton]
           . rw[S2.out];simpa[iv] using own4
          case measure=>simp[intOf];omega
    . have h9:¬k<9:=by omega
      by_cases hf:bs.length - p<8
      . have hfit:(n:Int)<(p:Int)+8:=by omega
        have hsp:stepN k (bs.drop p)=(0,3):=by unfold stepN;rw[if_neg h9,if_neg h12,if_pos (by omega)]
        have he:=hS.out.bad hpl hsp (by omega);have He:=zsp he;clear hsp he hpl hdp hlen hf
        go_wp2
        rw[He.out]
        go_ret2
        exact⟨none,0,rfl,Own.nil own.ext 3 1⟩
      . have hfit:¬(n:Int)<(p:Int)+8:=by omega
        have hsp:stepN k (bs.drop p)=(8,0):=by unfold stepN;rw[if_neg h9,if_neg h12,if_neg (by omega)]
        obtain⟨s1,s2⟩:=hS.out.more hpl hsp;have S1:=zsp s1;have S2:=zsp s2;clear hsp s1 s2 hpl hdp hlen hf
        go_wp2_with (first|(at_builtin;refine zcq elemI rfl (.tmp 43) (.tmp 45) rfl rfl own rfl (by first|rfl|simp) rfl (by omega) (by unfold maxLen;omega) ?_;intro A4 c4 w4 own4 _))
        go_roundw
        case rel=>
         refine⟨p+8,A4,c4,_,by omega,by go_num,?_,?_,S1⟩
         . simp only[List.length_append,List.length_singleton]
         . rw[S2.out];simpa[iv] using own4
        case measure=>simp[intOf];omega
  . have he:=hS.out.ends (by omega)
    have He:=zsp he;clear he hlen
    go_wp2
    rw[He.out]
    go_ret2
    refine⟨A2,c2,?_,?_⟩
    . rw[zfX];rfl
    . rw[zfX];exact own
theorem zpR(hk:zad k=false):endsV k bs=([],2):=by
 unfold endsV;rw[zpn hk];rfl
theorem zrq(hb:zab w A n c bs)(hn:n<=1000000000):
 Calls prog 68 #[.int .i64 k,.slice A n c] w fun e w'=>∃A' c',e=.returned (.tuple #[.slice A' (endsV k bs).1.length c',.int .i64 ((endsV k bs).2:Nat)])/\Own w w' 3 1 A' (endsV k bs).1.length c' ((endsV k bs).1.map iv):=by
 rcases hk:zad k with _|_
 . rw[zpR hk]
   refine(zoT hk).mono ?_;rintro e w' ⟨rfl,rfl⟩;exact⟨none,0,rfl,Own.nil (Ext.refl _) 3 1⟩
 . exact zsn hb hn hk
end Go.Proofs.YtlhbllaojjelcaaGreat
