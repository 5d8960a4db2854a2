/- Contracts of layer 14: the place of a word, a text, a meaning, a value in a slice; whether there is one. (Printed by gen_idx.py.) -/
import Derived.Test.YtlhbllaojjelcaaGreatQhM14

set_option linter.unusedVariables false
set_option maxRecDepth 100000
namespace Go.Proofs.YtlhbllaojjelcaaGreat
open Go.RowKit Tryz
variable{n c:Nat}{A:Option Addr}{w:World}
theorem zrS{k:Nat}{l:List Nat}(h:Reads w A n c 1 (l.map uv))(hk:k<n):
 ∃b off x,A=some ⟨b,off,none⟩/\l[k]?=some x/\b<w.heap.size/\w.cell? ⟨b,off+k,none⟩=some (.int .u64 (x:Int)):=by
 obtain⟨b,off,e,hb,hc⟩:=h.at_ (by omega);have hl:l.length=n:=by have:=h.len;simpa using this
 have hx:l[k]?=some (l[k]'(by omega)):=List.getElem?_eq_getElem (by omega);exact⟨b,off,_,e,hx,hb,hc k _ (by rw[List.getElem?_map,hx];rfl)⟩
theorem zlp{α:Type}(p:α->Bool)(l:List α):decide (0<=idxB p l)=l.any p:=by
 rcases zaL p l with⟨h1,h2⟩|⟨k,x,h1,h2,h3,_⟩
 . rw[h1,decide_eq_false (by omega)]
   symm
   rw[List.any_eq_false];intro x hx;simp[h2 x hx]
 . rw[h1,decide_eq_true (by omega)]
   symm
   rw[List.any_eq_true];exact⟨x,List.mem_of_getElem? h2,h3⟩
variable{lb:Array Value}{g:FuncId}
theorem zqZ{l:List Nat}{p:Nat->Bool}(eg:∀args w,(callFunc g args).run prog w=.ok (.enter g args) w)(hb:Reads w A n c 1 (l.map uv))(hsm:∀f∈l,f<18446744073709551616)(hn:n<=4000000000000)(hp:∀(W:World)(f:Nat),f<18446744073709551616->Ext w W->Calls prog g (#[.int .u64 (f:Int)]++lb) W fun e W'=>e=.returned (.bool (p f))/\Ext W W'):
 Calls prog 155 #[.slice A n c,.func (.func g) #[] lb] w fun e w'=>e=.returned (.int .i64 (idxB p l))/\Ext w w':=by
 have hl:l.length=n:=by have:=hb.len;simpa using this
 have Hl:=zsp hl;have Hp:=zsp hp;clear hl hp;obtain⟨N,hN0⟩:∃N:Nat,N=n:=⟨_,rfl⟩
 rw[<-hN0]at hn⊢;have HN:=zsp hN0;clear hN0
 go_enter func155,ntmps155
 go_wp2
 go_loopw [5,8] (fun _ i wr=>∃k:Nat,k<=N/\i=.int .i64 k/\Ext w wr/\Hid (∀(j:Nat) y,j<k->l[j]?=some y->p y=false)) (fun _ i _=>N - (intOf i).toNat)
 case atStart=>exact⟨0,Nat.zero_le _,rfl,Ext.refl _,fun j y h=>absurd h (Nat.not_lt_zero j)⟩
 case round=>
  obtain⟨k,hk,rfl,hW,hN⟩:=hrel;by_cases hlt:k<N
  . have hlt2:(k:Int)<N:=by omega
    obtain⟨b,off,f,rfl,hf,hb1,c0⟩:=zrS (hb.ext hW) (k:=k) (by have:=HN.out;omega);have Hf:=zsp hf;rcases hq:p f with _|_
    . have hcall:=Hp.out wr f (hsm f (List.mem_of_getElem? hf)) hW
      rw[hq]at hcall
      skip
      have Hc:=zsp hcall;have Hq:=zsp hq;clear hcall hq hf
      go_wp2_with (go_at_fn g;refine Hc.out.mono ?_;rintro e w1 ⟨rfl,E1⟩)
      go_roundw
      case rel=>
       refine⟨k+1,by omega,by go_num,hW.trans E1,fun j y hj hy=> ?_⟩;by_cases e:j=k
       . subst e
         have:=Hf.out.symm.trans hy;cases this;exact Hq.out
       . exact hN.out j y (by omega) hy
      case measure=>simp[intOf];omega
    . have hcall:=Hp.out wr f (hsm f (List.mem_of_getElem? hf)) hW
      rw[hq]at hcall
      skip
      have Hc:=zsp hcall;have hi:=zcx Hf.out hq hN.out;have Hi:=zsp hi;clear hcall hq hf hi
      go_wp2_with (go_at_fn g;refine Hc.out.mono ?_;rintro e w1 ⟨rfl,E1⟩)
      go_ret
      exact⟨zbT Hi.out.symm,hW.trans E1⟩
  . have hge:¬(k:Int)<N:=by omega
    have hi:idxB p l= -1:=zdB (fun j y hy=>hN.out j y (by have:=(List.getElem?_eq_some_iff.1 hy).1;have:=Hl.out;have:=HN.out;omega) hy);have Hi:=zsp hi;clear hi
    go_wp2
    go_ret
    exact⟨zbT Hi.out.symm,hW⟩
theorem zou{l:List Nat}{p:Nat->Bool}(eg:∀args w,(callFunc g args).run prog w=.ok (.enter g args) w)(hb:Reads w A n c 1 (l.map uv))(hsm:∀f∈l,f<18446744073709551616)(hn:n<=4000000000000)(hp:∀(W:World)(f:Nat),f<18446744073709551616->Ext w W->Calls prog g (#[.int .u64 (f:Int)]++lb) W fun e W'=>e=.returned (.bool (p f))/\Ext W W'):
 Calls prog 120 #[.slice A n c,.func (.func g) #[] lb] w fun e w'=>e=.returned (.bool (l.any p))/\Ext w w':=by
 have h:=zqZ eg hb hsm hn hp;rw[<-zlp];generalize idxB p l=I at*;have H:=zsp h;clear h hp hb
 go_enter func120,ntmps120
 go_wp2_with (go_at_call 155;refine H.out.mono ?_;rintro e w1 ⟨rfl,E1⟩)
 all_goals
  go_ret
  exact⟨by simp,E1⟩
variable{p:ByteArray->Bool}{l:List ByteArray}
theorem zra(eg:∀args w,(callFunc g args).run prog w=.ok (.enter g args) w)(hb:zbG w (A,c) l)(hn:l.length<=4000000000000)(hp:∀(W:World)(f:ByteArray),(f∈l/\f.size<=maxLen)->Ext w W->Calls prog g (#[.string f]++lb) W fun e W'=>e=.returned (.bool (p f))/\Ext W W'):
 Calls prog 127 #[.slice A l.length c,.func (.func g) #[] lb] w fun e w'=>e=.returned (.int .i64 (idxB p l))/\Ext w w':=by
 have hl:l.length=l.length:=rfl;have Hl:=zsp hl;have Hp:=zsp hp;clear hl hp;obtain⟨N,hN0⟩:∃N:Nat,N=l.length:=⟨_,rfl⟩
 rw[<-hN0]at hn⊢;have HN:=zsp hN0;clear hN0
 go_enter func127,ntmps127
 go_wp2
 go_loopw [5,8] (fun _ i wr=>∃k:Nat,k<=N/\i=.int .i64 k/\Ext w wr/\Hid (∀(j:Nat) y,j<k->l[j]?=some y->p y=false)) (fun _ i _=>N - (intOf i).toNat)
 case atStart=>exact⟨0,Nat.zero_le _,rfl,Ext.refl _,fun j y h=>absurd h (Nat.not_lt_zero j)⟩
 case round=>
  obtain⟨k,hk,rfl,hW,hN⟩:=hrel;by_cases hlt:k<N
  . have hlt2:(k:Int)<N:=by omega
    obtain⟨b,off,f,hA,hf,hb1,hsz,c0⟩:=zbG.text (hb.up hW) (k:=k) (by have:=HN.out;omega);simp only at hA;subst hA;have Hf:=zsp hf;rcases hq:p f with _|_
    . have hcall:=Hp.out wr f ⟨List.mem_of_getElem? hf,hsz⟩ hW
      rw[hq]at hcall
      skip
      have Hc:=zsp hcall;have Hq:=zsp hq;clear hcall hq hf
      go_wp2_with (go_at_fn g;refine Hc.out.mono ?_;rintro e w1 ⟨rfl,E1⟩)
      go_roundw
      case rel=>
       refine⟨k+1,by omega,by go_num,hW.trans E1,fun j y hj hy=> ?_⟩;by_cases e:j=k
       . subst e
         have:=Hf.out.symm.trans hy;cases this;exact Hq.out
       . exact hN.out j y (by omega) hy
      case measure=>simp[intOf];omega
    . have hcall:=Hp.out wr f ⟨List.mem_of_getElem? hf,hsz⟩ hW
      rw[hq]at hcall
      skip
      have Hc:=zsp hcall;have hi:=zcx Hf.out hq hN.out;have Hi:=zsp hi;clear hcall hq hf hi
      go_wp2_with (go_at_fn g;refine Hc.out.mono ?_;rintro e w1 ⟨rfl,E1⟩)
      go_ret
      exact⟨zbT Hi.out.symm,hW.trans E1⟩
  . have hge:¬(k:Int)<N:=by omega
    have hi:idxB p l= -1:=zdB (fun j y hy=>hN.out j y (by have:=(List.getElem?_eq_some_iff.1 hy).1;have:=Hl.out;have:=HN.out;omega) hy);have Hi:=zsp hi;clear hi
    go_wp2
    go_ret
    exact⟨zbT Hi.out.symm,hW⟩
theorem zlq(eg:∀args w,(callFunc g args).run prog w=.ok (.enter g args) w)(hb:zbG w (A,c) l)(hn:l.length<=4000000000000)(hp:∀(W:World)(f:ByteArray),(f∈l/\f.size<=maxLen)->Ext w W->Calls prog g (#[.string f]++lb) W fun e W'=>e=.returned (.bool (p f))/\Ext W W'):
 Calls prog 85 #[.slice A l.length c,.func (.func g) #[] lb] w fun e w'=>e=.returned (.bool (l.any p))/\Ext w w':=by
 have h:=zra eg hb hn hp;rw[<-zlp];generalize idxB p l=I at*;have H:=zsp h;clear h hp hb
 go_enter func85,ntmps85
 go_wp2_with (go_at_call 127;refine H.out.mono ?_;rintro e w1 ⟨rfl,E1⟩)
 all_goals
  go_ret
  exact⟨by simp,E1⟩
theorem zrb{l:List MsgR}{p:MsgR->Bool}(eg:∀args w,(callFunc g args).run prog w=.ok (.enter g args) w)(hb:Reads w A n c 2 (l.flatMap treeC))(hn:n<=4000000000000)(hp:∀(W:World)(f:MsgR),f∈l->Ext w W->Calls prog g (#[treeV f]++lb) W fun e W'=>e=.returned (.bool (p f))/\Ext W W'):
 Calls prog 159 #[.slice A n c,.func (.func g) #[] lb] w fun e w'=>e=.returned (.int .i64 (idxB p l))/\Ext w w':=by
 have hl:l.length=n:=by have:=hb.len;rw[zbF (size:=2) (fun _=>rfl)]at this;omega
 have Hl:=zsp hl;have Hp:=zsp hp;clear hl hp;obtain⟨N,hN0⟩:∃N:Nat,N=n:=⟨_,rfl⟩
 rw[<-hN0]at hn⊢;have HN:=zsp hN0;clear hN0
 go_enter func159,ntmps159
 go_wp2
 go_loopw [5,8] (fun _ i wr=>∃k:Nat,k<=N/\i=.int .i64 k/\Ext w wr/\Hid (∀(j:Nat) y,j<k->l[j]?=some y->p y=false)) (fun _ i _=>N - (intOf i).toNat)
 case atStart=>exact⟨0,Nat.zero_le _,rfl,Ext.refl _,fun j y h=>absurd h (Nat.not_lt_zero j)⟩
 case round=>
  obtain⟨k,hk,rfl,hW,hN⟩:=hrel;by_cases hlt:k<N
  . have hlt2:(k:Int)<N:=by omega
    obtain⟨b,off,f,rfl,hf,hb1,c0,c1⟩:=zdw (hb.ext hW) (k:=k) (by have:=HN.out;omega);have Hf:=zsp hf;rcases hq:p f with _|_
    . have hcall:=Hp.out wr f (List.mem_of_getElem? hf) hW
      rw[hq]at hcall;unfold treeV at hcall;have Hc:=zsp hcall;have Hq:=zsp hq;clear hcall hq hf
      go_wp2_with (go_at_fn g;refine Hc.out.mono ?_;rintro e w1 ⟨rfl,E1⟩)
      go_roundw
      case rel=>
       refine⟨k+1,by omega,by go_num,hW.trans E1,fun j y hj hy=> ?_⟩;by_cases e:j=k
       . subst e
         have:=Hf.out.symm.trans hy;cases this;exact Hq.out
       . exact hN.out j y (by omega) hy
      case measure=>simp[intOf];omega
    . have hcall:=Hp.out wr f (List.mem_of_getElem? hf) hW
      rw[hq]at hcall;unfold treeV at hcall;have Hc:=zsp hcall;have hi:=zcx Hf.out hq hN.out;have Hi:=zsp hi;clear hcall hq hf hi
      go_wp2_with (go_at_fn g;refine Hc.out.mono ?_;rintro e w1 ⟨rfl,E1⟩)
      go_ret
      exact⟨zbT Hi.out.symm,hW.trans E1⟩
  . have hge:¬(k:Int)<N:=by omega
    have hi:idxB p l= -1:=zdB (fun j y hy=>hN.out j y (by have:=(List.getElem?_eq_some_iff.1 hy).1;have:=Hl.out;have:=HN.out;omega) hy);have Hi:=zsp hi;clear hi
    go_wp2
    go_ret
    exact⟨zbT Hi.out.symm,hW⟩
theorem zov{l:List MsgR}{p:MsgR->Bool}(eg:∀args w,(callFunc g args).run prog w=.ok (.enter g args) w)(hb:Reads w A n c 2 (l.flatMap treeC))(hn:n<=4000000000000)(hp:∀(W:World)(f:MsgR),f∈l->Ext w W->Calls prog g (#[treeV f]++lb) W fun e W'=>e=.returned (.bool (p f))/\Ext W W'):
 Calls prog 123 #[.slice A n c,.func (.func g) #[] lb] w fun e w'=>e=.returned (.bool (l.any p))/\Ext w w':=by
 have h:=zrb eg hb hn hp;rw[<-zlp];generalize idxB p l=I at*;have H:=zsp h;clear h hp hb
 go_enter func123,ntmps123
 go_wp2_with (go_at_call 159;refine H.out.mono ?_;rintro e w1 ⟨rfl,E1⟩)
 all_goals
  go_ret
  exact⟨by simp,E1⟩
theorem zqi{l:List ValR}{p:ValR->Bool}(eg:∀args w,(callFunc g args).run prog w=.ok (.enter g args) w)(hb:Reads w A n c 4 (l.flatMap tvalC))(hn:n<=4000000000000)(hp:∀(W:World)(f:ValR),f∈l->Ext w W->Calls prog g (#[tvalV f]++lb) W fun e W'=>e=.returned (.bool (p f))/\Ext W W'):
 Calls prog 132 #[.slice A n c,.func (.func g) #[] lb] w fun e w'=>e=.returned (.int .i64 (idxB p l))/\Ext w w':=by
 have hl:l.length=n:=by have:=hb.len;rw[zbF (size:=4) (fun _=>rfl)]at this;omega
 have Hl:=zsp hl;have Hp:=zsp hp;clear hl hp;obtain⟨N,hN0⟩:∃N:Nat,N=n:=⟨_,rfl⟩
 rw[<-hN0]at hn⊢;have HN:=zsp hN0;clear hN0
 go_enter func132,ntmps132
 go_wp2
 go_loopw [5,8] (fun _ i wr=>∃k:Nat,k<=N/\i=.int .i64 k/\Ext w wr/\Hid (∀(j:Nat) y,j<k->l[j]?=some y->p y=false)) (fun _ i _=>N - (intOf i).toNat)
 case atStart=>exact⟨0,Nat.zero_le _,rfl,Ext.refl _,fun j y h=>absurd h (Nat.not_lt_zero j)⟩
 case round=>
  obtain⟨k,hk,rfl,hW,hN⟩:=hrel;by_cases hlt:k<N
  . have hlt2:(k:Int)<N:=by omega
    obtain⟨b,off,f,rfl,hf,hb1,c0,c1,c2,c3⟩:=zdO (hb.ext hW) (k:=k) (by have:=HN.out;omega);have Hf:=zsp hf;rcases hq:p f with _|_
    . have hcall:=Hp.out wr f (List.mem_of_getElem? hf) hW
      rw[hq]at hcall;unfold tvalV at hcall;have Hc:=zsp hcall;have Hq:=zsp hq;clear hcall hq hf
      go_wp2_with (go_at_fn g;refine Hc.out.mono ?_;rintro e w1 ⟨rfl,E1⟩)
      go_roundw
      case rel=>
       refine⟨k+1,by omega,by go_num,hW.trans E1,fun j y hj hy=> ?_⟩;by_cases e:j=k
       . subst e
         have:=Hf.out.symm.trans hy;cases this;exact Hq.out
       . exact hN.out j y (by omega) hy
      case measure=>simp[intOf];omega
    . have hcall:=Hp.out wr f (List.mem_of_getElem? hf) hW
      rw[hq]at hcall;unfold tvalV at hcall;have Hc:=zsp hcall;have hi:=zcx Hf.out hq hN.out;have Hi:=zsp hi;clear hcall hq hf hi
      go_wp2_with (go_at_fn g;refine Hc.out.mono ?_;rintro e w1 ⟨rfl,E1⟩)
      go_ret
      exact⟨zbT Hi.out.symm,hW.trans E1⟩
  . have hge:¬(k:Int)<N:=by omega
    have hi:idxB p l= -1:=zdB (fun j y hy=>hN.out j y (by have:=(List.getElem?_eq_some_iff.1 hy).1;have:=Hl.out;have:=HN.out;omega) hy);have Hi:=zsp hi;clear hi
    go_wp2
    go_ret
    exact⟨zbT Hi.out.symm,hW⟩
end Go.Proofs.YtlhbllaojjelcaaGreat
