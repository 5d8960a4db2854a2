/- Contracts of layer 21 (update): Set. -/
import Derived.Test.YtpicpebolghcfaaGreatDoorQlW47

set_option linter.unusedVariables false
set_option linter.unusedSimpArgs false
set_option maxRecDepth 100000
set_option maxHeartbeats 4000000
namespace Go.Proofs.YtpicpebolghcfaaGreatDoor
open Go.RowKit Go.Shelf Go.Proofs.Tryz
variable{bs:List UInt8}{d:Int}
theorem zop{root i:Nat}{M:MsgD}{SA B:Option Addr}{sn sc m k:Nat}{S:List MsgV}{f:zab}{w:World}(hs:zag w SA sn sc S)(hb:zac w B m k bs)(hR:zan (S.map MsgV.d)=true)(hM:(S.map MsgV.d)[root]?=some M)(hf:M.fields[i]?=some f)(hm:m<=30000)(h0:codeL (S.map MsgV.d) f bs d=0):
 Calls prog 90 #[.slice SA sn sc,zaq f,.slice B m k,.int .i64 d] w fun e w'=>∃A' n2 c2,e=.returned (.tuple #[.slice A' n2 c2,.int .u8 0])/\Hid (n2=(zal f bs).length)/\zac w' A' n2 c2 (zal f bs)/\Ext w w':=by
 rcases hr:runL f with _|_
 . exact zhX hs hb hR hM hf hm h0 hr
 . exact zks hs hb hR hM hf hm h0 hr
theorem zoq{S:List MsgD}{root:Int}{p:ByteArray}(h:(zap S root d p bs).2=0):(zai S d.toNat root.toNat bs).2=0/\(zap S root d p bs).1.length<=65/\0<=d/\d<=64:=by
 unfold zap at h⊢;by_cases h0:argsV S root d≠0
 . rw[if_pos h0]at h
   exact absurd h h0
 . rw[if_neg h0]at h⊢
   have hd:0<=d/\d<=64:=by
    unfold argsV at h0;split at h0
    . exact absurd (by simp) h0
    . split at h0
      . exact absurd (by simp) h0
      . rename_i h3
        omega
   by_cases h1:(zas S root p).2≠0
   . rw[if_pos h1]at h
     exact absurd h h1
   . rw[if_neg h1]at h⊢
     obtain⟨_,_,_,_,_,q⟩:=zeH (S:=S) (root:=root) (p:=p) (by omega);refine⟨?_,q,hd⟩;have h2:(zaM S root bs d).2=0:=h;unfold zaM at h2;rw[if_pos (by omega)]at h2;exact h2
def setU(S:List MsgD)(root d:Int)(p:ByteArray)(bs vs:List UInt8)(f:zab):List UInt8×Nat:=
 if(zap S root d p bs).2≠0 then([],(zap S root d p bs).2)else if fitsU S f vs d (zap S root d p bs).1.length≠0 then([],fitsU S f vs d (zap S root d p bs).1.length)else
  (setB S true (zal f vs) (zap S root d p bs).1 root.toNat bs true,0)
section
variable {A B V:Option Addr} {n c m k mv kv:Nat} {S:List MsgV} {root d:Int} {p:ByteArray} {bs vs:List UInt8} {w:World}
theorem zpQ(hs:zag w A n c S)(hb:zac w B m k bs)(hm:m<=1000000)(hv:zac w V mv kv vs)(hmv:mv<=30000)(hp:p.size<=maxLen)(hK:(zap (S.map MsgV.d) root d p bs).2=0){f:zab}(hf:OnWay (S.map MsgV.d) root.toNat (zap (S.map MsgV.d) root d p bs).1 f):
 Calls prog 57 #[.slice A n c,.int .i64 root,.slice B m k,.int .i64 d,.string p,.slice V mv kv,.bool true] w fun e w'=>∃A' n' c',e=.returned (.tuple #[.slice A' n' c',.int .u8 ((setU (S.map MsgV.d) root d p bs vs f).2:Nat)])/\Hid (n'=(setU (S.map MsgV.d) root d p bs vs f).1.length)/\zac w' A' n' c' (setU (S.map MsgV.d) root d p bs vs f).1/\Ext w w':=by
 obtain⟨hRS,hr0,hr1,_⟩:=at_on hK;obtain⟨_,hw65,hd0,hd64⟩:=zoq hK;have hSl:=hs.length;have hvl:=hv.length;rw[List.length_map]at hr1;have hroot:((root.toNat:Nat):Int)=root:=Int.toNat_of_nonneg hr0;have hr:=zqw (root:=root) (d:=d) (p:=p) hs hb (by omega) hp;rw[hK]at hr
 have hset:setU (S.map MsgV.d) root d p bs vs f=if fitsU (S.map MsgV.d) f vs d (zap (S.map MsgV.d) root d p bs).1.length≠0 then([],fitsU (S.map MsgV.d) f vs d (zap (S.map MsgV.d) root d p bs).1.length)else
  (setB (S.map MsgV.d) true (zal f vs) (zap (S.map MsgV.d) root d p bs).1 root.toNat bs true,0):=by
  unfold setU;rw[if_neg (by rw[hK];simp)]
 rw[hset];clear hset hK;generalize (zap (S.map MsgV.d) root d p bs).1=way at*
 have hfd:∀(W:World)(A':Option Addr)(c':Nat),Ext w W->Reads W A' way.length c' 1 (way.map wyV)->Calls prog 88 #[.slice A n c,.int .i64 root,.slice A' way.length c'] W fun e W'=>e=.returned (zaq f)/\Ext W W':=by
  intro W A' c' h hw;have:=zsw hRS (hs.up h) (by omega) hf hw hw65;rw[hroot]at this;exact this
 have hft:=fun(W:World)(h:Ext w W)=>uFits (f:=f) (d:=d) (q:=way.length) (hs.up h) (hv.up h) (by omega) ⟨hd0,hd64⟩ hw65
 have Hr:=zsz hr;have Hfd:=zsz hfd;clear hr hfd;by_cases h8:d+1<(way.length:Int)
 . have hF:fitsU (S.map MsgV.d) f vs d way.length=8:=by unfold fitsU;rw[if_pos h8]
   rw[hF,if_pos (by simp)];obtain⟨fname,fnum,fkind,frep,fpk,fof⟩:=f;unfold zaq at Hfd;simp only;clear hF hft hs hb hv hf hRS;generalize way.length=wl at*
   go_enter func57,ntmps57
   go_wp2_with (first
    |(go_at_call 87;refine Hr.out.mono ?_;rintro e w1 ⟨A1,c1,rfl,own1⟩)
    |(go_at_call 88;refine(Hfd.out _ _ _ own1.ext own1.reads).mono ?_;rintro e w2 ⟨rfl,E2⟩))
   go_ret2
   exact⟨none,0,0,rfl,zsz rfl,zac.nil _,own1.ext.trans (E2.trans xx)⟩
 . by_cases hF:fitsU (S.map MsgV.d) f vs d way.length=0
   . rw[hF,if_neg (by simp)]
     rw[hF]at hft;simp only;obtain⟨m',i',M',hM',hf'⟩:=hf.mem
     have hcl:codeL (S.map MsgV.d) f vs (max (d - way.length) 0)=0:=by
      unfold fitsU at hF;rw[if_neg h8]at hF;by_cases h9:(way.length:Int)<=d
      . rw[if_pos h9]at hF
        rw[show max (d - (way.length:Int)) 0=d - way.length by omega];exact hF
      . rw[if_neg h9]at hF
        rw[show max (d - (way.length:Int)) 0=0 by omega];split at hF
        . cases hF
        . exact hF
     have hrl:=znf hRS hM' hf' hcl (by omega);have hrc:=fun(W:World)(h:Ext w W)=>zop (d:=max (d - way.length) 0) (hs.up h) (hv.up h) hRS hM' hf' (by omega) hcl
     have hat:∀(W:World)(kc:Nat)(EA:Option Addr)(en ec:Nat)(A':Option Addr)(c':Nat),Ext w W->BlkT W kc 155 #[.slice A n c,.bool true,.slice EA en ec,.bool true]->Hid (en=(zal f vs).length)->zac W EA en ec (zal f vs)->Reads W A' way.length c' 1 (way.map wyV)->
      Calls prog 91 #[.pointer (some ⟨kc,0,none⟩),.int .i64 root,.slice B m k,.slice A' way.length c',.bool true] W (zgb (setB (S.map MsgV.d) true (zal f vs) way root.toNat bs true) W):=by
      intro W kc EA en ec A' c' h hch hen hex hw;have:=uAt (n:=n) (c:=c) (en:=en) (ec:=ec) (kc:=kc) (extra:=zal f vs) (drop:=true) (pp:=true) hRS (by rw[hen.out];exact hrl) way root.toNat f bs true hf (hs.up h) (by omega) hch hex (hb.up h) hm hw hw65;rw[hroot]at this;exact this
     unfold zgb at hat;have Hft:=zsz hft;have Hrc:=zsz hrc;have Hat:=zsz hat;generalize setB (S.map MsgV.d) true (zal f vs) way root.toNat bs true=R at*;generalize zal f vs=E at*;obtain⟨fname,fnum,fkind,frep,fpk,fof⟩:=f;unfold zaq at Hfd Hft Hrc;clear hF hft hrc hat hs hb hv hf hRS hcl hrl hM' hf';have hwy:=way.length;clear hwy;obtain⟨wl,hwl⟩:∃wl,wl=way.length:=⟨_,rfl⟩
     rw[<-hwl]at Hr Hfd Hft Hrc Hat h8 hw65;clear hwl
     go_enter func57,ntmps57
     go_upto_region 5 with(first
      |(go_at_call 87;refine Hr.out.mono ?_;rintro e w1 ⟨A1,c1,rfl,own1⟩)
      |(go_at_call 88;refine(Hfd.out _ _ _ own1.ext own1.reads).mono ?_;rintro e w2 ⟨rfl,E2⟩))
     have BF:=BlkT.new w2 43 #[.string fname,.int .i64 fnum,.int .i64 fkind,.bool frep,.bool fpk,.int .i64 fof] rfl;have X3:Ext w2 (w2.alloc (.cells #[.string fname,.int .i64 fnum,.int .i64 fkind,.bool frep,.bool fpk,.int .i64 fof] 43)):=(Ext.refl w2).alloc _;generalize w2.alloc (.cells #[.string fname,.int .i64 fnum,.int .i64 fkind,.bool frep,.bool fpk,.int .i64 fof] 43)=w3 at*;replace X3:=E2.trans X3;have ownw:=own1.up X3;replace X3:=own1.ext.trans X3;have c0:w3.cell? ⟨w2.heap.size,0,none⟩=some (.string fname):=BF.cell 0;have c1':w3.cell? ⟨w2.heap.size,1,none⟩=some (.int .i64 fnum):=BF.cell 1;have c2:w3.cell? ⟨w2.heap.size,2,none⟩=some (.int .i64 fkind):=BF.cell 2;have c3:w3.cell? ⟨w2.heap.size,3,none⟩=some (.bool frep):=BF.cell 3;have c4:w3.cell? ⟨w2.heap.size,4,none⟩=some (.bool fpk):=BF.cell 4;have c5:w3.cell? ⟨w2.heap.size,5,none⟩=some (.int .i64 fof):=BF.cell 5;have cl:=BF.lt;clear BF
     go_upto_region 13 with(first
      |(go_at_call 89;refine(Hft.out _ X3).mono ?_;rintro e w4 ⟨rfl,E4⟩;have X4:=X3.trans E4;replace c0:=E4.of_cell c0;replace c1':=E4.of_cell c1';replace c2:=E4.of_cell c2;replace c3:=E4.of_cell c3;replace c4:=E4.of_cell c4;replace c5:=E4.of_cell c5;replace cl:=Nat.lt_of_lt_of_le cl E4.size;replace ownw:=ownw.up E4)
      |(go_at_call 90;refine(Hrc.out _ X4).mono ?_;rintro e w5 ⟨A5,n5,c5',rfl,hn5,hb5,E5⟩;have X5:=X4.trans E5;replace ownw:=ownw.up E5))
     have BC:=BlkT.new w5 155 #[.slice A n c,.bool true,.slice A5 n5 c5',.bool true] rfl;have X6:Ext w5 (w5.alloc (.cells #[.slice A n c,.bool true,.slice A5 n5 c5',.bool true] 155)):=(Ext.refl w5).alloc _
     go_upto_region 14 with fail
     generalize w5.alloc (.cells #[.slice A n c,.bool true,.slice A5 n5 c5',.bool true] 155)=w6 at*;have X7:=X5.trans X6;have hb6:=hb5.up X6;have own6:=ownw.up X6
     go_wp2_with (go_at_call 91;refine(Hat.out _ _ _ _ _ _ _ X7 BC hn5 hb6 own6.reads).mono ?_;rintro e w7 ⟨A7,n7,c7,rfl,hn7,own7⟩)
     go_ret2
     exact⟨A7,n7,c7,rfl,hn7,own7.bytes,X7.trans own7.ext⟩
   . rw[if_pos hF]
     simp only;generalize fitsU (S.map MsgV.d) f vs d way.length=K at*;have Hft:=zsz hft;obtain⟨fname,fnum,fkind,frep,fpk,fof⟩:=f;unfold zaq at Hfd Hft;have q0:((K:Int) !=0)=true:=by rw[bne_iff_ne];omega
     clear hft hs hb hv hf hRS hF;generalize way.length=wl at*
     go_enter func57,ntmps57
     go_upto_region 5 with(first
      |(go_at_call 87;refine Hr.out.mono ?_;rintro e w1 ⟨A1,c1,rfl,own1⟩)
      |(go_at_call 88;refine(Hfd.out _ _ _ own1.ext own1.reads).mono ?_;rintro e w2 ⟨rfl,E2⟩))
     have BF:=BlkT.new w2 43 #[.string fname,.int .i64 fnum,.int .i64 fkind,.bool frep,.bool fpk,.int .i64 fof] rfl;have X3:Ext w2 (w2.alloc (.cells #[.string fname,.int .i64 fnum,.int .i64 fkind,.bool frep,.bool fpk,.int .i64 fof] 43)):=(Ext.refl w2).alloc _;generalize w2.alloc (.cells #[.string fname,.int .i64 fnum,.int .i64 fkind,.bool frep,.bool fpk,.int .i64 fof] 43)=w3 at*;replace X3:=E2.trans X3;have ownw:=own1.up X3;replace X3:=own1.ext.trans X3;have c0:w3.cell? ⟨w2.heap.size,0,none⟩=some (.string fname):=BF.cell 0;have c1':w3.cell? ⟨w2.heap.size,1,none⟩=some (.int .i64 fnum):=BF.cell 1;have c2:w3.cell? ⟨w2.heap.size,2,none⟩=some (.int .i64 fkind):=BF.cell 2;have c3:w3.cell? ⟨w2.heap.size,3,none⟩=some (.bool frep):=BF.cell 3;have c4:w3.cell? ⟨w2.heap.size,4,none⟩=some (.bool fpk):=BF.cell 4;have c5:w3.cell? ⟨w2.heap.size,5,none⟩=some (.int .i64 fof):=BF.cell 5;have cl:=BF.lt
     go_wp2_with (go_at_call 89;refine(Hft.out _ X3).mono ?_;rintro e w4 ⟨rfl,E4⟩)
     go_ret2
     exact⟨none,0,0,rfl,zsz rfl,zac.nil _,X3.trans E4⟩
theorem uSet(hs:zag w A n c S)(hb:zac w B m k bs)(hm:m<=1000000)(hv:zac w V mv kv vs)(hmv:mv<=30000)(hp:p.size<=maxLen)(hK:(zap (S.map MsgV.d) root d p bs).2=0){f:zab}(hf:OnWay (S.map MsgV.d) root.toNat (zap (S.map MsgV.d) root d p bs).1 f):
 Calls prog 28 #[.slice A n c,.int .i64 root,.slice B m k,.int .i64 d,.string p,.slice V mv kv] w fun e w'=>∃A' n' c',e=.returned (.tuple #[.slice A' n' c',.int .u8 ((setU (S.map MsgV.d) root d p bs vs f).2:Nat)])/\Hid (n'=(setU (S.map MsgV.d) root d p bs vs f).1.length)/\zac w' A' n' c' (setU (S.map MsgV.d) root d p bs vs f).1/\Ext w w':=by
 have h:=zpQ (root:=root) (d:=d) (p:=p) hs hb hm hv hmv hp hK hf;generalize setU (S.map MsgV.d) root d p bs vs f=R at*;have H:=zsz h;clear h hK hs hb hv hf
 go_enter func28,ntmps28
 go_wp2_with (go_at_call 57;refine H.out.mono ?_;rintro e w1 ⟨A1,n1,c1,rfl,h1,h2,E1⟩)
 go_ret2
 exact⟨A1,n1,c1,rfl,h1,h2,E1⟩
end
def atR:List Int->MsgR->Option ValR
 |[],_=>none
 |n::l,x=>match x.vals.find? (fun v=>v.number==n)with
  |none=>none
  |some v=>if l=[]then some v else match v.subs with
   |[]=>none
   |y::_=>atR l y
theorem zhi(n:Int):∀l:List ValR,(l.find? fun v=>v.number==n).map bareV=(l.map bareV).find? fun v=>v.number==n
 |[]=>rfl
 |v::l=>by
  have ih:=zhi n l;rw[List.map_cons,List.find?_cons,List.find?_cons];have:(bareV v).number=v.number:=rfl;rw[this];split
  . rfl
  . exact ih
theorem zma:∀(l:List Int)(x:MsgR),(atR l x).map bareV=atM l (bare x)
 |[],x=>rfl
 |n::l,x=>by
  have hb:=zhi n x.vals;unfold atR atM getM;rw[zgO]
  show _=(match (x.vals.map bareV).find? (fun v=>v.number==n)with
   |none=>none
   |some v=>if l=[]then some v else match v.subs with
    |[]=>none
    |y::_=>atM l y)
  rw[<-hb];rcases hf:x.vals.find? (fun v=>v.number==n)with _|v
  . rw[hf]
    rfl
  . rw[hf]
    simp only[Option.map_some];by_cases hl:l=[]
    . rw[if_pos hl,if_pos hl]
      rfl
    . rw[if_neg hl,if_neg hl]
      have hs:(bareV v).subs=v.subs.map bare:=rfl;rw[hs];rcases v.subs with _|⟨y,ys⟩
      . rfl
      . exact zma l y
theorem zqB{w:World}:∀(l:List Int){x:MsgR}{v:ValR},zay w x->atR l x=some v->ValAt w v
 |[],x,v,_,h=>by cases h
 |n::l,x,v,hx,h=>by
  unfold atR at h;rcases hf:x.vals.find? (fun v=>v.number==n)with _|u
  . rw[hf]at h
    cases h
  . rw[hf]at h
    simp only at h;have hm:=List.mem_of_find?_eq_some hf;by_cases hl:l=[]
    . rw[if_pos hl]at h
      injection h with h;rw[<-h];exact hx.val hm
    . rw[if_neg hl]at h
      rcases hs:u.subs with _|⟨y,ys⟩
      . rw[hs]at h
        cases h
      . rw[hs]at h
        exact zqB l (hx.sub u hm y (by rw[hs];exact List.mem_cons_self)) h
theorem zor{n:Int}{l:List Int}{x:MsgR}{v:ValR}(h:zec (n::l) (bare x))(hl:l≠ [])(hf:x.vals.find? (fun v=>v.number==n)=some v):∃y ys,v.subs=y::ys/\zec l (bare y):=by
 unfold zec at h
 have hg:getM (bare x) n=some (bareV v):=by
  unfold getM;rw[zgO];show(x.vals.map bareV).find? (fun v=>v.number==n)=_;rw[<-zhi,hf];rfl
 obtain⟨y,ys,h1,h2⟩:=h hl _ hg;have hs:(bareV v).subs=v.subs.map bare:=rfl;rw[hs]at h1;rcases hv:v.subs with _|⟨z,zs⟩
 . rw[hv]at h1
   cases h1
 . rw[hv]at h1
   injection h1 with h3 h4;exact⟨z,zs,rfl,by rw[h3];exact h2⟩
end Go.Proofs.YtpicpebolghcfaaGreatDoor
