/- Plain words of layer 21 (update): bytes with a field set, record by record. -/
import Derived.Test.YtpicpebolghcfaaGreatDoorQlS57
import Derived.Test.YtpicpebolghcfaaGreatDoorQlS16
import Derived.Test.YtpicpebolghcfaaGreatDoorQlW76

set_option linter.unusedVariables false
set_option linter.unusedSimpArgs false
set_option maxRecDepth 100000
set_option maxHeartbeats 1000000
namespace Go.Proofs.YtpicpebolghcfaaGreatDoor
open Go.RowKit Go.Shelf Tryz
def hasU(x:Int)(L:List ViewD):Bool:=L.any fun v=>decide ((v.r.n:Int)=x)
def stepU(rec:List UInt8->Bool->List UInt8)(x:Int)(one drop put:Bool)(bs:List UInt8):List ViewD->List UInt8
 |[]=>[]
 |v::L=>(if¬(v.r.n:Int)=x\/(one=true/\drop=false)then spanB bs v.r.f v.r.t else if one=true then[]else
  zda (tagV (spanB bs v.r.f v.r.t)).2.2.1 (spanB bs v.r.f v.r.t) (rec (zak bs v) (put&& !hasU x L)))++stepU rec x one drop put bs L
theorem zig{L:List ViewD}{x:Int}:∀{k:Nat},(∀j v,j<k->L[j]?=some v->¬(v.r.n:Int)=x)->lastU L x k= -1
 |0,_=>rfl
 |k+1,h=>by
  have ih:=zig (L:=L) (x:=x) (k:=k) (fun j v hj hv=>h j v (by omega) hv);unfold lastU;rcases hv:L[k]? with _|v
  . exact ih
  . simp only
    rw[if_neg (h k v (by omega) hv)];exact ih
theorem zlR{L:List ViewD}{x:Int}{i:Nat}{v:ViewD}(hv:L[i]?=some v)(hx:(v.r.n:Int)=x):∀{k:Nat},i<k->((i:Int)=lastU L x k<->∀j u,i<j->j<k->L[j]?=some u->¬(u.r.n:Int)=x)
 |0,h=>by omega
 |k+1,h=>by
  by_cases hik:i=k
  . subst hik
    have:lastU L x (i+1)=i:=by
     unfold lastU;rw[hv];simp only;rw[if_pos hx]
    rw[this];exact⟨fun _ j u h1 h2=>by omega,fun _=>rfl⟩
  . have ih:=zlR hv hx (k:=k) (by omega)
    have hst:lastU L x (k+1)=match L[k]? with
     |none=>lastU L x k
     |some v=>if(v.r.n:Int)=x then(k:Int)else lastU L x k:=by
     conv=>lhs;unfold lastU
     rcases L[k]? with _|v<;>rfl
    rw[hst];rcases hu:L[k]? with _|u
    . rw[ih]
      constructor
      . intro h1 j w h2 h3 h4
        by_cases hjk:j=k
        . subst hjk
          rw[hu]at h4;cases h4
        . exact h1 j w h2 (by omega) h4
      . intro h1 j w h2 h3 h4
        exact h1 j w h2 (by omega) h4
    . simp only
      by_cases hux:(u.r.n:Int)=x
      . rw[if_pos hux]
        constructor
        . intro h1
          omega
        . intro h1
          exact absurd hux (h1 k u (by omega) (by omega) hu)
      . rw[if_neg hux,ih]
        constructor
        . intro h1 j w h2 h3 h4
          by_cases hjk:j=k
          . subst hjk
            rw[hu]at h4;cases h4;exact hux
          . exact h1 j w h2 (by omega) h4
        . intro h1 j w h2 h3 h4
          exact h1 j w h2 (by omega) h4
theorem zew{x:Int}{L:List ViewD}:hasU x L=true<->∃v∈L,(v.r.n:Int)=x:=by
 unfold hasU;rw[List.any_eq_true];simp
theorem zmU(rec:List UInt8->Bool->List UInt8)(x:Int)(one drop put:Bool)(bs:List UInt8)(L:List ViewD):
 zbg (zdb rec x one drop put bs (lastU L x L.length)) L L.length=stepU rec x one drop put bs L:=by
 have key:∀k i,i+k=L.length->zbg (zdb rec x one drop put bs (lastU L x L.length)) L L.length=zbg (zdb rec x one drop put bs (lastU L x L.length)) L i++stepU rec x one drop put bs (L.drop i):=by
  intro k
  induction k with
  |zero=>
   intro i hi;have:i=L.length:=by omega
   subst this;rw[List.drop_length];simp[stepU]
  |succ k ih=>
   intro i hi;obtain⟨v,hv⟩:∃v,L[i]?=some v:=⟨_,List.getElem?_eq_getElem (by omega)⟩
   have hd:L.drop i=v::L.drop (i+1):=by
    have hil:i<L.length:=by omega
    rw[List.drop_eq_getElem_cons hil];congr 1;exact Option.some.inj ((List.getElem?_eq_getElem hil).symm.trans hv)
   rw[ih (i+1) (by omega),zeZ hv,hd,List.append_assoc];congr 1
   conv=>rhs;unfold stepU
   congr 1;unfold zdb;by_cases hx:(v.r.n:Int)=x
   . have hfl:decide ((i:Int)=lastU L x L.length)= !hasU x (L.drop (i+1)):=by
      rw[Bool.eq_iff_iff,decide_eq_true_iff,Bool.not_eq_true',zlR hv hx (by omega)];constructor
      . intro h
        rw[Bool.eq_false_iff];intro h2;obtain⟨u,hu,hux⟩:=zew.1 h2;obtain⟨j,hj⟩:=List.mem_iff_getElem?.1 hu;rw[List.getElem?_drop]at hj;exact h (i+1+j) u (by omega) (List.getElem?_eq_some_iff.1 hj).1 hj hux
      . intro h j u h1 h2 h3 hux
        have:hasU x (L.drop (i+1))=true:=zew.2 ⟨u,by
         refine List.mem_iff_getElem?.2 ⟨j - (i+1),?_⟩;rw[List.getElem?_drop,show i+1+(j - (i+1))=j by omega]
         exact h3,hux⟩
        rw[this]at h;cases h
     rw[hfl]
   . rw[if_pos (.inl hx),if_pos (.inl hx)]
 have:=key L.length 0 (by omega);rw[List.drop_zero,zhj,List.nil_append]at this;exact this
variable{S:List MsgD}
theorem OnWay.same:∀{l:List Int}{m:Nat}{f g:zab},OnWay S m l f->OnWay S m l g->f=g
 |_,_,_,_,.last h,.last k=>Option.some.inj (h.symm.trans k)
 |_,_,_,_,.last h,.step k _ _ t=>absurd rfl t.ne
 |_,_,_,_,.step h _ _ t,.last k=>absurd rfl t.ne
 |_,_,_,_,.step (f:=f) h _ _ t,.step (f:=f') k _ _ u=>by
  obtain rfl:=Option.some.inj (h.symm.trans k);exact OnWay.same t u
section
variable {A B:Option Addr} {n c m k:Nat} {S:List MsgV} {root d:Int} {p:ByteArray} {bs:List UInt8} {w:World}
theorem zog(hs:zag w A n c S)(hb:zac w B m k bs)(hm:m<=1000000000)(hp:p.size<=maxLen){K:Nat}(hK:(zap (S.map MsgV.d) root d p bs).2=K)(h0:K≠0):
 Calls prog 44 #[.slice A n c,.int .i64 root,.slice B m k,.int .i64 d,.string p] w fun e w'=>e=.returned (.tuple #[zbG zcn none 0 0,.int .u8 (K:Int)])/\Ext w w':=by
 refine(pFind (root:=root) (d:=d) hs hb hm hp).mono ?_;rintro e w' (⟨_,h1,h2⟩|⟨h1,_⟩)
 . rw[hK]at h1
   exact⟨h1,h2⟩
 . exact absurd (hK.symm.trans h1) h0
def atP(S:List MsgD)(root d:Int)(p:ByteArray)(bs:List UInt8):List (List UInt8):=zao S root.toNat bs (zap S root d p bs).1
theorem zpJ(hs:zag w A n c S)(hb:zac w B m k bs)(hm:m<=1000000000)(hp:p.size<=maxLen)(hK:(zap (S.map MsgV.d) root d p bs).2=0){f:zab}(hf:OnWay (S.map MsgV.d) root.toNat (zap (S.map MsgV.d) root d p bs).1 f):
 Calls prog 44 #[.slice A n c,.int .i64 root,.slice B m k,.int .i64 d,.string p] w fun e w'=>∃l A' n' c',e=.returned (.tuple #[zbG f A' n' c',.int .u8 0])/\zbw w' A' n' c' l/\zat l=atP (S.map MsgV.d) root d p bs/\Ext w w'/\InS (fun q=>w.heap.size<=q) A':=by
 refine(pFind (root:=root) (d:=d) hs hb hm hp).mono ?_;rintro e w' (⟨h1,_⟩|⟨_,g,l,A',n',c',h1,h2,h3,h4,h5⟩)
 . exact absurd hK h1
 . obtain rfl:=hf.same h1
   exact⟨l,A',n',c',h2,h3,h4,h5⟩
end
variable{n:Nat}{l:List BRow}
theorem zrF{root d:Int}{p:ByteArray}{bs:List UInt8}(h:zat l=atP S root d p bs)(hb:bs.length<=1000000000)(hn:l.length=n):(flatR l).length<=1000000000/\n<=1000000000:=by
 have:=zbZ S (zap S root d p bs).1 root.toNat bs;have h2:=congrArg List.length h;unfold zat at h2;rw[List.length_map]at h2;rw[zdI,h];unfold atP at h2⊢;omega
def gotV(f:zab)(ps:List (List UInt8)):List UInt8×Nat:=if zbk f ps=true then(loadP f ps,0)else([],11)
variable{f:zab}
theorem zoh{ps:List (List UInt8)}(h:zbk f ps=true)(hr:f.rep=false):0<ps.length:=by
 unfold zbk at h;rw[if_neg (by unfold runP;rw[hr];simp)]at h;simpa using h
theorem zoi{A:Option Addr}{c:Nat}{w:World}(hb:zbw w A n c l)(hl:(flatR l).length<=1000000000)(hn:n<=1000000000):
 Calls prog 47 #[zbG f A n c] w fun e w'=>e=.returned (.int .i64 (zkH f (zat l):Nat))/\Ext w w':=by
 have hth:=fun W (h:zbw W A n c l)=>zpv (f:=f) h hl
 have hnu:=fun W=>zjs (f:=f) (A:=A) (n:=n) (c:=c) (w:=W)
 have hlo:=fun W (h:zbw W A n c l) hne=>pLoad (f:=f) h hl hn hne
 have hbl:=hb.length;have hpl:(zat l).length=n:=by unfold zat;rw[List.length_map];exact hbl
 have hB:=BlkT.new w 79 (zco f A n c) rfl;have X0:Ext w (w.alloc (.cells (zco f A n c) 79)):=xx
 have hll:(loadP f (zat l)).length<=1000000000\/runP f=false:=by
  by_cases hr:runP f=true
  . rw[zeI hr,<-zdI];exact .inl hl
  . exact .inr (by simpa using hr)
 have hv:zkH f (zat l)=if zbk f (zat l)=false then 0 else if runP f=true then zgv f.kind (loadP f (zat l))else if f.rep=true then n else 1:=by unfold zkH;rw[hpl]
 rw[hv];have hrn:runP f=true->f.rep=true:=fun h=>by unfold runP at h;simp at h;exact h.1
 have Hb:=zsz hb;clear hv hpl hbl hb hl;obtain⟨fname,fnum,fkind,frep,fpk,fof⟩:=f;simp only[zco,zbG]at*;generalize loadP ⟨fname,fnum,fkind,frep,fpk,fof⟩ (zat l)=LD at*;rcases ht:zbk ⟨fname,fnum,fkind,frep,fpk,fof⟩ (zat l)with _|_
 . rw[ht]at hth
   have Hth:=zsz hth;rw[if_pos rfl];clear ht hth hnu hlo hll hrn
   go_enter func47,ntmps47
   go_wp2_with (go_at_call 45;refine(Hth.out _ (Hb.out.up X0)).mono ?_;rintro e w1 ⟨rfl,E1⟩)
   go_ret
   exact⟨rfl,X0.trans E1⟩
 . rw[ht]at hth
   have Hth:=zsz hth;rw[if_neg (by simp)];rcases hr:runP ⟨fname,fnum,fkind,frep,fpk,fof⟩with _|_
   . rw[hr]at hnu
     have Hnu:=zsz hnu;rw[if_neg (by simp)];clear ht hth hnu hlo hll hrn hr
     cases frep with
     |false=>
      rw[if_neg (by simp)]
      go_enter func47,ntmps47
      go_wp2_with (first
       |(go_at_call 45;refine(Hth.out _ (Hb.out.up X0)).mono ?_;rintro e w1 ⟨rfl,E1⟩;replace hB:=hB.up E1;have X1:=X0.trans E1;have c0:w1.cell? ⟨w.heap.size,0,none⟩=some (.string fname):=hB.cell 0;have c1:w1.cell? ⟨w.heap.size,1,none⟩=some (.int .i64 fnum):=hB.cell 1;have c2:w1.cell? ⟨w.heap.size,2,none⟩=some (.int .i64 fkind):=hB.cell 2;have c3:w1.cell? ⟨w.heap.size,3,none⟩=some (.bool false):=hB.cell 3;have c4:w1.cell? ⟨w.heap.size,4,none⟩=some (.bool fpk):=hB.cell 4;have c5:w1.cell? ⟨w.heap.size,5,none⟩=some (.int .i64 fof):=hB.cell 5;have c6:w1.cell? ⟨w.heap.size,6,none⟩=some (.slice A n c):=hB.cell 6;have cl:=hB.lt)
       |(go_at_call 76;refine(Hnu.out _).mono ?_;rintro e w2 ⟨rfl,E2⟩;have X2:=X1.trans E2;replace c3:=E2.of_cell c3;replace cl:=Nat.lt_of_lt_of_le cl E2.size))
      go_ret
      exact⟨rfl,X2⟩
     |true=>
      rw[if_pos rfl]
      go_enter func47,ntmps47
      go_wp2_with (first
       |(go_at_call 45;refine(Hth.out _ (Hb.out.up X0)).mono ?_;rintro e w1 ⟨rfl,E1⟩;replace hB:=hB.up E1;have X1:=X0.trans E1;have c0:w1.cell? ⟨w.heap.size,0,none⟩=some (.string fname):=hB.cell 0;have c1:w1.cell? ⟨w.heap.size,1,none⟩=some (.int .i64 fnum):=hB.cell 1;have c2:w1.cell? ⟨w.heap.size,2,none⟩=some (.int .i64 fkind):=hB.cell 2;have c3:w1.cell? ⟨w.heap.size,3,none⟩=some (.bool true):=hB.cell 3;have c4:w1.cell? ⟨w.heap.size,4,none⟩=some (.bool fpk):=hB.cell 4;have c5:w1.cell? ⟨w.heap.size,5,none⟩=some (.int .i64 fof):=hB.cell 5;have c6:w1.cell? ⟨w.heap.size,6,none⟩=some (.slice A n c):=hB.cell 6;have cl:=hB.lt)
       |(go_at_call 76;refine(Hnu.out _).mono ?_;rintro e w2 ⟨rfl,E2⟩;have X2:=X1.trans E2;replace c3:=E2.of_cell c3;replace c6:=E2.of_cell c6;replace cl:=Nat.lt_of_lt_of_le cl E2.size))
      go_ret
      exact⟨rfl,X2⟩
   . rw[hr]at hnu
     have Hnu:=zsz hnu;rw[if_pos rfl];obtain rfl:=hrn hr;have hlo2:=fun W (h:zbw W A n c l)=>hlo W h (fun h=>by cases h)
     have hln:LD.length<=1000000000:=hll.resolve_right (by rw[hr];simp);obtain⟨ll,hll2⟩:∃ll,ll=LD.length:=⟨_,rfl⟩
     rw[<-hll2]at hlo2 hln;have hct:=fun W A' c' (q:zac W A' ll c' LD)=>zpB (k:=fkind) q hln
     have Hlo:=zsz hlo2;have Hct:=zsz hct;clear ht hth hnu hlo hll hrn hr hlo2 hct hll2
     go_enter func47,ntmps47
     go_wp2_with (first
      |(go_at_call 45;refine(Hth.out _ (Hb.out.up X0)).mono ?_;rintro e w1 ⟨rfl,E1⟩;replace hB:=hB.up E1;have X1:=X0.trans E1;have c0:w1.cell? ⟨w.heap.size,0,none⟩=some (.string fname):=hB.cell 0;have c1:w1.cell? ⟨w.heap.size,1,none⟩=some (.int .i64 fnum):=hB.cell 1;have c2:w1.cell? ⟨w.heap.size,2,none⟩=some (.int .i64 fkind):=hB.cell 2;have c3:w1.cell? ⟨w.heap.size,3,none⟩=some (.bool true):=hB.cell 3;have c4:w1.cell? ⟨w.heap.size,4,none⟩=some (.bool fpk):=hB.cell 4;have c5:w1.cell? ⟨w.heap.size,5,none⟩=some (.int .i64 fof):=hB.cell 5;have c6:w1.cell? ⟨w.heap.size,6,none⟩=some (.slice A n c):=hB.cell 6;have cl:=hB.lt)
      |(go_at_call 76;refine(Hnu.out _).mono ?_;rintro e w2 ⟨rfl,E2⟩;have X2:=X1.trans E2;replace hB:=hB.up E2;clear c0 c1 c2 c3 c4 c5 c6 cl))
     have c0:w2.cell? ⟨w.heap.size,0,none⟩=some (.string fname):=hB.cell 0;have c1:w2.cell? ⟨w.heap.size,1,none⟩=some (.int .i64 fnum):=hB.cell 1;have c2:w2.cell? ⟨w.heap.size,2,none⟩=some (.int .i64 fkind):=hB.cell 2;have c3:w2.cell? ⟨w.heap.size,3,none⟩=some (.bool true):=hB.cell 3;have c4:w2.cell? ⟨w.heap.size,4,none⟩=some (.bool fpk):=hB.cell 4;have c5:w2.cell? ⟨w.heap.size,5,none⟩=some (.int .i64 fof):=hB.cell 5;have c6:w2.cell? ⟨w.heap.size,6,none⟩=some (.slice A n c):=hB.cell 6;have cl:=hB.lt
     go_region_held3 (fun W=>Ext w2 W/\∀b o,b<w2.heap.size->W.cell? ⟨b,o,none⟩=w2.cell? ⟨b,o,none⟩) ((refine Ext.keep ?_;repeat with_reducible (first|assumption|exact Ext.refl _|refine Ext.alloc ?_ _|refine Ext.drew ?_|refine Ext.drewN ?_ _|refine Ext.setCell ?_ (by first|omega|(simp<;>omega)) _))) (first
      |(go_split_ands;go_at_call 46;refine(Hlo.out _ (Hb.out.up (X2.trans (by with_reducible assumption)))).mono ?_;rintro e w3 ⟨A3,k3,rfl,own3⟩;have q3:Ext w2 w3:=Ext.trans (by with_reducible assumption) own3.ext;have rd3:=own3.reads)
      |(go_split_ands;go_at_call 79;refine(Hct.out _ _ _ (rd3.ext xx)).mono ?_;rintro e w4 ⟨rfl,E4⟩;have q4:Ext w2 w4:=Ext.trans (by with_reducible assumption) E4))
     all_goals
      go_wp2
      go_ret
      exact⟨rfl,X2.trans q4⟩
section
variable {A B:Option Addr} {n c m k:Nat} {S:List MsgV} {root d:Int} {p:ByteArray} {bs:List UInt8} {w:World}
theorem zpK(hs:zag w A n c S)(hb:zac w B m k bs)(hm:m<=1000000000)(hp:p.size<=maxLen){K:Nat}(hK:(zap (S.map MsgV.d) root d p bs).2=K)(h0:K≠0):
 Calls prog 16 #[.slice A n c,.int .i64 root,.slice B m k,.int .i64 d,.string p] w fun e w'=>e=.returned (.tuple #[.slice none 0 0,.int .u8 (K:Int)])/\Ext w w':=by
 have hfi:=fun W (a:zag W A n c S)(b:zac W B m k bs)=>zog (root:=root) (d:=d) a b hm hp hK h0
 have Hfi:=zsz hfi;have q:((K:Int) !=0)=true:=by rw[bne_iff_ne];omega
 clear hfi hK h0;unfold zbG zcn at Hfi;simp only at Hfi
 go_enter func16,ntmps16
 go_wp2_with (go_at_call 44;refine(Hfi.out _ hs hb).mono ?_;rintro e w1 ⟨rfl,E1⟩)
 go_ret2
 exact⟨rfl,Ext.trans E1 xx⟩
theorem zoj(hs:zag w A n c S)(hb:zac w B m k bs)(hm:m<=1000000000)(hp:p.size<=maxLen)(hK:(zap (S.map MsgV.d) root d p bs).2=0){f:zab}(hf:OnWay (S.map MsgV.d) root.toNat (zap (S.map MsgV.d) root d p bs).1 f):
 Calls prog 16 #[.slice A n c,.int .i64 root,.slice B m k,.int .i64 d,.string p] w fun e w'=>∃A' c',e=.returned (.tuple #[.slice A' (gotV f (atP (S.map MsgV.d) root d p bs)).1.length c',.int .u8 ((gotV f (atP (S.map MsgV.d) root d p bs)).2:Nat)])/\
  Own w w' 5 1 A' (gotV f (atP (S.map MsgV.d) root d p bs)).1.length c' ((gotV f (atP (S.map MsgV.d) root d p bs)).1.map bv):=by
 have hfi:=fun W (a:zag W A n c S)(b:zac W B m k bs)=>zpJ (root:=root) (d:=d) a b hm hp hK hf
 have Hfi:=zsz hfi;have ha:∀(l:List BRow)(n:Nat),zat l=atP (S.map MsgV.d) root d p bs->l.length=n->(flatR l).length<=1000000000/\n<=1000000000:=fun l n h1 h2=>zrF h1 (by have:=hb.length;omega) h2
 clear hfi hK hf;unfold gotV;generalize atP (S.map MsgV.d) root d p bs=ps at Hfi ha⊢;have HA:=zsz ha;clear ha;obtain⟨fname,fnum,fkind,frep,fpk,fof⟩:=f;rcases ht:zbk ⟨fname,fnum,fkind,frep,fpk,fof⟩ ps with _|_
 . have Ht:=zsz ht
   rw[if_neg (by simp)];clear ht
   go_enter func16,ntmps16
   go_wp2_with (go_at_call 44;refine(Hfi.out _ hs hb).mono ?_;rintro e w1 ⟨l,A1,n1,c1',rfl,hB1,hps,E1,_⟩;unfold zbG;obtain⟨hle,hn1⟩:=HA.out _ _ hps hB1.length;have hB:=BlkT.new w1 79 (zco ⟨fname,fnum,fkind,frep,fpk,fof⟩ A1 n1 c1') rfl;unfold zco at hB;have X1:Ext w1 (w1.alloc (.cells #[.string fname,.int .i64 fnum,.int .i64 fkind,.bool frep,.bool fpk,.int .i64 fof,.slice A1 n1 c1'] 79)):=xx;have hth:=fun W (h:Ext w1 W)=>zpv (f:=⟨fname,fnum,fkind,frep,fpk,fof⟩) (hB1.up h) hle;have htg:=fun W (h:Ext w1 W)=>zoi (f:=⟨fname,fnum,fkind,frep,fpk,fof⟩) (hB1.up h) hle hn1;rw[hps]at hth htg;unfold zbG at hth htg;have Hth:=zsz hth;have Htg:=zsz htg;have Hps:=zsz hps;clear hth htg hps)
   generalize w1.alloc (.cells #[.string fname,.int .i64 fnum,.int .i64 fkind,.bool frep,.bool fpk,.int .i64 fof,.slice A1 n1 c1'] 79)=wx at*;have c0:wx.cell? ⟨w1.heap.size,0,none⟩=some (.string fname):=hB.cell 0;have c1:wx.cell? ⟨w1.heap.size,1,none⟩=some (.int .i64 fnum):=hB.cell 1;have c2:wx.cell? ⟨w1.heap.size,2,none⟩=some (.int .i64 fkind):=hB.cell 2;have c3:wx.cell? ⟨w1.heap.size,3,none⟩=some (.bool frep):=hB.cell 3;have c4:wx.cell? ⟨w1.heap.size,4,none⟩=some (.bool fpk):=hB.cell 4;have c5:wx.cell? ⟨w1.heap.size,5,none⟩=some (.int .i64 fof):=hB.cell 5;have c6:wx.cell? ⟨w1.heap.size,6,none⟩=some (.slice A1 n1 c1'):=hB.cell 6;have cl:=hB.lt;replace Hth:=Hth.out;rw[Ht.out]at Hth;have Hth2:=zsz Hth;clear Hth
   go_wp2_with (go_at_call 45;refine(Hth2.out _ X1).mono ?_;rintro e w2 ⟨rfl,E2⟩)
   go_ret2
   exact⟨none,0,rfl,Own.nil ((E1.trans X1).trans E2) _ 1⟩
 . have Ht:=zsz ht
   rw[if_pos rfl];clear ht
   go_enter func16,ntmps16
   go_wp2_with (go_at_call 44;refine(Hfi.out _ hs hb).mono ?_;rintro e w1 ⟨l,A1,n1,c1',rfl,hB1,hps,E1,_⟩;unfold zbG;obtain⟨hle,hn1⟩:=HA.out _ _ hps hB1.length;have hB:=BlkT.new w1 79 (zco ⟨fname,fnum,fkind,frep,fpk,fof⟩ A1 n1 c1') rfl;unfold zco at hB;have X1:Ext w1 (w1.alloc (.cells #[.string fname,.int .i64 fnum,.int .i64 fkind,.bool frep,.bool fpk,.int .i64 fof,.slice A1 n1 c1'] 79)):=xx;have hth:=fun W (h:Ext w1 W)=>zpv (f:=⟨fname,fnum,fkind,frep,fpk,fof⟩) (hB1.up h) hle;have htg:=fun W (h:Ext w1 W)=>zoi (f:=⟨fname,fnum,fkind,frep,fpk,fof⟩) (hB1.up h) hle hn1;rw[hps]at hth htg;unfold zbG at hth htg;have Hth:=zsz hth;have Htg:=zsz htg;have Hps:=zsz hps;clear hth htg hps)
   have hlo:=fun W (h:Ext w1 W)=>pLoad (f:=⟨fname,fnum,fkind,frep,fpk,fof⟩) (hB1.up h) hle hn1 (fun hr=>.inl (by have:=zoh Ht.out hr;rw[<-Hps.out]at this;unfold zat at this;rw[List.length_map,hB1.length]at this;exact this))
   rw[Hps.out]at hlo;unfold zbG at hlo;have Hlo:=zsz hlo;clear hlo;generalize w1.alloc (.cells #[.string fname,.int .i64 fnum,.int .i64 fkind,.bool frep,.bool fpk,.int .i64 fof,.slice A1 n1 c1'] 79)=wx at*;have c0:wx.cell? ⟨w1.heap.size,0,none⟩=some (.string fname):=hB.cell 0;have c1:wx.cell? ⟨w1.heap.size,1,none⟩=some (.int .i64 fnum):=hB.cell 1;have c2:wx.cell? ⟨w1.heap.size,2,none⟩=some (.int .i64 fkind):=hB.cell 2;have c3:wx.cell? ⟨w1.heap.size,3,none⟩=some (.bool frep):=hB.cell 3;have c4:wx.cell? ⟨w1.heap.size,4,none⟩=some (.bool fpk):=hB.cell 4;have c5:wx.cell? ⟨w1.heap.size,5,none⟩=some (.int .i64 fof):=hB.cell 5;have c6:wx.cell? ⟨w1.heap.size,6,none⟩=some (.slice A1 n1 c1'):=hB.cell 6;have cl:=hB.lt;replace Hth:=Hth.out;rw[Ht.out]at Hth;have Hth2:=zsz Hth;clear Hth;obtain⟨LD,hLD⟩:∃LD,LD=loadP ⟨fname,fnum,fkind,frep,fpk,fof⟩ ps:=⟨_,rfl⟩
   rw[<-hLD]at Hlo;have HLD:=zsz hLD;clear hLD
   go_wp2_with (first
    |(go_at_call 45;refine(Hth2.out _ X1).mono ?_;rintro e w2 ⟨rfl,E2⟩;replace c0:=E2.of_cell c0;replace c1:=E2.of_cell c1;replace c2:=E2.of_cell c2;replace c3:=E2.of_cell c3;replace c4:=E2.of_cell c4;replace c5:=E2.of_cell c5;replace c6:=E2.of_cell c6;replace cl:=Nat.lt_of_lt_of_le cl E2.size)
    |(go_at_call 46;refine(Hlo.out _ (X1.trans E2)).mono ?_;rintro e w3 ⟨A3,k3,rfl,own3⟩))
   go_ret2
   rw[<-HLD.out];exact⟨A3,k3,rfl,own3.since ((E1.trans X1).trans E2)⟩
end
section
variable {A B:Option Addr} {n c m k:Nat} {S:List MsgV} {root d:Int} {p:ByteArray} {bs:List UInt8} {w:World}
end
section
variable {A B:Option Addr} {n c m k:Nat} {S:List MsgV} {root d:Int} {p:ByteArray} {bs:List UInt8} {w:World}
end
end Go.Proofs.YtpicpebolghcfaaGreatDoor
namespace Go.Proofs.YtpicpebolghcfaaGreatDoor
open Go.RowKit Tryz
variable{k:Int}
theorem zjG(h:zaf k=true):1<=k/\k<=14:=by
 unfold zaf at h;exact of_decide_eq_true h
variable{bs:List UInt8}
theorem zeX{fs:List zab}{v:ViewD}(hv:v∈(zae fs bs).1){i:Nat}{f:zab}(hi:v.field=(i:Nat))(hf:fs[i]?=some f)(hr:v.run=false)(hn:zaf f.kind=true):
 stepN f.kind (zak bs v)=((zak bs v).length,0)/\1<=(zak bs v).length:=by
 obtain⟨h1,h2⟩:=zbI fs bs v hv;have hb:=zbO hv;have hk:=zjG hn
 have hw:wireI f.kind=(v.r.w:Int):=by
  rcases zdE fs v.r with⟨_,hs⟩|⟨k,g,_,hg,_,_,hs⟩
  . rw[hs]at h2
    have:=congrArg (fun x:ViewD×Nat=>x.1.field) h2;simp only at this;omega
  . rw[hs]at h2
    by_cases hc:(g.rep&&zaf g.kind&&v.r.w==2)=true
    . rw[if_pos hc]at h2
      have:=congrArg (fun x:ViewD×Nat=>x.1.run) h2;simp only at this;rw[hr]at this;cases this
    . rw[if_neg hc]at h2
      by_cases hd:kindB g.kind=true/\wireI g.kind=(v.r.w:Int)
      . rw[if_pos hd]at h2
        have:=congrArg (fun x:ViewD×Nat=>x.1.field) h2;simp only at this;have hki:k=i:=by omega
        subst hki;rw[hf]at hg;cases hg;exact hd.2
      . rw[if_neg hd]at h2
        have:=congrArg Prod.snd h2;simp at this
 have hh:=zkf h1
 have hsp:zak bs v=(spanB bs v.r.f v.r.t).drop (v.r.a - v.r.f):=by
  unfold zak spanB;rw[List.drop_drop,show v.r.f+(v.r.a - v.r.f)=v.r.a by omega]
 have hsl:=zax bs (a:=v.r.f) (t:=v.r.t) (by omega);generalize spanB bs v.r.f v.r.t=sp at*;rcases zdf sp with⟨C,hC,h0,_⟩|⟨T,V,N,a,g,_,hz,hle,hN,hh2⟩
 . rw[hC]at hh
   have:=congrArg (fun x:Nat×Nat×Nat×Nat×Nat=>x.2.2.2.2) hh;simp only at this;omega
 . rw[hh]at hh2
   simp only[Prod.mk.injEq]at hh2;obtain⟨_,rfl,e3,e4,_⟩:=hh2;have hvl:(zak bs v).length=g:=by rw[hsp,List.length_drop,e3];omega
   unfold sizeV at hz;unfold wireI at hw;by_cases h8:f.kind<=8
   . rw[if_pos h8]at hw
     have hV:v.r.w=0:=by omega
     rw[if_pos hV]at hz;simp only[Prod.mk.injEq]at hz;obtain⟨rfl,hg,hc⟩:=hz;rw[Nat.add_zero]at e3;rw[e3]at hsp;rw[<-hsp]at hg hc;have hbd:=zaP (zak bs v);have:=hbd.2.2.2.2.1 hc;unfold stepN;rw[if_pos (by omega),hg,hc];exact⟨by rw[hvl],by omega⟩
   . rw[if_neg h8]at hw
     by_cases h11:f.kind<=11
     . rw[if_pos h11]at hw
       have hV:v.r.w=5:=by omega
       rw[hV]at hz;simp at hz;obtain⟨rfl,rfl⟩:=hz;unfold stepN;rw[if_neg (by omega),if_pos (by omega),if_neg (by omega)];exact⟨by rw[hvl],by omega⟩
     . rw[if_neg h11,if_pos (by omega)]at hw
       have hV:v.r.w=1:=by omega
       rw[hV]at hz;simp at hz;obtain⟨rfl,rfl⟩:=hz;unfold stepN;rw[if_neg (by omega),if_neg (by omega),if_neg (by omega)];exact⟨by rw[hvl],by omega⟩
variable{b:List UInt8}
theorem zlS(hk:zaf k=true)(h:stepN k b=(b.length,0))(hl:1<=b.length):valsV k b=[(b,0)]:=by
 unfold valsV;rw[if_neg (by rw[hk];simp)];obtain⟨n,hn⟩:∃n,b.length=n+1:=⟨b.length - 1,by omega⟩
 rw[hn];unfold valsF;have hb:b≠ []:=fun e=>by rw[e]at hl;simp at hl
 rw[if_neg hb,h,if_pos rfl,List.take_of_length_le (Nat.le_refl _),List.drop_of_length_le (Nat.le_refl _)];cases n<;>simp[valsF]
theorem zgY(hk:zaf k=true)(h:stepN k b=(b.length,0))(hl:1<=b.length):zaD k b=([(readS k b).1],0):=by
 have hv:=zlS hk h hl;have hc:codeV k b=0:=by unfold codeV;rw[hv];rfl
 unfold zaD;rw[hc,if_pos rfl,hv];rfl
theorem zmV{w:Nat}(hk:zaf k=true)(h:w∈(zaD k bs).1):zaF k w=w/\w<18446744073709551616:=by
 unfold zaD at h;simp only at h;split at h
 . obtain⟨v,_,rfl⟩:=List.mem_map.1 h
   exact⟨zlj k v.1,(zfA k v.1).1⟩
 . cases h
end Go.Proofs.YtpicpebolghcfaaGreatDoor
namespace Go.Proofs.YtpicpebolghcfaaGreatDoor
open Go.RowKit Go.Shelf Tryz
section
variable {A B:Option Addr} {n c m k:Nat} {S:List MsgV} {root d:Int} {p:ByteArray} {bs:List UInt8} {w:World}
def zcf(f:zab)(ps:List (List UInt8)):List (List UInt8):=if f.rep=true then ps else[loadP f ps]
end
theorem zkP(k:Int)(bs:List UInt8):(zaD k bs).1.length=zgv k bs:=by
 unfold zaD zgv;by_cases h:codeV k bs=0
 . simp only[if_pos h]
   exact List.length_map _
 . simp only[if_neg h]
   rfl
def getF:zab:=⟨⟨#[97]⟩,1,3,true,false,0⟩
theorem get_a:(zap [⟨⟨#[109]⟩,[getF]⟩] 0 0 ⟨#[97]⟩ [8,1,10,2,2,3]).2=0/\(zap [⟨⟨#[109]⟩,[getF]⟩] 0 0 ⟨#[97]⟩ [8,1,10,2,2,3]).1=[1]/\gotV getF (atP [⟨⟨#[109]⟩,[getF]⟩] 0 0 ⟨#[97]⟩ [8,1,10,2,2,3])=([1,2,3],0):=by decide+kernel
theorem zgZ(w:World):Calls prog 6 #[] w fun e w'=>e=.returned (.bool true)/\Ext w w':=by
 have hs:=znw (w:=w) (nm:=⟨#[109]⟩) (f:=⟨⟨#[97]⟩,1,3,true,false,0⟩) (by constructor<;>decide) (by decide);obtain⟨v1,v2,v3⟩:=get_a
 have hon:OnWay [⟨⟨#[109]⟩,[getF]⟩] (0:Int).toNat (zap [⟨⟨#[109]⟩,[getF]⟩] 0 0 ⟨#[97]⟩ [8,1,10,2,2,3]).1 getF:=by
  rw[v2];exact .last (by decide+kernel)
 have hg:=fun(W:World)(A B C:Option Addr)(h:zag W A 1 1 [⟨⟨⟨#[109]⟩,[getF]⟩,C,1,1⟩])(hb:zac W B 6 6 [8,1,10,2,2,3])=>zoj (root:=0) (d:=0) (p:=⟨#[97]⟩) h hb (by omega) (by decide) v1 hon
 simp only[List.map_cons,List.map_nil,v3]at hg;have Hs:=zsz hs;have Hg:=zsz hg;clear hs hg v1 v2 v3 hon
 go_enter func6,ntmps6
 go_wp2_with fail
 refine(Hg.out _ _ _ _ (Hs.out.up xx) (zjA _ _ _ [8,1,10,2,2,3] 6 (by simp) (by simp[bv]) rfl (by simp[maxLen]))).mono ?_;rintro e w1 ⟨A1,c1,rfl,own1⟩;have X1:Ext w w1:=Ext.trans xx own1.ext
 go_wp2_with fail
 refine(same (xs:=[1,2,3]) (ys:=[1,2,3]) (own1.up xx).bytes (zjA _ _ _ [1,2,3] 3 (by simp) (by simp[bv]) rfl (by simp[maxLen]))).mono ?_;rintro e w3 ⟨rfl,rfl⟩
 go_wp2
 go_ret
 exact⟨by simp,X1.trans xx⟩
theorem at_on{S:List MsgD}{root d:Int}{p:ByteArray}{bs:List UInt8}(h:(zap S root d p bs).2=0):
 zan S=true/\0<=root/\root<S.length/\∃f,OnWay S root.toNat (zap S root d p bs).1 f/\(zap S root d p bs).1.length<=1000:=by
 unfold zap at h⊢;by_cases h0:argsV S root d≠0
 . rw[if_pos h0]at h
   exact absurd h h0
 . rw[if_neg h0]at h⊢
   by_cases h1:(zas S root p).2≠0
   . rw[if_pos h1]at h
     exact absurd h h1
   . rw[if_neg h1]
     obtain⟨q1,q2,q3,f,hf,q4⟩:=zeH (S:=S) (root:=root) (p:=p) (by omega);exact⟨q1,q2,q3,f,hf,by show(zas S root p).1.length<=1000;omega⟩
theorem at_le(S:List MsgD)(root d:Int)(p:ByteArray)(bs:List UInt8):(zap S root d p bs).2<256:=by
 unfold zap;split
 . unfold argsV
   repeat' split
   all_goals decide
 . split
   . show(zas S root p).2<256
     unfold zas argsM
     repeat' split
     all_goals first
      |decide
      |exact(by decide:(0:Nat)<256)
   . have:=zoP S root bs d
     show(zaM S root bs d).2<256;omega
theorem zpL{f:zab}{ps:List (List UInt8)}{M:Nat}(h1:ps.flatten.length<=M)(h2:ps.length<=M)(hM:M<=1000000000):(loadP f ps).length<=11*M:=by
 unfold loadP;split
 . omega
 . split
   . unfold lastP
     rcases hl:ps.getLast? with _|b
     . simp
     . have:=zcx (List.mem_of_getLast? hl)
       simp only[Option.getD_some];omega
   . have:=ziR ps (fun b hb=>by have:=zcx hb;omega)
     omega
end Go.Proofs.YtpicpebolghcfaaGreatDoor
namespace Go.Proofs.YtpicpebolghcfaaGreatDoor
open Go.RowKit Tryz
section
variable {se:Nat->MsgT->List UInt8} {sub:Nat->List UInt8->MsgT} {f:zab} {bs:List UInt8} {fs:List zab} {L:List ViewD} {S:List MsgD} {m:Nat} {M:MsgD}
end
section
variable {se:Nat->MsgT->List UInt8} {sub:Nat->List UInt8->MsgT} {f:zab} {bs:List UInt8} {fs:List zab} {S:List MsgD} {m:Nat} {M:MsgD}
end
end Go.Proofs.YtpicpebolghcfaaGreatDoor
namespace Go.Proofs.YtpicpebolghcfaaGreatDoor
open Go.RowKit Tryz
open Go.Lib (uvarint uvarint_small uvarint_big uvarint_pos)
section
variable {se:Nat->MsgT->List UInt8} {sub:Nat->List UInt8->MsgT} {f:zab} {a b:List UInt8} {fs:List zab} {S:List MsgD} {m:Nat} {M:MsgD}
end
end Go.Proofs.YtpicpebolghcfaaGreatDoor
namespace Go.Proofs.YtpicpebolghcfaaGreatDoor
open Go.RowKit Tryz
section
variable {S:List MsgD}
end
end Go.Proofs.YtpicpebolghcfaaGreatDoor
