/- Layer 20: the reference's Value tells the value that the load means. -/
import Derived.Test.YtpicpebolghcfaaGreatDoorQlW106
import Derived.Test.YtpicpebolghcfaaGreatDoorQlS68
import Derived.Lib.ConvBytes
import Derived.Lib.AppendStr

set_option linter.unusedVariables false
set_option linter.unusedSimpArgs false
set_option maxRecDepth 100000
set_option maxHeartbeats 4000000
namespace Go.Proofs.YtpicpebolghcfaaGreatDoor
open Go.RowKit Go.Shelf Go.Proofs.Tryz
section
variable {f:zab} {vs:List UInt8} (sub:Nat->List UInt8->MsgT)
theorem zrp(hr:runL f=true):zaX sub f (wordsL f vs) (zaT f vs)=⟨(),(),(),f.number,(zaD f.kind vs).1,[],[]⟩:=by
 have hh:=hr;unfold runL at hh;rw[Bool.and_eq_true]at hh;obtain⟨hrep,hn⟩:=hh;have h17:=zbC hn
 have hw:wordsL f vs=(zaD f.kind vs).1:=by
  unfold wordsL;rw[if_pos hr]
 have hp:zaT f vs=[]:=by
  unfold zaT;rw[if_pos hn]
 rw[hw,hp];unfold zaX zaG zaJ;simp[hrep,h17]
theorem zrq(hn:zaf f.kind=true)(hrep:f.rep=false):zaX sub f (wordsL f vs) (zaT f vs)=⟨(),(),(),f.number,(zck f.rep vs).map fun b=>(readS f.kind b).1,[],[]⟩:=by
 have h17:=zbC hn
 have hr:runL f=false:=by
  unfold runL;rw[hrep];rfl
 have hw:wordsL f vs=[(readS f.kind vs).1]:=by
  unfold wordsL zaI;rw[if_neg (by rw[hr];simp),if_pos hn,if_neg (by rw[hrep];simp)];rfl
 have hp:zaT f vs=[]:=by
  unfold zaT;rw[if_pos hn]
 rw[hw,hp];unfold zaX zaG zaJ zck zaI;simp[hrep,h17,lastO]
theorem zkr(hn:zaf f.kind=false):wordsL f vs=[]/\zaT f vs=zck f.rep vs/\zaG f []=[]/\zaJ f (zck f.rep vs)=zck f.rep vs:=by
 have hr:runL f=false:=by
  unfold runL;rw[hn,Bool.and_false]
 refine⟨?_,?_,?_,?_⟩
 . unfold wordsL
   rw[if_neg (by rw[hr];simp),if_neg (by rw[hn];simp)]
 . unfold zaT
   rw[if_neg (by rw[hn];simp)];rfl
 . unfold zaG lastO
   split<;>simp
 . unfold zaJ
   rcases hrep:f.rep with _|_
   . unfold zck zaI
     rw[if_neg (by simp)];simp[lastO]
   . rw[if_pos rfl]
theorem zql(hn:zaf f.kind=false)(h17:f.kind≠17):zaX sub f (wordsL f vs) (zaT f vs)=⟨(),(),(),f.number,[],(zck f.rep vs).map textO,[]⟩:=by
 obtain⟨e1,e2,e3,e4⟩:=zkr (vs:=vs) hn;rw[e1,e2];unfold zaX;rw[e3,e4];simp[h17]
theorem zrr(hn:zaf f.kind=false)(h17:f.kind=17):zaX sub f (wordsL f vs) (zaT f vs)=⟨(),(),(),f.number,[],[],(zck f.rep vs).map (sub f.of_.toNat)⟩:=by
 obtain⟨e1,e2,e3,e4⟩:=zkr (vs:=vs) hn;rw[e1,e2];unfold zaX;rw[e3,e4];simp[h17]
theorem znL:(zck f.rep vs).length<=vs.length+1:=by
 unfold zck;rw[List.length_map];exact ziK _ _
theorem zpg{b:List UInt8}(h:b∈zck f.rep vs):b.length<=vs.length:=by
 unfold zck at h;obtain⟨x,hx,rfl⟩:=List.mem_map.1 h;exact zfq hx
end
variable{d:Int}{vs:List UInt8}{f:zab}
theorem zph{S:List MsgD}(h:codeL S f vs d=0):zan S=true/\1<=f.number/\f.number<=536870911/\(f.kind=17->0<=f.of_/\f.of_<S.length)/\(runL f=false->zbi (oneL S f d) (zaI f.rep vs)=0):=by
 have h0:argsL S f d=0:=by
  by_cases h0:argsL S f d=0
  . exact h0
  . rw[zen h0]at h
    exact absurd h h0
 have hr:zan S=true:=by
  rcases q:zan S with _|_
  . rw[zhK q]at h0
    cases h0
  . rfl
 have hb:¬badL S.length f d:=fun hb=>by
  rw[zcH hr hb]at h0;cases h0
 unfold badL at hb;refine⟨hr,?_,?_,fun h17=> ?_,fun hrun=> ?_⟩
 . exact Int.not_lt.1 fun q=>hb (.inl q)
 . exact Int.not_lt.1 fun q=>hb (.inr (.inl q))
 . constructor
   . exact Int.not_lt.1 fun q=>hb (by simp[h17,q])
   . exact Int.not_le.1 fun q=>hb (by simp[h17,q])
 . unfold codeL at h
   rw[if_neg (by simpa using h0),if_neg (by rw[hrun];simp)]at h;exact h
theorem zqm{A V:Option Addr}{n c m k:Nat}{S:List MsgV}{w:World}{sub:Nat->List UInt8->MsgT}(hs:zag w A n c S)(hb:zac w V m k vs)(hm:m<=100000)(hc:codeL (S.map MsgV.d) f vs d=0)(hof:OfR S 100001 sub):
 Calls prog 27 #[.slice A n c,zaq f,.slice V m k,.int .i64 d] w fun e w'=>∃y:ValR,e=.returned (tvalV y)/\bareV y=zaX sub f (wordsL f vs) (zaT f vs)/\ValAt w' y/\Ext w w':=by
 have hvl:=hb.length;obtain⟨_,hn1,hn2,h17s,hfirst⟩:=zph hc;have hnum: -9223372036854775808<=f.number/\f.number<9223372036854775808:=by omega
 rcases hrun:runL f with _|_
 . have hF:=hfirst hrun
   have hit:zhH w A V n c m k f d (zck f.rep vs):=by
    intro W E;refine(zmu (f:=f) (d:=d) (hs.up E) hb E (by omega)).mono ?_;rintro e w' ⟨l,A',n',c',h1,h2,h3⟩;rw[hF]at h1 h3;obtain⟨h4,h5⟩:=h3.out rfl;exact⟨l,A',n',c',h1,h2,h4,h5⟩
   have hits:(zck f.rep vs).length<=100001:=by
    have:=znL (f:=f) (vs:=vs);omega
   have hbs:∀b∈zck f.rep vs,b.length<=100000:=fun b h=>by
    have:=zpg h;omega
   rcases hn:zaf f.kind with _|_
   . by_cases h17:f.kind=17
     . rw[zrr sub hn h17]
       have hO:∀(W:World)(B:Option Addr)(nb cb:Nat)(b:List UInt8),Ext w W->zac W B nb cb b->nb<=100000->Calls prog 11 #[.slice A n c,.int .i64 f.of_,.slice B nb cb] W fun e w'=>∃y:MsgR,e=.returned (.agg #[.slice y.a.1 y.vals.length y.a.2,.slice y.b.1 y.unk.length y.b.2])/\bare y=sub f.of_.toNat b/\zay w' y/\(∀b,UsesT y b->W.heap.size<=b)/\Ext W w':=by
        intro W B nb cb b E hB hnb;obtain⟨q1,q2⟩:=h17s h17;rw[List.length_map]at q2;have:=hof W A n c f.of_.toNat B nb cb b (hs.up E) (by omega) hB (by omega);rw[Int.toNat_of_nonneg q1]at this;exact this
       exact zlp h17 hO hn hit hits hbs hnum
     . rw[zql sub hn h17]
       exact zkg h17 hn hit hits hbs hnum
   . have hrep:f.rep=false:=by
      unfold runL at hrun;rw[hn,Bool.and_true]at hrun;exact hrun
     rw[zrq sub hn hrep];exact zlo hrep hn hit hits hbs hnum
 . rw[zrp sub hrun]
   have hh:=hrun;unfold runL at hh;rw[Bool.and_eq_true]at hh;exact zlq hh.1 hh.2 hb hm (fun x hx=>(zmV hh.2 hx).2) hnum
end Go.Proofs.YtpicpebolghcfaaGreatDoor
namespace Go.Proofs.YtpicpebolghcfaaGreatDoor
open Go.RowKit Go.Proofs.Tryz
end Go.Proofs.YtpicpebolghcfaaGreatDoor
namespace Go.Proofs.YtpicpebolghcfaaGreatDoor
open Go.RowKit Go.Shelf Go.Proofs.Tryz
variable{n c:Nat}{A:Option Addr}{w:World}
theorem uses_lt{bs:List UInt8}(h:zac w A n c bs){b:Nat}(hu:UsesA A n b):b<w.heap.size:=by
 obtain⟨h0,p,rfl,rfl⟩:=hu;obtain⟨b,off,e,hb,_⟩:=h.at_ h0;cases e;exact hb
theorem zpi{w0:World}{xs:List Value}{e:TypeId}{size:Nat}(h:Own w0 w e size A n c xs):∀b,UsesA A n b->w0.heap.size<=b:=by
 rintro b ⟨h0,p,rfl,rfl⟩;have:=(h.row.lt p.block (Reads.row_uses (b:=p.block) ⟨h0,p,rfl,rfl⟩ h|>fun q=>by rw[zaV _ n c 0 0];exact q)).1;exact this
attribute [local go_sem] Oper.semAt_some
end Go.Proofs.YtpicpebolghcfaaGreatDoor
namespace Go.Proofs.YtpicpebolghcfaaGreatDoor
open Go.RowKit Go.Proofs.Tryz
theorem MsgD.eq_iff{x y:MsgD}:x=y<->x.name=y.name/\x.fields=y.fields:=by
 constructor
 . rintro rfl
   exact⟨rfl,rfl⟩
 . rintro⟨h1,h2⟩
   obtain⟨a,b⟩:=x;obtain⟨c,d⟩:=y;simp only at h1 h2;rw[h1,h2]
instance:DecidableEq MsgD:=fun x y=>decidable_of_iff _ MsgD.eq_iff.symm
theorem rGet{x:MsgR}{w:World}{N:Int}(hx:zay w x):Calls prog 43 #[treeV x,.int .i64 N] w fun e w'=>e=.returned (.int .i64 (idxB (fun v=>v.number==N) x.vals))/\Ext w w':=by
 have hmax:=hx.vals.max;have hcap:=hx.vals.cap;unfold maxLen at hmax;unfold treeV;obtain⟨D,hD⟩:∃D,D=idxB (fun v=>v.number==N) x.vals:=⟨_,rfl⟩
 rw[<-hD];have HD:=zsz hD;clear hD;generalize hn:x.vals.length=n at*;have Hn:=zsz hn;clear hn
 go_enter func43,ntmps43
 go_wp2
 have B1:BlkT (w.alloc (.cells #[.slice x.a.1 n x.a.2,.slice x.b.1 x.unk.length x.b.2] 40)) w.heap.size 40 #[.slice x.a.1 n x.a.2,.slice x.b.1 x.unk.length x.b.2]:=BlkT.new w _ _ rfl;have X0:Ext w (w.alloc (.cells #[.slice x.a.1 n x.a.2,.slice x.b.1 x.unk.length x.b.2] 40)):=xx;generalize w.alloc (.cells #[.slice x.a.1 n x.a.2,.slice x.b.1 x.unk.length x.b.2] 40)=w2 at*;have a1:w2.cell? ⟨w.heap.size,0,none⟩=some (.slice x.a.1 n x.a.2):=B1.cell 0;have hxr:=hx.up X0
 go_loopw [4,5] (fun _ i wr=>∃k:Nat,k<=n/\i=.int .i64 (k:Int)/\Ext w2 wr/\Hid (∀j y,j<k->x.vals[j]?=some y->(y.number==N)=false)) (fun _ i _=>n - (intOf i).toNat)
 case atStart=>exact⟨0,Nat.zero_le _,rfl,Ext.refl _,fun j y h=>absurd h (Nat.not_lt_zero _)⟩
 case round=>
  obtain⟨k,hk,rfl,hE,hB⟩:=hrel;have ar:=hE.of_cell a1;by_cases hlt:k<n
  . have hltI:(k:Int)<(n:Int):=by omega
    have hvr:=(hxr.up hE).vals;rw[Hn.out]at hvr;obtain⟨c1,off1,v,hA,hv,hb1,d0,d1,d2,d3⟩:=zgE hvr hlt;rw[hA]at ar;have Hv:=zsz hv;by_cases hf:v.number=N
    . have q:(v.number==N)=true:=by simp[hf]
      have Hf:=zsz q;have hf':(v.number:Int)=N:=hf;clear hv hf hA hf'
      go_wp2
      go_ret
      have h:=zcU (p:=fun v:ValR=>v.number==N) Hv.out Hf.out (fun j y hj hy=>hB.out j y hj hy);refine⟨?_,X0.trans hE⟩;show Ending.returned (.int .i64 (k:Int))=_;rw[HD.out,h]
    . have q:(v.number==N)=false:=by simp[hf]
      have Hf:=zsz q;clear hv hf hA
      go_wp2
      go_roundw
      case rel=>
       refine⟨k+1,by omega,by go_num,hE,fun j y hj hy=> ?_⟩;rcases Nat.lt_or_ge j k with h|h
       . exact hB.out j y h hy
       . have hjk:j=k:=by omega
         subst hjk;rw[Hv.out]at hy;cases hy;exact Hf.out
      case measure=>simp[intOf];omega
  . have hge:¬((k:Int)<(n:Int)):=by omega
    go_wp2
    go_ret
    refine⟨?_,X0.trans hE⟩
    have h:=zee (p:=fun v:ValR=>v.number==N) (l:=x.vals) (fun j y hy=>hB.out j y (by
     have:=(List.getElem?_eq_some_iff.1 hy).1;have:=Hn.out
     omega) hy)
    show Ending.returned (.int .i64 (-1))=_;rw[HD.out,h]
end Go.Proofs.YtpicpebolghcfaaGreatDoor
namespace Go.Proofs.YtpicpebolghcfaaGreatDoor
open Go.RowKit Go.Shelf Go.Proofs.Tryz
attribute [local go_sem] Oper.semAt_some
end Go.Proofs.YtpicpebolghcfaaGreatDoor
namespace Go.Proofs.YtpicpebolghcfaaGreatDoor
open Go.RowKit Go.Shelf Go.Proofs.Tryz
attribute [local go_sem] Oper.semAt_some
theorem Reads.is_cells{w:World}{A:Option Addr}{n c size b:Nat}{xs:List Value}(h:Reads w A n c size xs)(hs:0<size)(hu:UsesA A n b):∃o:Obj,w.heap[b]?=some o/\o.isCells=true:=by
 obtain⟨h0,p,rfl,rfl⟩:=hu;obtain⟨b,off,e,_,hc⟩:=h.at_ h0;cases e;have hl:=h.len;have hm:0<n*size:=Nat.mul_pos h0 hs;have hx:xs[0]?=some (xs[0]'(by omega)):=List.getElem?_eq_getElem (by omega);exact cells_of_cell (hc 0 _ hx)
end Go.Proofs.YtpicpebolghcfaaGreatDoor
namespace Go.Proofs.YtpicpebolghcfaaGreatDoor
open Go.RowKit Go.Shelf Go.Proofs.Tryz
attribute [local go_sem] Oper.semAt_some
variable{w:World}{bs:List UInt8}{d:Int}{f:zab}{S:List MsgV}{sn sc m k root i:Nat}{SA B:Option Addr}{M:MsgD}
theorem zks(hs:zag w SA sn sc S)(hb:zac w B m k bs)(hR:zan (S.map MsgV.d)=true)(hM:(S.map MsgV.d)[root]?=some M)(hf:M.fields[i]?=some f)(hm:m<=30000)(h0:codeL (S.map MsgV.d) f bs d=0)(hr:runL f=true):
 Calls prog 90 #[.slice SA sn sc,zaq f,.slice B m k,.int .i64 d] w fun e w'=>∃A' n2 c2,e=.returned (.tuple #[.slice A' n2 c2,.int .u8 0])/\Hid (n2=(zal f bs).length)/\zac w' A' n2 c2 (zal f bs)/\Ext w w':=by
 have hc:=fun W (h:zag W SA sn sc S)(q:zac W B m k bs)=>zpf (f:=f) (d:=d) h q (by omega)
 rw[h0]at hc;have hp:=fun W=>zjn (f:=f) (w:=W)
 have hr':=hr;unfold runL at hr';rw[hr']at hp;have hlen:=hb.length;have r2:=zfv hR hM hf
 have hch:zal f bs=(if bs=[]then[]else putB f.number 2 bs):=by
  unfold zal zaW;rw[if_pos hr];split<;>simp
 have hlb:lenB f.number bs=putB f.number 2 bs:=by
  unfold lenB;rw[if_pos r2]
 have hL:=fun W (h:zac W B m k bs)=>rLen (number:=f.number) (zac.nil W) (by omega) h (by omega)
 rw[hlb]at hL;obtain⟨R,hRR⟩:∃R,R=zal f bs:=⟨_,rfl⟩
 rw[<-hRR];rw[hch]at hRR;obtain⟨P,hP⟩:∃P,P=putB f.number 2 bs:=⟨_,rfl⟩
 rw[<-hP]at hL hRR;have HRR:=zsz hRR;have Hlen:=zsz hlen;have Hc:=zsz hc;have Hp:=zsz hp;have HL:=zsz hL;have HS:=zsz hs;have HB:=zsz hb;clear hc hp hL hs hb hr hr' hch hlb hRR hP hR hM hf h0 r2 hlen;unfold zaq;unfold zaq at Hc Hp;have BF:=BlkT.new w 43 #[.string f.name,.int .i64 f.number,.int .i64 f.kind,.bool f.rep,.bool f.packed,.int .i64 f.of_] rfl;have X:Ext w (w.alloc (.cells #[.string f.name,.int .i64 f.number,.int .i64 f.kind,.bool f.rep,.bool f.packed,.int .i64 f.of_] 43)):=(Ext.refl w).alloc _;by_cases h0:m=0
 . subst h0
   refine(callsIn_wide (n:=3)).1 ?_;refine callsIn_of_wp_marks func90 rfl trivial ?_ rfl;simp only[ntmps90,List.size_toArray,List.length_cons,List.length_nil,Nat.reduceAdd,Nat.reduceSub,Array.replicate_succ,Array.replicate_zero,List.push_toArray,List.append_toArray,List.nil_append,List.cons_append]
   gi_wp2_with fail
   generalize w.alloc (.cells #[.string f.name,.int .i64 f.number,.int .i64 f.kind,.bool f.rep,.bool f.packed,.int .i64 f.of_] 43)=wa at*;have z50:wa.cell? ⟨w.heap.size,0,none⟩=some (.string f.name):=BF.cell 0;have z51:wa.cell? ⟨w.heap.size,1,none⟩=some (.int .i64 f.number):=BF.cell 1;have z52:wa.cell? ⟨w.heap.size,2,none⟩=some (.int .i64 f.kind):=BF.cell 2;have z53:wa.cell? ⟨w.heap.size,3,none⟩=some (.bool f.rep):=BF.cell 3;have z54:wa.cell? ⟨w.heap.size,4,none⟩=some (.bool f.packed):=BF.cell 4;have z55:wa.cell? ⟨w.heap.size,5,none⟩=some (.int .i64 f.of_):=BF.cell 5
   gi_wp2_with (first
    |(refine⟨trivial,?_⟩;gi_at_call 113;refine(callsIn_wide.2 (Hc.out _ (HS.out.up X) (HB.out.up X))).mono ?_;rintro e w1 ⟨rfl,E1⟩;have X1:=X.trans E1;replace BF:=BF.up E1;replace z50:=E1.of_cell z50;replace z51:=E1.of_cell z51;replace z52:=E1.of_cell z52;replace z53:=E1.of_cell z53;replace z54:=E1.of_cell z54;replace z55:=E1.of_cell z55)
    |(refine⟨trivial,?_⟩;gi_at_call 114;refine(callsIn_wide.2 (Hp.out _)).mono ?_;rintro e w2 ⟨rfl,E2⟩;have X2:=X1.trans E2;replace BF:=BF.up E2;replace z50:=E2.of_cell z50;replace z51:=E2.of_cell z51;replace z52:=E2.of_cell z52;replace z53:=E2.of_cell z53;replace z54:=E2.of_cell z54;replace z55:=E2.of_cell z55))
   have hb0:bs=[]:=List.eq_nil_of_length_eq_zero Hlen.out;exact⟨_,by simp[results,results90,go_sem],none,0,0,rfl,by show _=_;rw[HRR.out,if_pos hb0];rfl,by rw[HRR.out,if_pos hb0];exact zac.nil _,X2⟩
 . have hm0:¬(m:Int)=0:=by omega
   have hm1:((m:Int)==0)=false:=by rw[beq_eq_false_iff_ne];exact hm0
   refine(callsIn_wide (n:=3)).1 ?_;refine callsIn_of_wp_marks func90 rfl trivial ?_ rfl;simp only[ntmps90,List.size_toArray,List.length_cons,List.length_nil,Nat.reduceAdd,Nat.reduceSub,Array.replicate_succ,Array.replicate_zero,List.push_toArray,List.append_toArray,List.nil_append,List.cons_append]
   gi_wp2_with fail
   generalize w.alloc (.cells #[.string f.name,.int .i64 f.number,.int .i64 f.kind,.bool f.rep,.bool f.packed,.int .i64 f.of_] 43)=wa at*;have z50:wa.cell? ⟨w.heap.size,0,none⟩=some (.string f.name):=BF.cell 0;have z51:wa.cell? ⟨w.heap.size,1,none⟩=some (.int .i64 f.number):=BF.cell 1;have z52:wa.cell? ⟨w.heap.size,2,none⟩=some (.int .i64 f.kind):=BF.cell 2;have z53:wa.cell? ⟨w.heap.size,3,none⟩=some (.bool f.rep):=BF.cell 3;have z54:wa.cell? ⟨w.heap.size,4,none⟩=some (.bool f.packed):=BF.cell 4;have z55:wa.cell? ⟨w.heap.size,5,none⟩=some (.int .i64 f.of_):=BF.cell 5
   gi_wp2_with (first
    |(refine⟨trivial,?_⟩;gi_at_call 113;refine(callsIn_wide.2 (Hc.out _ (HS.out.up X) (HB.out.up X))).mono ?_;rintro e w1 ⟨rfl,E1⟩;have X1:=X.trans E1;replace BF:=BF.up E1;replace z50:=E1.of_cell z50;replace z51:=E1.of_cell z51;replace z52:=E1.of_cell z52;replace z53:=E1.of_cell z53;replace z54:=E1.of_cell z54;replace z55:=E1.of_cell z55)
    |(refine⟨trivial,?_⟩;gi_at_call 114;refine(callsIn_wide.2 (Hp.out _)).mono ?_;rintro e w2 ⟨rfl,E2⟩;have X2:=X1.trans E2;replace BF:=BF.up E2;replace z50:=E2.of_cell z50;replace z51:=E2.of_cell z51;replace z52:=E2.of_cell z52;replace z53:=E2.of_cell z53;replace z54:=E2.of_cell z54;replace z55:=E2.of_cell z55)
    |(refine⟨trivial,?_⟩;gi_at_call 115;refine(callsIn_wide.2 (HL.out _ (HB.out.up X2))).mono ?_;rintro e w3 ⟨A3,c3,rfl,own3⟩;have X3:=X2.trans own3.ext))
   have hb0:¬bs=[]:=fun e=>h0 (by have:=Hlen.out;rw[e]at this;exact this.symm)
   refine⟨_,by simp[results,results90,go_sem];rfl,A3,_,c3,rfl,?_,?_,X3⟩
   . show _=_
     rw[HRR.out,if_neg hb0]
   . rw[HRR.out,if_neg hb0]
     simpa using own3.bytes
structure RecI(f:zab)(w wa:World)(b11 b13:Nat)(vs:List RunV)(j:Nat)(W:World):Prop where
 b5:BlkT W w.heap.size 43 #[.string f.name,.int .i64 f.number,.int .i64 f.kind,.bool f.rep,.bool f.packed,.int .i64 f.of_]
 b11:BlkT W b11 3 #[.int .i64 (wireI f.kind)]
 out:∃A n c,BlkT W b13 24 #[.slice A n c]/\zac W A n c ((vs.take j).map fun v=>putB f.number (wireI f.kind) v.bs).flatten/\∀b,UsesA A n b->wa.heap.size<=b
 ext:Ext w W
 size:wa.heap.size<=W.heap.size
variable{n c:Nat}{A:Option Addr}{W W':World}
theorem zdS{b:Nat}{o:Obj}(h:zac W A n c bs)(ho:W.heap[b]?=some o)(hc:o.isCells=false)(hO:Only b W W'):zac W' A n c bs:=
 Reads.stays h (s:=fun k=>k≠b) (Stays.grown hO (fun k hk q=>q (by injection hk with hk;exact hk.symm))) (fun k hk e=>by
  subst e;obtain⟨o2,h2,h3⟩:=Reads.is_cells h (by omega) hk;rw[ho]at h2;cases h2;rw[hc]at h3
  cases h3)
theorem zly{B:Nat}(h:zac W A n c bs)(hO:Only B W W')(hu:∀b,UsesA A n b->b≠B):zac W' A n c bs:=
 Reads.stays h (s:=fun k=>k≠B) (Stays.grown hO (fun k hk q=>q (by injection hk with hk;exact hk.symm))) hu
theorem zhX(hs:zag w SA sn sc S)(hb:zac w B m k bs)(hR:zan (S.map MsgV.d)=true)(hM:(S.map MsgV.d)[root]?=some M)(hf:M.fields[i]?=some f)(hm:m<=30000)(h0:codeL (S.map MsgV.d) f bs d=0)(hr:runL f=false):
 Calls prog 90 #[.slice SA sn sc,zaq f,.slice B m k,.int .i64 d] w fun e w'=>∃A' n2 c2,e=.returned (.tuple #[.slice A' n2 c2,.int .u8 0])/\Hid (n2=(zal f bs).length)/\zac w' A' n2 c2 (zal f bs)/\Ext w w':=by
 have hc:=fun W (h:zag W SA sn sc S)(q:zac W B m k bs)=>zpf (f:=f) (d:=d) h q (by omega)
 rw[h0]at hc;have hp:=fun W=>zjn (f:=f) (w:=W)
 have hr':=hr;unfold runL at hr';rw[hr']at hp;have hlen:=hb.length;obtain⟨_,_,_,hkb⟩:=zbl hR hM hf;have hputs:=zjM hR hM hf h0 hr
 have hch:zal f bs=((zaI f.rep bs).map fun x=>putB f.number (wireI f.kind) x.1).flatten:=by
  unfold zal zaW;rw[if_neg (by rw[hr];decide)]
 have ha:=fun W (E:Ext w W)=>lAll (f:=f) hb E (by omega)
 have hwi:∀W,Calls prog 58 #[.int .i64 f.kind] W fun e w'=>e=.returned (.tuple #[.int .i64 (wireI f.kind),.int .u8 0])/\Ext W w':=fun W=>by
  have h:=kWire f.kind W;rw[if_pos hkb]at h;have e:zdG f.kind=wireI f.kind:=by unfold zdG;rw[if_pos hkb]
  rw[e]at h;exact h
 have hput:=fun W (A:Option Addr)(n c:Nat)(xs:List UInt8)(x:RunV)(h1:zac W A n c xs)(hn:n<=1000000000)(h2:zac W x.A x.n x.c x.bs)(hx:x.n<=1000000000)(h3:(zaw f.number (wireI f.kind)&&fitsV (wireI f.kind) x.bs)=true)=>rPut h1 hn h2 hx h3
 obtain⟨R,hRR⟩:∃R,R=zal f bs:=⟨_,rfl⟩
 rw[<-hRR];rw[hch]at hRR;have HRR:=zsz hRR;have Hlen:=zsz hlen;have Hc:=zsz hc;have Hp:=zsz hp;have Ha:=zsz ha;have Hwi:=zsz hwi;have Hput:=zsz hput;have Hputs:=zsz hputs;have HS:=zsz hs;have HB:=zsz hb;clear hc hp hs hb hr hr' hch hRR hR hM hf h0 hlen ha hwi hput hputs hkb;unfold zaq;unfold zaq at Hc Hp Ha;have BF:=BlkT.new w 43 #[.string f.name,.int .i64 f.number,.int .i64 f.kind,.bool f.rep,.bool f.packed,.int .i64 f.of_] rfl;have X:Ext w (w.alloc (.cells #[.string f.name,.int .i64 f.number,.int .i64 f.kind,.bool f.rep,.bool f.packed,.int .i64 f.of_] 43)):=(Ext.refl w).alloc _;refine(callsIn_wide (n:=3)).1 ?_;refine callsIn_of_wp_marks func90 rfl trivial ?_ rfl;simp only[ntmps90,List.size_toArray,List.length_cons,List.length_nil,Nat.reduceAdd,Nat.reduceSub,Array.replicate_succ,Array.replicate_zero,List.push_toArray,List.append_toArray,List.nil_append,List.cons_append]
 gi_wp2_with fail
 generalize w.alloc (.cells #[.string f.name,.int .i64 f.number,.int .i64 f.kind,.bool f.rep,.bool f.packed,.int .i64 f.of_] 43)=wa at*;have z50:wa.cell? ⟨w.heap.size,0,none⟩=some (.string f.name):=BF.cell 0;have z51:wa.cell? ⟨w.heap.size,1,none⟩=some (.int .i64 f.number):=BF.cell 1;have z52:wa.cell? ⟨w.heap.size,2,none⟩=some (.int .i64 f.kind):=BF.cell 2;have z53:wa.cell? ⟨w.heap.size,3,none⟩=some (.bool f.rep):=BF.cell 3;have z54:wa.cell? ⟨w.heap.size,4,none⟩=some (.bool f.packed):=BF.cell 4;have z55:wa.cell? ⟨w.heap.size,5,none⟩=some (.int .i64 f.of_):=BF.cell 5
 gi_wp2_with (first
  |(refine⟨trivial,?_⟩;gi_at_call 113;refine(callsIn_wide.2 (Hc.out _ (HS.out.up X) (HB.out.up X))).mono ?_;rintro e w1 ⟨rfl,E1⟩;have X1:=X.trans E1;replace BF:=BF.up E1;replace z50:=E1.of_cell z50;replace z51:=E1.of_cell z51;replace z52:=E1.of_cell z52;replace z53:=E1.of_cell z53;replace z54:=E1.of_cell z54;replace z55:=E1.of_cell z55)
  |(refine⟨trivial,?_⟩;gi_at_call 114;refine(callsIn_wide.2 (Hp.out _)).mono ?_;rintro e w2 ⟨rfl,E2⟩;have X2:=X1.trans E2;replace BF:=BF.up E2;replace z50:=E2.of_cell z50;replace z51:=E2.of_cell z51;replace z52:=E2.of_cell z52;replace z53:=E2.of_cell z53;replace z54:=E2.of_cell z54;replace z55:=E2.of_cell z55)
  |(refine⟨trivial,?_⟩;gi_at_call 58;refine(callsIn_wide.2 (Hwi.out _)).mono ?_;rintro e w4 ⟨rfl,E4⟩;have X4:=X2.trans E4;replace BF:=BF.up E4;have lf4:=BF.lt;replace z50:=E4.of_cell z50;replace z51:=E4.of_cell z51;replace z52:=E4.of_cell z52;replace z53:=E4.of_cell z53;replace z54:=E4.of_cell z54;replace z55:=E4.of_cell z55)
  |(refine⟨trivial,?_⟩;gi_at_call 116;refine(callsIn_wide.2 (Ha.out _ (Ext.trans X4 xx))).mono ?_;rintro e w3 ⟨gf,lb,B0,vs,rfl,eg,hV,hit,hB1,hB2,E3⟩;have EB:Ext w4 w3:=Ext.trans xx E3;have B11:=(((BlkT.new w4 3 #[.int .i64 (wireI f.kind)] rfl).alloc _).up E3);have B13:=((BlkT.new (w4.alloc (.cells #[.int .i64 (wireI f.kind)] 3)) 24 #[.slice none 0 0] (show w4.heap.size+1=_ by simp)).up E3)))
 have hb11:=B11.lt;have hB1':w4.heap.size+2<=B0:=by simpa using hB1
 have hb13:=B13.lt;have hw4:=X4.size;have hsz3:=EB.size;have hcnt:vs.length<=m+1:=by have:=ziK f.rep bs;rw[<-hV.list,List.length_map,Hlen.out]at this;exact this
 have hsml:∀v∈vs,v.n<=30000/\v.bs.length=v.n/\(zaw f.number (wireI f.kind)&&fitsV (wireI f.kind) v.bs)=true:=fun v hv=>by
  have h1:=hV.each v hv;refine⟨by omega,h1.1.length,Hputs.out (v.bs,v.e) ?_⟩;rw[<-hV.list];exact List.mem_map.2 ⟨v,hv,rfl⟩
 have hbnd:∀j,(((vs.take j).map fun v=>putB f.number (wireI f.kind) v.bs).flatten).length<=950000000:=fun j=>by
  have h1:=zqT (l:=vs.take j) (g:=fun v=>putB f.number (wireI f.kind) v.bs) (B:=30015) (fun v hv=>by
   obtain⟨a1,a2,a3⟩:=hsml v (List.mem_of_mem_take hv);rw[Bool.and_eq_true]at a3;have:=zcv a3.1 (v:=v.bs) (by omega)
   omega)
  have h2:(vs.take j).length<=30001:=by rw[List.length_take];omega
  have h3:(vs.take j).length*30015<=30001*30015:=Nat.mul_le_mul_right _ h2;omega
 have Hsml:=zsz hsml;have Hbnd:=zsz hbnd;clear hsml hbnd
 refine zgM (w:=w3) rfl eg hit (fun b h=>by omega) hB2 (fun _=>rfl)
  (RecI f w w3 w4.heap.size (w4.heap.size+1) vs) (fun _ _=>False)
  (fun j x a₁ W=>RecI f w w3 w4.heap.size (w4.heap.size+1) vs j W/\∃b14,BlkT W b14 197 #[.slice x.A x.n x.c,.int .u8 (x.e:Int)]/\w3.heap.size<=b14/\a₁={tmps:=#[.slice SA sn sc,.agg #[.string f.name,.int .i64 f.number,.int .i64 f.kind,.bool f.rep,.bool f.packed,.int .i64 f.of_],.slice B m k,.int .i64 d,undef,.pointer (some ⟨w.heap.size,0,none⟩),undef,undef,.slice none 0 0,.int .u8 0,.int .u8 0,.pointer (some ⟨w4.heap.size,0,none⟩),.int .u8 0,.pointer (some ⟨w4.heap.size+1,0,none⟩),.pointer (some ⟨b14,0,none⟩),.slice SA sn sc,.agg #[.string f.name,.int .i64 f.number,.int .i64 f.kind,.bool f.rep,.bool f.packed,.int .i64 f.of_],.slice B m k,.int .i64 d,.int .u8 0,.int .u8 0,.bool false,undef,.agg #[.string f.name,.int .i64 f.number,.int .i64 f.kind,.bool f.rep,.bool f.packed,.int .i64 f.of_],.bool false,undef,undef,undef,undef,undef,undef,undef,.tuple #[.int .i64 (wireI f.kind),.int .u8 0],.pointer (some ⟨w.heap.size,2,none⟩),.int .i64 f.kind,.tuple #[.int .i64 (wireI f.kind),.int .u8 0],.int .i64 (wireI f.kind),.int .u8 0,.agg #[.string f.name,.int .i64 f.number,.int .i64 f.kind,.bool f.rep,.bool f.packed,.int .i64 f.of_],.slice B m k,.func (.func gf) #[] lb,runV x,undef,undef,undef,undef,undef,undef,undef,undef,undef,undef,undef],defers:=[]})
  (fun j W h=>h.size) ?hI ?hIB ?hIx ?hIxB ?hA ⟨BF.up EB,B11,⟨none,0,0,B13,zac.nil _,fun b h=>absurd h.1 (Nat.lt_irrefl 0)⟩,X4.trans EB,Nat.le_refl _⟩ ?assign ?body ?done ?stop
 case hI=>
  intro j W W' b o h hb2 ho hc hO;obtain⟨A2,n2,c2,q1,q2,q3⟩:=h.out;exact⟨h.b5.besides ho hc hO,h.b11.besides ho hc hO,⟨A2,n2,c2,q1.besides ho hc hO,zdS q2 ho hc hO,q3⟩,hO.toExt h.ext (by omega),Nat.le_trans h.size hO.size⟩
 case hIB=>
  intro j W W' h hO;obtain⟨A2,n2,c2,q1,q2,q3⟩:=h.out;exact⟨h.b5.onlyB hO (by omega),h.b11.onlyB hO (by omega),⟨A2,n2,c2,q1.onlyB hO (by omega),zly q2 hO (fun b hb=>by have:=q3 b hb;omega),q3⟩,hO.toExt h.ext (by omega),Nat.le_trans h.size hO.size⟩
 case hIx=>exact fun _ _ _ _ _ h=>h.elim
 case hIxB=>exact fun _ _ _ h=>h.elim
 case hA=>
  rintro j x a₁ W W' b o ⟨h,b14,h14,hl,rfl⟩ hb2 ho hc hO;obtain⟨A2,n2,c2,q1,q2,q3⟩:=h.out;exact⟨⟨h.b5.besides ho hc hO,h.b11.besides ho hc hO,⟨A2,n2,c2,q1.besides ho hc hO,zdS q2 ho hc hO,q3⟩,hO.toExt h.ext (by omega),Nat.le_trans h.size hO.size⟩,b14,h14.besides ho hc hO,hl,rfl⟩
 case assign=>
  intro l j x W K h hx hK;unfold runV
  gi_wp2
  refine hK _ _ ⟨?_,W.heap.size,BlkT.new W _ _ rfl,h.size,rfl⟩ (Ext.alloc (Ext.refl W) _);obtain⟨A2,n2,c2,q1,q2,q3⟩:=h.out;exact⟨h.b5.alloc _,h.b11.alloc _,⟨A2,n2,c2,q1.alloc _,q2.up ((Ext.refl W).alloc _),q3⟩,h.ext.alloc _,Nat.le_trans h.size (by simp)⟩
 case body=>
  rintro l j x a₁ W ⟨h,b14,h14,hl,rfl⟩ hx;have y0:W.cell? ⟨b14,0,none⟩=some (.slice x.A x.n x.c):=h14.cell 0;have yl:=h14.lt;obtain⟨A2,n2,c2,q1,q2,q3⟩:=h.out;obtain⟨a1,a2,a3⟩:=Hsml.out x (List.mem_of_getElem? hx);have hbx:zac W x.A x.n x.c x.bs:=((hV.each x (List.mem_of_getElem? hx)).1).up h.ext;have hbj:=Hbnd.out j;rw[q2.length]at hbj;have hcall:=Hput.out W A2 n2 c2 _ x q2 (by omega) hbx (by omega) a3;have u51:W.cell? ⟨w.heap.size,1,none⟩=some (.int .i64 f.number):=h.b5.cell 1;have l5:=h.b5.lt;have u11:=h.b11.cell 0;have l11:=h.b11.lt;have u13:=q1.cell 0;have u13f:=q1.free 0;have l13:=q1.lt;have H:=zsz h;have Hx:=zsz hx;have Q1:=zsz q1;have Q2:=zsz q2;have Hcall:=zsz hcall;have hWs:=h.size;clear h h14 hx q1 q2 q3 hcall z50 z51 z52 z53 z54 z55 hit B11 B13 BF a2 a3
  gi_wp2_with (first
   |(refine⟨trivial,?_⟩;gi_at_call 117;refine(CallsIn.inRound l (callsIn_wide.2 Hcall.out)).mono ?_;rintro e w5 ⟨A5,c5,rfl,own5⟩;have v13:=(Q1.out.up own5.ext).cell 0;have v13f:=(Q1.out.up own5.ext).free 0;have v13l:=(Q1.out.up own5.ext).lt))
  have h:=H.out;have hx5:=own5.ext.size;refine⟨(zhN own5.ext).trans (KeepsOthers.setCell _ _ _),fun b hb=>(Below.heap_setCell _ ⟨w4.heap.size+1,0,none⟩ _ b (by show b≠w4.heap.size+1;omega)).trans (own5.ext.block b (by omega)),?_⟩;refine⟨(h.b5.up own5.ext).far (p:=⟨w4.heap.size+1,0,none⟩) (by show w.heap.size≠w4.heap.size+1;omega) _,(h.b11.up own5.ext).far (p:=⟨w4.heap.size+1,0,none⟩) (by show w4.heap.size≠w4.heap.size+1;omega) _,⟨A5,_,c5,?_,?_,fun b hb=>Nat.le_trans hWs (zpi own5 b hb)⟩,(h.ext.trans own5.ext).setCell (p:=⟨w4.heap.size+1,0,none⟩) (by show w.heap.size<=w4.heap.size+1;omega) _,by have:=h.size;simp;omega⟩
  . have:=(Q1.out.up own5.ext).set_ 0 (.slice A5 (n2+(putB f.number (wireI f.kind) x.bs).length) c5)
    simpa using this
  . have e:(((vs.take (j+1)).map fun v=>putB f.number (wireI f.kind) v.bs).flatten)=((vs.take j).map fun v=>putB f.number (wireI f.kind) v.bs).flatten++putB f.number (wireI f.kind) x.bs:=by
     rw[zaC _ _ _ Hx.out];simp
    rw[e];exact Reads.stays (s:=fun b=>b≠w4.heap.size+1) own5.bytes ((Stays.refl _ w5).set (p:=⟨w4.heap.size+1,0,none⟩) (fun q=>q rfl) _) (fun b hb=>by have:=zpi own5 b hb;omega)
 case done=>
  intro D W hD h hK;obtain⟨A2,n2,c2,q1,q2,q3⟩:=h.out;have u13:=q1.cell 0;have l13:=q1.lt;have H:=zsz h;have HK:=zsz hK;have Q2:=zsz q2;clear h hK q1 q2 q3 z50 z51 z52 z53 z54 z55 hit B11 B13 BF
  gi_wp2
  have h:=H.out
  have e:R=((vs.take vs.length).map fun v=>putB f.number (wireI f.kind) v.bs).flatten:=by
   rw[HRR.out,List.take_length,<-hV.list,List.map_map];rfl
  refine⟨by simp,.inl ⟨_,_,rfl,run_takeDeferred (b:=D) (ds:=[]) HK.out,⟨_,by simp[results,results90,go_sem],A2,n2,c2,rfl,?_,?_,(zaN _ _ _).toExt h.ext (by omega)⟩⟩⟩
  . show _=_
    rw[e];exact Q2.out.length.symm
  . rw[e]
    exact zdS Q2.out HK.out rfl (zaN _ _ _)
 case stop=>exact fun _ _ _ _ h _=>h.elim
end Go.Proofs.YtpicpebolghcfaaGreatDoor
