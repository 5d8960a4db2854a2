/- The document's answers for 13 and 21: the way of names, of a path. -/
import Derived.Test.YtpicpebolghcfaaGreatDoorQlW73
import Derived.Lib.AppendZerosOnto
import Derived.Orders

set_option linter.unusedVariables false
set_option maxRecDepth 100000
set_option maxHeartbeats 4000000
namespace Go.Proofs.YtpicpebolghcfaaGreatDoor
open Go.RowKit Go.Shelf Tryz
theorem zlM{S:List MsgD}:∀{l:List ByteArray}{m:Nat}{way:List Int},wayV S m l=some way->way.length=l.length
 |[],m,way,h=>by
  unfold wayV at h;injection h with h;rw[<-h];rfl
 |s::l,m,way,h=>by
  unfold wayV at h;split at h
  . cases h
  . split at h
    . cases h
    . split at h
      . rename_i hl
        injection h with h;rw[<-h,hl];rfl
      . split at h
        . cases h
        . rename_i f _ _ _
          rcases hw:wayV S f.of_.toNat l with _|way'
          . rw[hw]at h;cases h
          . rw[hw]at h
            injection h with h;rw[<-h];simp[zlM hw]
theorem rWay{S:List MsgV}(hR:zan (S.map MsgV.d)=true):∀(l:List ByteArray)(m:Nat){A C:Option Addr}{n c k kc:Nat}{w:World},zag w A n c S->m<n->zcL w C k kc l->0<k->k<=1000->
 Calls prog 64 #[.slice A n c,.int .i64 (m:Int),.slice C k kc] w (zmJ (S.map MsgV.d) m l w)
 |[],m,A,C,n,c,k,kc,w,hs,hm,hn,hk,hk2=>by
  have:=hn.len;simp at this;omega
 |s::l,m,A,C,n,c,k,kc,w,hs,hm,hn,hk,hk2=>by
  have ih:=fun(m':Nat){A C:Option Addr}{n c k kc:Nat}{w:World}(a:zag w A n c S) b (d:zcL w C k kc l) e f=>rWay hR l m' a b d e f
  have hSl:=hs.length;have hll:l.length+1=k:=by have:=hn.len;rw[List.length_map,Nat.mul_one]at this;simpa using this
  obtain⟨cutA,hcut,hrest⟩:=zbx zkx hn .i64 (l:=1) (by omega);have hcut1:∀W:World,(Instr.slice 38 (.slice C k kc) (some (.int .i64 1)) none none).run prog W=.ok (.slice cutA (k - 1) (kc - 1)) W:=hcut;have hrest1:zcL w cutA (k - 1) (kc - 1) l:=by simpa using hrest
  obtain⟨nb,no,s',rfl,hsn,hnb,n0⟩:=zcL.name hn (k:=0) (by omega);obtain rfl:s=s':=by simpa using hsn
  simp only[Nat.add_zero]at n0;obtain⟨sb,so,⟨⟨Mn,Mf⟩,MA,Mk,Mc⟩,rfl,hM,hF,hMn,hsb,s0,s1⟩:=hs.msg hm;simp only at hF hMn s0 s1;have hM':(S.map MsgV.d)[m]?=some ⟨Mn,Mf⟩:=by rw[List.getElem?_map,hM];rfl
  have hFl:=hF.length;have hF2:=(zbd hR hM').2.2.1;simp only at hF2;have hMk:Mk<=1000000000000:=by omega
  have hmi:(m:Int)<n:=by omega
  have hki:(0:Int)<k:=by omega
  have hnd:=fun W (h:Ext w W)=>zso (s:=Mn) (t:=s) (hF.up h) hMk
  rcases zaL (zdj s) Mf with⟨hI,_⟩|⟨j,f,hI,hf,_,_⟩
  . have hno:=zmH (l:=l) hM' hI
    rw[hI]at hnd;have HN:=zsz hno;have Hnd:=zsz hnd;clear hno hI hM hM' hsn hF hFl hF2 hnd ih hcut hrest hcut1 hrest1 hs hn hR
    go_enter func64,ntmps64
    go_wp2_with fail
    go_region_held3 (fun W=>Ext w W/\∀b o,b<w.heap.size->W.cell? ⟨b,o,none⟩=w.cell? ⟨b,o,none⟩) ((refine Ext.keep ?_;repeat with_reducible (first|assumption|exact Ext.refl _|refine Ext.alloc ?_ _|refine Ext.drew ?_|refine Ext.drewN ?_ _|refine Ext.setCell ?_ (by first|omega|(simp<;>omega)) _))) (first|(go_split_ands;go_at_call 99;refine(Hnd.out _ (by with_reducible assumption)).mono ?_;rintro e w1 ⟨rfl,E1⟩;have q0:Ext w w1:=Ext.trans (by with_reducible assumption) E1))
    all_goals
     go_wp2
     go_ret2
     exact .inl ⟨HN.out,rfl,q0⟩
  . rw[hI]at hnd
    have hjl:j<Mk:=by have:=(List.getElem?_eq_some_iff.1 hf).1;omega
    have hji:(j:Int)<Mk:=by omega
    have hws:=zmI (l:=l) hM' hI hf;have hof:=fun(h:f.kind=17)=>zbV hR hM' hf h
    obtain⟨fb,fo,f',rfl,hf',hok,hfb,c0,c1,c2,c3,c4,c5⟩:=hF.field hjl;obtain rfl:f'=f:=Option.some.inj (hf'.symm.trans hf);obtain⟨fname,fnum,fkind,frep,fpk,fof⟩:=f';simp only at c0 c1 c2 c3 c4 c5 hws hof;have Hnd:=zsz hnd;have Hs:=zsz hs;have Hr:=zsz hrest1;clear hI hM hM' hsn hF hFl hF2 hnd hcut hrest hs hn hR hf hf' hok hrest1
    go_enter func64,ntmps64
    go_wp2_with fail
    go_region_held3 (fun W=>Ext w W/\∀b o,b<w.heap.size->W.cell? ⟨b,o,none⟩=w.cell? ⟨b,o,none⟩) ((refine Ext.keep ?_;repeat with_reducible (first|assumption|exact Ext.refl _|refine Ext.alloc ?_ _|refine Ext.drew ?_|refine Ext.drewN ?_ _|refine Ext.setCell ?_ (by first|omega|(simp<;>omega)) _))) (first|(go_split_ands;go_at_call 99;refine(Hnd.out _ (by with_reducible assumption)).mono ?_;rintro e w1 ⟨rfl,E1⟩;have q0:Ext w w1:=Ext.trans (by with_reducible assumption) E1))
    rename Ext w w1/\_=>hS
    clear hS;replace c0:=q0.of_cell c0;replace c1:=q0.of_cell c1;replace c2:=q0.of_cell c2;replace c3:=q0.of_cell c3;replace c4:=q0.of_cell c4;replace c5:=q0.of_cell c5;replace s0:=q0.of_cell s0;replace s1:=q0.of_cell s1;replace hfb:=Nat.lt_of_lt_of_le hfb q0.size;replace hsb:=Nat.lt_of_lt_of_le hsb q0.size;clear n0 hnb;have hjn:¬(j:Int)<0:=by omega
    by_cases hl:l=[]
    . subst hl
      rw[if_pos rfl]at hws;have q:((k:Int)==1)=true:=by rw[beq_iff_eq];simp at hll;omega
      have HW:=zsz hws;clear hws ih hll hof
      go_wp2
      go_ret2
      have own:=Own.made (q0.alloc (.cells #[.string fname,.int .i64 fnum,.int .i64 fkind,.bool frep,.bool fpk,.int .i64 fof] 43)) 3 1 (cs:=[.int .i64 fnum]) (n:=1) (by simp[maxLen]) rfl;exact .inr ⟨[fnum],some ⟨w1.heap.size+1,0,none⟩,1,HW.out,rfl,by simpa[wyV] using own⟩
    . have hlp:0<l.length:=List.length_pos_iff.2 hl
      have q:((k:Int)==1)=false:=by rw[beq_eq_false_iff_ne];omega
      rw[if_neg hl]at hws;have Hl:=zsz hll;have Hlp:=zsz hlp;clear hl hll hlp;by_cases hr:frep=true
      . rw[if_pos (.inl hr)]at hws
        have HW:=zsz hws;clear hws ih hof;subst hr
        go_wp2
        go_ret2
        exact .inl ⟨HW.out,rfl,xy⟩
      . rw[Bool.not_eq_true]at hr
        subst hr;by_cases hk17:fkind=17
        . subst hk17
          rw[if_neg (by simp)]at hws;obtain⟨o,ho,ho2⟩:=hof rfl;subst ho;simp only[Int.toNat_natCast]at hws;rw[List.length_map,hSl]at ho2;have hrec:=fun W (h:Ext w W)=>ih o (w:=W) (Hs.out.up h) ho2 (Hr.out.ext h) (by have:=Hl.out;have:=Hlp.out;omega) (by omega)
          have Hrec:=zsz hrec;clear hof ih hrec
          go_wp2
          have X1:Ext w1 (w1.alloc (.cells #[.string fname,.int .i64 fnum,.int .i64 17,.bool false,.bool fpk,.int .i64 (o:Int)] 43)):=xx;have B0:=BlkT.new w1 43 #[.string fname,.int .i64 fnum,.int .i64 17,.bool false,.bool fpk,.int .i64 (o:Int)] rfl;generalize w1.alloc (.cells #[.string fname,.int .i64 fnum,.int .i64 17,.bool false,.bool fpk,.int .i64 (o:Int)] 43)=wx at*;have g5:wx.cell? ⟨w1.heap.size,5,none⟩=some (.int .i64 (o:Int)):=B0.cell 5;have gl:=B0.lt;have X2:=q0.trans X1;rcases hw:wayV (S.map MsgV.d) o l with _|way
          . rw[hw]at hws
            have HW:=zsz hws;have Hw:=zsz hw;clear hws hw
            go_region_held3 (fun W=>Ext wx W/\∀b o,b<wx.heap.size->W.cell? ⟨b,o,none⟩=wx.cell? ⟨b,o,none⟩) ((refine Ext.keep ?_;repeat with_reducible (first|assumption|exact Ext.refl _|refine Ext.alloc ?_ _|refine Ext.drew ?_|refine Ext.drewN ?_ _|refine Ext.setCell ?_ (by first|omega|(simp<;>omega)) _))) (first|(go_split_ands;go_at_call 64;refine(Hrec.out _ (X2.trans (by with_reducible assumption))).mono ?_;rintro e w3 h3;obtain⟨rfl,E3⟩:e=.returned (.tuple #[.slice none 0 0,.bool false])/\Ext _ w3:=(by rcases h3 with⟨_,a,b⟩|⟨l',A3,c3,a,_⟩;exact⟨a,b⟩;rw[Hw.out]at a;cases a);clear h3;have q3:Ext wx w3:=Ext.trans (by with_reducible assumption) E3))
            rename Ext wx w3/\_=>hS
            clear hS
            go_wp2
            go_ret2
            exact .inl ⟨HW.out,rfl,X2.trans q3⟩
          . rw[hw]at hws
            simp only[Option.map_some]at hws;have HW:=zsz hws;have Hw:=zsz hw;have hwl:way.length<=1000:=by have:=zlM hw;have:=Hl.out;omega
            have Hwl:=zsz hwl;clear hws hw hwl
            go_region_held3 (fun W=>Ext wx W/\∀b o,b<wx.heap.size->W.cell? ⟨b,o,none⟩=wx.cell? ⟨b,o,none⟩) ((refine Ext.keep ?_;repeat with_reducible (first|assumption|exact Ext.refl _|refine Ext.alloc ?_ _|refine Ext.drew ?_|refine Ext.drewN ?_ _|refine Ext.setCell ?_ (by first|omega|(simp<;>omega)) _))) (first|(go_split_ands;go_at_call 64;refine(Hrec.out _ (X2.trans (by with_reducible assumption))).mono ?_;rintro e w3 h3;obtain⟨A3,c3,rfl,r3,E3⟩:∃A3 c3,e=.returned (.tuple #[.slice A3 way.length c3,.bool true])/\Reads w3 A3 way.length c3 1 (way.map wyV)/\Ext _ w3:=(by rcases h3 with⟨a,_⟩|⟨l',A3,c3,a,b,d⟩;rw[Hw.out]at a;cases a;rw[Hw.out]at a;cases a;exact⟨A3,c3,b,d.reads,d.ext⟩);clear h3;have q3:Ext wx w3:=Ext.trans (by with_reducible assumption) E3))
            rename Ext wx w3/\_=>hS
            clear hS;have B3:=B0.up q3;have g1:w3.cell? ⟨w1.heap.size,1,none⟩=some (.int .i64 fnum):=B3.cell 1;have g1l:=B3.lt;clear g5 gl B0;have own1:Own w (w3.alloc (.cells #[.int .i64 fnum] 3)) 3 1 (some ⟨w3.heap.size,0,none⟩) 1 1 [.int .i64 fnum]:=Own.made (X2.trans q3) 3 1 (cs:=[.int .i64 fnum]) (n:=1) (by simp[maxLen]) rfl;have Hr3:=zsz r3;have Ho1:=zsz own1;clear r3 own1
            go_wp2_with (at_builtin;refine zba zgB rfl (.tmp 56) (.tmp 57) rfl rfl Ho1.out rfl (Hr3.out.ext xx) (zrw _) (by have:=Hwl.out;omega) (by unfold maxLen;have:=Hwl.out;omega) ?_;intro A4 c4 w4 own4 _)
            go_ret2
            exact .inr ⟨fnum::way,A4,c4,HW.out,zpy (by simp;omega),by simpa[wyV,Nat.add_comm] using own4⟩
        . rw[if_pos (.inr hk17)]at hws
          have q3:(fkind !=17)=true:=by rw[bne_iff_ne];exact hk17
          have HW:=zsz hws;clear hws ih hof hk17
          go_wp2
          go_ret2
          exact .inl ⟨HW.out,rfl,xy⟩
variable{w:World}{p:ByteArray}{root:Int}{S:List MsgV}{n c:Nat}{A:Option Addr}
theorem zpI(hs:zag w A n c S)(hp:p.size<=1000000000):
 Calls prog 35 #[.slice A n c,.int .i64 root,.string p] w (zfj (S.map MsgV.d) root p .i64 w):=by
 have hl:=hs.length;have ha:=fun W (h:zag W A n c S)=>zsp (root:=root) h
 unfold zfj;by_cases h0:argsM (S.map MsgV.d) root=0
 . rw[h0]at ha
   have Ha:=zsz ha;obtain⟨hR,hr1,hr2⟩:=zkX h0;rw[List.length_map,hl]at hr2;obtain⟨m,rfl⟩:∃m:Nat,root=m:=⟨root.toNat,by omega⟩
   have hm:m<n:=by omega
   have hsp:=fun W=>zsq (w:=W) hp
   have Hsp:=zsz hsp;have Hs:=zsz hs;rcases hnm:zbB p with _|l
   . rw[zer h0 hnm]
     have Hnm:=zsz hnm;clear ha h0 hsp hnm hs hl hR
     go_enter func35,ntmps35
     go_wp2_with (first
      |(go_at_call 62;refine(Ha.out _ Hs.out).mono ?_;rintro e w1 ⟨rfl,E1⟩)
      |(go_at_call 63;refine(Hsp.out _).mono ?_;rintro e w2 h2;obtain⟨rfl,E2⟩:e=.returned (.tuple #[.slice none 0 0,.bool false])/\Ext w1 w2:=(by rcases h2 with⟨_,a,b⟩|⟨l,A,c,a,_⟩;exact⟨a,b⟩;rw[Hnm.out]at a;cases a)))
     go_ret2
     exact⟨none,0,rfl,Own.nil (E1.trans E2) _ 1⟩
   . have hll:=zhR hnm
     have hld:=fun W (h:zag W A n c S)(C:Option Addr)(kc:Nat)(hn:zcL W C l.length kc l)=>rWay hR l m h hm hn hll.1 (by omega)
     have Hld:=zsz hld;have Hnm:=zsz hnm;rcases hw:wayV (S.map MsgV.d) m l with _|way
     . rw[zfi h0 hnm (by simpa using hw)]
       have Hw:=zsz hw;clear ha h0 hsp hnm hs hl hR hld hw
       go_enter func35,ntmps35
       go_wp2_with (first
        |(go_at_call 62;refine(Ha.out _ Hs.out).mono ?_;rintro e w1 ⟨rfl,E1⟩)
        |(go_at_call 63;refine(Hsp.out _).mono ?_;rintro e w2 h2;obtain⟨A2,c2,rfl,own2⟩:∃A2 c2,e=.returned (.tuple #[.slice A2 l.length c2,.bool true])/\Own w1 w2 9 1 A2 l.length c2 (l.map nmV):=(by rcases h2 with⟨a,_⟩|⟨l',A2,c2,a,b,d⟩;rw[Hnm.out]at a;cases a;rw[Hnm.out]at a;cases a;exact⟨A2,c2,b,d⟩);clear h2;have X2:=E1.trans own2.ext)
        |(go_at_call 64;refine(Hld.out _ (Hs.out.up X2) _ _ own2.reads).mono ?_;rintro e w3 h3;obtain⟨rfl,E3⟩:e=.returned (.tuple #[.slice none 0 0,.bool false])/\Ext w2 w3:=(by rcases h3 with⟨_,a,b⟩|⟨l',A3,c3,a,_⟩;exact⟨a,b⟩;rw[Hw.out]at a;cases a)))
       go_ret2
       exact⟨none,0,rfl,Own.nil (X2.trans E3) _ 1⟩
     . rw[zgk h0 hnm (by simpa using hw)]
       have Hw:=zsz hw;clear ha h0 hsp hnm hs hl hR hld hw
       go_enter func35,ntmps35
       go_wp2_with (first
        |(go_at_call 62;refine(Ha.out _ Hs.out).mono ?_;rintro e w1 ⟨rfl,E1⟩)
        |(go_at_call 63;refine(Hsp.out _).mono ?_;rintro e w2 h2;obtain⟨A2,c2,rfl,own2⟩:∃A2 c2,e=.returned (.tuple #[.slice A2 l.length c2,.bool true])/\Own w1 w2 9 1 A2 l.length c2 (l.map nmV):=(by rcases h2 with⟨a,_⟩|⟨l',A2,c2,a,b,d⟩;rw[Hnm.out]at a;cases a;rw[Hnm.out]at a;cases a;exact⟨A2,c2,b,d⟩);clear h2;have X2:=E1.trans own2.ext)
        |(go_at_call 64;refine(Hld.out _ (Hs.out.up X2) _ _ own2.reads).mono ?_;rintro e w3 h3;obtain⟨A3,c3,rfl,own3⟩:∃A3 c3,e=.returned (.tuple #[.slice A3 way.length c3,.bool true])/\Own w2 w3 3 1 A3 way.length c3 (way.map wyV):=(by rcases h3 with⟨a,_⟩|⟨l',A3,c3,a,b,d⟩;rw[Hw.out]at a;cases a;rw[Hw.out]at a;cases a;exact⟨A3,c3,b,d⟩);clear h3))
       go_ret2
       exact⟨A3,c3,rfl,own3.since X2⟩
 . rw[zfh h0]
   have Ha:=zsz ha;have hN:((argsM (S.map MsgV.d) root:Nat):Int)≠0:=by omega
   have hN2:(((argsM (S.map MsgV.d) root:Nat):Int) !=0)=true:=by rw[bne_iff_ne];exact hN
   clear ha h0 hl hN;generalize argsM (S.map MsgV.d) root=C at*
   go_enter func35,ntmps35
   go_wp2_with (go_at_call 62;refine(Ha.out _ hs).mono ?_;rintro e w1 ⟨rfl,E1⟩)
   go_ret2
   exact⟨none,0,rfl,Own.nil E1 _ 1⟩
def zap(S:List MsgD)(root d:Int)(p:ByteArray)(bs:List UInt8):List Int×Nat:=
 if argsV S root d≠0 then([],argsV S root d)else if(zas S root p).2≠0 then([],(zas S root p).2)else((zas S root p).1,(zaM S root bs d).2)
theorem zeU{S:List MsgD}(h:(zas S root p).2≠0):(zas S root p).1=[]:=by
 unfold zas at h⊢;split
 . rfl
 . rename_i h0
   rw[if_neg h0]at h;split
   . rfl
   . rename_i hn
     rw[hn]at h;simp only at h;split
     . rfl
     . rename_i hw
       rw[hw]at h;exact absurd rfl h
variable{k:Nat}
theorem zmO{B:Option Addr}{m:Nat}{d:Int}{bs:List UInt8}(hs:zag w A n c S)(hb:zac w B m k bs)(hm:m<=1000000000)(hp:p.size<=1000000000):
 Calls prog 10 #[.slice A n c,.int .i64 root,.slice B m k,.int .i64 d,.string p] w fun e w'=>∃A' c',e=.returned (.tuple #[.slice A' (zap (S.map MsgV.d) root d p bs).1.length c',.int .i64 ((zap (S.map MsgV.d) root d p bs).2:Nat)])/\
  Own w w' 3 1 A' (zap (S.map MsgV.d) root d p bs).1.length c' ((zap (S.map MsgV.d) root d p bs).1.map wyV):=by
 have ha:=fun W (h:zag W A n c S)=>zqE (root:=root) (d:=d) h
 have hr:=fun W (h:zag W A n c S)=>zpI (root:=root) h hp
 have hc:=fun W (h:zag W A n c S)(q:zac W B m k bs)=>zoU (root:=root) (d:=d) h q hm
 unfold zfj at hr;by_cases h0:argsV (S.map MsgV.d) root d=0
 . rw[h0]at ha
   by_cases h1:(zas (S.map MsgV.d) root p).2=0
   . have e:zap (S.map MsgV.d) root d p bs=((zas (S.map MsgV.d) root p).1,(zaM (S.map MsgV.d) root bs d).2):=by unfold zap;rw[if_neg (by simp[h0]),if_neg (by simp[h1])]
     rw[e];rw[h1]at hr;simp only;generalize (zas (S.map MsgV.d) root p).1=way at*;generalize zaM (S.map MsgV.d) root bs d=PK at hc⊢;obtain⟨P,K⟩:=PK;simp only at hc⊢;have Ha:=zsz ha;have Hr:=zsz hr;have Hc:=zsz hc;clear ha hr hc h0 h1 e
     go_enter func10,ntmps10
     go_wp2_with (first
      |(go_at_call 34;refine(Ha.out _ hs).mono ?_;rintro e w1 ⟨rfl,E1⟩)
      |(go_at_call 35;refine(Hr.out _ (hs.up E1)).mono ?_;rintro e w2 ⟨A2,c2,rfl,own2⟩;have X2:=E1.trans own2.ext)
      |(go_at_call 36;refine(Hc.out _ (hs.up X2) (hb.up X2)).mono ?_;rintro e w3 ⟨rfl,E3⟩))
     go_ret2
     exact⟨A2,c2,rfl,(own2.up E3).since E1⟩
   . have e:zap (S.map MsgV.d) root d p bs=([],(zas (S.map MsgV.d) root p).2):=by unfold zap;rw[if_neg (by simp[h0]),if_pos h1]
     rw[e];rw[zeU h1]at hr;generalize (zas (S.map MsgV.d) root p).2=K at*;have q:((K:Int)==0)=false:=by rw[beq_eq_false_iff_ne];omega
     have Ha:=zsz ha;have Hr:=zsz hr;clear ha hr hc h0 h1 e
     go_enter func10,ntmps10
     go_wp2_with (first
      |(go_at_call 34;refine(Ha.out _ hs).mono ?_;rintro e w1 ⟨rfl,E1⟩)
      |(go_at_call 35;refine(Hr.out _ (hs.up E1)).mono ?_;rintro e w2 ⟨A2,c2,rfl,own2⟩;have X2:=E1.trans own2.ext))
     go_ret2
     exact⟨A2,c2,rfl,own2.since E1⟩
 . have e:zap (S.map MsgV.d) root d p bs=([],argsV (S.map MsgV.d) root d):=by unfold zap;rw[if_pos h0]
   rw[e];generalize argsV (S.map MsgV.d) root d=K at*;have q:((K:Int) !=0)=true:=by rw[bne_iff_ne];omega
   have Ha:=zsz ha;clear ha hr hc h0 e
   go_enter func10,ntmps10
   go_wp2_with (go_at_call 34;refine(Ha.out _ hs).mono ?_;rintro e w1 ⟨rfl,E1⟩)
   go_ret2
   exact⟨none,0,rfl,Own.nil E1 _ 1⟩
def runP(f:zab):Bool:=f.rep&&zaf f.kind
def zbk(f:zab)(ps:List (List UInt8)):Bool:=if runP f=true then decide (0<ps.flatten.length)else decide (0<ps.length)
def lastP(ps:List (List UInt8)):List UInt8:=(ps.getLast?).getD []
def toldP(ps:List (List UInt8)):List UInt8:=ps.flatMap fun b=>Lib.uvarint b.length++b
def loadP(f:zab)(ps:List (List UInt8)):List UInt8:=
 if runP f=true\/(f.kind=17/\f.rep=false)then ps.flatten else if f.rep=false then lastP ps else toldP ps
def zkH(f:zab)(ps:List (List UInt8)):Nat:=
 if zbk f ps=false then 0 else if runP f=true then zgv f.kind (loadP f ps)else if f.rep=true then ps.length else 1
variable{b:List UInt8}{ps:List (List UInt8)}
theorem zmP(h:ps[k]?=some b):toldP (ps.take (k+1))=toldP (ps.take k)++(Lib.uvarint b.length++b):=by
 unfold toldP;rw[List.take_add_one,h];simp
theorem zdL(x:Nat)(h:x<18446744073709551616):(Lib.uvarint x).length<=10:=Lib.uvarint_length64 h
theorem zlN(bs:List UInt8)(q:ViewD->Bool):∀(L:List ViewD)(p e:Nat),LinkV p L e->e<=bs.length->(∀v∈L,v.r.f<=v.r.a/\v.r.a<=v.r.t)->((L.filter q).map (zak bs)).flatten.length<=e - p
 |[],p,e,_,_,_=>by simp
 |v::L,p,e,h,he,hv=>by
  obtain⟨h1,h2,h3⟩:=h;have ih:=zlN bs q L v.r.t e h3 he (fun u hu=>hv u (List.mem_cons_of_mem _ hu));have hle:=LinkV.le h3;have hb:=hv v List.mem_cons_self;have hl:=zax bs (a:=v.r.a) (t:=v.r.t) (by omega);by_cases hq:q v=true
  . rw[List.filter_cons_of_pos hq,List.map_cons,List.flatten_cons,List.length_append,show zak bs v=spanB bs v.r.a v.r.t from rfl]
    omega
  . rw[List.filter_cons_of_neg hq]
    omega
theorem zbK(fs:List zab)(bs:List UInt8)(n:Int):(zaU fs bs n).flatten.length<=bs.length:=by
 unfold zaU;by_cases h:(zae fs bs).2.2=0
 . have hl:=zhE fs bs bs.length 0 (by omega) (Nat.zero_le _) h
   have:=zlN bs (ofP n) (zae fs bs).1 0 bs.length hl (Nat.le_refl _) (fun v hv=>by have:=zbO hv;omega);omega
 . rw[(zdd fs bs).2.2.1 h]
   simp
theorem zmQ(fs:List zab)(bs:List UInt8)(n:Int):(zaU fs bs n).length<=bs.length:=by
 unfold zaU;rw[List.length_map];exact Nat.le_trans (List.length_filter_le _ _) (zdd fs bs).2.1
theorem zbZ(S:List MsgD):∀(way:List Int)(m:Nat)(bs:List UInt8),(zao S m bs way).flatten.length<=bs.length/\(zao S m bs way).length<=bs.length
 |[],m,bs=>by simp[zao]
 |n::l,m,bs=>by
  unfold zao;split
  . exact⟨zbK _ _ _,zmQ _ _ _⟩
  . split
    . simp
    . have ih:=zbZ S l (by assumption:zab).of_.toNat (zaU (zar S m) bs n).flatten
      have:=zbK (zar S m) bs n;exact⟨by omega,by omega⟩
theorem zcx(h:b∈ps):b.length<=ps.flatten.length:=by
 induction ps with
 |nil=>cases h
 |cons a l ih=>
  rw[List.flatten_cons,List.length_append];rcases List.mem_cons.1 h with rfl|h
  . omega
  . have:=ih h
    omega
theorem ziR:∀(ps:List (List UInt8)),(∀b∈ps,b.length<18446744073709551616)->(toldP ps).length<=10*ps.length+ps.flatten.length
 |[],_=>by simp[toldP]
 |b::l,h=>by
  have ih:=ziR l (fun x hx=>h x (List.mem_cons_of_mem _ hx));have:=zdL b.length (h b List.mem_cons_self);unfold toldP at ih⊢;rw[List.flatMap_cons,List.length_append,List.length_append,List.length_cons,List.flatten_cons,List.length_append];omega
end Go.Proofs.YtpicpebolghcfaaGreatDoor
namespace Go.Proofs.YtpicpebolghcfaaGreatDoor
open Go.RowKit Tryz
structure BRow where
 A:Option Addr
 n:Nat
 c:Nat
 bs:List UInt8
def browV(r:BRow):Value:=.slice r.A r.n r.c
def zbw(w:World)(A:Option Addr)(n c:Nat)(l:List BRow):Prop:=Reads w A n c 1 (l.map browV)/\∀r∈l,zac w r.A r.n r.c r.bs
section
variable {w w':World} {A:Option Addr} {n c:Nat} {l:List BRow}
theorem zbw.up(h:zbw w A n c l)(k:Ext w w'):zbw w' A n c l:=⟨h.1.ext k,fun r hr=>(h.2 r hr).ext k⟩
theorem zbw.length(h:zbw w A n c l):l.length=n:=by have:=h.1.len;simpa using this
theorem zbw.row(h:zbw w A n c l){k:Nat}(hk:k<n):∃b off r,A=some ⟨b,off,none⟩/\l[k]?=some r/\b<w.heap.size/\zac w r.A r.n r.c r.bs/\w.cell? ⟨b,off+k,none⟩=some (.slice r.A r.n r.c):=by
 obtain⟨b,off,e,hb,hc⟩:=h.1.at_ (by omega);have hl:=h.length;have hx:l[k]?=some (l[k]'(by omega)):=List.getElem?_eq_getElem (by omega);exact⟨b,off,_,e,hx,hb,h.2 _ (List.mem_of_getElem? hx),hc k _ (by rw[List.getElem?_map,hx];rfl)⟩
end
def flatR(l:List BRow):List UInt8:=l.flatMap (·.bs)
variable{l:List BRow}
theorem zhZ{k:Nat}{r:BRow}(h:l[k]?=some r):flatR (l.take (k+1))=flatR (l.take k)++r.bs:=by
 rw[List.take_add_one,h];simp[flatR]
theorem zlO(l:List BRow)(k:Nat):(flatR (l.take k)).length<=(flatR l).length:=by
 have:flatR l=flatR (l.take k)++flatR (l.drop k):=by
  unfold flatR;rw[<-List.flatMap_append,List.take_append_drop]
 rw[this,List.length_append];omega
variable{w:World}{n:Nat}
theorem sGrow(hn:n<=140737488355328):
 Calls prog 109 #[.slice none 0 0,.int .i64 (n:Int)] w fun e w'=>∃A' c',e=.returned (.slice A' 0 c')/\Own w w' 5 1 A' 0 c' []:=by
 by_cases h0:n=0
 . subst h0
   go_enter func109,ntmps109
   go_wp2
   go_ret
   exact⟨none,0,rfl,Own.nil (Ext.refl _) _ 1⟩
 . obtain⟨i,z,hi,hz,hsz,hby,hzs⟩:=elemB.info
   have h1:(0:Int)<n:=by omega
   have hni:(n:Int)<=140737488355328:=by omega
   have hold:(Builtin.firstCells i.size 0 (.slice none 0 0)).run prog w.drew=.ok #[] w.drew:=run_firstCells_none w.drew i.size 0 0 0;have hrz:=fun ty=>Lib.run_append_grow_zeros (P:=prog) w 24 3 ty 5 i z .i64 .i64 underlying24 underlying3 hi hz none 0 0 [] hold n (by omega) (by omega) (by omega) (by omega) (by rw[hby];omega) (by rw[hby];exact growslice_fits (by omega) (by omega))
   simp only[Nat.zero_add]at hrz;have hG1:=grownCap_ge w n 0 5;have hG2:=grownCap_le_maxLen w n 0 5 (by unfold maxLen;omega);generalize grownCap w n 0 5=G at*
   have hcs:(([]:List Value).toArray++Builtin.zeroCells z.cells n++Builtin.zeroCells z.cells (G - n)).size=G*1:=by
    have h1:=zbU z.cells n;have h2:=zbU z.cells (G - n);rw[hzs]at h1 h2;simp only[Array.length_toList]at h1 h2;simp only[Array.size_append,List.size_toArray,List.length_nil,h1,h2];omega
   generalize ([]:List Value).toArray++Builtin.zeroCells z.cells n++Builtin.zeroCells z.cells (G - n)=cs at*;have hGi:(0:Int)<(G:Int):=by omega
   have hG3:=hG2;unfold maxLen at hG3;have Hcs:=zsz hcs;have HG2:=zsz hG2;clear hold hi hz hsz hby hzs hcs h0 hG2
   go_enter func109,ntmps109
   go_wp2_with (at_builtin;refine Lib.wpList_append_run _ rfl _ _ _ _ rfl _ _ rfl rfl _ _ (hrz _) ?_)
   go_ret
   exact⟨_,_,rfl,World.ownsRow_made w.drew cs G (Nat.le_refl _) HG2.out Hcs.out,xx⟩
theorem zkI{A:Option Addr}{c:Nat}(hb:zbw w A n c l)(hl:(flatR l).length<=140737488351232):
 Calls prog 77 #[.slice A n c] w fun e w'=>∃A' c',e=.returned (.slice A' (flatR l).length c')/\Own w w' 5 1 A' (flatR l).length c' ((flatR l).map bv):=by
 have hlen:=hb.length;have hmax:=Reads.max hb.1;have hcap:=Reads.cap hb.1;unfold maxLen at hmax;have Hb:=zsz hb;have Hlen:=zsz hlen;have hfl:flatR (l.take n)=flatR l:=by rw[List.take_of_length_le (by omega)]
 have Hfl:=zsz hfl;clear hb hlen hfl
 go_enter func77,ntmps77
 go_wp2
 go_loop [3,11] (fun u i=>∃k:Nat,k<=n/\i=.int .i64 (k:Int)/\u=.int .i64 ((flatR (l.take k)).length:Int)) (fun _ i=>n - (intOf i).toNat)
 case atStart=>exact⟨0,Nat.zero_le _,rfl,by simp[flatR]⟩
 case round=>
  obtain⟨k,hk,rfl,rfl⟩:=hrel;by_cases hlt:k<n
  . have hlti:(k:Int)<n:=by omega
    obtain⟨b,off,r,rfl,hr,hbl,hbr,c0⟩:=Hb.out.row hlt;have hfs:=zhZ hr;have hle:=zlO l (k+1);rw[hfs,List.length_append,hbr.length]at hle;have hsum:((flatR (l.take k)).length:Int)+r.n<=140737488351232:=by omega
    have hnn:¬((flatR (l.take k)).length:Int)+r.n<0:=by omega
    have Hfs:=zsz (show((flatR (l.take (k+1))).length:Int)=(flatR (l.take k)).length+r.n by rw[hfs,List.length_append,hbr.length];omega);have hwl:b<w.heap.size:=hbl;clear hr hfs hbr hle;generalize (flatR (l.take k)).length=F at*
    go_wp2
    go_round
    case rel=>exact⟨k+1,by omega,by go_num,by rw[Hfs.out]⟩
    case measure=>simp[intOf];omega
  . obtain rfl:k=n:=by omega
    have hg:=fun W=>sGrow (n:=(flatR l).length) (w:=W) (by omega)
    have Hg:=zsz hg;rw[Hfl.out];clear hg;have hll:((flatR l).length:Int)<=140737488351232:=by omega
    obtain⟨LL,hLL⟩:∃LL,LL=(flatR l).length:=⟨_,rfl⟩
    rw[<-hLL]at Hg hll⊢;have HLL:=zsz hLL;clear hLL
    go_wp2_with (go_at_call 109;refine(Hg.out _).mono ?_;rintro e w1 ⟨A1,c1,rfl,own1⟩)
    go_loopw [6,27] (fun u i wr=>∃(j:Nat)(A2:Option Addr)(c2 F:Nat),j<=k/\i=.int .i64 (j:Int)/\u=.slice A2 F c2/\Hid (F=(flatR (l.take j)).length)/\Own w wr 5 1 A2 F c2 ((flatR (l.take j)).map bv)) (fun _ i _=>k - (intOf i).toNat)
    case atStart=>exact⟨0,A1,c1,0,Nat.zero_le _,rfl,rfl,by show 0=_;simp[flatR],by simpa[flatR] using own1⟩
    case round=>
     obtain⟨j,A2,c2,F,hj,rfl,rfl,hF,own⟩:=hrel;by_cases hlt2:j<k
     . have hlti:(j:Int)<k:=by omega
       obtain⟨b,off,r,rfl,hr,hbl,hbr,c0⟩:=(Hb.out.up own.ext).row hlt2;have hfs:=zhZ hr;have hle:=zlO l (j+1);have hrn:=hbr.length;rw[hfs,List.length_append,hrn,<-hF.out]at hle;have hFr:F+r.n<=140737488351232:=by omega
       have Hfs:=zsz hfs;have Hrn:=zsz hrn;clear hr hfs hle hrn
       go_wp2_with (at_builtin;refine zba elemB rfl (.tmp 31) (.tmp 32) rfl rfl own rfl hbr (zdZ _) (by omega) (by unfold maxLen;omega) ?_;intro A4 c4 w4 own4 _)
       go_roundw
       case rel=>exact⟨j+1,A4,c4,F+r.n,by omega,by go_num,rfl,by show _=_;rw[Hfs.out,List.length_append,Hrn.out,<-hF.out],by rw[Hfs.out,List.map_append];exact own4⟩
       case measure=>simp[intOf];omega
     . obtain rfl:j=k:=by omega
       have hF':=hF.out;rw[Hfl.out]at hF' own;have HF:=zsz hF';clear hF'
       go_wp2
       go_ret
       exact⟨A2,c2,by rw[<-HF.out];rfl,by rw[<-HF.out];exact own⟩
theorem ff{b:Bool}{p:Prop}(h:b=false)(k:b=true):p:=absurd (h.symm.trans k) (by decide)
section
variable {P:Program} {md:Region.Mode} {ops:Array Oper} {Q:Exit->Act->World->Prop}
theorem zbo{listed:Array Bool}{i:Nat}(h:i∈Region.ready md ops listed):i<ops.size/\listed.getD i true=false/\∀o,ops[i]?=some o->o.after.all (fun e=> !Region.binds md e||listed.getD e.on false)=true:=by
 unfold Region.ready at h;rw[List.mem_filter,List.mem_range]at h;obtain⟨h1,h2⟩:=h;rw[Bool.and_eq_true]at h2;refine⟨h1,by simpa using h2.1,fun o ho=> ?_⟩;have h3:=h2.2;rw[ho]at h3;simpa using h3
theorem zfK:∀{l:List Bool}{i:Nat},l[i]?=some false->(l.set i true).count false+1=l.count false
 |[],i,h=>by simp at h
 |b::l,0,h=>by
  simp at h;subst h;simp
 |b::l,i+1,h=>by
  simp at h;have:=zfK (l:=l) (i:=i) h;simp only[List.set_cons_succ,List.count_cons];omega
theorem znX{I:Array Bool->Act->World->Prop}(hstep:∀(i:Nat)(listed:Array Bool)(a:Act)(w:World),I listed a w->i∈Region.ready md ops listed->wpOp P ops Q i (I (listed.setIfInBounds i true)) a w)(hfin:∀(listed:Array Bool)(a:Act)(w:World),I listed a w->Region.ready md ops listed=[]->Q .normal a w):
 ∀(fuel:Nat)(listed:Array Bool)(a:Act)(w:World),listed.size=ops.size->listed.toList.count false<=fuel->I listed a w->wpAny P md ops Q fuel listed a w:=by
 intro fuel
 induction fuel with
 |zero=>
  intro listed a w hsz hc hI
  have hr:Region.ready md ops listed=[]:=by
   rcases h:Region.ready md ops listed with _|⟨i,l⟩
   . rfl
   . obtain⟨h1,h2,_⟩:=zbo (md:=md) (ops:=ops) (listed:=listed) (i:=i) (by rw[h];simp)
     have h3:listed.toList[i]?=some false:=by
      rw[Array.getElem?_toList];rw[Array.getD_eq_getD_getElem?]at h2;rcases h4:listed[i]? with _|b
      . rw[h4]at h2
        cases h2
      . rw[h4]at h2
        simp at h2;rw[h2]
     have:=zfK h3;omega
  exact⟨hr,hfin _ _ _ hI hr⟩
 |succ fuel ih=>
  intro listed a w hsz hc hI;refine⟨fun hr=>hfin _ _ _ hI hr,fun i hi=>wpOp_mono (fun a w h=>ih _ a w (by simpa using hsz) ?_ h) (hstep i listed a w hI hi)⟩;obtain⟨h1,h2,_⟩:=zbo hi
  have h3:listed.toList[i]?=some false:=by
   rw[Array.getElem?_toList];rw[Array.getD_eq_getD_getElem?]at h2;rcases h4:listed[i]? with _|b
   . rw[h4]at h2
     cases h2
   . rw[h4]at h2
     simp at h2;rw[h2]
  have:=zfK h3;rw[Array.toList_setIfInBounds];omega
theorem zbe{I:Array Bool->Act->World->Prop}{id:Nat}{a:Act}{w:World}(hm:P.follows .mixedOrders=true)(hstep:∀(i:Nat)(listed:Array Bool)(a:Act)(w:World),I listed a w->i∈Region.ready .any ops listed->wpOp P ops Q i (I (listed.setIfInBounds i true)) a w)(hfin:∀(listed:Array Bool)(a:Act)(w:World),I listed a w->Region.ready .any ops listed=[]->Q .normal a w)(h0:I (Array.replicate ops.size false) a w.drew):(Code.region id ops true).wp P Q a w:=
 wp_region_any hm (znX hstep hfin ops.size _ a _ (by simp) (by simp) h0)
theorem zaa{listed:Array Bool}{i:Nat}{o:Oper}(hr:Region.ready md ops listed=[])(ho:ops[i]?=some o)(hd:o.after.all (fun e=> !Region.binds md e||listed.getD e.on false)=true)(hi:i<listed.size):listed.getD i true=true:=by
 rcases h:listed.getD i true with _|_
 . have hlt:i<ops.size:=(Array.getElem?_eq_some_iff.1 ho).1
   have:i∈Region.ready md ops listed:=by
    unfold Region.ready;rw[List.mem_filter,List.mem_range,h,ho];exact⟨hlt,by simpa using hd⟩
   rw[hr]at this;cases this
 . rfl
theorem zcy{i:Nat}{o:Oper}{K2:Act->World->Prop}{a:Act}{w:World}(ho:ops[i]?=some o)(hw:Region.wanted o (yielded ops a.tmps)=true)(h:∀K:Act->World->Prop,(∀a w,K2 a w->K a w)->o.wp P a w K Q):wpOp P ops Q i K2 a w:=by
 unfold wpOp;rw[ho];simp only;rw[if_pos hw];exact .inl (h K2 (fun _ _ h=>h))
end
end Go.Proofs.YtpicpebolghcfaaGreatDoor
