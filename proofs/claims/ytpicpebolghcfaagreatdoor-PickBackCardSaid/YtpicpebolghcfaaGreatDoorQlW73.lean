/- A contract of layer 7: the place of a name. -/
import Derived.Test.YtpicpebolghcfaaGreatDoorQlW70
import Derived.Test.YtpicpebolghcfaaGreatDoorQlW11

set_option linter.unusedVariables false
set_option maxRecDepth 100000
set_option maxHeartbeats 4000000
namespace Go.Proofs.YtpicpebolghcfaaGreatDoor
open Go.RowKit Go.Shelf Tryz
variable{w:World}{n c:Nat}{A:Option Addr}{s:ByteArray}
theorem zso{t:ByteArray}{l:List zab}(hb:zav w A n c l)(hn:n<=1000000000000):
 Calls prog 99 #[.agg #[.string s,.slice A n c],.string t] w fun e w'=>e=.returned (.int .i64 (idxB (zdj t) l))/\Ext w w':=by
 have hl:=hb.length;have Hl:=zsz hl;clear hl;have hbw:zav (w.alloc (.cells #[.string s,.slice A n c] 77)) A n c l:=hb.up xx
 go_enter func99,ntmps99
 go_wp2
 go_loop [5] (fun i=>∃k:Nat,k<=n/\i=.int .i64 k/\Hid (∀(j:Nat) y,j<k->l[j]?=some y->zdj t y=false)) (fun i=>n - (intOf i).toNat)
 case atStart=>exact⟨0,Nat.zero_le _,rfl,fun j y h=>absurd h (Nat.not_lt_zero j)⟩
 case round=>
  obtain⟨k,hk,rfl,hN⟩:=hrel;by_cases hlt:k<n
  . have hlt2:(k:Int)<n:=by omega
    obtain⟨b,off,f,rfl,hf,hok,hb1,c0,c1,c2,c3,c4,c5⟩:=hbw.field hlt;by_cases hq:f.name=t
    . have hp:zdj t f=true:=decide_eq_true hq
      have hi:=zcU hf hp hN.out;have Hi:=zsz hi;subst hq;clear hi hp
      go_wp2
      go_ret
      exact⟨zbF Hi.out.symm,xx⟩
    . have hp:zdj t f=false:=decide_eq_false hq
      have hs:=zpm hq;have Hf:=zsz hf;have Hp:=zsz hp;clear hf hp hq
      go_wp2
      go_round
      case rel=>
       refine⟨k+1,by omega,by go_num,fun j y hj hy=> ?_⟩;by_cases e:j=k
       . subst e
         have:=Hf.out.symm.trans hy;cases this;exact Hp.out
       . exact hN.out j y (by omega) hy
      case measure=>simp[intOf];omega
  . have hk2:k=n:=by omega
    subst hk2;have hi:idxB (zdj t) l= -1:=zee (fun j y hy=>hN.out j y (by have:=(List.getElem?_eq_some_iff.1 hy).1;have:=Hl.out;omega) hy);have Hi:=zsz hi;clear hi
    go_wp2
    go_ret
    exact⟨zbF Hi.out.symm,xx⟩
variable{root:Int}
theorem mArgs{S:List MsgV}(hs:zag w A n c S):
 Calls prog 103 #[.slice A n c,.int .i64 root] w fun e w'=>e=.returned (.int .u8 (argsM (S.map MsgV.d) root:Nat))/\Ext w w':=by
 have hl:=hs.length;unfold argsM;rw[List.length_map,hl];have hr:=fun W (h:zag W A n c S)=>zmG h
 rcases hR:zan (S.map MsgV.d)with _|_
 . rw[hR]at hr
   have Hr:=zsz hr;clear hr hR hl;rw[if_pos rfl]
   go_enter func103,ntmps103
   go_wp2_with (go_at_call 102;refine(Hr.out _ hs).mono ?_;rintro e w1 ⟨rfl,E1⟩)
   go_ret
   exact⟨rfl,E1⟩
 . rw[hR]at hr
   have Hr:=zsz hr;clear hr hR hl;rw[if_neg (by simp)];rcases(by omega:root<0\/(¬root<0/\(n:Int)<=root)\/(¬root<0/\¬(n:Int)<=root))with h|⟨h,h2⟩|⟨h,h2⟩
   . rw[if_pos (by omega)]
     go_enter func103,ntmps103
     go_wp2_with (go_at_call 102;refine(Hr.out _ hs).mono ?_;rintro e w1 ⟨rfl,E1⟩)
     go_ret
     exact⟨rfl,E1⟩
   . rw[if_pos (by omega)]
     go_enter func103,ntmps103
     go_wp2_with (go_at_call 102;refine(Hr.out _ hs).mono ?_;rintro e w1 ⟨rfl,E1⟩)
     go_ret
     exact⟨rfl,E1⟩
   . rw[if_neg (by omega)]
     go_enter func103,ntmps103
     go_wp2_with (go_at_call 102;refine(Hr.out _ hs).mono ?_;rintro e w1 ⟨rfl,E1⟩)
     go_ret
     exact⟨rfl,E1⟩
theorem zsp{S:List MsgV}(hs:zag w A n c S):
 Calls prog 62 #[.slice A n c,.int .i64 root] w fun e w'=>e=.returned (.int .i64 (argsM (S.map MsgV.d) root:Nat))/\Ext w w':=by
 have hl:=hs.length;unfold argsM;rw[List.length_map,hl];have hr:=fun W (h:zag W A n c S)=>zlA h
 rcases hR:zan (S.map MsgV.d)with _|_
 . rw[hR]at hr
   have Hr:=zsz hr;clear hr hR hl;rw[if_pos rfl]
   go_enter func62,ntmps62
   go_wp2_with (go_at_call 61;refine(Hr.out _ hs).mono ?_;rintro e w1 ⟨rfl,E1⟩)
   go_ret
   exact⟨rfl,E1⟩
 . rw[hR]at hr
   have Hr:=zsz hr;clear hr hR hl;rw[if_neg (by simp)];rcases(by omega:root<0\/(¬root<0/\(n:Int)<=root)\/(¬root<0/\¬(n:Int)<=root))with h|⟨h,h2⟩|⟨h,h2⟩
   . rw[if_pos (by omega)]
     go_enter func62,ntmps62
     go_wp2_with (go_at_call 61;refine(Hr.out _ hs).mono ?_;rintro e w1 ⟨rfl,E1⟩)
     go_ret
     exact⟨rfl,E1⟩
   . rw[if_pos (by omega)]
     go_enter func62,ntmps62
     go_wp2_with (go_at_call 61;refine(Hr.out _ hs).mono ?_;rintro e w1 ⟨rfl,E1⟩)
     go_ret
     exact⟨rfl,E1⟩
   . rw[if_neg (by omega)]
     go_enter func62,ntmps62
     go_wp2_with (go_at_call 61;refine(Hr.out _ hs).mono ?_;rintro e w1 ⟨rfl,E1⟩)
     go_ret
     exact⟨rfl,E1⟩
abbrev zcL(w:World)(A:Option Addr)(n c:Nat)(l:List ByteArray):Prop:=Reads w A n c 1 (l.map nmV)
variable{k:Nat}{l:List ByteArray}
theorem zcL.name(h:zcL w A n c l)(hk:k<n):
 ∃b off s,A=some ⟨b,off,none⟩/\l[k]?=some s/\b<w.heap.size/\w.cell? ⟨b,off+k,none⟩=some (.string s):=by
 obtain⟨b,off,e,hb,hc⟩:=h.at_ (by omega);have hl:=h.len;rw[List.length_map,Nat.mul_one]at hl;have hx:l[k]?=some l[k]:=List.getElem?_eq_getElem (by omega);exact⟨b,off,l[k],e,hx,hb,hc k _ (by rw[List.getElem?_map,hx];rfl)⟩
variable{M:MsgD}{m:Nat}{S:List MsgD}
theorem zmH(hM:S[m]?=some M)(h:idxB (zdj s) M.fields= -1):wayV S m (s::l)=none:=by
 unfold wayV;rw[hM];simp only;rw[zbm.1 h]
theorem zmI{f:zab}(hM:S[m]?=some M)(h:idxB (zdj s) M.fields=(k:Nat))(hf:M.fields[k]?=some f):
 wayV S m (s::l)=if l=[]then some [f.number]else if f.rep=true\/f.kind≠17 then none else(wayV S f.of_.toNat l).map (f.number:: ·):=by
 conv=>lhs;unfold wayV
 rw[hM];simp only;rw[zbm.2 k f h hf]
theorem zpy{n':Nat}{v:Value}(h:n=n'):Ending.returned (.tuple #[.slice A n c,v])=.returned (.tuple #[.slice A n' c,v]):=by rw[h]
def zmJ(S:List MsgD)(m:Nat)(l:List ByteArray)(w:World)(e:Ending)(w':World):Prop:=
 (wayV S m l=none/\e=.returned (.tuple #[.slice none 0 0,.bool false])/\Ext w w')\/
 ∃way A c,wayV S m l=some way/\e=.returned (.tuple #[.slice A way.length c,.bool true])/\Own w w' 3 1 A way.length c (way.map wyV)
theorem mLead{C:Option Addr}{kc:Nat}{S:List MsgV}(hs:zag w A n c S)(hR:zan (S.map MsgV.d)=true)(hm:m<n)(hn:zcL w C k kc l)(hl:0<k)(hk:k<=1000):
 Calls prog 105 #[.slice A n c,.int .i64 (m:Int),.slice C k kc] w (zmJ (S.map MsgV.d) m l w):=by
 have hSl:=hs.length;have hll:l.length=k:=by have:=hn.len;rw[List.length_map,Nat.mul_one]at this;exact this
 have HR:=zsz hR;have HL:=zsz hSl;have HLL:=zsz hll;clear hR hSl hll
 go_enter func105,ntmps105
 go_wp2
 go_loopw [1,8,16] (fun t1 t8 t16 wr=>∃(i r:Nat)(A2:Option Addr)(c2:Nat)(dn:List Int),i<k/\t16=.int .i64 i/\t1=.int .i64 r/\r<n/\t8=.slice A2 i c2/\Own w wr 3 1 A2 i c2 (dn.map wyV)/\Hid (wayV (S.map MsgV.d) m l=(wayV (S.map MsgV.d) r (l.drop i)).map (dn++ ·)))
  (fun _ _ i _=>k - (intOf i).toNat)
 case atStart=>exact⟨0,m,none,0,[],hl,rfl,rfl,hm,rfl,Own.nil (Ext.refl _) 3 1,by show _=Option.map (fun x=>x) _;simp⟩
 case round=>
  obtain⟨i,r,A2,c2,dn,hi,rfl,rfl,hr,rfl,own,hw⟩:=hrel;have E:=own.ext;have hi2:(i:Int)<k:=by omega
  have hr2:(r:Int)<n:=by omega
  obtain⟨nb,no,s,rfl,hsn,hnb,n0⟩:=zcL.name (hn.ext E) hi;obtain⟨sb,so,⟨⟨Mn,Mf⟩,MA,Mk,Mc⟩,rfl,hM,hF,hMn,hsb,s0,s1⟩:=(hs.up E).msg hr;simp only at hF hMn s0 s1
  have hd:l.drop i=s::l.drop (i+1):=by
   have h1:=List.getElem?_eq_some_iff.1 hsn;rw[List.drop_eq_getElem_cons h1.1,h1.2]
  have hM':(S.map MsgV.d)[r]?=some ⟨Mn,Mf⟩:=by rw[List.getElem?_map,hM];rfl
  have hFl:=hF.length;have hF2:=(zbd HR.out hM').2.2.1;simp only at hF2;have hMk:Mk<=1000000000000:=by omega
  rcases zaL (zdj s) Mf with⟨hI,_⟩|⟨j,f,hI,hf,_,_⟩
  . have hno:=hw.out
    rw[hd,zmH hM' hI]at hno;have hby:∀W:World,zav W MA Mk Mc Mf->Calls prog 128 #[.agg #[.string Mn,.slice MA Mk Mc],.string s] W fun e w'=>e=.returned (.tuple #[.int .i64 0,.bool false])/\Ext W w':=fun W h=>zpr h hMk hI
    have HN:=zsz hno
    have Hby:=zsz hby;have HFF:=zsz hF;clear hno hI hw hd hM hM' hsn hby hF hFl hF2
    go_wp2_with (go_at_call 128;refine(Hby.out _ HFF.out).mono ?_;rintro e w1 ⟨rfl,E1⟩)
    go_ret2
    exact .inl ⟨HN.out,rfl,E.trans E1⟩
  . have hby:∀W:World,zav W MA Mk Mc Mf->Calls prog 128 #[.agg #[.string Mn,.slice MA Mk Mc],.string s] W fun e w'=>e=.returned (.tuple #[.int .i64 (j:Nat),.bool true])/\Ext W w':=fun W h=>by
     have:=zpr (s:=Mn) h hMk hI
     rwa[show max ((j:Nat):Int) 0=(j:Nat)by omega,show decide ((0:Int)<=(j:Nat))=true by simp]at this
    have hjl:j<Mk:=by have:=(List.getElem?_eq_some_iff.1 hf).1;omega
    have hji:(j:Int)<Mk:=by omega
    have hws:=zmI (l:=l.drop (i+1)) hM' hI hf;have hof:=fun(h:f.kind=17)=>zbV HR.out hM' hf h
    obtain⟨fb,fo,f',rfl,hf',hok,hfb,c0,c1,c2',c3,c4,c5⟩:=hF.field hjl;obtain rfl:f'=f:=Option.some.inj (hf'.symm.trans hf);have hw1:=hw.out;rw[hd,hws]at hw1;have Hw:=zsz hw1
    have Hby:=zsz hby;have HFF:=zsz hF;have Hof:=zsz hof;have HL2:=HL.out;rw[List.length_map]at hof;clear hw hd hM hM' hsn hby hF hFl hF2 hws hw1 hI hf hf' hof hok;obtain⟨fname,fnum,fkind,frep,fpk,fof⟩:=f';simp only at c0 c1 c2' c3 c4 c5;by_cases hlast:i+1=k
    . have hnil:l.drop (i+1)=[]:=List.drop_eq_nil_of_le (by rw[HLL.out];omega)
      have hfin:=Hw.out;rw[hnil,if_pos rfl]at hfin;have Hfin:=zsz hfin;have q:((i:Int)==(k:Int) - 1)=true:=by rw[beq_iff_eq];omega
      have Hlast:=zsz hlast;clear hnil hfin Hw hlast
      go_wp2_with (first
       |(go_at_call 128;refine(Hby.out _ HFF.out).mono ?_;rintro e w1 ⟨rfl,E1⟩;replace c0:=E1.of_cell c0;replace c1:=E1.of_cell c1;replace c2':=E1.of_cell c2';replace c3:=E1.of_cell c3;replace c4:=E1.of_cell c4;replace c5:=E1.of_cell c5;replace s0:=E1.of_cell s0;replace s1:=E1.of_cell s1;replace own:=own.up E1;replace hfb:=Nat.lt_of_lt_of_le hfb E1.size;replace hsb:=Nat.lt_of_lt_of_le hsb E1.size)
       |(at_builtin;refine zaH zgB rfl (.tmp 40) (.tmp 43) rfl rfl (own.up xx) rfl (by first|rfl|simp) rfl (by omega) (by unfold maxLen;omega) ?_;intro A4 c4 w4 own4 g4))
      go_ret2
      have hln:dn.length=i:=by have:=own.reads.len;rw[List.length_map,Nat.mul_one]at this;exact this
      exact .inr ⟨dn++[fnum],A4,c4,Hfin.out,zpy (by simp[hln]),by simpa[hln,wyV] using own4⟩
    . have hne:l.drop (i+1)≠ []:=fun h=>by have:=congrArg List.length h;rw[List.length_drop,HLL.out]at this;simp at this;omega
      have q:((i:Int)==(k:Int) - 1)=false:=by rw[beq_eq_false_iff_ne];omega
      have hlt:i+1<k:=by omega
      have Hlt:=zsz hlt;have hfin:=Hw.out;rw[if_neg hne]at hfin;clear hlast hlt hne Hw;by_cases hr:frep=true
      . rw[if_pos (.inl hr)]at hfin
        have Hfin:=zsz hfin;clear hfin;subst hr
        go_wp2_with (first
       |(go_at_call 128;refine(Hby.out _ HFF.out).mono ?_;rintro e w1 ⟨rfl,E1⟩;replace c0:=E1.of_cell c0;replace c1:=E1.of_cell c1;replace c2':=E1.of_cell c2';replace c3:=E1.of_cell c3;replace c4:=E1.of_cell c4;replace c5:=E1.of_cell c5;replace s0:=E1.of_cell s0;replace s1:=E1.of_cell s1;replace own:=own.up E1;replace hfb:=Nat.lt_of_lt_of_le hfb E1.size;replace hsb:=Nat.lt_of_lt_of_le hsb E1.size)
       |(at_builtin;refine zaH zgB rfl (.tmp 40) (.tmp 43) rfl rfl (own.up xx) rfl (by first|rfl|simp) rfl (by omega) (by unfold maxLen;omega) ?_;intro A4 c4 w4 own4 g4;have k3:w4.cell? ⟨w1.heap.size,3,none⟩=some (.bool true):=(zbp own g4 (Nat.le_refl _) (by simp<;>omega)).trans (by simp);have k2:w4.cell? ⟨w1.heap.size,2,none⟩=some (.int .i64 fkind):=(zbp own g4 (Nat.le_refl _) (by simp<;>omega)).trans (by simp);have k5:w4.cell? ⟨w1.heap.size,5,none⟩=some (.int .i64 fof):=(zbp own g4 (Nat.le_refl _) (by simp<;>omega)).trans (by simp);have kl:w1.heap.size<w4.heap.size:=Nat.lt_of_lt_of_le (by simp<;>omega) g4.size))
        go_ret2
        exact .inl ⟨Hfin.out,rfl,own4.ext⟩
      . rw[Bool.not_eq_true]at hr
        subst hr;by_cases hk17:fkind=17
        . subst hk17
          rw[if_neg (by simp)]at hfin;obtain⟨o,ho,ho2⟩:=Hof.out rfl;subst ho;simp only[Int.toNat_natCast,Option.map_map]at hfin;have Hfin:=zsz hfin;rw[List.length_map,HL2]at ho2;clear hfin
          go_wp2_with (first
       |(go_at_call 128;refine(Hby.out _ HFF.out).mono ?_;rintro e w1 ⟨rfl,E1⟩;replace c0:=E1.of_cell c0;replace c1:=E1.of_cell c1;replace c2':=E1.of_cell c2';replace c3:=E1.of_cell c3;replace c4:=E1.of_cell c4;replace c5:=E1.of_cell c5;replace s0:=E1.of_cell s0;replace s1:=E1.of_cell s1;replace own:=own.up E1;replace hfb:=Nat.lt_of_lt_of_le hfb E1.size;replace hsb:=Nat.lt_of_lt_of_le hsb E1.size)
       |(at_builtin;refine zaH zgB rfl (.tmp 40) (.tmp 43) rfl rfl (own.up xx) rfl (by first|rfl|simp) rfl (by omega) (by unfold maxLen;omega) ?_;intro A4 c4 w4 own4 g4;have k3:w4.cell? ⟨w1.heap.size,3,none⟩=some (.bool false):=(zbp own g4 (Nat.le_refl _) (by simp<;>omega)).trans (by simp);have k2:w4.cell? ⟨w1.heap.size,2,none⟩=some (.int .i64 17):=(zbp own g4 (Nat.le_refl _) (by simp<;>omega)).trans (by simp);have k5:w4.cell? ⟨w1.heap.size,5,none⟩=some (.int .i64 (o:Int)):=(zbp own g4 (Nat.le_refl _) (by simp<;>omega)).trans (by simp);have kl:w1.heap.size<w4.heap.size:=Nat.lt_of_lt_of_le (by simp<;>omega) g4.size))
          go_roundw
          case rel=>
           refine⟨i+1,o,A4,c4,dn++[fnum],Hlt.out,by go_num,rfl,ho2,rfl,by simpa[wyV] using own4,?_⟩;have:=Hfin.out;rw[this];show _=_;congr 1;funext x;simp
          case measure=>simp[intOf];have:=Hlt.out;omega
        . rw[if_pos (.inr hk17)]at hfin
          have q3:(fkind !=17)=true:=by rw[bne_iff_ne];exact hk17
          have Hfin:=zsz hfin;clear hfin hk17
          go_wp2_with (first
       |(go_at_call 128;refine(Hby.out _ HFF.out).mono ?_;rintro e w1 ⟨rfl,E1⟩;replace c0:=E1.of_cell c0;replace c1:=E1.of_cell c1;replace c2':=E1.of_cell c2';replace c3:=E1.of_cell c3;replace c4:=E1.of_cell c4;replace c5:=E1.of_cell c5;replace s0:=E1.of_cell s0;replace s1:=E1.of_cell s1;replace own:=own.up E1;replace hfb:=Nat.lt_of_lt_of_le hfb E1.size;replace hsb:=Nat.lt_of_lt_of_le hsb E1.size)
       |(at_builtin;refine zaH zgB rfl (.tmp 40) (.tmp 43) rfl rfl (own.up xx) rfl (by first|rfl|simp) rfl (by omega) (by unfold maxLen;omega) ?_;intro A4 c4 w4 own4 g4;have k3:w4.cell? ⟨w1.heap.size,3,none⟩=some (.bool false):=(zbp own g4 (Nat.le_refl _) (by simp<;>omega)).trans (by simp);have k2:w4.cell? ⟨w1.heap.size,2,none⟩=some (.int .i64 fkind):=(zbp own g4 (Nat.le_refl _) (by simp<;>omega)).trans (by simp);have k5:w4.cell? ⟨w1.heap.size,5,none⟩=some (.int .i64 fof):=(zbp own g4 (Nat.le_refl _) (by simp<;>omega)).trans (by simp);have kl:w1.heap.size<w4.heap.size:=Nat.lt_of_lt_of_le (by simp<;>omega) g4.size))
          go_ret2
          exact .inl ⟨Hfin.out,rfl,own4.ext⟩
variable{p:ByteArray}
theorem zfh(h:argsM S root≠0):zas S root p=([],argsM S root):=by unfold zas;rw[if_pos h]
theorem zer(h:argsM S root=0)(hn:zbB p=none):zas S root p=([],10):=by unfold zas;rw[if_neg (by simp[h]),hn]
theorem zfi(h:argsM S root=0)(hn:zbB p=some l)(hw:wayV S root.toNat l=none):zas S root p=([],10):=by unfold zas;rw[if_neg (by simp[h]),hn];simp only;rw[hw]
theorem zgk{way:List Int}(h:argsM S root=0)(hn:zbB p=some l)(hw:wayV S root.toNat l=some way):zas S root p=(way,0):=by unfold zas;rw[if_neg (by simp[h]),hn];simp only;rw[hw]
theorem zhR(h:zbB p=some l):0<l.length/\l.length<=65:=by
 unfold zbB at h;by_cases hc:(zbh p).all nameB=true/\(zbh p).length<=65
 . rw[if_pos hc]at h
   injection h with h;subst h;exact⟨zfR p,hc.2⟩
 . rw[if_neg hc]at h
   cases h
def zfj(S:List MsgD)(root:Int)(p:ByteArray)(kind:IntKind)(w:World)(e:Ending)(w':World):Prop:=
 ∃A c,e=.returned (.tuple #[.slice A (zas S root p).1.length c,.int kind ((zas S root p).2:Nat)])/\Own w w' 3 1 A (zas S root p).1.length c ((zas S root p).1.map wyV)
theorem zmK{S:List MsgV}(hs:zag w A n c S)(hp:p.size<=maxLen):
 Calls prog 73 #[.slice A n c,.int .i64 root,.string p] w (zfj (S.map MsgV.d) root p .u8 w):=by
 have hl:=hs.length;have ha:=fun W (h:zag W A n c S)=>mArgs (root:=root) h
 unfold zfj;by_cases h0:argsM (S.map MsgV.d) root=0
 . rw[h0]at ha
   have Ha:=zsz ha;obtain⟨hR,hr1,hr2⟩:=zkX h0;rw[List.length_map,hl]at hr2;obtain⟨m,rfl⟩:∃m:Nat,root=m:=⟨root.toNat,by omega⟩
   have hm:m<n:=by omega
   have hsp:=fun W=>zsm (w:=W) hp
   have Hsp:=zsz hsp;have Hs:=zsz hs;rcases hnm:zbB p with _|l
   . rw[zer h0 hnm]
     have Hnm:=zsz hnm;clear ha h0 hsp hnm hs hl hR
     go_enter func73,ntmps73
     go_wp2_with (first
      |(go_at_call 103;refine(Ha.out _ Hs.out).mono ?_;rintro e w1 ⟨rfl,E1⟩)
      |(go_at_call 104;refine(Hsp.out _).mono ?_;rintro e w2 h2;obtain⟨rfl,E2⟩:e=.returned (.tuple #[.slice none 0 0,.int .u8 12])/\Ext w1 w2:=(by rcases h2 with⟨_,a,b⟩|⟨l,A,c,a,_⟩;exact⟨a,b⟩;rw[Hnm.out]at a;cases a)))
     go_ret2
     exact⟨none,0,rfl,Own.nil (E1.trans E2) _ 1⟩
   . have hll:=zhR hnm
     have hld:=fun W (h:zag W A n c S)(C:Option Addr)(kc:Nat)(hn:zcL W C l.length kc l)=>mLead (m:=m) h hR hm hn hll.1 (by omega)
     have Hld:=zsz hld;have Hnm:=zsz hnm;rcases hw:wayV (S.map MsgV.d) m l with _|way
     . rw[zfi h0 hnm (by simpa using hw)]
       have Hw:=zsz hw;clear ha h0 hsp hnm hs hl hR hld hw
       go_enter func73,ntmps73
       go_wp2_with (first
        |(go_at_call 103;refine(Ha.out _ Hs.out).mono ?_;rintro e w1 ⟨rfl,E1⟩)
        |(go_at_call 104;refine(Hsp.out _).mono ?_;rintro e w2 h2;obtain⟨A2,c2,rfl,own2⟩:∃A2 c2,e=.returned (.tuple #[.slice A2 l.length c2,.int .u8 0])/\Own w1 w2 9 1 A2 l.length c2 (l.map nmV):=(by rcases h2 with⟨a,_⟩|⟨l',A2,c2,a,b,d⟩;rw[Hnm.out]at a;cases a;rw[Hnm.out]at a;cases a;exact⟨A2,c2,b,d⟩);clear h2;have X2:=E1.trans own2.ext)
        |(go_at_call 105;refine(Hld.out _ (Hs.out.up X2) _ _ own2.reads).mono ?_;rintro e w3 h3;obtain⟨rfl,E3⟩:e=.returned (.tuple #[.slice none 0 0,.bool false])/\Ext w2 w3:=(by rcases h3 with⟨_,a,b⟩|⟨l',A3,c3,a,_⟩;exact⟨a,b⟩;rw[Hw.out]at a;cases a)))
       go_ret2
       exact⟨none,0,rfl,Own.nil (X2.trans E3) _ 1⟩
     . rw[zgk h0 hnm (by simpa using hw)]
       have Hw:=zsz hw;clear ha h0 hsp hnm hs hl hR hld hw
       go_enter func73,ntmps73
       go_wp2_with (first
        |(go_at_call 103;refine(Ha.out _ Hs.out).mono ?_;rintro e w1 ⟨rfl,E1⟩)
        |(go_at_call 104;refine(Hsp.out _).mono ?_;rintro e w2 h2;obtain⟨A2,c2,rfl,own2⟩:∃A2 c2,e=.returned (.tuple #[.slice A2 l.length c2,.int .u8 0])/\Own w1 w2 9 1 A2 l.length c2 (l.map nmV):=(by rcases h2 with⟨a,_⟩|⟨l',A2,c2,a,b,d⟩;rw[Hnm.out]at a;cases a;rw[Hnm.out]at a;cases a;exact⟨A2,c2,b,d⟩);clear h2;have X2:=E1.trans own2.ext)
        |(go_at_call 105;refine(Hld.out _ (Hs.out.up X2) _ _ own2.reads).mono ?_;rintro e w3 h3;obtain⟨A3,c3,rfl,own3⟩:∃A3 c3,e=.returned (.tuple #[.slice A3 way.length c3,.bool true])/\Own w2 w3 3 1 A3 way.length c3 (way.map wyV):=(by rcases h3 with⟨a,_⟩|⟨l',A3,c3,a,b,d⟩;rw[Hw.out]at a;cases a;rw[Hw.out]at a;cases a;exact⟨A3,c3,b,d⟩);clear h3))
       go_ret2
       exact⟨A3,c3,rfl,own3.since X2⟩
 . rw[zfh h0]
   have Ha:=zsz ha;have hN:((argsM (S.map MsgV.d) root:Nat):Int)≠0:=by omega
   have hN2:(((argsM (S.map MsgV.d) root:Nat):Int) !=0)=true:=by rw[bne_iff_ne];exact hN
   clear ha h0 hl hN;generalize argsM (S.map MsgV.d) root=C at*
   go_enter func73,ntmps73
   go_wp2_with (go_at_call 103;refine(Ha.out _ hs).mono ?_;rintro e w1 ⟨rfl,E1⟩)
   go_ret2
   exact⟨none,0,rfl,Own.nil E1 _ 1⟩
def zeT(p:ByteArray)(i fr:Nat)(out:List ByteArray):Prop:=
 (∀x∈out,nameB x=true)/\((i<=p.size/\fr<=i/\zbh p=out++((zbv (p.data.toList.drop i)).modifyHead ((p.extract fr i).data.toList++ ·)).map textO)\/(i=p.size+1/\zbh p=out))
theorem zeT.start(p:ByteArray):zeT p 0 0 []:=⟨fun x h=>(by cases h),.inl ⟨Nat.zero_le _,Nat.le_refl _,by
 rw[Lib.extract_data];simp only[Nat.sub_self,List.take_zero,List.nil_append,List.drop_zero];show zbh p=((zbv p.data.toList).modifyHead (fun x=>x)).map textO;unfold zbh
 cases zbv p.data.toList<;>rfl⟩⟩
variable{out:List ByteArray}{i fr:Nat}
theorem zeT.more(h:zeT p i fr out)(hi:i<p.size)(hc:p[i].toNat≠46):zeT p (i+1) fr out:=by
 obtain⟨h0,⟨h1,h2,h3⟩|⟨h1,_⟩⟩:=h
 . refine⟨h0,.inl ⟨by omega,by omega,?_⟩⟩
   have hx:=zgJ hi
   have hd:p.data.toList.drop i=p[i]::p.data.toList.drop (i+1):=by
    have q:=List.getElem?_eq_some_iff.1 hx;rw[List.drop_eq_getElem_cons q.1,q.2]
   have hne:p[i]≠46:=fun e=>hc (by rw[e];rfl)
   rw[h3,hd]
   conv=>lhs;unfold zbv
   rw[if_neg hne,List.modifyHead_modifyHead];congr 3;funext x;simp only[Function.comp];rw[Lib.extract_data,Lib.extract_data,show i+1 - fr=(i - fr)+1 by omega,List.take_add_one,List.getElem?_drop,show fr+(i - fr)=i by omega,hx];simp
 . omega
theorem zeT.piece(h:zeT p i fr out)(hi:i<=p.size)(hc:∀h:i<p.size,p[i].toNat=46):
 fr<=i/\p.extract fr i∈zbh p/\(nameB (p.extract fr i)=true->zeT p (i+1) (i+1) (out++[p.extract fr i])):=by
 obtain⟨h0,⟨h1,h2,h3⟩|⟨h1,_⟩⟩:=h
 . refine⟨h2,?_⟩
   have hall:∀nm,nameB nm=true->∀x∈out++[nm],nameB x=true:=fun nm hn x hx=>by
    rcases List.mem_append.1 hx with hx|hx
    . exact h0 x hx
    . rw[List.mem_singleton]at hx
      rw[hx];exact hn
   by_cases hlt:i<p.size
   . have hx:=zgJ hlt
     have hd:p.data.toList.drop i=p[i]::p.data.toList.drop (i+1):=by
      have q:=List.getElem?_eq_some_iff.1 hx;rw[List.drop_eq_getElem_cons q.1,q.2]
     have he:p[i]=46:=UInt8.toNat_inj.1 (hc hlt);rw[hd]at h3;rw[show zbv (p[i]::p.data.toList.drop (i+1))=[]::zbv (p.data.toList.drop (i+1))by conv=>lhs;unfold zbv;rw[if_pos he]]at h3;simp only[List.modifyHead_cons,List.append_nil,List.map_cons]at h3;have ht:textO (p.extract fr i).data.toList=p.extract fr i:=zom (by simp[textO]);rw[ht]at h3;refine⟨by rw[h3];simp,fun hn=>⟨hall _ hn,.inl ⟨by omega,Nat.le_refl _,?_⟩⟩⟩;rw[h3,Lib.extract_data];simp only[Nat.sub_self,List.take_zero,List.nil_append,List.append_assoc,List.singleton_append];congr 2;show _=List.map textO ((zbv (p.data.toList.drop (i+1))).modifyHead (fun x=>x));cases zbv (p.data.toList.drop (i+1))<;>rfl
   . obtain rfl:i=p.size:=by omega
     have hd:p.data.toList.drop p.size=[]:=List.drop_eq_nil_of_le (by rw[<-Lib.size_eq];exact Nat.le_refl _);rw[hd]at h3;simp only[zbv,List.modifyHead_cons,List.append_nil,List.map_cons,List.map_nil]at h3;have ht:textO (p.extract fr p.size).data.toList=p.extract fr p.size:=zom (by simp[textO]);rw[ht]at h3;exact⟨by rw[h3];simp,fun hn=>⟨hall _ hn,.inr ⟨rfl,h3⟩⟩⟩
 . omega
def znT(p:ByteArray)(w:World)(e:Ending)(w':World):Prop:=
 (zbB p=none/\e=.returned (.tuple #[.slice none 0 0,.bool false])/\Ext w w')\/
 ∃l A c,zbB p=some l/\e=.returned (.tuple #[.slice A l.length c,.bool true])/\Own w w' 9 1 A l.length c (l.map nmV)
theorem zsq(hp:p.size<=1000000000):Calls prog 63 #[.string p] w (znT p w):=by
 have hnm:=fun(s:ByteArray)(h:s.size<=9223372036854775807) W=>zep h W
 have Hnm:=zsz hnm;clear hnm
 go_enter func63,ntmps63
 go_wp2
 go_loopw [4,5,6] (fun t4 t5 t6 wr=>∃(i fr:Nat)(A2:Option Addr)(c2:Nat)(out:List ByteArray),i<=p.size+1/\out.length<=i/\t6=.int .i64 i/\t5=.int .i64 fr/\t4=.slice A2 out.length c2/\Own w wr 9 1 A2 out.length c2 (out.map nmV)/\Hid (zeT p i fr out))
  (fun _ _ i _=>p.size+1 - (intOf i).toNat)
 case atStart=>exact⟨0,0,none,0,[],Nat.zero_le _,Nat.le_refl _,rfl,rfl,rfl,Own.nil (Ext.refl _) 9 1,zeT.start p⟩
 case round=>
  obtain⟨i,fr,A2,c2,out,hi,hol,rfl,rfl,rfl,own,hS⟩:=hrel;by_cases hle:i<=p.size
  . have hle2:(i:Int)<=p.size:=by omega
    by_cases hgo:∃h:i<p.size,p[i].toNat≠46
    . obtain⟨hlt,h46⟩:=hgo
      have hlt2:(i:Int)<p.size:=by omega
      have q:(((p[i].toNat:Nat):Int) !=46)=true:=by rw[bne_iff_ne];omega
      have Hn:=zsz (hS.out.more hlt h46);clear h46
      go_wp2
      go_roundw
      case rel=>exact⟨i+1,fr,A2,c2,out,by omega,by omega,by go_num,rfl,rfl,own,Hn⟩
      case measure=>simp[intOf];omega
    . have h46:∀h:i<p.size,p[i].toNat=46:=fun h=>Classical.byContradiction fun q=>hgo ⟨h,q⟩
      obtain⟨hfr,hmem,hnext⟩:=hS.out.piece hle h46;have hsz:=zhh p _ hmem;have hnm:=fun W=>Hnm.out (p.extract fr i) (by omega) W
      have hfi:(fr:Int)<=i:=by omega
      rcases hb:nameB (p.extract fr i)with _|_
      . have hno:=zky hmem hb
        rw[hb]at hnm;have HN:=zsz hno;have Hnm2:=zsz hnm;clear hno hnm hb hmem hnext hgo hsz;by_cases hlt:i<p.size
        . have hlt2:(i:Int)<p.size:=by omega
          have q:(((p[i].toNat:Nat):Int) !=46)=false:=by rw[h46 hlt];rfl
          clear h46
          go_wp2_with (go_at_call 98;refine(Hnm2.out _).mono ?_;rintro e w1 ⟨rfl,rfl⟩)
          go_ret2
          exact .inl ⟨HN.out,rfl,own.ext⟩
        . have hlt2:¬(i:Int)<p.size:=by omega
          clear h46
          go_wp2_with (go_at_call 98;refine(Hnm2.out _).mono ?_;rintro e w1 ⟨rfl,rfl⟩)
          go_ret2
          exact .inl ⟨HN.out,rfl,own.ext⟩
      . rw[hb]at hnm
        have HN:=zsz (hnext hb);have Hnm2:=zsz hnm;clear hnm hb hmem hnext hgo hsz;by_cases hlt:i<p.size
        . have hlt2:(i:Int)<p.size:=by omega
          have q:(((p[i].toNat:Nat):Int) !=46)=false:=by rw[h46 hlt];rfl
          clear h46
          go_wp2_with (first
           |(go_at_call 98;refine(Hnm2.out _).mono ?_;rintro e w1 ⟨rfl,rfl⟩)
           |(at_builtin;refine zaH zkx rfl (.tmp 29) (.tmp 34) rfl rfl own rfl (by first|rfl|simp) rfl (by omega) (by unfold maxLen;omega) ?_;intro A4 c4 w4 own4 g4))
          go_roundw
          case rel=>exact⟨i+1,i+1,A4,c4,out++[p.extract fr i],by omega,by simp;omega,by go_num,by go_num,by simp,by simpa[nmV] using own4,HN⟩
          case measure=>simp[intOf];omega
        . have hlt2:¬(i:Int)<p.size:=by omega
          clear h46
          go_wp2_with (first
           |(go_at_call 98;refine(Hnm2.out _).mono ?_;rintro e w1 ⟨rfl,rfl⟩)
           |(at_builtin;refine zaH zkx rfl (.tmp 29) (.tmp 34) rfl rfl own rfl (by first|rfl|simp) rfl (by omega) (by unfold maxLen;omega) ?_;intro A4 c4 w4 own4 g4))
          go_roundw
          case rel=>exact⟨i+1,i+1,A4,c4,out++[p.extract fr i],by omega,by simp;omega,by go_num,by go_num,by simp,by simpa[nmV] using own4,HN⟩
          case measure=>simp[intOf];omega
  . have hle2:¬(i:Int)<=p.size:=by omega
    obtain⟨g0,g1⟩:=hS.out;have hsp:zbh p=out:=by rcases g1 with⟨a,_⟩|⟨_,a⟩;omega;exact a
    by_cases h65:65<out.length
    . have hno:zbB p=none:=by unfold zbB;rw[if_neg (by rw[hsp];omega)]
      have HN:=zsz hno;have q:(65:Int)<(out.length:Int):=by omega
      clear hno g0 g1 hsp hS
      go_wp2
      go_ret2
      exact .inl ⟨HN.out,rfl,own.ext⟩
    . have hyes:zbB p=some out:=by rw[<-hsp];exact zkz (by rw[hsp];exact g0) (by rw[hsp];omega)
      have HN:=zsz hyes;have q:¬(65:Int)<(out.length:Int):=by omega
      clear hyes g0 g1 hsp hS
      go_wp2
      go_ret2
      exact .inr ⟨out,A2,c2,HN.out,rfl,own⟩
end Go.Proofs.YtpicpebolghcfaaGreatDoor
