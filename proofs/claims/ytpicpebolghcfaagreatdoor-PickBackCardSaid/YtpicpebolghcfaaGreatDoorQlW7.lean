/- Contracts of layer 7. -/
import Derived.Test.YtpicpebolghcfaaGreatDoorQlW6
import Derived.Shelf.Abstract
import Derived.Deep.RegionHeld3
import Derived.DeepKeys4
import Derived.Deep.DeepCutAuto

set_option linter.unusedVariables false
set_option maxRecDepth 100000
set_option maxHeartbeats 2000000
namespace Go.Proofs.YtpicpebolghcfaaGreatDoor
open Go.RowKit Tryz
variable{w:World}{l:List zab}{n c:Nat}{A:Option Addr}
theorem zmF{g:FuncId}{lb:Array Value}{p:zab->Bool}(eg:∀args w,(callFunc g args).run prog w=.ok (.enter g args) w)(hb:zav w A n c l)(hn:n<=1000000000000)(hp:∀(W:World)(f:zab),f.Ok->Ext w W->Calls prog g (#[zaq f]++lb) W fun e W'=>e=.returned (.bool (p f))/\Ext W W'):
 Calls prog 149 #[.slice A n c,.func (.func g) #[] lb] w fun e w'=>e=.returned (.int .i64 (idxB p l))/\Ext w w':=by
 have hl:=hb.length;have Hl:=zsz hl;have Hp:=zsz hp;clear hl hp
 go_enter func149,ntmps149
 go_wp2
 go_loopw [5,8] (fun _ i wr=>∃k:Nat,k<=n/\i=.int .i64 k/\Ext w wr/\Hid (∀(j:Nat) y,j<k->l[j]?=some y->p y=false)) (fun _ i _=>n - (intOf i).toNat)
 case atStart=>exact⟨0,Nat.zero_le _,rfl,Ext.refl _,fun j y h=>absurd h (Nat.not_lt_zero j)⟩
 case round=>
  obtain⟨k,hk,rfl,hW,hN⟩:=hrel;by_cases hlt:k<n
  . have hlt2:(k:Int)<n:=by omega
    obtain⟨b,off,f,rfl,hf,hok,hb1,c0,c1,c2,c3,c4,c5⟩:=(hb.up hW).field hlt;have Hf:=zsz hf;clear hf;rcases hq:p f with _|_
    . have hcall:=Hp.out wr f hok hW
      rw[hq]at hcall;unfold zaq at hcall;have Hc:=zsz hcall;have Hq:=zsz hq;clear hcall hq
      go_wp2_with (go_at_fn g;refine Hc.out.mono ?_;rintro e w1 ⟨rfl,E1⟩)
      go_roundw
      case rel=>
       refine⟨k+1,by omega,by go_num,hW.trans E1,fun j y hj hy=> ?_⟩;by_cases e:j=k
       . subst e
         have:=Hf.out.symm.trans hy;cases this;exact Hq.out
       . exact hN.out j y (by omega) hy
      case measure=>simp[intOf];omega
    . have hcall:=Hp.out wr f hok hW
      rw[hq]at hcall;unfold zaq at hcall;have Hc:=zsz hcall;have hi:=zcU Hf.out hq hN.out;have Hi:=zsz hi;clear hcall hq hi
      go_wp2_with (go_at_fn g;refine Hc.out.mono ?_;rintro e w1 ⟨rfl,E1⟩)
      go_ret
      exact⟨zbF Hi.out.symm,hW.trans E1⟩
  . have hk2:k=n:=by omega
    subst hk2;have hi:idxB p l= -1:=zee (fun j y hy=>hN.out j y (by have:=(List.getElem?_eq_some_iff.1 hy).1;have:=Hl.out;omega) hy);have Hi:=zsz hi;clear hi
    go_wp2
    go_ret
    exact⟨zbF Hi.out.symm,hW⟩
variable{x:Nat}
theorem or32(h:x<256):bits BinOp.or IntKind.u8 (x:Int) 32=((x|||32:Nat):Int):=by
 rw[u8_or _ 32 (by omega) (by omega) (by decide) (by decide)];rfl
theorem zhO(hx:x<256)(w:World):
 Calls prog 160 #[.int .u8 (x:Int)] w fun e w'=>e=.returned (.bool (zfT x))/\w=w':=by
 have hb:=or32 hx;have hl:=zoy hx;generalize hy:(x|||32)=y at*;have hy2:y<256:=by rw[<-hy];exact Nat.or_lt_two_pow (n:=8) hx (by decide)
 have HL:=zsz hl;clear hl hy
 go_enter func160,ntmps160
 go_wp2
 all_goals
  go_ret
  refine⟨zam ?_,rfl⟩;rw[HL.out,Bool.eq_iff_iff];simp;omega
theorem zjq(n:Int)(w:World):
 Calls prog 161 #[.int .i64 n] w fun e w'=>e=.returned (.bool (zcs n))/\w=w':=by
 go_enter func161,ntmps161
 go_wp2
 all_goals
  go_ret
  refine⟨zam ?_,rfl⟩;rw[Bool.eq_iff_iff];unfold zcs;simp;omega
theorem zpn(s:ByteArray):s.toList.length=s.size:=by rw[ByteArray.toList_eq];simp
theorem zpo(s:ByteArray):(!s.toList.isEmpty)=decide (1<=s.size):=by
 rw[<-zpn s];rcases s.toList with _|⟨a,l⟩
 . rfl
 . simp
variable{k:Nat}{s:ByteArray}
theorem zgJ(h:k<s.size):s.data.toList[k]?=some s[k]:=by
 rw[List.getElem?_eq_getElem (by simpa using h)];rfl
theorem zeR(hs:s.size<=9223372036854775807)(w:World):
 Calls prog 144 #[.string s] w fun e w'=>e=.returned (.bool (nameB s))/\w=w':=by
 go_enter func144,ntmps144
 go_wp2
 go_loop [3,6] (fun _ i=>∃k:Nat,k<=s.size/\i=.int .i64 k/\Hid (∀(j:Nat) c,j<k->s.data.toList[j]?=some c->charB j c.toNat=true)) (fun _ i=>s.size - (intOf i).toNat)
 case atStart=>exact⟨0,Nat.zero_le _,rfl,fun j c h=>absurd h (Nat.not_lt_zero j)⟩
 case round=>
  obtain⟨k,hk,rfl,hN⟩:=hrel;by_cases hlt:k<s.size
  . have hx:=zgJ hlt
    have hlt2:(k:Int)<s.size:=by omega
    have h256:=(s[k]).toNat_lt;have Hx:=zsz hx;clear hx
    have good:charB k s[k].toNat=true->Hid (∀(j:Nat) c,j<k+1->s.data.toList[j]?=some c->charB j c.toNat=true):=fun hc j c hj h=>by
     by_cases e:j=k
     . subst e
       have:=Hx.out.symm.trans h;cases this;exact hc
     . exact hN.out j c (by omega) h
    have bad:charB k s[k].toNat=false->nameB s=false:=fun hc=>by unfold nameB;rw[zfU _ 0 k _ Hx.out (by rw[Nat.zero_add];exact hc)];rfl
    have Hg:=zsz good;have Hb:=zsz bad;clear good bad;rcases hl:zfT s[k].toNat with _|_
    . have hcb:charB k s[k].toNat=(decide (0<k)&&decide (48<=s[k].toNat)&&decide (s[k].toNat<=57)):=by unfold charB;rw[hl,Bool.false_or]
      have Hl:=zsz hl;have Hc:=zsz hcb;clear hl hcb;by_cases hk0:k=0
      . subst hk0
        go_wp2_with (go_at_call 160;refine(zhO (by omega) _).mono ?_;rintro e w1 ⟨rfl,rfl⟩;rw[Hl.out])
        go_ret
        exact⟨zam (Hb.out (by rw[Hc.out];simp)).symm,rfl⟩
      . have q0:((k:Int)==0)=false:=by rw[beq_eq_false_iff_ne];omega
        clear hk0;by_cases h48:(s[k].toNat:Int)<48
        . go_wp2_with (go_at_call 160;refine(zhO (by omega) _).mono ?_;rintro e w1 ⟨rfl,rfl⟩;rw[Hl.out])
          go_ret
          exact⟨zam (Hb.out (by rw[Hc.out];simp;omega)).symm,rfl⟩
        . by_cases h57:(57:Int)<s[k].toNat
          . go_wp2_with (go_at_call 160;refine(zhO (by omega) _).mono ?_;rintro e w1 ⟨rfl,rfl⟩;rw[Hl.out])
            go_ret
            exact⟨zam (Hb.out (by rw[Hc.out];simp;omega)).symm,rfl⟩
          . go_wp2_with (go_at_call 160;refine(zhO (by omega) _).mono ?_;rintro e w1 ⟨rfl,rfl⟩;rw[Hl.out])
            go_round
            case rel=>exact⟨k+1,by omega,by go_num,Hg.out (by rw[Hc.out];simp;rw[beq_eq_false_iff_ne]at q0;omega)⟩
            case measure=>simp[intOf];omega
    . have hcb:charB k s[k].toNat=true:=by unfold charB;rw[hl,Bool.true_or]
      have Hl:=zsz hl;have Hc:=zsz hcb;clear hl hcb
      go_wp2_with (go_at_call 160;refine(zhO (by omega) _).mono ?_;rintro e w1 ⟨rfl,rfl⟩;rw[Hl.out])
      go_round
      case rel=>exact⟨k+1,by omega,by go_num,Hg.out Hc.out⟩
      case measure=>simp[intOf];omega
  . have hall:zfw 0 s.data.toList=true:=zfV _ 0 (fun j c h=>by
     rw[Nat.zero_add];have hj:=(List.getElem?_eq_some_iff.1 h).1;simp only[Array.length_toList]at hj
     exact hN.out j c (by have:s.data.size=s.size:=rfl;omega) h)
    have hn:nameB s=(decide (1<=s.size)&&decide (s.size<=60)):=by unfold nameB;rw[hall,Bool.true_and]
    have Hn:=zsz hn;clear hall hn
    go_wp2
    all_goals
     go_ret
     refine⟨zam ?_,rfl⟩;rw[Hn.out];have hsz:s.toList.length=s.size:=zpn s
     first
      |(rename s.toList=[]=>h0;rw[h0]at hsz;simp only[List.length_nil]at hsz;rw[<-hsz];rfl)
      |(rw[zpo,Bool.eq_iff_iff];simp;omega)
theorem zqp(k x:Nat):charB k x=(decide (65<=x)&&decide (x<=90)||decide (97<=x)&&decide (x<=122)||decide (x=95)||decide (0<k)&&decide (48<=x)&&decide (x<=57)):=by
 unfold charB zfT;rw[Bool.eq_iff_iff];simp;omega
theorem zep(hs:s.size<=9223372036854775807)(w:World):
 Calls prog 98 #[.string s] w fun e w'=>e=.returned (.bool (nameB s))/\w=w':=by
 go_enter func98,ntmps98
 go_wp2
 go_loop [3] (fun i=>∃k:Nat,k<=s.size/\i=.int .i64 k/\Hid (∀(j:Nat) c,j<k->s.data.toList[j]?=some c->charB j c.toNat=true)) (fun i=>s.size - (intOf i).toNat)
 case atStart=>exact⟨0,Nat.zero_le _,rfl,fun j c h=>absurd h (Nat.not_lt_zero j)⟩
 case round=>
  obtain⟨k,hk,rfl,hN⟩:=hrel;by_cases hlt:k<s.size
  . have hx:=zgJ hlt
    have hlt2:(k:Int)<s.size:=by omega
    have h256:=(s[k]).toNat_lt;have Hx:=zsz hx;clear hx
    have good:charB k s[k].toNat=true->Hid (∀(j:Nat) c,j<k+1->s.data.toList[j]?=some c->charB j c.toNat=true):=fun hc j c hj h=>by
     by_cases e:j=k
     . subst e
       have:=Hx.out.symm.trans h;cases this;exact hc
     . exact hN.out j c (by omega) h
    have bad:charB k s[k].toNat=false->nameB s=false:=fun hc=>by unfold nameB;rw[zfU _ 0 k _ Hx.out (by rw[Nat.zero_add];exact hc)];rfl
    have Hg:=zsz good;have Hb:=zsz bad;have hcr:=zqp k s[k].toNat;have Hc:=zsz hcr;clear good bad hcr
    go_wp2
    all_goals first
     |(go_ret
       exact⟨zam (Hb.out (by rw[Hc.out];clear Hg Hb Hc Hx hN hs;simp at*;omega)).symm,rfl⟩)
     |(go_round
       case rel=>exact⟨k+1,by omega,by go_num,Hg.out (by rw[Hc.out];clear Hg Hb Hc Hx hN hs;simp at*;omega)⟩
       case measure=>simp[intOf];omega)
  . have hall:zfw 0 s.data.toList=true:=zfV _ 0 (fun j c h=>by
     rw[Nat.zero_add];have hj:=(List.getElem?_eq_some_iff.1 h).1;simp only[Array.length_toList]at hj
     exact hN.out j c (by have:s.data.size=s.size:=rfl;omega) h)
    have hn:nameB s=(decide (1<=s.size)&&decide (s.size<=60)):=by unfold nameB;rw[hall,Bool.true_and]
    have Hn:=zsz hn;clear hall hn
    go_wp2
    all_goals
     go_ret
     refine⟨zam ?_,rfl⟩;rw[Hn.out,Bool.eq_iff_iff];simp;omega
variable{w':World}{g:Nat}
theorem Only.trans{w'':World}(h:Only g w w')(k:Only g w' w''):Only g w w'':=
 ⟨k.os.trans h.os,k.tape.trans h.tape,k.output.trans h.output,Nat.le_trans h.size k.size,fun r hr hn=>(k.block r (Nat.lt_of_lt_of_le hr h.size) hn).trans (h.block r hr hn)⟩
theorem Only.of_ext(h:Ext w w'):Only g w w':=(Only.refl g w).ext h
theorem zqq:laidOutB prog=true:=by kernel_rfl
theorem zpp:WideMaps.KeyLaw prog 248:=deep_law_laid zqq (m:=3) (by omega) (of_decide_eq_true (by kernel_rfl)) (by kernel_rfl) (by kernel_rfl)
theorem zsh(x:MetK)(h:okMet x):∃l,keyOf prog 248 (zdV x)=some l:=by
 obtain⟨h1,h2,h3⟩:=h;obtain⟨m,hm⟩:∃m,prog.types.size=m+1:=⟨prog.types.size - 1,by have:0<prog.types.size:=of_decide_eq_true (by kernel_rfl);omega⟩
 have hk:prog.keyType 248=true:=by kernel_rfl
 have hc:prog.cellsOf 248=3:=by kernel_rfl
 have c3:prog.cellsOf 3=1:=by kernel_rfl
 have c9:prog.cellsOf 9=1:=by kernel_rfl
 have hf:(zdV x).formed prog 248=true:=by simp[Value.formed,underlying248,hc,zdV]
 unfold keyOf;rw[underlying248];simp only[hk,hf,Bool.and_self,if_true];rw[hm];simp[Program.keyLits,underlying248,underlying3,underlying9,hc,c3,c9,zdV,Value.cells,h1,h2,h3]
theorem zcA:KeyB prog 248 zdV okMet:=
 ⟨Maps.Keyed.of_law zpp,zsh,fun x y h=>by
  obtain⟨a,b,c⟩:=x;obtain⟨a',b',c'⟩:=y;simp[zdV]at h;obtain⟨rfl,rfl,rfl⟩:=h
  rfl⟩
theorem zcB(w:World):(zeroValue 3).run prog w=.ok (.int .i64 0) w:=by kernel_rfl
variable{cs:Array Value}{t:TypeId}{b b2:Nat}{K:Type}
theorem MapV.ne{enc:K->Value}{ok:K->Prop}{M:List (K×Value)}(h:MapV w b enc ok M)(hB:BlkT w b2 t cs):b2≠b:=by
 rintro rfl;obtain⟨es,clock,hb,_⟩:=h;unfold BlkT at hB;rw[hB]at hb;injection hb with hb;cases hb
theorem BlkT.grown(h:BlkT w b2 t cs)(g:w.grownBy w' (some b))(hne:b2≠b):BlkT w' b2 t cs:=
 (g.block b2 h.lt (fun e=>hne (by injection e))).trans h
variable{i:Nat}
theorem zdH(hi:i<=1000)(hs:s.size<=9223372036854775807):okMet ((i:Int),s,0):=by
 refine⟨?_,by unfold maxLen;omega,show(Lit.int .i64 0).wf=true by decide⟩;simp[Lit.wf,IntKind.min,IntKind.max,IntKind.signed,IntKind.bits];omega
theorem zcI{x:Int}(hi:i<=1000)(h1: -9223372036854775808<=x)(h2:x<9223372036854775808):okMet ((i:Int),⟨#[]⟩,x):=by
 refine⟨?_,show(⟨#[]⟩:ByteArray).size<=maxLen by decide,?_⟩
 . simp[Lit.wf,IntKind.min,IntKind.max,IntKind.signed,IntKind.bits];omega
 . simp[Lit.wf,IntKind.min,IntKind.max,IntKind.signed,IntKind.bits];omega
variable{f:zab}
theorem zsi{P:List (Nat×zab)}{before:List zab}(hn:n<=100)(hf:f.Ok)(hi:i<=1000)(hM:MapV w b zdV okMet (metM P))(hP:∀p∈P,okF p.2)(hn1:(P.any fun p=>decide (p.1=i)&&decide (p.2.name=f.name))=before.any fun g=>decide (g.name=f.name))(hn2:(P.any fun p=>decide (p.1=i)&&decide (p.2.number=f.number))=before.any fun g=>decide (g.number=f.number)):
 Calls prog 145 #[.slice A n c,.int .i64 i,zaq f,.map (some b)] w fun e w'=>e=.returned (.int .i64 (zbf n before f:Nat))/\Only b w w'/\
  (zbf n before f=0->MapV w' b zdV okMet (metM (P++[(i,f)]))):=by
 obtain⟨fn,fx,fk,fr,fp,fo⟩:=f;have hsz:=hf.name;have hnum:=hf.number;have hbl:=hM.lt;have hst:=fun h=>zpT (i:=i) (s:=fn) hP h
 have hsu:=fun h=>znk (i:=i) (x:=fx) hP h
 simp only at hn1 hn2 hsz hnum;rw[hn1]at hst;rw[hn2]at hsu;have Hst:=zsz hst;have Hsu:=zsz hsu;have HM:=zsz hM;have HP:=zsz hP;clear hst hsu hn1 hn2 hM hP hf;obtain⟨W,hW⟩:∃W,zbf n before ⟨fn,fx,fk,fr,fp,fo⟩=W:=⟨_,rfl⟩
 rw[hW];have HW:=zsz hW;clear hW;unfold zaq
 go_enter func145,ntmps145
 go_wp2
 go_cut [9,10] (fun u v wz=>∃b1 b2,u=.pointer (some ⟨b1,0,none⟩)/\v=.pointer (some ⟨b2,0,none⟩)/\Ext w wz/\BlkT wz w.heap.size 43 #[.string fn,.int .i64 fx,.int .i64 fk,.bool fr,.bool fp,.int .i64 fo]/\
  BlkT wz b1 248 #[.int .i64 i,.string fn,.int .i64 0]/\BlkT wz b2 248 #[.int .i64 i,.string ⟨#[]⟩,.int .i64 fx])
 case first=>
  have X0:Ext w (w.alloc (.cells #[.string fn,.int .i64 fx,.int .i64 fk,.bool fr,.bool fp,.int .i64 fo] 43)):=xx;have B0:=BlkT.new w 43 #[.string fn,.int .i64 fx,.int .i64 fk,.bool fr,.bool fp,.int .i64 fo] rfl;generalize w.alloc (.cells #[.string fn,.int .i64 fx,.int .i64 fk,.bool fr,.bool fp,.int .i64 fo] 43)=wx at*;have d0:wx.cell? ⟨w.heap.size,0,none⟩=some (.string fn):=B0.cell 0;have d1:wx.cell? ⟨w.heap.size,1,none⟩=some (.int .i64 fx):=B0.cell 1;have dl:=B0.lt
  go_region_held3 (fun W=>Ext wx W/\∀b o,b<wx.heap.size->W.cell? ⟨b,o,none⟩=wx.cell? ⟨b,o,none⟩) ((refine Ext.keep ?_;repeat with_reducible (first|assumption|exact Ext.refl _|refine Ext.alloc ?_ _|refine Ext.drew ?_|refine Ext.drewN ?_ _|refine Ext.setCell ?_ (by first|omega|(simp<;>omega)) _))) (fail)
  all_goals
   go_wp2
   go_meet
   first
    |exact⟨_,_,rfl,rfl,(X0.trans (Ext.alloc (Ext.alloc (Ext.refl _) _) _)).drew,((B0.alloc _).alloc _).drew,((BlkT.new wx _ _ rfl).alloc _).drew,(BlkT.new _ _ _ (by simp)).drew⟩
    |exact⟨_,_,rfl,rfl,(X0.trans (Ext.alloc (Ext.alloc (Ext.refl _) _) _)).drew,((B0.alloc _).alloc _).drew,(BlkT.new _ _ _ (by simp)).drew,((BlkT.new wx _ _ rfl).alloc _).drew⟩
 case rest=>
  obtain⟨b1,b2,rfl,rfl,X,B,B1,B2⟩:=hcut;have d0:wc.cell? ⟨w.heap.size,0,none⟩=some (.string fn):=B.cell 0;have d1:wc.cell? ⟨w.heap.size,1,none⟩=some (.int .i64 fx):=B.cell 1;have d2:wc.cell? ⟨w.heap.size,2,none⟩=some (.int .i64 fk):=B.cell 2;have d3:wc.cell? ⟨w.heap.size,3,none⟩=some (.bool fr):=B.cell 3;have d4:wc.cell? ⟨w.heap.size,4,none⟩=some (.bool fp):=B.cell 4;have d5:wc.cell? ⟨w.heap.size,5,none⟩=some (.int .i64 fo):=B.cell 5;have e0:wc.cell? ⟨b1,0,none⟩=some (.int .i64 i):=B1.cell 0;have e1:wc.cell? ⟨b1,1,none⟩=some (.string fn):=B1.cell 1;have e2:wc.cell? ⟨b1,2,none⟩=some (.int .i64 0):=B1.cell 2;have g0:wc.cell? ⟨b2,0,none⟩=some (.int .i64 i):=B2.cell 0;have g1:wc.cell? ⟨b2,1,none⟩=some (.string ⟨#[]⟩):=B2.cell 1;have g2:wc.cell? ⟨b2,2,none⟩=some (.int .i64 fx):=B2.cell 2;have l0:=B.lt;have l1:=B1.lt;have l2:=B2.lt;have hMc:=HM.out.up X;have HMc:=zsz hMc;have hk1:=zdH (s:=fn) hi hsz;have hk2:=zcI (x:=fx) hi hnum.1 hnum.2;have hlk1:=(hMc.look zcA underlying235 zcB hk1).1;have hlk2:=(hMc.look zcA underlying235 zcB hk2).1;have Hk1:=zsz hlk1;have Hk2:=zsz hlk2;have HO:=zsz (Only.of_ext (g:=b) X);clear hMc hlk1 hlk2 hk1 hk2;rcases h1:nameB fn with _|_
  . obtain rfl:W=5:=by rw[<-HW.out];simp[zbf,h1]
    have H1:=zsz h1;clear h1
    go_wp2_with (go_at_call 144;refine(zeR hsz _).mono ?_;rintro e w1 ⟨rfl,rfl⟩;rw[H1.out])
    go_ret
    exact⟨rfl,HO.out,fun h=>by omega⟩
  have hne:fn≠⟨#[]⟩:=fun e=>by have:=(zcV h1).1;rw[e]at this;have h0:(⟨#[]⟩:ByteArray).size=0:=rfl;omega
  rcases Hst.out hne with⟨h2,hg⟩|⟨h2,hg⟩
  . obtain rfl:W=6:=by rw[<-HW.out];simp[zbf,h1,h2]
    have hl1:(Instr.lookup 235 (.map (some b)) (.agg #[.int .i64 (i:Int),.string fn,.int .i64 0]) false).run prog wc=.ok (.int .i64 1) wc:=by have:=Hk1.out;rw[hg]at this;exact this
    have H1:=zsz h1;clear h1 h2 hg
    go_wp2_with (go_at_call 144;refine(zeR hsz _).mono ?_;rintro e w1 ⟨rfl,rfl⟩;rw[H1.out])
    go_ret
    exact⟨rfl,HO.out,fun h=>by omega⟩
  have hl1:(Instr.lookup 235 (.map (some b)) (.agg #[.int .i64 (i:Int),.string fn,.int .i64 0]) false).run prog wc=.ok (.int .i64 0) wc:=by have:=Hk1.out;rw[zbQ hg]at this;exact this
  rcases h3:zcs fx with _|_
  . obtain rfl:W=7:=by rw[<-HW.out];simp[zbf,h1,h2,h3]
    have H1:=zsz h1;have H3:=zsz h3;clear h1 h2 h3 hg
    go_wp2_with (first|(go_at_call 144;refine(zeR hsz _).mono ?_;rintro e w1 ⟨rfl,rfl⟩;rw[H1.out])|(go_at_call 161;refine(zjq _ _).mono ?_;rintro e w1 ⟨rfl,rfl⟩;rw[H3.out]))
    go_ret
    exact⟨rfl,HO.out,fun h=>by omega⟩
  have hg1:=hg;have Hg1:=zsz hg1;clear hg hg1;rcases Hsu.out (zfc h3).1 with⟨h4,hg⟩|⟨h4,hg⟩
  . obtain rfl:W=8:=by rw[<-HW.out];simp[zbf,h1,h2,h3,h4]
    have hl2:(Instr.lookup 235 (.map (some b)) (.agg #[.int .i64 (i:Int),.string ⟨#[]⟩,.int .i64 fx]) false).run prog wc=.ok (.int .i64 1) wc:=by have:=Hk2.out;rw[hg]at this;exact this
    have H1:=zsz h1;have H3:=zsz h3;clear h1 h2 h3 h4 hg
    go_wp2_with (first|(go_at_call 144;refine(zeR hsz _).mono ?_;rintro e w1 ⟨rfl,rfl⟩;rw[H1.out])|(go_at_call 161;refine(zjq _ _).mono ?_;rintro e w1 ⟨rfl,rfl⟩;rw[H3.out]))
    go_ret
    exact⟨rfl,HO.out,fun h=>by omega⟩
  have hl2:(Instr.lookup 235 (.map (some b)) (.agg #[.int .i64 (i:Int),.string ⟨#[]⟩,.int .i64 fx]) false).run prog wc=.ok (.int .i64 0) wc:=by have:=Hk2.out;rw[zbQ hg]at this;exact this
  have Hg2:=zsz hg;clear hg;rcases h5:kindB fk with _|_
  . obtain rfl:W=9:=by rw[<-HW.out];simp[zbf,h1,h2,h3,h4,h5]
    have H1:=zsz h1;have H3:=zsz h3;have H5:=zsz h5;clear h1 h2 h3 h4 h5
    go_wp2_with (first|(go_at_call 144;refine(zeR hsz _).mono ?_;rintro e w1 ⟨rfl,rfl⟩;rw[H1.out])|(go_at_call 161;refine(zjq _ _).mono ?_;rintro e w1 ⟨rfl,rfl⟩;rw[H3.out])|(go_at_call 152;refine(zpl _ _).mono ?_;rintro e w1 ⟨rfl,rfl⟩;rw[H5.out]))
    go_ret
    exact⟨rfl,HO.out,fun h=>by omega⟩
  have hv:W=if(fp&& !(fr&&zaf fk))=true then 10 else if ofB n ⟨fn,fx,fk,fr,fp,fo⟩=true then 11 else 0:=by rw[<-HW.out];simp[zbf,h1,h2,h3,h4,h5]
  have hnm:=zcV h1;have hub:=zfc h3;have H1:=zsz h1;have H3:=zsz h3;have H5:=zsz h5;have HV:=zsz hv;have Hne:=zsz hne;clear h1 h2 h3 h4 h5 hv hne
  go_upto_region 12 with(first|(go_at_call 144;refine(zeR hsz _).mono ?_;rintro e w1 ⟨rfl,rfl⟩;rw[H1.out])|(go_at_call 161;refine(zjq _ _).mono ?_;rintro e w1 ⟨rfl,rfl⟩;rw[H3.out])|(go_at_call 152;refine(zpl _ _).mono ?_;rintro e w1 ⟨rfl,rfl⟩;rw[H5.out]))
  go_cut [44] (fun t wz=>t=.bool (fp&& !(fr&&zaf fk))/\Ext wc wz)
  case first=>
   rcases fp with _|_
   . go_wp2
     go_meet
     exact⟨rfl,Ext.refl _⟩
   . rcases fr with _|_
     . go_wp2
       go_meet
       exact⟨rfl,Ext.refl _⟩
     . go_wp2_with (go_at_call 31;refine(zbP _ _).mono ?_;rintro e w1 ⟨rfl,E1⟩)
       go_meet
       exact⟨by simp,E1⟩
  case rest=>
   rename World=>wd
   obtain⟨rfl,Xd⟩:=hcut;replace d2:=Xd.of_cell d2;replace d5:=Xd.of_cell d5;replace e0:=Xd.of_cell e0;replace e1:=Xd.of_cell e1;replace e2:=Xd.of_cell e2;replace g0:=Xd.of_cell g0;replace g1:=Xd.of_cell g1;replace g2:=Xd.of_cell g2;replace l0:=Nat.lt_of_lt_of_le l0 Xd.size;replace l1:=Nat.lt_of_lt_of_le l1 Xd.size;replace l2:=Nat.lt_of_lt_of_le l2 Xd.size;have HOd:=zsz (HO.out.ext Xd);rcases h6:(fp&& !(fr&&zaf fk))with _|_
   . rcases h7:ofB n ⟨fn,fx,fk,fr,fp,fo⟩with _|_
     . obtain rfl:W=0:=by rw[HV.out,h6,h7];rfl
       have hMd:=(HMc.out.up Xd).up (Ext.drew (Ext.refl wd));have hb2:=(hMd.ne ((B2.up Xd).drew))
       obtain⟨st,we,run1,me,ge⟩:=hMd.entry zcA underlying235 zcB (zdH (s:=fn) hi hsz);have run0:=(hMd.look zcA underlying235 zcB (zdH (s:=fn) hi hsz)).1;rw[zbQ Hg1.out,Option.getD_none]at run0;rw[zbQ Hg1.out,Option.getD_none]at run1 me;have run0b:=(me.map.look zcA underlying235 zcB (zdH (s:=fn) hi hsz)).1;rw[zdN,Option.getD_some]at run0b;obtain⟨wf,run2,mf,gf⟩:=me.store (P:=prog) (t:=235) zcA.inj (zdH (s:=fn) hi hsz) (.int .i64 1);rw[ziY,zet Hg1.out]at mf;have Bf:=(((B2.up Xd).drew.grown ge hb2).grown gf hb2)
       have hnew:∀q∈metM P++[(((i:Int),fn,0),Value.int .i64 1)],q.1≠((i:Int),⟨#[]⟩,fx):=by
        intro q hq;rcases List.mem_append.1 hq with hq|hq
        . exact Hg2.out q hq
        . simp only[List.mem_singleton]at hq
          subst hq;intro e;simp only[Prod.mk.injEq]at e;exact Hne.out e.2.1
       have hMf:=mf.up (Ext.drew (Ext.refl wf));obtain⟨st2,wg,run4,mg,gg⟩:=hMf.entry zcA underlying235 zcB (zcI (x:=fx) hi hnum.1 hnum.2);have run3:=(hMf.look zcA underlying235 zcB (zcI (x:=fx) hi hnum.1 hnum.2)).1;rw[zbQ hnew,Option.getD_none]at run3;rw[zbQ hnew,Option.getD_none]at run4 mg;have run3b:=(mg.map.look zcA underlying235 zcB (zcI (x:=fx) hi hnum.1 hnum.2)).1;rw[zdN,Option.getD_some]at run3b;obtain⟨wh,run5,mh,gh⟩:=mg.store (P:=prog) (t:=235) zcA.inj (zcI (x:=fx) hi hnum.1 hnum.2) (.int .i64 1);rw[ziY,zet hnew,<-zoz P i ⟨fn,fx,fk,fr,fp,fo⟩]at mh;have hall:=(((((HOd.out.ext (Ext.drew (Ext.refl wd))).trans ge).trans gf).ext (Ext.drew (Ext.refl wf))).trans gg).trans gh;have Hmh:=zsz mh;have Hall:=zsz hall;unfold zdV at run0 run1 run3 run4 run0b run3b;simp only at run0 run1 run3 run4 run0b run3b;have f0:wf.cell? ⟨b2,0,none⟩=some (.int .i64 i):=Bf.cell 0;have f1:wf.cell? ⟨b2,1,none⟩=some (.string ⟨#[]⟩):=Bf.cell 1;have f2:wf.cell? ⟨b2,2,none⟩=some (.int .i64 fx):=Bf.cell 2;have fl:=Bf.lt;have H7:ofB n ⟨fn,fx,fk,fr,fp,fo⟩=false:=h7;unfold ofB at h7;simp only at h7;clear mh hall mf hMf mg hnew me hMd ge gf gg gh h6 Bf B B1 B2 X H7 HP Hst Hsu
       have ways:(((fk:Int)==17)=true/\(fk !=17)=false/\decide (fo<0)=false/\decide ((n:Int)<=fo)=false)\/(((fk:Int)==17)=false/\(fk !=17)=true/\(fo !=0)=false):=by
        rcases hk:((fk:Int)==17)with _|_
        . have:(fk !=17)=true:=by simp only[bne,hk];rfl
          rw[hk,this]at h7;simp only[Bool.false_and,Bool.true_and,Bool.false_or]at h7;exact .inr ⟨rfl,this,h7⟩
        . have:(fk !=17)=false:=by simp only[bne,hk];rfl
          rw[hk,this]at h7;simp only[Bool.false_and,Bool.true_and,Bool.or_false,Bool.or_eq_false_iff]at h7;exact .inl ⟨rfl,this,h7.1,h7.2⟩
       clear h7;have hw1:IntKind.i64.wrap 1=1:=by decide
       rcases ways with⟨k1,k2,k3,k4⟩|⟨k1,k2,k3⟩
       all_goals
        go_wp2
        go_region_law (fail)
        all_goals
         go_wp2
         go_region_law (fail)
         all_goals
          go_wp2
          go_ret
          exact⟨rfl,Hall.out,Hmh.out⟩
     . obtain rfl:W=11:=by rw[HV.out,h6,h7];rfl
       unfold ofB at h7;simp only at h7
       have ways:(((fk:Int)==17)=true/\(decide (fo<0)=true\/decide (fo<0)=false/\decide ((n:Int)<=fo)=true))\/(((fk:Int)==17)=false/\(fk !=17)=true/\(fo !=0)=true):=by
        rcases hk:((fk:Int)==17)with _|_
        . have:(fk !=17)=true:=by simp only[bne,hk];rfl
          rw[hk,this]at h7;simp only[Bool.false_and,Bool.true_and,Bool.false_or]at h7;exact .inr ⟨rfl,this,h7⟩
        . have:(fk !=17)=false:=by simp only[bne,hk];rfl
          rw[hk,this]at h7;simp only[Bool.false_and,Bool.true_and,Bool.or_false]at h7;refine .inl ⟨rfl,?_⟩;rcases h8:decide (fo<0)with _|_
          . rw[h8,Bool.false_or]at h7;exact .inr ⟨rfl,h7⟩
          . exact .inl rfl
       clear h7 h6;rcases ways with⟨k1,k3|⟨k3,k4⟩⟩|⟨k1,k2,k3⟩
       all_goals
        go_wp2
        go_ret
        exact⟨rfl,HOd.out,fun h=>by omega⟩
   . obtain rfl:W=10:=by rw[HV.out,h6];rfl
     clear h6
     go_wp2
     go_ret
     exact⟨rfl,HOd.out,fun h=>by omega⟩
def codeC(W:Nat):Nat:=if W=0 then 0 else 9
theorem zrt:codeC 0=0:=rfl
variable{W:Nat}
theorem zku(h:W≠0):codeC W=9:=if_neg h
def okS(s:ByteArray):Prop:=s.size<=maxLen
def encS(s:ByteArray):Value:=.string s
theorem zhP:KeyB prog 9 encS okS:=zkM underlying9
def zgA(L:List MsgD):List (ByteArray×Value):=L.map fun m=>(m.name,.int .i64 1)
theorem znO(L:List MsgD)(s:ByteArray):((L.any fun g=>decide (g.name=s))=true/\getV s (zgA L)=some (.int .i64 1))\/((L.any fun g=>decide (g.name=s))=false/\∀q∈zgA L,q.1≠s):=by
 induction L with
 |nil=>exact .inr ⟨rfl,fun q hq=>by simp[zgA]at hq⟩
 |cons m L ih=>
  have he:zgA (m::L)=(m.name,.int .i64 1)::zgA L:=rfl;by_cases h:m.name=s
  . refine .inl ⟨by simp[h],?_⟩
    rw[he];unfold getV;rw[if_pos h]
  . rw[List.any_cons,decide_eq_false h,Bool.false_or,he]
    rcases ih with⟨a,b⟩|⟨a,b⟩
    . refine .inl ⟨a,?_⟩
      unfold getV;rw[if_neg h];exact b
    . refine .inr ⟨a,fun q hq=> ?_⟩
      rcases List.mem_cons.1 hq with rfl|hq
      . exact h
      . exact b q hq
theorem MapV.madeAt(w:World)(enc:K->Value)(ok:K->Prop)(hb:b=w.heap.size):MapV (w.alloc (.map #[] 0)) b enc ok []:=by subst hb;exact MapV.made w enc ok
theorem MapV.other{enc:K->Value}{ok:K->Prop}{M:List (K×Value)}(h:MapV w b2 enc ok M)(g:w.grownBy w' (some b))(hne:b2≠b):MapV w' b2 enc ok M:=
 h.same (g.block b2 h.lt (fun e=>hne (by injection e)))
theorem zkv{S:List MsgD}{n:Nat}:∀(i:Nat)(L:List MsgD),(∀m∈L,∀(k:Nat) f,m.fields[k]?=some f->zbf n (m.fields.take k) f=0)->∀p∈zcg i L,okF p.2
 |_,[],_,p,h=>by simp[zcg]at h
 |i,m::L,hm,p,h=>by
  unfold zcg at h;rcases List.mem_append.1 h with h|h
  . obtain⟨f,hf,rfl⟩:=List.mem_map.1 h
    obtain⟨k,hk⟩:=List.getElem?_of_mem hf;exact zjR (hm m (.head _) k f hk)
  . exact zkv (S:=S) (n:=n) (i+1) L (fun m' hm'=>hm m' (.tail _ hm')) p h
theorem zkw(h:l[k]?=some f)(h0:zbf n (l.take k) f=0):zdc n l k=none:=by unfold zdc;simp only[h];rw[if_pos h0]
theorem znP(h:l[k]?=some f)(h0:zdc n l k=none):zbf n (l.take k) f=0:=by
 unfold zdc at h0;simp only[h]at h0;by_cases e:zbf n (l.take k) f=0
 . exact e
 . rw[if_neg e]at h0;cases h0
variable{a:Int}{S:List MsgV}
theorem zqL{b:Int}(hs:zag w A n c S)(h:zcM (S.map MsgV.d)=(a,b,W)):
 Calls prog 125 #[.slice A n c] w fun e w'=>e=.returned (.tuple #[.agg #[.int .i64 a,.int .i64 b,.int .i64 (W:Int)],.int .u8 (codeC W:Nat)])/\Ext w w':=by
 have hmax:=Reads.max hs.1;have hcap:=Reads.cap hs.1;unfold maxLen at hmax;have hlen:=hs.length;have hl0:(S.map MsgV.d).length=n:=by rw[List.length_map,hlen]
 by_cases hc:n=0\/100<n
 . have hv:zcM (S.map MsgV.d)=(-1, -1,1):=by unfold zcM;rw[hl0,if_pos hc]
   rw[hv]at h;simp only[Prod.mk.injEq]at h;obtain⟨rfl,rfl,rfl⟩:=h;have hcd:codeC 1=9:=rfl;rw[hcd];clear hv hcd hlen hl0;rcases hc with hc|hc
   . subst hc
     go_enter func125,ntmps125
     go_wp2
     exact bodyPost_ret (v:=.tuple #[.agg #[.int .i64 (-1),.int .i64 (-1),.int .i64 1],.int .u8 9]) (by simp[results,results125,go_sem]) rfl ⟨rfl,xx⟩
   . have h1:¬(n:Int)<1:=by omega
     go_enter func125,ntmps125
     go_wp2
     exact bodyPost_ret (v:=.tuple #[.agg #[.int .i64 (-1),.int .i64 (-1),.int .i64 1],.int .u8 9]) (by simp[results,results125,go_sem]) rfl ⟨rfl,xx⟩
 . have hn1:¬(n:Int)<1:=by omega
   have hn2:¬(100:Int)<n:=by omega
   obtain⟨L,hL⟩:∃L,L=S.map MsgV.d:=⟨_,rfl⟩
   rw[<-hL]at h hl0
   have hmsg:∀k:Nat,k<n->∃m:MsgV,S[k]?=some m/\L[k]?=some m.d:=fun k hk=>by
    have h1:S[k]?=some (S[k]'(by omega)):=List.getElem?_eq_getElem (by omega);refine⟨_,h1,?_⟩;simp only[hL,List.getElem?_map,h1,Option.map_some]
   have hc':¬(L.length=0\/100<L.length):=by rw[hl0];exact hc
   have hbad:=fun{i:Nat}{k:Int}{x:Nat}(hi:i<n) hb hf=>zfW (S:=L) (i:=i) (k:=k) (w:=x) hc' (by rw[hl0];exact hi) hb hf
   have hok:=fun hb=>zho (S:=L) hc' hb
   rw[hl0]at hok;have Hv:=zsz h;have HL:=zsz hL;have Hl0:=zsz hl0;have Hlen:=zsz hlen;have Hmsg:=zsz hmsg;have Hbad:Hid (∀(i:Nat)(k:Int)(x:Nat),i<n->(∀j,j<i->msgF L j=none)->msgF L i=some (k,x)->zcM L=((i:Int),k,x)):=fun i k x h1 h2 h3=>hbad h1 h2 h3
   have Hok:=zsz hok;obtain⟨C,hC⟩:∃C,codeC W=C:=⟨_,rfl⟩
   rw[hC];have HC:=zsz hC;clear h hL hl0 hlen hmsg hc' hbad hok hc hC
   go_enter func125,ntmps125
   have hmm:= @run_makeMap prog
   go_wp2
   go_loopw [25] (fun i wr=>∃k:Nat,k<=n/\i=.int .i64 k/\Hid (∀j,j<k->msgF L j=none)/\MapV wr (w.heap.size+1) encS okS (zgA (L.take k))/\MapV wr (w.heap.size+2) zdV okMet (metM (zcg 0 (L.take k)))/\
    BlkT wr w.heap.size 208 #[.int .i64 0,.int .i64 0,.int .i64 0]/\Ext w wr) (fun i _=>n - (intOf i).toNat)
   case atStart=>
    refine⟨0,Nat.zero_le _,rfl,fun j h=>absurd h (Nat.not_lt_zero j),?_,?_,?_,xx⟩
    . exact(MapV.madeAt (w.alloc _) encS okS (by simp)).up (Ext.alloc (Ext.refl _) _)
    . exact MapV.madeAt ((w.alloc _).alloc _) zdV okMet (by simp)
    . exact((BlkT.new w _ _ rfl).alloc _).alloc _
   case round=>
    obtain⟨k,hk,rfl,hF,hN,hM,hR,hE⟩:=hrel;have Rl:=hR.lt;by_cases hlt:k<n
    . have hlt2:(k:Int)<n:=by omega
      obtain⟨m,hm,hm0⟩:=Hmsg.out k hlt;obtain⟨bs,off,m',rfl,hm',hmf,hms,hb,c0,c1⟩:=(hs.up hE).msg hlt;rw[hm]at hm';cases hm';obtain⟨⟨mn,mfs⟩,mA,mnn,mc⟩:=m;simp only at c0 c1 hm0 hmf hms;have hml:=hmf.length;have hmm2:=Reads.cap hmf.1;have hmm3:=Reads.max hmf.1;unfold maxLen at hmm3;have Hm0:=zsz hm0;have Hm:=zsz hm;have HN:=zsz hN;have HM:=zsz hM;have HR:=zsz hR;have Hml:=zsz hml;have X0:Ext wr (wr.alloc (.cells #[.string mn,.slice mA mnn mc] 77)):=xx;have B0:=BlkT.new wr 77 #[.string mn,.slice mA mnn mc] rfl;rcases h1:nameB mn with _|_
      . have hv:=Hbad.out k (-1) 2 hlt hF (zhp hm0 h1)
        rw[Hv.out]at hv;simp only[Prod.mk.injEq]at hv;obtain⟨rfl,rfl,rfl⟩:=hv;have H1:=zsz h1;have r0:=hR.cell 0;have r1:=hR.cell 1;have r2:=hR.cell 2;have y0:=hR.free 0;have y1:=hR.free 1;have y2:=hR.free 2;clear h1 hm hm0 hN hM hR hml;obtain rfl:C=9:=by rw[<-HC.out];rfl
        go_wp2_with (go_at_call 144;refine(zeR hms _).mono ?_;rintro e w1 ⟨rfl,rfl⟩;rw[H1.out])
        exact bodyPost_ret (v:=.tuple #[.agg #[.int .i64 (k),.int .i64 (-1),.int .i64 (2)],.int .u8 9]) (by simp[results,results125,go_sem, *]) rfl ⟨rfl,xy⟩
      . have H1:=zsz h1
        have hNx:=hN.up X0;rcases znO (L.take k) mn with⟨h2,hg⟩|⟨h2,hg⟩
        . have hv:=Hbad.out k (-1) 3 hlt hF (ziu hm0 h1 h2)
          rw[Hv.out]at hv;simp only[Prod.mk.injEq]at hv;obtain⟨rfl,rfl,rfl⟩:=hv;obtain rfl:C=9:=by rw[<-HC.out];rfl
          have hlk:=(hNx.look zhP underlying234 zcB (x:=mn) (by unfold okS maxLen;omega)).1;rw[hg,Option.getD_some]at hlk;unfold encS at hlk;have r0:=hR.cell 0;have r1:=hR.cell 1;have r2:=hR.cell 2;have y0:=hR.free 0;have y1:=hR.free 1;have y2:=hR.free 2;clear h1 h2 hg hm hm0 hN hM hR hml hNx
          go_wp2_with (go_at_call 144;refine(zeR hms _).mono ?_;rintro e w1 ⟨rfl,rfl⟩;rw[H1.out])
          exact bodyPost_ret (v:=.tuple #[.agg #[.int .i64 (k),.int .i64 (-1),.int .i64 (3)],.int .u8 9]) (by simp[results,results125,go_sem, *]) rfl ⟨rfl,xy⟩
        . have hlk:=(hNx.look zhP underlying234 zcB (x:=mn) (by unfold okS maxLen;omega)).1
          rw[zbQ hg,Option.getD_none]at hlk;unfold encS at hlk;by_cases h3:(200:Int)<mnn
          . have hv:=Hbad.out k (-1) 4 hlt hF (zjS hm0 h1 h2 (by simp only;omega))
            rw[Hv.out]at hv;simp only[Prod.mk.injEq]at hv;obtain⟨rfl,rfl,rfl⟩:=hv;obtain rfl:C=9:=by rw[<-HC.out];rfl
            have r0:=hR.cell 0;have r1:=hR.cell 1;have r2:=hR.cell 2;have y0:=hR.free 0;have y1:=hR.free 1;have y2:=hR.free 2;clear h1 h2 hg hm hm0 hN hM hR hml hNx
            go_wp2_with (go_at_call 144;refine(zeR hms _).mono ?_;rintro e w1 ⟨rfl,rfl⟩;rw[H1.out])
            exact bodyPost_ret (v:=.tuple #[.agg #[.int .i64 (k),.int .i64 (-1),.int .i64 (4)],.int .u8 9]) (by simp[results,results125,go_sem, *]) rfl ⟨rfl,xy⟩
          . obtain⟨wu,run1,hNu,gu⟩:=hNx.put zhP underlying234 (x:=mn) (by unfold okS maxLen;omega) (.int .i64 1)
            rw[zet hg]at hNu;have hne:w.heap.size+2≠w.heap.size+1:=by omega
            have hMu:=(hM.up X0).other gu hne;have hRu:=(hR.up X0).grown gu (by omega);have hBu:=B0.grown gu (by have:=hN.lt;omega);have hEu:Ext w wu:=Ext.into (hE.trans X0) gu (by omega);unfold encS at run1;have HNu:=zsz hNu;have HMu:=zsz hMu;have HRu:=zsz hRu;have Hh2:=zsz h2;have Hh1:=zsz h1;have q0:wu.cell? ⟨wr.heap.size,0,none⟩=some (.string mn):=hBu.cell 0;have q1:wu.cell? ⟨wr.heap.size,1,none⟩=some (.slice mA mnn mc):=hBu.cell 1;have ql:=hBu.lt;clear h1 h2 hg hm hm0 hN hM hR hml hNx hNu hMu hRu hBu gu
            go_wp2_with (go_at_call 144;refine(zeR hms _).mono ?_;rintro e w1 ⟨rfl,rfl⟩;rw[H1.out])
            have htk:(L.take k).length=k:=by rw[List.length_take,Hl0.out];omega
            have hPk:∀p∈zcg 0 (L.take k),okF p.2:=zkv (S:=L) (n:=L.length) 0 (L.take k) (fun m' hm' k' f' hf'=>by
             obtain⟨j,hj⟩:=List.getElem?_of_mem hm';have hjk:j<k:=by have:=(List.getElem?_eq_some_iff.1 hj).1;omega
             rw[List.getElem?_take_of_lt hjk]at hj
             exact(zmk hj (hF.out j hjk)).2.2.2 k' f' hf')
            have Htk:=zsz htk;have HPk:=zsz hPk;clear htk hPk
            go_loopw [59] (fun i wq=>∃q:Nat,q<=mnn/\i=.int .i64 q/\Hid (∀j,j<q->zdc L.length mfs j=none)/\Hid (MapV wq (w.heap.size+1) encS okS (zgA (L.take k)++[(mn,.int .i64 1)]))/\
             Hid (MapV wq (w.heap.size+2) zdV okMet (metM (zcg 0 (L.take k)++(mfs.take q).map fun f=>(k,f))))/\Hid (BlkT wq w.heap.size 208 #[.int .i64 0,.int .i64 0,.int .i64 0])/\Ext w wq) (fun i _=>mnn - (intOf i).toNat)
            case atStart=>exact⟨0,Nat.zero_le _,rfl,fun j h=>absurd h (Nat.not_lt_zero j),HNu,by show Hid _;simpa using HMu,HRu,hEu⟩
            case round=>
             obtain⟨q,hq,rfl,hFq,hNq,hMq,hRq,hEq⟩:=hrel
             rename World=>wq
             have Rlq:=hRq.out.lt;have Mlq:=hMq.out.lt;by_cases hltq:q<mnn
             . have hltq2:(q:Int)<mnn:=by omega
               obtain⟨bf,of',f,rfl,hf,hfo,hbf,d0,d1,d2,d3,d4,d5⟩:=((hs.up hEq).2 ⟨⟨mn,mfs⟩,mA,mnn,mc⟩ (List.mem_of_getElem? Hm.out)).1.field hltq;simp only at hf
               have hPq:∀p∈zcg 0 (L.take k)++(mfs.take q).map fun f=>(k,f),okF p.2:=by
                intro p hp;rcases List.mem_append.1 hp with hp|hp
                . exact HPk.out p hp
                . obtain⟨g,hg,rfl⟩:=List.mem_map.1 hp
                  obtain⟨j,hj⟩:=List.getElem?_of_mem hg;have hjq:j<q:=by have:=(List.getElem?_eq_some_iff.1 hj).1;rw[List.length_take]at this;omega
                  rw[List.getElem?_take_of_lt hjq]at hj;exact zjR (znP hj (hFq.out j hjq))
               have hta:∀p:zab->Bool,((zcg 0 (L.take k)++(mfs.take q).map fun f=>(k,f)).any fun x=>decide (x.1=k)&&p x.2)=(mfs.take q).any p:=fun p=>by
                have:=znl (S:=L.take k) (l:=mfs.take q) (q:=p);rw[Htk.out]at this;exact this
               have hta1:=hta fun g=>decide (g.name=f.name)
               have hta2:=hta fun g=>decide (g.number=f.number)
               have htq:=zaC mfs q f hf;obtain⟨W0,hW0⟩:∃W0,zbf n (mfs.take q) f=W0:=⟨_,rfl⟩
               have hcall:=fun(wz:World)(h:Ext wq wz)=>zsi (A:=some ⟨bs,off,none⟩) (c:=c) (i:=k) (b:=w.heap.size+2) (before:=mfs.take q) (w:=wz) (by omega:n<=100) hfo (by omega) (hMq.out.up h) hPq hta1 hta2
               rw[hW0]at hcall;obtain⟨fn,fx,fk,fr,fp,fo⟩:=f;simp only at d0 d1 d2 d3 d4 d5;unfold zaq at hcall;simp only at hcall;have Hcall:=zsz hcall;have HW0:=zsz hW0;have Hf:=zsz hf;have Htq:=zsz htq;clear hcall hW0 hf htq hta hta1 hta2 hPq hfo;have armE:Hid True:=trivial;by_cases h0:W0=0
               . subst h0
                 go_wp2_with (go_at_call 145;refine(Hcall.out _ xx).mono ?_;rintro e w3 ⟨rfl,O3,M3⟩;have E3:Ext w w3:=O3.toExt (hEq.trans xx) (by omega);have R3:=zsz ((hRq.out.up xx).grown O3 (by omega));have N3:=zsz ((hNq.out.up xx).other O3 (by omega));have HM3:=zsz (M3 rfl);clear M3 O3)
                 go_roundw
                 case rel=>
                  refine⟨q+1,by omega,by go_num,fun j hj=> ?_,N3,?_,R3,E3⟩
                  . by_cases e:j=q
                    . subst e;exact zkw Hf.out (by rw[Hl0.out];exact HW0.out)
                    . exact hFq.out j (by omega)
                  . show MapV _ _ _ _ _
                    rw[Htq.out,List.map_append,<-List.append_assoc];exact HM3.out
                 case measure=>simp[intOf];omega
               . have hq0:((W0:Int) !=0)=true:=by rw[bne_iff_ne];omega
                 have hv:=Hbad.out k q W0 hlt hF (ziv Hm0.out Hh1.out Hh2.out (by rw[Hml.out];omega) Hf.out hFq.out (by rw[Hl0.out];exact HW0.out) h0);rw[Hv.out]at hv;simp only[Prod.mk.injEq]at hv;obtain⟨rfl,rfl,rfl⟩:=hv;obtain rfl:C=9:=by rw[<-HC.out];exact zku h0
                 clear h0
                 go_wp2_with (go_at_call 145;refine(Hcall.out _ xx).mono ?_;rintro e w3 ⟨rfl,O3,_⟩;have E3:Ext w w3:=O3.toExt (hEq.trans xx) (by omega);have R3:=(hRq.out.up xx).grown O3 (by omega);have r0:=R3.cell 0;have r1:=R3.cell 1;have r2:=R3.cell 2;have y0:=R3.free 0;have y1:=R3.free 1;have y2:=R3.free 2;clear R3)
                 exact bodyPost_ret (v:=.tuple #[.agg #[.int .i64 (k),.int .i64 (q),.int .i64 (W)],.int .u8 9]) (by simp[results,results125,go_sem, *]) rfl ⟨rfl,xy⟩
             . have hqn:q=mnn:=by omega
               subst hqn;have hmo:msgF L k=none:=zlc Hm0.out Hh1.out Hh2.out (by rw[Hml.out];omega) (fun j hj=>hFq.out j (by rw[Hml.out]at hj;exact hj));have Hmo:=zsz hmo;have htL:=zaC L k _ Hm0.out;have HtL:=zsz htL;clear hmo htL
               go_wp2
               go_roundw
               case rel=>
                refine⟨k+1,by omega,by go_num,fun j hj=> ?_,?_,?_,hRq.out,hEq⟩
                . by_cases e:j=k
                  . subst e;exact Hmo.out
                  . exact hF.out j (by omega)
                . rw[HtL.out]
                  have:=hNq.out;unfold zgA at this⊢;rw[List.map_append];exact this
                . rw[HtL.out,zhq,Htk.out]
                  have:=hMq.out;rw[show mfs.take q=mfs from List.take_of_length_le (by rw[Hml.out];exact Nat.le_refl _)]at this;simp only[Nat.zero_add];exact this
               case measure=>simp[intOf];omega
    . have hkn:k=n:=by omega
      subst hkn;have hv:=Hok.out hF;rw[Hv.out]at hv;simp only[Prod.mk.injEq]at hv;obtain⟨rfl,rfl,rfl⟩:=hv;obtain rfl:C=0:=by rw[<-HC.out];rfl
      have r0:=hR.cell 0;have r1:=hR.cell 1;have r2:=hR.cell 2;have y0:=hR.free 0;have y1:=hR.free 1;have y2:=hR.free 2;clear hN hM hR
      go_wp2
      exact bodyPost_ret (v:=.tuple #[.agg #[.int .i64 (0),.int .i64 (0),.int .i64 (0)],.int .u8 0]) (by simp[results,results125,go_sem, *]) rfl ⟨rfl,xy⟩
theorem zmG(hs:zag w A n c S):
 Calls prog 102 #[.slice A n c] w fun e w'=>e=.returned (.bool (zan (S.map MsgV.d)))/\Ext w w':=by
 rcases hv:zcM (S.map MsgV.d)with⟨a,b,W⟩
 have hr:zan (S.map MsgV.d)=decide (W=0):=by unfold zan;rw[hv]
 rw[hr];have Hv:=zsz hv;clear hv hr;by_cases h0:W=0
 . subst h0
   go_enter func102,ntmps102
   go_wp2_with (go_at_call 125;refine(zqL hs Hv.out).mono ?_;rintro e w1 ⟨rfl,E1⟩;rw[zrt])
   go_ret
   exact⟨rfl,xy⟩
 . have hd:decide (W=0)=false:=decide_eq_false h0
   have hc:=zku h0;have Hc:=zsz hc;rw[hd];clear h0 hc hd
   go_enter func102,ntmps102
   go_wp2_with (go_at_call 125;refine(zqL hs Hv.out).mono ?_;rintro e w1 ⟨rfl,E1⟩;rw[Hc.out])
   go_ret
   exact⟨rfl,xy⟩
theorem zjr{α:Type}{p:α->Bool}{l:List α}{x:α}(h:l[k]?=some x):(l.take (k+1)).any p=((l.take k).any p||p x):=by
 rw[zaC l k x h,List.any_append];simp
theorem zsj(h8:ofB n f=false):(((f.kind:Int)==17)=true/\(f.kind !=17)=false/\decide (f.of_<0)=false/\decide ((n:Int)<=f.of_)=false)\/(((f.kind:Int)==17)=false/\(f.kind !=17)=true/\(f.of_ !=0)=false):=by
 unfold ofB at h8;rcases hk:((f.kind:Int)==17)with _|_
 . have:(f.kind !=17)=true:=by simp only[bne,hk];rfl
   rw[hk,this]at h8;simp only[Bool.false_and,Bool.true_and,Bool.false_or]at h8;exact .inr ⟨rfl,this,h8⟩
 . have:(f.kind !=17)=false:=by simp only[bne,hk];rfl
   rw[hk,this]at h8;simp only[Bool.false_and,Bool.true_and,Bool.or_false,Bool.or_eq_false_iff]at h8;exact .inl ⟨rfl,this,h8.1,h8.2⟩
theorem zru(h8:ofB n f=true):(((f.kind:Int)==17)=true/\(decide (f.of_<0)=true\/decide (f.of_<0)=false/\decide ((n:Int)<=f.of_)=true))\/(((f.kind:Int)==17)=false/\(f.kind !=17)=true/\(f.of_ !=0)=true):=by
 unfold ofB at h8;rcases hk:((f.kind:Int)==17)with _|_
 . have:(f.kind !=17)=true:=by simp only[bne,hk];rfl
   rw[hk,this]at h8;simp only[Bool.false_and,Bool.true_and,Bool.false_or]at h8;exact .inr ⟨rfl,this,h8⟩
 . have:(f.kind !=17)=false:=by simp only[bne,hk];rfl
   rw[hk,this]at h8;simp only[Bool.false_and,Bool.true_and,Bool.or_false]at h8;refine .inl ⟨rfl,?_⟩;rcases h9:decide (f.of_<0)with _|_
   . rw[h9,Bool.false_or]at h8;exact .inr ⟨rfl,h8⟩
   . exact .inl rfl
theorem zrv{m:MsgV}(hs:zag w A n c S)(hn:n<=100)(hm:S[i]?=some m)(hf:m.d.fields[k]?=some f):
 Calls prog 122 #[.slice A n c,.int .i64 i,.int .i64 k] w fun e w'=>e=.returned (.int .i64 (zbf n (m.d.fields.take k) f:Nat))/\Ext w w':=by
 have hmax:=Reads.max hs.1;have hcap:=Reads.cap hs.1;unfold maxLen at hmax;have hlen:=hs.length;have hi:i<n:=by have:=(List.getElem?_eq_some_iff.1 hm).1;omega
 obtain⟨bs,off,m',rfl,hm',hmf,hms,hb,c0,c1⟩:=hs.msg hi;rw[hm]at hm';cases hm';obtain⟨⟨mn,mfs⟩,mA,mnn,mc⟩:=m;simp only at c0 c1 hmf hms hf;have hml:=hmf.length;have hmm2:=Reads.cap hmf.1;have hmm3:=Reads.max hmf.1;unfold maxLen at hmm3;have hk:k<mnn:=by have:=(List.getElem?_eq_some_iff.1 hf).1;omega
 obtain⟨bf,of',f',rfl,hf',hfo,hbf,d0,d1,d2,d3,d4,d5⟩:=hmf.field hk;rw[hf]at hf';cases hf';obtain⟨fn,fx,fk,fr,fp,fo⟩:=f;simp only at d0 d1 d2 d3 d4 d5;have hkI:(k:Int)<mnn:=by omega
 have hiI:(i:Int)<n:=by omega
 have hsz:=hfo.name;simp only at hsz;obtain⟨W,hW⟩:∃W,zbf n (mfs.take k) ⟨fn,fx,fk,fr,fp,fo⟩=W:=⟨_,rfl⟩
 rw[hW];have HW:=zsz hW;have Hmf:=zsz hmf;have Hm:=zsz hm;have Hf:=zsz hf;have Hml:=zsz hml;clear hW hm hf hml hlen hfo
 go_enter func122,ntmps122
 go_wp2
 have X0:Ext w (w.alloc (.cells #[.string fn,.int .i64 fx,.int .i64 fk,.bool fr,.bool fp,.int .i64 fo] 43)):=xx;have B0:=BlkT.new w 43 #[.string fn,.int .i64 fx,.int .i64 fk,.bool fr,.bool fp,.int .i64 fo] rfl;generalize w.alloc (.cells #[.string fn,.int .i64 fx,.int .i64 fk,.bool fr,.bool fp,.int .i64 fo] 43)=wx at*
 go_loopw [8,9,10] (fun a b j wr=>∃q:Nat,q<=k/\j=.int .i64 q/\a=.bool ((mfs.take q).any fun g=>decide (g.name=fn))/\b=.bool ((mfs.take q).any fun g=>decide (g.number=fx))/\Ext wx wr) (fun _ _ j _=>k - (intOf j).toNat)
 case atStart=>exact⟨0,Nat.zero_le _,rfl,by simp,by simp,Ext.refl _⟩
 case round=>
  obtain⟨q,hq,rfl,rfl,rfl,hE⟩:=hrel;have hEw:=X0.trans hE;have Br:=B0.up hE;by_cases hlt:q<k
  . have hlt2:(q:Int)<k:=by omega
    have hqn:(q:Int)<mnn:=by omega
    obtain⟨bg,og,g,hA,hg,_,hbg,z0,z1,z2,z3,z4,z5⟩:=(Hmf.out.up hEw).field (k:=q) (by omega);cases hA;have ha1:=zjr (p:=fun g=>decide (g.name=fn)) hg;have ha2:=zjr (p:=fun g=>decide (g.number=fx)) hg;have x1:=hEw.of_cell c1;have x0:wr.cell? ⟨w.heap.size,0,none⟩=some (.string fn):=Br.cell 0;have x2:wr.cell? ⟨w.heap.size,1,none⟩=some (.int .i64 fx):=Br.cell 1;have xl:=Br.lt;have hbr:bs<wr.heap.size:=Nat.lt_of_lt_of_le hb hEw.size;obtain⟨gn,gx,gk,gr,gp,go⟩:=g;simp only at z0 z1 ha1 ha2;have Ha1:=zsz ha1;have Ha2:=zsz ha2;clear ha1 ha2 hg z2 z3 z4 z5;have hsq:∀t:Bool,(t||decide (gn=fn))=(t||(gn.toList==fn.toList)):=fun t=>by rw[ziO]
    have hnq:∀t:Bool,(t||decide (gx=fx))=(t||(gx==fx)):=fun t=>by rw[show(gx==fx)=decide (gx=fx)from rfl]
    have Hsq:=zsz hsq;have Hnq:=zsz hnq;clear hsq hnq;rcases ha:(mfs.take q).any fun g=>decide (g.name=fn)with _|_
    all_goals rcases hb2:(mfs.take q).any fun g=>decide (g.number=fx)with _|_
    all_goals
     have Ha:=zsz ha;have Hb2:=zsz hb2;clear ha hb2
     go_wp2
     go_quiet (fail)
     go_wp2
     go_quiet (fail)
     go_wp2
     go_roundw
     case rel=>exact⟨q+1,by omega,by go_num,congrArg Value.bool (by rw[Ha1.out,Hsq.out,Ha.out];simp),congrArg Value.bool (by rw[Ha2.out,Hnq.out,Hb2.out];simp),xy⟩
     case measure=>simp[intOf];omega
  . have hqk:q=k:=by omega
    subst hqk;have x0:wr.cell? ⟨w.heap.size,0,none⟩=some (.string fn):=Br.cell 0;have x1:wr.cell? ⟨w.heap.size,1,none⟩=some (.int .i64 fx):=Br.cell 1;have x2:wr.cell? ⟨w.heap.size,2,none⟩=some (.int .i64 fk):=Br.cell 2;have x3:wr.cell? ⟨w.heap.size,3,none⟩=some (.bool fr):=Br.cell 3;have x4:wr.cell? ⟨w.heap.size,4,none⟩=some (.bool fp):=Br.cell 4;have x5:wr.cell? ⟨w.heap.size,5,none⟩=some (.int .i64 fo):=Br.cell 5;have xl:=Br.lt;rcases h1:nameB fn with _|_
    . obtain rfl:W=5:=by rw[<-HW.out];simp[zbf,h1]
      have H1:=zsz h1;clear h1
      go_wp2_with (go_at_call 98;refine(zep hsz _).mono ?_;rintro e w1 ⟨rfl,rfl⟩;rw[H1.out])
      go_ret
      exact⟨rfl,hEw⟩
    rcases h2:(mfs.take q).any (fun g=>decide (g.name=fn))with _|_
    . rcases h3:zcs fx with _|_
      . obtain rfl:W=7:=by rw[<-HW.out];simp[zbf,h1,h2,h3]
        have H1:=zsz h1;have hu:fx<1\/1<=fx/\536870911<fx\/1<=fx/\fx<=536870911/\19000<=fx/\fx<20000:=by unfold zcs at h3;simp at h3;omega
        clear h1 h2 h3;rcases hu with hu|⟨hu1,hu2⟩|⟨hu1,hu2,hu3,hu4⟩
        all_goals
         go_wp2_with (go_at_call 98;refine(zep hsz _).mono ?_;rintro e w1 ⟨rfl,rfl⟩;rw[H1.out])
         go_ret
         exact⟨rfl,hEw⟩
      . have hu:1<=fx/\fx<=536870911/\(fx<19000\/19000<=fx/\20000<=fx):=by unfold zcs at h3;simp at h3;omega
        rcases h4:(mfs.take q).any (fun g=>decide (g.number=fx))with _|_
        . have hv:W=if kindB fk=false then 9 else if(fp&& !(fr&&zaf fk))=true then 10 else if ofB n ⟨fn,fx,fk,fr,fp,fo⟩=true then 11 else 0:=by rw[<-HW.out];simp[zbf,h1,h2,h3,h4]
          have H1:=zsz h1;have HV:=zsz hv;clear h1 h2 h3 h4 hv;obtain⟨hu1,hu2,hu3⟩:=hu;have hu4:fx<19000\/20000<=fx:=by omega
          clear hu3;rcases h5:kindB fk with _|_
          . obtain rfl:W=9:=by rw[HV.out,h5];rfl
            have H5:=zsz h5;have H6:Hid (zaf fk=zaf fk):=rfl;clear h5;rcases hu4 with hu4|hu4
            all_goals
             go_wp2_with (first|(go_at_call 98;refine(zep hsz _).mono ?_;rintro e w1 ⟨rfl,rfl⟩;rw[H1.out])|(go_at_call 85;refine(zjp _ _).mono ?_;rintro e w1 ⟨rfl,rfl⟩;rw[H5.out])|(go_at_call 14;refine(zbz _ _).mono ?_;rintro e w1 ⟨rfl,rfl⟩;rw[H6.out]))
             go_ret
             exact⟨rfl,hEw⟩
          . have H5:=zsz h5
            have hv2:W=if(fp&& !(fr&&zaf fk))=true then 10 else if ofB n ⟨fn,fx,fk,fr,fp,fo⟩=true then 11 else 0:=by rw[HV.out,h5];rfl
            have HV2:=zsz hv2;clear h5 hv2;rcases hu4 with hu4|hu4
            all_goals
             go_upto_region 18 with(first|(go_at_call 98;refine(zep hsz _).mono ?_;rintro e w1 ⟨rfl,rfl⟩;rw[H1.out])|(go_at_call 85;refine(zjp _ _).mono ?_;rintro e w1 ⟨rfl,rfl⟩;rw[H5.out]))
             go_cut [93] (fun t wz=>t=.bool (fp&& !(fr&&zaf fk))/\wr=wz)
             case first=>
              rcases fp with _|_
              . go_wp2
                go_meet
                exact⟨rfl,rfl⟩
              . rcases fr with _|_
                . go_wp2
                  go_meet
                  exact⟨rfl,rfl⟩
                . go_wp2_with (go_at_call 14;refine(zbz _ _).mono ?_;rintro e w1 ⟨rfl,rfl⟩)
                  go_meet
                  exact⟨by simp,rfl⟩
             case rest=>
              obtain⟨rfl,rfl⟩:=hcut;rcases h7:(fp&& !(fr&&zaf fk))with _|_
              . rcases h8:ofB n ⟨fn,fx,fk,fr,fp,fo⟩with _|_
                . obtain rfl:W=0:=by rw[HV2.out,h7,h8];rfl
                  have ways:=zsj h8;simp only at ways;clear h7 h8;rcases ways with⟨k1,k2,k3,k4⟩|⟨k1,k2,k3⟩
                  all_goals
                   go_wp2
                   go_ret
                   exact⟨rfl,hEw⟩
                . obtain rfl:W=11:=by rw[HV2.out,h7,h8];rfl
                  have ways:=zru h8;simp only at ways;clear h7 h8;rcases ways with⟨k1,k3|⟨k3,k4⟩⟩|⟨k1,k2,k3⟩
                  all_goals
                   go_wp2
                   go_ret
                   exact⟨rfl,hEw⟩
              . obtain rfl:W=10:=by rw[HV2.out,h7];rfl
                clear h7
                go_wp2
                go_ret
                exact⟨rfl,hEw⟩
        . obtain rfl:W=8:=by rw[<-HW.out];simp[zbf,h1,h2,h3,h4]
          have H1:=zsz h1;clear h1 h2 h3 h4;obtain⟨hu1,hu2,hu3|⟨hu3,hu4⟩⟩:=hu
          all_goals
           go_wp2_with (go_at_call 98;refine(zep hsz _).mono ?_;rintro e w1 ⟨rfl,rfl⟩;rw[H1.out])
           go_ret
           exact⟨rfl,hEw⟩
    . obtain rfl:W=6:=by rw[<-HW.out];simp[zbf,h1,h2]
      have H1:=zsz h1;clear h1 h2
      go_wp2_with (go_at_call 98;refine(zep hsz _).mono ?_;rintro e w1 ⟨rfl,rfl⟩;rw[H1.out])
      go_ret
      exact⟨rfl,hEw⟩
theorem zpq{b:Int}(hs:zag w A n c S)(h:zcM (S.map MsgV.d)=(a,b,W)):
 Calls prog 97 #[.slice A n c] w fun e w'=>e=.returned (.tuple #[.int .i64 a,.int .i64 b,.int .i64 (W:Int)])/\Ext w w':=by
 have hmax:=Reads.max hs.1;have hcap:=Reads.cap hs.1;unfold maxLen at hmax;have hlen:=hs.length;have hl0:(S.map MsgV.d).length=n:=by rw[List.length_map,hlen]
 by_cases hc:n=0\/100<n
 . have hv:zcM (S.map MsgV.d)=(-1, -1,1):=by unfold zcM;rw[hl0,if_pos hc]
   rw[hv]at h;simp only[Prod.mk.injEq]at h;obtain⟨rfl,rfl,rfl⟩:=h;clear hv hlen hl0;rcases hc with hc|hc
   . subst hc
     go_enter func97,ntmps97
     go_wp2
     go_ret3
     exact⟨rfl,Ext.refl _⟩
   . have h1:((n:Int)==0)=false:=by rw[beq_eq_false_iff_ne];omega
     go_enter func97,ntmps97
     go_wp2
     go_ret3
     exact⟨rfl,Ext.refl _⟩
 . have hn1:((n:Int)==0)=false:=by rw[beq_eq_false_iff_ne];omega
   have hn2:¬(100:Int)<n:=by omega
   have hn3:n<=100:=by omega
   obtain⟨L,hL⟩:∃L,L=S.map MsgV.d:=⟨_,rfl⟩
   rw[<-hL]at h hl0
   have hmsg:∀k:Nat,k<n->∃m:MsgV,S[k]?=some m/\L[k]?=some m.d:=fun k hk=>by
    have h1:S[k]?=some (S[k]'(by omega)):=List.getElem?_eq_getElem (by omega);refine⟨_,h1,?_⟩;simp only[hL,List.getElem?_map,h1,Option.map_some]
   have hc':¬(L.length=0\/100<L.length):=by rw[hl0];exact hc
   have hbad:=fun{i:Nat}{k:Int}{x:Nat}(hi:i<n) hb hf=>zfW (S:=L) (i:=i) (k:=k) (w:=x) hc' (by rw[hl0];exact hi) hb hf
   have hok:=fun hb=>zho (S:=L) hc' hb
   rw[hl0]at hok;have Hv:=zsz h;have Hl0:=zsz hl0;have Hmsg:=zsz hmsg;have Hbad:Hid (∀(i:Nat)(k:Int)(x:Nat),i<n->(∀j,j<i->msgF L j=none)->msgF L i=some (k,x)->zcM L=((i:Int),k,x)):=fun i k x h1 h2 h3=>hbad h1 h2 h3
   have Hok:=zsz hok;clear h hL hl0 hlen hmsg hc' hbad hok hc
   go_enter func97,ntmps97
   go_wp2
   go_loopw [5] (fun i wr=>∃k:Nat,k<=n/\i=.int .i64 k/\Hid (∀j,j<k->msgF L j=none)/\Ext w wr) (fun i _=>n - (intOf i).toNat)
   case atStart=>exact⟨0,Nat.zero_le _,rfl,fun j h=>absurd h (Nat.not_lt_zero j),Ext.refl _⟩
   case round=>
    obtain⟨k,hk,rfl,hF,hE⟩:=hrel;by_cases hlt:k<n
    . have hlt2:(k:Int)<n:=by omega
      obtain⟨m,hm,hm0⟩:=Hmsg.out k hlt;obtain⟨bs,off,m',rfl,hm',hmf,hms,hb,c0,c1⟩:=(hs.up hE).msg hlt;rw[hm]at hm';cases hm';obtain⟨⟨mn,mfs⟩,mA,mnn,mc⟩:=m;simp only at c0 c1 hm0 hmf hms;have hml:=hmf.length;have hmm2:=Reads.cap hmf.1;have hmm3:=Reads.max hmf.1;unfold maxLen at hmm3;have Hm0:=zsz hm0;have Hm:=zsz hm;have Hml:=zsz hml;clear hm0 hm hml
      go_wp2
      go_loopw [6,7] (fun u i wq=>∃q:Nat,q<=k/\i=.int .i64 q/\u=.bool ((L.take q).any fun g=>decide (g.name=mn))/\Ext wr wq) (fun _ i _=>k - (intOf i).toNat)
      case atStart=>exact⟨0,Nat.zero_le _,rfl,by simp,Ext.refl _⟩
      case round=>
       obtain⟨q,hq,rfl,rfl,hEq⟩:=hrel
       rename World=>wq
       by_cases hltq:q<k
       . have hltq2:(q:Int)<k:=by omega
         have hqn:(q:Int)<n:=by omega
         obtain⟨g,hg,hg0⟩:=Hmsg.out q (by omega);obtain⟨bs',off',g',hA,hg',_,_,hb',z0,_⟩:=((hs.up hE).up hEq).msg (k:=q) (by omega);cases hA;rw[hg]at hg';cases hg';obtain⟨⟨gn,gfs⟩,gA,gnn,gc⟩:=g;simp only at z0 hg0;have x0:=hEq.of_cell c0;have ha1:=zjr (p:=fun g=>decide (g.name=mn)) hg0;simp only at ha1;have hsq:∀t:Bool,(t||decide (gn=mn))=(t||(gn.toList==mn.toList)):=fun t=>by rw[ziO]
         have Ha1:=zsz ha1;have Hsq:=zsz hsq;clear ha1 hsq hg hg0;rcases ha:(L.take q).any fun g=>decide (g.name=mn)with _|_
         all_goals
          have Ha:=zsz ha;clear ha
          go_wp2
          go_quiet (fail)
          go_wp2
          go_roundw
          case rel=>exact⟨q+1,by omega,by go_num,congrArg Value.bool (by rw[Ha1.out,Hsq.out,Ha.out];simp),xy⟩
          case measure=>simp[intOf];omega
       . have hqk:q=k:=by omega
         subst hqk;have x0:=hEq.of_cell c0;have x1:=hEq.of_cell c1;have hbq:bs<wq.heap.size:=Nat.lt_of_lt_of_le hb hEq.size;have hE2:=hE.trans hEq;rcases h1:nameB mn with _|_
         . have hv:=Hbad.out q (-1) 2 hlt hF (zhp Hm0.out h1)
           rw[Hv.out]at hv;simp only[Prod.mk.injEq]at hv;obtain⟨rfl,rfl,rfl⟩:=hv;have H1:=zsz h1;clear h1
           go_wp2_with (go_at_call 98;refine(zep hms _).mono ?_;rintro e w1 ⟨rfl,rfl⟩;rw[H1.out])
           go_ret3
           exact⟨rfl,hE2⟩
         have H1:=zsz h1;rcases h2:(L.take q).any (fun g=>decide (g.name=mn))with _|_
         . by_cases h3:(200:Int)<mnn
           . have hv:=Hbad.out q (-1) 4 hlt hF (zjS Hm0.out h1 h2 (by have:=Hml.out;simp only;omega))
             rw[Hv.out]at hv;simp only[Prod.mk.injEq]at hv;obtain⟨rfl,rfl,rfl⟩:=hv;clear h1 h2
             go_wp2_with (go_at_call 98;refine(zep hms _).mono ?_;rintro e w1 ⟨rfl,rfl⟩;rw[H1.out])
             go_ret3
             exact⟨rfl,hE2⟩
           . have H2:=zsz h2
             clear h1 h2
             go_wp2_with (go_at_call 98;refine(zep hms _).mono ?_;rintro e w1 ⟨rfl,rfl⟩;rw[H1.out])
             go_loopw [8] (fun i wz=>∃z:Nat,z<=mnn/\i=.int .i64 z/\Hid (∀j,j<z->zdc L.length mfs j=none)/\Ext wq wz) (fun i _=>mnn - (intOf i).toNat)
             case atStart=>exact⟨0,Nat.zero_le _,rfl,fun j h=>absurd h (Nat.not_lt_zero j),Ext.refl _⟩
             case round=>
              obtain⟨z,hz,rfl,hFz,hEz⟩:=hrel
              rename World=>wz
              have y1:=hEz.of_cell x1;have hbz:bs<wz.heap.size:=Nat.lt_of_lt_of_le hbq hEz.size;have hE3:=hE2.trans hEz;by_cases hltz:z<mnn
              . have hltz2:(z:Int)<mnn:=by omega
                obtain⟨f,hf⟩:∃f,mfs[z]?=some f:=⟨_,List.getElem?_eq_getElem (by rw[Hml.out];exact hltz)⟩
                obtain⟨W0,hW0⟩:∃W0,zbf n (mfs.take z) f=W0:=⟨_,rfl⟩
                have hcall:=zrv (hs.up hE3) hn3 Hm.out (k:=z) hf;simp only at hcall;rw[hW0]at hcall;have Hcall:=zsz hcall;have HW0:=zsz hW0;have Hf:=zsz hf;clear hcall hW0 hf;by_cases h0:W0=0
                . subst h0
                  go_wp2_with (go_at_call 122;refine Hcall.out.mono ?_;rintro e w3 ⟨rfl,E3⟩)
                  go_roundw
                  case rel=>
                   refine⟨z+1,by omega,by go_num,fun j hj=> ?_,hEz.trans E3⟩;by_cases e:j=z
                   . subst e;exact zkw Hf.out (by rw[Hl0.out];exact HW0.out)
                   . exact hFz.out j (by omega)
                  case measure=>simp[intOf];omega
                . have hq0:(0:Int)<W0:=by omega
                  have hv:=Hbad.out q z W0 hlt hF (ziv Hm0.out H1.out H2.out (by rw[Hml.out];omega) Hf.out hFz.out (by rw[Hl0.out];exact HW0.out) h0);rw[Hv.out]at hv;simp only[Prod.mk.injEq]at hv;obtain⟨rfl,rfl,rfl⟩:=hv;clear h0
                  go_wp2_with (go_at_call 122;refine Hcall.out.mono ?_;rintro e w3 ⟨rfl,E3⟩)
                  go_ret3
                  exact⟨rfl,hE3.trans E3⟩
              . have hzn:z=mnn:=by omega
                subst hzn;have hmo:msgF L q=none:=zlc Hm0.out H1.out H2.out (by rw[Hml.out];omega) (fun j hj=>hFz.out j (by rw[Hml.out]at hj;exact hj));have Hmo:=zsz hmo;clear hmo
                go_wp2
                go_roundw
                case rel=>
                 refine⟨q+1,by omega,by go_num,fun j hj=> ?_,hE3⟩;by_cases e:j=q
                 . subst e;exact Hmo.out
                 . exact hF.out j (by omega)
                case measure=>simp[intOf];omega
         . have hv:=Hbad.out q (-1) 3 hlt hF (ziu Hm0.out h1 h2)
           rw[Hv.out]at hv;simp only[Prod.mk.injEq]at hv;obtain⟨rfl,rfl,rfl⟩:=hv;clear h1 h2
           go_wp2_with (go_at_call 98;refine(zep hms _).mono ?_;rintro e w1 ⟨rfl,rfl⟩;rw[H1.out])
           go_ret3
           exact⟨rfl,hE2⟩
    . have hkn:k=n:=by omega
      subst hkn;have hv:=Hok.out hF;rw[Hv.out]at hv;simp only[Prod.mk.injEq]at hv;obtain⟨rfl,rfl,rfl⟩:=hv
      go_wp2
      go_ret3
      exact⟨rfl,hE⟩
theorem zlA(hs:zag w A n c S):
 Calls prog 61 #[.slice A n c] w fun e w'=>e=.returned (.bool (zan (S.map MsgV.d)))/\Ext w w':=by
 rcases hv:zcM (S.map MsgV.d)with⟨a,b,W⟩
 have hr:zan (S.map MsgV.d)=decide (W=0):=by unfold zan;rw[hv]
 rw[hr];have Hv:=zsz hv;clear hv hr;by_cases h0:W=0
 . subst h0
   go_enter func61,ntmps61
   go_wp2_with (go_at_call 97;refine(zpq hs Hv.out).mono ?_;rintro e w1 ⟨rfl,E1⟩)
   go_ret
   exact⟨rfl,E1⟩
 . have hd:decide (W=0)=false:=decide_eq_false h0
   have hq:((W:Int)==0)=false:=by rw[beq_eq_false_iff_ne];omega
   rw[hd];clear h0 hd
   go_enter func61,ntmps61
   go_wp2_with (go_at_call 97;refine(zpq hs Hv.out).mono ?_;rintro e w1 ⟨rfl,E1⟩)
   go_ret
   exact⟨rfl,E1⟩
end Go.Proofs.YtpicpebolghcfaaGreatDoor
namespace Go.Proofs.YtpicpebolghcfaaGreatDoor
open Go.RowKit Go.Shelf Tryz
def zdj(s:ByteArray)(f:zab):Bool:=decide (f.name=s)
variable{w:World}{s:ByteArray}{b:Nat}{f:zab}
theorem zqr(hc:w.cell? ⟨b,0,none⟩=some (.string s)):
 Calls prog 147 #[zaq f,.pointer (some ⟨b,0,none⟩)] w fun e w'=>e=.returned (.bool (zdj s f))/\Ext w w':=by
 have hb:=World.block_lt_of_cell? w _ hc;simp only at hb;unfold zaq
 go_enter func147,ntmps147
 go_wp2
 go_ret
 exact⟨zam (by unfold zdj;rw[ziO]),xx⟩
variable{x:Int}
theorem znQ(hc:w.cell? ⟨b,0,none⟩=some (.int .i64 x)):
 Calls prog 131 #[zaq f,.pointer (some ⟨b,0,none⟩)] w fun e w'=>e=.returned (.bool (f.number==x))/\Ext w w':=by
 have hb:=World.block_lt_of_cell? w _ hc;simp only at hb;unfold zaq
 go_enter func131,ntmps131
 go_wp2
 go_ret
 exact⟨rfl,xx⟩
variable{I:Int}{l:List zab}{n c:Nat}{A:Option Addr}
theorem sBy{g:FuncId}{lb:Array Value}{p:zab->Bool}(eg:∀args w,(callFunc g args).run prog w=.ok (.enter g args) w)(hb:zav w A n c l)(hn:n<=1000000000000)(hp:∀(W:World)(f:zab),f.Ok->Ext w W->Calls prog g (#[zaq f]++lb) W fun e W'=>e=.returned (.bool (p f))/\Ext W W')(h:idxB p l=I):
 Calls prog 130 #[.agg #[.string s,.slice A n c],.func (.func g) #[] lb] w fun e w'=>e=.returned (.tuple #[.int .i64 (max I 0),.bool (decide (0<=I))])/\Ext w w':=by
 have H:=zsz h;have Hp:=zsz hp;have hmx:=fun ts t w=>zjB (P:=prog) ts t .i64 .i64 I 0 w
 clear h hp
 go_enter func130,ntmps130
 go_wp2_with fail
 refine(zmF (p:=p) eg (hb.up xx) hn (fun W f hf hE=>Hp.out W f hf (Ext.trans xx hE))).mono ?_;rintro e w1 ⟨rfl,E1⟩;rw[H.out]
 go_wp2
 go_ret2
 exact⟨rfl,Ext.trans xx E1⟩
theorem zhQ(hb:zav w A n c l)(hn:n<=1000000000000)(h:idxB (fun f=>f.number==x) l=I):
 Calls prog 107 #[.agg #[.string s,.slice A n c],.int .i64 x] w fun e w'=>e=.returned (.tuple #[.int .i64 (max I 0),.bool (decide (0<=I))])/\Ext w w':=by
 have eg:∀args w,(callFunc 131 args).run prog w=.ok (.enter 131 args) w:=enters_of func131 (by kernel_rfl) rfl;have H:=zsz h;clear h
 go_enter func107,ntmps107
 go_wp2_with fail
 have B:=Ext.new_blk (Ext.refl ((w.alloc (.cells #[.string s,.slice A n c] 77)).alloc (.cells #[.int .i64 x] 3)));refine(sBy (p:=fun f=>f.number==x) eg (hb.up xx) hn ?_ H.out).mono ?_
 . intro W f hf hE
   have c0:W.cell? ⟨w.heap.size+1,0,none⟩=some (.int .i64 x):=by have:=hE.of_cell (B.cell 0);simpa using this
   exact znQ c0
 . rintro e w1 ⟨rfl,E1⟩
   go_wp2
   go_ret2
   exact⟨rfl,Ext.trans xx E1⟩
theorem zpr{t:ByteArray}(hb:zav w A n c l)(hn:n<=1000000000000)(h:idxB (zdj t) l=I):
 Calls prog 128 #[.agg #[.string s,.slice A n c],.string t] w fun e w'=>e=.returned (.tuple #[.int .i64 (max I 0),.bool (decide (0<=I))])/\Ext w w':=by
 have eg:∀args w,(callFunc 147 args).run prog w=.ok (.enter 147 args) w:=enters_of func147 (by kernel_rfl) rfl;have H:=zsz h;clear h
 go_enter func128,ntmps128
 go_wp2_with fail
 have B:=Ext.new_blk (Ext.refl ((w.alloc (.cells #[.string s,.slice A n c] 77)).alloc (.cells #[.string t] 9)));refine(sBy (p:=zdj t) eg (hb.up xx) hn ?_ H.out).mono ?_
 . intro W f hf hE
   have c0:W.cell? ⟨w.heap.size+1,0,none⟩=some (.string t):=by have:=hE.of_cell (B.cell 0);simpa using this
   exact zqr c0
 . rintro e w1 ⟨rfl,E1⟩
   go_wp2
   go_ret2
   exact⟨rfl,Ext.trans xx E1⟩
end Go.Proofs.YtpicpebolghcfaaGreatDoor
