/- The walk of the law SchemaChecks, out of its callees' contracts. -/
import Derived.Test.YtpicpebolghcfaaGreatDoorQlW109

set_option linter.unusedVariables false
set_option linter.unusedSimpArgs false
set_option maxRecDepth 100000
set_option maxHeartbeats 4000000
namespace Go.Proofs.YtpicpebolghcfaaGreatDoor
open Go.RowKit Tryz
def zqg(w:World)(e:Ending)(w':World):Prop:=∃b:Bool,e=.returned (.bool b)/\Ext w w'
theorem few07{A:Option Addr}{n c:Nat}{S:List MsgV}{w:World}(hs:zag w A n c S):
 Calls prog 7 #[.slice A n c] w (zqg w):=by
 have hmax:=Reads.max hs.1;have hcap:=Reads.cap hs.1;unfold maxLen at hmax
 go_enter func7,ntmps7
 go_wp2
 go_loopw [3,4] (fun u i wr=>∃(k:Nat)(x:Int),k<=n/\i=.int .i64 k/\u=.int .i64 x/\Ext w wr) (fun _ i _=>n - (intOf i).toNat)
 case atStart=>exact⟨0,0,Nat.zero_le _,rfl,rfl,Ext.refl _⟩
 case round=>
  obtain⟨k,x,hk,rfl,rfl,hE⟩:=hrel;by_cases hlt:k<n
  . have hlt2:(k:Int)<n:=by omega
    obtain⟨bs,off,m,rfl,hm,hmf,hms,hb,c0,c1⟩:=(hs.up hE).msg hlt;obtain⟨⟨mn,mfs⟩,mA,mnn,mc⟩:=m;simp only at c0 c1 hmf hms;have hmm2:=Reads.cap hmf.1;have hmm3:=Reads.max hmf.1;unfold maxLen at hmm3;clear hm
    go_wp2
    go_quiet (fail)
    go_wp2
    obtain⟨wo,hwo⟩:∃wo:World,wo=wr:=⟨_,rfl⟩
    have hEo:Ext w wo:=by rw[hwo];exact hE
    have hmo:zav wo mA mnn mc mfs:=by rw[hwo];exact hmf
    have x0:wo.cell? ⟨bs,off+k*2+1,none⟩=some (.slice mA mnn mc):=by rw[hwo];exact c1
    have hbo:bs<wo.heap.size:=by rw[hwo];exact hb
    subst hwo
    go_loopw [3,5] (fun u i wq=>∃(q:Nat)(y:Int),q<=mnn/\i=.int .i64 q/\u=.int .i64 y/\Ext wo wq) (fun _ i _=>mnn - (intOf i).toNat)
    case atStart=>exact⟨0,_,Nat.zero_le _,rfl,rfl,xx⟩
    case round=>
     obtain⟨q,y,hq,rfl,rfl,hEq⟩:=hrel
     rename World=>wq
     have y0:=hEq.of_cell x0;have hbq:bs<wq.heap.size:=Nat.lt_of_lt_of_le hbo hEq.size;by_cases hltq:q<mnn
     . have hltq2:(q:Int)<mnn:=by omega
       obtain⟨bf,of',f,rfl,hf,hfo,hbf,d0,d1,d2,d3,d4,d5⟩:=(hmo.up hEq).field hltq;obtain⟨fn,fx,fk,fr,fp,fo⟩:=f;simp only at d0;clear d1 d2 d3 d4 d5 hf hfo
       go_wp2
       go_roundw
       case rel=>exact⟨q+1,_,by omega,by go_num,rfl,hEq⟩
       case measure=>simp[intOf];omega
     . have hqn:q=mnn:=by omega
       subst hqn
       go_wp2
       go_roundw
       case rel=>exact⟨k+1,_,by omega,by go_num,rfl,hEo.trans hEq⟩
       case measure=>simp[intOf];omega
  . have hkn:k=n:=by omega
    subst hkn
    go_wp2
    go_ret
    exact⟨_,rfl,hE⟩
end Go.Proofs.YtpicpebolghcfaaGreatDoor
namespace Go.Proofs.YtpicpebolghcfaaGreatDoor
open Go.RowKit Go.Shelf Tryz
section
variable {A B:Option Addr} {n c m k:Nat} {S:List MsgV} {root d:Int} {p:ByteArray} {bs:List UInt8} {w:World}
theorem znx(ha:∀w:World,Calls prog 6 #[] w fun e w'=>e=.returned (.bool true)/\Ext w w')(hs:zag w A n c S)(hb:zac w B m k bs)(hm:1500<m)(hp:p.size<=maxLen):
 Calls prog 5 #[.slice A n c,.int .i64 root,.slice B m k,.int .i64 d,.string p] w fun e w'=>e=.returned (.bool true)/\Ext w w':=by
 have Ha:=zsz ha;clear ha;have hc:=Reads.cap hb;have hm2:(1500:Int)<m:=by omega
 go_enter func5,ntmps5
 go_upto_region 3 with(go_at_call 6;refine(Ha.out _).mono ?_;rintro x w1 ⟨rfl,E1⟩)
 have hs1:=hs.up E1
 go_wp2_with (go_at_call 7;refine(few07 hs1).mono ?_;rintro y w2 ⟨x,rfl,E2⟩;clear hs1;rcases x with _|_)
 all_goals
  go_ret
  exact⟨rfl,E1.trans E2⟩
theorem zoV(ha:∀w:World,Calls prog 6 #[] w fun e w'=>e=.returned (.bool true)/\Ext w w')(hs:zag w A n c S)(hb:zac w B m k bs)(hm:m<=1500)(hp:p.size<=maxLen)(hp2:5000<p.size):
 Calls prog 5 #[.slice A n c,.int .i64 root,.slice B m k,.int .i64 d,.string p] w fun e w'=>e=.returned (.bool true)/\Ext w w':=by
 have Ha:=zsz ha;clear ha;have hc:=Reads.cap hb;have hp3:(5000:Int)<(p.size:Int):=by omega
 go_enter func5,ntmps5
 go_upto_region 3 with(go_at_call 6;refine(Ha.out _).mono ?_;rintro x w1 ⟨rfl,E1⟩)
 have hs1:=hs.up E1
 go_wp2_with (go_at_call 7;refine(few07 hs1).mono ?_;rintro y w2 ⟨x,rfl,E2⟩;clear hs1;rcases x with _|_)
 all_goals
  go_ret
  exact⟨rfl,E1.trans E2⟩
theorem zmw(ha:∀w:World,Calls prog 6 #[] w fun e w'=>e=.returned (.bool true)/\Ext w w')(hs:zag w A n c S)(hb:zac w B m k bs)(hm:m<=1500)(hp:p.size<=5000){K:Nat}(h0:K≠0)(hK:K<256)(hG:∀W,zag W A n c S->zac W B m k bs->Calls prog 16 #[.slice A n c,.int .i64 root,.slice B m k,.int .i64 d,.string p] W fun e W'=>∃A' c',e=.returned (.tuple #[.slice A' 0 c',.int .u8 (K:Int)])/\Ext W W'):
 Calls prog 5 #[.slice A n c,.int .i64 root,.slice B m k,.int .i64 d,.string p] w fun e w'=>e=.returned (.bool true)/\Ext w w':=by
 have Ha:=zsz ha;have HG:=zsz hG;have q:((K:Int) !=0)=true:=by rw[bne_iff_ne];omega
 have q2:((K:Int)==0)=false:=by rw[beq_eq_false_iff_ne];omega
 clear ha hG h0;have hc:=Reads.cap hb
 go_enter func5,ntmps5
 go_upto_region 3 with(go_at_call 6;refine(Ha.out _).mono ?_;rintro x w1 ⟨rfl,E1⟩)
 go_cut [36] (fun t wz=>∃b,t=.bool b/\Ext w1 wz)
 case first=>
  have hs1:=hs.up E1
  go_wp2_with (go_at_call 7;refine(few07 hs1).mono ?_;rintro y w2 ⟨x,rfl,E2⟩;clear hs1)
  all_goals
   go_meet
   exact⟨_,rfl,E2⟩
 case rest=>
  obtain⟨b,rfl,Xc⟩:=hcut;have X1:=E1.trans Xc;rcases b with _|_
  case true=>
   go_wp2
   go_ret
   exact⟨rfl,X1⟩
  case false=>
   have hsc:=hs.up X1;have hbc:=hb.up X1
   go_wp2_with (go_at_call 16;refine(HG.out _ hsc hbc).mono ?_;rintro y w3 ⟨A3,c3,rfl,E3⟩)
   go_ret
   exact⟨rfl,X1.trans E3⟩
theorem zrj(ha:∀w:World,Calls prog 6 #[] w fun e w'=>e=.returned (.bool true)/\Ext w w')(hs:zag w A n c S)(hb:zac w B m k bs)(hm:m<=1500)(hp:p.size<=5000){wl vn:Nat}{way:List Int}{F:zab}{X:MsgT}{Z:ValT}{vs cs:List UInt8}{x:Int}(hsub:IntKind.i64.wrap (d - (wl:Int))=x)(hG:∀W,zag W A n c S->zac W B m k bs->Calls prog 16 #[.slice A n c,.int .i64 root,.slice B m k,.int .i64 d,.string p] W fun e W'=>∃A' c',e=.returned (.tuple #[.slice A' vn c',.int .u8 0])/\zac W' A' vn c' vs/\Ext W W')(hR:∀W,zag W A n c S->zac W B m k bs->Calls prog 10 #[.slice A n c,.int .i64 root,.slice B m k,.int .i64 d,.string p] W fun e W'=>∃A' c',e=.returned (.tuple #[.slice A' wl c',.int .i64 0])/\Reads W' A' wl c' 1 (way.map wyV)/\Ext W W')(hO:∀W,zag W A n c S->zac W B m k bs->Calls prog 11 #[.slice A n c,.int .i64 root,.slice B m k] W fun e W'=>∃y:MsgR,e=.returned (.agg #[.slice y.a.1 y.vals.length y.a.2,.slice y.b.1 y.unk.length y.b.2])/\bare y=X/\zay W' y/\Ext W W')(hL:∀W A' c',zag W A n c S->Reads W A' wl c' 1 (way.map wyV)->Calls prog 12 #[.slice A n c,.int .i64 root,.slice A' wl c'] W fun e W'=>e=.returned (.tuple #[zaq F,.bool true])/\Ext W W')(hA:∀W (y:MsgR) A' c',zay W y->bare y=X->Reads W A' wl c' 1 (way.map wyV)->Calls prog 13 #[.agg #[.slice y.a.1 y.vals.length y.a.2,.slice y.b.1 y.unk.length y.b.2],.slice A' wl c'] W fun e W'=>∃v:ValR,e=.returned (.tuple #[.agg #[.int .i64 v.number,.slice v.a.1 v.words.length v.a.2,.slice v.b.1 v.texts.length v.b.2,.slice v.c.1 v.subs.length v.c.2],.bool true])/\ValAt W' v/\bareV v=Z/\Ext W W')(hC:∀W V kv,zag W A n c S->zac W V vn kv vs->Calls prog 25 #[.slice A n c,zaq F,.slice V vn kv,.int .i64 (max 0 x)] W fun e W'=>e=.returned (.int .i64 0)/\Ext W W')(hV:∀W V kv,zag W A n c S->zac W V vn kv vs->Calls prog 27 #[.slice A n c,zaq F,.slice V vn kv,.int .i64 (max 0 x)] W fun e W'=>∃v:ValR,e=.returned (.agg #[.int .i64 v.number,.slice v.a.1 v.words.length v.a.2,.slice v.b.1 v.texts.length v.b.2,.slice v.c.1 v.subs.length v.c.2])/\bareV v=Z/\ValAt W' v/\Ext W W')(hE:∀W (v u:ValR),ValAt W v->ValAt W u->bareV v=bareV u->Calls prog 26 #[.agg #[.int .i64 v.number,.slice v.a.1 v.words.length v.a.2,.slice v.b.1 v.texts.length v.b.2,.slice v.c.1 v.subs.length v.c.2],.agg #[.int .i64 u.number,.slice u.a.1 u.words.length u.a.2,.slice u.b.1 u.texts.length u.b.2,.slice u.c.1 u.subs.length u.c.2]] W fun e W'=>e=.returned (.bool true)/\Ext W W')(hS:∀W V kv,zag W A n c S->zac W B m k bs->zac W V vn kv vs->Calls prog 28 #[.slice A n c,.int .i64 root,.slice B m k,.int .i64 d,.string p,.slice V vn kv] W fun e W'=>∃A' n' c',e=.returned (.tuple #[.slice A' n' c',.int .u8 0])/\zac W' A' n' c' cs/\Ext W W')(hO2:∀W V n' c',zag W A n c S->zac W V n' c' cs->Calls prog 11 #[.slice A n c,.int .i64 root,.slice V n' c'] W fun e W'=>∃y:MsgR,e=.returned (.agg #[.slice y.a.1 y.vals.length y.a.2,.slice y.b.1 y.unk.length y.b.2])/\bare y=X/\zay W' y/\Ext W W')(hM:∀W (y z:MsgR),zay W y->zay W z->bare y=bare z->Calls prog 29 #[.agg #[.slice y.a.1 y.vals.length y.a.2,.slice y.b.1 y.unk.length y.b.2],.agg #[.slice z.a.1 z.vals.length z.a.2,.slice z.b.1 z.unk.length z.b.2]] W fun e W'=>e=.returned (.bool true)/\Ext W W'):
 Calls prog 5 #[.slice A n c,.int .i64 root,.slice B m k,.int .i64 d,.string p] w fun e w'=>e=.returned (.bool true)/\Ext w w':=by
 have Ha:=zsz ha;have HG:=zsz hG;have HR:=zsz hR;have HO:=zsz hO;have HL:=zsz hL;have HA:=zsz hA;have HC:=zsz hC;have HV:=zsz hV;have HE:=zsz hE;have HS:=zsz hS;have HO2:=zsz hO2;have HM:=zsz hM;have Hsub:=zsz hsub;clear ha hG hR hO hL hA hC hV hE hS hO2 hM hsub;have hc:=Reads.cap hb;obtain⟨fname,fnum,fkind,frep,fpk,fof⟩:=F;unfold zaq at*;simp only at*
 go_enter func5,ntmps5
 go_upto_region 3 with(go_at_call 6;refine(Ha.out _).mono ?_;rintro x w1 ⟨rfl,E1⟩)
 go_cut [36] (fun t wz=>∃b,t=.bool b/\Ext w1 wz)
 case first=>
  have hs1:=hs.up E1
  go_wp2_with (go_at_call 7;refine(few07 hs1).mono ?_;rintro y w2 ⟨x,rfl,E2⟩;clear hs1)
  all_goals
   go_meet
   exact⟨_,rfl,E2⟩
 case rest=>
  obtain⟨b,rfl,Xc⟩:=hcut;have X1:=E1.trans Xc;rcases b with _|_
  case true=>
   go_wp2
   go_ret
   exact⟨rfl,X1⟩
  case false=>
   have hsc:=hs.up X1;have hbc:=hb.up X1
   go_upto_region 12 with(first
    |(go_at_call 16;refine(HG.out _ hsc hbc).mono ?_;rintro y w3 ⟨A3,c3,rfl,hw3,E3⟩;replace hsc:=hsc.up E3;replace hbc:=hbc.up E3;have X3:=X1.trans E3)
    |(go_at_call 10;refine(HR.out _ hsc hbc).mono ?_;rintro y w6 ⟨A6,c6,rfl,hw6,E6⟩;replace hsc:=hsc.up E6;replace hbc:=hbc.up E6;replace hw3:=hw3.up E6;have X6:=X3.trans E6)
    |(go_at_call 11;refine(HO.out _ hsc hbc).mono ?_;rintro z w7 ⟨y,rfl,hby,hty,E7⟩;replace hsc:=hsc.up E7;replace hbc:=hbc.up E7;replace hw3:=hw3.up E7;replace hw6:=hw6.ext E7;have X7:=X6.trans E7))
   have BY:=BlkT.new w7 40 #[.slice y.a.1 y.vals.length y.a.2,.slice y.b.1 y.unk.length y.b.2] rfl;have X8:Ext w7 (w7.alloc (.cells #[.slice y.a.1 y.vals.length y.a.2,.slice y.b.1 y.unk.length y.b.2] 40)):=(Ext.refl w7).alloc _;clear X1 X3 X6 Xc E1 E3 E6 E7 HG HR HO Ha;generalize w7.alloc (.cells #[.slice y.a.1 y.vals.length y.a.2,.slice y.b.1 y.unk.length y.b.2] 40)=w8 at*;replace hsc:=hsc.up X8;replace hbc:=hbc.up X8;replace hw3:=hw3.up X8;replace hw6:=hw6.ext X8;replace hty:=hty.up X8;have x0:w8.cell? ⟨w7.heap.size,0,none⟩=some (.slice y.a.1 y.vals.length y.a.2):=BY.cell 0;have x1:w8.cell? ⟨w7.heap.size,1,none⟩=some (.slice y.b.1 y.unk.length y.b.2):=BY.cell 1;have xl:=BY.lt;replace X8:=X7.trans X8;clear BY X7
   go_upto_region 13 with(go_at_call 12;refine(HL.out _ _ _ hsc hw6).mono ?_;rintro z w9 ⟨rfl,E9⟩)
   have BF:=BlkT.new w9 43 #[.string fname,.int .i64 fnum,.int .i64 fkind,.bool frep,.bool fpk,.int .i64 fof] rfl;have X10:Ext w9 (w9.alloc (.cells #[.string fname,.int .i64 fnum,.int .i64 fkind,.bool frep,.bool fpk,.int .i64 fof] 43)):=(Ext.refl w9).alloc _;generalize w9.alloc (.cells #[.string fname,.int .i64 fnum,.int .i64 fkind,.bool frep,.bool fpk,.int .i64 fof] 43)=w10 at*;have c0:w10.cell? ⟨w9.heap.size,0,none⟩=some (.string fname):=BF.cell 0;have c1:w10.cell? ⟨w9.heap.size,1,none⟩=some (.int .i64 fnum):=BF.cell 1;have c2:w10.cell? ⟨w9.heap.size,2,none⟩=some (.int .i64 fkind):=BF.cell 2;have c3:w10.cell? ⟨w9.heap.size,3,none⟩=some (.bool frep):=BF.cell 3;have c4:w10.cell? ⟨w9.heap.size,4,none⟩=some (.bool fpk):=BF.cell 4;have c5:w10.cell? ⟨w9.heap.size,5,none⟩=some (.int .i64 fof):=BF.cell 5;have cl:=BF.lt;replace X10:=E9.trans X10;replace hsc:=hsc.up X10;replace hbc:=hbc.up X10;replace hw3:=hw3.up X10;replace hw6:=hw6.ext X10;replace hty:=hty.up X10;replace x0:=X10.of_cell x0;replace x1:=X10.of_cell x1;replace xl:=Nat.lt_of_lt_of_le xl X10.size;replace X10:=X8.trans X10;clear BF X8 E9 HL
   go_upto_region 14 with(go_at_call 13;refine(HA.out _ _ _ _ hty hby hw6).mono ?_;rintro z w11 ⟨v,rfl,hva,hvz,E11⟩)
   have BV:=BlkT.new w11 48 #[.int .i64 v.number,.slice v.a.1 v.words.length v.a.2,.slice v.b.1 v.texts.length v.b.2,.slice v.c.1 v.subs.length v.c.2] rfl;have X12:Ext w11 (w11.alloc (.cells #[.int .i64 v.number,.slice v.a.1 v.words.length v.a.2,.slice v.b.1 v.texts.length v.b.2,.slice v.c.1 v.subs.length v.c.2] 48)):=(Ext.refl w11).alloc _;generalize w11.alloc (.cells #[.int .i64 v.number,.slice v.a.1 v.words.length v.a.2,.slice v.b.1 v.texts.length v.b.2,.slice v.c.1 v.subs.length v.c.2] 48)=w12 at*;have v0:w12.cell? ⟨w11.heap.size,0,none⟩=some (.int .i64 v.number):=BV.cell 0;have v1:w12.cell? ⟨w11.heap.size,1,none⟩=some (.slice v.a.1 v.words.length v.a.2):=BV.cell 1;have v2:w12.cell? ⟨w11.heap.size,2,none⟩=some (.slice v.b.1 v.texts.length v.b.2):=BV.cell 2;have v3:w12.cell? ⟨w11.heap.size,3,none⟩=some (.slice v.c.1 v.subs.length v.c.2):=BV.cell 3;replace hva:=hva.up X12;replace X12:=E11.trans X12;replace hsc:=hsc.up X12;replace hbc:=hbc.up X12;replace hw3:=hw3.up X12;replace hty:=hty.up X12;replace x0:=X12.of_cell x0;replace x1:=X12.of_cell x1;replace c0:=X12.of_cell c0;replace c1:=X12.of_cell c1;replace c2:=X12.of_cell c2;replace c3:=X12.of_cell c3;replace c4:=X12.of_cell c4;replace c5:=X12.of_cell c5;replace X12:=X10.trans X12;clear BV X10 E11 hw6 HA cl xl;refine calmP (fun _ _ _ hd h=>⟨hd,h.2⟩) (zrX (PV:=fun v W=>bareV v=Z/\ValAt W v) (u:=v) Hsub.out c0 c1 c2 c3 c4 c5 v0 v1 v2 v3 (fun W E=>HC.out W _ _ (hsc.up E) (hw3.up E)) (fun W E=>(HV.out W _ _ (hsc.up E) (hw3.up E)).mono ?_) (fun W y' E hp=>HE.out W y' v hp.2 (hva.up E) (hp.1.trans hvz.symm)) ?_)
   . rintro e w' ⟨v',h1,h2,h3,h4⟩
     exact⟨v',h1,⟨h2,h3⟩,h4⟩
   . intro s80 s81 s82 s83 s84 s85 s86 s87 s88 s89 s90 s91 s92 s93 s94 s95 s96 s97 s98 s99 s100 s101 s102 s103 s104 s105 s106 s107 w14 hs107 E14
     subst hs107;replace hsc:=hsc.up E14;replace hbc:=hbc.up E14;replace hw3:=hw3.up E14;replace hty:=hty.up E14;replace x0:=E14.of_cell x0;replace x1:=E14.of_cell x1;replace X12:=X12.trans E14;clear c0 c1 c2 c3 c4 c5 v0 v1 v2 v3 E14 hva HC HV HE
     go_upto_region 17 with(go_at_call 28;refine(HS.out _ _ _ hsc hbc hw3).mono ?_;rintro z w16 ⟨A16,n16,c16,rfl,hw16,E16⟩)
     replace hsc:=hsc.up E16;replace hty:=hty.up E16;replace x0:=E16.of_cell x0;replace x1:=E16.of_cell x1;replace X12:=X12.trans E16;refine calmP (fun _ _ _ hd h=>⟨hd,h.2⟩) (zrY (PY:=fun y W=>bare y=X/\zay W y) (z:=y) x0 x1 (fun W E=>(HO2.out W _ _ _ (hsc.up E) (hw16.up E)).mono ?_) (fun W y' E hp=>HM.out W y' y hp.2 (hty.up E) (hp.1.trans hby.symm)) ?_)
     . rintro e w' ⟨y',h1,h2,h3,h4⟩
       exact⟨y',h1,⟨h2,h3⟩,h4⟩
     . intro s10 s118 s119 s120 s121 s122 s123 s124 s125 s126 s127 s128 w18 hs10 E18
       subst hs10
       go_wp2
       go_ret
       exact⟨rfl,X12.trans E18⟩
end
end Go.Proofs.YtpicpebolghcfaaGreatDoor
namespace Go.Proofs.YtpicpebolghcfaaGreatDoor
open Go.RowKit Tryz
structure Trees(w wr:World)(b3:Nat)(A:Option Addr)(old:Nat->Prop)(ys:List MsgR):Prop where
 at_:∀y∈ys,zay wr y
 away:∀y∈ys,∀b,UsesT y b->b≠b3/\(Value.slice A 0 0).ownBlock≠some b
 from_:∀y∈ys,∀b,UsesT y b->old b\/w.heap.size<=b
 size:w.heap.size<=wr.heap.size
section
variable {w wr w':World} {b3:Nat} {A A':Option Addr} {old:Nat->Prop} {ys:List MsgR}
theorem Trees.nil(h:w.heap.size<=wr.heap.size):Trees w wr b3 A old []:=⟨(fun y h=>by cases h),(fun y h=>by cases h),(fun y h=>by cases h),h⟩
theorem Trees.up(h:Trees w wr b3 A old ys)(k:Ext wr w'):Trees w w' b3 A old ys:=⟨fun y hy=>(h.at_ y hy).up k,h.away,h.from_,Nat.le_trans h.size k.size⟩
theorem Trees.lt(h:Trees w wr b3 A old ys):∀y∈ys,∀b,UsesT y b->b<wr.heap.size:=fun y hy b hb=>(h.at_ y hy).lt hb
theorem Trees.snoc(h:Trees w wr b3 A old ys){y:MsgR}(hy:zay wr y)(ha:∀b,UsesT y b->b≠b3/\(Value.slice A 0 0).ownBlock≠some b)(hf:∀b,UsesT y b->old b\/w.heap.size<=b):Trees w wr b3 A old (ys++[y]):=by
 refine⟨fun z hz=> ?_,fun z hz=> ?_,fun z hz=> ?_,h.size⟩
 all_goals
  rcases List.mem_append.1 hz with hz|hz
 . exact h.at_ z hz
 . rw[List.mem_singleton]at hz;subst hz;exact hy
 . exact h.away z hz
 . rw[List.mem_singleton]at hz;subst hz;exact ha
 . exact h.from_ z hz
 . rw[List.mem_singleton]at hz;subst hz;exact hf
theorem Trees.grow(h:Trees w wr b3 A old ys){W:World}(hE:Ext wr W){n c:Nat}(hg:W.grownBy w' (Value.slice A n c).ownBlock)(hm:Moved W A A'):Trees w w' b3 A' old ys:=by
 have hS:Stays (fun b=>(Value.slice A 0 0).ownBlock≠some b) W w':=Stays.grown hg (fun k hk=>by rw[zaV A n c 0 0]at hk;exact fun q=>q hk);refine⟨fun y hy=>((h.at_ y hy).up hE).stays hS (fun b hb=>(h.away y hy b hb).2),fun y hy b hb=>⟨(h.away y hy b hb).1,?_⟩,h.from_,Nat.le_trans h.size (Nat.le_trans hE.size hS.size)⟩;have hlt:=h.lt y hy b hb;have hsz:=hE.size;rcases hm with e|e
 . rw[e];exact(h.away y hy b hb).2
 . rw[e]
   intro q;injection q with q;omega
theorem Trees.store(h:Trees w wr b3 A old ys)(o:Nat)(u:Value):Trees w (wr.setCell ⟨b3,o,none⟩ u) b3 A old ys:=
 ⟨fun y hy=>(h.at_ y hy).stays ((Stays.refl (fun b=>b≠b3) wr).set (fun e=>e rfl) u) (fun b hb=>(h.away y hy b hb).1),h.away,h.from_,by simpa[World.setCell] using h.size⟩
end
theorem BlkT.set_far{w:World}{b:Nat}{t:TypeId}{cs:Array Value}(h:BlkT w b t cs){b':Nat}(o:Nat)(hb:b'≠b)(u:Value):BlkT (w.setCell ⟨b',o,none⟩ u) b t cs:=h.far (p:=⟨b',o,none⟩) (fun e=>hb e.symm) u
theorem zqG:Elem prog 46 40 2 48:=Elem.mk' (z:=.agg #[.slice none 0 0,.slice none 0 0]) underlying46 (by kernel_rfl) rfl (by omega)
theorem zrZ:Elem prog 37 48 4 80:=Elem.mk' (z:=.agg #[.int .i64 0,.slice none 0 0,.slice none 0 0,.slice none 0 0]) underlying37 (by kernel_rfl) rfl (by omega)
theorem zjm:Elem prog 38 9 1 16:=Elem.mk' (z:=.string ⟨#[]⟩) underlying38 (by kernel_rfl) rfl (by omega)
section
variable {w wr w':World} {b3:Nat} {A A':Option Addr} {old:Nat->Prop} {U:Sl} {us:List ByteArray} {ys:List ValR}
end
end Go.Proofs.YtpicpebolghcfaaGreatDoor
