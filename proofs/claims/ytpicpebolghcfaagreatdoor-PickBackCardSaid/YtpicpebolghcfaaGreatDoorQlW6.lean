/- Plain words: the bytes of a view, a text. -/
import Derived.Test.YtpicpebolghcfaaGreatDoorQlS7
import Derived.Test.YtpicpebolghcfaaGreatDoorQlW5

set_option linter.unusedVariables false
set_option maxRecDepth 100000
set_option maxHeartbeats 4000000
namespace Go.Proofs.YtpicpebolghcfaaGreatDoor
open Go.RowKit Tryz
def zak(bs:List UInt8)(v:ViewD):List UInt8:=spanB bs v.r.a v.r.t
def textO(b:List UInt8):ByteArray:=⟨b.toArray⟩
theorem zmD(w:World):Calls prog 92 #[] w fun e w'=>∃b,e=.returned (.map (some b))/\MapI w' b .i64 ziA/\Ext w w':=by
 have hmm:= @run_makeMap prog
 go_enter func92,ntmps92
 have own:=MapI.made w .i64;have hE:=(Ext.refl w).alloc (.map #[] 0);have hb:w.heap.size<=w.heap.size:=Nat.le_refl _
 go_wp2_with ((with_reducible show wpList _ _ _ ({dst:=_,op:=Op.insert _ _ _ _,type:=_,pos:=_,after:=_,guard:=_}::_) _ _);refine ziX rfl _ _ _ rfl underlying160 underlying3 rfl own rfl rfl rfl ?_;intro w1 own1 hg1;replace hE:=hE.put hg1 hb;replace own:=own1;clear own1 hg1)
 go_ret
 exact⟨_,rfl,own,hE⟩
theorem zForm(w:World):(zeroValue 158).run prog w=.ok (formV (⟨#[]⟩,0,0)) w:=by kernel_rfl
theorem zfI{w:World}{b:Nat}(h:MapI w b .i64 ziA)(k:Int){s:ByteArray}{y z:Int}(hf:Hid (zhy k=(s,y,z))):
 (Instr.lookup 160 (.map (some b)) (.int .i64 k) false).run prog w=.ok (.agg #[.string s,.int .i64 y,.int .i64 z]) w/\
 (Instr.lookup 160 (.map (some b)) (.int .i64 k) true).run prog w=.ok (.tuple #[.agg #[.string s,.int .i64 y,.int .i64 z],.bool (kindB k)]) w:=by
 have:=h.look underlying160 underlying3 (zForm w) k;rw[znq,zoD,hf.out]at this;exact this
theorem ziN(s:ByteArray)(y z:Int)(w:World):(Instr.field 158 (.agg #[.string s,.int .i64 y,.int .i64 z]) 2).run prog w=.ok (.int .i64 z) w:=by kernel_rfl
def zdG(k:Int):Int:=if kindB k=true then wireI k else 0
theorem kWire(k:Int)(w:World):
 Calls prog 58 #[.int .i64 k] w fun e w'=>e=.returned (.tuple #[.int .i64 (zdG k),.int .u8 (if kindB k=true then 0 else 2)])/\Ext w w':=by
 rcases hf:zhy k with⟨s,y,z⟩
 have Hf:=zsz hf;clear hf;by_cases hk:1<=k/\k<=17
 . have hB:kindB k=true:=decide_eq_true hk
   have hW:=zlg hk
   have hO:zdG k=y:=by
    have:=Hf.out;unfold zdG;rw[if_pos hB,<-hW,this]
   clear hW;rw[hO,hB];clear hO
   go_enter func58,ntmps58
   go_wp2_with (go_at_call 92;refine(zmD _).mono ?_;rintro e w1 ⟨b,rfl,own,E1⟩;have hl:=(zfI own k Hf).2;rw[hB]at hl;clear own)
   go_ret2
   exact⟨rfl,E1.alloc _⟩
 . have hB:kindB k=false:=decide_eq_false hk
   have hO:zdG k=0:=by
    unfold zdG;rw[hB];rfl
   rw[hO,hB];clear hO
   go_enter func58,ntmps58
   go_wp2_with (go_at_call 92;refine(zmD _).mono ?_;rintro e w1 ⟨b,rfl,own,E1⟩;have hl:=(zfI own k Hf).2;rw[hB]at hl;clear own)
   go_ret2
   exact⟨rfl,E1.alloc _⟩
theorem zpl(k:Int)(w:World):
 Calls prog 152 #[.int .i64 k] w fun e w'=>e=.returned (.bool (kindB k))/\w=w':=by
 by_cases h1:1<=k
 . by_cases h2:k<=17
   . have hB:kindB k=true:=decide_eq_true ⟨h1,h2⟩
     rw[hB];clear hB
     go_enter func152,ntmps152
     go_wp2
     go_ret
     exact⟨zam (by simp),rfl⟩
   . have hB:kindB k=false:=decide_eq_false (by omega)
     rw[hB];clear hB
     go_enter func152,ntmps152
     go_wp2
     go_ret
     exact⟨zam (by simp),rfl⟩
 . have hB:kindB k=false:=decide_eq_false (by omega)
   rw[hB];clear hB
   go_enter func152,ntmps152
   go_wp2
   go_ret
   exact⟨rfl,rfl⟩
theorem zjp(k:Int)(w:World):
 Calls prog 85 #[.int .i64 k] w fun e w'=>e=.returned (.bool (kindB k))/\w=w':=by
 by_cases h1:1<=k
 . by_cases h2:k<=17
   . have hB:kindB k=true:=decide_eq_true ⟨h1,h2⟩
     rw[hB];clear hB
     go_enter func85,ntmps85
     go_wp2
     go_ret
     exact⟨zam (by simp),rfl⟩
   . have hB:kindB k=false:=decide_eq_false (by omega)
     rw[hB];clear hB
     go_enter func85,ntmps85
     go_wp2
     go_ret
     exact⟨zam (by simp),rfl⟩
 . have hB:kindB k=false:=decide_eq_false (by omega)
   rw[hB];clear hB
   go_enter func85,ntmps85
   go_wp2
   go_ret
   exact⟨rfl,rfl⟩
theorem zbz(k:Int)(w:World):
 Calls prog 14 #[.int .i64 k] w fun e w'=>e=.returned (.bool (zaf k))/\w=w':=by
 by_cases h1:1<=k
 . by_cases h2:k<=14
   . have hB:zaf k=true:=decide_eq_true ⟨h1,h2⟩
     rw[hB];clear hB
     go_enter func14,ntmps14
     go_wp2
     go_ret
     exact⟨zam (by simp),rfl⟩
   . have hB:zaf k=false:=decide_eq_false (by omega)
     rw[hB];clear hB
     go_enter func14,ntmps14
     go_wp2
     go_ret
     exact⟨zam (by simp),rfl⟩
 . have hB:zaf k=false:=decide_eq_false (by omega)
   rw[hB];clear hB
   go_enter func14,ntmps14
   go_wp2
   go_ret
   exact⟨rfl,rfl⟩
theorem zbP(k:Int)(w:World):
 Calls prog 31 #[.int .i64 k] w fun e w'=>e=.returned (.bool (zaf k))/\Ext w w':=by
 by_cases hk:1<=k/\k<=17
 . have hB:kindB k=true:=decide_eq_true hk
   have hN:zaf k= !(decide (wireI k=2)):=by
    unfold zaf wireI;rcases zeB hk with h|h|h|h|h|h|h|h|h|h|h|h|h|h|h|h|h<;>subst h<;>rfl
   have HN:=zsz hN;clear hN;have hO:zdG k=wireI k:=by unfold zdG;rw[if_pos hB]
   go_enter func31,ntmps31
   go_wp2_with (go_at_call 58;refine(kWire k _).mono ?_;rw[hO,hB];rintro e w1 ⟨rfl,E1⟩)
   go_ret
   exact⟨zam (by rw[HN.out];by_cases h:wireI k=2<;>simp[h]),E1⟩
 . have hB:kindB k=false:=decide_eq_false hk
   have hN:zaf k=false:=decide_eq_false (by omega);rw[hN];clear hN;have hO:zdG k=0:=by unfold zdG;rw[hB];rfl
   go_enter func31,ntmps31
   go_wp2_with (go_at_call 58;refine(kWire k _).mono ?_;rw[hO,hB];rintro e w1 ⟨rfl,E1⟩)
   go_ret
   exact⟨rfl,E1⟩
theorem zqK{k:Int}(h:kindB k=true)(w:World):
 Calls prog 68 #[.int .i64 k] w fun e w'=>e=.returned (.int .i64 (wireI k))/\w=w':=by
 have hk:1<=k/\k<=17:=of_decide_eq_true h;clear h
 go_enter func68,ntmps68
 go_wp2
 all_goals go_ret
 all_goals refine⟨zbF ?_,rfl⟩
 all_goals unfold wireI
 all_goals repeat' split
 all_goals omega
theorem zsg(k:Int)(x:Nat)(hx:x<18446744073709551616)(w:World):
 Calls prog 80 #[.int .i64 k,.int .u64 x] w fun e w'=>e=.returned (.tuple #[.int .u64 (if zaf k=true then(zaF k x:Int)else 0),.int .u8 (if zaf k=true then 0 else 2)])/\Ext w w':=by
 rcases hf:zhy k with⟨s,y,z⟩
 have Hf:=zsz hf;clear hf;by_cases hn:1<=k/\k<=14
 . have hB:zaf k=true:=decide_eq_true hn
   have hbits:=zlh hn;rw[Hf.out]at hbits;simp only at hbits;rw[if_pos hB,if_pos hB];have hs:=zfX x;have hsl:=zcj x;by_cases c1:k=1\/k=8
   . have hc:((zaF k x:Nat):Int)=wideI (zbb x):=by unfold zaF;rw[if_pos c1];omega
     have Hc:=zsz hc;clear hc hbits hn
     have H1:∀w0:World,Calls prog 80 #[.int .i64 k,.int .u64 x] w0 fun e w'=>e=.returned (.tuple #[.int .u64 (wideI (zbb x)),.int .u8 0])/\Ext w0 w':=by
      intro w0;clear Hc;rcases c1 with rfl|rfl
      . go_enter func80,ntmps80
        go_wp2_with (first|(go_at_call 31;refine(zbP _ _).mono ?_;rw[hB];rintro e w1 ⟨rfl,E1⟩)|(go_at_call 111;refine(zqP _ _ (by omega) (by omega)).mono ?_;rintro e w2 ⟨rfl,rfl⟩)|(go_at_call 110;refine(zqQ _ _ (by omega) (by omega)).mono ?_;rintro e w2 ⟨rfl,rfl⟩))
        go_ret2
        exact⟨rfl,E1⟩
      . go_enter func80,ntmps80
        go_wp2_with (first|(go_at_call 31;refine(zbP _ _).mono ?_;rw[hB];rintro e w1 ⟨rfl,E1⟩)|(go_at_call 111;refine(zqP _ _ (by omega) (by omega)).mono ?_;rintro e w2 ⟨rfl,rfl⟩)|(go_at_call 110;refine(zqQ _ _ (by omega) (by omega)).mono ?_;rintro e w2 ⟨rfl,rfl⟩))
        go_ret2
        exact⟨rfl,E1⟩
     rw[Hc.out];exact H1 w
   . by_cases c7:k=7
     . subst c7
       by_cases h0:x=0
       . subst h0
         go_enter func80,ntmps80
         go_wp2_with (go_at_call 31;refine(zbP _ _).mono ?_;rw[hB];rintro e w1 ⟨rfl,E1⟩)
         go_ret2
         exact⟨rfl,E1⟩
       . have hc:zaF 7 x=1:=by unfold zaF;rw[if_neg (by decide),if_pos rfl,if_neg h0]
         rw[hc];have q:(((x:Nat):Int) !=0)=true:=by simp;omega
         clear hc
         go_enter func80,ntmps80
         go_wp2_with (go_at_call 31;refine(zbP _ _).mono ?_;rw[hB];rintro e w1 ⟨rfl,E1⟩)
         go_ret2
         exact⟨rfl,E1⟩
     . have q1:(k==1)=false:=by simp;omega
       have q8:(k==8)=false:=by simp;omega
       have q7:(k==7)=false:=by simp;omega
       by_cases c3:k=3\/k=5\/k=9\/k=10\/k=11
       . have hb:(z==32)=true:=by simp only[beq_iff_eq];exact hbits.2 (by omega)
         have hc:((zaF k x:Nat):Int)=(x:Int) % 4294967296:=by unfold zaF;rw[if_neg c1,if_neg c7,if_pos c3];rfl
         have Hc:=zsz hc;clear hc hbits hn c1 c7 c3 hs hsl
         go_enter func80,ntmps80
         go_wp2_with (first|(go_at_call 31;refine(zbP _ _).mono ?_;rw[hB];rintro e w1 ⟨rfl,E1⟩)|(go_at_call 92;refine(zmD _).mono ?_;rintro e w2 ⟨b,rfl,own,E2⟩;have hl:=(zfI own k Hf).1;clear own;have hfd:=ziN s y z w2)|(go_at_call 112;refine(low32 _ _ (by omega) (by omega)).mono ?_;rintro e w3 ⟨rfl,rfl⟩))
         go_ret2
         rw[Hc.out];exact⟨rfl,E1.trans E2⟩
       . have hb:(z==32)=false:=by simp only[beq_eq_false_iff_ne];intro e;have:=hbits.1 e;omega
         have hc:((zaF k x:Nat):Int)=(x:Int):=by unfold zaF;rw[if_neg c1,if_neg c7,if_neg c3]
         have Hc:=zsz hc;clear hc hbits hn c1 c7 c3 hs hsl
         go_enter func80,ntmps80
         go_wp2_with (first|(go_at_call 31;refine(zbP _ _).mono ?_;rw[hB];rintro e w1 ⟨rfl,E1⟩)|(go_at_call 92;refine(zmD _).mono ?_;rintro e w2 ⟨b,rfl,own,E2⟩;have hl:=(zfI own k Hf).1;clear own;have hfd:=ziN s y z w2))
         go_ret2
         rw[Hc.out];exact⟨rfl,E1.trans E2⟩
 . have hB:zaf k=false:=decide_eq_false hn
   rw[if_neg (by rw[hB];decide),if_neg (by rw[hB];decide)]
   go_enter func80,ntmps80
   go_wp2_with (go_at_call 31;refine(zbP _ _).mono ?_;rw[hB];rintro e w1 ⟨rfl,E1⟩)
   go_ret2
   exact⟨rfl,E1⟩
theorem zlz(k:Int)(x:Nat)(hx:x<18446744073709551616)(w:World):
 Calls prog 53 #[.int .i64 k,.int .u64 x] w fun e w'=>e=.returned (.int .u64 (zaF k x))/\w=w':=by
 have hs:=zfX x;have hsl:=zcj x;by_cases c1:k=1\/k=8
 . have hc:((zaF k x:Nat):Int)=wideI (zbb x):=by unfold zaF;rw[if_pos c1];omega
   have Hc:=zsz hc;clear hc
   have H1:∀w0:World,Calls prog 53 #[.int .i64 k,.int .u64 x] w0 fun e w'=>e=.returned (.int .u64 (wideI (zbb x)))/\w0=w':=by
    intro w0;clear Hc;rcases c1 with rfl|rfl
    . go_enter func53,ntmps53
      go_wp2_with (first|(go_at_call 84;refine(zpF _ _ (by omega) (by omega)).mono ?_;rintro e w2 ⟨rfl,rfl⟩)|(go_at_call 83;refine(wideR _ _ (by omega) (by omega)).mono ?_;rintro e w2 ⟨rfl,rfl⟩))
      go_ret
      exact⟨rfl,rfl⟩
    . go_enter func53,ntmps53
      go_wp2_with (first|(go_at_call 84;refine(zpF _ _ (by omega) (by omega)).mono ?_;rintro e w2 ⟨rfl,rfl⟩)|(go_at_call 83;refine(wideR _ _ (by omega) (by omega)).mono ?_;rintro e w2 ⟨rfl,rfl⟩))
      go_ret
      exact⟨rfl,rfl⟩
   rw[Hc.out];exact H1 w
 . by_cases c7:k=7
   . subst c7
     clear hs hsl;by_cases h0:x=0
     . subst h0
       go_enter func53,ntmps53
       go_wp2
       go_ret
       exact⟨rfl,rfl⟩
     . have hc:zaF 7 x=1:=by unfold zaF;rw[if_neg (by decide),if_pos rfl,if_neg h0]
       rw[hc];have q:(0:Int)<(x:Nat):=by omega
       clear hc h0
       go_enter func53,ntmps53
       go_wp2
       go_ret
       exact⟨rfl,rfl⟩
   . by_cases c3:k=3\/k=5\/k=9\/k=10\/k=11
     . have hc:((zaF k x:Nat):Int)=(x:Int) % 4294967296:=by unfold zaF;rw[if_neg c1,if_neg c7,if_pos c3];rfl
       have Hc:=zsz hc;clear hc hs hsl c1 c7
       have H1:∀w0:World,Calls prog 53 #[.int .i64 k,.int .u64 x] w0 fun e w'=>e=.returned (.int .u64 ((x:Int) % 4294967296))/\w0=w':=by
        intro w0;clear Hc;rcases c3 with rfl|rfl|rfl|rfl|rfl
        all_goals
         go_enter func53,ntmps53
         go_wp2
         go_ret
         exact⟨rfl,rfl⟩
       rw[Hc.out];exact H1 w
     . have hc:((zaF k x:Nat):Int)=(x:Int):=by unfold zaF;rw[if_neg c1,if_neg c7,if_neg c3]
       have q1:(k==1)=false:=by simp;omega
       have q3:(k==3)=false:=by simp;omega
       have q5:(k==5)=false:=by simp;omega
       have q7:(k==7)=false:=by simp;omega
       have q8:(k==8)=false:=by simp;omega
       have q9:(k==9)=false:=by simp;omega
       have q10:(k==10)=false:=by simp;omega
       have q11:(k==11)=false:=by simp;omega
       have Hc:=zsz hc;clear hc hs hsl c1 c7 c3
       go_enter func53,ntmps53
       go_wp2
       go_ret
       rw[Hc.out];exact⟨rfl,rfl⟩
def iv(x:Nat):Value:=.int .i64 (x:Int)
theorem zmE(l:List Nat):∀u∈l.map iv,u.oneCell'=true:=by
 intro u hu;obtain⟨b,_,rfl⟩:=List.mem_map.1 hu;rfl
theorem elemI:Elem prog 34 3 1 8:=Elem.mk' (z:=.int .i64 0) underlying34 (by kernel_rfl) rfl (by omega)
variable{a b:ByteArray}
theorem ziO:(a.toList==b.toList)=decide (a=b):=by
 by_cases h:a=b
 . subst h;simp
 . rw[decide_eq_false h]
   simp only[beq_eq_false_iff_ne];intro e;rw[ByteArray.toList_eq,ByteArray.toList_eq]at e;exact h (ByteArray.ext (Array.toList_inj.1 e))
theorem zpm(h:a≠b):(a.toList==b.toList)=false:=by rw[ziO];exact decide_eq_false h
end Go.Proofs.YtpicpebolghcfaaGreatDoor
