/- Contracts of layer 6. -/
import Derived.Test.YtlhbllaojjelcaaGreatQhWA

set_option linter.unusedVariables false
set_option maxRecDepth 100000
set_option maxHeartbeats 4000000
namespace Go.Proofs.YtlhbllaojjelcaaGreat
open Go.RowKit Tryz
theorem zmo(w:World):Calls prog 144 #[] w fun e w'=>∃b,e=.returned (.map (some b))/\MapI w' b .i64 ziq/\Ext w w':=by
 have hmm:= @run_makeMap prog
 go_enter func144,ntmps144
 have own:=MapI.made w .i64;have hE:=(Ext.refl w).alloc (.map #[] 0);have hb:w.heap.size<=w.heap.size:=Nat.le_refl _
 go_wp2_with ((with_reducible show wpList _ _ _ ({dst:=_,op:=Op.insert _ _ _ _,type:=_,pos:=_,after:=_,guard:=_}::_) _ _);refine ziL rfl _ _ _ rfl underlying233 underlying3 rfl own rfl rfl rfl ?_;intro w1 own1 hg1;replace hE:=hE.put hg1 hb;replace own:=own1;clear own1 hg1)
 go_ret
 exact⟨_,rfl,own,hE⟩
theorem zForm(w:World):(zeroValue 231).run prog w=.ok (formV (⟨#[]⟩,0,0)) w:=by kernel_rfl
theorem zfG{w:World}{b:Nat}(h:MapI w b .i64 ziq)(k:Int){s:ByteArray}{y z:Int}(hf:Hid (zhh k=(s,y,z))):
 (Instr.lookup 233 (.map (some b)) (.int .i64 k) false).run prog w=.ok (.agg #[.string s,.int .i64 y,.int .i64 z]) w/\
 (Instr.lookup 233 (.map (some b)) (.int .i64 k) true).run prog w=.ok (.tuple #[.agg #[.string s,.int .i64 y,.int .i64 z],.bool (kindB k)]) w:=by
 have:=h.look underlying233 underlying3 (zForm w) k;rw[zmN,znS,hf.out]at this;exact this
theorem ziE(s:ByteArray)(y z:Int)(w:World):(Instr.field 231 (.agg #[.string s,.int .i64 y,.int .i64 z]) 2).run prog w=.ok (.int .i64 z) w:=by kernel_rfl
def zdK(k:Int):Int:=if kindB k=true then wireI k else 0
theorem kWire(k:Int)(w:World):
 Calls prog 108 #[.int .i64 k] w fun e w'=>e=.returned (.tuple #[.int .i64 (zdK k),.int .u8 (if kindB k=true then 0 else 2)])/\Ext w w':=by
 rcases hf:zhh k with⟨s,y,z⟩
 have Hf:=zsp hf;clear hf;by_cases hk:1<=k/\k<=17
 . have hB:kindB k=true:=decide_eq_true hk
   have hW:=zkW hk
   have hO:zdK k=y:=by
    have:=Hf.out;unfold zdK;rw[if_pos hB,<-hW,this]
   clear hW;rw[hO,hB];clear hO
   go_enter func108,ntmps108
   go_wp2_with (go_at_call 144;refine(zmo _).mono ?_;rintro e w1 ⟨b,rfl,own,E1⟩;have hl:=(zfG own k Hf).2;rw[hB]at hl;clear own)
   go_ret2
   exact⟨rfl,E1.alloc _⟩
 . have hB:kindB k=false:=decide_eq_false hk
   have hO:zdK k=0:=by
    unfold zdK;rw[hB];rfl
   rw[hO,hB];clear hO
   go_enter func108,ntmps108
   go_wp2_with (go_at_call 144;refine(zmo _).mono ?_;rintro e w1 ⟨b,rfl,own,E1⟩;have hl:=(zfG own k Hf).2;rw[hB]at hl;clear own)
   go_ret2
   exact⟨rfl,E1.alloc _⟩
theorem zqo(k:Int)(w:World):
 Calls prog 117 #[.int .i64 k] w fun e w'=>e=.returned (.bool (kindB k))/\w=w':=by
 by_cases h1:1<=k
 . by_cases h2:k<=17
   . have hB:kindB k=true:=decide_eq_true ⟨h1,h2⟩
     rw[hB];clear hB
     go_enter func117,ntmps117
     go_wp2
     go_ret
     exact⟨zag (by simp),rfl⟩
   . have hB:kindB k=false:=decide_eq_false (by omega)
     rw[hB];clear hB
     go_enter func117,ntmps117
     go_wp2
     go_ret
     exact⟨zag (by simp),rfl⟩
 . have hB:kindB k=false:=decide_eq_false (by omega)
   rw[hB];clear hB
   go_enter func117,ntmps117
   go_wp2
   go_ret
   exact⟨rfl,rfl⟩
theorem zlz(k:Int)(w:World):
 Calls prog 95 #[.int .i64 k] w fun e w'=>e=.returned (.bool (kindB k))/\w=w':=by
 by_cases h1:1<=k
 . by_cases h2:k<=17
   . have hB:kindB k=true:=decide_eq_true ⟨h1,h2⟩
     rw[hB];clear hB
     go_enter func95,ntmps95
     go_wp2
     go_ret
     exact⟨zag (by simp),rfl⟩
   . have hB:kindB k=false:=decide_eq_false (by omega)
     rw[hB];clear hB
     go_enter func95,ntmps95
     go_wp2
     go_ret
     exact⟨zag (by simp),rfl⟩
 . have hB:kindB k=false:=decide_eq_false (by omega)
   rw[hB];clear hB
   go_enter func95,ntmps95
   go_wp2
   go_ret
   exact⟨rfl,rfl⟩
theorem zfH(k:Int)(w:World):
 Calls prog 44 #[.int .i64 k] w fun e w'=>e=.returned (.bool (zad k))/\w=w':=by
 by_cases h1:1<=k
 . by_cases h2:k<=14
   . have hB:zad k=true:=decide_eq_true ⟨h1,h2⟩
     rw[hB];clear hB
     go_enter func44,ntmps44
     go_wp2
     go_ret
     exact⟨zag (by simp),rfl⟩
   . have hB:zad k=false:=decide_eq_false (by omega)
     rw[hB];clear hB
     go_enter func44,ntmps44
     go_wp2
     go_ret
     exact⟨zag (by simp),rfl⟩
 . have hB:zad k=false:=decide_eq_false (by omega)
   rw[hB];clear hB
   go_enter func44,ntmps44
   go_wp2
   go_ret
   exact⟨rfl,rfl⟩
theorem zba(k:Int)(w:World):
 Calls prog 111 #[.int .i64 k] w fun e w'=>e=.returned (.bool (zad k))/\Ext w w':=by
 by_cases hk:1<=k/\k<=17
 . have hB:kindB k=true:=decide_eq_true hk
   have hN:zad k= !(decide (wireI k=2)):=by
    unfold zad wireI;rcases zeQ hk with h|h|h|h|h|h|h|h|h|h|h|h|h|h|h|h|h<;>subst h<;>rfl
   have HN:=zsp hN;clear hN;have hO:zdK k=wireI k:=by unfold zdK;rw[if_pos hB]
   go_enter func111,ntmps111
   go_wp2_with (go_at_call 108;refine(kWire k _).mono ?_;rw[hO,hB];rintro e w1 ⟨rfl,E1⟩)
   go_ret
   exact⟨zag (by rw[HN.out];by_cases h:wireI k=2<;>simp[h]),E1⟩
 . have hB:kindB k=false:=decide_eq_false hk
   have hN:zad k=false:=decide_eq_false (by omega);rw[hN];clear hN;have hO:zdK k=0:=by unfold zdK;rw[hB];rfl
   go_enter func111,ntmps111
   go_wp2_with (go_at_call 108;refine(kWire k _).mono ?_;rw[hO,hB];rintro e w1 ⟨rfl,E1⟩)
   go_ret
   exact⟨rfl,E1⟩
theorem zsd{k:Int}(h:kindB k=true)(w:World):
 Calls prog 71 #[.int .i64 k] w fun e w'=>e=.returned (.int .i64 (wireI k))/\w=w':=by
 have hk:1<=k/\k<=17:=of_decide_eq_true h;clear h
 go_enter func71,ntmps71
 go_wp2
 all_goals go_ret
 all_goals refine⟨zbT ?_,rfl⟩
 all_goals unfold wireI
 all_goals repeat' split
 all_goals omega
theorem zse(k:Int)(x:Nat)(hx:x<18446744073709551616)(w:World):
 Calls prog 122 #[.int .i64 k,.int .u64 x] w fun e w'=>e=.returned (.tuple #[.int .u64 (if zad k=true then(zay k x:Int)else 0),.int .u8 (if zad k=true then 0 else 2)])/\Ext w w':=by
 rcases hf:zhh k with⟨s,y,z⟩
 have Hf:=zsp hf;clear hf;by_cases hn:1<=k/\k<=14
 . have hB:zad k=true:=decide_eq_true hn
   have hbits:=zkX hn;rw[Hf.out]at hbits;simp only at hbits;rw[if_pos hB,if_pos hB];have hs:=zil x;have hsl:=zde x;by_cases c1:k=1\/k=8
   . have hc:((zay k x:Nat):Int)=wideI (zbp x):=by unfold zay;rw[if_pos c1];omega
     have Hc:=zsp hc;clear hc hbits hn
     have H1:∀w0:World,Calls prog 122 #[.int .i64 k,.int .u64 x] w0 fun e w'=>e=.returned (.tuple #[.int .u64 (wideI (zbp x)),.int .u8 0])/\Ext w0 w':=by
      intro w0;clear Hc;rcases c1 with rfl|rfl
      . go_enter func122,ntmps122
        go_wp2_with (first|(go_at_call 111;refine(zba _ _).mono ?_;rw[hB];rintro e w1 ⟨rfl,E1⟩)|(go_at_call 157;refine(zqv _ _ (by omega) (by omega)).mono ?_;rintro e w2 ⟨rfl,rfl⟩)|(go_at_call 156;refine(zqw _ _ (by omega) (by omega)).mono ?_;rintro e w2 ⟨rfl,rfl⟩))
        go_ret2
        exact⟨rfl,E1⟩
      . go_enter func122,ntmps122
        go_wp2_with (first|(go_at_call 111;refine(zba _ _).mono ?_;rw[hB];rintro e w1 ⟨rfl,E1⟩)|(go_at_call 157;refine(zqv _ _ (by omega) (by omega)).mono ?_;rintro e w2 ⟨rfl,rfl⟩)|(go_at_call 156;refine(zqw _ _ (by omega) (by omega)).mono ?_;rintro e w2 ⟨rfl,rfl⟩))
        go_ret2
        exact⟨rfl,E1⟩
     rw[Hc.out];exact H1 w
   . by_cases c7:k=7
     . subst c7
       by_cases h0:x=0
       . subst h0
         go_enter func122,ntmps122
         go_wp2_with (go_at_call 111;refine(zba _ _).mono ?_;rw[hB];rintro e w1 ⟨rfl,E1⟩)
         go_ret2
         exact⟨rfl,E1⟩
       . have hc:zay 7 x=1:=by unfold zay;rw[if_neg (by decide),if_pos rfl,if_neg h0]
         rw[hc];have q:(((x:Nat):Int) !=0)=true:=by simp;omega
         clear hc
         go_enter func122,ntmps122
         go_wp2_with (go_at_call 111;refine(zba _ _).mono ?_;rw[hB];rintro e w1 ⟨rfl,E1⟩)
         go_ret2
         exact⟨rfl,E1⟩
     . have q1:(k==1)=false:=by simp;omega
       have q8:(k==8)=false:=by simp;omega
       have q7:(k==7)=false:=by simp;omega
       by_cases c3:k=3\/k=5\/k=9\/k=10\/k=11
       . have hb:(z==32)=true:=by simp only[beq_iff_eq];exact hbits.2 (by omega)
         have hc:((zay k x:Nat):Int)=(x:Int) % 4294967296:=by unfold zay;rw[if_neg c1,if_neg c7,if_pos c3];rfl
         have Hc:=zsp hc;clear hc hbits hn c1 c7 c3 hs hsl
         go_enter func122,ntmps122
         go_wp2_with (first|(go_at_call 111;refine(zba _ _).mono ?_;rw[hB];rintro e w1 ⟨rfl,E1⟩)|(go_at_call 144;refine(zmo _).mono ?_;rintro e w2 ⟨b,rfl,own,E2⟩;have hl:=(zfG own k Hf).1;clear own;have hfd:=ziE s y z w2)|(go_at_call 158;refine(low32 _ _ (by omega) (by omega)).mono ?_;rintro e w3 ⟨rfl,rfl⟩))
         go_ret2
         rw[Hc.out];exact⟨rfl,E1.trans E2⟩
       . have hb:(z==32)=false:=by simp only[beq_eq_false_iff_ne];intro e;have:=hbits.1 e;omega
         have hc:((zay k x:Nat):Int)=(x:Int):=by unfold zay;rw[if_neg c1,if_neg c7,if_neg c3]
         have Hc:=zsp hc;clear hc hbits hn c1 c7 c3 hs hsl
         go_enter func122,ntmps122
         go_wp2_with (first|(go_at_call 111;refine(zba _ _).mono ?_;rw[hB];rintro e w1 ⟨rfl,E1⟩)|(go_at_call 144;refine(zmo _).mono ?_;rintro e w2 ⟨b,rfl,own,E2⟩;have hl:=(zfG own k Hf).1;clear own;have hfd:=ziE s y z w2))
         go_ret2
         rw[Hc.out];exact⟨rfl,E1.trans E2⟩
 . have hB:zad k=false:=decide_eq_false hn
   rw[if_neg (by rw[hB];decide),if_neg (by rw[hB];decide)]
   go_enter func122,ntmps122
   go_wp2_with (go_at_call 111;refine(zba _ _).mono ?_;rw[hB];rintro e w1 ⟨rfl,E1⟩)
   go_ret2
   exact⟨rfl,E1⟩
def iv(x:Nat):Value:=.int .i64 (x:Int)
theorem elemI:Elem prog 82 3 1 8:=Elem.mk' (z:=.int .i64 0) underlying82 (by kernel_rfl) rfl (by omega)
variable{a b:ByteArray}
theorem zmp:(a.toList==b.toList)=decide (a=b):=by
 by_cases h:a=b
 . subst h;simp
 . rw[decide_eq_false h]
   simp only[beq_eq_false_iff_ne];intro e;rw[ByteArray.toList_eq,ByteArray.toList_eq]at e;exact h (ByteArray.ext (Array.toList_inj.1 e))
theorem zsf(h:a≠b):(a.toList==b.toList)=false:=by rw[zmp];exact decide_eq_false h
end Go.Proofs.YtlhbllaojjelcaaGreat
