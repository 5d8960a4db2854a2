/- Contracts of layer 8: scalars. -/
import Derived.Test.YtpicpebolghcfaaGreatDoorQlW6

set_option linter.unusedVariables false
namespace Go.Proofs.YtpicpebolghcfaaGreatDoor
open Go.RowKit Tryz
variable{w:World}{k W:Int}
theorem zgC(hk:zaf k=true)(hw:wireI k=W):
 Calls prog 58 #[.int .i64 k] w fun e w'=>e=.returned (.tuple #[.int .i64 W,.int .u8 0])/\Ext w w':=by
 have h:=kWire k w;have hb:=zdg hk;have hkb:kindB k=true:=by unfold kindB;exact decide_eq_true (by omega)
 unfold zdG at h;rw[hkb]at h;simp only[if_true,hw]at h;exact h
theorem zlF(hk:zaf k=true)(hw:wireI k=W):
 Calls prog 68 #[.int .i64 k] w fun e w'=>e=.returned (.int .i64 W)/\w=w':=by
 have hb:=zdg hk;have hkb:kindB k=true:=by unfold kindB;exact decide_eq_true (by omega)
 have h:=zqK hkb w
 rwa[hw]at h
theorem zlG{x:Nat}{y:Int}(hk:zaf k=true)(hx:x<18446744073709551616)(hy:y=(x:Int)):
 Calls prog 80 #[.int .i64 k,.int .u64 y] w fun e w'=>e=.returned (.tuple #[.int .u64 (zaF k x:Int),.int .u8 0])/\Ext w w':=by
 subst hy;have h:=zsg k x hx w;rw[hk]at h;exact h
theorem sWide{N:Int}(h:W=0/\N=0\/W=1/\N=8\/W=5/\N=4):
 Calls prog 81 #[.int .i64 W] w fun e w'=>e=.returned (.int .i64 N)/\w=w':=by
 rcases h with⟨rfl,rfl⟩|⟨rfl,rfl⟩|⟨rfl,rfl⟩
 all_goals
  go_enter func81,ntmps81
  go_wp2
  go_ret
  exact⟨rfl,rfl⟩
theorem zcd(hk:zaf k=true):(12<=k/\wireI k=1)\/(¬12<=k/\9<=k/\wireI k=5)\/(¬12<=k/\¬9<=k/\wireI k=0):=by
 have hb:=zdg hk;unfold wireI;by_cases h12:12<=k
 . exact .inl ⟨h12,by rw[if_neg (by omega),if_neg (by omega),if_pos (by omega)]⟩
 . by_cases h9:9<=k
   . exact .inr (.inl ⟨h12,h9,by rw[if_neg (by omega),if_pos (by omega)]⟩)
   . exact .inr (.inr ⟨h12,h9,by rw[if_pos (by omega)]⟩)
theorem zmL(hk:zaf k=false)(bs:List UInt8):readS k bs=(0,2):=by unfold readS;rw[if_pos hk]
theorem zgL(hk:zaf k=true)(h:12<=k)(bs:List UInt8):readS k bs=if bs.length=8 then(zaF k (wordN bs),0)else(0,12):=by unfold readS;rw[hk,if_neg (by simp),if_pos h]
theorem zju(hk:zaf k=true)(h:¬12<=k)(h9:9<=k)(bs:List UInt8):readS k bs=if bs.length=4 then(zaF k (wordN bs),0)else(0,12):=by unfold readS;rw[hk,if_neg (by simp),if_neg h,if_pos h9]
variable{C:Nat}{bs:List UInt8}
theorem zjv(hk:zaf k=true)(h:¬12<=k)(h9:¬9<=k){W N:Nat}(hv:readV bs=(W,N,C)):readS k bs=if C=0/\N=bs.length then(zaF k W,0)else(0,12):=by unfold readS;rw[hk,if_neg (by simp),if_neg h,if_neg h9,hv]
theorem sRead{A:Option Addr}{n c:Nat}{W:Nat}(hb:zac w A n c bs)(hr:readS k bs=(W,C)):
 Calls prog 60 #[.int .i64 k,.slice A n c] w fun e w'=>e=.returned (.tuple #[.int .u64 (W:Int),.int .u8 (C:Int)])/\Ext w w':=by
 have hE:=Ext.refl w;have hl:=hb.length;rcases hk:zaf k with _|_
 . rw[zmL hk]at hr
   cases hr
   go_enter func60,ntmps60
   go_wp2_with (go_at_call 31;refine(zbP _ _).mono ?_;rintro e w1 ⟨rfl,E1⟩;rw[hk])
   go_ret2
   exact⟨rfl,E1⟩
 . have kn:=fun W:World=>zbP k W
   rw[hk]at kn;have Kn:=zsz kn;clear kn
   have hwt:wordN (bs.take 8)<18446744073709551616:=by
    have h1:=zcQ (bs.take 8);have h2:(bs.take 8).length<=8:=by rw[List.length_take];omega
    exact Nat.lt_of_lt_of_le h1 (Nat.le_trans (Nat.pow_le_pow_right (by decide) h2) (by decide))
   rcases zcd hk with⟨h12,hw⟩|⟨h12,h9,hw⟩|⟨h12,h9,hw⟩
   . rw[zgL hk h12]at hr
     by_cases h8:n=8
     . rw[if_pos (by omega)]at hr
       cases hr;have ht:bs.take 8=bs:=List.take_of_length_le (by omega);rw[ht]at hwt;have q:((n:Int)==8)=true:=by simp;omega
       have Ht:=zsz ht;have Hk:=zsz hk;have Hw:=zsz hw;clear hl ht hk hw h8
       go_enter func60,ntmps60
       go_wp2_with (first|(go_at_call 31;refine(Kn.out _).mono ?_;rintro e w1 ⟨rfl,E1⟩;have X_:Ext w w1:=Ext.trans xx E1;replace hb:=hb.up X_;replace hE:=hE.up X_;clear X_)|(go_at_call 58;refine(zgC Hk.out Hw.out).mono ?_;rintro e w2 ⟨rfl,E2⟩;have X_:Ext w1 w2:=Ext.trans xx E2;replace hb:=hb.up X_;replace hE:=hE.up X_;clear X_)|(go_at_call 81;refine(sWide (N:=8) (by omega)).mono ?_;rintro e w' ⟨rfl,rfl⟩)|(go_at_call 95;refine(word hb).mono ?_;rintro e w' ⟨rfl,rfl⟩;rw[Ht.out])|(go_at_call 80;refine(zlG Hk.out hwt rfl).mono ?_;rintro e w3 ⟨rfl,E3⟩;have X_:Ext w2 w3:=Ext.trans xx E3;replace hE:=hE.up X_;clear X_))
       go_ret2
       exact⟨rfl,hE⟩
     . rw[if_neg (by omega)]at hr
       cases hr;have q:((n:Int) !=8)=true:=by simp;omega
       have Hk:=zsz hk;have Hw:=zsz hw;clear hl hk hw h8
       go_enter func60,ntmps60
       go_wp2_with (first|(go_at_call 31;refine(Kn.out _).mono ?_;rintro e w1 ⟨rfl,E1⟩;have X_:Ext w w1:=Ext.trans xx E1;replace hb:=hb.up X_;replace hE:=hE.up X_;clear X_)|(go_at_call 58;refine(zgC Hk.out Hw.out).mono ?_;rintro e w2 ⟨rfl,E2⟩;have X_:Ext w1 w2:=Ext.trans xx E2;replace hb:=hb.up X_;replace hE:=hE.up X_;clear X_)|(go_at_call 81;refine(sWide (N:=8) (by omega)).mono ?_;rintro e w' ⟨rfl,rfl⟩))
       go_ret2
       exact⟨rfl,hE⟩
   . rw[zju hk h12 h9]at hr
     by_cases h8:n=4
     . rw[if_pos (by omega)]at hr
       cases hr;have ht:bs.take 8=bs:=List.take_of_length_le (by omega);rw[ht]at hwt;have q:((n:Int)==4)=true:=by simp;omega
       have Ht:=zsz ht;have Hk:=zsz hk;have Hw:=zsz hw;clear hl ht hk hw h8
       go_enter func60,ntmps60
       go_wp2_with (first|(go_at_call 31;refine(Kn.out _).mono ?_;rintro e w1 ⟨rfl,E1⟩;have X_:Ext w w1:=Ext.trans xx E1;replace hb:=hb.up X_;replace hE:=hE.up X_;clear X_)|(go_at_call 58;refine(zgC Hk.out Hw.out).mono ?_;rintro e w2 ⟨rfl,E2⟩;have X_:Ext w1 w2:=Ext.trans xx E2;replace hb:=hb.up X_;replace hE:=hE.up X_;clear X_)|(go_at_call 81;refine(sWide (N:=4) (by omega)).mono ?_;rintro e w' ⟨rfl,rfl⟩)|(go_at_call 95;refine(word hb).mono ?_;rintro e w' ⟨rfl,rfl⟩;rw[Ht.out])|(go_at_call 80;refine(zlG Hk.out hwt rfl).mono ?_;rintro e w3 ⟨rfl,E3⟩;have X_:Ext w2 w3:=Ext.trans xx E3;replace hE:=hE.up X_;clear X_))
       go_ret2
       exact⟨rfl,hE⟩
     . rw[if_neg (by omega)]at hr
       cases hr;have q:((n:Int) !=4)=true:=by simp;omega
       have Hk:=zsz hk;have Hw:=zsz hw;clear hl hk hw h8
       go_enter func60,ntmps60
       go_wp2_with (first|(go_at_call 31;refine(Kn.out _).mono ?_;rintro e w1 ⟨rfl,E1⟩;have X_:Ext w w1:=Ext.trans xx E1;replace hb:=hb.up X_;replace hE:=hE.up X_;clear X_)|(go_at_call 58;refine(zgC Hk.out Hw.out).mono ?_;rintro e w2 ⟨rfl,E2⟩;have X_:Ext w1 w2:=Ext.trans xx E2;replace hb:=hb.up X_;replace hE:=hE.up X_;clear X_)|(go_at_call 81;refine(sWide (N:=4) (by omega)).mono ?_;rintro e w' ⟨rfl,rfl⟩))
       go_ret2
       exact⟨rfl,hE⟩
   . rcases hv:readV bs with⟨V,N,D⟩
     have hbd:=zaP bs;rw[hv]at hbd;simp only at hbd;obtain⟨b1,b2,b3,b4,_⟩:=hbd;rw[zjv hk h12 h9 hv]at hr;by_cases hD:D=0
     . subst hD
       by_cases hN:N=n
       . rw[if_pos ⟨rfl,by omega⟩]at hr
         cases hr;have q:((N:Int) !=(n:Int))=false:=by simp;omega
         have Hv:=zsz hv;have Hk:=zsz hk;have Hw:=zsz hw;clear hl hk hw hN hv
         go_enter func60,ntmps60
         go_wp2_with (first|(go_at_call 31;refine(Kn.out _).mono ?_;rintro e w1 ⟨rfl,E1⟩;have X_:Ext w w1:=Ext.trans xx E1;replace hb:=hb.up X_;replace hE:=hE.up X_;clear X_)|(go_at_call 58;refine(zgC Hk.out Hw.out).mono ?_;rintro e w2 ⟨rfl,E2⟩;have X_:Ext w1 w2:=Ext.trans xx E2;replace hb:=hb.up X_;replace hE:=hE.up X_;clear X_)|(go_at_call 81;refine(sWide (N:=0) (by omega)).mono ?_;rintro e w' ⟨rfl,rfl⟩)|(go_at_call 96;refine(vRead hb Hv.out).mono ?_;rintro e w' ⟨rfl,rfl⟩)|(go_at_call 80;refine(zlG Hk.out b1 rfl).mono ?_;rintro e w3 ⟨rfl,E3⟩;have X_:Ext w2 w3:=Ext.trans xx E3;replace hE:=hE.up X_;clear X_))
         go_ret2
         exact⟨rfl,hE⟩
       . rw[if_neg (by omega)]at hr
         cases hr;have q:((N:Int) !=(n:Int))=true:=by simp;omega
         have Hv:=zsz hv;have Hk:=zsz hk;have Hw:=zsz hw;clear hl hk hw hN hv
         go_enter func60,ntmps60
         go_wp2_with (first|(go_at_call 31;refine(Kn.out _).mono ?_;rintro e w1 ⟨rfl,E1⟩;have X_:Ext w w1:=Ext.trans xx E1;replace hb:=hb.up X_;replace hE:=hE.up X_;clear X_)|(go_at_call 58;refine(zgC Hk.out Hw.out).mono ?_;rintro e w2 ⟨rfl,E2⟩;have X_:Ext w1 w2:=Ext.trans xx E2;replace hb:=hb.up X_;replace hE:=hE.up X_;clear X_)|(go_at_call 81;refine(sWide (N:=0) (by omega)).mono ?_;rintro e w' ⟨rfl,rfl⟩)|(go_at_call 96;refine(vRead hb Hv.out).mono ?_;rintro e w' ⟨rfl,rfl⟩))
         go_ret2
         exact⟨rfl,hE⟩
     . rw[if_neg (by omega)]at hr
       cases hr;have q:((D:Int) !=0)=true:=by simp;omega
       have Hv:=zsz hv;have Hk:=zsz hk;have Hw:=zsz hw;clear hl hk hw hv
       go_enter func60,ntmps60
       go_wp2_with (first|(go_at_call 31;refine(Kn.out _).mono ?_;rintro e w1 ⟨rfl,E1⟩;have X_:Ext w w1:=Ext.trans xx E1;replace hb:=hb.up X_;replace hE:=hE.up X_;clear X_)|(go_at_call 58;refine(zgC Hk.out Hw.out).mono ?_;rintro e w2 ⟨rfl,E2⟩;have X_:Ext w1 w2:=Ext.trans xx E2;replace hb:=hb.up X_;replace hE:=hE.up X_;clear X_)|(go_at_call 81;refine(sWide (N:=0) (by omega)).mono ?_;rintro e w' ⟨rfl,rfl⟩)|(go_at_call 96;refine(vRead hb Hv.out).mono ?_;rintro e w' ⟨rfl,rfl⟩))
       go_ret2
       exact⟨rfl,hE⟩
theorem zry(h:12<=k)(x:Nat):putS k x=zfe 8 (zaF k x):=by unfold putS;rw[if_pos h]
theorem zsr(h:¬12<=k)(h9:9<=k)(x:Nat):putS k x=zfe 4 (zaF k x):=by unfold putS;rw[if_neg h,if_pos h9]
theorem zss(h:¬12<=k)(h9:¬9<=k)(x:Nat):putS k x=Lib.uvarint (zaF k x):=by unfold putS;rw[if_neg h,if_neg h9]
end Go.Proofs.YtpicpebolghcfaaGreatDoor
