/- Contracts of layers 1 to 3. -/
import Derived.Test.YtlhbllaojjelcaaGreatChecked
import Derived.Test.YtlhbllaojjelcaaGreatQhSA
import Derived.BigQuiet
import Derived.Deep.QuietTactic
import Derived.Deep.RegionLaw

set_option linter.unusedVariables false
namespace Go.Proofs.YtlhbllaojjelcaaGreat
open Go.RowKit Tryz
theorem low32(n:Int)(w:World)(h0:0<=n)(h1:n<18446744073709551616):
 Calls prog 158 #[.int .u64 n] w fun e w'=>e=.returned (.int .u32 (n % 4294967296))/\w=w':=by
 go_enter func158,ntmps158
 go_wp2
 go_ret
 exact⟨rfl,rfl⟩
theorem zqv(n:Int)(w:World)(h0:0<=n)(h1:n<18446744073709551616):
 Calls prog 157 #[.int .u64 n] w fun e w'=>e=.returned (.int .i32 (zbp n))/\w=w':=by
 go_enter func157,ntmps157
 go_wp2
 go_ret
 exact⟨zbT (zjO n),rfl⟩
theorem zqw(n:Int)(w:World)(h0: -2147483648<=n)(h1:n<2147483648):
 Calls prog 156 #[.int .i32 n] w fun e w'=>e=.returned (.int .u64 (wideI n))/\w=w':=by
 go_enter func156,ntmps156
 go_wp2
 go_ret
 exact⟨zbT (zmJ n (by omega) (by omega)),rfl⟩
theorem elemB:Elem prog 46 5 1 1:=Elem.mk' (z:=.int .u8 0) underlying46 (by kernel_rfl) rfl (by omega)
variable{w:World}{n c:Nat}{A:Option Addr}
theorem same{B:Option Addr}{m d:Nat}{xs ys:List UInt8}(ha:zab w A n c xs)(hb:zab w B m d ys):
 Calls prog 21 #[.slice A n c,.slice B m d] w fun e w'=>e=.returned (.bool (decide (xs=ys)))/\w=w':=by
 have c1:=ha.convert (P:=prog) 46 5 9 underlying46 underlying5 underlying9;have c2:=hb.convert (P:=prog) 46 5 9 underlying46 underlying5 underlying9
 go_enter func21,ntmps21
 go_wp2
 go_ret
 exact⟨zag (by rw[Bool.eq_iff_iff];simp),rfl⟩
variable{bs:List UInt8}
theorem clone(ha:zab w A n c bs)(hn:n<=100000000000000):
 Calls prog 175 #[.slice A n c] w fun e w'=>∃A' c',e=.returned (.slice A' n c')/\Own w w' 5 1 A' n c' (bs.map bv):=by
 have hnil:=Lib.run_eql_slice_nil (P:=prog) w 46 5 A n c 0 0 underlying46;rcases A with _|ad
 . have h0:n=0:=by
    rcases Nat.eq_zero_or_pos n with h|h
    . exact h
    . obtain⟨b,off,e,_⟩:=Reads.at_ ha h;cases e
   subst h0;have hbs:bs=[]:=List.eq_nil_of_length_eq_zero ha.length;subst hbs
   go_enter func175,ntmps175
   go_wp2
   go_ret
   exact⟨_,_,rfl,Own.nil (Ext.refl _) 5 1⟩
 . go_enter func175,ntmps175
   go_wp2_with (at_builtin;refine zaT elemB rfl (.tmp 5) (.tmp 6) rfl rfl (Own.empty (Ext.refl _) 5 1) rfl (ha.ext ((Ext.refl _).alloc _)) (zgh _) (by omega) (by unfold maxLen;omega) ?_;intro A' c' w' hown _)
   go_ret
   exact⟨_,_,zjv (by simp),by simpa using hown⟩
theorem zoU(k x:Nat):List.map bv (zbK k x)++[.int .u8 ((x:Int) / 2^(8*k) % 256)]=List.map bv (zbK (k+1) x):=by
 rw[zgp,List.map_append,List.map_cons,List.map_nil,bv_of _ (by omega),<-zfU];simp
theorem zqx(x:Nat)(n:Int)(w:World)(h1:x<18446744073709551616)(h2:n<9223372036854775808)(h3: -9223372036854775808<=n):
 Calls prog 153 #[.int .u64 x,.int .i64 n] w fun e w'=>∃A' c',e=.returned (.slice A' (min n 8).toNat c')/\Own w w' 5 1 A' (min n 8).toNat c' (List.map bv (zbK (min n 8).toNat x)):=by
 obtain⟨q,hq⟩:∃q,q=min n 8:=⟨_,rfl⟩
 obtain⟨m,hm⟩:∃m:Nat,m=q.toNat:=⟨_,rfl⟩
 have hm8:m<=8:=by omega
 have hmn:∀ts t (W:World),(Builtin.min_ ts t #[.int .i64 n,.int .i64 8]).run prog W=.ok (.int .i64 q) W:=by
  intro ts t W;rw[zju,hq]
 have hmx:∀ts t (W:World),(Builtin.max_ ts t #[.int .i64 0,.int .i64 q]).run prog W=.ok (.int .i64 m) W:=by
  intro ts t W;rw[zgN];congr 2;omega
 rw[<-hq,<-hm];clear hm hq
 go_enter func153,ntmps153
 go_wp2
 go_loopw [5,6,10] (fun v _ i wr=>∃(k:Nat)(A:Option Addr)(c:Nat),k<=m/\i=.int .i64 k/\v=.slice A k c/\Own w wr 5 1 A k c (List.map bv (zbK k x))) (fun _ _ i _=>m - (intOf i).toNat)
 case atStart=>exact⟨0,none,0,Nat.zero_le _,rfl,rfl,Own.nil (Ext.refl _) 5 1⟩
 case round=>
  obtain⟨k,A,c,hk,rfl,rfl,hown⟩:=hrel;by_cases hlt:k<m
  . go_wp2_with (at_builtin;refine zcq elemB rfl (.tmp 13) (.tmp 20) rfl rfl hown rfl (by first|rfl|simp) rfl (by omega) (by unfold maxLen;omega) ?_;intro A' c' w' hown' _)
    go_roundw
    case rel=>exact⟨k+1,A',c',by omega,by go_num,rfl,by rw[<-zoU];exact hown'⟩
    case measure=>simp[intOf];omega
  . go_wp2
    go_ret
    have:k=m:=by omega
    subst this;exact⟨A,c,rfl,hown⟩
theorem word(ha:zab w A n c bs):
 Calls prog 151 #[.slice A n c] w fun e w'=>e=.returned (.int .u64 (wordN (bs.take 8)))/\w=w':=by
 have hl:=ha.length;have hmax:=Reads.max ha;have hcap:=Reads.cap ha;unfold maxLen at hmax;obtain⟨m,hm⟩:∃m:Nat,m=min n 8:=⟨_,rfl⟩
 have hmn:∀ts t (W:World),(Builtin.min_ ts t #[.int .i64 (n:Int),.int .i64 8]).run prog W=.ok (.int .i64 (m:Int)) W:=by
  intro ts t W;rw[zju];congr 2;omega
 have hle:m<=n:=by omega
 have h8:m<=8:=by omega
 have ht:bs.take 8=bs.take m:=by
  rw[hm,<-hl];rcases Nat.le_total bs.length 8 with h|h
  . rw[Nat.min_eq_left h,List.take_of_length_le h,List.take_of_length_le (Nat.le_refl _)]
  . rw[Nat.min_eq_right h]
 obtain⟨A',hcut,hr⟩:=znv elemB ha .i64 hle;have hr':zab w A' m c (bs.take m):=by simpa[zab,List.map_take] using hr
 rw[ht];clear hm ht
 go_enter func151,ntmps151
 go_wp2
 go_loop [3,4,5,12] (fun v _ _ i=>∃k:Nat,k<=m/\i=.int .i64 k/\v=.int .u64 (wordN (bs.take k):Nat)) (fun _ _ _ i=>m - (intOf i).toNat)
 case atStart=>exact⟨0,Nat.zero_le _,rfl,by simp[wordN]⟩
 case round=>
  obtain⟨k,hk,rfl,rfl⟩:=hrel;by_cases hlt:k<m
  . obtain⟨b,off,x,rfl,hx,hcell⟩:=hr'.byte hlt
    have hx':bs[k]?=some x:=by rwa[List.getElem?_take_of_lt hlt]at hx
    have hsn:=zap bs k x hx';have hlk:(bs.take k).length=k:=by rw[List.length_take];omega
    have hor:=zqF (bs.take k) k x hlk (by omega);rw[<-hsn]at hor;have H:=zsp hor;clear hor hsn hx hx' hlk hcut hmn hr hr'
    go_wp2
    go_round
    case rel=>exact⟨k+1,by omega,by go_num,by rw[H.out]⟩
    case measure=>simp[intOf];omega
  . have hkm:k=m:=by omega
    subst hkm
    go_wp2
    go_ret
    exact⟨rfl,rfl⟩
variable{a a' b b' c':Int}
theorem ret_v{c:Int}(h1:a=a')(h2:b=b')(h3:c=c'):Ending.returned (.tuple #[.int .u64 a,.int .i64 b,.int .u8 c])=.returned (.tuple #[.int .u64 a',.int .i64 b',.int .u8 c']):=by rw[h1,h2,h3]
theorem zkE{c:Int}(h1:a=a')(h2:b=b')(h3:c=c'):Ending.returned (.tuple #[.int .u64 a,.int .i64 b,.int .i64 c])=.returned (.tuple #[.int .u64 a',.int .i64 b',.int .i64 c']):=by rw[h1,h2,h3]
variable{W N C:Nat}
theorem vRead(hb:zab w A n c bs)(hv:readV bs=(W,N,C)):
 Calls prog 152 #[.slice A n c] w fun e w'=>e=.returned (.tuple #[.int .u64 W,.int .i64 N,.int .u8 C])/\w=w':=by
 have hl:=hb.length;have hmax:=Reads.max hb;have hcap:=Reads.cap hb;unfold maxLen at hmax;have Hv:=zsp hv;clear hv
 go_enter func152,ntmps152
 go_wp2
 go_loop [5,6,7,10] (fun v _ _ i=>∃k:Nat,k<=n/\k<=9/\i=.int .i64 k/\v=.int .u64 (wordV (bs.take k):Nat)/\Cont bs k) (fun _ _ _ i=>n - (intOf i).toNat)
 case atStart=>exact⟨0,Nat.zero_le _,Nat.zero_le _,rfl,by simp[wordV],Cont.zero bs⟩
 case round=>
  obtain⟨k,hk,hk9,rfl,rfl,hC⟩:=hrel;by_cases hlt:k<n
  . obtain⟨b,off,x,rfl,hx,hcell⟩:=hb.byte hlt
    have hsn:=zap bs k x hx;have hlk:(bs.take k).length=k:=by rw[List.length_take];omega
    have hx256:=zgM x;by_cases hbig:(9:Int)<=k/\(1:Int)<x.toNat
    . obtain⟨h9,h1⟩:=hbig
      have hr:=zdC (bs:=bs) (c:=x) (by rw[show 9=k by omega];exact hC) (by rw[show 9=k by omega];exact hx) (by omega);have Hr:=zsp hr;clear hr hsn hlk hx hC hl;have hq:((k:Int)==9)=true:=by simp;omega
      go_wp2
      go_ret3
      have e:=Hv.out.symm.trans Hr.out;exact⟨ret_v (by simp at e;omega) (by simp at e;omega) (by simp at e;omega),rfl⟩
    . have hor:=zpl (bs.take k) k x hlk hk9 (fun e=>by omega)
      rw[<-hsn]at hor;have Ho:=zsp hor;have Hx:=zsp hx;clear hor hx hsn hlk hl
      have done:∀(h:(x.toNat:Int)<128),(W:Int)=(wordV (bs.take (k+1)):Nat)/\N=k+1/\C=0:=by
       intro h;have e:=Hv.out.symm.trans (zcZ hC hk9 Hx.out (by omega) (fun e=>by omega));simp at e;exact⟨by rw[e.1],e.2.1,e.2.2⟩
      have Hd:=zsp done;clear done;by_cases h9:(9:Int)<=k
      . have h1:(x.toNat:Int)<=1:=by omega
        have h128:(x.toNat:Int)<128:=by omega
        have hd:¬((1:Int)<x.toNat):=by omega
        clear hbig hx256 h1;have hq:((k:Int)==9)=true:=by simp;omega
        go_wp2
        go_ret3
        have d:=Hd.out (by omega);exact⟨ret_v (by rw[d.1,<-Ho.out]) (by omega) (by omega),rfl⟩
      . clear hbig
        have hq:((k:Int)==9)=false:=by simp;omega
        by_cases h128:(x.toNat:Int)<128
        . go_wp2
          go_ret3
          have d:=Hd.out h128;exact⟨ret_v (by rw[d.1,<-Ho.out]) (by omega) (by omega),rfl⟩
        . go_wp2
          go_round
          case rel=>exact⟨k+1,by omega,by omega,by go_num,by rw[<-Ho.out],hC.succ Hx.out (by omega)⟩
          case measure=>simp[intOf];omega
  . have hr:=zdU hC hk9 (by omega)
    have Hr:=zsp hr;clear hr hl
    go_wp2
    go_ret3
    have e:=Hv.out.symm.trans Hr.out;exact⟨ret_v (by simp at e;omega) (by simp at e;omega) (by simp at e;omega),rfl⟩
variable{at_:Int}{p:Nat}
theorem zeI(hb:zab w A n c bs)(hat:at_=p)(hp:p<=n)(hn:n<=9000000000000000000)(hv:readV (bs.drop p)=(W,N,C)):
 Calls prog 73 #[.slice A n c,.int .i64 at_] w fun e w'=>e=.returned (.tuple #[.int .u64 W,.int .i64 N,.int .i64 C])/\w=w':=by
 subst hat;have hl:=hb.length;have hcap:=Reads.cap hb;have Hv:=zsp hv;clear hv
 go_enter func73,ntmps73
 go_wp2
 go_loop [7] (fun i=>∃k:Nat,p+k<=n/\k<=10/\i=.int .i64 k/\Cont (bs.drop p) k) (fun i=>10 - (intOf i).toNat)
 case atStart=>exact⟨0,by omega,by omega,rfl,Cont.zero _⟩
 case round=>
  obtain⟨k,hk,hk10,rfl,hC⟩:=hrel;by_cases hlt:(p:Int)+k<n
  . obtain⟨b,off,x,rfl,hx,hcell⟩:=hb.byte (show p+k<n by omega)
    have hxd:(bs.drop p)[k]?=some x:=by rw[List.getElem?_drop];exact hx
    by_cases h10:(k:Int)<10
    . have hq10:((k:Int)==10)=false:=by simp;omega
      have hql:((p:Int)+k==(n:Int))=false:=by simp;omega
      by_cases hbig:(128:Int)<=x.toNat
      . have Hx:=zsp hxd
        clear hx hxd hl
        go_wp2
        go_round
        case rel=>exact⟨k+1,by omega,by omega,by go_num,hC.succ Hx.out (by omega)⟩
        case measure=>simp[intOf];omega
      . by_cases h9:(9:Int)<=k/\(1:Int)<x.toNat
        . obtain⟨h9,h1⟩:=h9
          have hq9:((k:Int)==9)=true:=by simp;omega
          have e:=Hv.out.symm.trans (zdC (bs:=bs.drop p) (c:=x) (by rw[show 9=k by omega];exact hC) (by rw[show 9=k by omega];exact hxd) (by omega));have He:=zsp e;clear e hx hxd hl hC
          go_wp2
          go_ret3
          have e:=He.out;exact⟨zkE (by simp at e;omega) (by simp at e;omega) (by simp at e;omega),rfl⟩
        . have e:=Hv.out.symm.trans (zcZ hC (by omega) hxd (by omega) (fun e=>by omega))
          have hW:=zfu (bs:=bs.drop p) (k:=k) (by omega) hxd (fun e=>by omega);obtain⟨L,hL⟩:∃L,L=(bs.drop p).take (k+1):=⟨_,rfl⟩
          rw[<-hL]at e hW;have hLl:L.length=k+1:=by rw[hL,List.length_take,List.length_drop];omega
          have hLi:∀j,j<=k->L[j]?=bs[p+j]?:=by
           intro j hj;rw[hL,List.getElem?_take_of_lt (by omega),List.getElem?_drop]
          have He:=zsp e;have HL:=zsp hLl;have HI:=zsp hLi;clear e hx hxd hl hC hL hLl hLi;by_cases h9':(9:Int)<=k
          all_goals
           first
            |(have hq9:((k:Int)==9)=true:=by simp;omega
              have hx1:¬(1:Int)<x.toNat:=by omega
              skip)
            |have hq9:((k:Int)==9)=false:=by simp;omega
           clear h9 h9'
           go_wp2
           go_loop [8,9] (fun v i=>∃j:Nat,j<=k+1/\i=.int .i64 ((j:Int) - 1)/\v=.int .u64 (wordV (L.drop j):Nat)) (fun _ i=>(intOf i+1).toNat)
           case atStart=>exact⟨k+1,Nat.le_refl _,by congr 1;omega,by rw[List.drop_of_length_le (by rw[HL.out];exact Nat.le_refl _)];rfl⟩
           case round=>
            obtain⟨j,hj,rfl,rfl⟩:=hrel;by_cases hj0:(0:Int)<=(j:Int) - 1
            . obtain⟨b',off',y,hbo,hy,hcy⟩:=hb.byte (show p+(j - 1)<n by omega)
              cases hbo;obtain⟨i,rfl⟩:∃i,j=i+1:=⟨j - 1,by omega⟩
              have hst:=zmK L i y (by rw[HI.out i (by omega)];exact hy);have hle:=zfv L i;rw[Nat.add_sub_cancel]at hcy hy;generalize hA:wordV (L.drop i)=WA at*;generalize hB:wordV (L.drop (i+1))=WB at*;have HA:=zsp hA;have HS:=zsp hst;have hy256:=zgM y;have hov:128*WB<18446744073709551616 - y.toNat % 128:=by omega
              clear hst hA hB hy
              go_wp2
              go_round
              case rel=>exact⟨i,by omega,by go_num,by rw[HA.out,HS.out];go_num⟩
              case measure=>simp[intOf]<;>omega
            . have j0:j=0:=by omega
              subst j0
              go_wp2
              go_ret3
              have e:=He.out;exact⟨zkE (by simp at e;omega) (by simp at e;omega) (by simp at e;omega),rfl⟩
    . have hq10:((k:Int)==10)=true:=by simp;omega
      obtain⟨z,hz,hz8⟩:=hC 9 (by omega);have e:=Hv.out.symm.trans (zdC (bs:=bs.drop p) (fun j hj=>hC j (by omega)) hz (by omega));have He:=zsp e;clear e hx hxd hl hC hz hz8
      go_wp2
      go_ret3
      have e:=He.out;exact⟨zkE (by simp at e;omega) (by simp at e;omega) (by simp at e;omega),rfl⟩
  . have hql:((p:Int)+k==(n:Int))=true:=by simp;omega
    by_cases h10:(k:Int)<10
    . have hq10:((k:Int)==10)=false:=by simp;omega
      have e:=Hv.out.symm.trans (zdU hC (by omega) (by rw[List.length_drop];omega));have He:=zsp e;clear e hl hC
      go_wp2
      go_ret3
      have e:=He.out;exact⟨zkE (by simp at e;omega) (by simp at e;omega) (by simp at e;omega),rfl⟩
    . have hq10:((k:Int)==10)=true:=by simp;omega
      obtain⟨z,hz,hz8⟩:=hC 9 (by omega);have e:=Hv.out.symm.trans (zdC (bs:=bs.drop p) (fun j hj=>hC j (by omega)) hz (by omega));have He:=zsp e;clear e hl hC hz hz8
      go_wp2
      go_ret3
      have e:=He.out;exact⟨zkE (by simp at e;omega) (by simp at e;omega) (by simp at e;omega),rfl⟩
def uv(x:Nat):Value:=.int .u64 (x:Int)
theorem zoV(l:List Nat):∀u∈l.map uv,u.oneCell'=true:=by
 intro u hu;obtain⟨b,_,rfl⟩:=List.mem_map.1 hu;rfl
theorem elemU:Elem prog 66 100 1 8:=Elem.mk' (z:=.int .u64 0) underlying66 (by kernel_rfl) rfl (by omega)
theorem vSkip(hb:zab w A n c bs)(hv:readV bs=(W,N,C)):
 Calls prog 174 #[.slice A n c] w fun e w'=>e=.returned (.tuple #[.int .i64 N,.int .u8 C])/\w=w':=by
 have Hv:=zsp hv;clear hv
 go_enter func174,ntmps174
 go_wp2_with (go_at_call 152;refine(vRead hb Hv.out).mono ?_;rintro e w' ⟨rfl,rfl⟩)
 go_ret2
 exact⟨rfl,rfl⟩
variable{x:Nat}
theorem zgB(h:x<128):List.map bv (Lib.uvarint x)=[.int .u8 (x:Int)]:=by
 rw[Lib.uvarint_small h,List.map_cons,List.map_nil,bv_of x (by omega)]
theorem zhJ(h:128<=x):List.map bv (Lib.uvarint x)=.int .u8 ((x % 128+128:Nat):Int)::List.map bv (Lib.uvarint (x / 128)):=by
 rw[Lib.uvarint_big h,List.map_cons,bv_of _ (by omega)]
theorem vPut{x:Int}(hb:zab w A n c bs)(hx0:0<=x)(hx:x<18446744073709551616)(hn:n<=1000000000000):
 Calls prog 147 #[.slice A n c,.int .u64 x] w fun e w'=>∃A' c',e=.returned (.slice A' (n+(Lib.uvarint x.toNat).length) c')/\Own w w' 5 1 A' (n+(Lib.uvarint x.toNat).length) c' (List.map bv (bs++Lib.uvarint x.toNat)):=by
 obtain⟨X,rfl⟩:=Int.eq_ofNat_of_zero_le hx0;rw[Int.toNat_natCast];have hX:X<18446744073709551616:=by omega
 clear hx hx0;have hle:=Lib.uvarint_length64 hX
 go_enter func147,ntmps147
 go_wp2_with (go_at_call 175;refine(clone hb (by omega)).mono ?_;rintro e w1 ⟨A1,c1,rfl,own1⟩)
 go_loopw [0,1] (fun v y wr=>∃(z k:Nat)(A2:Option Addr)(c2:Nat)(xs:List Value),z<18446744073709551616/\k<=10/\y=.int .u64 z/\v=.slice A2 (n+k) c2/\Own w wr 5 1 A2 (n+k) c2 xs/\
  Hid (xs++List.map bv (Lib.uvarint z)=List.map bv (bs++Lib.uvarint X))/\Hid (k+(Lib.uvarint z).length=(Lib.uvarint X).length)) (fun _ y _=>(intOf y).toNat)
 case atStart=>exact⟨X,0,A1,c1,_,hX,by omega,rfl,rfl,own1,(List.map_append ..).symm,Nat.zero_add _⟩
 case round=>
  obtain⟨z,k,A2,c2,xs,hz,hk,rfl,rfl,own2,H1,H2⟩:=hrel;have hor:=or128 z;have Ho:=zsp hor;have hp:=Lib.uvarint_pos z;have hk9:k<=9:=by have:=H2.out;omega
  clear hor hp hle;by_cases hlt:(128:Int)<=z
  . have hb1:=zhJ (show 128<=z by omega)
    have hb2:(Lib.uvarint z).length=(Lib.uvarint (z / 128)).length+1:=by rw[Lib.uvarint_big (by omega)];rfl
    have H3:=zsp hb1;have H4:=zsp hb2;clear hb1 hb2
    go_wp2_with (at_builtin;refine zcq elemB rfl (.tmp 11) (.tmp 15) rfl rfl own2 rfl (by first|rfl|simp) rfl (by omega) (by unfold maxLen;omega) ?_;intro A3 c3 w3 own3 _)
    go_roundw
    case rel=>
     refine⟨z / 128,k+1,A3,c3,_,by omega,by omega,by go_num,rfl,own3,?_,?_⟩
     . have:=H1.out
       rw[H3.out]at this;show _=_;rw[<-this,List.append_assoc,List.singleton_append,Ho.out]
     . have a:=H2.out
       have b:=H4.out;show _=_;omega
    case measure=>simp[intOf];omega
  . have hb1:=zgB (show z<128 by omega)
    have hb2:(Lib.uvarint z).length=1:=by rw[Lib.uvarint_small (by omega)];rfl
    have H3:=zsp hb1;have H4:=zsp hb2;clear hb1 hb2;have hz8:(z:Int) % 256=z:=by omega
    have H5:=zsp hz8;clear hz8
    go_wp2_with (at_builtin;refine zcq elemB rfl (.tmp 17) (.tmp 20) rfl rfl own2 rfl (by first|rfl|simp) rfl (by omega) (by unfold maxLen;omega) ?_;intro A3 c3 w3 own3 _)
    go_ret
    have a:=H2.out;rw[H4.out]at a;have e:=H1.out;rw[H3.out]at e;refine⟨A3,c3,zjv (by omega),?_⟩;have own4:Own w w3 5 1 A3 (n+k+1) c3 (xs++[Value.int IntKind.u8 (z:Int)]):=by first|exact own3|(rw[H5.out]at own3;exact own3)
    rw[e]at own4;rw[show n+(Lib.uvarint X).length=n+k+1 by omega];simpa using own4
def zfh(w:World)(A:Option Addr)(n c:Nat)(l:List Nat):Prop:=Reads w A n c 1 (l.map uv)
variable{l:List Nat}
theorem zfh.length(h:zfh w A n c l):l.length=n:=by have:=Reads.len h;simpa using this
theorem zfh.word(h:zfh w A n c l){k:Nat}(hk:k<n):
 ∃b off x,A=some ⟨b,off,none⟩/\l[k]?=some x/\w.cell? ⟨b,off+k,none⟩=some (.int .u64 (x:Int)):=by
 obtain⟨b,off,e,_,hc⟩:=Reads.at_ h (by omega);have hl:=h.length;have hx:l[k]?=some (l[k]'(by omega)):=List.getElem?_eq_getElem (by omega);exact⟨b,off,_,e,hx,hc k _ (by rw[List.getElem?_map,hx];rfl)⟩
theorem zoW{n':Nat}(h:n=n'):Value.slice A n c=Value.slice A n' c:=by rw[h]
theorem zoX(number wire:Int)(w:World):
 Calls prog 136 #[.int .i64 number,.int .i64 wire] w fun e w'=>e=.returned (.bool (zao number wire))/\w=w':=by
 by_cases h1:(1:Int)<=number
 . by_cases h2:number<=(536870911:Int)
   . by_cases e0:wire=0
     . subst e0
       go_enter func136,ntmps136
       go_wp2
       go_ret
       exact⟨zag (by unfold zao;exact(decide_eq_true (by omega)).symm),rfl⟩
     . by_cases e1:wire=1
       . subst e1
         go_enter func136,ntmps136
         go_wp2
         go_ret
         exact⟨zag (by unfold zao;exact(decide_eq_true (by omega)).symm),rfl⟩
       . by_cases e2:wire=2
         . subst e2
           go_enter func136,ntmps136
           go_wp2
           go_ret
           exact⟨zag (by unfold zao;exact(decide_eq_true (by omega)).symm),rfl⟩
         . have q0:(wire==0)=false:=by simp;omega
           have q1:(wire==1)=false:=by simp;omega
           have q2:(wire==2)=false:=by simp;omega
           go_enter func136,ntmps136
           go_wp2
           go_ret
           refine⟨zag ?_,rfl⟩;unfold zao;rw[Bool.eq_iff_iff];simp only[beq_iff_eq,decide_eq_true_eq];omega
   . go_enter func136,ntmps136
     go_wp2
     go_ret
     exact⟨zag (by unfold zao;exact(decide_eq_false (by omega)).symm),rfl⟩
 . go_enter func136,ntmps136
   go_wp2
   go_ret
   exact⟨zag (by unfold zao;exact(decide_eq_false (by omega)).symm),rfl⟩
theorem zoY(number wire:Int)(w:World):
 Calls prog 172 #[.agg #[.int .i64 number,.int .i64 wire]] w fun e w'=>e=.returned (.bool (zao number wire))/\Ext w w':=by
 by_cases h1:(1:Int)<=number
 . by_cases h2:number<=(536870911:Int)
   . by_cases h3:(0:Int)<=wire
     . by_cases h4:wire<(8:Int)
       . rcases(show wire=0\/wire=1\/wire=2\/wire=3\/wire=4\/wire=5\/wire=6\/wire=7 by omega)with h|h|h|h|h|h|h|h
         all_goals
          subst h
          go_enter func172,ntmps172
          go_wp2
          go_ret
          exact⟨zag (by unfold zao;first|exact(decide_eq_true (by omega)).symm|exact(decide_eq_false (by omega)).symm),(Ext.refl _).alloc _⟩
       . go_enter func172,ntmps172
         go_wp2
         go_ret
         exact⟨zag (by unfold zao;exact(decide_eq_false (by omega)).symm),(Ext.refl _).alloc _⟩
     . go_enter func172,ntmps172
       go_wp2
       go_ret
       exact⟨zag (by unfold zao;exact(decide_eq_false (by omega)).symm),(Ext.refl _).alloc _⟩
   . go_enter func172,ntmps172
     go_wp2
     go_ret
     exact⟨zag (by unfold zao;exact(decide_eq_false (by omega)).symm),(Ext.refl _).alloc _⟩
 . go_enter func172,ntmps172
   go_wp2
   go_ret
   exact⟨zag (by unfold zao;exact(decide_eq_false (by omega)).symm),(Ext.refl _).alloc _⟩
variable{T V:Nat}
theorem tRead(hb:zab w A n c bs)(ht:tagV bs=(T,V,N,C)):
 Calls prog 178 #[.slice A n c] w fun e w'=>e=.returned (.tuple #[.agg #[.int .i64 T,.int .i64 V],.int .i64 N,.int .u8 C])/\Ext w w':=by
 rcases hv:readV bs with⟨W,M,E⟩
 have hbd:=(zbt bs).1;have hE4:=(zbt bs).2.2.2.1;rw[hv]at hbd hE4;simp only at hbd hE4;unfold tagV at ht;rw[hv]at ht;simp only at ht;have Hv:=zsp hv;clear hv;have hb':∀o:Obj,zab (w.alloc o) A n c bs:=fun o=>hb.ext ((Ext.refl _).alloc o)
 have Hb:=zsp hb';clear hb';by_cases hE:E=0
 . subst hE
   rw[if_neg (by simp)]at ht;have h7:=and7 W hbd;by_cases hbig:(536870911:Int)<(W:Int) / 8
   . have hr:zao ((W / 8:Nat):Int) ((W % 8:Nat):Int)=false:=by unfold zao;exact decide_eq_false (by omega)
     rw[hr,if_neg (by simp)]at ht;simp only[Prod.mk.injEq]at ht;obtain⟨rfl,rfl,rfl,rfl⟩:=ht;clear hr
     go_enter func178,ntmps178
     go_wp2_with (go_at_call 152;refine(vRead (Hb.out _) Hv.out).mono ?_;rintro e w' ⟨rfl,rfl⟩)
     exact bodyPost_ret (v:=.tuple #[.agg #[.int .i64 0,.int .i64 0],.int .i64 0,.int .u8 5]) (by simp[results,results178,go_sem]) rfl ⟨rfl,(Ext.refl _).alloc _⟩
   . have hcell:∀(w1:World)(E1:Ext ((w.alloc (.cells #[.int .i64 0,.int .i64 0] 237)).alloc (.cells #[.int .i64 ((W:Int) / 8),.int .i64 ((W:Int) % 8)] 237)) w1),
      (w1.cell? ⟨w.heap.size,0,none⟩=some (.int .i64 0)/\w1.cell? ⟨w.heap.size,1,none⟩=some (.int .i64 0)/\w1.cell? ⟨w.heap.size+1,0,none⟩=some (.int .i64 ((W:Int) / 8))/\w1.cell? ⟨w.heap.size+1,1,none⟩=some (.int .i64 ((W:Int) % 8)))/\
      w1.frozen? ⟨w.heap.size,0,none⟩=false/\w1.frozen? ⟨w.heap.size,1,none⟩=false/\w.heap.size<w1.heap.size/\Ext w w1:=fun w1 E1=>by
      have h:=zaF E1;exact⟨⟨h.1 0,h.1 1,h.2.1 0,h.2.1 1⟩,h.2.2.1 0,h.2.2.1 1,by have:=h.2.2.2.2;omega,((Ext.refl w).alloc _|>.alloc _).trans E1⟩
     have Hc:=zsp hcell;clear hcell;by_cases hr:zao ((W / 8:Nat):Int) ((W % 8:Nat):Int)=true
     . rw[if_pos hr]at ht
       simp only[Prod.mk.injEq]at ht;obtain⟨rfl,rfl,rfl,rfl⟩:=ht;have hr':zao ((W:Int) / 8) ((W:Int) % 8)=true:=hr;clear hr
       go_enter func178,ntmps178
       go_wp2_with (first|(go_at_call 152;refine(vRead (Hb.out _) Hv.out).mono ?_;rintro e w' ⟨rfl,rfl⟩)|(go_at_call 172;refine(zoY _ _ _).mono ?_;rintro e w1 ⟨rfl,E1⟩;obtain⟨⟨c1,c2,c3,c4⟩,f1,f2,hlt,E2⟩:=Hc.out w1 E1))
       exact bodyPost_ret (v:=.tuple #[.agg #[.int .i64 ((W:Int) / 8),.int .i64 ((W:Int) % 8)],.int .i64 M,.int .u8 0]) (by simp[results,results178,go_sem,c1,c2]) rfl ⟨rfl,(E2.setCell (Nat.le_refl _) _).setCell (Nat.le_refl _) _⟩
     . have hr0:zao ((W / 8:Nat):Int) ((W % 8:Nat):Int)=false:=by simpa using hr
       rw[if_neg hr]at ht;simp only[Prod.mk.injEq]at ht;obtain⟨rfl,rfl,rfl,rfl⟩:=ht;have hr':zao ((W:Int) / 8) ((W:Int) % 8)=false:=hr0;clear hr hr0
       go_enter func178,ntmps178
       go_wp2_with (first|(go_at_call 152;refine(vRead (Hb.out _) Hv.out).mono ?_;rintro e w' ⟨rfl,rfl⟩)|(go_at_call 172;refine(zoY _ _ _).mono ?_;rintro e w1 ⟨rfl,E1⟩;obtain⟨⟨c1,c2,c3,c4⟩,f1,f2,hlt,E2⟩:=Hc.out w1 E1))
       exact bodyPost_ret (v:=.tuple #[.agg #[.int .i64 0,.int .i64 0],.int .i64 0,.int .u8 5]) (by simp[results,results178,go_sem,c1,c2]) rfl ⟨rfl,(E2.setCell (Nat.le_refl _) _).setCell (Nat.le_refl _) _⟩
 . have q:((E:Int) !=0)=true:=by simp;omega
   rw[if_pos hE]at ht;simp only[Prod.mk.injEq]at ht;obtain⟨rfl,rfl,rfl,rfl⟩:=ht
   go_enter func178,ntmps178
   go_wp2_with (go_at_call 152;refine(vRead (Hb.out _) Hv.out).mono ?_;rintro e w' ⟨rfl,rfl⟩)
   exact bodyPost_ret (v:=.tuple #[.agg #[.int .i64 0,.int .i64 0],.int .i64 0,.int .u8 E]) (by simp[results,results178,go_sem]) rfl ⟨rfl,(Ext.refl _).alloc _⟩
theorem zfJ(hb:zab w A n c bs)(hat:at_=p)(hp:p<=n)(hn:n<=9000000000000000000)(ht:tagV (bs.drop p)=(T,V,N,C)):
 Calls prog 96 #[.slice A n c,.int .i64 at_] w fun e w'=>e=.returned (.tuple #[.int .i64 T,.int .i64 V,.int .i64 N,.int .i64 C])/\w=w':=by
 rcases hv:readV (bs.drop p)with⟨W,M,E⟩
 have hbd:=(zbt (bs.drop p)).1;have hE4:=(zbt (bs.drop p)).2.2.2.1;rw[hv]at hbd hE4;simp only at hbd hE4;unfold tagV at ht;rw[hv]at ht;simp only at ht;have Hv:=zsp hv;have Hat:=zsp hat;clear hv hat;by_cases hE:E=0
 . subst hE
   rw[if_neg (by simp)]at ht;by_cases hbig:(4294967295:Int)<(W:Int)
   . have hr:zao ((W / 8:Nat):Int) ((W % 8:Nat):Int)=false:=by unfold zao;exact decide_eq_false (by omega)
     rw[hr,if_neg (by simp)]at ht;simp only[Prod.mk.injEq]at ht;obtain⟨rfl,rfl,rfl,rfl⟩:=ht;clear hr
     go_enter func96,ntmps96
     go_wp2_with (go_at_call 73;refine(zeI hb Hat.out hp hn Hv.out).mono ?_;rintro e w' ⟨rfl,rfl⟩)
     exact bodyPost_ret (v:=.tuple #[.int .i64 0,.int .i64 0,.int .i64 0,.int .i64 5]) (by simp[results,results96,go_sem]) rfl ⟨rfl,rfl⟩
   . by_cases hr:zao ((W / 8:Nat):Int) ((W % 8:Nat):Int)=true
     . rw[if_pos hr]at ht
       simp only[Prod.mk.injEq]at ht;obtain⟨rfl,rfl,rfl,rfl⟩:=ht;have hr':zao ((W:Int) / 8) ((W:Int) % 8)=true:=hr;clear hr
       go_enter func96,ntmps96
       go_wp2_with (first|(go_at_call 73;refine(zeI hb Hat.out hp hn Hv.out).mono ?_;rintro e w' ⟨rfl,rfl⟩)|(go_at_call 136;refine(zoX _ _ _).mono ?_;rintro e w' ⟨rfl,rfl⟩))
       exact bodyPost_ret (v:=.tuple #[.int .i64 ((W:Int) / 8),.int .i64 ((W:Int) % 8),.int .i64 M,.int .i64 0]) (by simp[results,results96,go_sem]) rfl ⟨rfl,rfl⟩
     . have hr0:zao ((W / 8:Nat):Int) ((W % 8:Nat):Int)=false:=by simpa using hr
       rw[if_neg hr]at ht;simp only[Prod.mk.injEq]at ht;obtain⟨rfl,rfl,rfl,rfl⟩:=ht;have hr':zao ((W:Int) / 8) ((W:Int) % 8)=false:=hr0;clear hr hr0
       go_enter func96,ntmps96
       go_wp2_with (first|(go_at_call 73;refine(zeI hb Hat.out hp hn Hv.out).mono ?_;rintro e w' ⟨rfl,rfl⟩)|(go_at_call 136;refine(zoX _ _ _).mono ?_;rintro e w' ⟨rfl,rfl⟩))
       exact bodyPost_ret (v:=.tuple #[.int .i64 0,.int .i64 0,.int .i64 0,.int .i64 5]) (by simp[results,results96,go_sem]) rfl ⟨rfl,rfl⟩
 . have q:((E:Int) !=0)=true:=by simp;omega
   rw[if_pos hE]at ht;simp only[Prod.mk.injEq]at ht;obtain⟨rfl,rfl,rfl,rfl⟩:=ht
   go_enter func96,ntmps96
   go_wp2_with (go_at_call 73;refine(zeI hb Hat.out hp hn Hv.out).mono ?_;rintro e w' ⟨rfl,rfl⟩)
   exact bodyPost_ret (v:=.tuple #[.int .i64 0,.int .i64 0,.int .i64 0,.int .i64 E]) (by simp[results,results96,go_sem]) rfl ⟨rfl,rfl⟩
variable{number wire:Int}
theorem zgK(h:zao number wire=true):1<=number/\number<=536870911/\0<=wire/\wire<=5:=by
 unfold zao at h;have:=of_decide_eq_true h;omega
def tagB(number wire:Int):List UInt8:=Lib.uvarint (8*number+wire).toNat
theorem zhG(h:zao number wire=true):1<=(tagB number wire).length/\(tagB number wire).length<=5:=by
 have hb:=zgK h;refine⟨Lib.uvarint_pos _,Lib.uvarint_length 4 _ ?_⟩;omega
theorem tWord(h:zao number wire=true):
 Calls prog 173 #[.agg #[.int .i64 number,.int .i64 wire]] w fun e w'=>e=.returned (.int .u64 (8*number+wire))/\Ext w w':=by
 obtain⟨h1,h2,h3,h4⟩:=zgK h;have hor:=zrE number wire (by omega) (by omega) h3 (by omega);have Ho:=zsp hor;clear h hor
 go_enter func173,ntmps173
 go_wp2
 go_ret
 exact⟨zbT Ho.out,(Ext.refl _).alloc _⟩
theorem tPut(hb:zab w A n c bs)(hn:n<=1000000000)(h:zao number wire=true):
 Calls prog 145 #[.slice A n c,.agg #[.int .i64 number,.int .i64 wire]] w fun e w'=>∃A' c',e=.returned (.tuple #[.slice A' (n+(tagB number wire).length) c',.int .u8 0])/\Own w w' 5 1 A' (n+(tagB number wire).length) c' ((bs++tagB number wire).map bv):=by
 obtain⟨h1,h2,h3,h4⟩:=zgK h;unfold tagB
 go_enter func145,ntmps145
 go_wp2_with (first|(go_at_call 172;refine(zoY _ _ _).mono ?_;rintro e w1 ⟨rfl,E1⟩;have k:=zfi E1;have c0:w1.cell? ⟨w.heap.size,0,none⟩=some (.int .i64 number):=k.1 0;have c1:w1.cell? ⟨w.heap.size,1,none⟩=some (.int .i64 wire):=k.1 1;clear k)|(go_at_call 173;refine(tWord h).mono ?_;rintro e w2 ⟨rfl,E2⟩)|(go_at_call 147;refine(vPut (hb.ext ((((Ext.refl w).alloc _).trans E1).trans E2)) (by omega) (by omega) (by omega)).mono ?_;rintro e w3 ⟨A3,c3,rfl,own3⟩))
 go_ret2
 exact⟨A3,c3,rfl,own3.since ((((Ext.refl w).alloc _).trans E1).trans E2)⟩
end Go.Proofs.YtlhbllaojjelcaaGreat
