/- Contracts of layer 4. -/
import Derived.Test.YtpicpebolghcfaaGreatDoorQlS4
import Derived.Deep.RegionWith

set_option linter.unusedVariables false
set_option maxRecDepth 100000
set_option maxHeartbeats 4000000
namespace Go.Proofs.YtpicpebolghcfaaGreatDoor
open Go.RowKit Tryz
theorem and31:∀c:Nat,c<256->(bits BinOp.and IntKind.u8 (c:Int) 31=((c % 32:Nat):Int))/\(bits BinOp.and IntKind.u8 (c:Int) 15=((c % 16:Nat):Int))/\(bits BinOp.and IntKind.u8 (c:Int) 7=((c % 8:Nat):Int))/\(bits BinOp.and IntKind.u8 (c:Int) 192=((c / 64*64:Nat):Int))/\(bits BinOp.andNot IntKind.u8 (c:Int) 192=((c % 64:Nat):Int)):=by decide+kernel
theorem uHead(c:Nat)(hc:c<256)(w:World):
 Calls prog 179 #[.int .u8 c] w fun e w'=>e=.returned (.tuple #[.int .i64 ((headN c).1:Nat),.int .i32 ((headN c).2:Nat)])/\w=w':=by
 obtain⟨b1,b2,b3,_,_⟩:=and31 c hc;by_cases h1:(c:Int)<128
 . have e:headN c=(1,c):=if_pos (by omega)
   rw[e];clear e b1 b2 b3
   go_enter func179,ntmps179
   go_wp2
   go_ret2
   exact⟨rfl,rfl⟩
 . by_cases h2:c / 32=6
   . have e:headN c=(2,c % 32):=by unfold headN;rw[if_neg (by omega),if_pos h2]
     have q2:((c:Int) / 32==6)=true:=by simp;omega
     rw[e];clear e b2 b3
     go_enter func179,ntmps179
     go_wp2
     go_ret2
     exact⟨rfl,rfl⟩
   . have q2:((c:Int) / 32==6)=false:=by simp;omega
     by_cases h3:c / 16=14
     . have e:headN c=(3,c % 16):=by unfold headN;rw[if_neg (by omega),if_neg h2,if_pos h3]
       have q3:((c:Int) / 16==14)=true:=by simp;omega
       rw[e];clear e b1 b3
       go_enter func179,ntmps179
       go_wp2
       go_ret2
       exact⟨rfl,rfl⟩
     . have q3:((c:Int) / 16==14)=false:=by simp;omega
       by_cases h4:c / 8=30
       . have e:headN c=(4,c % 8):=by unfold headN;rw[if_neg (by omega),if_neg h2,if_neg h3,if_pos h4]
         have q4:((c:Int) / 8==30)=true:=by simp;omega
         rw[e];clear e b1 b2
         go_enter func179,ntmps179
         go_wp2
         go_ret2
         exact⟨rfl,rfl⟩
       . have e:headN c=(0,0):=by unfold headN;rw[if_neg (by omega),if_neg h2,if_neg h3,if_neg h4]
         have q4:((c:Int) / 8==30)=false:=by simp;omega
         rw[e];clear e b1 b2 b3
         go_enter func179,ntmps179
         go_wp2
         go_ret2
         exact⟨rfl,rfl⟩
theorem zqj(n:Nat)(h:n<=4):∀w:World,(Instr.index 266 (.agg #[.int .i32 0,.int .i32 0,.int .i32 128,.int .i32 2048,.int .i32 65536]) (.int .i64 (n:Nat))).run prog w=.ok (.int .i32 (zcD n:Nat)) w:=by
 rcases(show n=0\/n=1\/n=2\/n=3\/n=4 by omega)with rfl|rfl|rfl|rfl|rfl<;>exact fun _=>by kernel_rfl
theorem zeQ(n:Nat)(h:n<=4)(w:World):
 Calls prog 180 #[.int .i64 n] w fun e w'=>e=.returned (.int .i32 (zcD n:Nat))/\w=w':=by
 have hi:=zqj n h
 go_enter func180,ntmps180
 go_wp2
 go_ret
 exact⟨rfl,rfl⟩
theorem znI(r x:Nat)(hr:r<32768)(hx:x<64):bits BinOp.or IntKind.i32 ((r:Int)*64) (x:Int)=((r*64+x:Nat):Int):=by
 have e:((r:Int)*64)=((r*64:Nat):Int):=by omega
 have ho:r*64|||x=r*64+x:=nat_join 6 _ _ (by omega) (by omega);rw[e];show IntKind.i32.wrap ((BitVec.ofInt 32 ((r*64:Nat):Int)|||BitVec.ofInt 32 (x:Int)).toNat:Int)=_;rw[BitVec.toNat_or,ofInt_u32 _ (by omega),ofInt_u32 _ (by omega),ho,IntKind.wrap_i32];omega
theorem zqk(y:Nat)(h:y / 64=2):(((y:Nat):Int) / 64*64 !=128)=false:=by
 have:((y:Nat):Int) / 64=2:=by omega
 rw[this];rfl
theorem zrm(y:Nat)(h:¬y / 64=2):(((y:Nat):Int) / 64*64 !=128)=true:=by
 simp;omega
variable{w:World}{bs:List UInt8}{n c:Nat}{A:Option Addr}
theorem uNext(hb:zac w A n c bs):
 Calls prog 176 #[.slice A n c] w fun e w'=>e=.returned (.int .i64 (nextU bs:Nat))/\w=w':=by
 have hmax:=Reads.max hb;have hcap:=Reads.cap hb;have hl:=hb.length;unfold maxLen at hmax
 cases bs with
 |nil=>
  have h0:n=0:=by simpa using hl.symm
  subst h0
  go_enter func176,ntmps176
  go_wp2
  go_ret
  exact⟨rfl,rfl⟩
 |cons b t=>
  have hn:0<n:=by simp at hl;omega
  obtain⟨bb,off,x,rfl,hx,hcell⟩:=hb.byte hn;have hxb:x=b:=by simpa using hx.symm
  subst hxb;have hlt:n=t.length+1:=by simpa using hl.symm
  rcases hh:headN x.toNat with⟨m,r⟩
  have hbd:=zlT x.toNat x.toNat_lt;have hcons:=zfP x t;rw[hh]at hbd hcons;obtain⟨hm4,hr128,hpow⟩:=hbd;simp only at hm4 hr128 hpow hcons;have hc0:w.cell? ⟨bb,off,none⟩=some (.int .u8 (x.toNat:Int)):=hcell;have q0:((n:Int)==0)=false:=by simp;omega
  have Hc:=zsz hcons;have Hh:=zsz hh
  have hcall:∀w0:World,Calls prog 179 #[.int .u8 (x.toNat:Int)] w0 fun e w'=>e=.returned (.tuple #[.int .i64 (m:Nat),.int .i32 (r:Nat)])/\w0=w':=by
   intro w0;have:=uHead x.toNat x.toNat_lt w0
   rwa[hh]at this
  clear hcons hh hcell hx hl;by_cases hm0:m=0\/n<m
  . have fin:nextU (x::t)=0:=by rw[Hc.out,if_pos (by omega)]
    rw[fin];clear fin
    have qq:((m:Int)==0)=true\/((m:Int)==0)=false/\(n:Int)<m:=by
     by_cases h:m=0
     . left;simp[h]
     . right;simp[h];omega
    clear hm0;rcases qq with q|⟨q,q2⟩
    . go_enter func176,ntmps176
      go_wp2_with (go_at_call 179;refine(hcall _).mono ?_;rintro e w1 ⟨rfl,rfl⟩)
      go_ret
      exact⟨rfl,rfl⟩
    . go_enter func176,ntmps176
      go_wp2_with (go_at_call 179;refine(hcall _).mono ?_;rintro e w1 ⟨rfl,rfl⟩)
      go_ret
      exact⟨rfl,rfl⟩
  . have q:((m:Int)==0)=false:=by simp;omega
    have q2:¬(n:Int)<m:=by omega
    have HM:=zsz (show¬(m=0\/n<m)from hm0);by_cases hc1:c=1
    . subst hc1
      have HT:=zsz hlt;clear hlt;have hmc:(m:Int)<=1:=by omega
      have hm1:(1:Int)<=m:=by omega
      go_enter func176,ntmps176
      go_wp2_with (go_at_call 179;refine(hcall _).mono ?_;rintro e w1 ⟨rfl,rfl⟩)
      go_loop [4,29] (fun u v=>∃j:Nat,j<=m - 1/\u=.int .i32 (joinN r (t.take j):Nat)/\v=.int .i64 (j:Nat)/\(t.take j).all tailB=true) (fun _ v=>m - (intOf v).toNat)
      case atStart=>exact⟨0,by omega,rfl,rfl,rfl⟩
      case round=>
       obtain⟨j,hj,rfl,rfl,hall⟩:=hrel;have HA:=zsz hall;clear hall;by_cases hjm:(j:Int)<(m:Int) - 1
       . exfalso;omega
       . have hjm1:j=m - 1:=by omega
         have hall:=HA.out
         have hfin:nextU (x::t)=if zbA m (joinN r (t.take j))=true then m else 0:=by
          rw[Hc.out,if_neg (by have:=HM.out;have:=HT.out;omega)];rw[hjm1]at hall⊢;by_cases hp:zbA m (joinN r (t.take (m - 1)))=true
          . rw[if_pos ⟨hall,hp⟩,if_pos hp]
          . rw[if_neg (fun h=>hp h.2),if_neg hp]
         have hR:joinN r (t.take j)<2097152:=by
          have h1:=zdl (t.take j) r;have hlen:(t.take j).length<=m - 1:=by rw[List.length_take];omega
          have h2:(r+1)*64^(t.take j).length<=(r+1)*64^(m - 1):=Nat.mul_le_mul_left _ (Nat.pow_le_pow_right (by decide) hlen);omega
         generalize joinN r (t.take j)=R at hR hfin;have hmj:¬(j:Int)<((m - 1:Nat):Int):=by omega
         have Hpow:=zsz hpow;have Hjm:=zsz hjm1;clear hpow hall hjm hjm1
         have hL:zcD m<=65536:=by unfold zcD;repeat' split
                                  all_goals omega
         by_cases a1:(R:Int)<(zcD m:Nat)
         . have hp:zbA m R=false:=by unfold zbA;simp;omega
           rw[hp]at hfin;have Hf:=zsz hfin;clear hfin hp
           go_wp2_with (go_at_call 180;refine(zeQ m hm4 _).mono ?_;rintro e w1 ⟨rfl,rfl⟩)
           go_ret
           rw[Hf.out];exact⟨rfl,rfl⟩
         . by_cases a2:(1114111:Int)<R
           . have hp:zbA m R=false:=by unfold zbA;simp;omega
             rw[hp]at hfin;have Hf:=zsz hfin;clear hfin hp
             go_wp2_with (go_at_call 180;refine(zeQ m hm4 _).mono ?_;rintro e w1 ⟨rfl,rfl⟩)
             go_ret
             rw[Hf.out];exact⟨rfl,rfl⟩
           . by_cases a3:(55296:Int)<=R
             . by_cases a4:(R:Int)<=57343
               . have hp:zbA m R=false:=by unfold zbA;simp;omega
                 rw[hp]at hfin;have Hf:=zsz hfin;clear hfin hp
                 go_wp2_with (go_at_call 180;refine(zeQ m hm4 _).mono ?_;rintro e w1 ⟨rfl,rfl⟩)
                 go_ret
                 rw[Hf.out];exact⟨rfl,rfl⟩
               . have hp:zbA m R=true:=(zbH _ _).2 (by omega)
                 have hq:decide ((R:Int)<=57343)=false:=decide_eq_false a4;have hq3:decide ((55296:Int)<=R)=true:=decide_eq_true a3;have HA3:=zsz a3;rw[hp]at hfin;have Hf:=zsz hfin;clear hfin hp a4 a3
                 go_wp2_with (go_at_call 180;refine(zeQ m hm4 _).mono ?_;rintro e w1 ⟨rfl,rfl⟩)
                 go_ret
                 rw[Hf.out];exact⟨rfl,rfl⟩
             . have hp:zbA m R=true:=(zbH _ _).2 (by omega)
               have hq3:decide ((55296:Int)<=R)=false:=decide_eq_false a3;rw[hp]at hfin;have Hf:=zsz hfin;clear hfin hp a3
               go_wp2_with (go_at_call 180;refine(zeQ m hm4 _).mono ?_;rintro e w1 ⟨rfl,rfl⟩)
               go_ret
               rw[Hf.out];exact⟨rfl,rfl⟩
    . have HT:=zsz hlt
      clear hlt;have hmc:(m:Int)<=c:=by omega
      have hm1:(1:Int)<=m:=by omega
      go_enter func176,ntmps176
      go_wp2_with (go_at_call 179;refine(hcall _).mono ?_;rintro e w1 ⟨rfl,rfl⟩)
      go_loop [4,29] (fun u v=>∃j:Nat,j<=m - 1/\u=.int .i32 (joinN r (t.take j):Nat)/\v=.int .i64 (j:Nat)/\(t.take j).all tailB=true) (fun _ v=>m - (intOf v).toNat)
      case atStart=>exact⟨0,by omega,rfl,rfl,rfl⟩
      case round=>
       obtain⟨j,hj,rfl,rfl,hall⟩:=hrel;have HA:=zsz hall;clear hall;by_cases hjm:(j:Int)<(m:Int) - 1
       . have hjn:j+1<n:=by omega
         obtain⟨bb2,off2,y,e2,hy,hcell⟩:=hb.byte hjn;obtain⟨rfl,rfl⟩:bb=bb2/\off=off2:=by simpa using e2
         have hcy:w.cell? ⟨bb,off+1+j,none⟩=some (.int .u8 (y.toNat:Int)):=by rw[show off+1+j=off+(j+1)by omega];exact hcell
         have hyt:t[j]?=some y:=by simpa using hy
         have hs:=List.take_add_one (l:=t) (i:=j);rw[hyt]at hs;have hy256:=y.toNat_lt;obtain⟨_,_,_,b4,b5⟩:=and31 y.toNat y.toNat_lt
         have hR:joinN r (t.take j)<32768:=by
          have h1:=zdl (t.take j) r;have hlen:(t.take j).length=j:=by have:=HT.out;rw[List.length_take];omega
          rw[hlen]at h1
          have h2:(r+1)*64^j*64<=(r+1)*64^(m - 1):=by
           rw[Nat.mul_assoc,<-Nat.pow_succ];exact Nat.mul_le_mul_left _ (Nat.pow_le_pow_right (by decide) (by omega))
          omega
         generalize hRR:joinN r (t.take j)=R at hR;have Hs:=zsz hs;have HR:=zsz hRR;clear hs hRR hcell hy hyt;have Hpow:=zsz hpow;clear hpow;by_cases ht:y.toNat / 64=2
         . have htest:=zqk y.toNat ht
           have hor:=znI R (y.toNat % 64) hR (by omega)
           go_wp2
           go_round
           case rel=>
            refine⟨j+1,by omega,?_,by go_num,?_⟩
            . rw[Hs.out]
              simp only[Option.toList];rw[zcT,HR.out];exact congrArg (Value.int .i32) (by omega)
            . rw[Hs.out]
              simp only[Option.toList,List.all_append,HA.out,List.all_cons,List.all_nil,Bool.true_and,Bool.and_true];exact decide_eq_true ht
           case measure=>simp[intOf];omega
         . have htest:=zrm y.toNat ht
           have fin:nextU (x::t)=0:=by
            rw[Hc.out,if_neg (by have:=HM.out;have:=HT.out;omega),if_neg];rintro⟨h,_⟩;have hall:=List.all_eq_true.1 h y
            have hmem:y∈t.take (m - 1):=by
             have hj1:t.take (j+1)=(t.take (m - 1)).take (j+1):=by rw[List.take_take,Nat.min_eq_left (by omega)]
             have:y∈t.take (j+1):=by rw[Hs.out];simp
             rw[hj1]at this;exact List.mem_of_mem_take this
            exact ht (of_decide_eq_true (hall hmem))
           have Hf:=zsz fin;clear fin ht
           go_wp2
           go_ret
           rw[Hf.out];exact⟨rfl,rfl⟩
       . have hjm1:j=m - 1:=by omega
         have hall:=HA.out
         have hfin:nextU (x::t)=if zbA m (joinN r (t.take j))=true then m else 0:=by
          rw[Hc.out,if_neg (by have:=HM.out;have:=HT.out;omega)];rw[hjm1]at hall⊢;by_cases hp:zbA m (joinN r (t.take (m - 1)))=true
          . rw[if_pos ⟨hall,hp⟩,if_pos hp]
          . rw[if_neg (fun h=>hp h.2),if_neg hp]
         have hR:joinN r (t.take j)<2097152:=by
          have h1:=zdl (t.take j) r;have hlen:(t.take j).length<=m - 1:=by rw[List.length_take];omega
          have h2:(r+1)*64^(t.take j).length<=(r+1)*64^(m - 1):=Nat.mul_le_mul_left _ (Nat.pow_le_pow_right (by decide) hlen);omega
         generalize joinN r (t.take j)=R at hR hfin;have hmj:¬(j:Int)<((m - 1:Nat):Int):=by omega
         have Hpow:=zsz hpow;have Hjm:=zsz hjm1;clear hpow hall hjm hjm1
         have hL:zcD m<=65536:=by unfold zcD;repeat' split
                                  all_goals omega
         by_cases a1:(R:Int)<(zcD m:Nat)
         . have hp:zbA m R=false:=by unfold zbA;simp;omega
           rw[hp]at hfin;have Hf:=zsz hfin;clear hfin hp
           go_wp2_with (go_at_call 180;refine(zeQ m hm4 _).mono ?_;rintro e w1 ⟨rfl,rfl⟩)
           go_ret
           rw[Hf.out];exact⟨rfl,rfl⟩
         . by_cases a2:(1114111:Int)<R
           . have hp:zbA m R=false:=by unfold zbA;simp;omega
             rw[hp]at hfin;have Hf:=zsz hfin;clear hfin hp
             go_wp2_with (go_at_call 180;refine(zeQ m hm4 _).mono ?_;rintro e w1 ⟨rfl,rfl⟩)
             go_ret
             rw[Hf.out];exact⟨rfl,rfl⟩
           . by_cases a3:(55296:Int)<=R
             . by_cases a4:(R:Int)<=57343
               . have hp:zbA m R=false:=by unfold zbA;simp;omega
                 rw[hp]at hfin;have Hf:=zsz hfin;clear hfin hp
                 go_wp2_with (go_at_call 180;refine(zeQ m hm4 _).mono ?_;rintro e w1 ⟨rfl,rfl⟩)
                 go_ret
                 rw[Hf.out];exact⟨rfl,rfl⟩
               . have hp:zbA m R=true:=(zbH _ _).2 (by omega)
                 have hq:decide ((R:Int)<=57343)=false:=decide_eq_false a4;have hq3:decide ((55296:Int)<=R)=true:=decide_eq_true a3;have HA3:=zsz a3;rw[hp]at hfin;have Hf:=zsz hfin;clear hfin hp a4 a3
                 go_wp2_with (go_at_call 180;refine(zeQ m hm4 _).mono ?_;rintro e w1 ⟨rfl,rfl⟩)
                 go_ret
                 rw[Hf.out];exact⟨rfl,rfl⟩
             . have hp:zbA m R=true:=(zbH _ _).2 (by omega)
               have hq3:decide ((55296:Int)<=R)=false:=decide_eq_false a3;rw[hp]at hfin;have Hf:=zsz hfin;clear hfin hp a3
               go_wp2_with (go_at_call 180;refine(zeQ m hm4 _).mono ?_;rintro e w1 ⟨rfl,rfl⟩)
               go_ret
               rw[Hf.out];exact⟨rfl,rfl⟩
def zeo(bs:List UInt8)(room p k:Nat):Prop:=
 p<=bs.length/\p<=room/\k<=p/\walkV bs room=(p+(walkV (bs.drop p) (room - p)).1,k+(walkV (bs.drop p) (room - p)).2)
theorem zeo.zero(bs:List UInt8)(room:Nat):zeo bs room 0 0:=⟨Nat.zero_le _,Nat.zero_le _,Nat.le_refl _,by simp⟩
variable{p:Nat}
theorem zeo.stop{room k:Nat}(h:zeo bs room p k)(hs:nextU (bs.drop p)=0\/room<p+nextU (bs.drop p)):walkV bs room=(p,k):=by
 rw[h.2.2.2,zmW (bs:=bs.drop p) (room:=room - p) (by have:=h.2.1;omega)];rfl
theorem zeo.step{bs:List UInt8}{room p k:Nat}(h:zeo bs room p k)(hs:¬(nextU (bs.drop p)=0\/room<p+nextU (bs.drop p))):zeo bs room (p+nextU (bs.drop p)) (k+1):=by
 have hl:=zfm (bs.drop p);rw[List.length_drop]at hl;obtain⟨h1,h2,h3,h4⟩:=h;refine⟨by omega,by omega,by omega,?_⟩;rw[h4,zmX (bs:=bs.drop p) (room:=room - p) (by omega),List.drop_drop,Nat.sub_sub];simp only[Prod.mk.injEq];omega
variable{room:Int}
theorem uWalk(hb:zac w A n c bs)(hr: -9223372036854775808<=room/\room<9223372036854775808):
 Calls prog 171 #[.slice A n c,.int .i64 room] w fun e w'=>e=.returned (.tuple #[.int .i64 ((walkV bs room.toNat).1:Nat),.int .i64 ((walkV bs room.toNat).2:Nat)])/\w=w':=by
 have hl:=hb.length;have hmax:=Reads.max hb;have hcap:=Reads.cap hb;unfold maxLen at hmax
 go_enter func171,ntmps171
 go_wp2
 go_loop [6,7] (fun u v=>∃p k:Nat,u=.int .i64 (p:Nat)/\v=.int .i64 (k:Nat)/\zeo bs room.toNat p k) (fun u _=>n - (intOf u).toNat)
 case atStart=>exact⟨0,0,rfl,rfl,zeo.zero _ _⟩
 case round=>
  obtain⟨p,k,rfl,rfl,hW⟩:=hrel;obtain⟨A2,hcut,hr2⟩:=zbx elemB hb .i64 (l:=p) (by have:=hW.1;omega)
  have hb2:zac w A2 (n - p) (c - p) (bs.drop p):=by
   have h:=hr2;simp only[Nat.mul_one,<-List.map_drop]at h;exact h
  have hpn:p<=n:=by have:=hW.1;omega
  have hkp:=hW.2.2.1;have hnl:=zfm (bs.drop p);rw[List.length_drop,hl]at hnl;obtain⟨hnl1,hnl2⟩:=hnl;have hst:=hW.stop;have hsp:=hW.step;have HW:=zsz hW;clear hr2 hW;generalize hN:nextU (bs.drop p)=N at hnl1 hnl2 hst hsp
  have hcall:∀w0,w0=w->Calls prog 176 #[.slice A2 (n - p) (c - p)] w0 fun e w'=>e=.returned (.int .i64 (N:Nat))/\w0=w':=by
   intro w0 h;subst h;have:=uNext hb2
   rwa[hN]at this
  by_cases h0:N=0
  . have q:((N:Int)==0)=true:=by simp;omega
    have hf:=hst (.inl h0);have Hf:=zsz hf;clear hst hsp hf h0 hN hl
    go_wp2_with (go_at_call 176;refine(hcall _ rfl).mono ?_;rintro e w1 ⟨rfl,rfl⟩)
    go_ret2
    rw[Hf.out];exact⟨rfl,rfl⟩
  . have q:((N:Int)==0)=false:=by simp;omega
    by_cases h1:room<(p:Int)+N
    . have hf:=hst (.inr (by omega))
      have Hf:=zsz hf;clear hst hsp hf h0 hN hl
      go_wp2_with (go_at_call 176;refine(hcall _ rfl).mono ?_;rintro e w1 ⟨rfl,rfl⟩)
      go_ret2
      rw[Hf.out];exact⟨rfl,rfl⟩
    . have hs:=hsp (by omega)
      have Hs:=zsz hs;clear hst hsp hs hN hl
      go_wp2_with (go_at_call 176;refine(hcall _ rfl).mono ?_;rintro e w1 ⟨rfl,rfl⟩)
      go_round
      case rel=>exact⟨p+N,k+1,by go_num,by go_num,Hs.out⟩
      case measure=>simp[intOf];omega
theorem zsb(hb:zac w A n c bs):
 Calls prog 166 #[.slice A n c] w fun e w'=>e=.returned (.int .i64 ((walkV bs bs.length).1:Nat))/\w=w':=by
 have hl:=hb.length;have hmax:=Reads.max hb;have hcap:=Reads.cap hb;unfold maxLen at hmax;have hw:=uWalk (room:=(n:Int)) hb (by omega);rw[show((n:Int)).toNat=bs.length from hl.symm]at hw;clear hl
 go_enter func166,ntmps166
 go_wp2_with (go_at_call 171;refine hw.mono ?_;rintro e w1 ⟨rfl,rfl⟩)
 go_ret
 exact⟨rfl,rfl⟩
theorem zqJ(hb:zac w A n c bs):
 Calls prog 153 #[.slice A n c] w fun e w'=>e=.returned (.bool (zca bs))/\w=w':=by
 have hl:=hb.length
 have hr:zca bs=(((walkV bs bs.length).1:Int)==(n:Int)):=by
  unfold zca;rw[Bool.eq_iff_iff];simp;omega
 rw[hr];clear hr hl
 go_enter func153,ntmps153
 go_wp2_with (go_at_call 166;refine(zsb hb).mono ?_;rintro e w1 ⟨rfl,rfl⟩)
 go_ret
 exact⟨rfl,rfl⟩
theorem uPutR{r:Int}{R:Nat}(hR:r=R)(h64:R<9223372036854775808)(w:World):
 Calls prog 159 #[.int .i64 r] w fun e w'=>∃A' c',e=.returned (.slice A' (putU R).length c')/\Own w w' 5 1 A' (putU R).length c' ((putU R).map bv):=by
 have hr0:0<=r:=by omega
 have hr64:r<9223372036854775808:=by omega
 by_cases a2:(1114111:Int)<r
 . have e:putU R=[]:=by unfold putU;rw[if_pos (by omega)]
   rw[e];clear e hR
   go_enter func159,ntmps159
   go_wp2
   go_ret
   exact⟨none,0,rfl,Own.nil (Ext.refl _) 5 1⟩
 . by_cases a3:(55296:Int)<=r/\r<=57343
   . obtain⟨a3,a4⟩:=a3
     have e:putU R=[]:=by unfold putU;rw[if_pos (by omega)]
     rw[e];clear e hR
     go_enter func159,ntmps159
     go_wp2
     go_ret
     exact⟨none,0,rfl,Own.nil (Ext.refl _) 5 1⟩
   . by_cases b1:r<128
     . have q3:decide ((55296:Int)<=r)=false:=decide_eq_false (by omega)
       have e:putU R=[(R).toUInt8]:=by unfold putU;rw[if_neg (by omega),if_pos (by omega)]
       have hmap:(putU R).map bv=[.int .u8 (r)]:=by
        rw[e];simp only[List.map_cons,List.map_nil];rw[bv_of _ (show R<256 by omega)];simp only[List.cons.injEq,Value.int.injEq,true_and,and_true];omega
       have hlen:(putU R).length=1:=by rw[e];rfl
       rw[hmap,hlen]
       have own:∀vs:List Value,vs=[.int .u8 (r)]->Own w (w.alloc (.cells vs.toArray 5)) 5 1 (some ⟨w.heap.size,0,none⟩) 1 1 [.int .u8 (r)]:=by
        intro vs h;subst h;exact Own.made (Ext.refl w) 5 1 (by unfold maxLen;omega) rfl
       have q2:decide ((1114111:Int)<r)=false:=decide_eq_false a2;clear e hmap hlen hR a3 a2
       go_enter func159,ntmps159
       go_wp2
       go_ret
       exact⟨_,_,rfl,own _ rfl⟩
     . by_cases b2:r<2048
       . have q3:decide ((55296:Int)<=r)=false:=decide_eq_false (by omega)
         have e:putU R=[(192+R / 64).toUInt8,(128+R % 64).toUInt8]:=by unfold putU;rw[if_neg (by omega),if_neg (by omega),if_pos (by omega)]
         have hmap:(putU R).map bv=[.int .u8 (192+r / 64),.int .u8 (128+r % 64)]:=by
          rw[e];simp only[List.map_cons,List.map_nil];rw[bv_of _ (show 192+R / 64<256 by omega),bv_of _ (show 128+R % 64<256 by omega)];simp only[List.cons.injEq,Value.int.injEq,true_and,and_true];omega
         have hlen:(putU R).length=2:=by rw[e];rfl
         rw[hmap,hlen]
         have own:∀vs:List Value,vs=[.int .u8 (192+r / 64),.int .u8 (128+r % 64)]->Own w (w.alloc (.cells vs.toArray 5)) 5 1 (some ⟨w.heap.size,0,none⟩) 2 2 [.int .u8 (192+r / 64),.int .u8 (128+r % 64)]:=by
          intro vs h;subst h;exact Own.made (Ext.refl w) 5 1 (by unfold maxLen;omega) rfl
         have q2:decide ((1114111:Int)<r)=false:=decide_eq_false a2;have q5:decide (r<128)=false:=decide_eq_false b1;clear e hmap hlen hR a3 a2
         go_enter func159,ntmps159
         go_wp2
         go_ret
         exact⟨_,_,rfl,own _ rfl⟩
       . by_cases b3:r<65536
         . rcases(show¬(55296:Int)<=r\/(55296:Int)<=r/\¬r<=57343 by omega)with h|⟨h,h4⟩
           . have q3:decide ((55296:Int)<=r)=false:=decide_eq_false h
             have e:putU R=[(224+R / 4096).toUInt8,(128+R / 64 % 64).toUInt8,(128+R % 64).toUInt8]:=by unfold putU;rw[if_neg (by omega),if_neg (by omega),if_neg (by omega),if_pos (by omega)]
             have hmap:(putU R).map bv=[.int .u8 (224+r / 4096),.int .u8 (128+r / 64 % 64),.int .u8 (128+r % 64)]:=by
              rw[e];simp only[List.map_cons,List.map_nil];rw[bv_of _ (show 224+R / 4096<256 by omega),bv_of _ (show 128+R / 64 % 64<256 by omega),bv_of _ (show 128+R % 64<256 by omega)];simp only[List.cons.injEq,Value.int.injEq,true_and,and_true];omega
             have hlen:(putU R).length=3:=by rw[e];rfl
             rw[hmap,hlen]
             have own:∀vs:List Value,vs=[.int .u8 (224+r / 4096),.int .u8 (128+r / 64 % 64),.int .u8 (128+r % 64)]->Own w (w.alloc (.cells vs.toArray 5)) 5 1 (some ⟨w.heap.size,0,none⟩) 3 3 [.int .u8 (224+r / 4096),.int .u8 (128+r / 64 % 64),.int .u8 (128+r % 64)]:=by
              intro vs h;subst h;exact Own.made (Ext.refl w) 5 1 (by unfold maxLen;omega) rfl
             have q2:decide ((1114111:Int)<r)=false:=decide_eq_false a2;have q5:decide (r<128)=false:=decide_eq_false b1;have q6:decide (r<2048)=false:=decide_eq_false b2;clear e hmap hlen hR a3 a2 h
             go_enter func159,ntmps159
             go_wp2
             go_ret
             exact⟨_,_,rfl,own _ rfl⟩
           . have q3:decide ((55296:Int)<=r)=true:=decide_eq_true h
             have q4:decide (r<=57343)=false:=decide_eq_false h4;have e:putU R=[(224+R / 4096).toUInt8,(128+R / 64 % 64).toUInt8,(128+R % 64).toUInt8]:=by unfold putU;rw[if_neg (by omega),if_neg (by omega),if_neg (by omega),if_pos (by omega)]
             have hmap:(putU R).map bv=[.int .u8 (224+r / 4096),.int .u8 (128+r / 64 % 64),.int .u8 (128+r % 64)]:=by
              rw[e];simp only[List.map_cons,List.map_nil];rw[bv_of _ (show 224+R / 4096<256 by omega),bv_of _ (show 128+R / 64 % 64<256 by omega),bv_of _ (show 128+R % 64<256 by omega)];simp only[List.cons.injEq,Value.int.injEq,true_and,and_true];omega
             have hlen:(putU R).length=3:=by rw[e];rfl
             rw[hmap,hlen]
             have own:∀vs:List Value,vs=[.int .u8 (224+r / 4096),.int .u8 (128+r / 64 % 64),.int .u8 (128+r % 64)]->Own w (w.alloc (.cells vs.toArray 5)) 5 1 (some ⟨w.heap.size,0,none⟩) 3 3 [.int .u8 (224+r / 4096),.int .u8 (128+r / 64 % 64),.int .u8 (128+r % 64)]:=by
              intro vs h;subst h;exact Own.made (Ext.refl w) 5 1 (by unfold maxLen;omega) rfl
             have q2:decide ((1114111:Int)<r)=false:=decide_eq_false a2;have q5:decide (r<128)=false:=decide_eq_false b1;have q6:decide (r<2048)=false:=decide_eq_false b2;clear e hmap hlen hR a3 a2 h h4
             go_enter func159,ntmps159
             go_wp2
             go_ret
             exact⟨_,_,rfl,own _ rfl⟩
         . have q3:decide ((55296:Int)<=r)=true:=decide_eq_true (by omega)
           have q4:decide (r<=57343)=false:=decide_eq_false (by omega);have e:putU R=[(240+R / 262144).toUInt8,(128+R / 4096 % 64).toUInt8,(128+R / 64 % 64).toUInt8,(128+R % 64).toUInt8]:=by unfold putU;rw[if_neg (by omega),if_neg (by omega),if_neg (by omega),if_neg (by omega)]
           have hmap:(putU R).map bv=[.int .u8 (240+r / 262144),.int .u8 (128+r / 4096 % 64),.int .u8 (128+r / 64 % 64),.int .u8 (128+r % 64)]:=by
            rw[e];simp only[List.map_cons,List.map_nil];rw[bv_of _ (show 240+R / 262144<256 by omega),bv_of _ (show 128+R / 4096 % 64<256 by omega),bv_of _ (show 128+R / 64 % 64<256 by omega),bv_of _ (show 128+R % 64<256 by omega)];simp only[List.cons.injEq,Value.int.injEq,true_and,and_true];omega
           have hlen:(putU R).length=4:=by rw[e];rfl
           rw[hmap,hlen]
           have own:∀vs:List Value,vs=[.int .u8 (240+r / 262144),.int .u8 (128+r / 4096 % 64),.int .u8 (128+r / 64 % 64),.int .u8 (128+r % 64)]->Own w (w.alloc (.cells vs.toArray 5)) 5 1 (some ⟨w.heap.size,0,none⟩) 4 4 [.int .u8 (240+r / 262144),.int .u8 (128+r / 4096 % 64),.int .u8 (128+r / 64 % 64),.int .u8 (128+r % 64)]:=by
            intro vs h;subst h;exact Own.made (Ext.refl w) 5 1 (by unfold maxLen;omega) rfl
           have q2:decide ((1114111:Int)<r)=false:=decide_eq_false a2;have q5:decide (r<128)=false:=decide_eq_false b1;have q6:decide (r<2048)=false:=decide_eq_false b2;have q7:decide (r<65536)=false:=decide_eq_false b3;have hR2:r<1114112:=by omega
           clear e hmap hlen hR a3 a2
           go_enter func159,ntmps159
           go_wp2
           go_ret
           exact⟨_,_,rfl,own _ rfl⟩
def headR(n b:Nat):Nat:=if n=2 then b % 32 else if n=3 then b % 16 else if n=4 then b % 8 else b
theorem zfH(n:Nat)(b:UInt8)(t:List UInt8):tryN n (b::t)=joinN (headR n b.toNat) (t.take (n - 1)):=rfl
variable{xs ys:List UInt8}
theorem zgI(h:xs=ys):(xs==ys)=true:=by simpa using h
theorem zjo(h:xs≠ys):(xs==ys)=false:=by simpa using h
theorem zsc(hb:zac w A n c bs)(hp:p<=n)(hn:n<=9000000000000000000):
 Calls prog 142 #[.slice A n c,.int .i64 p] w fun e w'=>e=.returned (.int .i64 (nextU (bs.drop p):Nat))/\Ext w w':=by
 have hl:=hb.length;have hmax:=Reads.max hb;have hcap:=Reads.cap hb;unfold maxLen at hmax
 go_enter func142,ntmps142
 go_wp2
 go_loopw [5] (fun u wr=>∃k:Nat,1<=k/\k<=5/\u=.int .i64 (k:Nat)/\(∀m,1<=m->m<k->nextU (bs.drop p)≠m)/\Ext w wr) (fun u _=>6 - (intOf u).toNat)
 case atStart=>exact⟨1,by omega,by omega,rfl,fun m h1 h2=>by omega,Ext.refl _⟩
 case round=>
  obtain⟨k,hk1,hk5,rfl,hno,hE⟩:=hrel;have hnl:=zfm (bs.drop p);rw[List.length_drop,hl]at hnl;have Hno:=zsz hno;have Hnl:=zsz hnl;clear hno hnl;by_cases hk4:(k:Int)<=4
  . by_cases hpk:(p:Int)+k<=n
    . obtain⟨b,off,x,rfl,hx,hcell⟩:=hb.byte (show p<n by omega)
      have hcell:=hE.of_cell hcell;have hx256:=zgQ x;have hca:¬c=p:=by omega
      obtain⟨A2,hcut,hr2⟩:=ziT elemB hb .i64 .i64 (l:=p) (m:=p+k) (by omega) (by omega)
      have hcutB:zac w A2 k (c - p) ((bs.drop p).take k):=by
       have h:=hr2;simp only[Nat.mul_one,<-List.map_drop,<-List.map_take]at h;rw[Nat.add_sub_cancel_left,List.drop_take,Nat.add_sub_cancel_left]at h;exact h
      rw[Nat.add_sub_cancel_left]at hcut;have HC:=zsz hcut
      have hd:bs.drop p=x::bs.drop (p+1):=by
       rw[List.drop_eq_getElem_cons (by omega)];congr 1;rw[List.getElem?_eq_getElem (by omega)]at hx;exact Option.some.inj hx
      have HD:=zsz hd;clear hd;clear hr2 hcut;have HCB:=zsz hcutB;clear hcutB;have HE:=zsz (hE.trans (((Ext.refl wr).alloc (.cells #[.int .i64 0,.int .i64 0,.int .i64 32,.int .i64 16,.int .i64 8] 3))));rcases(show k=1\/k=2\/k=3\/k=4 by omega)with rfl|rfl|rfl|rfl
      . go_wp2
        go_loop [6,7] (fun u v=>∃i:Nat,1<=i/\i<=1/\u=.int .i64 (joinN (x.toNat) ((bs.drop (p+1)).take (i - 1)):Nat)/\v=.int .i64 (i:Nat)) (fun _ v=>5 - (intOf v).toNat)
        case atStart=>exact⟨1,by omega,by omega,congrArg (Value.int .i64) (by simp[joinN]),rfl⟩
        case round=>
         obtain⟨i,hi1,hik,rfl,rfl⟩:=hrel;have hJ:=zdl ((bs.drop (p+1)).take (i - 1)) (x.toNat);have hJl:((bs.drop (p+1)).take (i - 1)).length<=3:=by rw[List.length_take];omega
         have hJ2:(x.toNat+1)*64^((bs.drop (p+1)).take (i - 1)).length<=256*64^3:=Nat.mul_le_mul (by have:=x.toNat_lt;omega) (Nat.pow_le_pow_right (by decide) hJl);by_cases hik2:(i:Int)<1
         . obtain⟨b2,off2,y,e2,hy,hc2⟩:=hb.byte (show p+i<n by omega)
           obtain⟨rfl,rfl⟩:b=b2/\off=off2:=by simp at e2⊢
           have hy256:=zgQ y;have hcy:=hE.of_cell hc2
           have hs:(bs.drop (p+1)).take i=(bs.drop (p+1)).take (i - 1)++[y]:=by
            have:=List.take_add_one (l:=bs.drop (p+1)) (i:=i - 1);rw[List.getElem?_drop,show p+1+(i - 1)=p+i by omega,hy]at this;rw[show i - 1+1=i by omega]at this;exact this
           generalize hR:joinN (x.toNat) ((bs.drop (p+1)).take (i - 1))=R at hJ;have hR2:(R:Int)<67108864:=by omega
           have HR:=zsz hR;have Hs:=zsz hs;clear hR hs hJ hJ2 hJl hy hc2 hl
           go_wp2
           go_round
           case rel=>
            refine⟨i+1,by omega,by omega,?_,by go_num⟩;rw[show i+1 - 1=i by omega,Hs.out,zcT,HR.out];exact congrArg (Value.int .i64) (by omega)
           case measure=>simp[intOf];omega
         . have hi2:i=1:=by omega
           subst hi2;have hR2:joinN (x.toNat) ((bs.drop (p+1)).take (1 - 1))<9223372036854775808:=by omega
           generalize hR:joinN (x.toNat) ((bs.drop (p+1)).take (1 - 1))=R at hJ hR2
           have hkey:putU R=(bs.drop p).take 1<->nextU (bs.drop p)=1:=by
            have h:=zfn 1 (by omega) (by omega) (bs.drop p) (by rw[List.length_drop];omega);have ht:tryN 1 (bs.drop p)=R:=by rw[HD.out,zfH];exact hR
            rwa[ht]at h
           clear hR hJ hJ2 hJl hl;have hE0:=hE.drew;have cv0:=(HCB.out.ext hE0).convert (P:=prog) 24 5 9 underlying24 underlying5 underlying9;have hcut:∀W:World,(Instr.slice 24 (.slice (some ⟨b,off,none⟩) n c) (some (.int .i64 (p:Int))) (some (.int .i64 ((p:Int)+1))) none).run prog W=.ok (.slice A2 1 (c - p)) W:=HC.out;have hwr:IntKind.i64.wrap ((p:Int)+1)=(p:Int)+1:=by rw[IntKind.wrap_i64];omega
           by_cases he:putU R=(bs.drop p).take 1
           . have hs:=zgI he
             have Hk:=zsz (hkey.1 he);clear he hkey
             go_wp2
             generalize (some (⟨b,off,none⟩:Addr))=A at hcut⊢
             go_region_with (go_at_call 159;refine(uPutR (R:=R) rfl hR2 _).mono ?_;rintro e w1 ⟨A1,c1,rfl,own1⟩;have cv1:=zac.convert own1.reads (P:=prog) 24 5 9 underlying24 underlying5 underlying9;have cv2:=(HCB.out.ext (hE0.trans own1.ext)).convert (P:=prog) 24 5 9 underlying24 underlying5 underlying9)
             all_goals go_simp
             all_goals go_wp2
             all_goals go_ret
             all_goals rw[Hk.out]
             all_goals exact⟨rfl,hE0.trans own1.ext⟩
           . have hs:=zjo he
             have Hk:=zsz (fun h=>he (hkey.2 h));clear he hkey
             go_wp2
             generalize hA:(some (⟨b,off,none⟩:Addr))=A at hcut⊢
             go_region_with (go_at_call 159;refine(uPutR (R:=R) rfl hR2 _).mono ?_;rintro e w1 ⟨A1,c1,rfl,own1⟩;have cv1:=zac.convert own1.reads (P:=prog) 24 5 9 underlying24 underlying5 underlying9;have cv2:=(HCB.out.ext (hE0.trans own1.ext)).convert (P:=prog) 24 5 9 underlying24 underlying5 underlying9)
             all_goals subst hA
             all_goals go_simp
             all_goals go_wp2
             all_goals go_roundw
             all_goals first
              |exact⟨1+1,by omega,by omega,rfl,fun m h1 h2=>if h:m=1 then by rw[h];exact Hk.out else Hno.out m h1 (by omega),hE0.trans own1.ext⟩
              |(simp[intOf];done)
              |(simp[intOf];omega)
      . go_wp2
        go_loop [6,7] (fun u v=>∃i:Nat,1<=i/\i<=2/\u=.int .i64 (joinN (x.toNat % 32) ((bs.drop (p+1)).take (i - 1)):Nat)/\v=.int .i64 (i:Nat)) (fun _ v=>5 - (intOf v).toNat)
        case atStart=>exact⟨1,by omega,by omega,congrArg (Value.int .i64) (by simp[joinN]),rfl⟩
        case round=>
         obtain⟨i,hi1,hik,rfl,rfl⟩:=hrel;have hJ:=zdl ((bs.drop (p+1)).take (i - 1)) (x.toNat % 32);have hJl:((bs.drop (p+1)).take (i - 1)).length<=3:=by rw[List.length_take];omega
         have hJ2:(x.toNat % 32+1)*64^((bs.drop (p+1)).take (i - 1)).length<=256*64^3:=Nat.mul_le_mul (by have:=x.toNat_lt;omega) (Nat.pow_le_pow_right (by decide) hJl);by_cases hik2:(i:Int)<2
         . obtain⟨b2,off2,y,e2,hy,hc2⟩:=hb.byte (show p+i<n by omega)
           obtain⟨rfl,rfl⟩:b=b2/\off=off2:=by simpa using e2
           have hy256:=zgQ y;have hcy:=HE.out.of_cell hc2
           have hs:(bs.drop (p+1)).take i=(bs.drop (p+1)).take (i - 1)++[y]:=by
            have:=List.take_add_one (l:=bs.drop (p+1)) (i:=i - 1);rw[List.getElem?_drop,show p+1+(i - 1)=p+i by omega,hy]at this;rw[show i - 1+1=i by omega]at this;exact this
           generalize hR:joinN (x.toNat % 32) ((bs.drop (p+1)).take (i - 1))=R at hJ;have hR2:(R:Int)<67108864:=by omega
           have HR:=zsz hR;have Hs:=zsz hs;clear hR hs hJ hJ2 hJl hy hc2 hl
           go_wp2
           go_round
           case rel=>
            refine⟨i+1,by omega,by omega,?_,by go_num⟩;rw[show i+1 - 1=i by omega,Hs.out,zcT,HR.out];exact congrArg (Value.int .i64) (by omega)
           case measure=>simp[intOf];omega
         . have hi2:i=2:=by omega
           subst hi2;have hR2:joinN (x.toNat % 32) ((bs.drop (p+1)).take (2 - 1))<9223372036854775808:=by omega
           generalize hR:joinN (x.toNat % 32) ((bs.drop (p+1)).take (2 - 1))=R at hJ hR2
           have hkey:putU R=(bs.drop p).take 2<->nextU (bs.drop p)=2:=by
            have h:=zfn 2 (by omega) (by omega) (bs.drop p) (by rw[List.length_drop];omega);have ht:tryN 2 (bs.drop p)=R:=by rw[HD.out,zfH];exact hR
            rwa[ht]at h
           clear hR hJ hJ2 hJl hl;have hE0:=HE.out.drew;have cv0:=(HCB.out.ext hE0).convert (P:=prog) 24 5 9 underlying24 underlying5 underlying9;have hcut:∀W:World,(Instr.slice 24 (.slice (some ⟨b,off,none⟩) n c) (some (.int .i64 (p:Int))) (some (.int .i64 ((p:Int)+2))) none).run prog W=.ok (.slice A2 2 (c - p)) W:=HC.out;have hwr:IntKind.i64.wrap ((p:Int)+2)=(p:Int)+2:=by rw[IntKind.wrap_i64];omega
           by_cases he:putU R=(bs.drop p).take 2
           . have hs:=zgI he
             have Hk:=zsz (hkey.1 he);clear he hkey
             go_wp2
             generalize (some (⟨b,off,none⟩:Addr))=A at hcut⊢
             go_region_with (go_at_call 159;refine(uPutR (R:=R) rfl hR2 _).mono ?_;rintro e w1 ⟨A1,c1,rfl,own1⟩;have cv1:=zac.convert own1.reads (P:=prog) 24 5 9 underlying24 underlying5 underlying9;have cv2:=(HCB.out.ext (hE0.trans own1.ext)).convert (P:=prog) 24 5 9 underlying24 underlying5 underlying9)
             all_goals go_simp
             all_goals go_wp2
             all_goals go_ret
             all_goals rw[Hk.out]
             all_goals exact⟨rfl,hE0.trans own1.ext⟩
           . have hs:=zjo he
             have Hk:=zsz (fun h=>he (hkey.2 h));clear he hkey
             go_wp2
             generalize hA:(some (⟨b,off,none⟩:Addr))=A at hcut⊢
             go_region_with (go_at_call 159;refine(uPutR (R:=R) rfl hR2 _).mono ?_;rintro e w1 ⟨A1,c1,rfl,own1⟩;have cv1:=zac.convert own1.reads (P:=prog) 24 5 9 underlying24 underlying5 underlying9;have cv2:=(HCB.out.ext (hE0.trans own1.ext)).convert (P:=prog) 24 5 9 underlying24 underlying5 underlying9)
             all_goals subst hA
             all_goals go_simp
             all_goals go_wp2
             all_goals go_roundw
             all_goals first
              |exact⟨2+1,by omega,by omega,rfl,fun m h1 h2=>if h:m=2 then by rw[h];exact Hk.out else Hno.out m h1 (by omega),hE0.trans own1.ext⟩
              |(simp[intOf];done)
              |(simp[intOf];omega)
      . go_wp2
        go_loop [6,7] (fun u v=>∃i:Nat,1<=i/\i<=3/\u=.int .i64 (joinN (x.toNat % 16) ((bs.drop (p+1)).take (i - 1)):Nat)/\v=.int .i64 (i:Nat)) (fun _ v=>5 - (intOf v).toNat)
        case atStart=>exact⟨1,by omega,by omega,congrArg (Value.int .i64) (by simp[joinN]),rfl⟩
        case round=>
         obtain⟨i,hi1,hik,rfl,rfl⟩:=hrel;have hJ:=zdl ((bs.drop (p+1)).take (i - 1)) (x.toNat % 16);have hJl:((bs.drop (p+1)).take (i - 1)).length<=3:=by rw[List.length_take];omega
         have hJ2:(x.toNat % 16+1)*64^((bs.drop (p+1)).take (i - 1)).length<=256*64^3:=Nat.mul_le_mul (by have:=x.toNat_lt;omega) (Nat.pow_le_pow_right (by decide) hJl);by_cases hik2:(i:Int)<3
         . obtain⟨b2,off2,y,e2,hy,hc2⟩:=hb.byte (show p+i<n by omega)
           obtain⟨rfl,rfl⟩:b=b2/\off=off2:=by simpa using e2
           have hy256:=zgQ y;have hcy:=HE.out.of_cell hc2
           have hs:(bs.drop (p+1)).take i=(bs.drop (p+1)).take (i - 1)++[y]:=by
            have:=List.take_add_one (l:=bs.drop (p+1)) (i:=i - 1);rw[List.getElem?_drop,show p+1+(i - 1)=p+i by omega,hy]at this;rw[show i - 1+1=i by omega]at this;exact this
           generalize hR:joinN (x.toNat % 16) ((bs.drop (p+1)).take (i - 1))=R at hJ;have hR2:(R:Int)<67108864:=by omega
           have HR:=zsz hR;have Hs:=zsz hs;clear hR hs hJ hJ2 hJl hy hc2 hl
           go_wp2
           go_round
           case rel=>
            refine⟨i+1,by omega,by omega,?_,by go_num⟩;rw[show i+1 - 1=i by omega,Hs.out,zcT,HR.out];exact congrArg (Value.int .i64) (by omega)
           case measure=>simp[intOf];omega
         . have hi2:i=3:=by omega
           subst hi2;have hR2:joinN (x.toNat % 16) ((bs.drop (p+1)).take (3 - 1))<9223372036854775808:=by omega
           generalize hR:joinN (x.toNat % 16) ((bs.drop (p+1)).take (3 - 1))=R at hJ hR2
           have hkey:putU R=(bs.drop p).take 3<->nextU (bs.drop p)=3:=by
            have h:=zfn 3 (by omega) (by omega) (bs.drop p) (by rw[List.length_drop];omega);have ht:tryN 3 (bs.drop p)=R:=by rw[HD.out,zfH];exact hR
            rwa[ht]at h
           clear hR hJ hJ2 hJl hl;have hE0:=HE.out.drew;have cv0:=(HCB.out.ext hE0).convert (P:=prog) 24 5 9 underlying24 underlying5 underlying9;have hcut:∀W:World,(Instr.slice 24 (.slice (some ⟨b,off,none⟩) n c) (some (.int .i64 (p:Int))) (some (.int .i64 ((p:Int)+3))) none).run prog W=.ok (.slice A2 3 (c - p)) W:=HC.out;have hwr:IntKind.i64.wrap ((p:Int)+3)=(p:Int)+3:=by rw[IntKind.wrap_i64];omega
           by_cases he:putU R=(bs.drop p).take 3
           . have hs:=zgI he
             have Hk:=zsz (hkey.1 he);clear he hkey
             go_wp2
             generalize (some (⟨b,off,none⟩:Addr))=A at hcut⊢
             go_region_with (go_at_call 159;refine(uPutR (R:=R) rfl hR2 _).mono ?_;rintro e w1 ⟨A1,c1,rfl,own1⟩;have cv1:=zac.convert own1.reads (P:=prog) 24 5 9 underlying24 underlying5 underlying9;have cv2:=(HCB.out.ext (hE0.trans own1.ext)).convert (P:=prog) 24 5 9 underlying24 underlying5 underlying9)
             all_goals go_simp
             all_goals go_wp2
             all_goals go_ret
             all_goals rw[Hk.out]
             all_goals exact⟨rfl,hE0.trans own1.ext⟩
           . have hs:=zjo he
             have Hk:=zsz (fun h=>he (hkey.2 h));clear he hkey
             go_wp2
             generalize hA:(some (⟨b,off,none⟩:Addr))=A at hcut⊢
             go_region_with (go_at_call 159;refine(uPutR (R:=R) rfl hR2 _).mono ?_;rintro e w1 ⟨A1,c1,rfl,own1⟩;have cv1:=zac.convert own1.reads (P:=prog) 24 5 9 underlying24 underlying5 underlying9;have cv2:=(HCB.out.ext (hE0.trans own1.ext)).convert (P:=prog) 24 5 9 underlying24 underlying5 underlying9)
             all_goals subst hA
             all_goals go_simp
             all_goals go_wp2
             all_goals go_roundw
             all_goals first
              |exact⟨3+1,by omega,by omega,rfl,fun m h1 h2=>if h:m=3 then by rw[h];exact Hk.out else Hno.out m h1 (by omega),hE0.trans own1.ext⟩
              |(simp[intOf];done)
              |(simp[intOf];omega)
      . go_wp2
        go_loop [6,7] (fun u v=>∃i:Nat,1<=i/\i<=4/\u=.int .i64 (joinN (x.toNat % 8) ((bs.drop (p+1)).take (i - 1)):Nat)/\v=.int .i64 (i:Nat)) (fun _ v=>5 - (intOf v).toNat)
        case atStart=>exact⟨1,by omega,by omega,congrArg (Value.int .i64) (by simp[joinN]),rfl⟩
        case round=>
         obtain⟨i,hi1,hik,rfl,rfl⟩:=hrel;have hJ:=zdl ((bs.drop (p+1)).take (i - 1)) (x.toNat % 8);have hJl:((bs.drop (p+1)).take (i - 1)).length<=3:=by rw[List.length_take];omega
         have hJ2:(x.toNat % 8+1)*64^((bs.drop (p+1)).take (i - 1)).length<=256*64^3:=Nat.mul_le_mul (by have:=x.toNat_lt;omega) (Nat.pow_le_pow_right (by decide) hJl);by_cases hik2:(i:Int)<4
         . obtain⟨b2,off2,y,e2,hy,hc2⟩:=hb.byte (show p+i<n by omega)
           obtain⟨rfl,rfl⟩:b=b2/\off=off2:=by simpa using e2
           have hy256:=zgQ y;have hcy:=HE.out.of_cell hc2
           have hs:(bs.drop (p+1)).take i=(bs.drop (p+1)).take (i - 1)++[y]:=by
            have:=List.take_add_one (l:=bs.drop (p+1)) (i:=i - 1);rw[List.getElem?_drop,show p+1+(i - 1)=p+i by omega,hy]at this;rw[show i - 1+1=i by omega]at this;exact this
           generalize hR:joinN (x.toNat % 8) ((bs.drop (p+1)).take (i - 1))=R at hJ;have hR2:(R:Int)<67108864:=by omega
           have HR:=zsz hR;have Hs:=zsz hs;clear hR hs hJ hJ2 hJl hy hc2 hl
           go_wp2
           go_round
           case rel=>
            refine⟨i+1,by omega,by omega,?_,by go_num⟩;rw[show i+1 - 1=i by omega,Hs.out,zcT,HR.out];exact congrArg (Value.int .i64) (by omega)
           case measure=>simp[intOf];omega
         . have hi2:i=4:=by omega
           subst hi2;have hR2:joinN (x.toNat % 8) ((bs.drop (p+1)).take (4 - 1))<9223372036854775808:=by omega
           generalize hR:joinN (x.toNat % 8) ((bs.drop (p+1)).take (4 - 1))=R at hJ hR2
           have hkey:putU R=(bs.drop p).take 4<->nextU (bs.drop p)=4:=by
            have h:=zfn 4 (by omega) (by omega) (bs.drop p) (by rw[List.length_drop];omega);have ht:tryN 4 (bs.drop p)=R:=by rw[HD.out,zfH];exact hR
            rwa[ht]at h
           clear hR hJ hJ2 hJl hl;have hE0:=HE.out.drew;have cv0:=(HCB.out.ext hE0).convert (P:=prog) 24 5 9 underlying24 underlying5 underlying9;have hcut:∀W:World,(Instr.slice 24 (.slice (some ⟨b,off,none⟩) n c) (some (.int .i64 (p:Int))) (some (.int .i64 ((p:Int)+4))) none).run prog W=.ok (.slice A2 4 (c - p)) W:=HC.out;have hwr:IntKind.i64.wrap ((p:Int)+4)=(p:Int)+4:=by rw[IntKind.wrap_i64];omega
           by_cases he:putU R=(bs.drop p).take 4
           . have hs:=zgI he
             have Hk:=zsz (hkey.1 he);clear he hkey
             go_wp2
             generalize (some (⟨b,off,none⟩:Addr))=A at hcut⊢
             go_region_with (go_at_call 159;refine(uPutR (R:=R) rfl hR2 _).mono ?_;rintro e w1 ⟨A1,c1,rfl,own1⟩;have cv1:=zac.convert own1.reads (P:=prog) 24 5 9 underlying24 underlying5 underlying9;have cv2:=(HCB.out.ext (hE0.trans own1.ext)).convert (P:=prog) 24 5 9 underlying24 underlying5 underlying9)
             all_goals go_simp
             all_goals go_wp2
             all_goals go_ret
             all_goals rw[Hk.out]
             all_goals exact⟨rfl,hE0.trans own1.ext⟩
           . have hs:=zjo he
             have Hk:=zsz (fun h=>he (hkey.2 h));clear he hkey
             go_wp2
             generalize hA:(some (⟨b,off,none⟩:Addr))=A at hcut⊢
             go_region_with (go_at_call 159;refine(uPutR (R:=R) rfl hR2 _).mono ?_;rintro e w1 ⟨A1,c1,rfl,own1⟩;have cv1:=zac.convert own1.reads (P:=prog) 24 5 9 underlying24 underlying5 underlying9;have cv2:=(HCB.out.ext (hE0.trans own1.ext)).convert (P:=prog) 24 5 9 underlying24 underlying5 underlying9)
             all_goals subst hA
             all_goals go_simp
             all_goals go_wp2
             all_goals go_roundw
             all_goals first
              |exact⟨4+1,by omega,by omega,rfl,fun m h1 h2=>if h:m=4 then by rw[h];exact Hk.out else Hno.out m h1 (by omega),hE0.trans own1.ext⟩
              |(simp[intOf];done)
              |(simp[intOf];omega)
    . have hq:decide ((p:Int)+k<=n)=false:=decide_eq_false hpk
      have fin:nextU (bs.drop p)=0:=by
       have h1:=Hnl.out;have h2:=Hno.out (nextU (bs.drop p));omega
      have Hf:=zsz fin;clear fin hpk hl
      go_wp2
      go_ret
      rw[Hf.out];exact⟨rfl,hE⟩
  . have hq:decide ((k:Int)<=4)=false:=decide_eq_false hk4
    have fin:nextU (bs.drop p)=0:=by
     have h1:=Hnl.out;have h2:=Hno.out (nextU (bs.drop p));omega
    have Hf:=zsz fin;clear fin hk4 hl
    go_wp2
    go_ret
    rw[Hf.out];exact⟨rfl,hE⟩
theorem zrn(hb:zac w A n c bs)(hn:n<=9000000000000000000)(hr: -9223372036854775808<=room/\room<9223372036854775808):
 Calls prog 123 #[.slice A n c,.int .i64 room] w fun e w'=>e=.returned (.tuple #[.int .i64 ((walkV bs room.toNat).1:Nat),.int .i64 ((walkV bs room.toNat).2:Nat)])/\Ext w w':=by
 have hl:=hb.length;have hcap:=Reads.cap hb
 go_enter func123,ntmps123
 go_wp2
 go_loopw [6,7] (fun u v wr=>∃p k:Nat,u=.int .i64 (p:Nat)/\v=.int .i64 (k:Nat)/\zeo bs room.toNat p k/\Ext w wr) (fun u _ _=>n - (intOf u).toNat)
 case atStart=>exact⟨0,0,rfl,rfl,zeo.zero _ _,Ext.refl _⟩
 case round=>
  obtain⟨p,k,rfl,rfl,hW,hE⟩:=hrel;have hpn:p<=n:=by have:=hW.1;omega
  have hkp:=hW.2.2.1;have hnl:=zfm (bs.drop p);rw[List.length_drop,hl]at hnl;obtain⟨hnl1,hnl2⟩:=hnl;have hst:=hW.stop;have hsp:=hW.step;have HW:=zsz hW;clear hW;generalize hN:nextU (bs.drop p)=N at hnl1 hnl2 hst hsp
  have hcall:Calls prog 142 #[.slice A n c,.int .i64 (p:Nat)] wr fun e w'=>e=.returned (.int .i64 (N:Nat))/\Ext wr w':=by
   have:=zsc (hb.ext hE) hpn hn
   rwa[hN]at this
  by_cases h0:N=0
  . have q:((N:Int)==0)=true:=by simp;omega
    have hf:=hst (.inl h0);have Hf:=zsz hf;clear hst hsp hf h0 hN hl
    go_wp2_with (go_at_call 142;refine hcall.mono ?_;rintro e w1 ⟨rfl,E1⟩)
    go_ret2
    rw[Hf.out];exact⟨rfl,hE.trans E1⟩
  . have q:((N:Int)==0)=false:=by simp;omega
    by_cases h1:room<(p:Int)+N
    . have hf:=hst (.inr (by omega))
      have Hf:=zsz hf;clear hst hsp hf h0 hN hl
      go_wp2_with (go_at_call 142;refine hcall.mono ?_;rintro e w1 ⟨rfl,E1⟩)
      go_ret2
      rw[Hf.out];exact⟨rfl,hE.trans E1⟩
    . have hs:=hsp (by omega)
      have Hs:=zsz hs;clear hst hsp hs hN hl
      go_wp2_with (go_at_call 142;refine hcall.mono ?_;rintro e w1 ⟨rfl,E1⟩)
      go_roundw
      case rel=>exact⟨p+N,k+1,by go_num,by go_num,Hs.out,hE.trans E1⟩
      case measure=>simp[intOf];omega
end Go.Proofs.YtpicpebolghcfaaGreatDoor
