/- Contracts of layer 5. -/
import Derived.Test.YtpicpebolghcfaaGreatDoorQlWA

set_option linter.unusedVariables false
set_option maxHeartbeats 1000000
namespace Go.Proofs.YtpicpebolghcfaaGreatDoor
open Go.RowKit Tryz
variable{C n c:Nat}{w:World}{bs:List UInt8}{A:Option Addr}
theorem rSize{V a g:Nat}(hb:zac w A n c bs)(hV:V<=5)(hs:sizeV V bs=(a,g,C)):
 Calls prog 167 #[.slice A n c,.int .i64 (V:Int)] w fun e w'=>e=.returned (.tuple #[.int .i64 (a:Int),.int .u64 (g:Int),.int .u8 (C:Int)])/\w=w':=by
 rcases hv:readV bs with⟨W,N,K⟩
 have hbd:=zaP bs;rw[hv]at hbd;simp only at hbd;have h1:=hbd.1;have h2:=hbd.2.2.1;have h4:=hbd.2.2.2.1;clear hbd;unfold sizeV at hs;rw[hv]at hs;have Hv:=zsz hv;clear hv;by_cases e0:V=0
 . subst e0
   simp only[if_true,Prod.mk.injEq]at hs;obtain⟨rfl,rfl,rfl⟩:=hs
   go_enter func167,ntmps167
   go_wp2_with (go_at_call 121;refine(vSkip hb Hv.out).mono ?_;rintro e w' ⟨rfl,rfl⟩)
   go_ret3
   exact⟨rfl,rfl⟩
 . by_cases e1:V=1
   . subst e1
     simp only[if_true,if_neg e0,Prod.mk.injEq]at hs;obtain⟨rfl,rfl,rfl⟩:=hs
     go_enter func167,ntmps167
     go_wp2
     go_ret3
     exact⟨rfl,rfl⟩
   . by_cases e5:V=5
     . subst e5
       simp only[if_true,if_neg e0,if_neg e1,Prod.mk.injEq]at hs;obtain⟨rfl,rfl,rfl⟩:=hs
       go_enter func167,ntmps167
       go_wp2
       go_ret3
       exact⟨rfl,rfl⟩
     . rw[if_neg e0,if_neg e1,if_neg e5]at hs
       simp only[Prod.mk.injEq]at hs;obtain⟨rfl,rfl,rfl⟩:=hs;have q0:((V:Int)==0)=false:=by simp;omega
       have q1:((V:Int)==1)=false:=by simp;omega
       have q5:((V:Int)==5)=false:=by simp;omega
       clear e0 e1 e5
       go_enter func167,ntmps167
       go_wp2_with (go_at_call 96;refine(vRead hb Hv.out).mono ?_;rintro e w' ⟨rfl,rfl⟩)
       go_ret3
       exact⟨rfl,rfl⟩
def recV(r:Rec):Value:=.agg #[.int .i64 (r.n:Int),.int .i64 (r.w:Int),.int .i64 (r.f:Int),.int .i64 (r.a:Int),.int .i64 (r.t:Int)]
variable{p:Int}
theorem zpj(hp:p<0\/(n:Int)<=p):
 Calls prog 157 #[.slice A n c,.int .i64 p] w fun e w'=>e=.returned (.tuple #[recV Rec.zero,.int .u8 2])/\Ext w w':=by
 rcases hp with hp|hp
 . go_enter func157,ntmps157
   go_wp2
   exact bodyPost_ret (v:=.tuple #[recV Rec.zero,.int .u8 2]) (by simp[results,results157,go_sem,recV,Rec.zero]) rfl ⟨rfl,xx⟩
 . have h0:¬p<0:=by omega
   go_enter func157,ntmps157
   go_wp2
   exact bodyPost_ret (v:=.tuple #[recV Rec.zero,.int .u8 2]) (by simp[results,results157,go_sem,recV,Rec.zero]) rfl ⟨rfl,xx⟩
variable{r:Rec}
theorem rNext{p:Nat}(hb:zac w A n c bs)(hp:p<n)(hn:n<=1000000000000)(h:nextV bs p=(r,C)):
 Calls prog 157 #[.slice A n c,.int .i64 (p:Int)] w fun e w'=>e=.returned (.tuple #[recV r,.int .u8 (C:Int)])/\Ext w w':=by
 have hl:=hb.length;obtain⟨A3,hcut,hr3⟩:=zbx elemB hb .i64 (l:=p) (by omega);have hb3:zac w A3 (n - p) (c - p) (bs.drop p):=by simpa[zac,List.map_drop] using hr3
 have hl3:=hb3.length;rcases ht:tagV (bs.drop p)with⟨T,V,N,K⟩
 have tb:=zhv (bs.drop p);rw[ht,hl3]at tb;simp only at tb;obtain⟨t1,t2,t3,t4,t5,t6⟩:=tb;unfold nextV at h;clear hr3 hl3;by_cases hK:K=0
 . subst hK
   have t7:=(t6 rfl).1;clear t6;rcases hs:sizeV V ((bs.drop p).drop N)with⟨a,g,D⟩
   have hs':=hs;rw[List.drop_drop]at hs';obtain⟨A4,hcut4,hr4⟩:=zbx elemB hb .i64 (l:=p+N) (by omega);have hb4:zac w A4 (n - (p+N)) (c - (p+N)) (bs.drop (p+N)):=by simpa[zac,List.map_drop] using hr4
   have sb:=zmp V ((bs.drop p).drop N);rw[hs,List.drop_drop,hb4.length]at sb;simp only at sb;obtain⟨s1,s2,s3,s4⟩:=sb;rw[Int.natCast_add]at hcut4;clear hr4;by_cases hD:D=0
   . subst hD
     by_cases hg:n - p - (N+a)<g
     . rw[zde ht hs (by rw[List.length_drop,hl];omega)]at h
       simp[zcb]at h;obtain⟨rfl,rfl⟩:=h;have hg':((n:Int) - ((p:Int)+N+a))<(g:Int):=by omega
       have Ht:=zsz ht;have Hs:=zsz hs';clear ht hs hs' hl hg
       go_enter func157,ntmps157
       go_wp2_with (first|(go_at_call 141;refine(tRead (hb3.ext xx) Ht.out).mono ?_;rintro e w1 ⟨rfl,E1⟩;obtain⟨f1,f2,f3⟩:=E1.new_cells;have X_:Ext w w1:=Ext.trans xx E1;replace hb4:=hb4.up X_;have hE:=X_;clear X_))
       have hw:IntKind.i64.wrap ((p:Int)+N)=(p:Int)+N:=by rw[IntKind.wrap_i64];omega
       go_quiet ((go_at_call 167;exact Calls.quiet_of_same ((rSize (hb4.up xx) t5 Hs.out).mono fun _ _ h=>⟨h.1,h.2.symm⟩)))
       go_wp2
       exact bodyPost_ret (v:=.tuple #[recV Rec.zero,.int .u8 3]) (by simp[results,results157,go_sem,recV,Rec.zero,f1,f3]) rfl ⟨rfl,xy⟩
     . rw[zcz ht hs (by rw[List.length_drop,hl];omega)]at h
       simp[zcb]at h;obtain⟨rfl,rfl⟩:=h;have hg':¬((n:Int) - ((p:Int)+N+a))<(g:Int):=by omega
       have hg2:(g:Int)<=1000000000000:=by omega
       have hg3:(p:Int)+N+a+g<=1000000000000:=by omega
       have Ht:=zsz ht;have Hs:=zsz hs';clear ht hs hs' hl
       go_enter func157,ntmps157
       go_wp2_with (first|(go_at_call 141;refine(tRead (hb3.ext xx) Ht.out).mono ?_;rintro e w1 ⟨rfl,E1⟩;obtain⟨f1,f2,f3⟩:=E1.new_cells;have X_:Ext w w1:=Ext.trans xx E1;replace hb4:=hb4.up X_;have hE:=X_;clear X_))
       have hw:IntKind.i64.wrap ((p:Int)+N)=(p:Int)+N:=by rw[IntKind.wrap_i64];omega
       go_quiet ((go_at_call 167;exact Calls.quiet_of_same ((rSize (hb4.up xx) t5 Hs.out).mono fun _ _ h=>⟨h.1,h.2.symm⟩)))
       go_wp2
       exact bodyPost_ret (v:=.tuple #[recV ⟨T,V,p,p+N+a,p+N+a+g⟩,.int .u8 0]) (by simp[results,results157,go_sem,recV,f1,f3]) rfl ⟨by simp[recV,Nat.add_assoc],xy⟩
   . rw[zeA ht hs hD]at h
     simp[zcb,hD]at h;obtain⟨rfl,rfl⟩:=h;have q:((D:Int) !=0)=true:=by simp;omega
     have Ht:=zsz ht;have Hs:=zsz hs';clear ht hs hs' hl
     go_enter func157,ntmps157
     go_wp2_with (first|(go_at_call 141;refine(tRead (hb3.ext xx) Ht.out).mono ?_;rintro e w1 ⟨rfl,E1⟩;obtain⟨f1,f2,f3⟩:=E1.new_cells;have X_:Ext w w1:=Ext.trans xx E1;replace hb4:=hb4.up X_;have hE:=X_;clear X_))
     have hw:IntKind.i64.wrap ((p:Int)+N)=(p:Int)+N:=by rw[IntKind.wrap_i64];omega
     go_quiet ((go_at_call 167;exact Calls.quiet_of_same ((rSize (hb4.up xx) t5 Hs.out).mono fun _ _ h=>⟨h.1,h.2.symm⟩)))
     go_wp2
     exact bodyPost_ret (v:=.tuple #[recV Rec.zero,.int .u8 D]) (by simp[results,results157,go_sem,recV,Rec.zero,f1,f3]) rfl ⟨rfl,xy⟩
 . rw[zhw ht hK]at h
   simp[zcb,hK]at h;obtain⟨rfl,rfl⟩:=h;have q:((K:Int) !=0)=true:=by simp;omega
   have Ht:=zsz ht;clear ht hl t6
   go_enter func157,ntmps157
   go_wp2_with (first|(go_at_call 141;refine(tRead (hb3.ext xx) Ht.out).mono ?_;rintro e w1 ⟨rfl,E1⟩;obtain⟨f1,f2,f3⟩:=E1.new_cells;have X_:Ext w w1:=Ext.trans xx E1;have hE:=X_;clear X_))
   exact bodyPost_ret (v:=.tuple #[recV Rec.zero,.int .u8 K]) (by simp[results,results157,go_sem,recV,Rec.zero,f1,f3]) rfl ⟨rfl,xy⟩
theorem znM(hp:p<0\/(n:Int)<=p):
 Calls prog 101 #[.slice A n c,.int .i64 p] w fun e w'=>e=.returned (.tuple #[recV Rec.zero,.int .i64 2])/\Ext w w':=by
 rcases hp with hp|hp
 . go_enter func101,ntmps101
   go_wp2
   exact bodyPost_ret (v:=.tuple #[recV Rec.zero,.int .i64 2]) (by simp[results,results101,go_sem,recV,Rec.zero]) rfl ⟨rfl,xx⟩
 . have h0:¬p<0:=by omega
   go_enter func101,ntmps101
   go_wp2
   exact bodyPost_ret (v:=.tuple #[recV Rec.zero,.int .i64 2]) (by simp[results,results101,go_sem,recV,Rec.zero]) rfl ⟨rfl,xx⟩
section
variable {A:Option Addr} {n c p:Nat} {bs:List UInt8} {w:World} {T V N W M K:Nat}
theorem znN(hb:zac w A n c bs)(hp:p<n)(hn:n<=1000000000000)(ht:tagV (bs.drop p)=(T,V,N,K))(hK:K≠0):
 Calls prog 101 #[.slice A n c,.int .i64 (p:Int)] w fun e w'=>e=.returned (.tuple #[recV Rec.zero,.int .i64 (K:Int)])/\Ext w w':=by
 have q:((K:Int) !=0)=true:=by simp;omega
 have Ht:=zsz ht;clear ht
 go_enter func101,ntmps101
 go_wp2_with (go_at_call 124;refine(zfJ (hb.ext xx) rfl (by omega) (by omega) Ht.out).mono ?_;rintro e w' ⟨rfl,rfl⟩)
 exact bodyPost_ret (v:=.tuple #[recV Rec.zero,.int .i64 K]) (by simp[results,results101,go_sem,recV,Rec.zero]) rfl ⟨rfl,xx⟩
theorem zqn(hb:zac w A n c bs)(hp:p<n)(hn:n<=1000000000000)(ht:tagV (bs.drop p)=(T,0,N,0))(hN:N<=n - p)(hT:T<=536870911)(hv:readV (bs.drop (p+N))=(W,M,K))(hM:M<=n - (p+N)):
 Calls prog 101 #[.slice A n c,.int .i64 (p:Int)] w fun e w'=>e=.returned (.tuple #[recV (if K=0 then⟨T,0,p,p+N,p+N+M⟩else Rec.zero),.int .i64 (K:Int)])/\Ext w w':=by
 have Ht:=zsz ht;have Hv:=zsz hv;clear ht hv;by_cases hK:K=0
 . subst hK
   go_enter func101,ntmps101
   go_wp2_with (first|(go_at_call 124;refine(zfJ (hb.ext xx) rfl (by omega) (by omega) Ht.out).mono ?_;rintro e w' ⟨rfl,rfl⟩)|(go_at_call 70;refine(zdk (p:=p+N) (hb.ext xx) (by omega) (by omega) (by omega) Hv.out).mono ?_;rintro e w' ⟨rfl,rfl⟩))
   exact bodyPost_ret (v:=.tuple #[recV ⟨T,0,p,p+N,p+N+M⟩,.int .i64 0]) (by simp[results,results101,go_sem,recV]) rfl ⟨by simp,xx⟩
 . have q:((K:Int) !=0)=true:=by simp;omega
   rw[if_neg hK]
   go_enter func101,ntmps101
   go_wp2_with (first|(go_at_call 124;refine(zfJ (hb.ext xx) rfl (by omega) (by omega) Ht.out).mono ?_;rintro e w' ⟨rfl,rfl⟩)|(go_at_call 70;refine(zdk (p:=p+N) (hb.ext xx) (by omega) (by omega) (by omega) Hv.out).mono ?_;rintro e w' ⟨rfl,rfl⟩))
   exact bodyPost_ret (v:=.tuple #[recV Rec.zero,.int .i64 K]) (by simp[results,results101,go_sem,recV,Rec.zero]) rfl ⟨rfl,xx⟩
theorem zkt(hb:zac w A n c bs)(hp:p<n)(hn:n<=1000000000000){g:Nat}(hV:V=1/\g=8\/V=5/\g=4)(ht:tagV (bs.drop p)=(T,V,N,0))(hN:N<=n - p)(hT:T<=536870911):
 Calls prog 101 #[.slice A n c,.int .i64 (p:Int)] w fun e w'=>e=.returned (.tuple #[recV (if n - (p+N)<g then Rec.zero else⟨T,V,p,p+N,p+N+g⟩),.int .i64 (if n - (p+N)<g then 3 else 0:Int)])/\Ext w w':=by
 have Ht:=zsz ht;clear ht;by_cases hK:n - (p+N)<g
 . rw[if_pos hK,if_pos hK]
   have hK':(n:Int) - ((p:Int)+N)<g:=by omega
   rcases hV with⟨rfl,rfl⟩|⟨rfl,rfl⟩
   all_goals
    go_enter func101,ntmps101
    go_wp2_with (first|(go_at_call 124;refine(zfJ (hb.ext xx) rfl (by omega) (by omega) Ht.out).mono ?_;rintro e w' ⟨rfl,rfl⟩))
    exact bodyPost_ret (v:=.tuple #[recV Rec.zero,.int .i64 3]) (by simp[results,results101,go_sem,recV,Rec.zero]) rfl ⟨rfl,xx⟩
 . rw[if_neg hK,if_neg hK]
   have hK':¬(n:Int) - ((p:Int)+N)<(g:Int):=by omega
   rcases hV with⟨rfl,rfl⟩|⟨rfl,rfl⟩
   . go_enter func101,ntmps101
     go_wp2_with (first|(go_at_call 124;refine(zfJ (hb.ext xx) rfl (by omega) (by omega) Ht.out).mono ?_;rintro e w' ⟨rfl,rfl⟩))
     exact bodyPost_ret (v:=.tuple #[recV ⟨T,1,p,p+N,p+N+8⟩,.int .i64 0]) (by simp[results,results101,go_sem,recV]) rfl ⟨rfl,xx⟩
   . go_enter func101,ntmps101
     go_wp2_with (first|(go_at_call 124;refine(zfJ (hb.ext xx) rfl (by omega) (by omega) Ht.out).mono ?_;rintro e w' ⟨rfl,rfl⟩))
     exact bodyPost_ret (v:=.tuple #[recV ⟨T,5,p,p+N,p+N+4⟩,.int .i64 0]) (by simp[results,results101,go_sem,recV]) rfl ⟨rfl,xx⟩
theorem zqo(hb:zac w A n c bs)(hp:p<n)(hn:n<=1000000000000)(ht:tagV (bs.drop p)=(T,2,N,0))(hN:N<=n - p)(hT:T<=536870911)(hv:readV (bs.drop (p+N))=(W,M,K))(hM:M<=n - (p+N))(hM10:M<=10)(hW:W<18446744073709551616){r:Rec}{D:Nat}(h:(K≠0/\r=Rec.zero/\D=K)\/(K=0/\n - (p+N+M)<W/\r=Rec.zero/\D=3)\/(K=0/\¬n - (p+N+M)<W/\r=⟨T,2,p,p+N+M,p+N+M+W⟩/\D=0)):
 Calls prog 101 #[.slice A n c,.int .i64 (p:Int)] w fun e w'=>e=.returned (.tuple #[recV r,.int .i64 (D:Int)])/\Ext w w':=by
 have Ht:=zsz ht;have Hv:=zsz hv;clear ht hv;rcases h with⟨hK,rfl,hD⟩|⟨rfl,hK,rfl,rfl⟩|⟨rfl,hK,rfl,rfl⟩
 . obtain rfl:K=D:=hD.symm
   have q:((K:Int) !=0)=true:=by simp;omega
   go_enter func101,ntmps101
   go_wp2_with (first|(go_at_call 124;refine(zfJ (hb.ext xx) rfl (by omega) (by omega) Ht.out).mono ?_;rintro e w' ⟨rfl,rfl⟩)|(go_at_call 70;refine(zdk (p:=p+N) (hb.ext xx) (by omega) (by omega) (by omega) Hv.out).mono ?_;rintro e w' ⟨rfl,rfl⟩))
   exact bodyPost_ret (v:=.tuple #[recV Rec.zero,.int .i64 K]) (by simp[results,results101,go_sem,recV,Rec.zero]) rfl ⟨rfl,xx⟩
 . have hK':(n:Int) - ((p:Int)+N) - M<W:=by omega
   go_enter func101,ntmps101
   go_wp2_with (first|(go_at_call 124;refine(zfJ (hb.ext xx) rfl (by omega) (by omega) Ht.out).mono ?_;rintro e w' ⟨rfl,rfl⟩)|(go_at_call 70;refine(zdk (p:=p+N) (hb.ext xx) (by omega) (by omega) (by omega) Hv.out).mono ?_;rintro e w' ⟨rfl,rfl⟩))
   exact bodyPost_ret (v:=.tuple #[recV Rec.zero,.int .i64 3]) (by simp[results,results101,go_sem,recV,Rec.zero]) rfl ⟨rfl,xx⟩
 . have hK':¬(n:Int) - ((p:Int)+N) - M<W:=by omega
   have hW':(W:Int)<=1000000000000:=by omega
   have hW2:(p:Int)+N+M+W<=1000000000000:=by omega
   go_enter func101,ntmps101
   go_wp2_with (first|(go_at_call 124;refine(zfJ (hb.ext xx) rfl (by omega) (by omega) Ht.out).mono ?_;rintro e w' ⟨rfl,rfl⟩)|(go_at_call 70;refine(zdk (p:=p+N) (hb.ext xx) (by omega) (by omega) (by omega) Hv.out).mono ?_;rintro e w' ⟨rfl,rfl⟩))
   exact bodyPost_ret (v:=.tuple #[recV ⟨T,2,p,p+N+M,p+N+M+W⟩,.int .i64 0]) (by simp[results,results101,go_sem,recV]) rfl ⟨rfl,xx⟩
end
theorem zse{p:Nat}(hb:zac w A n c bs)(hp:p<n)(hn:n<=1000000000000)(h:nextV bs p=(r,C)):
 Calls prog 101 #[.slice A n c,.int .i64 (p:Int)] w fun e w'=>e=.returned (.tuple #[recV r,.int .i64 (C:Int)])/\Ext w w':=by
 have hl:=hb.length;have hld:(bs.drop p).length=n - p:=by rw[List.length_drop,hl]
 rcases ht:tagV (bs.drop p)with⟨T,V,N,K⟩
 have tb:=zhv (bs.drop p);rw[ht,hld]at tb;simp only at tb;obtain⟨t1,t2,t3,t4,t5,t6⟩:=tb;unfold nextV at h;by_cases hK:K=0
 . subst hK
   have t7:=t6 rfl;have hr:=t7.2;unfold zaw at hr;have hr:=of_decide_eq_true hr;rcases hv:readV (bs.drop (p+N))with⟨W,M,K⟩
   have vb:=zaP (bs.drop (p+N));rw[hv,List.length_drop,hl]at vb;simp only at vb;have hdd:(bs.drop p).drop N=bs.drop (p+N):=List.drop_drop;rcases(show V=0\/V=1\/V=5\/V=2 by omega)with rfl|rfl|rfl|rfl
   . have hs:sizeV 0 ((bs.drop p).drop N)=(0,M,K):=by rw[hdd];unfold sizeV;rw[if_pos rfl,hv]
     have key:=zqn hb hp hn ht t2 t4 hv vb.2.1;by_cases hK:K=0
     . subst hK
       rw[zcz ht hs (by rw[hld];omega)]at h;simp[zcb]at h;obtain⟨rfl,rfl⟩:=h;simpa[Nat.add_assoc] using key
     . rw[zeA ht hs hK]at h
       simp[zcb,hK]at h;obtain⟨rfl,rfl⟩:=h;simpa[hK] using key
   . have hs:sizeV 1 ((bs.drop p).drop N)=(0,8,0):=by unfold sizeV;simp
     have key:=zkt (g:=8) hb hp hn (.inl ⟨rfl,rfl⟩) ht t2 t4;by_cases hg:n - (p+N)<8
     . rw[zde ht hs (by rw[hld];omega)]at h
       simp[zcb]at h;obtain⟨rfl,rfl⟩:=h;simpa[hg] using key
     . rw[zcz ht hs (by rw[hld];omega)]at h
       simp[zcb]at h;obtain⟨rfl,rfl⟩:=h;simpa[hg,Nat.add_assoc] using key
   . have hs:sizeV 5 ((bs.drop p).drop N)=(0,4,0):=by unfold sizeV;simp
     have key:=zkt (g:=4) hb hp hn (.inr ⟨rfl,rfl⟩) ht t2 t4;by_cases hg:n - (p+N)<4
     . rw[zde ht hs (by rw[hld];omega)]at h
       simp[zcb]at h;obtain⟨rfl,rfl⟩:=h;simpa[hg] using key
     . rw[zcz ht hs (by rw[hld];omega)]at h
       simp[zcb]at h;obtain⟨rfl,rfl⟩:=h;simpa[hg,Nat.add_assoc] using key
   . have hs:sizeV 2 ((bs.drop p).drop N)=(M,W,K):=by rw[hdd];unfold sizeV;simp[hv]
     refine zqo hb hp hn ht t2 t4 hv vb.2.1 vb.2.2.1 vb.1 ?_;by_cases hK:K=0
     . subst hK
       by_cases hg:n - (p+N+M)<W
       . rw[zde ht hs (by rw[hld];omega)]at h
         simp[zcb]at h;exact .inr (.inl ⟨rfl,hg,h.1.symm,h.2.symm⟩)
       . rw[zcz ht hs (by rw[hld];omega)]at h
         simp[zcb]at h;exact .inr (.inr ⟨rfl,hg,by rw[<-h.1];simp[Nat.add_assoc],h.2.symm⟩)
     . rw[zeA ht hs hK]at h
       simp[zcb,hK]at h;exact .inl ⟨hK,h.1.symm,h.2.symm⟩
 . rw[zhw ht hK]at h
   simp[zcb,hK]at h;obtain⟨rfl,rfl⟩:=h;exact znN hb hp hn ht hK
def fitsV(wire:Int)(v:List UInt8):Bool:=decide ((wire=0/\(readV v).2.2=0/\(readV v).2.1=v.length)\/(wire=1/\v.length=8)\/(wire=5/\v.length=4)\/wire=2)
variable{wire:Int}
theorem rFits(hb:zac w A n c bs):
 Calls prog 139 #[.int .i64 wire,.slice A n c] w fun e w'=>e=.returned (.bool (fitsV wire bs))/\w=w':=by
 have hl:=hb.length;rcases hv:readV bs with⟨W,N,K⟩
 have hbd:=zaP bs;rw[hv]at hbd;simp only at hbd;have h2:=hbd.2.2.1;have h4:=hbd.2.2.2.1;clear hbd;have hf:fitsV wire bs=decide ((wire=0/\K=0/\N=n)\/(wire=1/\n=8)\/(wire=5/\n=4)\/wire=2):=by unfold fitsV;rw[hv,hl]
 rw[hf];clear hf hl;have Hv:=zsz hv;clear hv;by_cases e0:wire=0
 . subst e0
   by_cases hK:K=0
   . subst hK
     go_enter func139,ntmps139
     go_wp2_with (go_at_call 121;refine(vSkip hb Hv.out).mono ?_;rintro e w' ⟨rfl,rfl⟩)
     go_ret
     exact⟨zam (by rw[Bool.eq_iff_iff];simp;omega),rfl⟩
   . have q:((K:Int)==0)=false:=by simp;omega
     go_enter func139,ntmps139
     go_wp2_with (go_at_call 121;refine(vSkip hb Hv.out).mono ?_;rintro e w' ⟨rfl,rfl⟩)
     go_ret
     exact⟨zam (by rw[Bool.eq_iff_iff];simp[hK]),rfl⟩
 . by_cases e1:wire=1
   . subst e1
     go_enter func139,ntmps139
     go_wp2
     go_ret
     exact⟨zam (by rw[Bool.eq_iff_iff];simp;try omega),rfl⟩
   . by_cases e5:wire=5
     . subst e5
       go_enter func139,ntmps139
       go_wp2
       go_ret
       exact⟨zam (by rw[Bool.eq_iff_iff];simp;try omega),rfl⟩
     . have q0:(wire==0)=false:=by simp;omega
       have q1:(wire==1)=false:=by simp;omega
       have q5:(wire==5)=false:=by simp;omega
       have hd:decide ((wire=0/\K=0/\N=n)\/(wire=1/\n=8)\/(wire=5/\n=4)\/wire=2)=decide (wire=2):=by simp[e0,e1,e5]
       rw[hd];clear e0 e1 e5 hd
       go_enter func139,ntmps139
       go_wp2
       go_ret
       exact⟨zam (by rw[Bool.eq_iff_iff];simp),rfl⟩
theorem zsf(hb:zac w A n c bs)(hn:n<=9000000000000000000):
 Calls prog 67 #[.int .i64 wire,.slice A n c] w fun e w'=>e=.returned (.bool (fitsV wire bs))/\w=w':=by
 have hl:=hb.length;rcases hv:readV bs with⟨W,N,K⟩
 have hbd:=zaP bs;rw[hv]at hbd;simp only at hbd;have h2:=hbd.2.2.1;have h4:=hbd.2.2.2.1;clear hbd;have hf:fitsV wire bs=decide ((wire=0/\K=0/\N=n)\/(wire=1/\n=8)\/(wire=5/\n=4)\/wire=2):=by unfold fitsV;rw[hv,hl]
 rw[hf];clear hf hl;have Hv:=zsz hv;clear hv;by_cases e0:wire=0
 . subst e0
   by_cases hK:K=0
   . subst hK
     go_enter func67,ntmps67
     go_wp2_with (go_at_call 70;refine(zdk (p:=0) hb rfl (Nat.zero_le _) hn Hv.out).mono ?_;rintro e w' ⟨rfl,rfl⟩)
     go_ret
     exact⟨zam (by rw[Bool.eq_iff_iff];simp;omega),rfl⟩
   . have q:((K:Int)==0)=false:=by simp;omega
     go_enter func67,ntmps67
     go_wp2_with (go_at_call 70;refine(zdk (p:=0) hb rfl (Nat.zero_le _) hn Hv.out).mono ?_;rintro e w' ⟨rfl,rfl⟩)
     go_ret
     exact⟨zam (by rw[Bool.eq_iff_iff];simp[hK]),rfl⟩
 . have q0:(wire==0)=false:=by simp;omega
   by_cases e2:wire=2
   . subst e2
     clear e0
     go_enter func67,ntmps67
     go_wp2
     go_ret
     exact⟨zam (by rw[Bool.eq_iff_iff];simp),rfl⟩
   . have q2:(wire==2)=false:=by simp;omega
     by_cases e1:wire=1
     . subst e1
       clear e0 e2;by_cases h8:n=8
       . subst h8
         go_enter func67,ntmps67
         go_wp2
         go_ret
         exact⟨zam (by rw[Bool.eq_iff_iff];simp),rfl⟩
       . have q8:((n:Int)==8)=false:=by simp;omega
         go_enter func67,ntmps67
         go_wp2
         go_ret
         exact⟨zam (by rw[Bool.eq_iff_iff];simp[h8]),rfl⟩
     . have q1:(wire==1)=false:=by simp;omega
       by_cases e5:wire=5
       . subst e5
         clear e0 e1 e2
         go_enter func67,ntmps67
         go_wp2
         go_ret
         exact⟨zam (by rw[Bool.eq_iff_iff];simp;try omega),rfl⟩
       . have q5:(wire==5)=false:=by simp;omega
         have hd:decide ((wire=0/\K=0/\N=n)\/(wire=1/\n=8)\/(wire=5/\n=4)\/wire=2)=false:=by simp[e0,e1,e2,e5]
         rw[hd];clear e0 e1 e2 e5 hd
         go_enter func67,ntmps67
         go_wp2
         go_ret
         exact⟨rfl,rfl⟩
def putB(number wire:Int)(v:List UInt8):List UInt8:=tagB number wire++((if wire=2 then Lib.uvarint v.length else[])++v)
variable{number:Int}
theorem zcv(h:zaw number wire=true){v:List UInt8}(hv:v.length<=100000000000):(putB number wire v).length<=v.length+15:=by
 have h1:=zhW h;have h2:=Lib.uvarint_length64 (x:=v.length) (by omega);unfold putB;rw[List.length_append,List.length_append];split
 . omega
 . simp;omega
variable{vs:List UInt8}{m d:Nat}{B:Option Addr}
theorem zrs(hb:zac w A n c bs)(hn:n<=1000000000)(hv:zac w B m d vs)(h:(zaw number wire&&fitsV wire vs)=false):
 Calls prog 117 #[.slice A n c,.int .i64 number,.int .i64 wire,.slice B m d] w fun e w'=>e=.returned (.tuple #[.slice none 0 0,.int .u8 2])/\Ext w w':=by
 rcases hr:zaw number wire with _|_
 . go_enter func117,ntmps117
   go_wp2_with (go_at_call 138;refine(zrD hr).mono ?_;rintro e w1 ⟨rfl,E1⟩;have X_:Ext w w1:=Ext.trans xx E1;have hE:=X_;clear X_)
   go_ret2
   exact⟨rfl,hE⟩
 . rw[hr,Bool.true_and]at h
   go_enter func117,ntmps117
   go_wp2_with (first|(go_at_call 138;refine(tPut hb hn hr).mono ?_;rintro e w1 ⟨A1,c1,rfl,own1⟩;have X_:Ext w w1:=Ext.trans xx own1.ext;replace hv:=hv.up X_;have hE:=X_;clear X_)|(go_at_call 139;refine(rFits hv).mono ?_;rintro e w' ⟨rfl,rfl⟩))
   go_ret2
   exact⟨rfl,hE⟩
theorem rPut(hb:zac w A n c bs)(hn:n<=1000000000)(hv:zac w B m d vs)(hm:m<=1000000000)(h:(zaw number wire&&fitsV wire vs)=true):
 Calls prog 117 #[.slice A n c,.int .i64 number,.int .i64 wire,.slice B m d] w fun e w'=>∃A' c',e=.returned (.tuple #[.slice A' (n+(putB number wire vs).length) c',.int .u8 0])/\Own w w' 5 1 A' (n+(putB number wire vs).length) c' ((bs++putB number wire vs).map bv):=by
 rw[Bool.and_eq_true]at h;obtain⟨hr,hf⟩:=h;have hl:=hv.length;have htl:=zhW hr;have hul:=Lib.uvarint_length64 (x:=m) (by omega);by_cases e2:wire=2
 . subst e2
   have hp:putB number 2 vs=tagB number 2++(Lib.uvarint m++vs):=by unfold putB;rw[if_pos rfl,hl]
   have hpl:(putB number 2 vs).length=(tagB number 2).length+(Lib.uvarint m).length+m:=by rw[hp];simp[hl];omega
   have Hp:=zsz hp;have Hpl:=zsz hpl;clear hp hpl hl
   go_enter func117,ntmps117
   go_wp2_with (first|(go_at_call 138;refine(tPut hb hn hr).mono ?_;rintro e w1 ⟨A1,c1,rfl,own1⟩;have X_:Ext w w1:=Ext.trans xx own1.ext;replace hv:=hv.up X_;have hE:=X_;clear X_)|(go_at_call 139;refine(rFits hv).mono ?_;rintro e w' ⟨rfl,rfl⟩)|(go_at_call 78;refine(vPut own1.bytes (by omega) (by omega) (by omega)).mono ?_;rintro e w2 ⟨A2,c2,rfl,own2⟩;have X_:Ext w1 w2:=Ext.trans xx own2.ext;replace hv:=hv.up X_;clear X_;rw[Int.toNat_natCast]at own2)|(at_builtin;refine zba elemB rfl (.tmp 35) (.tmp 36) rfl rfl (own2.since own1.ext) rfl hv (zdZ _) (by omega) (by unfold maxLen;omega) ?_;intro A3 c3 w3 own3 _))
   go_ret2
   rw[Hpl.out,Hp.out];exact⟨A3,c3,by simp[Nat.add_assoc],by simpa[Nat.add_assoc] using own3⟩
 . have q:(wire==2)=false:=by simp;omega
   have hp:putB number wire vs=tagB number wire++vs:=by unfold putB;rw[if_neg e2];rfl
   have hpl:(putB number wire vs).length=(tagB number wire).length+m:=by rw[hp];simp[hl]
   have Hp:=zsz hp;have Hpl:=zsz hpl;clear hp hpl hl e2
   go_enter func117,ntmps117
   go_wp2_with (first|(go_at_call 138;refine(tPut hb hn hr).mono ?_;rintro e w1 ⟨A1,c1,rfl,own1⟩;have X_:Ext w w1:=Ext.trans xx own1.ext;replace hv:=hv.up X_;have hE:=X_;clear X_)|(go_at_call 139;refine(rFits hv).mono ?_;rintro e w' ⟨rfl,rfl⟩)|(at_builtin;refine zba elemB rfl (.tmp 35) (.tmp 36) rfl rfl own1 rfl hv (zdZ _) (by omega) (by unfold maxLen;omega) ?_;intro A3 c3 w3 own3 _))
   go_ret2
   rw[Hpl.out,Hp.out];exact⟨A3,c3,by simp[Nat.add_assoc],by simpa[Nat.add_assoc] using own3⟩
def lenB(number:Int)(v:List UInt8):List UInt8:=if zaw number 2=true then putB number 2 v else[]
theorem ziM(v:List UInt8):fitsV 2 v=true:=by unfold fitsV;simp
theorem rLen(hb:zac w A n c bs)(hn:n<=1000000000)(hv:zac w B m d vs)(hm:m<=1000000000):
 Calls prog 115 #[.slice A n c,.int .i64 number,.slice B m d] w fun e w'=>∃A' c',e=.returned (.slice A' (n+(lenB number vs).length) c')/\Own w w' 5 1 A' (n+(lenB number vs).length) c' ((bs++lenB number vs).map bv):=by
 rcases hr:zaw number 2 with _|_
 . have hlb:lenB number vs=[]:=by unfold lenB;rw[hr];rfl
   rw[hlb];clear hlb
   go_enter func115,ntmps115
   go_wp2_with (first|(go_at_call 117;refine(zrs hb hn hv (by rw[hr];rfl)).mono ?_;rintro e w1 ⟨rfl,E1⟩;have X_:Ext w w1:=Ext.trans xx E1;replace hb:=hb.up X_;have hE:=X_;clear X_)|(go_at_call 50;refine(clone hb (by omega)).mono ?_;rintro e w2 ⟨A2,c2,rfl,own2⟩;have X_:Ext w1 w2:=Ext.trans xx own2.ext;clear X_))
   go_ret
   exact⟨A2,c2,rfl,by simpa using own2.since hE⟩
 . have hlb:lenB number vs=putB number 2 vs:=by unfold lenB;rw[hr];rfl
   rw[hlb];clear hlb
   go_enter func115,ntmps115
   go_wp2_with (go_at_call 117;refine(rPut hb hn hv hm (by rw[hr,ziM];rfl)).mono ?_;rintro e w' ⟨A1,c1,rfl,own1⟩)
   go_ret
   exact⟨A1,c1,rfl,own1⟩
end Go.Proofs.YtpicpebolghcfaaGreatDoor
namespace Go.Proofs.YtpicpebolghcfaaGreatDoor
open Go.RowKit Go.Lib Tryz
theorem zpk{T V:Nat}(h:zaw (T:Int) (V:Int)=true)(more:List UInt8):tagV (tagB (T:Int) (V:Int)++more)=(T,V,(tagB (T:Int) (V:Int)).length,0):=by
 obtain⟨h1,h2,h3,h4⟩:=zgN h;have e:(8*(T:Int)+(V:Int)).toNat=8*T+V:=by omega
 have hv:readV (tagB (T:Int) (V:Int)++more)=(8*T+V,(tagB (T:Int) (V:Int)).length,0):=by
  unfold tagB;rw[e];exact zch _ _ (by omega)
 have e1:(8*T+V) / 8=T:=by omega
 have e2:(8*T+V) % 8=V:=by omega
 have:=zji hv (by rw[e1,e2];exact h)
 rwa[e1,e2]at this
def spanB(bs:List UInt8)(a t:Nat):List UInt8:=(bs.take t).drop a
theorem zax(bs:List UInt8){a t:Nat}(h:t<=bs.length):(spanB bs a t).length=t - a:=by unfold spanB;rw[List.length_drop,List.length_take];omega
end Go.Proofs.YtpicpebolghcfaaGreatDoor
namespace Go.Proofs.YtpicpebolghcfaaGreatDoor
open Go.RowKit Tryz
end Go.Proofs.YtpicpebolghcfaaGreatDoor
