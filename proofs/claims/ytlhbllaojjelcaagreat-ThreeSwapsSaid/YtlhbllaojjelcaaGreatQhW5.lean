/- Contracts of layer 5. -/
import Derived.Test.YtlhbllaojjelcaaGreatQhWA

set_option linter.unusedVariables false
set_option maxHeartbeats 1000000
namespace Go.Proofs.YtlhbllaojjelcaaGreat
open Go.RowKit Tryz
variable{C n c:Nat}{w:World}{bs:List UInt8}{A:Option Addr}
theorem rSize{V a g:Nat}(hb:zab w A n c bs)(hV:V<=5)(hs:sizeV V bs=(a,g,C)):
 Calls prog 179 #[.slice A n c,.int .i64 (V:Int)] w fun e w'=>e=.returned (.tuple #[.int .i64 (a:Int),.int .u64 (g:Int),.int .u8 (C:Int)])/\w=w':=by
 rcases hv:readV bs with⟨W,N,K⟩
 have hbd:=zbt bs;rw[hv]at hbd;simp only at hbd;have h1:=hbd.1;have h2:=hbd.2.2.1;have h4:=hbd.2.2.2.1;clear hbd;unfold sizeV at hs;rw[hv]at hs;have Hv:=zsp hv;clear hv;by_cases e0:V=0
 . subst e0
   simp only[if_true,Prod.mk.injEq]at hs;obtain⟨rfl,rfl,rfl⟩:=hs
   go_enter func179,ntmps179
   go_wp2_with (go_at_call 174;refine(vSkip hb Hv.out).mono ?_;rintro e w' ⟨rfl,rfl⟩)
   go_ret3
   exact⟨rfl,rfl⟩
 . by_cases e1:V=1
   . subst e1
     simp only[if_true,if_neg e0,Prod.mk.injEq]at hs;obtain⟨rfl,rfl,rfl⟩:=hs
     go_enter func179,ntmps179
     go_wp2
     go_ret3
     exact⟨rfl,rfl⟩
   . by_cases e5:V=5
     . subst e5
       simp only[if_true,if_neg e0,if_neg e1,Prod.mk.injEq]at hs;obtain⟨rfl,rfl,rfl⟩:=hs
       go_enter func179,ntmps179
       go_wp2
       go_ret3
       exact⟨rfl,rfl⟩
     . rw[if_neg e0,if_neg e1,if_neg e5]at hs
       simp only[Prod.mk.injEq]at hs;obtain⟨rfl,rfl,rfl⟩:=hs;have q0:((V:Int)==0)=false:=by simp;omega
       have q1:((V:Int)==1)=false:=by simp;omega
       have q5:((V:Int)==5)=false:=by simp;omega
       clear e0 e1 e5
       go_enter func179,ntmps179
       go_wp2_with (go_at_call 152;refine(vRead hb Hv.out).mono ?_;rintro e w' ⟨rfl,rfl⟩)
       go_ret3
       exact⟨rfl,rfl⟩
def recV(r:Rec):Value:=.agg #[.int .i64 (r.n:Int),.int .i64 (r.w:Int),.int .i64 (r.f:Int),.int .i64 (r.a:Int),.int .i64 (r.t:Int)]
theorem zox{p:Int}(hp:p<0\/(n:Int)<=p):
 Calls prog 161 #[.slice A n c,.int .i64 p] w fun e w'=>e=.returned (.tuple #[recV Rec.zero,.int .u8 2])/\Ext w w':=by
 rcases hp with hp|hp
 . go_enter func161,ntmps161
   go_wp2
   exact bodyPost_ret (v:=.tuple #[recV Rec.zero,.int .u8 2]) (by simp[results,results161,go_sem,recV,Rec.zero]) rfl ⟨rfl,xx⟩
 . have h0:¬p<0:=by omega
   go_enter func161,ntmps161
   go_wp2
   exact bodyPost_ret (v:=.tuple #[recV Rec.zero,.int .u8 2]) (by simp[results,results161,go_sem,recV,Rec.zero]) rfl ⟨rfl,xx⟩
variable{r:Rec}{p:Nat}
theorem rNext(hb:zab w A n c bs)(hp:p<n)(hn:n<=1000000000000)(h:nextV bs p=(r,C)):
 Calls prog 161 #[.slice A n c,.int .i64 (p:Int)] w fun e w'=>e=.returned (.tuple #[recV r,.int .u8 (C:Int)])/\Ext w w':=by
 have hl:=hb.length;obtain⟨A3,hcut,hr3⟩:=zfj elemB hb .i64 (l:=p) (by omega);have hb3:zab w A3 (n - p) (c - p) (bs.drop p):=by simpa[zab,List.map_drop] using hr3
 have hl3:=hb3.length;rcases ht:tagV (bs.drop p)with⟨T,V,N,K⟩
 have tb:=zjc (bs.drop p);rw[ht,hl3]at tb;simp only at tb;obtain⟨t1,t2,t3,t4,t5,t6⟩:=tb;unfold nextV at h;clear hr3 hl3;by_cases hK:K=0
 . subst hK
   have t7:=(t6 rfl).1;clear t6;rcases hs:sizeV V ((bs.drop p).drop N)with⟨a,g,D⟩
   have hs':=hs;rw[List.drop_drop]at hs';obtain⟨A4,hcut4,hr4⟩:=zfj elemB hb .i64 (l:=p+N) (by omega);have hb4:zab w A4 (n - (p+N)) (c - (p+N)) (bs.drop (p+N)):=by simpa[zab,List.map_drop] using hr4
   have sb:=zlU V ((bs.drop p).drop N);rw[hs,List.drop_drop,hb4.length]at sb;simp only at sb;obtain⟨s1,s2,s3,s4⟩:=sb;rw[Int.natCast_add]at hcut4;clear hr4;by_cases hD:D=0
   . subst hD
     by_cases hg:n - p - (N+a)<g
     . rw[zdd ht hs (by rw[List.length_drop,hl];omega)]at h
       simp[zbX]at h;obtain⟨rfl,rfl⟩:=h;have hg':((n:Int) - ((p:Int)+N+a))<(g:Int):=by omega
       have Ht:=zsp ht;have Hs:=zsp hs';clear ht hs hs' hl hg
       go_enter func161,ntmps161
       go_wp2_with (first|(go_at_call 178;refine(tRead (hb3.ext xx) Ht.out).mono ?_;rintro e w1 ⟨rfl,E1⟩;obtain⟨f1,f2,f3⟩:=E1.new_cells;have X_:Ext w w1:=Ext.trans xx E1;replace hb4:=hb4.up X_;have hE:=X_;clear X_))
       have hw:IntKind.i64.wrap ((p:Int)+N)=(p:Int)+N:=by rw[IntKind.wrap_i64];omega
       go_quiet ((go_at_call 179;exact Calls.quiet_of_same ((rSize (hb4.up xx) t5 Hs.out).mono fun _ _ h=>⟨h.1,h.2.symm⟩)))
       go_wp2
       exact bodyPost_ret (v:=.tuple #[recV Rec.zero,.int .u8 3]) (by simp[results,results161,go_sem,recV,Rec.zero,f1,f3]) rfl ⟨rfl,xy⟩
     . rw[zcT ht hs (by rw[List.length_drop,hl];omega)]at h
       simp[zbX]at h;obtain⟨rfl,rfl⟩:=h;have hg':¬((n:Int) - ((p:Int)+N+a))<(g:Int):=by omega
       have hg2:(g:Int)<=1000000000000:=by omega
       have hg3:(p:Int)+N+a+g<=1000000000000:=by omega
       have Ht:=zsp ht;have Hs:=zsp hs';clear ht hs hs' hl
       go_enter func161,ntmps161
       go_wp2_with (first|(go_at_call 178;refine(tRead (hb3.ext xx) Ht.out).mono ?_;rintro e w1 ⟨rfl,E1⟩;obtain⟨f1,f2,f3⟩:=E1.new_cells;have X_:Ext w w1:=Ext.trans xx E1;replace hb4:=hb4.up X_;have hE:=X_;clear X_))
       have hw:IntKind.i64.wrap ((p:Int)+N)=(p:Int)+N:=by rw[IntKind.wrap_i64];omega
       go_quiet ((go_at_call 179;exact Calls.quiet_of_same ((rSize (hb4.up xx) t5 Hs.out).mono fun _ _ h=>⟨h.1,h.2.symm⟩)))
       go_wp2
       exact bodyPost_ret (v:=.tuple #[recV ⟨T,V,p,p+N+a,p+N+a+g⟩,.int .u8 0]) (by simp[results,results161,go_sem,recV,f1,f3]) rfl ⟨by simp[recV,Nat.add_assoc],xy⟩
   . rw[zeP ht hs hD]at h
     simp[zbX,hD]at h;obtain⟨rfl,rfl⟩:=h;have q:((D:Int) !=0)=true:=by simp;omega
     have Ht:=zsp ht;have Hs:=zsp hs';clear ht hs hs' hl
     go_enter func161,ntmps161
     go_wp2_with (first|(go_at_call 178;refine(tRead (hb3.ext xx) Ht.out).mono ?_;rintro e w1 ⟨rfl,E1⟩;obtain⟨f1,f2,f3⟩:=E1.new_cells;have X_:Ext w w1:=Ext.trans xx E1;replace hb4:=hb4.up X_;have hE:=X_;clear X_))
     have hw:IntKind.i64.wrap ((p:Int)+N)=(p:Int)+N:=by rw[IntKind.wrap_i64];omega
     go_quiet ((go_at_call 179;exact Calls.quiet_of_same ((rSize (hb4.up xx) t5 Hs.out).mono fun _ _ h=>⟨h.1,h.2.symm⟩)))
     go_wp2
     exact bodyPost_ret (v:=.tuple #[recV Rec.zero,.int .u8 D]) (by simp[results,results161,go_sem,recV,Rec.zero,f1,f3]) rfl ⟨rfl,xy⟩
 . rw[zhg ht hK]at h
   simp[zbX,hK]at h;obtain⟨rfl,rfl⟩:=h;have q:((K:Int) !=0)=true:=by simp;omega
   have Ht:=zsp ht;clear ht hl t6
   go_enter func161,ntmps161
   go_wp2_with (first|(go_at_call 178;refine(tRead (hb3.ext xx) Ht.out).mono ?_;rintro e w1 ⟨rfl,E1⟩;obtain⟨f1,f2,f3⟩:=E1.new_cells;have X_:Ext w w1:=Ext.trans xx E1;have hE:=X_;clear X_))
   exact bodyPost_ret (v:=.tuple #[recV Rec.zero,.int .u8 K]) (by simp[results,results161,go_sem,recV,Rec.zero,f1,f3]) rfl ⟨rfl,xy⟩
theorem znk{p:Int}(hp:p<0\/(n:Int)<=p):
 Calls prog 63 #[.slice A n c,.int .i64 p] w fun e w'=>e=.returned (.tuple #[recV Rec.zero,.int .i64 2])/\Ext w w':=by
 rcases hp with hp|hp
 . go_enter func63,ntmps63
   go_wp2
   exact bodyPost_ret (v:=.tuple #[recV Rec.zero,.int .i64 2]) (by simp[results,results63,go_sem,recV,Rec.zero]) rfl ⟨rfl,xx⟩
 . have h0:¬p<0:=by omega
   go_enter func63,ntmps63
   go_wp2
   exact bodyPost_ret (v:=.tuple #[recV Rec.zero,.int .i64 2]) (by simp[results,results63,go_sem,recV,Rec.zero]) rfl ⟨rfl,xx⟩
section
variable {A:Option Addr} {n c p:Nat} {bs:List UInt8} {w:World} {T V N W M K:Nat}
theorem znl(hb:zab w A n c bs)(hp:p<n)(hn:n<=1000000000000)(ht:tagV (bs.drop p)=(T,V,N,K))(hK:K≠0):
 Calls prog 63 #[.slice A n c,.int .i64 (p:Int)] w fun e w'=>e=.returned (.tuple #[recV Rec.zero,.int .i64 (K:Int)])/\Ext w w':=by
 have q:((K:Int) !=0)=true:=by simp;omega
 have Ht:=zsp ht;clear ht
 go_enter func63,ntmps63
 go_wp2_with (go_at_call 96;refine(zfJ (hb.ext xx) rfl (by omega) (by omega) Ht.out).mono ?_;rintro e w' ⟨rfl,rfl⟩)
 exact bodyPost_ret (v:=.tuple #[recV Rec.zero,.int .i64 K]) (by simp[results,results63,go_sem,recV,Rec.zero]) rfl ⟨rfl,xx⟩
theorem zpC(hb:zab w A n c bs)(hp:p<n)(hn:n<=1000000000000)(ht:tagV (bs.drop p)=(T,0,N,0))(hN:N<=n - p)(hT:T<=536870911)(hv:readV (bs.drop (p+N))=(W,M,K))(hM:M<=n - (p+N)):
 Calls prog 63 #[.slice A n c,.int .i64 (p:Int)] w fun e w'=>e=.returned (.tuple #[recV (if K=0 then⟨T,0,p,p+N,p+N+M⟩else Rec.zero),.int .i64 (K:Int)])/\Ext w w':=by
 have Ht:=zsp ht;have Hv:=zsp hv;clear ht hv;by_cases hK:K=0
 . subst hK
   go_enter func63,ntmps63
   go_wp2_with (first|(go_at_call 96;refine(zfJ (hb.ext xx) rfl (by omega) (by omega) Ht.out).mono ?_;rintro e w' ⟨rfl,rfl⟩)|(go_at_call 73;refine(zeI (p:=p+N) (hb.ext xx) (by omega) (by omega) (by omega) Hv.out).mono ?_;rintro e w' ⟨rfl,rfl⟩))
   exact bodyPost_ret (v:=.tuple #[recV ⟨T,0,p,p+N,p+N+M⟩,.int .i64 0]) (by simp[results,results63,go_sem,recV]) rfl ⟨by simp,xx⟩
 . have q:((K:Int) !=0)=true:=by simp;omega
   rw[if_neg hK]
   go_enter func63,ntmps63
   go_wp2_with (first|(go_at_call 96;refine(zfJ (hb.ext xx) rfl (by omega) (by omega) Ht.out).mono ?_;rintro e w' ⟨rfl,rfl⟩)|(go_at_call 73;refine(zeI (p:=p+N) (hb.ext xx) (by omega) (by omega) (by omega) Hv.out).mono ?_;rintro e w' ⟨rfl,rfl⟩))
   exact bodyPost_ret (v:=.tuple #[recV Rec.zero,.int .i64 K]) (by simp[results,results63,go_sem,recV,Rec.zero]) rfl ⟨rfl,xx⟩
theorem zkt(hb:zab w A n c bs)(hp:p<n)(hn:n<=1000000000000){g:Nat}(hV:V=1/\g=8\/V=5/\g=4)(ht:tagV (bs.drop p)=(T,V,N,0))(hN:N<=n - p)(hT:T<=536870911):
 Calls prog 63 #[.slice A n c,.int .i64 (p:Int)] w fun e w'=>e=.returned (.tuple #[recV (if n - (p+N)<g then Rec.zero else⟨T,V,p,p+N,p+N+g⟩),.int .i64 (if n - (p+N)<g then 3 else 0:Int)])/\Ext w w':=by
 have Ht:=zsp ht;clear ht;by_cases hK:n - (p+N)<g
 . rw[if_pos hK,if_pos hK]
   have hK':(n:Int) - ((p:Int)+N)<g:=by omega
   rcases hV with⟨rfl,rfl⟩|⟨rfl,rfl⟩
   all_goals
    go_enter func63,ntmps63
    go_wp2_with (first|(go_at_call 96;refine(zfJ (hb.ext xx) rfl (by omega) (by omega) Ht.out).mono ?_;rintro e w' ⟨rfl,rfl⟩))
    exact bodyPost_ret (v:=.tuple #[recV Rec.zero,.int .i64 3]) (by simp[results,results63,go_sem,recV,Rec.zero]) rfl ⟨rfl,xx⟩
 . rw[if_neg hK,if_neg hK]
   have hK':¬(n:Int) - ((p:Int)+N)<(g:Int):=by omega
   rcases hV with⟨rfl,rfl⟩|⟨rfl,rfl⟩
   . go_enter func63,ntmps63
     go_wp2_with (first|(go_at_call 96;refine(zfJ (hb.ext xx) rfl (by omega) (by omega) Ht.out).mono ?_;rintro e w' ⟨rfl,rfl⟩))
     exact bodyPost_ret (v:=.tuple #[recV ⟨T,1,p,p+N,p+N+8⟩,.int .i64 0]) (by simp[results,results63,go_sem,recV]) rfl ⟨rfl,xx⟩
   . go_enter func63,ntmps63
     go_wp2_with (first|(go_at_call 96;refine(zfJ (hb.ext xx) rfl (by omega) (by omega) Ht.out).mono ?_;rintro e w' ⟨rfl,rfl⟩))
     exact bodyPost_ret (v:=.tuple #[recV ⟨T,5,p,p+N,p+N+4⟩,.int .i64 0]) (by simp[results,results63,go_sem,recV]) rfl ⟨rfl,xx⟩
theorem zpD(hb:zab w A n c bs)(hp:p<n)(hn:n<=1000000000000)(ht:tagV (bs.drop p)=(T,2,N,0))(hN:N<=n - p)(hT:T<=536870911)(hv:readV (bs.drop (p+N))=(W,M,K))(hM:M<=n - (p+N))(hM10:M<=10)(hW:W<18446744073709551616){r:Rec}{D:Nat}(h:(K≠0/\r=Rec.zero/\D=K)\/(K=0/\n - (p+N+M)<W/\r=Rec.zero/\D=3)\/(K=0/\¬n - (p+N+M)<W/\r=⟨T,2,p,p+N+M,p+N+M+W⟩/\D=0)):
 Calls prog 63 #[.slice A n c,.int .i64 (p:Int)] w fun e w'=>e=.returned (.tuple #[recV r,.int .i64 (D:Int)])/\Ext w w':=by
 have Ht:=zsp ht;have Hv:=zsp hv;clear ht hv;rcases h with⟨hK,rfl,hD⟩|⟨rfl,hK,rfl,rfl⟩|⟨rfl,hK,rfl,rfl⟩
 . obtain rfl:K=D:=hD.symm
   have q:((K:Int) !=0)=true:=by simp;omega
   go_enter func63,ntmps63
   go_wp2_with (first|(go_at_call 96;refine(zfJ (hb.ext xx) rfl (by omega) (by omega) Ht.out).mono ?_;rintro e w' ⟨rfl,rfl⟩)|(go_at_call 73;refine(zeI (p:=p+N) (hb.ext xx) (by omega) (by omega) (by omega) Hv.out).mono ?_;rintro e w' ⟨rfl,rfl⟩))
   exact bodyPost_ret (v:=.tuple #[recV Rec.zero,.int .i64 K]) (by simp[results,results63,go_sem,recV,Rec.zero]) rfl ⟨rfl,xx⟩
 . have hK':(n:Int) - ((p:Int)+N) - M<W:=by omega
   go_enter func63,ntmps63
   go_wp2_with (first|(go_at_call 96;refine(zfJ (hb.ext xx) rfl (by omega) (by omega) Ht.out).mono ?_;rintro e w' ⟨rfl,rfl⟩)|(go_at_call 73;refine(zeI (p:=p+N) (hb.ext xx) (by omega) (by omega) (by omega) Hv.out).mono ?_;rintro e w' ⟨rfl,rfl⟩))
   exact bodyPost_ret (v:=.tuple #[recV Rec.zero,.int .i64 3]) (by simp[results,results63,go_sem,recV,Rec.zero]) rfl ⟨rfl,xx⟩
 . have hK':¬(n:Int) - ((p:Int)+N) - M<W:=by omega
   have hW':(W:Int)<=1000000000000:=by omega
   have hW2:(p:Int)+N+M+W<=1000000000000:=by omega
   go_enter func63,ntmps63
   go_wp2_with (first|(go_at_call 96;refine(zfJ (hb.ext xx) rfl (by omega) (by omega) Ht.out).mono ?_;rintro e w' ⟨rfl,rfl⟩)|(go_at_call 73;refine(zeI (p:=p+N) (hb.ext xx) (by omega) (by omega) (by omega) Hv.out).mono ?_;rintro e w' ⟨rfl,rfl⟩))
   exact bodyPost_ret (v:=.tuple #[recV ⟨T,2,p,p+N+M,p+N+M+W⟩,.int .i64 0]) (by simp[results,results63,go_sem,recV]) rfl ⟨rfl,xx⟩
end
theorem zrW(hb:zab w A n c bs)(hp:p<n)(hn:n<=1000000000000)(h:nextV bs p=(r,C)):
 Calls prog 63 #[.slice A n c,.int .i64 (p:Int)] w fun e w'=>e=.returned (.tuple #[recV r,.int .i64 (C:Int)])/\Ext w w':=by
 have hl:=hb.length;have hld:(bs.drop p).length=n - p:=by rw[List.length_drop,hl]
 rcases ht:tagV (bs.drop p)with⟨T,V,N,K⟩
 have tb:=zjc (bs.drop p);rw[ht,hld]at tb;simp only at tb;obtain⟨t1,t2,t3,t4,t5,t6⟩:=tb;unfold nextV at h;by_cases hK:K=0
 . subst hK
   have t7:=t6 rfl;have hr:=t7.2;unfold zao at hr;have hr:=of_decide_eq_true hr;rcases hv:readV (bs.drop (p+N))with⟨W,M,K⟩
   have vb:=zbt (bs.drop (p+N));rw[hv,List.length_drop,hl]at vb;simp only at vb;have hdd:(bs.drop p).drop N=bs.drop (p+N):=List.drop_drop;rcases(show V=0\/V=1\/V=5\/V=2 by omega)with rfl|rfl|rfl|rfl
   . have hs:sizeV 0 ((bs.drop p).drop N)=(0,M,K):=by rw[hdd];unfold sizeV;rw[if_pos rfl,hv]
     have key:=zpC hb hp hn ht t2 t4 hv vb.2.1;by_cases hK:K=0
     . subst hK
       rw[zcT ht hs (by rw[hld];omega)]at h;simp[zbX]at h;obtain⟨rfl,rfl⟩:=h;simpa[Nat.add_assoc] using key
     . rw[zeP ht hs hK]at h
       simp[zbX,hK]at h;obtain⟨rfl,rfl⟩:=h;simpa[hK] using key
   . have hs:sizeV 1 ((bs.drop p).drop N)=(0,8,0):=by unfold sizeV;simp
     have key:=zkt (g:=8) hb hp hn (.inl ⟨rfl,rfl⟩) ht t2 t4;by_cases hg:n - (p+N)<8
     . rw[zdd ht hs (by rw[hld];omega)]at h
       simp[zbX]at h;obtain⟨rfl,rfl⟩:=h;simpa[hg] using key
     . rw[zcT ht hs (by rw[hld];omega)]at h
       simp[zbX]at h;obtain⟨rfl,rfl⟩:=h;simpa[hg,Nat.add_assoc] using key
   . have hs:sizeV 5 ((bs.drop p).drop N)=(0,4,0):=by unfold sizeV;simp
     have key:=zkt (g:=4) hb hp hn (.inr ⟨rfl,rfl⟩) ht t2 t4;by_cases hg:n - (p+N)<4
     . rw[zdd ht hs (by rw[hld];omega)]at h
       simp[zbX]at h;obtain⟨rfl,rfl⟩:=h;simpa[hg] using key
     . rw[zcT ht hs (by rw[hld];omega)]at h
       simp[zbX]at h;obtain⟨rfl,rfl⟩:=h;simpa[hg,Nat.add_assoc] using key
   . have hs:sizeV 2 ((bs.drop p).drop N)=(M,W,K):=by rw[hdd];unfold sizeV;simp[hv]
     refine zpD hb hp hn ht t2 t4 hv vb.2.1 vb.2.2.1 vb.1 ?_;by_cases hK:K=0
     . subst hK
       by_cases hg:n - (p+N+M)<W
       . rw[zdd ht hs (by rw[hld];omega)]at h
         simp[zbX]at h;exact .inr (.inl ⟨rfl,hg,h.1.symm,h.2.symm⟩)
       . rw[zcT ht hs (by rw[hld];omega)]at h
         simp[zbX]at h;exact .inr (.inr ⟨rfl,hg,by rw[<-h.1];simp[Nat.add_assoc],h.2.symm⟩)
     . rw[zeP ht hs hK]at h
       simp[zbX,hK]at h;exact .inl ⟨hK,h.1.symm,h.2.symm⟩
 . rw[zhg ht hK]at h
   simp[zbX,hK]at h;obtain⟨rfl,rfl⟩:=h;exact znl hb hp hn ht hK
def recC(r:Rec):List Value:=[.int .i64 (r.n:Int),.int .i64 (r.w:Int),.int .i64 (r.f:Int),.int .i64 (r.a:Int),.int .i64 (r.t:Int)]
theorem zpE(r:Rec):∀u∈recC r,u.oneCell'=true:=by
 intro u hu;simp only[recC,List.mem_cons,List.not_mem_nil,or_false]at hu;rcases hu with rfl|rfl|rfl|rfl|rfl<;>rfl
theorem zrf:Elem prog 210 189 5 40:=Elem.mk' (z:=.agg #[.int .i64 0,.int .i64 0,.int .i64 0,.int .i64 0,.int .i64 0]) underlying210 (by kernel_rfl) rfl (by omega)
theorem zrX(hb:zab w A n c bs)(hn:n<=1000000000):
 Calls prog 128 #[.slice A n c] w fun e w'=>∃A' c',e=.returned (.tuple #[.slice A' (zco bs).1.length c',.int .i64 ((zco bs).2.1:Int),.int .u8 ((zco bs).2.2:Int)])/\Own w w' 189 5 A' (zco bs).1.length c' ((zco bs).1.flatMap recC):=by
 have hlen:=hb.length;have hO:=zcI bs;rw[hlen]at hO;have hS:zco bs=scan (nextV bs) Rec.t n 0:=by unfold zco;rw[hlen]
 have HO:=zsp hO;have HS:=zsp hS;clear hlen hO hS
 go_enter func128,ntmps128
 go_wp2
 go_loopw [5,6] (fun u i wr=>∃(p:Nat)(A2:Option Addr)(c2:Nat)(l:List Rec),p<=n/\i=.int .i64 p/\u=.slice A2 l.length c2/\Own w wr 189 5 A2 l.length c2 (l.flatMap recC)/\
  l.length<=p/\Hid (zco bs=pre l (scan (nextV bs) Rec.t n p))) (fun _ i _=>n - (intOf i).toNat)
 case atStart=>exact⟨0,none,0,[],Nat.zero_le _,rfl,rfl,Own.nil (Ext.refl _) 189 5,Nat.zero_le _,by rw[zgH HO.out];exact HS.out⟩
 case round=>
  obtain⟨p,A2,c2,l,hp,rfl,rfl,own,hlp,hA⟩:=hrel;by_cases hm:(p:Int)<n
  . rcases hv:nextV bs p with⟨r,C⟩
    by_cases hC:C=0
    . subst hC
      have h2:=HO.out p (by omega) (by rw[hv]);rw[hv]at h2;simp only at h2;have hsc:=zby HO.out (show p<n by omega) hv;obtain⟨rn,rw_,rf,ra,rt⟩:=r;simp only at h2;have Hv:=zsp hv;have Hsc:=zsp hsc;clear hv hsc
      go_wp2_with (first|(go_at_call 161;refine(rNext (hb.ext (own.ext.trans xx)) (by omega) (by omega) Hv.out).mono ?_;rintro e w1 ⟨rfl,E1⟩;unfold recV;have X_:Ext wr w1:=Ext.trans xx E1;replace own:=own.up X_;have hE:=X_;clear X_))
      go_region_law ((refine zjw (cs:=recC ⟨rn,rw_,rf,ra,rt⟩) zrf rfl (.tmp 23) (.tmp 25) rfl rfl (own.up xx) rfl (by first|rfl|simp) rfl (zpE _) (by omega) (by unfold maxLen;omega) ?_;intro A4 c4 w4 own4 g4;have k4:w4.cell? ⟨w1.heap.size,4,none⟩=some (.int .i64 (rt:Int)):=(zhK own g4 (Nat.le_refl _) (by simp<;>omega)).trans (by simp)))
      all_goals
       go_simp
       go_wp2
       go_roundw
       case rel=>
        refine⟨rt,A4,c4,l++[⟨rn,rw_,rf,ra,rt⟩],by omega,rfl,zoW (by simp),by simpa using own4,by simp;omega,?_⟩;have e:=hA.out;rw[Hsc.out,zkS]at e;exact e
       case measure=>simp[intOf];omega
    . have q:((C:Int) !=0)=true:=by simp;omega
      have fin:=zaR (to:=Rec.t) (show p<n by omega) hv hC;have hA':=hA.out;rw[fin,zlT _ hC]at hA';have Hf:=zsp hA';have Hv:=zsp hv;clear hA' fin hv
      go_wp2_with (first|(go_at_call 161;refine(rNext (hb.ext (own.ext.trans xx)) (by omega) (by omega) Hv.out).mono ?_;rintro e w1 ⟨rfl,E1⟩;unfold recV;have X_:Ext wr w1:=Ext.trans xx E1;replace own:=own.up X_;have hE:=X_;clear X_))
      go_ret3
      rw[Hf.out];exact⟨none,0,rfl,Own.nil (own.ext.trans xx) 189 5⟩
  . have hA':=hA.out
    rw[zaA (by omega),ziY]at hA';have Hf:=zsp hA';clear hA'
    go_wp2
    go_ret3
    rw[Hf.out];exact⟨A2,c2,rfl,own⟩
theorem zrg{l:List Rec}(hb:zab w A n c bs)(hn:n<=1000000000)(h:zco bs=(l,p,C)):
 Calls prog 128 #[.slice A n c] w fun e w'=>∃A' c',e=.returned (.tuple #[.slice A' l.length c',.int .i64 (p:Int),.int .u8 (C:Int)])/\Own w w' 189 5 A' l.length c' (l.flatMap recC):=by
 have:=zrX hb hn;rw[h]at this;exact this
def fitsV(wire:Int)(v:List UInt8):Bool:=decide ((wire=0/\(readV v).2.2=0/\(readV v).2.1=v.length)\/(wire=1/\v.length=8)\/(wire=5/\v.length=4)\/wire=2)
variable{wire:Int}
theorem rFits(hb:zab w A n c bs):
 Calls prog 146 #[.int .i64 wire,.slice A n c] w fun e w'=>e=.returned (.bool (fitsV wire bs))/\w=w':=by
 have hl:=hb.length;rcases hv:readV bs with⟨W,N,K⟩
 have hbd:=zbt bs;rw[hv]at hbd;simp only at hbd;have h2:=hbd.2.2.1;have h4:=hbd.2.2.2.1;clear hbd;have hf:fitsV wire bs=decide ((wire=0/\K=0/\N=n)\/(wire=1/\n=8)\/(wire=5/\n=4)\/wire=2):=by unfold fitsV;rw[hv,hl]
 rw[hf];clear hf hl;have Hv:=zsp hv;clear hv;by_cases e0:wire=0
 . subst e0
   by_cases hK:K=0
   . subst hK
     go_enter func146,ntmps146
     go_wp2_with (go_at_call 174;refine(vSkip hb Hv.out).mono ?_;rintro e w' ⟨rfl,rfl⟩)
     go_ret
     exact⟨zag (by rw[Bool.eq_iff_iff];simp;omega),rfl⟩
   . have q:((K:Int)==0)=false:=by simp;omega
     go_enter func146,ntmps146
     go_wp2_with (go_at_call 174;refine(vSkip hb Hv.out).mono ?_;rintro e w' ⟨rfl,rfl⟩)
     go_ret
     exact⟨zag (by rw[Bool.eq_iff_iff];simp[hK]),rfl⟩
 . by_cases e1:wire=1
   . subst e1
     go_enter func146,ntmps146
     go_wp2
     go_ret
     exact⟨zag (by rw[Bool.eq_iff_iff];simp;try omega),rfl⟩
   . by_cases e5:wire=5
     . subst e5
       go_enter func146,ntmps146
       go_wp2
       go_ret
       exact⟨zag (by rw[Bool.eq_iff_iff];simp;try omega),rfl⟩
     . have q0:(wire==0)=false:=by simp;omega
       have q1:(wire==1)=false:=by simp;omega
       have q5:(wire==5)=false:=by simp;omega
       have hd:decide ((wire=0/\K=0/\N=n)\/(wire=1/\n=8)\/(wire=5/\n=4)\/wire=2)=decide (wire=2):=by simp[e0,e1,e5]
       rw[hd];clear e0 e1 e5 hd
       go_enter func146,ntmps146
       go_wp2
       go_ret
       exact⟨zag (by rw[Bool.eq_iff_iff];simp),rfl⟩
def putB(number wire:Int)(v:List UInt8):List UInt8:=tagB number wire++((if wire=2 then Lib.uvarint v.length else[])++v)
variable{number:Int}
theorem zdh(h:zao number wire=true){v:List UInt8}(hv:v.length<=100000000000):(putB number wire v).length<=v.length+15:=by
 have h1:=zhG h;have h2:=Lib.uvarint_length64 (x:=v.length) (by omega);unfold putB;rw[List.length_append,List.length_append];split
 . omega
 . simp;omega
theorem rPut{B:Option Addr}{m d:Nat}{vs:List UInt8}(hb:zab w A n c bs)(hn:n<=1000000000)(hv:zab w B m d vs)(hm:m<=1000000000)(h:(zao number wire&&fitsV wire vs)=true):
 Calls prog 110 #[.slice A n c,.int .i64 number,.int .i64 wire,.slice B m d] w fun e w'=>∃A' c',e=.returned (.tuple #[.slice A' (n+(putB number wire vs).length) c',.int .u8 0])/\Own w w' 5 1 A' (n+(putB number wire vs).length) c' ((bs++putB number wire vs).map bv):=by
 rw[Bool.and_eq_true]at h;obtain⟨hr,hf⟩:=h;have hl:=hv.length;have htl:=zhG hr;have hul:=Lib.uvarint_length64 (x:=m) (by omega);by_cases e2:wire=2
 . subst e2
   have hp:putB number 2 vs=tagB number 2++(Lib.uvarint m++vs):=by unfold putB;rw[if_pos rfl,hl]
   have hpl:(putB number 2 vs).length=(tagB number 2).length+(Lib.uvarint m).length+m:=by rw[hp];simp[hl];omega
   have Hp:=zsp hp;have Hpl:=zsp hpl;clear hp hpl hl
   go_enter func110,ntmps110
   go_wp2_with (first|(go_at_call 145;refine(tPut hb hn hr).mono ?_;rintro e w1 ⟨A1,c1,rfl,own1⟩;have X_:Ext w w1:=Ext.trans xx own1.ext;replace hv:=hv.up X_;have hE:=X_;clear X_)|(go_at_call 146;refine(rFits hv).mono ?_;rintro e w' ⟨rfl,rfl⟩)|(go_at_call 147;refine(vPut own1.bytes (by omega) (by omega) (by omega)).mono ?_;rintro e w2 ⟨A2,c2,rfl,own2⟩;have X_:Ext w1 w2:=Ext.trans xx own2.ext;replace hv:=hv.up X_;clear X_;rw[Int.toNat_natCast]at own2)|(at_builtin;refine zaT elemB rfl (.tmp 35) (.tmp 36) rfl rfl (own2.since own1.ext) rfl hv (zgh _) (by omega) (by unfold maxLen;omega) ?_;intro A3 c3 w3 own3 _))
   go_ret2
   rw[Hpl.out,Hp.out];exact⟨A3,c3,by simp[Nat.add_assoc],by simpa[Nat.add_assoc] using own3⟩
 . have q:(wire==2)=false:=by simp;omega
   have hp:putB number wire vs=tagB number wire++vs:=by unfold putB;rw[if_neg e2];rfl
   have hpl:(putB number wire vs).length=(tagB number wire).length+m:=by rw[hp];simp[hl]
   have Hp:=zsp hp;have Hpl:=zsp hpl;clear hp hpl hl e2
   go_enter func110,ntmps110
   go_wp2_with (first|(go_at_call 145;refine(tPut hb hn hr).mono ?_;rintro e w1 ⟨A1,c1,rfl,own1⟩;have X_:Ext w w1:=Ext.trans xx own1.ext;replace hv:=hv.up X_;have hE:=X_;clear X_)|(go_at_call 146;refine(rFits hv).mono ?_;rintro e w' ⟨rfl,rfl⟩)|(at_builtin;refine zaT elemB rfl (.tmp 35) (.tmp 36) rfl rfl own1 rfl hv (zgh _) (by omega) (by unfold maxLen;omega) ?_;intro A3 c3 w3 own3 _))
   go_ret2
   rw[Hpl.out,Hp.out];exact⟨A3,c3,by simp[Nat.add_assoc],by simpa[Nat.add_assoc] using own3⟩
theorem zoy(v:List UInt8):fitsV 2 v=true:=by unfold fitsV;simp
end Go.Proofs.YtlhbllaojjelcaaGreat
namespace Go.Proofs.YtlhbllaojjelcaaGreat
open Go.RowKit Go.Lib Tryz
variable{T V:Nat}
theorem zoz(h:zao (T:Int) (V:Int)=true)(more:List UInt8):tagV (tagB (T:Int) (V:Int)++more)=(T,V,(tagB (T:Int) (V:Int)).length,0):=by
 obtain⟨h1,h2,h3,h4⟩:=zgK h;have e:(8*(T:Int)+(V:Int)).toNat=8*T+V:=by omega
 have hv:readV (tagB (T:Int) (V:Int)++more)=(8*T+V,(tagB (T:Int) (V:Int)).length,0):=by
  unfold tagB;rw[e];exact zcS _ _ (by omega)
 have e1:(8*T+V) / 8=T:=by omega
 have e2:(8*T+V) % 8=V:=by omega
 have:=zkT hv (by rw[e1,e2];exact h)
 rwa[e1,e2]at this
def zoA:Nat->List Rec->Nat->Prop
 |p,[],q=>p=q
 |p,r::l,q=>r.f=p/\zoA r.t l q
theorem zlt(bs:List UInt8):∀(m p:Nat),bs.length - p<=m->p<=bs.length->(scan (nextV bs) Rec.t bs.length p).2.2=0->zoA p (scan (nextV bs) Rec.t bs.length p).1 bs.length:=by
 intro m
 induction m with
 |zero=>
  intro p hm hp h0;rw[zaA (by omega)];show p=bs.length;omega
 |succ m ih=>
  intro p hm hp h0;by_cases he:p=bs.length
  . rw[zaA (by omega)];exact he
  . rcases hs:nextV bs p with⟨r,C⟩
    have hlt:p<bs.length:=by omega
    by_cases hC:C=0
    . subst hC
      have h1:=zbu hs;have hok:=zby (zcI bs) hlt hs;rw[hok]at h0⊢;unfold pre at h0⊢;by_cases h:(scan (nextV bs) Rec.t bs.length r.t).2.2=0
      . rw[if_pos h]
        exact⟨h1.2.1,ih r.t (by omega) (by omega) h⟩
      . rw[if_neg h]at h0
        exact absurd h0 h
    . rw[zaR hlt hs hC]at h0
      exact absurd h0 hC
theorem zlu(bs:List UInt8):∀r∈(zco bs).1,nextV bs r.f=(r,0):=
 ziZ (zcI bs) (fun p x hp h=>by rw[(zbu h).2.1];exact h) bs.length 0 (by omega)
def spanB(bs:List UInt8)(a t:Nat):List UInt8:=(bs.take t).drop a
variable{a:Nat}
theorem zaI(bs:List UInt8){t:Nat}(h:t<=bs.length):(spanB bs a t).length=t - a:=by unfold spanB;rw[List.length_drop,List.length_take];omega
theorem znm{c:List UInt8}(h:headV c=(T,V,a,c.length,0)):zco c=([⟨T,V,0,a,c.length⟩],0,0):=by
 have hb:=zjd h;have hn:nextV c 0=(⟨T,V,0,a,c.length⟩,0):=by unfold nextV;rw[List.drop_zero,h];simp[zbX]
 unfold zco;rw[zby (zcI c) (by omega) hn,zaA (Nat.le_refl _),ziY]
end Go.Proofs.YtlhbllaojjelcaaGreat
namespace Go.Proofs.YtlhbllaojjelcaaGreat
open Go.RowKit Tryz
variable{bs:List UInt8}{n c:Nat}{A:Option Addr}{w:World}
theorem zpF(hb:zab w A n c bs){l m:Nat}(hl:l<=m)(hm:m<=n):
 ∃A',(∀W:World,(Instr.slice 46 (.slice A n c) (some (.int .i64 (l:Int))) (some (.int .i64 (m:Int))) none).run prog W=.ok (.slice A' (m - l) (c - l)) W)/\zab w A' (m - l) (c - l) (spanB bs l m):=by
 obtain⟨A',h1,h2⟩:=ziH elemB hb .i64 .i64 hl hm;exact⟨A',h1,by simpa[zab,spanB,List.map_drop,List.map_take] using h2⟩
theorem rSpan{a t:Nat}(hb:zab w A n c bs)(hn:n<=1000000000)(ha:a<=t)(ht:t<=n):
 Calls prog 166 #[.slice A n c,.int .i64 (a:Int),.int .i64 (t:Int)] w fun e w'=>∃A' c',e=.returned (.slice A' (t - a) c')/\Own w w' 5 1 A' (t - a) c' ((spanB bs a t).map bv):=by
 obtain⟨A2,hcut,hb2⟩:=zpF hb ha ht;have h0:¬(a:Int)<0:=by omega
 have h1:¬(t:Int)<a:=by omega
 have h2:¬(n:Int)<t:=by omega
 go_enter func166,ntmps166
 go_wp2_with (go_at_call 175;refine(clone hb2 (by omega)).mono ?_;rintro e w' ⟨A3,c3,rfl,own3⟩)
 go_ret
 exact⟨A3,c3,rfl,own3⟩
theorem zrY{r:Rec}(hb:zab w A n c bs)(hn:n<=1000000000)(ha:r.f<=r.t)(ht:r.t<=n):
 Calls prog 137 #[.slice A n c,recV r] w fun e w'=>∃A' c',e=.returned (.slice A' (r.t - r.f) c')/\Own w w' 5 1 A' (r.t - r.f) c' ((spanB bs r.f r.t).map bv):=by
 unfold recV
 go_enter func137,ntmps137
 go_wp2_with (go_at_call 166;refine(rSpan (hb.up xx) hn ha ht).mono ?_;rintro e w' ⟨A3,c3,rfl,own3⟩)
 go_ret
 exact⟨A3,c3,rfl,own3.since xx⟩
end Go.Proofs.YtlhbllaojjelcaaGreat
