/- Layer 15: the reference's Last. -/
import Derived.Test.YtpicpebolghcfaaGreatDoorQlW93

set_option linter.unusedVariables false
set_option linter.unusedSimpArgs false
set_option maxRecDepth 100000
set_option maxHeartbeats 4000000
namespace Go.Proofs.YtpicpebolghcfaaGreatDoor
open Go.RowKit Go.Shelf Tryz
variable{f:zab}{t:TypeId}{b:Nat}{w:World}
theorem zkE{g:zab}(h:BlkT w b t #[.string g.name,.int .i64 g.number,.int .i64 g.kind,.bool g.rep,.bool g.packed,.int .i64 g.of_]):BlkT (zdu w b f) b t #[.string f.name,.int .i64 f.number,.int .i64 f.kind,.bool f.rep,.bool f.packed,.int .i64 f.of_]:=by
 unfold zdu;have:=(((((h.set_ 0 (.string f.name)).set_ 1 (.int .i64 f.number)).set_ 2 (.int .i64 f.kind)).set_ 3 (.bool f.rep)).set_ 4 (.bool f.packed)).set_ 5 (.int .i64 f.of_);simpa using this
variable{way:List Int}{S:List MsgV}{n c k kc m:Nat}{A C:Option Addr}
theorem rLast(hR:zan (S.map MsgV.d)=true)(hs:zag w A n c S)(hm:m<n)(hf:OnWay (S.map MsgV.d) m way f)(hw:Reads w C k kc 1 (way.map wyV))(hk:way.length<=65):
 Calls prog 12 #[.slice A n c,.int .i64 (m:Int),.slice C k kc] w fun e w'=>e=.returned (.tuple #[zaq f,.bool true])/\Ext w w':=by
 have hSl:=hs.length;have hkl:way.length=k:=by have:=hw.len;rw[List.length_map,Nat.mul_one]at this;exact this
 have hk0:0<k:=by
  rcases k with _|k
  . exact absurd (List.eq_nil_of_length_eq_zero hkl) hf.ne
  . omega
 have hpa:=fun W (h:Ext w W)=>rPath hR (hs.up h) hm hf (hw.ext h) hk
 have Hpa:=zsz hpa;have Hs0:=zsz hs;have Hf:=zsz hf;have Hw0:=zsz hw;have HR:=zsz hR;clear hs hf hw hR hpa;have B0:=BlkT.new w 43 #[.string ⟨#[]⟩,.int .i64 0,.int .i64 0,.bool false,.bool false,.int .i64 0] rfl;have X0:Ext w (w.alloc (.cells #[.string ⟨#[]⟩,.int .i64 0,.int .i64 0,.bool false,.bool false,.int .i64 0] 43)):=(Ext.refl w).alloc _
 go_enter func12,ntmps12
 go_upto_region 1 with fail
 generalize w.alloc (.cells #[.string ⟨#[]⟩,.int .i64 0,.int .i64 0,.bool false,.bool false,.int .i64 0] 43)=wx at*
 go_upto_region 5 with(go_at_call 41;refine(Hpa.out _ X0).mono ?_;rintro e w2 ⟨s,rfl,E2⟩)
 have BK:=BlkT.new w2 43 #[.string ⟨#[]⟩,.int .i64 0,.int .i64 0,.bool false,.bool false,.int .i64 0] rfl;have X3:Ext w2 (w2.alloc (.cells #[.string ⟨#[]⟩,.int .i64 0,.int .i64 0,.bool false,.bool false,.int .i64 0] 43)):=(Ext.refl w2).alloc _;generalize w2.alloc (.cells #[.string ⟨#[]⟩,.int .i64 0,.int .i64 0,.bool false,.bool false,.int .i64 0] 43)=w3 at*;have X2:=X0.trans E2;have Hs:=zsz (Hs0.out.up X2);have Hw:=zsz (Hw0.out.ext X2);have B2:=B0.up E2;have HX2:=zsz X2;clear X2 X0 E2 B0 Hs0 Hw0 Hpa
 go_wp2_with fail
 go_loopw [1,11] (fun t1 t11 wr=>∃(q:Nat)(G:zab),q<=k/\t11=.int .i64 q/\Ext w2 wr/\BlkT wr w2.heap.size 43 #[.string G.name,.int .i64 G.number,.int .i64 G.kind,.bool G.rep,.bool G.packed,.int .i64 G.of_]/\
  Hid ((q<k/\∃mq:Nat,t1=.int .i64 mq/\mq<n/\OnWay (S.map MsgV.d) mq (way.drop q) f)\/(q=k/\G=f/\∃z:Int,t1=.int .i64 z))) (fun _ i _=>k - (intOf i).toNat)
 case atStart=>exact⟨0,⟨⟨#[]⟩,0,0,false,false,0⟩,Nat.zero_le _,rfl,X3,BK,zsz (.inl ⟨hk0,m,rfl,hm,Hf.out⟩)⟩
 case round=>
  obtain⟨q,G,hq,rfl,X,BG,hst⟩:=hrel;by_cases hlt:q<k
  . have hlt2:(q:Int)<k:=by omega
    rcases hst.out with⟨_,mq,e1,hmq,hon⟩|⟨h,_⟩
    rotate_left
    . omega
    subst e1;obtain⟨x,hx⟩:∃x,way[q]?=some x:=⟨_,List.getElem?_eq_getElem (by omega)⟩
    have hdrop:way.drop q=x::way.drop (q+1):=by
     have hql:q<way.length:=by omega
     rw[List.drop_eq_getElem_cons hql];congr 1;exact(Option.some.inj ((List.getElem?_eq_getElem hql).symm.trans hx))
    rw[hdrop]at hon;obtain⟨g,hg,hnext⟩:=hon.head;obtain⟨sb,so,⟨⟨Mn,Mf⟩,MA,Mk,Mc⟩,rfl,hM,hF,hMn,hsb,s0,s1⟩:=Hs.out.msg hmq;simp only at hF hMn s0 s1;have hM':(S.map MsgV.d)[mq]?=some ⟨Mn,Mf⟩:=by rw[List.getElem?_map,hM];rfl
    have hFl:=hF.length;have hF2:=(zbd HR.out hM').2.2.1;simp only at hF2;have hMk:Mk<=1000000000000:=by omega
    obtain⟨j,hj,hI⟩:=zbY hM' hg;simp only at hj hI;have hby:=fun W (h:Ext wr W)=>zct (s:=Mn) (x:=x) (hF.up (X.trans h)) hMk hI
    have hjl:j<Mk:=by have:=(List.getElem?_eq_some_iff.1 hj).1;omega
    have hji:(j:Int)<Mk:=by omega
    have hmi:(mq:Int)<n:=by omega
    have hname:=zcV (zcW ((zbd HR.out hM').2.2.2 j g hj)).1;have hof:=fun(h:g.kind=17)=>zbV HR.out hM' hj h
    rw[List.length_map,hSl]at hof;obtain⟨fb,fo,f',rfl,hf',hok,hfb,c0,c1,c2,c3,c4,c5⟩:=hF.field hjl;obtain rfl:f'=g:=Option.some.inj (hf'.symm.trans hj);obtain⟨wb,wo,e,hwb,hwc⟩:=Hw.out.at_ (by omega);subst e;have w0:w2.cell? ⟨wb,wo+q,none⟩=some (.int .i64 x):=hwc q (wyV x) (by rw[List.getElem?_map,hx];rfl);replace c0:=X.of_cell c0;replace c1:=X.of_cell c1;replace c2:=X.of_cell c2;replace c3:=X.of_cell c3;replace c4:=X.of_cell c4;replace c5:=X.of_cell c5;replace s0:=X.of_cell s0;replace s1:=X.of_cell s1;replace w0:=X.of_cell w0;replace hsb:=Nat.lt_of_lt_of_le hsb X.size;replace hfb:=Nat.lt_of_lt_of_le hfb X.size;replace hwb:=Nat.lt_of_lt_of_le hwb X.size
    have Hby:=zsz hby;have Hnext:=zsz hnext;have Hof:=zsz hof;have Hok:=zsz hok;obtain⟨fname,fnum,fkind,frep,fpk,fof⟩:=f';obtain⟨gn,gnum,gkind,grep,gpk,gof⟩:=G;simp only at c0 c1 c2 c3 c4 c5 BG;clear hby hnext hof hok hf' hj hI hF hM hM' hFl hF2 hon hdrop hx hwc hg hst hname;have HBG:=zsz BG;clear BG
    go_wp2_with fail
    refine calmP (fun _ _ _ hd h=>⟨hd,h.2⟩) (zsv (q:=q) hmi hlt2 hji s0 s1 w0 c0 c1 c2 c3 c4 c5 HBG.out Hby.out ?_);intro s29 s30 s31 s32 s33 s34 s35 s36 s37 s38 s39 s40 s41 s42 s43 s44 W6 wz hwz X6
    have BZ:BlkT wz w2.heap.size 43 #[.string fname,.int .i64 fnum,.int .i64 fkind,.bool frep,.bool fpk,.int .i64 fof]:=by
     rw[hwz];exact zkE (f:=⟨fname,fnum,fkind,frep,fpk,fof⟩) (g:=⟨gn,gnum,gkind,grep,gpk,gof⟩) (HBG.out.up X6)
    have XZ:Ext w2 wz:=by
     rw[hwz];exact zeK (X.trans X6) (Nat.le_refl _)
    have z5:wz.cell? ⟨w2.heap.size,5,none⟩=some (.int .i64 fof):=BZ.cell 5;have zl:=BZ.lt;clear hwz;rcases Hnext.out with⟨h1,h2⟩|⟨h1,h2,h3,h4⟩
    . have hqk:q+1=k:=by
       have:=List.drop_eq_nil_iff.1 h1;omega
      have H2:=zsz h2;clear h1 h2
      go_wp2
      go_roundw
      case rel=>exact⟨q+1,⟨fname,fnum,fkind,frep,fpk,fof⟩,by omega,by go_num,XZ,BZ,zsz (.inr ⟨hqk,H2.out,fof,rfl⟩)⟩
      case measure=>simp[intOf];omega
    . obtain⟨o,ho1,ho2⟩:=Hof.out h2
      have hq1:q+1<k:=by
       rcases Nat.lt_or_ge (q+1) k with h|h
       . exact h
       . exact absurd (List.drop_eq_nil_iff.2 (by omega)) h1
      try simp only at ho1 h4
      subst ho1;have H4:=zsz h4;clear h1 h4 h2 h3
      go_wp2
      go_roundw
      case rel=>exact⟨q+1,⟨fname,fnum,fkind,frep,fpk,o⟩,by omega,by go_num,XZ,BZ,zsz (.inl ⟨hq1,o,rfl,ho2,H4.out⟩)⟩
      case measure=>simp[intOf];omega
  . obtain rfl:q=k:=by omega
    obtain⟨hG,z,hz⟩:G=f/\∃z:Int,_=Value.int .i64 z:=by
     rcases hst.out with⟨h,_⟩|⟨_,h⟩
     . omega
     . exact h
    subst hG;subst hz;obtain⟨gn,gnum,gkind,grep,gpk,gof⟩:=G;simp only at BG;have B0:=B2.up X;have c0:wr.cell? ⟨w2.heap.size,0,none⟩=some (.string gn):=BG.cell 0;have c1:wr.cell? ⟨w2.heap.size,1,none⟩=some (.int .i64 gnum):=BG.cell 1;have c2:wr.cell? ⟨w2.heap.size,2,none⟩=some (.int .i64 gkind):=BG.cell 2;have c3:wr.cell? ⟨w2.heap.size,3,none⟩=some (.bool grep):=BG.cell 3;have c4:wr.cell? ⟨w2.heap.size,4,none⟩=some (.bool gpk):=BG.cell 4;have c5:wr.cell? ⟨w2.heap.size,5,none⟩=some (.int .i64 gof):=BG.cell 5;have cl:=BG.lt;have y0:wr.cell? ⟨w.heap.size,0,none⟩=some (.string ⟨#[]⟩):=B0.cell 0;have y1:wr.cell? ⟨w.heap.size,1,none⟩=some (.int .i64 0):=B0.cell 1;have y2:wr.cell? ⟨w.heap.size,2,none⟩=some (.int .i64 0):=B0.cell 2;have y3:wr.cell? ⟨w.heap.size,3,none⟩=some (.bool false):=B0.cell 3;have y4:wr.cell? ⟨w.heap.size,4,none⟩=some (.bool false):=B0.cell 4;have y5:wr.cell? ⟨w.heap.size,5,none⟩=some (.int .i64 0):=B0.cell 5;have x0:=B0.free 0;have x1:=B0.free 1;have x2:=B0.free 2;have x3:=B0.free 3;have x4:=B0.free 4;have x5:=B0.free 5;have yl:=B0.lt
    go_wp2
    refine bodyPost_ret (zaO (ty:=43) rfl _ _ w.heap.size _ _ (0,0) _ rfl (ziQ (f:=⟨gn,gnum,gkind,grep,gpk,gof⟩) B0) underlying43 rfl (by kernel_rfl)) rfl ?_;exact⟨rfl,zeK (f:=⟨gn,gnum,gkind,grep,gpk,gof⟩) (HX2.out.trans X) (Nat.le_refl _)⟩
theorem zqw{B:Option Addr}{root d:Int}{p:ByteArray}{bs:List UInt8}(hs:zag w A n c S)(hb:zac w B m k bs)(hm:m<=1000000000)(hp:p.size<=maxLen):
 Calls prog 87 #[.slice A n c,.int .i64 root,.slice B m k,.int .i64 d,.string p] w fun e w'=>∃A' c',e=.returned (.tuple #[.slice A' (zap (S.map MsgV.d) root d p bs).1.length c',.int .u8 ((zap (S.map MsgV.d) root d p bs).2:Nat)])/\
  Own w w' 3 1 A' (zap (S.map MsgV.d) root d p bs).1.length c' ((zap (S.map MsgV.d) root d p bs).1.map wyV):=by
 have ha:=fun W (h:zag W A n c S)=>vArgs (root:=root) (d:=d) h
 have hr:=fun W (h:zag W A n c S)=>zmK (root:=root) h hp
 have hc:=fun W (h:zag W A n c S)(q:zac W B m k bs)=>zoQ (root:=root) (d:=d) h q hm
 unfold zfj at hr;by_cases h0:argsV (S.map MsgV.d) root d=0
 . rw[h0]at ha
   by_cases h1:(zas (S.map MsgV.d) root p).2=0
   . have e:zap (S.map MsgV.d) root d p bs=((zas (S.map MsgV.d) root p).1,(zaM (S.map MsgV.d) root bs d).2):=by unfold zap;rw[if_neg (by simp[h0]),if_neg (by simp[h1])]
     rw[e];rw[h1]at hr;simp only;generalize (zas (S.map MsgV.d) root p).1=way at*;generalize zaM (S.map MsgV.d) root bs d=PK at hc⊢;obtain⟨P,K⟩:=PK;simp only at hc⊢;have Ha:=zsz ha;have Hr:=zsz hr;have Hc:=zsz hc;clear ha hr hc h0 h1 e
     go_enter func87,ntmps87
     go_wp2_with (first
      |(go_at_call 72;refine(Ha.out _ hs).mono ?_;rintro e w1 ⟨rfl,E1⟩)
      |(go_at_call 73;refine(Hr.out _ (hs.up E1)).mono ?_;rintro e w2 ⟨A2,c2,rfl,own2⟩;have X2:=E1.trans own2.ext)
      |(go_at_call 74;refine(Hc.out _ (hs.up X2) (hb.up X2)).mono ?_;rintro e w3 ⟨rfl,E3⟩))
     go_ret2
     exact⟨A2,c2,rfl,(own2.up E3).since E1⟩
   . have e:zap (S.map MsgV.d) root d p bs=([],(zas (S.map MsgV.d) root p).2):=by unfold zap;rw[if_neg (by simp[h0]),if_pos h1]
     rw[e];rw[zeU h1]at hr;generalize (zas (S.map MsgV.d) root p).2=K at*;have q:((K:Int) !=0)=true:=by rw[bne_iff_ne];omega
     have Ha:=zsz ha;have Hr:=zsz hr;clear ha hr hc h0 h1 e
     go_enter func87,ntmps87
     go_wp2_with (first
      |(go_at_call 72;refine(Ha.out _ hs).mono ?_;rintro e w1 ⟨rfl,E1⟩)
      |(go_at_call 73;refine(Hr.out _ (hs.up E1)).mono ?_;rintro e w2 ⟨A2,c2,rfl,own2⟩;have X2:=E1.trans own2.ext))
     go_ret2
     exact⟨none,0,rfl,Own.nil (E1.trans own2.ext) _ 1⟩
 . have e:zap (S.map MsgV.d) root d p bs=([],argsV (S.map MsgV.d) root d):=by unfold zap;rw[if_pos h0]
   rw[e];generalize argsV (S.map MsgV.d) root d=K at*;have q:((K:Int) !=0)=true:=by rw[bne_iff_ne];omega
   have Ha:=zsz ha;clear ha hr hc h0 e
   go_enter func87,ntmps87
   go_wp2_with (go_at_call 72;refine(Ha.out _ hs).mono ?_;rintro e w1 ⟨rfl,E1⟩)
   go_ret2
   exact⟨none,0,rfl,Own.nil E1 _ 1⟩
variable{cs:Array Value}
theorem zlI{o p:Obj}(h:p=.cells cs t):BlkT ((w.alloc o).alloc p) (w.heap.size+1) t cs:=by
 subst h;have:(w.alloc o).heap.size=w.heap.size+1:=by simp
 rw[<-this];exact BlkT.new _ _ _ rfl
theorem znV{g:Nat}(h:BlkT w g t cs)(hne:g≠b):BlkT (zdu w b f) g t cs:=by
 unfold zdu;exact(((((h.far (p:=⟨b,0,none⟩) hne _).far (p:=⟨b,1,none⟩) hne _).far (p:=⟨b,2,none⟩) hne _).far (p:=⟨b,3,none⟩) hne _).far (p:=⟨b,4,none⟩) hne _).far (p:=⟨b,5,none⟩) hne _
theorem zsw(hR:zan (S.map MsgV.d)=true)(hs:zag w A n c S)(hm:m<n)(hf:OnWay (S.map MsgV.d) m way f)(hw:Reads w C k kc 1 (way.map wyV))(hk:way.length<=65):
 Calls prog 88 #[.slice A n c,.int .i64 (m:Int),.slice C k kc] w fun e w'=>e=.returned (zaq f)/\Ext w w':=by
 have hSl:=hs.length;have hkl:way.length=k:=by have:=hw.len;rw[List.length_map,Nat.mul_one]at this;exact this
 have hk0:0<k:=by
  rcases k with _|k
  . exact absurd (List.eq_nil_of_length_eq_zero hkl) hf.ne
  . omega
 have Hs:=zsz hs;have Hf:=zsz hf;have Hw:=zsz hw;have HR:=zsz hR;clear hs hf hw hR;have B0:BlkT ((w.alloc (.cells #[.string ⟨#[]⟩,.int .i64 0,.int .i64 0,.bool false,.bool false,.int .i64 0] 43)).alloc (.cells #[.string ⟨#[]⟩,.int .i64 0,.int .i64 0,.bool false,.bool false,.int .i64 0] 43)) w.heap.size 43 #[.string ⟨#[]⟩,.int .i64 0,.int .i64 0,.bool false,.bool false,.int .i64 0]:=(BlkT.new w _ _ rfl).up ((Ext.refl _).alloc _);have BK:BlkT ((w.alloc (.cells #[.string ⟨#[]⟩,.int .i64 0,.int .i64 0,.bool false,.bool false,.int .i64 0] 43)).alloc (.cells #[.string ⟨#[]⟩,.int .i64 0,.int .i64 0,.bool false,.bool false,.int .i64 0] 43)) (w.heap.size+1) 43 #[.string ⟨#[]⟩,.int .i64 0,.int .i64 0,.bool false,.bool false,.int .i64 0]:=zlI rfl;have X3:Ext w ((w.alloc (.cells #[.string ⟨#[]⟩,.int .i64 0,.int .i64 0,.bool false,.bool false,.int .i64 0] 43)).alloc (.cells #[.string ⟨#[]⟩,.int .i64 0,.int .i64 0,.bool false,.bool false,.int .i64 0] 43)):=((Ext.refl w).alloc _).alloc _
 go_enter func88,ntmps88
 go_wp2_with fail
 generalize (w.alloc (.cells #[.string ⟨#[]⟩,.int .i64 0,.int .i64 0,.bool false,.bool false,.int .i64 0] 43)).alloc (.cells #[.string ⟨#[]⟩,.int .i64 0,.int .i64 0,.bool false,.bool false,.int .i64 0] 43)=w3 at*
 go_loopw [1,14] (fun t1 t14 wr=>∃(q:Nat)(G:zab),q<=k/\t14=.int .i64 q/\Ext w wr/\BlkT wr w.heap.size 43 #[.string ⟨#[]⟩,.int .i64 0,.int .i64 0,.bool false,.bool false,.int .i64 0]/\BlkT wr (w.heap.size+1) 43 #[.string G.name,.int .i64 G.number,.int .i64 G.kind,.bool G.rep,.bool G.packed,.int .i64 G.of_]/\
  Hid ((q<k/\∃mq:Nat,t1=.int .i64 mq/\mq<n/\OnWay (S.map MsgV.d) mq (way.drop q) f)\/(q=k/\G=f/\∃z:Int,t1=.int .i64 z))) (fun _ i _=>k - (intOf i).toNat)
 case atStart=>exact⟨0,⟨⟨#[]⟩,0,0,false,false,0⟩,Nat.zero_le _,rfl,X3,B0,BK,zsz (.inl ⟨hk0,m,rfl,hm,Hf.out⟩)⟩
 case round=>
  obtain⟨q,G,hq,rfl,X,BY,BG,hst⟩:=hrel;by_cases hlt:q<k
  . have hlt2:(q:Int)<k:=by omega
    rcases hst.out with⟨_,mq,e1,hmq,hon⟩|⟨h,_⟩
    rotate_left
    . omega
    subst e1;obtain⟨x,hx⟩:∃x,way[q]?=some x:=⟨_,List.getElem?_eq_getElem (by omega)⟩
    have hdrop:way.drop q=x::way.drop (q+1):=by
     have hql:q<way.length:=by omega
     rw[List.drop_eq_getElem_cons hql];congr 1;exact(Option.some.inj ((List.getElem?_eq_getElem hql).symm.trans hx))
    rw[hdrop]at hon;obtain⟨g,hg,hnext⟩:=hon.head;obtain⟨sb,so,⟨⟨Mn,Mf⟩,MA,Mk,Mc⟩,rfl,hM,hF,hMn,hsb,s0,s1⟩:=Hs.out.msg hmq;simp only at hF hMn s0 s1;have hM':(S.map MsgV.d)[mq]?=some ⟨Mn,Mf⟩:=by rw[List.getElem?_map,hM];rfl
    have hFl:=hF.length;have hF2:=(zbd HR.out hM').2.2.1;simp only at hF2;have hMk:Mk<=1000000000000:=by omega
    obtain⟨j,hj,hI⟩:=zbY hM' hg;simp only at hj hI;have hby:=fun W (h:Ext wr W)=>zhQ (s:=Mn) (x:=x) (hF.up (X.trans h)) hMk hI
    have hjl:j<Mk:=by have:=(List.getElem?_eq_some_iff.1 hj).1;omega
    have hji:(j:Int)<Mk:=by omega
    have hmi:(mq:Int)<n:=by omega
    have hname:=zcV (zcW ((zbd HR.out hM').2.2.2 j g hj)).1;have hof:=fun(h:g.kind=17)=>zbV HR.out hM' hj h
    rw[List.length_map,hSl]at hof;obtain⟨fb,fo,f',rfl,hf',hok,hfb,c0,c1,c2,c3,c4,c5⟩:=hF.field hjl;obtain rfl:f'=g:=Option.some.inj (hf'.symm.trans hj);obtain⟨wb,wo,e,hwb,hwc⟩:=Hw.out.at_ (by omega);subst e;have w0:w.cell? ⟨wb,wo+q,none⟩=some (.int .i64 x):=hwc q (wyV x) (by rw[List.getElem?_map,hx];rfl);replace c0:=X.of_cell c0;replace c1:=X.of_cell c1;replace c2:=X.of_cell c2;replace c3:=X.of_cell c3;replace c4:=X.of_cell c4;replace c5:=X.of_cell c5;replace s0:=X.of_cell s0;replace s1:=X.of_cell s1;replace w0:=X.of_cell w0;replace hsb:=Nat.lt_of_lt_of_le hsb X.size;replace hfb:=Nat.lt_of_lt_of_le hfb X.size;replace hwb:=Nat.lt_of_lt_of_le hwb X.size
    have Hby:=zsz hby;have Hnext:=zsz hnext;have Hof:=zsz hof;have Hok:=zsz hok;obtain⟨fname,fnum,fkind,frep,fpk,fof⟩:=f';obtain⟨gn,gnum,gkind,grep,gpk,gof⟩:=G;simp only at c0 c1 c2 c3 c4 c5 BG;have hmax:max (j:Int) 0=j:=by omega
    rw[hmax]at Hby;clear hby hnext hof hok hf' hj hI hF hM hM' hFl hF2 hon hdrop hx hwc hg hst hname hmax
    go_upto_region 6 with(go_at_call 107;refine(Hby.out _ xx).mono ?_;rintro e w4 ⟨rfl,E4⟩)
    have X4:Ext wr w4:=E4;replace c0:=X4.of_cell c0;replace c1:=X4.of_cell c1;replace c2:=X4.of_cell c2;replace c3:=X4.of_cell c3;replace c4:=X4.of_cell c4;replace c5:=X4.of_cell c5;replace s0:=X4.of_cell s0;replace s1:=X4.of_cell s1;replace hsb:=Nat.lt_of_lt_of_le hsb X4.size;replace hfb:=Nat.lt_of_lt_of_le hfb X4.size;have B4:=BG.up X4;have y0:w4.cell? ⟨w.heap.size+1,0,none⟩=some (.string gn):=B4.cell 0;have y1:w4.cell? ⟨w.heap.size+1,1,none⟩=some (.int .i64 gnum):=B4.cell 1;have y2:w4.cell? ⟨w.heap.size+1,2,none⟩=some (.int .i64 gkind):=B4.cell 2;have y3:w4.cell? ⟨w.heap.size+1,3,none⟩=some (.bool grep):=B4.cell 3;have y4:w4.cell? ⟨w.heap.size+1,4,none⟩=some (.bool gpk):=B4.cell 4;have y5:w4.cell? ⟨w.heap.size+1,5,none⟩=some (.int .i64 gof):=B4.cell 5;have f0:=B4.free 0;have f1:=B4.free 1;have f2:=B4.free 2;have f3:=B4.free 3;have f4:=B4.free 4;have f5:=B4.free 5;have yl:=B4.lt;have BZ:BlkT (zdu w4 (w.heap.size+1) ⟨fname,fnum,fkind,frep,fpk,fof⟩) (w.heap.size+1) 43 #[.string fname,.int .i64 fnum,.int .i64 fkind,.bool frep,.bool fpk,.int .i64 fof]:=zkE (f:=⟨fname,fnum,fkind,frep,fpk,fof⟩) (g:=⟨gn,gnum,gkind,grep,gpk,gof⟩) B4;have XZ:Ext w (zdu w4 (w.heap.size+1) ⟨fname,fnum,fkind,frep,fpk,fof⟩):=zeK (X.trans X4) (Nat.le_succ _);have BY2:BlkT (zdu w4 (w.heap.size+1) ⟨fname,fnum,fkind,frep,fpk,fof⟩) w.heap.size 43 #[.string ⟨#[]⟩,.int .i64 0,.int .i64 0,.bool false,.bool false,.int .i64 0]:=znV (BY.up X4) (by omega)
    go_upto_region 7 with fail
    unfold zdu at BZ XZ BY2;simp only at BZ XZ BY2;generalize ((((((w4.setCell ⟨w.heap.size+1,0,none⟩ (.string fname)).setCell ⟨w.heap.size+1,1,none⟩ (.int .i64 fnum)).setCell ⟨w.heap.size+1,2,none⟩ (.int .i64 fkind)).setCell ⟨w.heap.size+1,3,none⟩ (.bool frep)).setCell ⟨w.heap.size+1,4,none⟩ (.bool fpk)).setCell ⟨w.heap.size+1,5,none⟩ (.int .i64 fof))=w5 at*;have z5:w5.cell? ⟨w.heap.size+1,5,none⟩=some (.int .i64 fof):=BZ.cell 5;have zl:=BZ.lt;clear y0 y1 y2 y3 y4 y5 f0 f1 f2 f3 f4 f5 yl B4 BG BY;rcases Hnext.out with⟨h1,h2⟩|⟨h1,h2,h3,h4⟩
    . have hqk:q+1=k:=by
       have:=List.drop_eq_nil_iff.1 h1;omega
      have H2:=zsz h2;clear h1 h2
      go_wp2
      go_roundw
      case rel=>exact⟨q+1,⟨fname,fnum,fkind,frep,fpk,fof⟩,by omega,by go_num,XZ,BY2,BZ,zsz (.inr ⟨hqk,H2.out,fof,rfl⟩)⟩
      case measure=>simp[intOf];omega
    . obtain⟨o,ho1,ho2⟩:=Hof.out h2
      have hq1:q+1<k:=by
       rcases Nat.lt_or_ge (q+1) k with h|h
       . exact h
       . exact absurd (List.drop_eq_nil_iff.2 (by omega)) h1
      try simp only at ho1 h4
      subst ho1;have H4:=zsz h4;clear h1 h4 h2 h3
      go_wp2
      go_roundw
      case rel=>exact⟨q+1,⟨fname,fnum,fkind,frep,fpk,o⟩,by omega,by go_num,XZ,BY2,BZ,zsz (.inl ⟨hq1,o,rfl,ho2,H4.out⟩)⟩
      case measure=>simp[intOf];omega
  . obtain rfl:q=k:=by omega
    obtain⟨hG,z,hz⟩:G=f/\∃z:Int,_=Value.int .i64 z:=by
     rcases hst.out with⟨h,_⟩|⟨_,h⟩
     . omega
     . exact h
    subst hG;subst hz;obtain⟨gn,gnum,gkind,grep,gpk,gof⟩:=G;simp only at BG;have B0:=BY;have c0:wr.cell? ⟨w.heap.size+1,0,none⟩=some (.string gn):=BG.cell 0;have c1:wr.cell? ⟨w.heap.size+1,1,none⟩=some (.int .i64 gnum):=BG.cell 1;have c2:wr.cell? ⟨w.heap.size+1,2,none⟩=some (.int .i64 gkind):=BG.cell 2;have c3:wr.cell? ⟨w.heap.size+1,3,none⟩=some (.bool grep):=BG.cell 3;have c4:wr.cell? ⟨w.heap.size+1,4,none⟩=some (.bool gpk):=BG.cell 4;have c5:wr.cell? ⟨w.heap.size+1,5,none⟩=some (.int .i64 gof):=BG.cell 5;have cl:=BG.lt;have y0:wr.cell? ⟨w.heap.size,0,none⟩=some (.string ⟨#[]⟩):=B0.cell 0;have y1:wr.cell? ⟨w.heap.size,1,none⟩=some (.int .i64 0):=B0.cell 1;have y2:wr.cell? ⟨w.heap.size,2,none⟩=some (.int .i64 0):=B0.cell 2;have y3:wr.cell? ⟨w.heap.size,3,none⟩=some (.bool false):=B0.cell 3;have y4:wr.cell? ⟨w.heap.size,4,none⟩=some (.bool false):=B0.cell 4;have y5:wr.cell? ⟨w.heap.size,5,none⟩=some (.int .i64 0):=B0.cell 5;have x0:=B0.free 0;have x1:=B0.free 1;have x2:=B0.free 2;have x3:=B0.free 3;have x4:=B0.free 4;have x5:=B0.free 5;have yl:=B0.lt
    go_wp2
    refine bodyPost_ret (results_cell_row (ty:=43) rfl _ _ w.heap.size _ _ (0,0) _ rfl (ziQ (f:=⟨gn,gnum,gkind,grep,gpk,gof⟩) B0) underlying43 rfl (by kernel_rfl)) rfl ?_;exact⟨rfl,zeK (f:=⟨gn,gnum,gkind,grep,gpk,gof⟩) X (Nat.le_refl _)⟩
end Go.Proofs.YtpicpebolghcfaaGreatDoor
