/- Contracts of layer 22: what is found at a path, its load, its things. -/
import Derived.Test.YtpicpebolghcfaaGreatDoorQlW72

set_option linter.unusedVariables false
set_option linter.unusedSimpArgs false
set_option maxRecDepth 100000
set_option maxHeartbeats 1000000
namespace Go.Proofs.YtpicpebolghcfaaGreatDoor
open Go.RowKit Go.Shelf Tryz
variable{x:Int}{bs:List UInt8}{m:Nat}{S:List MsgD}
theorem zlE:zao S m bs [x]=zaU (zar S m) bs x:=by
 unfold zao;rw[if_pos rfl]
variable{f:zab}
theorem zkA{l:List Int}(hl:l≠ [])(hf:zbj S m x=some f):zao S m bs (x::l)=zao S f.of_.toNat (zaU (zar S m) bs x).flatten l:=by
 conv=>lhs;unfold zao
 rw[if_neg hl,hf]
theorem zqM{S:List MsgV}(hR:zan (S.map MsgV.d)=true):∀(way:List Int)(m:Nat)(g:zab)(bs:List UInt8){A B C:Option Addr}{n c nb cb kc:Nat}{w:World},OnWay (S.map MsgV.d) m way g->zag w A n c S->m<n->zac w B nb cb bs->nb<=1000000000->
 Reads w C way.length kc 1 (way.map wyV)->way.length<=1000->Calls prog 75 #[.slice A n c,.int .i64 (m:Int),.slice B nb cb,.slice C way.length kc] w (zcm g (zao (S.map MsgV.d) m bs way) w)
 |[],m,g,bs,A,B,C,n,c,nb,cb,kc,w,h,_,_,_,_,_,_=>absurd rfl h.ne
 |x::rest,m,g,bs,A,B,C,n,c,nb,cb,kc,w,h,hs,hm,hb,hnb,hw,hk=>by
  have ih:=fun m' bs' {A B C:Option Addr}{n c nb cb kc:Nat}{w:World} a b c1 d e f1 g1=>zqM hR rest m' g bs' (A:=A) (B:=B) (C:=C) (n:=n) (c:=c) (nb:=nb) (cb:=cb) (kc:=kc) (w:=w) a b c1 d e f1 g1
  have hSl:=hs.length
  cases h with
  |last hf=>
   exact zpx hs hR hm hf hb hnb rfl hw hk (fun _=>⟨rfl,zlE⟩) (fun h=>absurd rfl h)
  | @step _ _ f _ _ hf h17 hrep t=>
    have hne:=t.ne;rw[zkA hne hf];refine zpx hs hR hm hf hb hnb rfl hw hk (fun h=>absurd h hne) (fun _ W A2 C2 m2 c2 k2 hX hb2 hw2=> ?_);obtain⟨M,hM⟩:∃M,(S.map MsgV.d)[m]?=some M:=⟨_,List.getElem?_eq_getElem (by rw[List.length_map];omega)⟩
    obtain⟨j,hj,_⟩:=zbY hM hf;obtain⟨o,ho,ho2⟩:=zbV hR hM hj h17;rw[List.length_map,hSl]at ho2;rw[ho,Int.toNat_natCast]at t⊢;have hlen:=zbK (zar (S.map MsgV.d) m) bs x;have e1:=hb.length;have e2:=hb2.length;exact ih o _ t (hs.up hX) ho2 hb2 (by omega) (by simpa using hw2) (by simp at hk;omega)
theorem zaO{P:Program}{fn:Func}{p u:Tmp}{ty:TypeId}(h:fn.results=#[.cell p ty,.tmp u])(tmps:Array Value)(w:World)(g:Nat)(t:TypeId)(cs:Array Value)(fr:Nat×Nat)(d:TypeDesc)(hp:tmps.getD p undef=.pointer (some ⟨g,0,none⟩))(hg:w.heap[g]?=some (.cells cs t fr))(hu:P.underlying ty=some d)(hd:(match d with|.struct _|.array _ _=>true|_=>false)=true)(hi:(P.info? ty).map (·.size)=some cs.size):
 (results fn tmps).run P w=.ok (.tuple #[.agg cs,tmps.getD u undef]) w:=by
 have hp':tmps[p]?.getD undef=.pointer (some ⟨g,0,none⟩):=by simpa using hp
 simp[results,h,hp',asAddr,run_loadVar_row w g t ty cs fr d hg hu hd hi]
variable{A:Option Addr}{n c:Nat}{w:World}
theorem zqN{w':World}{e:TypeId}{size:Nat}{xs:List Value}(own:Own w w' e size A n c xs):InS (fun q=>w.heap.size<=q) A:=by
 intro a ha;subst ha;rcases own.row.2 with⟨hv,_⟩|⟨g,cap,cur,hv,hb,_⟩
 . cases hv
 . cases hv
   exact hb
def zcn:zab:=⟨⟨#[]⟩,0,0,false,false,0⟩
def zgK(S:List MsgD)(root d:Int)(p:ByteArray)(bs:List UInt8)(w:World)(e:Ending)(w':World):Prop:=
 ((zap S root d p bs).2≠0/\e=.returned (.tuple #[zbG zcn none 0 0,.int .u8 ((zap S root d p bs).2:Nat)])/\Ext w w')\/
 ((zap S root d p bs).2=0/\∃f l A n c,OnWay S root.toNat (zap S root d p bs).1 f/\e=.returned (.tuple #[zbG f A n c,.int .u8 0])/\zbw w' A n c l/\zat l=zao S root.toNat bs (zap S root d p bs).1/\Ext w w'/\InS (fun q=>w.heap.size<=q) A)
variable{p:ByteArray}{root:Int}
theorem zeH(h:(zas S root p).2=0):zan S=true/\0<=root/\root<S.length/\∃f,OnWay S root.toNat (zas S root p).1 f/\(zas S root p).1.length<=65:=by
 by_cases h0:argsM S root=0
 . obtain⟨a,b,c⟩:=zkX h0
   refine⟨a,b,c,?_⟩;rcases hn:zbB p with _|l
   . rw[zer h0 hn]at h
     cases h
   . rcases hw:wayV S root.toNat l with _|way
     . rw[zfi h0 hn hw]at h
       cases h
     . rw[zgk h0 hn hw]
       have hl:=zhR hn;obtain⟨f,hf,hlen⟩:=zon a l root.toNat way (fun e=>by rw[e]at hl;simp at hl) hw;exact⟨f,hf,by show way.length<=65;omega⟩
 . rw[zfh h0]at h
   exact absurd h h0
theorem pFind{B:Option Addr}{k:Nat}{S:List MsgV}{d:Int}(hs:zag w A n c S)(hb:zac w B m k bs)(hm:m<=1000000000)(hp:p.size<=maxLen):
 Calls prog 44 #[.slice A n c,.int .i64 root,.slice B m k,.int .i64 d,.string p] w (zgK (S.map MsgV.d) root d p bs w):=by
 have hl:=hs.length;have ha:=fun W (h:zag W A n c S)=>vArgs (root:=root) (d:=d) h
 have hr:=fun W (h:zag W A n c S)=>zmK (root:=root) h hp
 have hc:=fun W (h:zag W A n c S)(q:zac W B m k bs)=>zoQ (root:=root) (d:=d) h q hm
 unfold zfj at hr;have BR:=BlkT.new w 79 zdJ rfl;have X0:Ext w (w.alloc (.cells zdJ 79)):=xx;unfold zdJ at BR X0;by_cases h0:argsV (S.map MsgV.d) root d=0
 . rw[h0]at ha
   by_cases h1:(zas (S.map MsgV.d) root p).2=0
   . have e:zap (S.map MsgV.d) root d p bs=((zas (S.map MsgV.d) root p).1,(zaM (S.map MsgV.d) root bs d).2):=by unfold zap;rw[if_neg (by simp[h0]),if_neg (by simp[h1])]
     obtain⟨hR,hr0,hr2,f,hf,hfl⟩:=zeH h1;unfold zgK;rw[e];rw[h1]at hr;obtain⟨r,rfl⟩:∃r:Nat,root=r:=⟨root.toNat,by omega⟩
     rw[Int.toNat_natCast]at hf⊢;rw[List.length_map,hl]at hr2;have hal:=fun W A2 c2 (h:zag W A n c S)(q:zac W B m k bs) hw=>zqM hR (zas (S.map MsgV.d) (r:Int) p).1 r f bs (A:=A) (B:=B) (C:=A2) (n:=n) (c:=c) (nb:=m) (cb:=k) (kc:=c2) (w:=W) hf h (by omega) q hm hw (by omega)
     simp only;generalize (zas (S.map MsgV.d) (r:Int) p).1=way at*;generalize zaM (S.map MsgV.d) (r:Int) bs d=PK at hc⊢;obtain⟨PL,K⟩:=PK;simp only at hc⊢;have Ha:=zsz ha;have Hr:=zsz hr;have Hc:=zsz hc;have Hf:=zsz hf;have Hal:=zsz hal;clear ha hr hc h0 h1 e hal hf;by_cases hK:K=0
     . subst hK
       go_enter func44,ntmps44
       go_wp2_with fail
       generalize w.alloc (.cells #[.string ⟨#[]⟩,.int .i64 0,.int .i64 0,.bool false,.bool false,.int .i64 0,.slice none 0 0] 79)=wx at*
       go_wp2_with (first
        |(go_at_call 72;refine(Ha.out _ (hs.up X0)).mono ?_;rintro e w1 ⟨rfl,E1⟩;have X1:=X0.trans E1;replace BR:=BR.up E1)
        |(go_at_call 73;refine(Hr.out _ (hs.up X1)).mono ?_;rintro e w2 ⟨A2,c2,rfl,own2⟩;have X2:=X1.trans own2.ext;replace BR:=BR.up own2.ext;have rd2:=own2.reads)
        |(go_at_call 74;refine(Hc.out _ (hs.up X2) (hb.up X2)).mono ?_;rintro e w3 ⟨rfl,E3⟩;have X3:=X2.trans E3;replace BR:=BR.up E3;have rd3:=rd2.ext E3)
        |(go_at_call 75;refine(Hal.out _ _ _ (hs.up X3) (hb.up X3) rd3).mono ?_;rintro e w4 ⟨l4,A4,n4,c4,rfl,own4,hl4,hp4⟩;unfold zbG;have X4:=X3.trans own4.ext;have hb3:=BR.lt;replace BR:=BR.up own4.ext;have y0:w4.cell? ⟨w.heap.size,0,none⟩=some (.string ⟨#[]⟩):=BR.cell 0;have y1:=BR.cell 1;have y2:=BR.cell 2;have y3:=BR.cell 3;have y4:=BR.cell 4;have y5:=BR.cell 5;have y6:=BR.cell 6;have x0:=BR.free 0;have x1:=BR.free 1;have x2:=BR.free 2;have x3:=BR.free 3;have x4:=BR.free 4;have x5:=BR.free 5;have x6:=BR.free 6;have yl:=BR.lt))
       have hfp:=zcm.stored (f:=f) (g:=zcn) (Nat.le_refl _) X3 hb3 BR own4 hl4 hp4;refine bodyPost_ret (zaO (ty:=79) rfl _ _ w.heap.size _ _ (0,0) _ rfl (zcY (f:=f) (g:=zcn) BR) underlying79 rfl (by kernel_rfl)) rfl ?_;obtain⟨l5,A5,n5,c5,e5,own5,hl5,hp5⟩:=hfp
       obtain⟨rfl,rfl,rfl⟩:A4=A5/\n4=n5/\c4=c5:=by
        injection e5 with e5;injection e5 with e5;simp only[zco,Array.mk.injEq,List.cons.injEq,Value.slice.injEq]at e5;exact⟨e5.2.2.2.2.2.2.1.1,e5.2.2.2.2.2.2.1.2.1,e5.2.2.2.2.2.2.1.2.2⟩
       exact .inr ⟨trivial,f,l5,A4,n4,c4,Hf.out,rfl,⟨own5.reads,hl5⟩,hp5,own5.ext,zqN own5⟩
     . have q:((K:Int) !=0)=true:=by rw[bne_iff_ne];omega
       have HK:=zsz hK;clear hK
       go_enter func44,ntmps44
       go_wp2_with fail
       generalize w.alloc (.cells #[.string ⟨#[]⟩,.int .i64 0,.int .i64 0,.bool false,.bool false,.int .i64 0,.slice none 0 0] 79)=wx at*
       go_wp2_with (first
        |(go_at_call 72;refine(Ha.out _ (hs.up X0)).mono ?_;rintro e w1 ⟨rfl,E1⟩;have X1:=X0.trans E1;replace BR:=BR.up E1)
        |(go_at_call 73;refine(Hr.out _ (hs.up X1)).mono ?_;rintro e w2 ⟨A2,c2,rfl,own2⟩;have X2:=X1.trans own2.ext;replace BR:=BR.up own2.ext;have rd2:=own2.reads)
        |(go_at_call 74;refine(Hc.out _ (hs.up X2) (hb.up X2)).mono ?_;rintro e w3 ⟨rfl,E3⟩;have X3:=X2.trans E3;replace BR:=BR.up E3;have y0:w3.cell? ⟨w.heap.size,0,none⟩=some (.string ⟨#[]⟩):=BR.cell 0;have y1:=BR.cell 1;have y2:=BR.cell 2;have y3:=BR.cell 3;have y4:=BR.cell 4;have y5:=BR.cell 5;have y6:=BR.cell 6;have x0:=BR.free 0;have x1:=BR.free 1;have x2:=BR.free 2;have x3:=BR.free 3;have x4:=BR.free 4;have x5:=BR.free 5;have x6:=BR.free 6;have yl:=BR.lt))
       refine bodyPost_ret (zaO (ty:=79) rfl _ _ w.heap.size _ _ (0,0) _ rfl (zcY (f:=zcn) (g:=zcn) BR) underlying79 rfl (by kernel_rfl)) rfl ?_;exact .inl ⟨HK.out,rfl,zeG (f:=zcn) X3 (Nat.le_refl _)⟩
   . have e:zap (S.map MsgV.d) root d p bs=([],(zas (S.map MsgV.d) root p).2):=by unfold zap;rw[if_neg (by simp[h0]),if_pos h1]
     unfold zgK;rw[e];rw[zeU h1]at hr;simp only;generalize (zas (S.map MsgV.d) root p).2=K at*;have q:((K:Int) !=0)=true:=by rw[bne_iff_ne];omega
     have H1:=zsz h1;have Ha:=zsz ha;have Hr:=zsz hr;clear ha hr hc h0 h1 e
     go_enter func44,ntmps44
     go_wp2_with fail
     generalize w.alloc (.cells #[.string ⟨#[]⟩,.int .i64 0,.int .i64 0,.bool false,.bool false,.int .i64 0,.slice none 0 0] 79)=wx at*
     go_wp2_with (first
      |(go_at_call 72;refine(Ha.out _ (hs.up X0)).mono ?_;rintro e w1 ⟨rfl,E1⟩;have X1:=X0.trans E1;replace BR:=BR.up E1)
      |(go_at_call 73;refine(Hr.out _ (hs.up X1)).mono ?_;rintro e w2 ⟨A2,c2,rfl,own2⟩;have X2:=X1.trans own2.ext;replace BR:=BR.up own2.ext;have y0:w2.cell? ⟨w.heap.size,0,none⟩=some (.string ⟨#[]⟩):=BR.cell 0;have y1:=BR.cell 1;have y2:=BR.cell 2;have y3:=BR.cell 3;have y4:=BR.cell 4;have y5:=BR.cell 5;have y6:=BR.cell 6;have x0:=BR.free 0;have x1:=BR.free 1;have x2:=BR.free 2;have x3:=BR.free 3;have x4:=BR.free 4;have x5:=BR.free 5;have x6:=BR.free 6;have yl:=BR.lt))
     refine bodyPost_ret (zaO (ty:=79) rfl _ _ w.heap.size _ _ (0,0) _ rfl (zcY (f:=zcn) (g:=zcn) BR) underlying79 rfl (by kernel_rfl)) rfl ?_;exact .inl ⟨H1.out,rfl,zeG (f:=zcn) X2 (Nat.le_refl _)⟩
 . have e:zap (S.map MsgV.d) root d p bs=([],argsV (S.map MsgV.d) root d):=by unfold zap;rw[if_pos h0]
   unfold zgK;rw[e];simp only;generalize argsV (S.map MsgV.d) root d=K at*;have q:((K:Int) !=0)=true:=by rw[bne_iff_ne];omega
   have HK:=zsz h0;have Ha:=zsz ha;clear ha hr hc h0 e
   go_enter func44,ntmps44
   go_wp2_with fail
   generalize w.alloc (.cells #[.string ⟨#[]⟩,.int .i64 0,.int .i64 0,.bool false,.bool false,.int .i64 0,.slice none 0 0] 79)=wx at*
   go_wp2_with (go_at_call 72;refine(Ha.out _ (hs.up X0)).mono ?_;rintro e w1 ⟨rfl,E1⟩;have X1:=X0.trans E1;replace BR:=BR.up E1;have y0:w1.cell? ⟨w.heap.size,0,none⟩=some (.string ⟨#[]⟩):=BR.cell 0;have y1:=BR.cell 1;have y2:=BR.cell 2;have y3:=BR.cell 3;have y4:=BR.cell 4;have y5:=BR.cell 5;have y6:=BR.cell 6;have x0:=BR.free 0;have x1:=BR.free 1;have x2:=BR.free 2;have x3:=BR.free 3;have x4:=BR.free 4;have x5:=BR.free 5;have x6:=BR.free 6;have yl:=BR.lt)
   refine bodyPost_ret (zaO (ty:=79) rfl _ _ w.heap.size _ _ (0,0) _ rfl (zcY (f:=zcn) (g:=zcn) BR) underlying79 rfl (by kernel_rfl)) rfl ?_;exact .inl ⟨HK.out,rfl,zeG (f:=zcn) X1 (Nat.le_refl _)⟩
variable{ps:List (List UInt8)}
theorem zeI(h:runP f=true):loadP f ps=ps.flatten:=by unfold loadP;rw[if_pos (.inl h)]
theorem zeJ(h:f.kind=17)(h2:f.rep=false):loadP f ps=ps.flatten:=by unfold loadP;rw[if_pos (.inr ⟨h,h2⟩)]
theorem zcJ(h:¬f.kind=17)(h2:f.rep=false):loadP f ps=lastP ps:=by
 unfold loadP;rw[if_neg (by unfold runP;rw[h2];simp[h]),if_pos h2]
theorem zkB(h:runP f=false)(h2:f.rep=true):loadP f ps=toldP ps:=by
 unfold loadP;rw[if_neg (by rw[h,h2];simp),if_neg (by rw[h2];simp)]
theorem pLoad{l:List BRow}(hb:zbw w A n c l)(hl:(flatR l).length<=1000000000)(hn:n<=1000000000)(hne:f.rep=false->0<n\/f.kind=17):
 Calls prog 46 #[zbG f A n c] w fun e w'=>∃A' c',e=.returned (.slice A' (loadP f (zat l)).length c')/\Own w w' 5 1 A' (loadP f (zat l)).length c' ((loadP f (zat l)).map bv):=by
 have hbl:=hb.length;have hnu:=fun W=>zjs (f:=f) (A:=A) (n:=n) (c:=c) (w:=W)
 have hcat:=fun W (h:zbw W A n c l)=>zkI h (by omega)
 rw[zdI]at hcat;have hfl:(zat l).flatten.length<=1000000000:=by rw[<-zdI];exact hl
 have hpl:(zat l).length=n:=by unfold zat;rw[List.length_map];exact hbl
 have hB:=BlkT.new w 79 (zco f A n c) rfl;have X0:Ext w (w.alloc (.cells (zco f A n c) 79)):=xx
 have hlo:(runP f=true->loadP f (zat l)=(zat l).flatten)/\(f.kind=17->f.rep=false->loadP f (zat l)=(zat l).flatten)/\(¬f.kind=17->f.rep=false->loadP f (zat l)=lastP (zat l))/\(runP f=false->f.rep=true->loadP f (zat l)=toldP (zat l)):=
  ⟨zeI,zeJ,zcJ,zkB⟩
 have hru:f.rep=false->runP f=false:=fun h=>by unfold runP;rw[h];rfl
 obtain⟨FL,hFL⟩:∃FL,FL=(zat l).flatten:=⟨_,rfl⟩
 rw[<-hFL]at hcat hlo;obtain⟨fl,hfl2⟩:∃fl,fl=FL.length:=⟨_,rfl⟩
 rw[<-hfl2]at hcat;have HFL:=zsz hFL;have Hfl2:=zsz hfl2;have Hfl:=zsz hfl;have Hpl:=zsz hpl;have Hlo:=zsz hlo;have Hcat:=zsz hcat;have Hb:=zsz hb;clear hcat hlo hFL hfl2 hfl hpl hbl hb;unfold zco at hB X0;rcases hr:runP f with _|_
 . rw[hr]at hnu
   have Hnu:=zsz hnu;clear hnu hru;obtain⟨fname,fnum,fkind,frep,fpk,fof⟩:=f;simp only[zbG]at Hnu hB X0 hne⊢;have Hlo:=Hlo.out;simp only at Hlo
   cases frep with
   |false=>
    by_cases h17:fkind=17
    . subst h17
      rw[Hlo.2.1 rfl rfl];clear Hlo hr hne
      go_enter func46,ntmps46
      go_wp2_with fail
      generalize w.alloc (.cells #[.string fname,.int .i64 fnum,.int .i64 17,.bool false,.bool fpk,.int .i64 fof,.slice A n c] 79)=wx at*;have c0:wx.cell? ⟨w.heap.size,0,none⟩=some (.string fname):=hB.cell 0;have c1:wx.cell? ⟨w.heap.size,1,none⟩=some (.int .i64 fnum):=hB.cell 1;have c2:wx.cell? ⟨w.heap.size,2,none⟩=some (.int .i64 17):=hB.cell 2;have c3:wx.cell? ⟨w.heap.size,3,none⟩=some (.bool false):=hB.cell 3;have c4:wx.cell? ⟨w.heap.size,4,none⟩=some (.bool fpk):=hB.cell 4;have c5:wx.cell? ⟨w.heap.size,5,none⟩=some (.int .i64 fof):=hB.cell 5;have c6:wx.cell? ⟨w.heap.size,6,none⟩=some (.slice A n c):=hB.cell 6;have cl:=hB.lt
      go_wp2_with (first
       |(go_at_call 77;refine(Hcat.out _ (Hb.out.up X0)).mono ?_;rintro e w1 ⟨A1,k1,rfl,own1⟩;have X1:=own1.ext;replace c0:=X1.of_cell c0;replace c1:=X1.of_cell c1;replace c2:=X1.of_cell c2;replace c3:=X1.of_cell c3;replace c4:=X1.of_cell c4;replace c5:=X1.of_cell c5;replace c6:=X1.of_cell c6;replace cl:=Nat.lt_of_lt_of_le cl X1.size)
       |(go_at_call 76;refine(Hnu.out _).mono ?_;rintro e w2 ⟨rfl,E2⟩;replace c0:=E2.of_cell c0;replace c1:=E2.of_cell c1;replace c2:=E2.of_cell c2;replace c3:=E2.of_cell c3;replace c4:=E2.of_cell c4;replace c5:=E2.of_cell c5;replace c6:=E2.of_cell c6;replace cl:=Nat.lt_of_lt_of_le cl E2.size;have X2:=(X0.trans X1).trans E2))
      go_ret
      exact⟨A1,k1,zdx Hfl2.out,by rw[<-Hfl2.out];exact(own1.up E2).since X0⟩
    . rw[Hlo.2.2.1 h17 rfl]
      have hpos:0<n:=(hne rfl).resolve_right h17;obtain⟨j,rfl⟩:∃j,n=j+1:=⟨n - 1,by omega⟩
      obtain⟨b,off,r,rfl,hlr,hb1,hbr,hcell⟩:=Hb.out.row (k:=j) (by omega)
      have hlast:lastP (zat l)=r.bs:=by
       unfold lastP;have h1:=Hpl.out;rw[List.getLast?_eq_getElem?,h1];unfold zat;rw[List.getElem?_map,show j+1 - 1=j by omega,hlr];rfl
      have hr1:r.n<=1000000000:=by
       have h1:=hbr.length;have h2:(zat l)[j]?=some r.bs:=by unfold zat;rw[List.getElem?_map,hlr];rfl
       have:=zcx (List.mem_of_getElem? h2);have:=Hfl.out;omega
      have hk17:(fkind==17)=false:=by rw[beq_eq_false_iff_ne];exact h17
      rw[hlast];replace hlast:=zsz hlast;clear Hlo hr hne hlr h17 hpos hlast
      go_enter func46,ntmps46
      go_wp2_with fail
      generalize w.alloc (.cells #[.string fname,.int .i64 fnum,.int .i64 fkind,.bool false,.bool fpk,.int .i64 fof,.slice (some ⟨b,off,none⟩) (j+1) c] 79)=wx at*;have c0:wx.cell? ⟨w.heap.size,0,none⟩=some (.string fname):=hB.cell 0;have c1:wx.cell? ⟨w.heap.size,1,none⟩=some (.int .i64 fnum):=hB.cell 1;have c2:wx.cell? ⟨w.heap.size,2,none⟩=some (.int .i64 fkind):=hB.cell 2;have c3:wx.cell? ⟨w.heap.size,3,none⟩=some (.bool false):=hB.cell 3;have c4:wx.cell? ⟨w.heap.size,4,none⟩=some (.bool fpk):=hB.cell 4;have c5:wx.cell? ⟨w.heap.size,5,none⟩=some (.int .i64 fof):=hB.cell 5;have c6:wx.cell? ⟨w.heap.size,6,none⟩=some (.slice (some ⟨b,off,none⟩) (j+1) c):=hB.cell 6;have cl:=hB.lt;have c6z:wx.cell? ⟨b,off+j,none⟩=some (.slice r.A r.n r.c):=X0.of_cell hcell;have hbz:b<wx.heap.size:=Nat.lt_of_lt_of_le hb1 X0.size
      go_wp2_with (first
       |(go_at_call 77;refine(Hcat.out _ (Hb.out.up X0)).mono ?_;rintro e w1 ⟨A1,k1,rfl,own1⟩;have X1:=own1.ext;replace c0:=X1.of_cell c0;replace c1:=X1.of_cell c1;replace c2:=X1.of_cell c2;replace c3:=X1.of_cell c3;replace c4:=X1.of_cell c4;replace c5:=X1.of_cell c5;replace c6:=X1.of_cell c6;replace c6z:=X1.of_cell c6z;replace hbz:=Nat.lt_of_lt_of_le hbz X1.size;replace cl:=Nat.lt_of_lt_of_le cl X1.size)
       |(go_at_call 76;refine(Hnu.out _).mono ?_;rintro e w2 ⟨rfl,E2⟩;replace c0:=E2.of_cell c0;replace c1:=E2.of_cell c1;replace c2:=E2.of_cell c2;replace c3:=E2.of_cell c3;replace c4:=E2.of_cell c4;replace c5:=E2.of_cell c5;replace c6:=E2.of_cell c6;replace c6z:=E2.of_cell c6z;replace hbz:=Nat.lt_of_lt_of_le hbz E2.size;replace cl:=Nat.lt_of_lt_of_le cl E2.size;have X2:=(X0.trans X1).trans E2)
       |(go_at_call 50;refine(clone (hbr.ext X2) (by omega)).mono ?_;rintro e w3 ⟨A3,k3,rfl,own3⟩))
      go_ret
      exact⟨A3,k3,zdx (by rw[hbr.length]),by rw[hbr.length];exact own3.since X2⟩
   |true=>
    rw[Hlo.2.2.2 hr rfl]
    have hT:∀q,(toldP ((zat l).take q)).length<=11000000000:=fun q=>by
     have h1:=ziR ((zat l).take q) (fun b hb=>by have:=zcx (List.mem_of_mem_take hb);have:=Hfl.out;omega);have h2:((zat l).take q).length<=n:=by rw[List.length_take,Hpl.out];omega
     have h3:((zat l).take q).flatten.length<=(zat l).flatten.length:=by
      conv=>rhs;rw[<-List.take_append_drop q (zat l),List.flatten_append,List.length_append]
      omega
     have:=Hfl.out;omega
    have HT:=zsz hT;clear Hlo hr hne hT
    go_enter func46,ntmps46
    go_wp2_with fail
    generalize w.alloc (.cells #[.string fname,.int .i64 fnum,.int .i64 fkind,.bool true,.bool fpk,.int .i64 fof,.slice A n c] 79)=wx at*;have c0:wx.cell? ⟨w.heap.size,0,none⟩=some (.string fname):=hB.cell 0;have c1:wx.cell? ⟨w.heap.size,1,none⟩=some (.int .i64 fnum):=hB.cell 1;have c2:wx.cell? ⟨w.heap.size,2,none⟩=some (.int .i64 fkind):=hB.cell 2;have c3:wx.cell? ⟨w.heap.size,3,none⟩=some (.bool true):=hB.cell 3;have c4:wx.cell? ⟨w.heap.size,4,none⟩=some (.bool fpk):=hB.cell 4;have c5:wx.cell? ⟨w.heap.size,5,none⟩=some (.int .i64 fof):=hB.cell 5;have c6:wx.cell? ⟨w.heap.size,6,none⟩=some (.slice A n c):=hB.cell 6;have cl:=hB.lt
    go_wp2_with (first
     |(go_at_call 77;refine(Hcat.out _ (Hb.out.up X0)).mono ?_;rintro e w1 ⟨A1,k1,rfl,own1⟩;have X1:=own1.ext;replace c0:=X1.of_cell c0;replace c1:=X1.of_cell c1;replace c2:=X1.of_cell c2;replace c3:=X1.of_cell c3;replace c4:=X1.of_cell c4;replace c5:=X1.of_cell c5;replace c6:=X1.of_cell c6;replace cl:=Nat.lt_of_lt_of_le cl X1.size)
     |(go_at_call 76;refine(Hnu.out _).mono ?_;rintro e w2 ⟨rfl,E2⟩;replace c0:=E2.of_cell c0;replace c1:=E2.of_cell c1;replace c2:=E2.of_cell c2;replace c3:=E2.of_cell c3;replace c4:=E2.of_cell c4;replace c5:=E2.of_cell c5;replace c6:=E2.of_cell c6;replace cl:=Nat.lt_of_lt_of_le cl E2.size;have X2:=(X0.trans X1).trans E2))
    all_goals
     go_loopw [4,41] (fun t4 t41 wr=>∃(q:Nat)(A2:Option Addr)(k2 m2:Nat),q<=n/\t41=.int .i64 q/\Hid (m2=(toldP ((zat l).take q)).length)/\t4=.slice A2 m2 k2/\Own w wr 5 1 A2 m2 k2 ((toldP ((zat l).take q)).map bv)/\Ext w2 wr)
      (fun _ i _=>n - (intOf i).toNat)
     case atStart=>exact⟨0,none,0,0,Nat.zero_le _,rfl,rfl,rfl,Own.nil X2 5 1,Ext.refl _⟩
     case round=>
      obtain⟨q,A2,k2,m2,hq,rfl,hm2,rfl,own,X3⟩:=hrel;by_cases hlt:q<n
      . have hlt2:(q:Int)<n:=by omega
        obtain⟨b,off,r,rfl,hlr,hb1,hbr,hcell⟩:=(Hb.out.up (X2.trans X3)).row hlt;have hps:(zat l)[q]?=some r.bs:=by unfold zat;rw[List.getElem?_map,hlr];rfl
        have hsn:=zmP hps;have hle:=HT.out q;rw[<-hm2.out]at hle;have hrl:=hbr.length;rw[hrl]at hsn;have hr1:r.n<=1000000000:=by have:=zcx (List.mem_of_getElem? hps);have:=Hfl.out;omega
        have hput:=vPut (w:=wr) (x:=(r.n:Int)) own.reads (by omega) (by omega) (by omega);rw[Int.toNat_natCast]at hput;have hu10:=zdL r.n (by omega);obtain⟨ul,hul⟩:∃ul,ul=(Lib.uvarint r.n).length:=⟨_,rfl⟩
        rw[<-hul]at hput hu10;have Hput:=zsz hput;have Hsn:=zsz hsn;have Hul:=zsz hul;have Hrl:=zsz hrl;clear hput hsn hps hlr hul hrl
        go_wp2_with (first
         |(go_at_call 78;refine Hput.out.mono ?_;rintro e w5 ⟨A5,k5,rfl,own5⟩;have X5:=own5.ext)
         |(at_builtin;refine zba elemB rfl (.tmp 49) (.tmp 50) rfl rfl own5 rfl (hbr.ext X5) (zdZ _) (by omega) (by unfold maxLen;omega) ?_;intro A6 k6 w6 own6 _))
        go_roundw
        case rel=>
         refine⟨q+1,A6,k6,m2+ul+r.n,by omega,by go_num,?_,rfl,?_,X3.trans own6.ext⟩
         . show m2+ul+r.n=_
           rw[Hsn.out,List.length_append,List.length_append,<-hm2.out,<-Hul.out,Hrl.out];omega
         . have:=own6.since (X2.trans X3)
           rw[Hsn.out];simpa using this
        case measure=>simp[intOf];omega
      . have hqe:q=n:=by omega
        subst hqe;rw[List.take_of_length_le (by rw[Hpl.out];exact Nat.le_refl _)]at own hm2
        go_wp2
        go_ret
        exact⟨A2,k2,zdx hm2.out,by rw[<-hm2.out];exact own⟩
 . rw[hr]at hnu
   have Hnu:=zsz hnu;rw[Hlo.out.1 hr];clear hnu hr hru hne;unfold zbG at Hnu⊢;obtain⟨fname,fnum,fkind,frep,fpk,fof⟩:=f;simp only at Hnu hB X0⊢
   go_enter func46,ntmps46
   go_wp2_with fail
   generalize w.alloc (.cells #[.string fname,.int .i64 fnum,.int .i64 fkind,.bool frep,.bool fpk,.int .i64 fof,.slice A n c] 79)=wx at*;have c0:wx.cell? ⟨w.heap.size,0,none⟩=some (.string fname):=hB.cell 0;have c1:wx.cell? ⟨w.heap.size,1,none⟩=some (.int .i64 fnum):=hB.cell 1;have c2:wx.cell? ⟨w.heap.size,2,none⟩=some (.int .i64 fkind):=hB.cell 2;have c3:wx.cell? ⟨w.heap.size,3,none⟩=some (.bool frep):=hB.cell 3;have c4:wx.cell? ⟨w.heap.size,4,none⟩=some (.bool fpk):=hB.cell 4;have c5:wx.cell? ⟨w.heap.size,5,none⟩=some (.int .i64 fof):=hB.cell 5;have c6:wx.cell? ⟨w.heap.size,6,none⟩=some (.slice A n c):=hB.cell 6;have cl:=hB.lt
   go_wp2_with (first
    |(go_at_call 77;refine(Hcat.out _ (Hb.out.up X0)).mono ?_;rintro e w1 ⟨A1,k1,rfl,own1⟩;have X1:=own1.ext;replace c0:=X1.of_cell c0;replace c1:=X1.of_cell c1;replace c2:=X1.of_cell c2;replace c3:=X1.of_cell c3;replace c4:=X1.of_cell c4;replace c5:=X1.of_cell c5;replace c6:=X1.of_cell c6;replace cl:=Nat.lt_of_lt_of_le cl X1.size)
    |(go_at_call 76;refine(Hnu.out _).mono ?_;rintro e w2 ⟨rfl,E2⟩))
   go_ret
   exact⟨A1,k1,zdx Hfl2.out,by rw[<-Hfl2.out];exact(own1.up E2).since X0⟩
end Go.Proofs.YtpicpebolghcfaaGreatDoor
