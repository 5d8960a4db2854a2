/- Contracts of layer 12: a path's names; the program's way to them, a range over an iterator of strings. -/
import Derived.Test.YtpicpebolghcfaaGreatDoorQlS51
import Derived.Test.YtpicpebolghcfaaGreatDoorQlW9
import Derived.Test.YtpicpebolghcfaaGreatDoorQlShelf

set_option linter.unusedVariables false
set_option maxRecDepth 100000
set_option maxHeartbeats 4000000
namespace Go.Proofs.YtpicpebolghcfaaGreatDoor
open Go.RowKit Go.Shelf Tryz
attribute [local go_sem] Oper.semAt_some
def nmV(s:ByteArray):Value:=.string s
theorem zkx:Elem prog 38 9 1 16:=Elem.mk' (z:=.string ⟨#[]⟩) underlying38 (by kernel_rfl) rfl (by omega)
def wyV(x:Int):Value:=.int .i64 x
theorem zrw(l:List Int):∀u∈l.map wyV,u.oneCell'=true:=by
 intro u hu;obtain⟨b,_,rfl⟩:=List.mem_map.1 hu;rfl
theorem zgB:Elem prog 34 3 1 8:=Elem.mk' (z:=.int .i64 0) underlying34 (by kernel_rfl) rfl (by omega)
def strSz:Value->Nat
 |.string s=>s.size
 |_=>0
variable{w:World}{p:ByteArray}
theorem zps{Bs Bp Bk:Nat}{s:Nat->Prop}(hp:p.size<=maxLen)(cS:BlkT w Bs 9 #[.string p])(cP:BlkT w Bp 9 #[.string ⟨#[46]⟩])(cK:BlkT w Bk 3 #[.int .i64 0])(hsS:s Bs)(hsP:s Bp)(hsK:s Bk)(nP:Bp≠Bs)(nK:Bk≠Bs):
 IterK prog 162 #[.pointer (some ⟨Bp,0,none⟩),.pointer (some ⟨Bs,0,none⟩),.pointer (some ⟨Bk,0,none⟩)] (fun v=>#[nmV v]) (zbh p) s Bs w:=by
 intro l J Jx W hsz hsame hJ hJx hJs hY h0;have cSW:BlkT W Bs 9 #[.string p]:=(hsame Bs hsS).trans cS;have cPW:BlkT W Bp 9 #[.string ⟨#[46]⟩]:=(hsame Bp hsP).trans cP;have cKW:BlkT W Bk 3 #[.int .i64 0]:=(hsame Bk hsK).trans cK;have HJ:=zsz hJ;have HY:=zsz hY;have HS:=zsz cSW;have HP:=zsz cPW;have HK:=zsz cKW;have q0:W.cell? ⟨Bp,0,none⟩=some (.string ⟨#[46]⟩):=cPW.cell 0;have hV:∃vs,vs=zbh p:=⟨_,rfl⟩
 obtain⟨vs,hvs⟩:=hV;rw[<-hvs]at HY⊢;have HV:=zsz hvs;clear hJ hY hJx hJs hsame hsz cS cP cK cSW cPW cKW hvs;refine callsIn_of_wp func162 rfl trivial ?_ rfl;simp only[ntmps162,List.size_toArray,List.length_cons,List.length_nil,Nat.reduceAdd,Nat.reduceSub,Array.replicate_succ,Array.replicate_zero,List.push_toArray,List.append_toArray,List.nil_append,List.cons_append]
 gi_wp2
 gi_loopw [7,8] (fun _ _ wr=>∃(j:Nat)(r:ByteArray),Hid (zbh r=vs.drop j)/\j<vs.length/\Hid (BlkT wr Bs 9 #[.string r])/\Hid (BlkT wr Bp 9 #[.string ⟨#[46]⟩])/\Hid (BlkT wr Bk 3 #[.int .i64 0])/\r.size<=maxLen/\J j wr)
  (fun _ _ wr=>strSz ((wr.cell? ⟨Bs,0,none⟩).getD undef))
 case atStart=>exact⟨0,p,by rw[HV.out];rfl,by rw[HV.out];exact zfR p,HS,HP,HK,hp,h0⟩
 case round=>
  obtain⟨j,r,hr,hj,hS,hP,hK,hm,hJj⟩:=hrel;have b0:wr.cell? ⟨Bs,0,none⟩=some (.string r):=hS.out.cell 0;have b1:wr.cell? ⟨Bp,0,none⟩=some (.string ⟨#[46]⟩):=hP.out.cell 0;have b2:wr.cell? ⟨Bk,0,none⟩=some (.int .i64 0):=hK.out.cell 0;have bf:wr.frozen? ⟨Bs,0,none⟩=false:=hS.out.free 0;have bl:=hS.out.lt;have hge:=Lib.indexByte_ge r.data.toList 46;have hms:=hm;unfold maxLen at hms;by_cases hi:Lib.indexByte r.data.toList 46= -1
  . have hidx:=fun W=>Tryz.strings_Index_one r 46 W
    rw[hi]at hidx;have h1:=hr.out;rw[zkU hi]at h1;have hvj:vs[j]?=some r:=by have:=congrArg (fun l=>l[0]?) h1;simpa using this.symm
    have hlast:j+1=vs.length:=by
     have:=congrArg List.length h1;rw[List.length_drop]at this;simp only[List.length_cons,List.length_nil]at this;omega
    obtain⟨fn,tmps,assign,body,hy,hR⟩:=HY.out j r _ hJj hvj;have Hidx:=zsz hidx;have HR:=zsz hR;have Hlast:=zsz hlast;unfold nmV at hy;clear hidx hR h1 hvj hlast hi hr hJj
    gi_wp2_with (first|(refine⟨trivial,?_⟩;gi_at_call 164;refine(callsIn_wide.2 (Hidx.out _)).mono ?_;rintro e w3 ⟨rfl,rfl⟩))
    refine HR.out.mono ?_;rintro e W' (⟨rfl,hJ',hsm⟩|⟨rfl,hJx'⟩)
    . rw[Hlast.out]at hJ'
      have HJ':=zsz hJ';clear hJ' hsm
      gi_wp2
      go_end0
      exact⟨⟨_,rfl⟩,.inl HJ'.out⟩
    . have HJx':=zsz hJx'
      clear hJx'
      gi_wp2
      go_end0
      exact⟨⟨_,rfl⟩,.inr HJx'.out⟩
  . obtain⟨i,hI⟩:∃i:Nat,Lib.indexByte r.data.toList 46=i:=⟨(Lib.indexByte r.data.toList 46).toNat,by omega⟩
    have hidx:=fun W=>Tryz.strings_Index_one r 46 W
    rw[hI]at hidx;obtain⟨h2,hil⟩:=zkV hI;have h1:=hr.out;rw[h2]at h1;have hvj:vs[j]?=some (r.extract 0 i):=by have:=congrArg (fun l=>l[0]?) h1;simpa using this.symm
    have hnext:vs.drop (j+1)=zbh (r.extract (i+1) r.size):=by have:=congrArg (List.drop 1) h1;simpa using this.symm
    have hlt:j+1<vs.length:=by
     have:=congrArg List.length hnext;rw[List.length_drop]at this;have:=zfR (r.extract (i+1) r.size);omega
    obtain⟨fn,tmps,assign,body,hy,hR⟩:=HY.out j _ _ hJj hvj
    have hxs:(r.extract (i+1) r.size).size<r.size:=by
     rw[Lib.size_eq,Lib.extract_to_end,List.length_drop,<-Lib.size_eq];omega
    have Hidx:=zsz hidx;have HR:=zsz hR;have Hnext:=zsz hnext;have Hlt:=zsz hlt;have Hxs:=zsz hxs;have hi1:(i:Int)<=r.size:=by omega
    have hi2:(i:Int)+1<=r.size:=by omega
    have hi3:(r.size:Int)<=9223372036854775807:=by omega
    unfold nmV at hy;clear hidx hR h1 h2 hvj hnext hlt hxs hi hI hr hJj hge
    gi_wp2_with (first|(refine⟨trivial,?_⟩;gi_at_call 164;refine(callsIn_wide.2 (Hidx.out _)).mono ?_;rintro e w3 ⟨rfl,rfl⟩))
    refine HR.out.mono ?_;rintro e W' (⟨rfl,hJ',hsm⟩|⟨rfl,hJx'⟩)
    . have hS':BlkT W' Bs 9 #[.string r]:=(hsm Bs hsS).trans hS.out
      have hP':BlkT W' Bp 9 #[.string ⟨#[46]⟩]:=(hsm Bp hsP).trans hP.out;have hK':BlkT W' Bk 3 #[.int .i64 0]:=(hsm Bk hsK).trans hK.out;have d0:W'.cell? ⟨Bs,0,none⟩=some (.string r):=hS'.cell 0;have d1:W'.cell? ⟨Bp,0,none⟩=some (.string ⟨#[46]⟩):=hP'.cell 0;have df:W'.frozen? ⟨Bs,0,none⟩=false:=hS'.free 0;have dl:=hS'.lt;have HS':=zsz hS';have HP':=zsz hP';have HK':=zsz hK';have HJ':=zsz hJ';clear hJ' hsm hS' hP' hK'
      gi_wp2
      go_roundw
      case rel=>
       refine⟨j+1,r.extract (i+1) r.size,Hnext.out.symm,Hlt.out,?_,?_,?_,by have:=Hxs.out;omega,HJ.out _ _ _ HJ'.out (zdT _ _ _)⟩
       . have:=HS'.out.set_ 0 (.string (r.extract (i+1) r.size))
         exact zsz (by simpa using this)
       . exact HP'.out.onlyB (zdT _ _ _) nP
       . exact HK'.out.onlyB (zdT _ _ _) nK
      case measure=>
       have e1:=(HS'.out.set_ 0 (.string (r.extract (i+1) r.size))).cell 0;simp at e1;rw[e1,b0];exact Hxs.out
    . gi_wp2
      exact bodyPost_ret (results_none rfl _ _ _) rfl ⟨⟨_,rfl⟩,.inr hJx'⟩
theorem zsk{W W':World}(h:Ext W W'):KeepsOthers W W':=⟨h.size,fun l o k _=>(h.block l (Array.getElem?_eq_some_iff.1 k).1).trans k⟩
theorem zpt(s:ByteArray):zan [⟨s,[]⟩]=nameB s:=by
 unfold zan;rcases h:nameB s with _|_
 . rw[zfW (i:=0) (by simp) (by simp) (fun j hj=>absurd hj (Nat.not_lt_zero _)) (zhp (m:=⟨s,[]⟩) rfl h)]
   rfl
 . rw[zho (by simp) (fun j hj=>by
    simp only[List.length_cons,List.length_nil]at hj;obtain rfl:j=0:=by omega
    exact zlc (m:=⟨s,[]⟩) rfl h rfl (by simp) (fun k hk=>absurd hk (Nat.not_lt_zero _)))]
   rfl
variable{s:ByteArray}
theorem zlB(hs:s.size<=9223372036854775807):zag (w.alloc (.cells #[.string s,.slice none 0 0] 77)) (some ⟨w.heap.size,0,none⟩) 1 1 [⟨⟨s,[]⟩,none,0,0⟩]:=by
 have r2:=(Own.made (Ext.refl w) 77 2 (cs:=msgC ⟨⟨s,[]⟩,none,0,0⟩) (n:=1) (by simp[maxLen]) rfl).reads;refine⟨r2,fun m hm=> ?_⟩;simp only[List.mem_singleton]at hm;subst hm;exact⟨⟨Reads.nil _ 6,fun g hg=>by cases hg⟩,hs⟩
theorem zsl(hs:s.size<=9223372036854775807)(w:World):
 Calls prog 127 #[.string s] w fun e w'=>e=.returned (.bool (nameB s))/\Ext w w':=by
 have h:=fun W=>zmG (zlB (w:=W) hs)
 simp only[List.map_cons,List.map_nil,zpt]at h;have H:=zsz h;clear h
 go_enter func127,ntmps127
 go_wp2_with (go_at_call 102;refine(H.out _).mono ?_;rintro e w1 ⟨rfl,E1⟩)
 go_ret
 exact⟨rfl,Ext.trans xx E1⟩
def seqW(p:ByteArray)(w:World):World:=((w.alloc (.cells #[.string p] 9)).alloc (.cells #[.string ⟨#[46]⟩] 9)).alloc (.cells #[.int .i64 0] 3)
theorem pSeq0:
 Calls prog 146 #[.string p,.string ⟨#[46]⟩,.int .i64 0] w fun e w'=>e=.returned (.func (.func 162) #[] #[.pointer (some ⟨w.heap.size+1,0,none⟩),.pointer (some ⟨w.heap.size,0,none⟩),.pointer (some ⟨w.heap.size+1+1,0,none⟩)])/\w'=seqW p w:=by
 go_enter func146,ntmps146
 go_wp2
 go_ret
 exact⟨rfl,rfl⟩
theorem pSeq:
 Calls prog 126 #[.string p,.string ⟨#[46]⟩] w fun e w'=>e=.returned (.func (.func 162) #[] #[.pointer (some ⟨w.heap.size+1,0,none⟩),.pointer (some ⟨w.heap.size,0,none⟩),.pointer (some ⟨w.heap.size+1+1,0,none⟩)])/\w'=seqW p w:=by
 go_enter func126,ntmps126
 go_wp2_with (go_at_call 146;refine pSeq0.mono ?_;rintro e w1 ⟨rfl,rfl⟩)
 go_ret
 exact⟨rfl,rfl⟩
structure SplI(w wa:World)(vs:List ByteArray)(j:Nat)(W:World):Prop where
 r0:BlkT W w.heap.size 38 #[.slice none 0 0]
 r1:BlkT W (w.heap.size+1) 28 #[.int .u8 0]
 r2:∃A c,BlkT W (w.heap.size+1+1) 38 #[.slice A j c]/\W.ownsRow wa.heap.size 9 1 (.slice A j c) j ((vs.take j).map nmV)
 ext:Ext w W
 size:wa.heap.size<=W.heap.size
 few:j<=65
 fine:∀(i:Nat) v,i<j->vs[i]?=some v->nameB v=true
structure SplX(w:World)(p:ByteArray)(c:Code)(W:World):Prop where
 ret:c=.ret
 r0:BlkT W w.heap.size 38 #[.slice none 0 0]
 r1:BlkT W (w.heap.size+1) 28 #[.int .u8 12]
 ext:Ext w W
 bad:zbB p=none
def zpu(p:ByteArray)(w:World)(e:Ending)(w':World):Prop:=
 (zbB p=none/\e=.returned (.tuple #[.slice none 0 0,.int .u8 12])/\Ext w w')\/
 ∃l A c,zbB p=some l/\e=.returned (.tuple #[.slice A l.length c,.int .u8 0])/\Own w w' 9 1 A l.length c (l.map nmV)
theorem znR{j:Nat}(h:j<(zbh p).length)(h65:65<=j):zbB p=none:=by
 unfold zbB;rw[if_neg (by omega)]
theorem zky{x:ByteArray}(h:x∈zbh p)(hx:nameB x=false):zbB p=none:=by
 unfold zbB;rw[if_neg];rintro⟨h1,_⟩;have:=List.all_eq_true.1 h1 x h;rw[hx]at this;cases this
theorem zkz(h:∀x∈zbh p,nameB x=true)(h65:(zbh p).length<=65):zbB p=some (zbh p):=by
 unfold zbB;rw[if_pos ⟨List.all_eq_true.2 h,h65⟩]
theorem zsm(hp:p.size<=maxLen):Calls prog 104 #[.string p] w (zpu p w):=by
 have hms:=hp;unfold maxLen at hms;refine(callsIn_wide (n:=3)).1 ?_;refine callsIn_of_wp_marks func104 rfl trivial ?_ rfl;simp only[ntmps104,List.size_toArray,List.length_cons,List.length_nil,Nat.reduceAdd,Nat.reduceSub,Array.replicate_succ,Array.replicate_zero,List.push_toArray,List.append_toArray,List.nil_append,List.cons_append]
 gi_wp2_with (first|(refine⟨trivial,?_⟩;gi_at_call 126;refine(callsIn_wide.2 pSeq).mono ?_;rintro e w1 ⟨rfl,rfl⟩;unfold seqW))
 obtain⟨wa,hwa⟩:∃wa,wa=((((((w.alloc (.cells #[.slice none 0 0] 38)).alloc (.cells #[.int .u8 0] 28)).alloc (.cells #[.slice none 0 0] 38)).alloc (.cells #[.string p] 9)).alloc (.cells #[.string ⟨#[46]⟩] 9)).alloc (.cells #[.int .i64 0] 3)):=⟨_,rfl⟩
 rw[<-hwa];have X:Ext w wa:=by rw[hwa];exact xx
 have sz:wa.heap.size=w.heap.size+6:=by rw[hwa];simp
 have b0:BlkT wa w.heap.size 38 #[.slice none 0 0]:=by rw[hwa];exact(((((BlkT.new w _ _ rfl).alloc _).alloc _).alloc _).alloc _).alloc _
 have b1:BlkT wa (w.heap.size+1) 28 #[.int .u8 0]:=by rw[hwa];exact((((BlkT.new _ _ _ (by simp)).alloc _).alloc _).alloc _).alloc _
 have b2:BlkT wa (w.heap.size+1+1) 38 #[.slice none 0 0]:=by rw[hwa];exact(((BlkT.new _ _ _ (by simp)).alloc _).alloc _).alloc _
 have b3:BlkT wa (w.heap.size+1+1+1) 9 #[.string p]:=by rw[hwa];exact((BlkT.new _ _ _ (by simp)).alloc _).alloc _
 have b4:BlkT wa (w.heap.size+1+1+1+1) 9 #[.string ⟨#[46]⟩]:=by rw[hwa];exact(BlkT.new _ _ _ (by simp)).alloc _
 have b5:BlkT wa (w.heap.size+1+1+1+1+1) 3 #[.int .i64 0]:=by rw[hwa];exact BlkT.new _ _ _ (by simp)
 have hit:=zps (s:=fun b=>w.heap.size+3<=b/\b<w.heap.size+6) hp b3 b4 b5 (by omega) (by omega) (by omega) (by omega) (by omega);have hsz:=zhh p;obtain⟨vs,hvs⟩:∃vs,vs=zbh p:=⟨_,rfl⟩
 rw[<-hvs]at hit hsz;have HV:=zsz hvs;clear hvs
 refine zgM (w:=wa) rfl (enters_of func162 (by kernel_rfl) rfl) hit (fun b h=>by omega) b3.lt (fun _=>rfl)
  (SplI w wa vs) (SplX w p)
  (fun j x a₁ W=>SplI w wa vs j W/\a₁={tmps:=#[.string p,undef,.pointer (some ⟨w.heap.size,0,none⟩),.pointer (some ⟨w.heap.size+1,0,none⟩),.pointer (some ⟨w.heap.size+1+1,0,none⟩),nmV x,.string p,
   .func (.func 162) #[] #[.pointer (some ⟨w.heap.size+1+1+1+1,0,none⟩),.pointer (some ⟨w.heap.size+1+1+1,0,none⟩),.pointer (some ⟨w.heap.size+1+1+1+1+1,0,none⟩)],nmV x,undef,undef,undef,undef,undef,undef,undef,undef,undef,undef,undef,undef,undef],defers:=[]})
  (fun j W h=>h.size) ?hI ?hIB ?hIx ?hIxB ?hA ⟨b0,b1,⟨none,0,b2,World.ownsRow_nil _ _ _ _⟩,X,Nat.le_refl _,Nat.zero_le _,fun i v h=>absurd h (Nat.not_lt_zero i)⟩ ?assign ?body ?done ?stop
 case hI=>
  intro j W W' b o h hb2 ho hc hO;obtain⟨A2,c2,r2,row⟩:=h.r2;exact⟨h.r0.besides ho hc hO,h.r1.besides ho hc hO,⟨A2,c2,r2.besides ho hc hO,zhT row ho hc hO⟩,hO.toExt h.ext (by omega),Nat.le_trans h.size hO.size,h.few,h.fine⟩
 case hIB=>
  intro j W W' h hO;obtain⟨A2,c2,r2,row⟩:=h.r2;exact⟨h.r0.onlyB hO (by omega),h.r1.onlyB hO (by omega),⟨A2,c2,r2.onlyB hO (by omega),zqv row hO (by omega)⟩,hO.toExt h.ext (by omega),Nat.le_trans h.size hO.size,h.few,h.fine⟩
 case hIx=>
  intro cc W W' b o h hb2 ho hc hO;exact⟨h.ret,h.r0.besides ho hc hO,h.r1.besides ho hc hO,hO.toExt h.ext (by omega),h.bad⟩
 case hIxB=>
  intro cc W W' h hO;exact⟨h.ret,h.r0.onlyB hO (by omega),h.r1.onlyB hO (by omega),hO.toExt h.ext (by omega),h.bad⟩
 case hA=>
  rintro j x a₁ W W' b o ⟨h,rfl⟩ hb2 ho hc hO;obtain⟨A2,c2,r2,row⟩:=h.r2;exact⟨⟨h.r0.besides ho hc hO,h.r1.besides ho hc hO,⟨A2,c2,r2.besides ho hc hO,zhT row ho hc hO⟩,hO.toExt h.ext (by omega),Nat.le_trans h.size hO.size,h.few,h.fine⟩,rfl⟩
 case assign=>
  intro l j x W K h hx hK;unfold nmV
  gi_wp2
  exact hK _ _ ⟨h,rfl⟩ (Ext.refl W)
 case body=>
  rintro l j x a₁ W ⟨h,rfl⟩ hx;unfold nmV;have H:=zsz h;obtain⟨A2,c2,r2,row⟩:=h.r2;have y2:=r2.cell 0;have l2:=r2.lt;have y0:=h.r0.cell 0;have y1:=h.r1.cell 0;have f0:=h.r0.free 0;have f1:=h.r1.free 0;have l0:=h.r0.lt;have l1:=h.r1.lt;have Hx:=zsz hx;have hj:j<vs.length:=(List.getElem?_eq_some_iff.1 hx).1;have hxs:=hsz x (List.mem_of_getElem? hx);have hnm:=fun W=>zsl (s:=x) (by omega) W
  have R2:=zsz r2;have Row:=zsz row;have hsz:=h.size;have hfew:=h.few
  have hstop:nameB x=false\/j=65->zbB p=none:=fun q=>by
   rcases q with q|q
   . exact zky (by rw[<-HV.out];exact List.mem_of_getElem? hx) q
   . exact znR (j:=j) (by rw[<-HV.out];exact hj) (by omega)
  have Hstop:=zsz hstop;have Hnm:=zsz hnm;clear h b0 b1 b2 b3 b4 b5 hit hwa hx r2 row hstop hnm hxs;by_cases h65:j=65
  . have hN:=Hstop.out (.inr h65)
    have q:((j:Int)==65)=true:=by rw[beq_iff_eq];omega
    have HN:=zsz hN;clear h65 hN
    gi_wp2
    refine⟨trivial,?_⟩
    gi_wp2
    have h:=H.out;refine⟨((KeepsOthers.setCell _ _ _).trans (KeepsOthers.setCell _ _ _)),rfl,?_,?_,?_,HN.out⟩
    . have:=((h.r0.set_ 0 (.slice none 0 0)).far (p:=⟨w.heap.size+1,0,none⟩) (by show w.heap.size≠w.heap.size+1;omega) (.int .u8 12))
      simpa using this
    . have:=((h.r1.far (p:=⟨w.heap.size,0,none⟩) (by show w.heap.size+1≠w.heap.size;omega) (.slice none 0 0)).set_ 0 (.int .u8 12))
      simpa using this
    . exact((h.ext.setCell (p:=⟨w.heap.size,0,none⟩) (Nat.le_refl _) _).setCell (p:=⟨w.heap.size+1,0,none⟩) (Nat.le_succ _) _)
  . have q:((j:Int)==65)=false:=by rw[beq_eq_false_iff_ne];omega
    rcases hb:nameB x with _|_
    . have hN:=Hstop.out (.inl hb)
      have hnm:=Hnm.out;rw[hb]at hnm;have HN:=zsz hN;have Hn:=zsz hnm;clear hN hnm hb h65
      gi_wp2_with (first|(refine⟨trivial,?_⟩;gi_at_call 127;refine(CallsIn.inRound l (callsIn_wide.2 (Hn.out _))).mono ?_;rintro e w2 ⟨rfl,E2⟩;replace y0:=E2.of_cell y0;replace y1:=E2.of_cell y1;replace l0:=Nat.lt_of_lt_of_le l0 E2.size;replace l1:=Nat.lt_of_lt_of_le l1 E2.size;have f0:=(H.out.r0.up E2).free 0;have f1:=(H.out.r1.up E2).free 0))
      have h:=H.out;refine⟨(zsk E2).trans ((KeepsOthers.setCell _ _ _).trans (KeepsOthers.setCell _ _ _)),rfl,?_,?_,?_,HN.out⟩
      . have:=(((h.r0.up E2).set_ 0 (.slice none 0 0)).far (p:=⟨w.heap.size+1,0,none⟩) (by show w.heap.size≠w.heap.size+1;omega) (.int .u8 12))
        simpa using this
      . have:=(((h.r1.up E2).far (p:=⟨w.heap.size,0,none⟩) (by show w.heap.size+1≠w.heap.size;omega) (.slice none 0 0)).set_ 0 (.int .u8 12))
        simpa using this
      . exact(((h.ext.trans E2).setCell (p:=⟨w.heap.size,0,none⟩) (Nat.le_refl _) _).setCell (p:=⟨w.heap.size+1,0,none⟩) (Nat.le_succ _) _)
    . have hnm:=Hnm.out
      rw[hb]at hnm;have Hb:=zsz hb;have Hn:=zsz hnm;clear hnm hb
      gi_wp2_with (first|(refine⟨trivial,?_⟩;gi_at_call 127;refine(CallsIn.inRound l (callsIn_wide.2 (Hn.out _))).mono ?_;rintro e w2 ⟨rfl,E2⟩;have z2:=(R2.out.up E2).cell 0;have z2l:=(R2.out.up E2).lt)|(gi_at_builtin;apply zhS zkx rfl (.tmp 17) (.tmp 19) rfl rfl;(case row=>exact zsu Row.out E2);(case hx=>rfl);(case hb0=>first|rfl|simp);(case h1=>rfl);(case hb=>omega);(case h63=>unfold maxLen;omega);(case hbase=>have:=E2.size;omega);intro A4 c4 w4 row4 g4;have z4:=(show BlkT w4 (w.heap.size+1+1) 38 #[.slice A2 j c2]from(ziP Row.out E2 hsz g4 (by omega)).trans R2.out);have y4:=z4.cell 0;have f4:=z4.free 0;have l4:=z4.lt;have Z4:=zsz z4;have G4:=zsz g4;have Row4:=zsz row4;clear z4 g4 row4))
      have h:=H.out;obtain⟨K1,K2,K3,K4⟩:=zkD Row.out E2 hsz G4.out (show w.heap.size+1+1<wa.heap.size by omega) (.slice A4 (j+1) c4);refine⟨K1,fun b hb3=>K2 b (by omega) (by omega),?_⟩;refine⟨(K2 _ (by omega) (by omega)).trans h.r0,(K2 _ (by omega) (by omega)).trans h.r1,⟨A4,c4,?_,?_⟩,K3 w h.ext (by omega),Nat.le_trans hsz K4,by omega,fun i v hi hv=> ?_⟩
      . have:=Z4.out.set_ 0 (.slice A4 (j+1) c4)
        simpa using this
      . refine ownsRow_setCell_below ?_ (by show w.heap.size+1+1<wa.heap.size;omega) _
        have e:(vs.take (j+1)).map nmV=(vs.take j).map nmV++[.string x]:=by
         rw[List.take_add_one,Hx.out];simp[nmV]
        rw[e];simpa using Row4.out
      . by_cases e:i=j
        . subst e
          have:=Hx.out.symm.trans hv;cases this;exact Hb.out
        . exact h.fine i v (by omega) hv
 case done=>
  intro D W hD h hK;obtain⟨A2,c2,r2,row⟩:=h.r2;have y2:=r2.cell 0;have l2:=r2.lt;have H:=zsz h;have z0:=h.r0.cell 0;have z1:=h.r1.cell 0;have g0:=h.r0.free 0;have g1:=h.r1.free 0;have l0:=h.r0.lt;have l1:=h.r1.lt
  have hall:zbB p=some vs:=by
   have h1:=h.few;have h2:=h.fine;rw[HV.out]at h1 h2⊢
   exact zkz (fun x hx=>by
    obtain⟨i,hi⟩:=List.getElem?_of_mem hx
    exact h2 i x (List.getElem?_eq_some_iff.1 hi).1 hi) h1
  have Hall:=zsz hall;have HK:=zsz hK;have Row:=zsz row;clear h b0 b1 b2 b3 b4 b5 hit hwa hall r2 row
  gi_wp2
  have h:=H.out;refine⟨by simp,.inl ⟨_,_,rfl,run_takeDeferred (b:=D) (ds:=[]) ?_,?_⟩⟩
  . rw[Below.heap_setCell _ ⟨w.heap.size+1,0,none⟩ _ D (by show D≠w.heap.size+1;omega),Below.heap_setCell _ ⟨w.heap.size,0,none⟩ _ D (by show D≠w.heap.size;omega)]
    exact HK.out
  . have R0:=(((h.r0.set_ 0 (.slice A2 vs.length c2)).far (p:=⟨w.heap.size+1,0,none⟩) (by show w.heap.size≠w.heap.size+1;omega) (.int .u8 0)).putObj (D:=D) (by omega) (.deferred none)).cell 0
    have R1:=(((h.r1.far (p:=⟨w.heap.size,0,none⟩) (by show w.heap.size+1≠w.heap.size;omega) (.slice A2 vs.length c2)).set_ 0 (.int .u8 0)).putObj (D:=D) (by omega) (.deferred none)).cell 0;have E:Ext w (((W.setCell ⟨w.heap.size,0,none⟩ (.slice A2 vs.length c2)).setCell ⟨w.heap.size+1,0,none⟩ (.int .u8 0)).putObj D (.deferred none)):=(zaN _ _ _).toExt ((h.ext.setCell (p:=⟨w.heap.size,0,none⟩) (Nat.le_refl _) _).setCell (p:=⟨w.heap.size+1,0,none⟩) (Nat.le_succ _) _) (by omega);have row2:=ownsRow_setCell_below (ownsRow_setCell_below Row.out (a:=⟨w.heap.size,0,none⟩) (by show w.heap.size<wa.heap.size;omega) (.slice A2 vs.length c2)) (a:=⟨w.heap.size+1,0,none⟩) (by show w.heap.size+1<wa.heap.size;omega) (.int .u8 0)
    have row3:=ownsRow_putObj row2 (.deferred none) (l:=D) (o:=.deferred (some [])) (by
     rw[Below.heap_setCell _ ⟨w.heap.size+1,0,none⟩ _ D (by show D≠w.heap.size+1;omega),Below.heap_setCell _ ⟨w.heap.size,0,none⟩ _ D (by show D≠w.heap.size;omega)]
     exact HK.out) rfl
    rw[List.take_length]at row3;simp at R0 R1;exact⟨.tuple #[.slice A2 vs.length c2,.int .u8 0],by simp[results,results104,go_sem,R0,R1],.inr ⟨vs,A2,c2,Hall.out,rfl,zdX row3 (by omega),E⟩⟩
 case stop=>
  intro D cc W hD h hK;obtain rfl:=h.ret;have H:=zsz h;have HK:=zsz hK;clear h b0 b1 b2 b3 b4 b5 hit hwa
  gi_wp2
  have h:=H.out;refine⟨by simp,.inl ⟨_,_,rfl,run_takeDeferred HK.out,?_⟩⟩;have R0:=(h.r0.putObj (D:=D) (by omega) (.deferred none)).cell 0;have R1:=(h.r1.putObj (D:=D) (by omega) (.deferred none)).cell 0;have E:Ext w (W.putObj D (.deferred none)):=(zaN _ _ _).toExt h.ext (by omega);simp at R0 R1;exact⟨.tuple #[.slice none 0 0,.int .u8 12],by simp[results,results104,go_sem,R0,R1],.inl ⟨h.bad,rfl,E⟩⟩
end Go.Proofs.YtpicpebolghcfaaGreatDoor
