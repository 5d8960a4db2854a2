/- Contracts of layer 21 (update): (*change).at. -/
import Derived.Test.YtpicpebolghcfaaGreatDoorQlW101
import Derived.Test.YtpicpebolghcfaaGreatDoorQlW40
import Derived.Test.YtpicpebolghcfaaGreatDoorQlS66

set_option linter.unusedVariables false
set_option linter.unusedSimpArgs false
set_option maxRecDepth 100000
set_option maxHeartbeats 2000000
namespace Go.Proofs.YtpicpebolghcfaaGreatDoor
open Go.RowKit Go.Shelf Go.Proofs.Tryz
theorem uAt{S:List MsgV}{A EA:Option Addr}{n c en ec kc:Nat}{extra:List UInt8}{drop pp:Bool}(hR:zan (S.map MsgV.d)=true)(hen:en<=1000000):∀(way:List Int)(m:Nat)(g:zab)(bs:List UInt8)(put:Bool){B C:Option Addr}{nb cb kcc:Nat}{w:World},OnWay (S.map MsgV.d) m way g->zag w A n c S->m<n->
 BlkT w kc 155 #[.slice A n c,.bool drop,.slice EA en ec,.bool pp]->zac w EA en ec extra->zac w B nb cb bs->nb<=1000000->Reads w C way.length kcc 1 (way.map wyV)->way.length<=65->
 Calls prog 91 #[.pointer (some ⟨kc,0,none⟩),.int .i64 (m:Int),.slice B nb cb,.slice C way.length kcc,.bool put] w (zgb (setB (S.map MsgV.d) drop extra way m bs put) w)
 |[],m,g,bs,put,B,C,nb,cb,kcc,w,h,_,_,_,_,_,_,_,_=>absurd rfl h.ne
 |x::l,m,g,bs,put,B,C,nb,cb,kcc,w,h,hs,hm,hch,hex,hb,hnb,hw,hk=>by
  have ih:=fun m' bs' put' {B C:Option Addr}{nb cb kcc:Nat}{w:World} a b c1 d e f1 g1 h1 i1=>uAt (S:=S) (A:=A) (EA:=EA) (n:=n) (c:=c) (en:=en) (ec:=ec) (kc:=kc) (extra:=extra) (drop:=drop) (pp:=pp) hR hen l m' g bs' put' (B:=B) (C:=C) (nb:=nb) (cb:=cb) (kcc:=kcc) (w:=w) a b c1 d e f1 g1 h1 i1
  have hSl:=hs.length;obtain⟨f,hf,hnext⟩:=h.head;refine uAtS hR hs hm hf hch hex hen hb hnb rfl hk hw (fun hl W B2 C2 n2 c2 k2 b2 p2 hX hb2 hn2 hw2=> ?_);rcases hnext with⟨h1,_⟩|⟨_,h17,hrep,t⟩
  . exact absurd h1 hl
  . obtain⟨M,hM⟩:∃M,(S.map MsgV.d)[m]?=some M:=⟨_,List.getElem?_eq_getElem (by rw[List.length_map];omega)⟩
    obtain⟨j,hj,_⟩:=zbY hM hf;obtain⟨o,ho,ho2⟩:=zbV hR hM hj h17;rw[List.length_map,hSl]at ho2;rw[ho,Int.toNat_natCast]at t⊢;exact ih o b2 p2 t (hs.up hX) ho2 (hch.up hX) (hex.up hX) hb2 hn2 (by simpa using hw2) (by simp at hk;omega)
def fitsU(S:List MsgD)(f:zab)(v:List UInt8)(d:Int)(k:Nat):Nat:=
 if d+1<(k:Int)then 8 else if(k:Int)<=d then codeL S f v (d - k)else if f.kind=17/\(f.rep=false\/0<v.length)then 8 else codeL S f v 0
variable{m:Nat}
theorem uFits{A V:Option Addr}{n c k:Nat}{S:List MsgV}{f:zab}{d:Int}{q:Nat}{vs:List UInt8}{w:World}(hs:zag w A n c S)(hv:zac w V m k vs)(hm:m<=1000000000)(hd:0<=d/\d<=64)(hq:q<=65):
 Calls prog 89 #[.slice A n c,zaq f,.slice V m k,.int .i64 d,.int .i64 (q:Int)] w fun e w'=>e=.returned (.int .u8 (fitsU (S.map MsgV.d) f vs d q:Nat))/\Ext w w':=by
 have hvl:=hv.length;have hc:=fun(W:World)(x:Int)(h:Ext w W)=>zpf (f:=f) (d:=x) (hs.up h) (hv.up h) hm
 have Hs:=zsz hs;clear hs hv;by_cases h1:d+1<(q:Int)
 . have hF:fitsU (S.map MsgV.d) f vs d q=8:=by unfold fitsU;rw[if_pos h1]
   rw[hF];obtain⟨fname,fnum,fkind,frep,fpk,fof⟩:=f;unfold zaq;clear hF hc
   go_enter func89,ntmps89
   go_wp2_with fail
   go_ret
   exact⟨rfl,xx⟩
 . by_cases h2:(q:Int)<=d
   . have hF:fitsU (S.map MsgV.d) f vs d q=codeL (S.map MsgV.d) f vs (d - q):=by unfold fitsU;rw[if_neg h1,if_pos h2]
     rw[hF];have hc2:=fun W (h:Ext w W)=>hc W (d - q) h
     generalize codeL (S.map MsgV.d) f vs (d - q)=K at*;have Hc:=zsz hc2;obtain⟨fname,fnum,fkind,frep,fpk,fof⟩:=f;unfold zaq at*;have X0:Ext w (w.alloc (.cells #[.string fname,.int .i64 fnum,.int .i64 fkind,.bool frep,.bool fpk,.int .i64 fof] 43)):=(Ext.refl w).alloc _;have BF:=BlkT.new w 43 #[.string fname,.int .i64 fnum,.int .i64 fkind,.bool frep,.bool fpk,.int .i64 fof] rfl;clear hF hc hc2
     go_enter func89,ntmps89
     go_upto_region 1 with fail
     generalize w.alloc (.cells #[.string fname,.int .i64 fnum,.int .i64 fkind,.bool frep,.bool fpk,.int .i64 fof] 43)=wx at*;have c0:wx.cell? ⟨w.heap.size,0,none⟩=some (.string fname):=BF.cell 0;have c1:wx.cell? ⟨w.heap.size,1,none⟩=some (.int .i64 fnum):=BF.cell 1;have c2:wx.cell? ⟨w.heap.size,2,none⟩=some (.int .i64 fkind):=BF.cell 2;have c3:wx.cell? ⟨w.heap.size,3,none⟩=some (.bool frep):=BF.cell 3;have c4:wx.cell? ⟨w.heap.size,4,none⟩=some (.bool fpk):=BF.cell 4;have c5:wx.cell? ⟨w.heap.size,5,none⟩=some (.int .i64 fof):=BF.cell 5;have cl:=BF.lt
     go_wp2_with (go_at_call 113;refine(Hc.out _ X0).mono ?_;rintro e w1 ⟨rfl,E1⟩)
     go_ret
     exact⟨rfl,X0.trans E1⟩
   . by_cases h3:f.kind=17/\(f.rep=false\/0<vs.length)
     . have hF:fitsU (S.map MsgV.d) f vs d q=8:=by unfold fitsU;rw[if_neg h1,if_neg h2,if_pos h3]
       rw[hF];obtain⟨fname,fnum,fkind,frep,fpk,fof⟩:=f;unfold zaq at*;obtain⟨h17,h4⟩:=h3;simp only at h17 h4;subst h17;have X0:Ext w (w.alloc (.cells #[.string fname,.int .i64 fnum,.int .i64 17,.bool frep,.bool fpk,.int .i64 fof] 43)):=(Ext.refl w).alloc _;have BF:=BlkT.new w 43 #[.string fname,.int .i64 fnum,.int .i64 17,.bool frep,.bool fpk,.int .i64 fof] rfl;clear hF hc
       go_enter func89,ntmps89
       go_upto_region 1 with fail
       generalize w.alloc (.cells #[.string fname,.int .i64 fnum,.int .i64 17,.bool frep,.bool fpk,.int .i64 fof] 43)=wx at*;have c2:wx.cell? ⟨w.heap.size,2,none⟩=some (.int .i64 17):=BF.cell 2;have c3:wx.cell? ⟨w.heap.size,3,none⟩=some (.bool frep):=BF.cell 3;have cl:=BF.lt;rcases frep with _|_
       . go_wp2
         go_ret
         exact⟨rfl,X0⟩
       . have h5:(0:Int)<m:=by
          rcases h4 with h4|h4
          . cases h4
          . omega
         clear h4
         go_wp2
         go_ret
         exact⟨rfl,X0⟩
     . have hF:fitsU (S.map MsgV.d) f vs d q=codeL (S.map MsgV.d) f vs 0:=by unfold fitsU;rw[if_neg h1,if_neg h2,if_neg h3]
       rw[hF];have hc2:=fun W (h:Ext w W)=>hc W 0 h
       generalize codeL (S.map MsgV.d) f vs 0=K at*;have Hc:=zsz hc2;obtain⟨fname,fnum,fkind,frep,fpk,fof⟩:=f;unfold zaq at*;simp only at h3;have X0:Ext w (w.alloc (.cells #[.string fname,.int .i64 fnum,.int .i64 fkind,.bool frep,.bool fpk,.int .i64 fof] 43)):=(Ext.refl w).alloc _;have BF:=BlkT.new w 43 #[.string fname,.int .i64 fnum,.int .i64 fkind,.bool frep,.bool fpk,.int .i64 fof] rfl;have H3:=zsz h3;clear hF hc hc2 h3
       go_enter func89,ntmps89
       go_upto_region 1 with fail
       generalize w.alloc (.cells #[.string fname,.int .i64 fnum,.int .i64 fkind,.bool frep,.bool fpk,.int .i64 fof] 43)=wx at*;have c0:wx.cell? ⟨w.heap.size,0,none⟩=some (.string fname):=BF.cell 0;have c1:wx.cell? ⟨w.heap.size,1,none⟩=some (.int .i64 fnum):=BF.cell 1;have c2:wx.cell? ⟨w.heap.size,2,none⟩=some (.int .i64 fkind):=BF.cell 2;have c3:wx.cell? ⟨w.heap.size,3,none⟩=some (.bool frep):=BF.cell 3;have c4:wx.cell? ⟨w.heap.size,4,none⟩=some (.bool fpk):=BF.cell 4;have c5:wx.cell? ⟨w.heap.size,5,none⟩=some (.int .i64 fof):=BF.cell 5;have cl:=BF.lt;by_cases h17:fkind=17
       . have h6:(fkind==17)=true:=by rw[beq_iff_eq];exact h17
         rcases frep with _|_
         . exact absurd ⟨h17,.inl rfl⟩ H3.out
         . have h5:¬(0:Int)<m:=by
            intro h;exact H3.out ⟨h17,.inr (by omega)⟩
           clear h17
           go_wp2_with (go_at_call 113;refine(Hc.out _ X0).mono ?_;rintro e w1 ⟨rfl,E1⟩)
           go_ret
           exact⟨rfl,X0.trans E1⟩
       . have h6:(fkind==17)=false:=by rw[beq_eq_false_iff_ne];exact h17
         go_wp2_with (go_at_call 113;refine(Hc.out _ X0).mono ?_;rintro e w1 ⟨rfl,E1⟩)
         go_ret
         exact⟨rfl,X0.trans E1⟩
section
variable {S:List MsgD} {g:zab} {ps:List (List UInt8)} {df:Nat}
theorem zje(g:zab):runL g=runP g:=rfl
def itsP(g:zab)(ps:List (List UInt8)):List (List UInt8):=if g.rep=true then ps else[loadP g ps]
theorem zez(hr:runP g=false)(hl:∀p∈ps,p.length<18446744073709551616):zaI g.rep (loadP g ps)=(itsP g ps).map fun p=>(p,0):=by
 unfold itsP;rcases hrep:g.rep with _|_
 . simp[zaI]
 . rw[zkB hr hrep,if_pos rfl]
   exact znh hl
theorem zmh(h:ps≠ []):lastP ps∈ps:=by
 unfold lastP;rw[List.getLast?_eq_some_getLast h,Option.getD_some];exact List.getLast_mem _
theorem zpS(h:∀p∈ps,FineP S g df p)(hne:ps≠ [])(hr:runP g=false):∀p∈itsP g ps,FineP S g df p:=by
 intro p hp;unfold itsP at hp;rcases hrep:g.rep with _|_
 . rw[hrep,if_neg (by simp),List.mem_singleton]at hp
   subst hp;by_cases h17:g.kind=17
   . rw[zeJ h17 hrep]
     refine⟨fun h15=>by omega,fun _=> ?_,fun hn=>by rw[h17]at hn;cases hn⟩;obtain⟨q,Q,hq⟩:=List.exists_cons_of_ne_nil hne;obtain⟨e,he,_⟩:=(h q (by rw[hq];exact List.mem_cons_self)).2.1 h17;refine⟨e,he,zcS (fun c hc=> ?_)⟩;obtain⟨e',he',hv⟩:=(h c hc).2.1 h17;have:e'=e:=by omega
     rw[<-this];exact hv
   . rw[zcJ h17 hrep]
     exact h _ (zmh hne)
 . rw[hrep,if_pos rfl]at hp
   exact h p hp
theorem zrL{dd:Int}(hR:zan S=true){m i:Nat}{M:MsgD}(hM:S[m]?=some M)(hf:M.fields[i]?=some g)(h:∀p∈ps,FineP S g df p)(hne:ps≠ [])(hc:zaf g.kind=true->codeV g.kind ps.flatten=0)(hl:∀p∈ps,p.length<18446744073709551616)(hd:0<=dd/\dd<=64)(he:g.kind=17->dd.toNat+1=df):
 codeL S g (loadP g ps) dd=0:=by
 obtain⟨_,n1,n2,hkb⟩:=zbl hR hM hf;have hof:=fun h17=>zbV hR hM hf h17
 have ha:argsL S g dd=0:=zgi hR (by
  unfold badL;rintro(h1|h1|h1|h1|h1|⟨h17,h1⟩)
  . omega
  . omega
  . rw[hkb]at h1
    cases h1
  . omega
  . omega
  . obtain⟨o,ho,ho2⟩:=hof h17
    omega)
 rcases hr:runP g with _|_
 . rw[zdi ha hr,zez hr hl]
   refine zgj (fun x hx=> ?_);obtain⟨p,hp,rfl⟩:=List.mem_map.1 hx;refine⟨rfl,?_⟩;obtain⟨f1,f2,f3⟩:=zpS h hne hr p hp;unfold oneL;simp only;by_cases hn:zaf g.kind=true
   . have hrep:g.rep=false:=by
      unfold runP at hr;rw[hn,Bool.and_true]at hr;exact hr
     rw[if_pos hn,zhV hn,if_pos (zov hn (f3 hn hrep).1)]
   . rw[if_neg hn]
     by_cases h15:g.kind=15
     . rw[if_pos h15,if_pos (f1 h15)]
     . rw[if_neg h15]
       by_cases h17:g.kind=17
       . rw[if_pos h17]
         obtain⟨e,e1,e2⟩:=f2 h17;obtain⟨o,ho,ho2⟩:=hof h17;have hee:e=dd.toNat:=by have:=he h17;omega
         unfold zaM
         have hav:argsV S g.of_ dd=0:=by
          unfold argsV;rw[if_neg (by rw[hR];simp),if_neg];rintro(h1|h1|h1|h1)<;>omega
         rw[if_pos hav,<-hee];exact e2
       . rw[if_neg h17]
 . rw[zfF ha hr,zeI hr]
   refine hc ?_;unfold runP at hr;rw[Bool.and_eq_true]at hr;exact hr.2
theorem znj(h:∀p∈ps,FineP S g df p)(hne:ps≠ [])(hl:∀p∈ps,p.length<18446744073709551616)(sub:Nat->List UInt8->MsgT):zaX sub g (wordsL g (loadP g ps)) (zaT g (loadP g ps))=zbr sub g ps:=by
 by_cases hn:zaf g.kind=true
 . have h17:=zbC hn
   have hp:zaT g (loadP g ps)=[]:=by unfold zaT;rw[if_pos hn]
   have hpp:zaJ g []=[]:=by
    unfold zaJ lastO;rw[if_neg h17];split<;>simp
   rw[hp];rcases hr:runP g with _|_
   . have hrep:g.rep=false:=by
      unfold runP at hr;rw[hn,Bool.and_true]at hr;exact hr
     have hw:wordsL g (loadP g ps)=[(readS g.kind (lastP ps)).1]:=by
      unfold wordsL;rw[if_neg (by rw[zje,hr];simp),if_pos hn,zez hr hl];unfold itsP;rw[hrep,if_neg (by simp),zcJ h17 hrep];rfl
     obtain⟨s1,s2⟩:=(h _ (zmh hne)).2.2 hn hrep;have hwd:=zgY hn s1 s2;rw[hw];unfold zaX zbr zaG;rw[hpp,zcJ h17 hrep,hwd,if_neg (by rw[hrep];simp)];simp[hn,h17,lastO]
   . have hrep:g.rep=true:=by
      unfold runP at hr;rw[Bool.and_eq_true]at hr;exact hr.1
     have hw:wordsL g (loadP g ps)=(zaD g.kind (loadP g ps)).1:=by unfold wordsL;rw[if_pos (by rw[zje,hr])]
     rw[hw];unfold zaX zbr zaG;rw[hpp];simp[hn,h17,hrep]
 . have hn2:zaf g.kind=false:=by simpa using hn
   have hr:runP g=false:=by unfold runP;rw[hn2];simp
   have hw:wordsL g (loadP g ps)=[]:=by
    unfold wordsL;rw[if_neg (by rw[zje,hr];simp),if_neg hn]
   have hp:zaT g (loadP g ps)=itsP g ps:=by
    unfold zaT;rw[if_neg hn,zez hr hl,List.map_map,show((fun x:List UInt8×Nat=>x.1)∘fun p=>(p,0))=id from rfl,List.map_id]
   have hpw:zaG g []=[]:=by
    unfold zaG lastO;split<;>simp
   have hpp:zaJ g (itsP g ps)=zcf g ps:=by
    unfold zaJ itsP zcf;by_cases hrep:g.rep=true
    . rw[if_pos hrep,if_pos hrep]
    . rw[if_neg hrep,if_neg hrep]
      by_cases h17:g.kind=17
      . rw[if_pos h17]
        simp
      . rw[if_neg h17]
        simp[lastO]
   rw[hw,hp];unfold zaX zbr;rw[hpw,hpp];by_cases h17:g.kind=17
   . rw[h17]at hn2
     simp[hn2,h17]
   . simp[hn2,h17]
theorem zow{m i:Nat}{M:MsgD}(hM:S[m]?=some M)(hf:M.fields[i]?=some g)(h17:g.kind≠17){c:List UInt8}{ws:List Nat}{qs:List (List UInt8)}(hch:Chunk M.fields i g c ws qs){d1:Nat}(hv:(zai S d1 m c).2=0)(d2:Nat):(zai S d2 m c).2=0:=by
 rw[zaQ,zaA hM]at hv⊢;refine⟨hv.1,fun v hvm=> ?_⟩;have h1:=hv.2 v hvm
 have hfi:v.field=(i:Int):=by
  rcases zoZ hvm with h2|⟨k,f,h2,_,_⟩
  . have h3:=hch.unk
    rw[List.filter_eq_nil_iff]at h3;exact absurd (by simp[h2]) (h3 v hvm)
  . by_cases hk:k=i
    . rw[h2,hk]
    . have h3:=hch.other k hk
      unfold zah at h3;rw[List.filter_eq_nil_iff]at h3;exact absurd (by simp[h2]) (h3 v hvm)
 rcases hr:v.run with _|_
 . by_cases h15:g.kind=15
   . rw[(zcZ _ none hfi hf hr h15).1]at h1⊢
     exact h1
   . rw[(zcE _ none hfi hf hr h15 h17).1]
 . rw[(zdB _ none hfi hf hr).1]at h1⊢
   exact h1
end
variable{bs:List UInt8}{d:Nat}{g:zab}{way:List Int}{S:List MsgD}
theorem zox(hR:zan S=true)(h:OnWay S m way g)(hd:d<=64)(hv:(zai S d m bs).2=0)(hm:m<S.length)(hbl:bs.length<=100000)(ht:zbk g (zao S m bs way)=true):
 codeL S g (loadP g (zao S m bs way)) (max ((d:Int) - way.length) 0)=0/\fitsU S g (loadP g (zao S m bs way)) d way.length=0/\(∀sub,zaX sub g (wordsL g (loadP g (zao S m bs way))) (zaT g (loadP g (zao S m bs way)))=zbr sub g (zao S m bs way))/\
  ∃df,d=df+(way.length - 1)/\((loadP g (zao S m bs way)).length<=100000->∀(mf i_f:Nat)(Mf:MsgD),S[mf]?=some Mf->Mf.fields[i_f]?=some g->∀c∈zaW g (loadP g (zao S m bs way)),(zai S df mf c).2=0):=by
 obtain⟨_,_,_,_,hcode⟩:=at_of hR h bs bs.length d hm (Nat.le_refl _) hv;have hle:=zbZ S way m bs;have hwl:0<way.length:=List.length_pos_iff.2 h.ne;obtain⟨mf,i_f,Mf,hM,hf⟩:=h.mem;have hpf:=zni hR h d bs hv;generalize zao S m bs way=ps at*;have hne:ps≠ []:=fun e=>by rw[e,zfs]at ht;cases ht
 have hpl:∀p∈ps,p.length<18446744073709551616:=fun p hp=>by
  have:=zcx hp;omega
 obtain⟨df,hdf,hfine⟩:=hpf hne
 have he:g.kind=17->(max ((d:Int) - way.length) 0).toNat+1=df:=fun h17=>by
  obtain⟨q,Q,hq⟩:=List.exists_cons_of_ne_nil hne;obtain⟨e,e1,_⟩:=(hfine q (by rw[hq];exact List.mem_cons_self)).2.1 h17;omega
 have hc0:=zrL (dd:=max ((d:Int) - way.length) 0) hR hM hf hfine hne hcode hpl (by omega) he;refine⟨hc0,?_,znj hfine hne hpl,df,hdf,fun hvl mf i_f Mf hM hf c hc=> ?_⟩
 . unfold fitsU
   rw[if_neg (by omega)];by_cases hk:(way.length:Int)<=d
   . rw[if_pos hk]
     rw[show max ((d:Int) - way.length) 0=(d:Int) - way.length by omega]at hc0;exact hc0
   . rw[if_neg hk,if_neg]
     . rw[show max ((d:Int) - way.length) 0=0 by omega]at hc0
       exact hc0
     . rintro⟨h17,_⟩
       have:=he h17;omega
 . obtain⟨c1,_,_,c4⟩:=zeY hR hM hf hc0 hvl
   have hcv:=c4 c hc;by_cases h17:g.kind=17
   . rw[he h17]at hcv
     exact hcv
   . obtain⟨_,_,hch⟩:=c1 c hc
     exact zow hM hf h17 hch hcv df
theorem zmi(S:List MsgD)(drop:Bool)(extra:List UInt8)(he:extra.length<=1000000):∀(way:List Int)(m:Nat)(bs:List UInt8)(put:Bool),way.length<=65->bs.length<=1000000->
 (setB S drop extra way m bs put).length<=11*bs.length+(if put=true then extra.length+20*way.length else 0)
 |[],m,bs,put,_,_=>by simp[setB]
 |x::l,m,bs,put,hw,hb=>by
  have ih:=fun(b:List UInt8)(p:Bool)(h:b.length<=1000000)=>zmi S drop extra he l (ofU S m x) b p (by simp at hw;omega) h
  have hw2:l.length<=64:=by simp at hw;omega
  unfold setB;have hs:=zil (zar S m) bs;have hbd:=fun v hv=>zbO (fs:=zar S m) (bs:=bs) (v:=v) hv
  have hea:=fun v hv=>(zbI (zar S m) bs v hv).1
  generalize (zae (zar S m) bs).1=L at*;generalize hz:lastU L x L.length=z at*;obtain⟨E0,hE0⟩:∃E0,E0=extra.length+20*l.length:=⟨_,rfl⟩
  obtain⟨E,hE⟩:∃E,E=if put=true/\0<=z/\l≠ []then E0 else 0:=⟨_,rfl⟩
  have hfr:=zmd (c:=11) (E:=E) (B:=bs.length) (z:=z) (g:=zdb (fun b p=>setB S drop extra l (ofU S m x) b p) x (decide (l=[])) drop put bs z) hs (fun i v hv=>by
   have hb1:=hbd v (List.mem_of_getElem? hv);have hwl:=zax bs (a:=v.r.f) (t:=v.r.t) (by omega);have hvl:=zax bs (a:=v.r.a) (t:=v.r.t) (by omega);unfold zdb;split
   . rw[hwl]
     omega
   . split
     . simp
     . rename_i _ hl
       have hl':l≠ []:=fun e=>hl (by simp[e])
       obtain⟨N,ht,hN⟩:=zmb (hea v (List.mem_of_getElem? hv));rw[ht];simp only;have hvl2:(zak bs v).length=v.r.t - v.r.a:=hvl;have hr:=ih (zak bs v) (put&&decide ((i:Int)=z)) (by omega)
       have hlen:(setB S drop extra l (ofU S m x) (zak bs v) (put&&decide ((i:Int)=z))).length<18446744073709551616:=by
        split at hr<;>omega
       have hu:=zdL _ hlen;unfold zda;rw[List.length_append,List.length_append,List.length_take]
       have hE2:(if(put&&decide ((i:Int)=z))=true then extra.length+20*l.length else 0)=if(i:Int)=z then E else 0:=by
        rw[hE,<-hE0];by_cases hiz:(i:Int)=z
        . have hz0:(0:Int)<=z:=by omega
          cases put<;>simp[hiz,hz0,hl']
        . simp[hiz]
       rw[hE2]at hr;have hmin:min N (spanB bs v.r.f v.r.t).length<=N:=Nat.min_le_left _ _
       omega) L.length (Nat.le_refl _)
  rw[List.length_append]
  have htail:(if put=false then[]else if l=[]then extra else if z<0 then lenB x (setB S drop extra l (ofU S m x) [] true)else[]).length+E<=(if put=true then extra.length+20*(x::l).length else 0):=by
   cases put with
   |false=>simp at hE⊢;exact hE
   |true=>
    simp only[Bool.true_eq_false,if_false,if_true,List.length_cons];by_cases hl:l=[]
    . rw[if_pos hl]
      have:E=0:=by rw[hE];simp[hl]
      omega
    . rw[if_neg hl]
      by_cases hz0:z<0
      . rw[if_pos hz0]
        have hE1:E=0:=by
         rw[hE,if_neg];rintro⟨_,h,_⟩;omega
        have hr:=ih [] true (by simp);simp only[List.length_nil,Nat.mul_zero,Nat.zero_add,if_true]at hr;have:=zos x (setB S drop extra l (ofU S m x) [] true) (by omega);omega
      . rw[if_neg hz0]
        have hE1:E=E0:=by
         rw[hE,if_pos ⟨rfl,by omega,hl⟩]
        simp only[List.length_nil];omega
  omega
theorem zmj{n w:Int}:∀(l:List (List UInt8)),zaw n w=true->(∀p∈l,p.length<=100000)->((l.map fun p=>putB n w p).flatten).length<=l.flatten.length+15*l.length
 |[],_,_=>by simp
 |p::l,h,hl=>by
  have ih:=zmj l h (fun y hy=>hl y (List.mem_cons_of_mem _ hy));have:=zcv h (v:=p) (by have:=hl p List.mem_cons_self;omega);rw[List.map_cons,List.flatten_cons,List.length_append,List.flatten_cons,List.length_append,List.length_cons];omega
theorem zlb(hR:zan S=true){i:Nat}{M:MsgD}(hM:S[m]?=some M)(hf:M.fields[i]?=some g){ps:List (List UInt8)}{B:Nat}(h1:ps.flatten.length<=B)(h2:ps.length<=B)(hB:B<=100000):(zal g (loadP g ps)).length<=16*B+15:=by
 have hr2:=zfv hR hM hf;have hw:=zbl hR hM hf;have hpl:∀p∈ps,p.length<=100000:=fun p hp=>by have:=zcx hp;omega
 unfold zal zaW;rcases hr:runL g with _|_
 . have hrp:runP g=false:=hr
   rw[if_neg (by simp),zez hrp (fun p hp=>by have:=hpl p hp;omega),List.map_map]
   have hits:(itsP g ps).flatten.length<=B/\(itsP g ps).length<=B+1/\∀p∈itsP g ps,p.length<=100000:=by
    unfold itsP;rcases hrep:g.rep with _|_
    . rw[if_neg (by simp)]
      have hll:(loadP g ps).length<=B:=by
       by_cases h17:g.kind=17
       . rw[zeJ h17 hrep]
         exact h1
       . rw[zcJ h17 hrep]
         unfold lastP;rcases hq:ps.getLast? with _|b
         . simp
         . have:=zcx (List.mem_of_getLast? hq)
           simp only[Option.getD_some];omega
      refine⟨by simpa using hll,by simp,fun p hp=> ?_⟩;rw[List.mem_singleton]at hp;subst hp;omega
    . rw[if_pos rfl]
      exact⟨h1,by omega,hpl⟩
   have hrw:zaw g.number (wireI g.kind)=true:=by
    obtain⟨⟨T,hT⟩,n1,n2,hkb⟩:=hw;rcases hn:zaf g.kind with _|_
    . rw[zfQ hkb hn]
      exact hr2
    . obtain⟨V,hV,hV2,_⟩:=zgX hn (w:=0) (by decide)
      rw[hT,hV];exact zcC (by omega) (by omega) hV2
   have:=zmj (n:=g.number) (w:=wireI g.kind) (itsP g ps) hrw hits.2.2;have he:((fun x:List UInt8×Nat=>putB g.number (wireI g.kind) x.1)∘fun p=>(p,0))=fun p=>putB g.number (wireI g.kind) p:=rfl
   rw[he];omega
 . have hrp:runP g=true:=hr
   rw[if_pos rfl,zeI hrp];split
   . simp
   . have:=zcv hr2 (v:=ps.flatten) (by omega)
     simp only[List.flatten_cons,List.flatten_nil,List.append_nil];omega
theorem zrM(hR:zan S=true)(h:OnWay S m way g)(hd:d<=64)(hv:(zai S d m bs).2=0)(hm:m<S.length)(hbl:bs.length<=1500)(hw:way.length<=65)(ht:zbk g (zao S m bs way)=true):
 (loadP g (zao S m bs way)).length<=16500/\(setB S true (zal g (loadP g (zao S m bs way))) way m bs true).length<=50000/\
  ∀D,50000<=D->ofV S D m (setB S true (zal g (loadP g (zao S m bs way))) way m bs true)=ofV S D m bs:=by
 obtain⟨l1,l2,l3,df,l4,l5⟩:=zox hR h hd hv hm (by omega) ht;have hle:=zbZ S way m bs;obtain⟨mf,i_f,Mf,hM,hf⟩:=h.mem;have hld:=zpL (f:=g) (ps:=zao S m bs way) (M:=1500) (by omega) (by omega) (by omega);have hrl:=zlb hR hM hf (ps:=zao S m bs way) (B:=1500) (by omega) (by omega) (by omega);have hsl:=zmi S true (zal g (loadP g (zao S m bs way))) (by omega) way m bs true hw (by omega);simp only[if_true]at hsl;refine⟨by omega,by omega,fun D hD=> ?_⟩
 have:=zpR hR l1 (by omega) (by omega) (l5 (by omega)) h d l4 hw [bs] (by simp) (fun q hq=>by
  rw[List.mem_singleton]at hq;subst hq
  exact⟨hv,by omega⟩) (by simpa using ht) (fun sub=>by simpa using l3 sub) D
 simp only[setsP,List.flatten_cons,List.flatten_nil,List.append_nil,decide_true,Bool.and_true]at this;exact this (by omega) (by omega)
end Go.Proofs.YtpicpebolghcfaaGreatDoor
