/- Contracts of layer 14: what bytes mean, as the reference has it. -/
import Derived.Test.YtpicpebolghcfaaGreatDoorQlW7f

set_option linter.unusedVariables false
set_option maxRecDepth 100000
set_option maxHeartbeats 4000000
namespace Go.Proofs.YtpicpebolghcfaaGreatDoor
open Go.RowKit Go.Shelf Tryz
def OfR(S:List MsgV)(d:Nat)(sub:Nat->List UInt8->MsgT):Prop:=∀(w:World)(SA:Option Addr)(sn sc m:Nat)(A:Option Addr)(n c:Nat)(bs:List UInt8),zag w SA sn sc S->m<S.length->zac w A n c bs->n<d->
 Calls prog 11 #[.slice SA sn sc,.int .i64 (m:Int),.slice A n c] w fun e w'=>∃y,e=.returned (treeV y)/\bare y=sub m bs/\zay w' y/\(∀b,UsesT y b->w.heap.size<=b)/\Ext w w'
theorem rMany{u:ValR}{w:World}(hw:u.words.length<=1000000000)(ht:u.texts.length<=1000000000)(hs:u.subs.length<=1000000000):
 Calls prog 40 #[tvalV u] w fun e w'=>e=.returned (.int .i64 (manyU u:Nat))/\Ext w w':=by
 unfold tvalV manyU
 go_enter func40,ntmps40
 go_wp2
 go_ret
 exact⟨by congr 2,xx⟩
structure ROut(w w6 wr:World)(bx:Nat)(U:Option Addr)(un uc:Nat)(V:Option Addr)(vn vc:Nat)(ys:List ValR):Prop where
 x:BlkT wr bx 40 #[.slice V vn vc,.slice U un uc]
 own:Own w wr 48 4 V vn vc (ys.flatMap tvalC)
 vnL:vn=ys.length
 vnew:∀b,(Value.slice V 0 0).ownBlock=some b->w6.heap.size<=b
 stays:Stays (fun b=>b≠bx) w6 wr
 at_:∀y∈ys,ValAt wr y
 away:∀y∈ys,∀b,UsesV y b->w6.heap.size<=b/\(Value.slice V 0 0).ownBlock≠some b
section
variable {w w6 wr wz:World} {bx:Nat} {U:Option Addr} {un uc:Nat} {V:Option Addr} {vn vc:Nat} {ys:List ValR}
theorem ROut.up(h:ROut w w6 wr bx U un uc V vn vc ys)(k:Ext wr wz):ROut w w6 wz bx U un uc V vn vc ys:=
 ⟨h.x.up k,h.own.up k,h.vnL,h.vnew,h.stays.trans (Stays.of_ext k),fun y hy=>(h.at_ y hy).up k,h.away⟩
theorem ROut.put(h:ROut w w6 wr bx U un uc V vn vc ys)(hb:w.heap.size<=bx)(h6:bx<w6.heap.size){u:ValR}(E:Ext wr wz)(hu:ValAt wz u)(ha:∀b,UsesV u b->wr.heap.size<=b){ob:Obj}{V7:Option Addr}{c7:Nat}{w7:World}(own7:Own w w7 48 4 V7 (vn+1) c7 (ys.flatMap tvalC++tvalC u))(g7:(wz.alloc ob).grownBy w7 (Value.slice V vn vc).ownBlock)(m7:Moved (wz.alloc ob) V V7):
 ROut w w6 (w7.setCell ⟨bx,0,none⟩ (.slice V7 (vn+1) c7)) bx U un uc V7 (vn+1) c7 (ys++[u]):=by
 have X0:Ext wr (wz.alloc ob):=E.alloc ob;have hxu:=h.own.up X0;have hB:=(h.x.up X0).beside hxu (by decide) g7;have hlt:=h.stays.size;have hsz:wz.heap.size<(wz.alloc ob).heap.size:=by simp
 have hsz2:=E.size
 have hS0:Stays (fun b=>(Value.slice V 0 0).ownBlock≠some b/\b≠bx) (wz.alloc ob) (w7.setCell ⟨bx,0,none⟩ (.slice V7 (vn+1) c7)):=
  (Stays.grown g7 (fun b hb q=>q.1 (by rw[zaV V vn vc 0 0]at hb;exact hb))).set (fun q=>q.2 rfl) _
 have hS:=(Stays.of_ext X0).trans hS0;have hfar:=own7.far hB (by decide) hb 0 (.slice V7 (vn+1) c7)
 have hnr:∀b,b<wz.heap.size->(Value.slice V 0 0).ownBlock≠some b->(Value.slice V7 0 0).ownBlock≠some b:=by
  intro b hb h0;rcases m7 with q|q
  . rw[q];exact h0
  . rw[q]
    intro r;injection r with r;omega
 have hall:∀y∈ys++[u],ValAt wz y/\∀b,UsesV y b->w6.heap.size<=b/\(Value.slice V 0 0).ownBlock≠some b:=by
  intro y hy;rcases List.mem_append.1 hy with hy|hy
  . exact⟨(h.at_ y hy).up E,h.away y hy⟩
  . rw[List.mem_singleton]at hy
    subst hy;refine⟨hu,fun b hb=> ?_⟩;have:=ha b hb;refine⟨by omega,fun q=> ?_⟩;have:=(h.own.new_lt q).2;omega
 refine⟨hB.set_ 0 _,?_,?_,fun b hb=> ?_,?_,fun y hy=>((hall y hy).1.up ((Ext.refl wz).alloc ob)).stays hS0 (fun b hb=> ?_),fun y hy b hb=> ?_⟩
 . rw[List.flatMap_append]
   simpa using hfar
 . rw[List.length_append,<-h.vnL]
   rfl
 . rcases m7 with q|q
   . rw[q]at hb
     exact h.vnew b hb
   . rw[q]at hb
     injection hb with hb;omega
 . refine⟨Nat.le_trans hlt hS.size,fun b hb hlt2=> ?_⟩
   rw[hS.block b ⟨fun q=> ?_,hb⟩ (by omega),h.stays.block b hb hlt2];have:=h.vnew b q;omega
 . have:=(hall y hy).2 b hb
   exact⟨this.2,by omega⟩
 . have:=(hall y hy).2 b hb
   exact⟨this.1,hnr b ((hall y hy).1.lt hb) this.2⟩
end
theorem zko{fs:List zab}{bs:List UInt8}{L:List ViewD}{P C:Nat}(hv:zae fs bs=(L,P,C))(k i:Nat)(f:zab)(sub:Nat->List UInt8->MsgT):
 (zaG f ((zah (L.take k) i).flatMap (zaz f bs))).length<=bs.length/\(zbt f ((zah (L.take k) i).flatMap (zaj f bs))).length<=bs.length+1/\(zcl f ((zah (L.take k) i).flatMap (zaj f bs))).length<=bs.length/\(zdW sub f ((zah (L.take k) i).flatMap (zaj f bs))).length<=bs.length:=by
 have hw:zbJ (zah (L.take k) i)<=bs.length:=by
  have h1:=zej fs bs;rw[hv]at h1;exact Nat.le_trans (zek _ i) (Nat.le_trans (zls L k) h1)
 have hb:∀v∈zah (L.take k) i,v.r.t<=bs.length:=fun v h=>by
  have hm:v∈(zae fs bs).1:=by rw[hv];exact List.mem_of_mem_take (List.mem_filter.1 h).1
  exact(zbO hm).2.2
 have h1:=zmz f bs _ hb;have h2:=(zhI f bs _ hb).1;generalize (zah (L.take k) i).flatMap (zaz f bs)=ws at*;generalize (zah (L.take k) i).flatMap (zaj f bs)=ps at*;refine⟨?_,?_,?_,?_⟩
 . unfold zaG
   split
   . omega
   . unfold lastO
     rw[List.length_drop];omega
 . unfold zbt zaJ
   split
   . simp
   . rw[List.length_map]
     split
     . omega
     . have:=zki ps
       omega
 . unfold zcl
   split
   . omega
   . simp
 . unfold zdW
   split
   . rw[List.length_map]
     omega
   . simp
theorem rStep{S:List MsgV}{d:Nat}{sub:Nat->List UInt8->MsgT}(hR:zan (S.map MsgV.d)=true)(hd:d<=100000)(ih:OfR S d sub):OfR S (d+1) (ofM sub (S.map MsgV.d)):=by
 intro w SA sn sc m A n c bs hS hm hb hn;have hSl:=hS.length;have hbl:=hb.length;obtain⟨b1,off1,M,hSA,hM,hf,hnm,hb1,s0,s1⟩:=hS.msg (k:=m) (by omega);subst hSA;have hMd:(S.map MsgV.d)[m]?=some M.d:=by rw[List.getElem?_map,hM];rfl
 have hMr:=zbd hR hMd;have hfl:M.d.fields.length=M.n:=hf.length;rcases hv:zae M.d.fields bs with⟨L,P,C⟩
 have hLn:L.length<=bs.length:=by have:=(zdd M.d.fields bs).2.1;rw[hv]at this;exact this
 have hLv:∀v∈L,v∈(zae M.d.fields bs).1:=fun v h=>by rw[hv];exact h
 have hof:∀f∈M.d.fields,f.kind=17->∃m:Nat,f.of_=(m:Int)/\m<S.length:=fun f hfm hk=>by
  obtain⟨i,hi⟩:=List.getElem?_of_mem hfm;obtain⟨o,h1,h2⟩:=zbV hR hMd hi hk;exact⟨o,h1,by simpa using h2⟩
 have hva:=fun W (h1:zav W M.A M.n M.c M.d.fields)(h2:zac W A n c bs)=>zrS (s:=M.d.name) h1 (by omega) h2 (by omega) hv
 have hso:=fun W (h:zav W M.A M.n M.c M.d.fields)=>zqs (s:=M.d.name) h (show M.n<=1000000000000 by have:=hMr.2.2.1;omega)
 have Hof:=zsz hof;have Hva:=zsz hva;have Hso:=zsz hso;have Hf:=zsz hf;have HS:=zsz hS;have Hb:=zsz hb;have Ih:=zsz ih;have HLv:=zsz hLv;have Hv:=zsz hv;have HMr:=zsz hMr;have HMd:=zsz hMd;have hR0:=hR;clear hva hso ih hLv hv hMr hMd hM hR hof;have hsn:m<sn:=by omega
 have hsn1:sn<=1000000:=by have:=(ziw hR0).2.1;rw[List.length_map]at this;omega
 clear hR0
 go_enter func11,ntmps11
 go_wp2_with (first
  |(go_at_call 37;refine(Hva.out _ (Hf.out.up xx) (Hb.out.up xx)).mono ?_;rintro e w4 ⟨A1,c1,rfl,own1⟩;have E4:Ext w w4:=Ext.trans xx own1.ext;have s04:=E4.of_cell s0;have s14:=E4.of_cell s1;have hb14:=Nat.lt_of_lt_of_le hb1 E4.size)
  |(go_at_call 38;refine(Hso.out _ (Hf.out.up xy)).mono ?_;rintro e w6 ⟨A6,c6,rfl,own6⟩))
 have BX:=(BlkT.new w4 40 #[.slice none 0 0,.slice none 0 0] rfl).up own6.ext;have R6:=(((BlkT.new w 40 #[.slice none 0 0,.slice none 0 0] rfl).up own1.ext).alloc (.cells #[.slice none 0 0,.slice none 0 0] 40)).up own6.ext;have L6:=(own1.reads.ext ((Ext.refl w4).alloc (.cells #[.slice none 0 0,.slice none 0 0] 40))).ext own6.ext;have O6:=own6.reads;have E6:Ext w w6:=(E4.alloc _).trans own6.ext;have s41:w.heap.size+1<=w4.heap.size:=by have:=own1.ext.size;simpa using this
 have s64:w4.heap.size+1<=w6.heap.size:=by have:=own6.ext.size;simpa using this
 have hLu:∀b,UsesA A1 L.length b->b<w4.heap.size:=fun b hb=>own1.reads.uses_lt hb
 have hOu:∀b,UsesA A6 M.n b->w4.heap.size<b:=fun b hb=>by have:=own6.uses_new hb;simp at this;omega
 have hol:(sortK (keyF M.d.fields) M.n).length=M.n:=zgl _ _;have hom:∀i∈sortK (keyF M.d.fields) M.n,i<M.n:=fun i hi=>zdw.1 hi
 obtain⟨order,hord⟩:∃order,order=sortK (keyF M.d.fields) M.n:=⟨_,rfl⟩
 rw[<-hord]at O6 hol hom;have HO:=zsz (And.intro O6 hOu);have HL:=zsz (And.intro L6 hLu);have HR:=zsz R6;have Hord:=zsz hord;have Hol:=zsz hol;have Hom:=zsz hom;have start:ROut w w6 w6 w4.heap.size none 0 0 none 0 0 []:=⟨BX,Own.nil E6 _ _,rfl,(fun b h=>by cases h),Stays.refl _ _,(fun y h=>by cases h),(fun y h=>by cases h)⟩
 clear own6 own1 hLu hOu hol hom hord O6 L6 R6 BX;have hMn:M.n<=1000000:=by have:=HMr.out.2.2.1;omega
 generalize w4.heap.size=bx at*;clear E4 s04 s14 hb14 Hva Hso
 go_loopw [12,13,14,15,16,17,18,19,20,21,22] (fun i _ _ _ _ _ _ _ _ _ _ wr=>∃(j:Nat)(V:Option Addr)(vn vc:Nat)(ys:List ValR),j<=M.n/\i=.int .i64 (j:Int)/\ROut w w6 wr bx none 0 0 V vn vc ys/\Hid (ys.map bareV=(order.take j).filterMap (zbS sub M.d.fields bs L))) (fun i _ _ _ _ _ _ _ _ _ _ _=>M.n - (intOf i).toNat)
 case atStart=>exact⟨0,none,0,0,[],Nat.zero_le _,rfl,start,rfl⟩
 case round=>
  rename World=>wr
  obtain⟨j,V,vn,vc,ys,hj,rfl,ho,hD⟩:=hrel;by_cases hlt:j<M.n
  . have hltI:(j:Int)<M.n:=by omega
    obtain⟨i,hij⟩:∃i,order[j]?=some i:=⟨_,List.getElem?_eq_getElem (by rw[Hol.out];omega)⟩
    have him:=Hom.out i (List.mem_of_getElem? hij);have Ew:Ext w wr:=ho.own.ext;have hOr:=HO.out.1.stays ho.stays (fun b hb=>by have:=HO.out.2 b hb;omega);obtain⟨b9,off9,hA6,hb9,hc9⟩:=hOr.at_ (by omega);have e9:wr.cell? ⟨b9,off9+j,none⟩=some (.int .i64 (i:Int)):=hc9 j _ (by rw[List.getElem?_map,hij];rfl);subst hA6;have hLr:=HL.out.1.stays ho.stays (fun b hb=>by have:=HL.out.2 b hb;omega);have hfr:=Hf.out.up Ew;obtain⟨b8,off8,f,hA8,hff,hok8,hb8,g0,g1,g2,g3,g4,g5⟩:=hfr.field him;have s0r:=Ew.of_cell s0;have s1r:=Ew.of_cell s1;have hb1r:=Nat.lt_of_lt_of_le hb1 Ew.size;rw[hA8]at s1r;clear hA8;have iI:(i:Int)<M.n:=by omega
    have x0:wr.cell? ⟨bx,0,none⟩=some (.slice V vn vc):=ho.x.cell 0;have xf:=ho.x.free 0;have xl:=ho.x.lt
    have hvl:vn<=M.n:=by
     rw[ho.vnL];have h1:=congrArg List.length hD.out;rw[List.length_map]at h1;have h2:=List.length_filterMap_le (zbS sub M.d.fields bs L) (order.take j);rw[List.length_take]at h2;omega
    have Ho:=zsz ho;have Hij:=zsz hij;have HLr:=zsz hLr;have Hff:=zsz hff;clear ho hij hOr hc9 hLr hff hfr
    go_wp2
    refine calm (fun _ _ _ hd h=>⟨hd,h.2⟩) (reg7 hsn hlt him hsn1 hMn s1r e9 g0 g1 g2 g3 g4 g5 hb1r hb8 hb9 ?_);intro v45 v46 v47 v48 v49 v50 v51 v52 v53 v54 v55 wf Ef sf Bf;have He9:=zsz e9;clear g0 g1 g2 g3 g4 g5 e9 s0r s1r x0 xf xl;have n1:wf.cell? ⟨wr.heap.size,1,none⟩=some (.int .i64 f.number):=Bf.cell 1;have nl:=Bf.lt
    go_wp2
    have hst:=zem sub f
    have start2:RIn wr (wf.alloc (.cells #[.int .i64 f.number,.slice none 0 0,.slice none 0 0,.slice none 0 0] 48)) f (zaG f ((zah (L.take 0) i).flatMap (zaz f bs))) (zbt f ((zah (L.take 0) i).flatMap (zaj f bs))) (zcl f ((zah (L.take 0) i).flatMap (zaj f bs))) [] none 0 0 none 0 0 none 0 0 none 0 0:=by
     have h0:zah (L.take 0) i=[]:=rfl;rw[h0,List.flatMap_nil,List.flatMap_nil,hst.1,hst.2.1,hst.2.2.1];exact⟨Bf.alloc _,BlkT.new _ _ _ sf.symm,Own.nil (Ef.alloc _) _ _,rfl,(fun x h=>by cases h),Own.nil (Ef.alloc _) _ _,rfl,(fun x h=>by cases h),Own.nil (Ef.alloc _) _ _,rfl,(fun y h=>by cases h),(fun y h=>by cases h),Own.nil (Ef.alloc _) _ _,rfl⟩
    clear n1 nl Bf Ef sf;generalize wf.alloc (.cells #[.int .i64 f.number,.slice none 0 0,.slice none 0 0,.slice none 0 0] 48)=wi at*;clear wf
    go_loopw [15,16,17,18,19,20,21,22] (fun jo me ko _ _ _ _ _ wq=>∃(k:Nat)(met:Bool)(W:Option Addr)(wn wc:Nat)(T:Option Addr)(tn tc:Nat)(X:Option Addr)(xn xc:Nat)(J:Option Addr)(jn jc:Nat)(zs:List MsgR),k<=L.length/\ko=.int .i64 (k:Int)/\jo=.slice J jn jc/\me=.bool met/\Hid (met=true<->zah (L.take k) i≠ [])/\
     RIn wr wq f (zaG f ((zah (L.take k) i).flatMap (zaz f bs))) (zbt f ((zah (L.take k) i).flatMap (zaj f bs))) (zcl f ((zah (L.take k) i).flatMap (zaj f bs))) zs W wn wc T tn tc X xn xc J jn jc/\Hid (zs.map bare=zdW sub f ((zah (L.take k) i).flatMap (zaj f bs)))) (fun _ _ ko _ _ _ _ _ _=>L.length - (intOf ko).toNat)
    case atStart=>exact⟨0,false,none,0,0,none,0,0,none,0,0,none,0,0,[],Nat.zero_le _,rfl,rfl,rfl,⟨(fun h=>by cases h),fun h=>absurd rfl h⟩,start2,hst.2.2.2.symm⟩
    case round=>
     rename World=>wq
     obtain⟨k,met,W,wn,wc,T,tn,tc,X,xn,xc,J,jn,jc,zs,hk,rfl,rfl,rfl,hmet,hin,hzs⟩:=hrel;by_cases hkl:k<L.length
     . have hklI:(k:Int)<L.length:=by omega
       have Eq:Ext wr wq:=hin.words.ext;obtain⟨b5,off5,v,hA,hv,hb5,e0,e1,e2,e3,e4,e5,e6⟩:=HLr.out.view' hkl;subst hA;replace e3:=Eq.of_cell e3;replace e4:=Eq.of_cell e4;replace e5:=Eq.of_cell e5;replace e6:=Eq.of_cell e6;have hb5q:=Nat.lt_of_lt_of_le hb5 Eq.size;have e9:=Eq.of_cell He9.out;have hb9q:=Nat.lt_of_lt_of_le hb9 Eq.size;have hvm:=List.mem_of_getElem? hv;have hbd:=zbO (HLv.out v hvm);have Hin:=zsz hin;have Hv1:=zsz hv;have hwn:=hin.wordsL;have htn:=hin.textsL;have hjn:=hin.joinL;have hxn:=hin.subsL;clear hin hv e0 e1 e2;by_cases hvi:v.field=(i:Int)
       . rw[hvi]at e5
         have hway:=zbN (HLv.out v hvm) hvi Hff.out;have hV:zah (L.take (k+1)) i=zah (L.take k) i++[v]:=znz Hv1.out hvi;have hws:(zah (L.take (k+1)) i).flatMap (zaz f bs)=(zah (L.take k) i).flatMap (zaz f bs)++zaz f bs v:=by rw[hV,List.flatMap_append,List.flatMap_singleton]
         have hps:(zah (L.take (k+1)) i).flatMap (zaj f bs)=(zah (L.take k) i).flatMap (zaj f bs)++zaj f bs v:=by rw[hV,List.flatMap_append,List.flatMap_singleton]
         have HV:=zsz hV;obtain⟨hs1,hs2,hs3,hs4⟩:=zko Hv.out k i f sub;rw[<-hwn]at hs1;rw[<-htn]at hs2;rw[<-hjn]at hs3;rw[<-hzs.out,List.length_map,<-hxn]at hs4;have Hws:=zsz hws;have Hps:=zsz hps;clear hV hws hps hwn htn hjn hxn;have F2:wq.cell? ⟨wr.heap.size,2,none⟩=some (.int .i64 f.kind):=Hin.out.fld.cell 2;have F3:wq.cell? ⟨wr.heap.size,3,none⟩=some (.bool f.rep):=Hin.out.fld.cell 3;have F5:wq.cell? ⟨wr.heap.size,5,none⟩=some (.int .i64 f.of_):=Hin.out.fld.cell 5;have V1:wq.cell? ⟨wr.heap.size+1,1,none⟩=some (.slice W wn wc):=Hin.out.val.cell 1;have V2:wq.cell? ⟨wr.heap.size+1,2,none⟩=some (.slice T tn tc):=Hin.out.val.cell 2;have V3:wq.cell? ⟨wr.heap.size+1,3,none⟩=some (.slice X xn xc):=Hin.out.val.cell 3;have f1:=Hin.out.val.free 1;have f2:=Hin.out.val.free 2;have f3:=Hin.out.val.free 3;have vl:=Hin.out.val.lt;have fl:=Hin.out.fld.lt;obtain⟨A9,run9,hb9v⟩:=zcc Hb.out (l:=v.r.a) (m:=v.r.t) (by omega) (by omega);have hvb:∀W,Ext wr W->zac W A9 (v.r.t - v.r.a) (c - v.r.a) (zak bs v):=fun W h=>hb9v.up (Ew.trans h)
         have Hvb:=zsz hvb;clear hb9v hvb
         go_wp2
         go_quiet (fail)
         go_wp2
         go_quiet (fail)
         rcases hway with⟨hrun,hrep,hnum⟩|⟨hrun,hkb⟩
         .
          have hz0:zs=[]:=by
           have h:=hzs.out;rw[zds (.inl (zbC hnum))]at h;exact List.map_eq_nil_iff.1 h
          have hwo:zaz f bs v=(zaD f.kind (zak bs v)).1:=by unfold zaz;rw[if_pos hrun]
          have hpo:zaj f bs v=[]:=by unfold zaj;rw[if_pos hrun]
          rw[hrun]at e6;rw[hrep]at F3;have hW:=fun W (h:zac W A9 (v.r.t - v.r.a) (c - v.r.a) (zak bs v))=>zpE (k:=f.kind) h (by omega)
          have hsml:=zkn f.kind (zak bs v);have hl:=zfD f.kind (zak bs v);have hvl2:(zak bs v).length=v.r.t - v.r.a:=zax bs hbd.2.2;generalize zaD f.kind (zak bs v)=WS at*;obtain⟨l,CW⟩:=WS;simp only at hW hl hsml hwo;generalize hlm:l.length=lm at*;have HW:=zsz hW;have Hsml:=zsz hsml;have Hlm:=zsz hlm;have Hwo:=zsz hwo;have Hpo:=zsz hpo;clear hW hsml hlm hwo hpo
          go_wp2_with (first
           |(go_at_call 23;refine(HW.out _ (Hvb.out _ xy)).mono ?_;rintro e w1 ⟨A1',c1',rfl,own1⟩;have X1:Ext wq w1:=Ext.trans xx own1.ext;have hin1:=Hin.out.up X1;have V1':w1.cell? ⟨wr.heap.size+1,1,none⟩=some (.slice W wn wc):=hin1.val.cell 1)
           |(at_builtin;refine zaK elemU rfl (.tmp 115) (.tmp 116) rfl rfl hin1.words rfl own1.reads (zsy _) (by omega) (by unfold maxLen;omega) ?_;intro A4 c4 w4 own4 g4 m4;have B4:=hin1.val.beside hin1.words (by decide) g4;have z4:w4.cell? ⟨wr.heap.size+1,1,none⟩=some (.slice W wn wc):=B4.cell 1;have zf:=B4.free 1;have zl:=B4.lt))
          go_roundw
          case rel=>
           refine⟨k+1,true,A4,wn+lm,c4,T,tn,tc,X,xn,xc,J,jn,jc,zs,by omega,by go_num,rfl,rfl,⟨fun _=>by rw[HV.out];simp,fun _=>rfl⟩,?_,?_⟩
           . rw[Hws.out,Hps.out,Hwo.out,Hpo.out,zkl hrep,List.append_nil]
             exact Hin.out.more_words hz0 X1 Hlm.out Hsml.out own4 g4
           . rw[Hps.out,Hpo.out,List.append_nil]
             exact hzs
          case measure=>simp[intOf];omega
         . rcases hnum:zaf f.kind with _|_
           . rw[hrun]at e6
             have hN:=fun W=>zbz f.kind W
             rw[hnum]at hN;have hw0:(zah (L.take k) i).flatMap (zaz f bs)=[]:=zlu Hv.out Hff.out hnum
             have hwo:zaz f bs v=[]:=by
              unfold zaz;rw[hrun,hnum];rfl
             have hpo:zaj f bs v=[zak bs v]:=by
              unfold zaj;rw[hrun,hnum];rfl
             have HN:=zsz hN;have Hwo:=zsz hwo;have Hpo:=zsz hpo;have Hw0:=zsz hw0;have Hnum:=zsz hnum;have hvl2:(zak bs v).length=v.r.t - v.r.a:=zax bs hbd.2.2;clear hN hwo hpo hw0 hnum;by_cases h17:f.kind=17
             . rcases hrep:f.rep with _|_
               .
                have hz0:zs=[]:=by
                 have h:=hzs.out;rw[zds (.inr hrep)]at h;exact List.map_eq_nil_iff.1 h
                rw[hrep]at F3;rw[h17]at F2;have HN2:=HN;rw[h17]at HN2;have HRs:=zsz (fun n=>(Hin.out.up ((Ext.refl wq).drewN n)).reset hz0)
                go_wp2_with (first
                 |(go_at_call 14;refine(HN2.out _).mono ?_;rintro e w1 ⟨rfl,rfl⟩)
                 |(at_builtin;refine zaK elemB rfl (.tmp 158) (.tmp 159) rfl rfl (HRs.out _).join rfl (Hvb.out _ xy) (zdZ _) (by omega) (by unfold maxLen;omega) ?_;intro A4 c4 w4 own4 g4 m4))
                go_roundw
                case rel=>
                 refine⟨k+1,true,none,0,0,none,0,0,X,xn,xc,A4,jn+(v.r.t - v.r.a),c4,zs,by omega,by go_num,rfl,rfl,⟨fun _=>by rw[HV.out];simp,fun _=>rfl⟩,?_,?_⟩
                 . have hp0:zaG f ((zah (L.take k) i).flatMap (zaz f bs))=[]:=by
                    rw[Hw0.out];exact(zem sub f).1
                   rw[Hws.out,Hps.out,Hwo.out,Hpo.out,List.append_nil,zgh h17,znG h17 hrep,hp0];exact(HRs.out _).more_join hz0 hvl2 own4 g4
                 . rw[zds (.inr hrep),hz0]
                   rfl
                case measure=>simp[intOf];omega
               .
                obtain⟨o,ho1,ho2⟩:=Hof.out f (List.mem_of_getElem? Hff.out) h17
                have hcall:∀W,Ext wr W->Calls prog 11 #[.slice (some ⟨b1,off1,none⟩) sn sc,.int .i64 f.of_,.slice A9 (v.r.t - v.r.a) (c - v.r.a)] W fun e w'=>∃y,e=.returned (treeV y)/\bare y=sub f.of_.toNat (zak bs v)/\zay w' y/\(∀b,UsesT y b->W.heap.size<=b)/\Ext W w':=fun W h=>by
                 have hc:=Ih.out W _ sn sc o _ _ _ _ (HS.out.up (Ew.trans h)) ho2 (Hvb.out _ h) (by omega);rw[ho1];exact hc
                unfold treeV at hcall;have Hcall:=zsz hcall;rw[hrep]at F3;rw[h17]at F2;have HN2:=HN;rw[h17]at HN2;clear hcall ho1
                go_wp2_with (go_at_call 14;refine(HN2.out _).mono ?_;rintro e w1 ⟨rfl,rfl⟩)
                refine calm (fun _ _ _ hd h=>⟨hd,h.2⟩) (reg27 (M0:=sub f.of_.toNat (zak bs v)) (zsz (Hin.out.up (w':=_) xx)) (by omega) (zsz (fun W h=>Hcall.out W (Ext.trans xy h))) ?_);intro v144 v145 v146 v147 v148 v149 v150 v151 v152 v153 y A6 c6 wz hb' hr
                go_wp2
                go_roundw
                case rel=>
                 refine⟨k+1,true,W,wn,wc,T,tn,tc,A6,xn+1,c6,J,jn,jc,zs++[y],by omega,by go_num,rfl,rfl,⟨fun _=>by rw[HV.out];simp,fun _=>rfl⟩,?_,?_⟩
                 . rw[Hws.out,Hps.out,Hwo.out,Hpo.out,List.append_nil,zgh h17,zeF (.inr hrep)]
                   rw[zgh h17,zeF (.inr hrep)]at hr;exact hr
                 . show _=_
                   rw[Hps.out,Hpo.out,znH h17 hrep,List.map_append,hzs.out];simp[hb']
                case measure=>simp[intOf];omega
             . have h17I:((f.kind:Int)==17)=false:=by simpa using h17
               have hz0:zs=[]:=by
                have h:=hzs.out;rw[zds (.inl h17)]at h;exact List.map_eq_nil_iff.1 h
               rcases hrep:f.rep with _|_
               .
                rw[hrep]at F3;have HRs:=zsz (fun n=>(Hin.out.up ((Ext.refl wq).drewN n)).reset hz0);have cv:∀n,(convert 24 9 (.slice A9 (v.r.t - v.r.a) (c - v.r.a))).run prog (((wq.drewN n).setCell ⟨wr.heap.size+1,1,none⟩ (.slice none 0 0)).setCell ⟨wr.heap.size+1,2,none⟩ (.slice none 0 0))=.ok (.string ⟨(zak bs v).toArray⟩) (((wq.drewN n).setCell ⟨wr.heap.size+1,1,none⟩ (.slice none 0 0)).setCell ⟨wr.heap.size+1,2,none⟩ (.slice none 0 0)):=fun n=>zac.convert (Hvb.out _ xy) 24 5 9 underlying24 underlying5 underlying9
                go_wp2_with (first
                 |(go_at_call 14;refine(HN.out _).mono ?_;rintro e w1 ⟨rfl,rfl⟩)
                 |(at_builtin;refine zaK zjm rfl (.tmp 95) (.tmp 98) rfl rfl ((HRs.out _).texts.alloc _) rfl (zce _ (.string ⟨(zak bs v).toArray⟩) 9 (by simp)) (by simp[Value.oneCell']) (by omega) (by unfold maxLen;omega) ?_;intro A4 c4 w4 own4 g4 m4;have B4:=((HRs.out _).val.alloc _).beside ((HRs.out _).texts.alloc _) (by decide) g4;have z4:w4.cell? ⟨wr.heap.size+1,2,none⟩=some (.slice none 0 0):=B4.cell 2;have zf:=B4.free 2;have zl:=B4.lt))
                go_roundw
                case rel=>
                 refine⟨k+1,true,none,0,0,A4,0+1,c4,X,xn,xc,J,jn,jc,zs,by omega,by go_num,rfl,rfl,⟨fun _=>by rw[HV.out];simp,fun _=>rfl⟩,?_,?_⟩
                 . have hp0:zaG f ((zah (L.take k) i).flatMap (zaz f bs))=[]:=by
                    rw[Hw0.out];exact(zem sub f).1
                   rw[Hws.out,Hps.out,Hwo.out,Hpo.out,List.append_nil,zqi h17 hrep,zeF (.inl h17),hp0];have hj:zcl f ((zah (L.take k) i).flatMap (zaj f bs))=[]:=zeF (.inl h17) _;have hfin:=(HRs.out _).more_text hz0 ((Ext.refl _).alloc _) (t:=textO (zak bs v)) (by show(zak bs v).toArray.size<=maxLen;rw[List.size_toArray];unfold maxLen;omega) own4 g4;rw[hj]at hfin;exact hfin
                 . rw[zds (.inl h17),hz0]
                   rfl
                case measure=>simp[intOf];omega
               .
                rw[hrep]at F3;have cv:∀n,(convert 24 9 (.slice A9 (v.r.t - v.r.a) (c - v.r.a))).run prog (wq.drewN n)=.ok (.string ⟨(zak bs v).toArray⟩) (wq.drewN n):=fun n=>zac.convert (Hvb.out _ xy) 24 5 9 underlying24 underlying5 underlying9
                go_wp2_with (first
                 |(go_at_call 14;refine(HN.out _).mono ?_;rintro e w1 ⟨rfl,rfl⟩)
                 |(at_builtin;refine zaK zjm rfl (.tmp 95) (.tmp 98) rfl rfl ((Hin.out.up (w':=_) xx).texts.alloc _) rfl (zce _ (.string ⟨(zak bs v).toArray⟩) 9 (by simp)) (by simp[Value.oneCell']) (by omega) (by unfold maxLen;omega) ?_;intro A4 c4 w4 own4 g4 m4;have B4:=((Hin.out.up (w':=_) xx).val.alloc _).beside ((Hin.out.up (w':=_) xx).texts.alloc _) (by decide) g4;have z4:w4.cell? ⟨wr.heap.size+1,2,none⟩=some (.slice T tn tc):=B4.cell 2;have zf:=B4.free 2;have zl:=B4.lt))
                go_roundw
                case rel=>
                 refine⟨k+1,true,W,wn,wc,A4,tn+1,c4,X,xn,xc,J,jn,jc,zs,by omega,by go_num,rfl,rfl,⟨fun _=>by rw[HV.out];simp,fun _=>rfl⟩,?_,?_⟩
                 . rw[Hws.out,Hps.out,Hwo.out,Hpo.out,List.append_nil,zpb h17 hrep,zeF (.inl h17)]
                   have hj:zcl f ((zah (L.take k) i).flatMap (zaj f bs))=[]:=zeF (.inl h17) _;have hfin:=Hin.out.more_text hz0 (Ext.alloc (by exact xx) _) (t:=textO (zak bs v)) (by show(zak bs v).toArray.size<=maxLen;rw[List.size_toArray];unfold maxLen;omega) own4 g4;rw[hj]at hfin;exact hfin
                 . rw[zds (.inl h17),hz0]
                   rfl
                case measure=>simp[intOf];omega
           . have hz0:zs=[]:=by
              have h:=hzs.out;rw[zds (.inl (zbC hnum))]at h;exact List.map_eq_nil_iff.1 h
             have hwo:zaz f bs v=[(readS f.kind (zak bs v)).1]:=by
              unfold zaz;rw[hrun,hnum];rfl
             have hpo:zaj f bs v=[]:=by
              unfold zaj;rw[hrun,hnum];rfl
             rw[hrun]at e6;have hN:=fun W=>zbz f.kind W
             rw[hnum]at hN;have hWd:=(zfA f.kind (zak bs v)).1;rcases hrd:readS f.kind (zak bs v)with⟨Wd,Cd⟩
             rw[hrd]at hWd hwo;simp only at hWd hwo;have hRd:=fun W (h:zac W A9 (v.r.t - v.r.a) (c - v.r.a) (zak bs v))=>zkF h (by omega) hrd
             have HRd:=zsz hRd;have HN:=zsz hN;have Hwo:=zsz hwo;have Hpo:=zsz hpo;have Hnum:=zsz hnum;clear hRd hN hwo hpo hrd hnum;rcases hrep:f.rep with _|_
             .
              rw[hrep]at F3;have HRs:=zsz (fun n=>(Hin.out.up ((Ext.refl wq).drewN n)).reset hz0)
              go_wp2_with (first
               |(go_at_call 14;refine(HN.out _).mono ?_;rintro e w1 ⟨rfl,rfl⟩)
               |(go_at_call 39;refine(HRd.out _ (Hvb.out _ xy)).mono ?_;rintro e w1 ⟨rfl,rfl⟩)
               |(at_builtin;refine zaK elemU rfl (.tmp 131) (.tmp 133) rfl rfl ((HRs.out _).words.alloc _) rfl (zce _ (.int .u64 (Wd:Int)) 68 (by simp)) (by simp[Value.oneCell']) (by omega) (by unfold maxLen;omega) ?_;intro A4 c4 w4 own4 g4 m4;have B4:=((HRs.out _).val.alloc _).beside ((HRs.out _).words.alloc _) (by decide) g4;have z4:w4.cell? ⟨wr.heap.size+1,1,none⟩=some (.slice none 0 0):=B4.cell 1;have zf:=B4.free 1;have zl:=B4.lt))
              go_roundw
              case rel=>
               refine⟨k+1,true,A4,0+1,c4,none,0,0,X,xn,xc,J,jn,jc,zs,by omega,by go_num,rfl,rfl,⟨fun _=>by rw[HV.out];simp,fun _=>rfl⟩,?_,?_⟩
               . have ht0:zbt f ((zah (L.take k) i).flatMap (zaj f bs))=[]:=by
                  rw[zdR Hnum.out];exact(zem sub f).2.1
                 rw[Hws.out,Hps.out,Hwo.out,Hpo.out,zqh hrep,List.append_nil,ht0];exact(HRs.out _).more_words hz0 ((Ext.refl _).alloc _) (l:=[Wd]) rfl (by simpa using hWd) own4 g4
               . rw[Hps.out,Hpo.out,List.append_nil]
                 exact hzs
              case measure=>simp[intOf];omega
             .
              rw[hrep]at F3
              go_wp2_with (first
               |(go_at_call 14;refine(HN.out _).mono ?_;rintro e w1 ⟨rfl,rfl⟩)
               |(go_at_call 39;refine(HRd.out _ (Hvb.out _ xy)).mono ?_;rintro e w1 ⟨rfl,rfl⟩)
               |(at_builtin;refine zaK elemU rfl (.tmp 131) (.tmp 133) rfl rfl ((Hin.out.up (w':=_) xx).words.alloc _) rfl (zce _ (.int .u64 (Wd:Int)) 68 (by simp)) (by simp[Value.oneCell']) (by omega) (by unfold maxLen;omega) ?_;intro A4 c4 w4 own4 g4 m4;have B4:=((Hin.out.up (w':=_) xx).val.alloc _).beside ((Hin.out.up (w':=_) xx).words.alloc _) (by decide) g4;have z4:w4.cell? ⟨wr.heap.size+1,1,none⟩=some (.slice W wn wc):=B4.cell 1;have zf:=B4.free 1;have zl:=B4.lt))
              go_roundw
              case rel=>
               refine⟨k+1,true,A4,wn+1,c4,T,tn,tc,X,xn,xc,J,jn,jc,zs,by omega,by go_num,rfl,rfl,⟨fun _=>by rw[HV.out];simp,fun _=>rfl⟩,?_,?_⟩
               . rw[Hws.out,Hps.out,Hwo.out,Hpo.out,zkl hrep,List.append_nil]
                 exact Hin.out.more_words hz0 (Ext.alloc (by exact xx) _) (l:=[Wd]) rfl (by simpa using hWd) own4 g4
               . rw[Hps.out,Hpo.out,List.append_nil]
                 exact hzs
              case measure=>simp[intOf];omega
       . have hviI:((v.field:Int) !=(i:Int))=true:=by simpa using hvi
         go_wp2
         go_quiet (fail)
         go_wp2
         go_roundw
         case rel=>
          refine⟨k+1,met,W,wn,wc,T,tn,tc,X,xn,xc,J,jn,jc,zs,by omega,by go_num,rfl,rfl,?_,?_,?_⟩
          all_goals rw[zoW Hv1.out hvi]
          . exact hmet
          . exact Hin.out.up xx
          . exact hzs
         case measure=>simp[intOf];omega
     . obtain rfl:k=L.length:=by omega
       have hklI:¬(L.length:Int)<L.length:=by omega
       have Eq:Ext wr wq:=hin.words.ext;have F2:wq.cell? ⟨wr.heap.size,2,none⟩=some (.int .i64 f.kind):=hin.fld.cell 2;have F3:wq.cell? ⟨wr.heap.size,3,none⟩=some (.bool f.rep):=hin.fld.cell 3;have F5:wq.cell? ⟨wr.heap.size,5,none⟩=some (.int .i64 f.of_):=hin.fld.cell 5;have V3:wq.cell? ⟨wr.heap.size+1,3,none⟩=some (.slice X xn xc):=hin.val.cell 3;have f3:=hin.val.free 3;have vl:=hin.val.lt;have fl:=hin.fld.lt;obtain⟨hs1,hs2,hs3,hs4⟩:=zko Hv.out L.length i f sub;have hzl:zs.length<=bs.length:=by rw[<-hzs.out,List.length_map]at hs4;exact hs4
       have hjl:jn<=bs.length:=by rw[hin.joinL];exact hs3
       have hV0:L.take L.length=L:=List.take_length;rw[hV0]at hs1 hs2 hs3 hs4 hmet hin hzs;have Hin:=zsz hin;have Hs:=zsz (And.intro hs1 (And.intro hs2 hzl));clear hin hs1 hs2 hs3 hs4 hzl hV0
       go_upto_region 30 with(fail)
       obtain⟨cc,hcc⟩:∃cc:Bool,cc=decide (met=true/\f.kind=17/\f.rep=false):=⟨_,rfl⟩
       have Hcc:=zsz hcc;clear hcc
       go_cut [171]from 161 to 171 (fun v wz=>v=.bool cc/\wz=wq)
       case first=>
        have hcc:=Hcc.out;rcases met with _|_
        . go_wp2
          go_meet
          exact⟨by rw[hcc];simp,rfl⟩
        . by_cases h17:f.kind=17
          . rw[h17]at F2
            rcases hrep:f.rep with _|_
            . rw[hrep]at F3
              go_wp2
              go_meet
              exact⟨by rw[hcc];simp[h17,hrep],rfl⟩
            . rw[hrep]at F3
              go_wp2
              go_meet
              exact⟨by rw[hcc];simp[hrep],rfl⟩
          . have hkI:((f.kind:Int)==17)=false:=by simpa using h17
            go_wp2
            go_meet
            exact⟨by rw[hcc];simp[h17],rfl⟩
       case rest=>
       rename World=>wy
       obtain⟨rfl,hwq⟩:=hcut;subst wy
       go_upto_if 171 with(fail)
       go_cut []from 172 to 178 (fun wz=>∃u:ValR,(BlkT wz (wr.heap.size+1) 48 #[.int .i64 u.number,.slice u.a.1 u.words.length u.a.2,.slice u.b.1 u.texts.length u.b.2,.slice u.c.1 u.subs.length u.c.2]/\ValAt wz u/\∀b,UsesV u b->wr.heap.size<=b)/\(u.words.length<=1000000/\u.texts.length<=1000000/\u.subs.length<=1000000)/\Hid ((if manyU u=0 then none else some (bareV u))=zbS sub M.d.fields bs L i)/\Ext wr wz)
       case first=>
        have hpl:zah L i≠ []->∀u:ValR,bareV u=zaX sub f ((zah L i).flatMap (zaz f bs)) ((zah L i).flatMap (zaj f bs))->(if manyU u=0 then none else some (bareV u))=zbS sub M.d.fields bs L i:=fun hne u hu=>by
         have hmu:=znD u;unfold zbS;rw[Hff.out];simp only;rw[if_neg hne,zbT,<-hu,hmu]
        have Hpl:=zsz hpl;clear hpl;rcases cc with _|_
        .
         go_wp2
         go_meet
         rcases met with _|_
         . have hno:zah L i=[]:=by
            rcases h:zah L i with _|⟨v,l⟩
            . rfl
            . exact absurd (hmet.out.2 (by rw[h];simp)) (by simp)
           have hst:=zem sub f;rw[hno,List.flatMap_nil,List.flatMap_nil,hst.1,hst.2.1,hst.2.2.1]at Hin
           have hz0:zs=[]:=by
            have h:=hzs.out;rw[hno,List.flatMap_nil,hst.2.2.2]at h;exact List.map_eq_nil_iff.1 h
           subst hz0;have hd:=Hin.out.done hok8 rfl;have Hd:=zsz hd;clear hd;refine⟨⟨(W,wc),(T,tc),(X,xc),f.number,[],[],[]⟩,Hd.out,⟨by simp,by simp,by simp⟩,?_,Eq⟩;show _=_;unfold zbS;rw[Hff.out];simp only;rw[if_pos hno];rfl
         . have hne:zah L i≠ []:=hmet.out.1 rfl
           have h17:¬(f.kind=17/\f.rep=false):=fun q=>by
            have:=Hcc.out;simp[q.1,q.2]at this
           have hfin:∀W,Ext wq W->_:=fun W h=>(Hin.out.up h).done hok8 rfl
           have hval:bareV (⟨(W,wc),(T,tc),(X,xc),f.number,zaG f ((zah L i).flatMap (zaz f bs)),zbt f ((zah L i).flatMap (zaj f bs)),zs⟩:ValR)=zaX sub f ((zah L i).flatMap (zaz f bs)) ((zah L i).flatMap (zaj f bs)):=by
            rw[zkm,if_neg h17,<-hzs.out];rfl
           refine⟨⟨(W,wc),(T,tc),(X,xc),f.number,zaG f ((zah L i).flatMap (zaz f bs)),zbt f ((zah L i).flatMap (zaj f bs)),zs⟩,hfin _ (Ext.refl _),⟨?_,?_,?_⟩,Hpl.out hne _ hval,Eq⟩
           . have:=Hs.out.1
             show(zaG f _).length<=_;omega
           . have:=Hs.out.2.1
             show(zbt f _).length<=_;omega
           . have:=Hs.out.2.2
             show zs.length<=_;omega
        .
         obtain⟨hmt,h17,hrep⟩:=of_decide_eq_true Hcc.out.symm;subst hmt;have hne:zah L i≠ []:=hmet.out.1 rfl
         have hz0:zs=[]:=by
          have h:=hzs.out;rw[zds (.inr hrep)]at h;exact List.map_eq_nil_iff.1 h
         subst hz0;obtain⟨o,ho1,ho2⟩:=Hof.out f (List.mem_of_getElem? Hff.out) h17
         have hjd:(zcl f ((zah L i).flatMap (zaj f bs))).length<d:=by
          have hm:∀v∈zah L i,v∈(zae M.d.fields bs).1:=fun v hv=>HLv.out v (List.mem_filter.1 hv).1
          have hb:∀v∈zah L i,v.r.a<=v.r.t/\v.r.t<=bs.length:=fun v hv=>(by have:=zbO (hm v hv);omega)
          have hw:zbJ (zah L i)<=bs.length:=by
           have h1:=zej M.d.fields bs;rw[Hv.out]at h1;exact Nat.le_trans (zek _ i) h1
          have h17r:f.kind=17->∀v∈zah L i,v.run=false:=fun _ v hv=>by
           rcases zbN (hm v hv) (by have:=(List.mem_filter.1 hv).2;simpa using this) Hff.out with⟨_,_,q⟩|⟨q,_⟩
           . exact absurd h17 (zbC q)
           . exact q
          have:=zkk (f:=f) hne hb hw h17r (x:=zcl f ((zah L i).flatMap (zaj f bs))) (by
           unfold zdr zcl;rw[if_neg (by simp[hrep]),if_pos h17,if_pos ⟨h17,hrep⟩]
           simp)
          omega
         have hcall:∀W,Ext wq W->Calls prog 11 #[.slice (some ⟨b1,off1,none⟩) sn sc,.int .i64 f.of_,.slice J jn jc] W fun e w'=>∃y,e=.returned (treeV y)/\bare y=sub f.of_.toNat (zcl f ((zah L i).flatMap (zaj f bs)))/\zay w' y/\(∀b,UsesT y b->W.heap.size<=b)/\Ext W w':=fun W h=>by
          have hc:=Ih.out W _ sn sc o _ _ _ _ (HS.out.up ((Ew.trans Eq).trans h)) ho2 (Hin.out.join.bytes.up h) (by rw[Hin.out.joinL];exact hjd);rw[ho1];exact hc
         unfold treeV at hcall;have Hcall:=zsz hcall;clear hcall ho1 hjd
         go_wp2_with (go_at_call 11;refine(Hcall.out _ xx).mono ?_;rintro e w5 ⟨y,rfl,hb',hT',hU',E5⟩;have X5:Ext wq w5:=Ext.trans xx E5;have B5:=Hin.out.val.up X5;have y5:w5.cell? ⟨wr.heap.size+1,3,none⟩=some (.slice X xn xc):=B5.cell 3;have y5f:=B5.free 3;have y5l:=B5.lt)
         go_meet
         have hi2:=Hin.out.one_sub X5 hT' hU';rw[World.setCell_alloc_past _ _ _ _ y5l]at hi2;refine⟨⟨(W,wc),(T,tc),(some ⟨w5.heap.size,0,none⟩,1),f.number,zaG f ((zah L i).flatMap (zaz f bs)),zbt f ((zah L i).flatMap (zaj f bs)),[y]⟩,hi2.done hok8 rfl,⟨?_,?_,by simp⟩,?_,hi2.words.ext⟩
         . have:=Hs.out.1
           show(zaG f _).length<=_;omega
         . have:=Hs.out.2.1
           show(zbt f _).length<=_;omega
         . refine Hpl.out hne _ ?_
           rw[zkm,if_pos ⟨h17,hrep⟩,<-hb'];rfl
       case rest=>
       rename World=>wz
       obtain⟨u,⟨BU,hu,huu⟩,⟨q1,q2,q3⟩,hpl,Ez⟩:=hcut;have hmany:=fun W=>rMany (u:=u) (w:=W) (by omega) (by omega) (by omega)
       unfold tvalV at hmany;have c0:wz.cell? ⟨wr.heap.size+1,0,none⟩=some (.int .i64 u.number):=BU.cell 0;have c1':wz.cell? ⟨wr.heap.size+1,1,none⟩=some (.slice u.a.1 u.words.length u.a.2):=BU.cell 1;have c2':wz.cell? ⟨wr.heap.size+1,2,none⟩=some (.slice u.b.1 u.texts.length u.b.2):=BU.cell 2;have c3':wz.cell? ⟨wr.heap.size+1,3,none⟩=some (.slice u.c.1 u.subs.length u.c.2):=BU.cell 3;have Hmany:=zsz hmany;have Hu:=zsz hu;have Huu:=zsz huu;have HBU:=zsz BU;have hroz:=Ho.out.up Ez;have x0:wz.cell? ⟨bx,0,none⟩=some (.slice V vn vc):=hroz.x.cell 0;have xl:=hroz.x.lt;have xf:=hroz.x.free 0;have Hroz:=zsz hroz;clear F2 F3 F5 V3 f3 vl fl hmany hu huu BU hroz Hin Hs;by_cases h0:manyU u=0
       .
        rw[h0]at Hmany;rw[if_pos h0]at hpl
        go_wp2_with (go_at_call 40;refine(Hmany.out _).mono ?_;rintro e w1 ⟨rfl,E1⟩)
        go_roundw
        case rel=>exact⟨j+1,V,vn,vc,ys,by omega,by go_num,Hroz.out.up (by exact E1),by show _=_;rw[zeP _ Hij.out,<-hpl.out,hD.out];simp⟩
        case measure=>simp[intOf];omega
       .
        rw[if_neg h0]at hpl;have hpos:(0:Int)<(manyU u:Nat):=by omega
        generalize manyU u=mu at*
        go_wp2_with (first
         |(go_at_call 40;refine(Hmany.out _).mono ?_;rintro e w1 ⟨rfl,E1⟩;have x01:=E1.of_cell x0;have xl1:=Nat.lt_of_lt_of_le xl E1.size;have d0:=E1.of_cell c0;have d1:=E1.of_cell c1';have d2:=E1.of_cell c2';have d3:=E1.of_cell c3')
         |(at_builtin;refine zaK zrZ rfl (.tmp 183) (.tmp 185) rfl rfl ((Hroz.out.own.up E1).alloc _) rfl (zdy _ (tvalC u) 48 rfl rfl) (by simpa using znY [u]) (by omega) (by unfold maxLen;omega) ?_;intro V8 c8 w8 own8 g8 m8;have hx8:=((Hroz.out.x.up E1).alloc _).beside ((Hroz.out.own.up E1).alloc _) (by decide) g8;have z8:w8.cell? ⟨bx,0,none⟩=some (.slice V vn vc):=hx8.cell 0;have z8f:=hx8.free 0;have z8l:=hx8.lt))
        go_roundw
        case rel=>
         have T9:=Ho.out.put (by omega) (by omega) (Ez.trans E1) (Hu.out.up E1) Huu.out own8 g8 m8;exact⟨j+1,V8,vn+1,c8,ys++[u],by omega,by go_num,T9,by show _=_;rw[zeP _ Hij.out,<-hpl.out,List.map_append,hD.out];simp⟩
        case measure=>simp[intOf];omega
  . obtain rfl:j=M.n:=by omega
    have hltI:¬(M.n:Int)<M.n:=by omega
    have start3:RUnk w wr wr bx bs L V vn vc 0 none 0 0:=⟨ho.x,Own.nil ho.own.ext _ _,rfl,(fun b h=>by cases h),Stays.refl _ _⟩
    have hR:=HR.out.stays ho.stays (by omega);have hLr:=HL.out.1.stays ho.stays (fun b hb=>by have:=HL.out.2 b hb;omega);have hlt6:=ho.stays.size;have HRr:=zsz hR;have HLr:=zsz (And.intro hLr HL.out.2);have Ho:=zsz ho;clear ho hR hLr start
    go_wp2
    go_loopw [23] (fun ko wq=>∃(k:Nat)(U:Option Addr)(un uc:Nat),k<=L.length/\ko=.int .i64 (k:Int)/\RUnk w wr wq bx bs L V vn vc k U un uc) (fun ko _=>L.length - (intOf ko).toNat)
    case atStart=>exact⟨0,none,0,0,Nat.zero_le _,rfl,start3⟩
    case round=>
     rename World=>wq
     obtain⟨k,U,un,uc,hk,rfl,hu⟩:=hrel;by_cases hkl:k<L.length
     . have hklI:(k:Int)<L.length:=by omega
       have hLq:=HLr.out.1.stays hu.stays (fun b hb=>by have:=HLr.out.2 b hb;omega);obtain⟨b5,off5,v,hA,hv,hb5,e0,e1,e2,e3,e4,e5,e6⟩:=hLq.view' hkl;subst hA;have hvm:=List.mem_of_getElem? hv;have hbd:=zbO (HLv.out v hvm);have x1:wq.cell? ⟨bx,1,none⟩=some (.slice U un uc):=hu.x.cell 1;have xf:=hu.x.free 1;have xl:=hu.x.lt;have hun:un<=L.length:=by rw[hu.unL];exact zrl bs L k
       have Eq:Ext w wq:=hu.unk.ext;have Hu:=zsz hu;have Hv1:=zsz hv;clear hu hv hLq e0 e1 e3;by_cases hneg:v.field<0
       .
        go_wp2
        refine calm (fun _ _ _ hd h=>⟨hd,h.2⟩) (reg38 Hu (by omega) (by omega) Hv1 hneg (zsz (Hb.out.up Eq)) (by omega) (by omega) (by omega) hkl (by omega) (by omega) hb5 e2 e4 ?_);intro v200 v201 v202 v203 v204 v205 v206 v207 v208 v209 v210 v211 v212 v213 v214 v215 v216 v217 v218 v219 A7 c7 wz hz
        go_wp2
        go_roundw
        case rel=>exact⟨k+1,A7,un+1,c7,by omega,by go_num,hz⟩
        case measure=>simp[intOf];omega
       . go_wp2
         go_roundw
         case rel=>exact⟨k+1,U,un,uc,by omega,by go_num,Hu.out.x,by rw[zpc Hv1.out hneg];exact Hu.out.unk,by rw[zpc Hv1.out hneg];exact Hu.out.unL,Hu.out.unew,Hu.out.stays⟩
         case measure=>simp[intOf];omega
     . obtain rfl:k=L.length:=by omega
       have hklI:¬(L.length:Int)<L.length:=by omega
       have hR:=HRr.out.stays hu.stays (by omega);have p0:wq.cell? ⟨bx,0,none⟩=some (.slice V vn vc):=hu.x.cell 0;have p1:wq.cell? ⟨bx,1,none⟩=some (.slice U un uc):=hu.x.cell 1;have q1:=hu.x.lt;have t0:wq.cell? ⟨w.heap.size,0,none⟩=some (.slice none 0 0):=hR.cell 0;have t1:wq.cell? ⟨w.heap.size,1,none⟩=some (.slice none 0 0):=hR.cell 1;have r0:=hR.free 0;have r1:=hR.free 1;have l2:=hR.lt;have Hu:=zsz hu;have HR2:=zsz hR;clear hu hR
       go_wp2
       (try simp only[Exit.inBlock,Exit.then])
       have hV0:L.take L.length=L:=List.take_length;have hul:=Hu.out.unL;have hun2:=Hu.out.unk;rw[hV0]at hul hun2;have BF:=(HR2.out.set_ 0 (.slice V vn vc)).set_ 1 (.slice U un uc);have EW:=Hu.out.unk.ext;have EF:Ext w ((wq.setCell ⟨w.heap.size,0,none⟩ (.slice V vn vc)).setCell ⟨w.heap.size,1,none⟩ (.slice U un uc)):=(EW.setCell (show w.heap.size<=w.heap.size by omega) _).setCell (show w.heap.size<=w.heap.size by omega) _;refine bodyPost_ret (results_cell_row (ty:=40) rfl _ _ w.heap.size _ _ (0,0) _ rfl BF underlying40 rfl (by kernel_rfl)) rfl ?_
       have hS2:Stays (fun b=>b≠w.heap.size) wq ((wq.setCell ⟨w.heap.size,0,none⟩ (.slice V vn vc)).setCell ⟨w.heap.size,1,none⟩ (.slice U un uc)):=
        ((Stays.refl _ wq).set (fun e=>e rfl) _).set (fun e=>e rfl) _
       have hS3:=(Hu.out.stays.less (t:=fun b=>b≠bx/\b≠w.heap.size) (fun b hb=>hb.1)).trans (hS2.less (fun b hb=>hb.2));have ox:=Hu.out.unk;have o1:=hun2.far HR2.out (by decide) (Nat.le_refl _) 0 (.slice V vn vc);have o2:=o1.far (HR2.out.set_ 0 (.slice V vn vc)) (by decide) (Nat.le_refl _) 1 (.slice U un uc);have hVn:∀b,UsesA V vn b->w6.heap.size<=b:=fun b hb=>Ho.out.vnew b (Reads.row_uses hb Ho.out.own)
       refine⟨.mk (V,vc) (U,uc) ys (unkO bs L),?_,?_,?_,?_,EF⟩
       . show Ending.returned (Value.agg #[.slice V vn vc,.slice U un uc])=Ending.returned (Value.agg #[.slice V ys.length vc,.slice U (unkO bs L).length uc])
         rw[Ho.out.vnL,hul]
       . rw[zgO]
         show MsgX.mk () () (ys.map bareV) (unkO bs L)=_;unfold ofM;rw[HMd.out];simp only;rw[Hv.out,hD.out,List.take_of_length_le (by rw[Hol.out];exact Nat.le_refl _),Hord.out,hfl];rfl
       . refine zay.of ?_ ⟨?_,fun t ht=> ?_⟩ (fun y hy=> ?_)
         . show Reads _ V ys.length vc 4 (ys.flatMap tvalC)
           rw[<-Ho.out.vnL];exact Ho.out.own.reads.stays hS3 (fun b hb=>by have:=hVn b hb;omega)
         . show Reads _ U (unkO bs L).length uc 1 ((unkO bs L).map strV)
           rw[<-hul];exact o2.reads
         . obtain⟨v,hv,rfl⟩:=List.mem_map.1 ht
           have h1:=(zbO (HLv.out v (List.mem_filter.1 hv).1))
           have h2:(spanB bs v.r.f v.r.t).length=v.r.t - v.r.f:=zax bs h1.2.2;show(spanB bs v.r.f v.r.t).toArray.size<=maxLen;rw[List.size_toArray,h2];unfold maxLen;omega
         . refine(Ho.out.at_ y hy).stays hS3 (fun b hb=> ?_)
           have:=(Ho.out.away y hy b hb).1;omega
       . intro b hb
         rcases hb.cases' with hb|hb|⟨y,hy,hb⟩
         . have hb':UsesA V ys.length b:=hb
           rw[<-Ho.out.vnL]at hb';have:=hVn b hb';omega
         . have hb':UsesA U (unkO bs L).length b:=hb
           rw[<-hul]at hb';exact o2.uses_new hb'
         . have:=(Ho.out.away y hy b hb).1
           omega
end Go.Proofs.YtpicpebolghcfaaGreatDoor
