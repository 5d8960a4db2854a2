/- Contracts of layer 14: the value of a field's pieces. -/
import Derived.Test.YtlhbllaojjelcaaGreatQhW14p
import Derived.BigRegion
import Derived.Deep.CutBlock

set_option linter.unusedVariables false
set_option maxRecDepth 100000
set_option maxHeartbeats 4000000
namespace Go.Proofs.YtlhbllaojjelcaaGreat
open Go.RowKit Tryz
variable{sn sc d:Nat}{SA:Option Addr}{p:zaP}{w0 w:World}{sub:Nat->List UInt8->MsgT}{S:List MsgV}
theorem zqR(ih:OfP S d sub)(hp:zbo w0 w p)(hS:zaj w0 SA sn sc S)(hlen:∀x∈zas p.f (p.vs.map BRow.bs),x.length<d)(hw:p.ws.length<=1000000)(hs:p.vs.length<=1000000)(hj:(p.vs.map BRow.bs).flatten.length<=1000000)(hk:p.f.kind=17){m:Nat}(hof:p.f.of_=(m:Int))(hmS:m<S.length):
 Calls prog 139 #[ptrP p,.slice SA sn sc] w fun e w'=>∃u:ValR,e=.returned (.tuple #[tvalV u,.bool (decide ((0:Int)<(manyU u:Nat)))])/\bareV u=zaM sub p.f p.ws (p.vs.map BRow.bs)/\ValAt w' u/\(∀b,UsesV u b->Foot p b\/w.heap.size<=b)/\Stays (fun b=>¬Foot p b) w w'/\Ext w0 w':=by
 have hnum:=hp.ok.number;have hsm:=hp.small;have hx0:=hp.words.ext;have hnew:=hp.new;have c1:w.cell? ⟨p.b,1,none⟩=some (.int .i64 p.f.number):=hp.blk.cell 1;have c2:w.cell? ⟨p.b,2,none⟩=some (.int .i64 p.f.kind):=hp.blk.cell 2;have c3:w.cell? ⟨p.b,3,none⟩=some (.bool p.f.rep):=hp.blk.cell 3;have c6:w.cell? ⟨p.b,6,none⟩=some (.slice p.A p.ws.length p.c):=hp.blk.cell 6;have c7:w.cell? ⟨p.b,7,none⟩=some (.slice p.B p.vs.length p.d):=hp.blk.cell 7;have hbl:=hp.blk.lt;have hne:p.b≠w.heap.size:=by omega
 have hne1:p.b≠w.heap.size+1:=by omega
 have k17:((p.f.kind:Int)==17)=true:=by rw[beq_iff_eq];exact hk
 have Hp:=zsp hp;have HS:=zsp hS;have Hlen:=zsp hlen;have Hj:=zsp hj;have Ih:=zsp ih;have Hk:=zsp hk;clear hp hS hlen hj ih hk;unfold ptrP
 go_enter func139,ntmps139
 rcases hrep:p.f.rep with _|_
 case false=>
  rw[hrep]at c3;have hfr:=Hp.out.blk.free;have hbr:zaN w p.B p.vs.length p.d p.vs:=⟨Hp.out.vals.reads,fun r hr=>(Hp.out.each r hr).ext hx0⟩
  have hfe:flatR p.vs=(p.vs.map BRow.bs).flatten:=List.flatMap_def;have hfl:(flatR p.vs).length<=1000000:=by rw[hfe];exact Hj.out
  have hcc:=fun W (h:zaN W p.B p.vs.length p.d p.vs)=>zqU h (by omega:(flatR p.vs).length<=140737488351232)
  have Hcc:=zsp hcc;have Hfe:=zsp hfe;clear hcc hfe
  go_wp2_with (go_at_call 167;refine(Hcc.out _ (zaN.up hbr xx)).mono ?_;rintro e w1 ⟨A1,cc1,rfl,own1⟩;have E1:Ext w w1:=Ext.trans xx own1.ext;have d6:=E1.of_cell c6;have d7:=E1.of_cell c7;have dl:=Nat.lt_of_lt_of_le hbl E1.size;have B1:=Hp.out.blk.up E1;have fr1:=B1.free)
  have hs1:w.heap.size+2<=w1.heap.size:=by simpa using own1.ext.size
  have R1:BlkT w1 w.heap.size 69 #[.int .i64 0,.slice none 0 0,.slice none 0 0,.slice none 0 0]:=((BlkT.new w _ _ rfl).alloc _).up own1.ext;have V1:BlkT w1 (w.heap.size+1) 69 #[.int .i64 p.f.number,.slice none 0 0,.slice none 0 0,.slice none 0 0]:=(BlkT.new _ _ _ (by simp)).up own1.ext;have P4:=(B1.set_ 7 (.slice (some ⟨w1.heap.size,0,none⟩) 1 1)).alloc (.cells #[.slice A1 (flatR p.vs).length cc1] 46);have R4:=(R1.set_far 7 hne (.slice (some ⟨w1.heap.size,0,none⟩) 1 1)).alloc (.cells #[.slice A1 (flatR p.vs).length cc1] 46);have V4:=(V1.set_far 7 hne1 (.slice (some ⟨w1.heap.size,0,none⟩) 1 1)).alloc (.cells #[.slice A1 (flatR p.vs).length cc1] 46);have ow4:=((Hp.out.words.up E1).far B1 (by decide) hnew 7 (.slice (some ⟨w1.heap.size,0,none⟩) 1 1)).alloc (.cells #[.slice A1 (flatR p.vs).length cc1] 46);have st4:=((Stays.of_ext (s:=fun b=>¬Foot p b) E1).set (p:=⟨p.b,7,none⟩) (fun h=>h (.inl rfl)) (.slice (some ⟨w1.heap.size,0,none⟩) 1 1)).trans (Stays.of_ext (Ext.alloc (Ext.refl _) (.cells #[.slice A1 (flatR p.vs).length cc1] 46)));have rd4:Reads ((w1.setCell ⟨p.b,7,none⟩ (.slice (some ⟨w1.heap.size,0,none⟩) 1 1)).alloc (.cells #[.slice A1 (flatR p.vs).length cc1] 46)) (some ⟨w1.heap.size,0,none⟩) 1 1 1 [.slice A1 (flatR p.vs).length cc1]:=zcF _ _ _ (by simp[World.setCell]);have hjn:∀b,UsesA A1 (flatR p.vs).length b->w.heap.size+2<=b/\b<w1.heap.size:=fun b hb=>⟨(by simpa using own1.uses_new hb),own1.reads.uses_lt hb⟩
  have bj4:=(own1.reads.stays ((Stays.refl (fun b=>b≠p.b) w1).set (p:=⟨p.b,7,none⟩) (fun h=>h rfl) (.slice (some ⟨w1.heap.size,0,none⟩) 1 1)) (fun b hb=>(by have:=hjn b hb;omega))).ext (Ext.alloc (Ext.refl _) (.cells #[.slice A1 (flatR p.vs).length cc1] 46));obtain⟨W4,hW4⟩:∃W4,W4=(w1.setCell ⟨p.b,7,none⟩ (.slice (some ⟨w1.heap.size,0,none⟩) 1 1)).alloc (.cells #[.slice A1 (flatR p.vs).length cc1] 46):=⟨_,rfl⟩
  rw[<-hW4]at P4 R4 V4 ow4 st4 rd4 bj4⊢;have hsz4:w1.heap.size<W4.heap.size:=by have:=(rd4.at_ (by omega));obtain⟨b,o,e,h,_⟩:=this;cases e;exact h
  generalize w1.heap.size=j1 at*;clear hW4 d6 d7 dl B1 fr1 R1 V1 own1 E1 w1;obtain⟨Bj,hBj⟩:∃Bj:Option Addr,Bj=some ⟨j1,0,none⟩:=⟨_,rfl⟩
  obtain⟨nj,hnj⟩:∃nj:Nat,nj=1:=⟨_,rfl⟩
  obtain⟨cj,hcj⟩:∃cj:Nat,cj=1:=⟨_,rfl⟩
  replace P4:BlkT W4 p.b 222 ((zlE p).setIfInBounds 7 (.slice Bj nj cj)):=by rw[hBj,hnj,hcj];exact P4
  replace rd4:Reads W4 Bj nj cj 1 [.slice A1 (flatR p.vs).length cc1]:=by rw[hBj,hnj,hcj];exact rd4
  have hnj1:nj<=1000000:=by omega
  have HBj:=zsp hBj;have Hnj:=zsp hnj;clear hBj hnj hcj;clear c1 c2 c3 c6 c7;have d1:W4.cell? ⟨p.b,1,none⟩=some (.int .i64 p.f.number):=P4.cell 1;have d2:W4.cell? ⟨p.b,2,none⟩=some (.int .i64 p.f.kind):=P4.cell 2;have d6:W4.cell? ⟨p.b,6,none⟩=some (.slice p.A p.ws.length p.c):=P4.cell 6;have d7:W4.cell? ⟨p.b,7,none⟩=some (.slice Bj nj cj):=P4.cell 7;have fr6:=P4.free 6;have fr7:=P4.free 7;have dl:=P4.lt;have vl:=V4.lt;have vf1:=V4.free 1;obtain⟨n1,hn1⟩:∃n1,n1=p.ws.length:=⟨_,rfl⟩
  obtain⟨n2,hn2⟩:∃n2:Nat,n2=nj:=⟨_,rfl⟩
  have e1:IntKind.i64.wrap ((p.ws.length:Int) - 1)=(p.ws.length:Int) - 1:=IntWalk.i64_in _ (by omega);have e3:IntKind.i64.wrap ((nj:Int) - 1)=(nj:Int) - 1:=IntWalk.i64_in _ (by omega)
  go_cut []from 22 (fun wz=>∃ws aw nw cw rows av nv cv,zlF w0 w wz p ws aw nw cw rows av nv cv)
  case first=>
   go_region
   rw[zgD p.ws.length];rw[zgD nj];generalize (if(1:Int)<(nj:Int)then(nj:Int) - 1 else 0)=t2;generalize (if(1:Int)<(p.ws.length:Int)then(p.ws.length:Int) - 1 else 0)=t1;obtain⟨rA,uA⟩:=ziJ (l:=p.ws.length - 1) ow4.reads (by omega);obtain⟨rB,uB⟩:=ziJ (l:=nj - 1) rd4 (by omega);have hbA:=fun b (hb:(Value.slice p.A 0 0).ownBlock=some b)=>ow4.not_blk P4 (by decide) hb
   have hbA2:=fun b (hb:(Value.slice p.A 0 0).ownBlock=some b)=>(Hp.out.words.new_lt hb).2
   generalize (if p.c=p.ws.length - 1 then p.A else Option.map (fun x=>x.add (p.ws.length - 1)) p.A)=aw at rA uA⊢;have hnw1:p.ws.length - (p.ws.length - 1)<=1000000:=by omega
   generalize p.ws.length - (p.ws.length - 1)=nw at rA hnw1⊢;generalize p.c - (p.ws.length - 1)=cw at rA⊢;generalize (if cj=nj - 1 then Bj else Option.map (fun x=>x.add (nj - 1)) Bj)=av at rB uB⊢;have hnv1:nj - (nj - 1)<=1000000:=by omega
   generalize nj - (nj - 1)=nv at rB hnv1⊢;generalize cj - (nj - 1)=cv at rB⊢;have hws1:∀x∈p.ws.drop (p.ws.length - 1),x<18446744073709551616:=fun x hx=>hsm x (List.mem_of_mem_drop hx)
   have P5:=((P4.set_ 6 (.slice aw nw cw)).set_ 7 (.slice av nv cv)).drew;have V5:=((V4.set_far 6 hne1 (.slice aw nw cw)).set_far 7 hne1 (.slice av nv cv)).drew;have R5:=((R4.set_far 6 hne (.slice aw nw cw)).set_far 7 hne (.slice av nv cv)).drew;have X5:=((ow4.ext.setCell (p:=⟨p.b,6,none⟩) hnew (.slice aw nw cw)).setCell (p:=⟨p.b,7,none⟩) hnew (.slice av nv cv)).drew;have st5:=((st4.set (p:=⟨p.b,6,none⟩) (fun h=>h (.inl rfl)) (.slice aw nw cw)).set (p:=⟨p.b,7,none⟩) (fun h=>h (.inl rfl)) (.slice av nv cv)).drew;have sp5:=(((Stays.refl (fun b=>b≠p.b) W4).set (p:=⟨p.b,6,none⟩) (fun h=>h rfl) (.slice aw nw cw)).set (p:=⟨p.b,7,none⟩) (fun h=>h rfl) (.slice av nv cv)).drew;have rA5:=rA.stays sp5 (fun b hb=>hbA b (uA _ b hb));have hbB:∀b,UsesA av nv b->b=j1:=fun b hb=>(by have h:=uB _ b hb;rw[HBj.out]at h;injection h with h;exact h.symm)
   have rB5:=rB.stays sp5 (fun b hb=>(by have:=hbB b hb;omega));have bj5:=bj4.stays sp5 (fun b hb=>(by have:=hjn b hb;omega))
   go_wp2
   go_meet
   refine⟨p.ws.drop (p.ws.length - 1),aw,nw,cw,(([⟨A1,(flatR p.vs).length,cc1,flatR p.vs⟩]:List BRow).drop (nj - 1)),av,nv,cv,R5,V5,P5,X5,st5,(by rw[List.map_drop];exact rA5),fun b hb=>.inr (.inl (uA _ b hb)),?_,?_,?_,(by unfold zaZ lastO;rw[if_neg (by rw[hrep];simp)]),?_,fun b hb=>(Hp.out.lt hb).2,hx0.size,hnw1,hnv1,hws1⟩
   . exact⟨(by rw[List.map_drop];exact rB5),fun r hr=>(by have hr:=List.mem_of_mem_drop hr;rw[List.mem_singleton]at hr;subst hr;exact bj5)⟩
   . intro b hb;have:=hbB b hb;omega
   . intro r hr b hb;have hr:=List.mem_of_mem_drop hr;rw[List.mem_singleton]at hr;subst hr;have:=hjn b hb;omega
   . unfold zas;rw[if_neg (by rw[hrep];simp),if_pos Hk.out,<-Hfe.out,Hnj.out];rfl
  case rest=>
  clear e1 e3 d1 d2 d6 d7 fr6 fr7 dl vl vf1 P4 V4 R4 ow4 st4 rd4 hn1 n1 hn2 n2 hw hs hfr bj4 hs1 hjn hsz4 hbr hfl Hcc Hfe hnj1 HBj Hnj;obtain⟨ws,aw,nw,cw,rows,av,nv,cv,hmid⟩:=hcut
  rename World=>W5
  have d1:W5.cell? ⟨p.b,1,none⟩=some (.int .i64 p.f.number):=hmid.blk.cell 1;have d2:W5.cell? ⟨p.b,2,none⟩=some (.int .i64 p.f.kind):=hmid.blk.cell 2;have d6:W5.cell? ⟨p.b,6,none⟩=some (.slice aw nw cw):=hmid.blk.cell 6;have d7:W5.cell? ⟨p.b,7,none⟩=some (.slice av nv cv):=hmid.blk.cell 7;have v5:=hmid.val.lt;have dl5:=hmid.blk.lt;have vf:=hmid.val.free 1;have vc:W5.cell? ⟨w.heap.size+1,1,none⟩=some (.slice none 0 0):=hmid.val.cell 1;have hnw1:=hmid.nwl;have hnv1:=hmid.nvl;have hws1:=hmid.small;have G:=hmid.go;clear hmid
  go_wp2
  clear d1 d2 d6 d7 v5 dl5 vf vc;generalize (W5.setCell ⟨w.heap.size+1,1,none⟩ (.slice aw nw cw))=w3 at*;clear W5;have hsz3:=G.val.lt;have hlb:=zaN.length G.at_;obtain⟨wb,hwb,hwbs⟩:=zgC w3 (n:=w.heap.size) (by omega);have hx0b:Ext w0 wb:=ziI G.ext hwb (by rw[hwbs];exact hx0.size)
  go_loopw [9,81] (fun u i wr=>∃(k:Nat)(U:Option Addr)(cu:Nat)(ys:List MsgR),k<=nv/\i=.int .i64 (k:Int)/\BlkT wr w.heap.size 69 #[.int .i64 0,.slice none 0 0,.slice none 0 0,.slice none 0 0]/\BlkT wr (w.heap.size+1) 69 #[.int .i64 p.f.number,.slice aw nw cw,.slice none 0 0,.slice U k cu]/\Own wb wr 27 2 U k cu (ys.flatMap treeC)/\Hid (ys.map bare=(rows.take k).map (fun r=>sub m r.bs))/\Trees w3 wr (w.heap.size+1) U (fun _=>False) ys/\Stays (fun b=>b≠w.heap.size+1/\b<w3.heap.size) w3 wr/\(∀b,(Value.slice U 0 0).ownBlock=some b->w3.heap.size<=b)) (fun _ i _=>nv - (intOf i).toNat)
  case atStart=>exact⟨0,none,0,[],Nat.zero_le _,rfl,G.res,G.val,Own.nil hwb _ _,rfl,Trees.nil (Nat.le_refl _),Stays.refl _ _,(fun b h=>by cases h)⟩
  case round=>
   obtain⟨k,U,cu,ys,hkn,rfl,hB4,hB3,own,hD,hT,hst,hU⟩:=hrel;have hBP:=G.blk.stays hst ⟨hne1,G.blk.lt⟩;have y1:=hB3.lt;have y2:=hBP.lt;have d2:wr.cell? ⟨p.b,2,none⟩=some (.int .i64 p.f.kind):=hBP.cell 2;by_cases hlt:k<nv
   . have hltI:(k:Int)<nv:=by omega
     have hrw:=zaN.stays G.at_ hst (fun b hb=>⟨(G.raway b hb).2,Reads.uses_lt G.at_.1 hb⟩) (fun r hr b hb=>⟨(G.baway r hr b hb).2,Reads.uses_lt (G.at_.2 r hr) hb⟩);obtain⟨b5,off5,r,hav,hr,hb5,hbr,e0⟩:=hrw.row hlt;cases hav;have hrm:=List.mem_of_getElem? hr;have Xw:=own.ext;have y3:wr.cell? ⟨w.heap.size+1,3,none⟩=some (.slice U k cu):=hB3.cell 3;have f3:=hB3.free 3;have d5:wr.cell? ⟨p.b,5,none⟩=some (.int .i64 (m:Int)):=by rw[<-hof];exact hBP.cell 5
     have hrd:r.n<d:=by
      have h1:=Hlen.out r.bs (by rw[<-G.rowsEq];exact List.mem_map.2 ⟨r,hrm,rfl⟩);rw[hbr.length]at h1;exact h1
     have hcall:∀W,Ext wr W->Calls prog 97 #[.slice SA sn sc,.int .i64 (m:Int),.slice r.A r.n r.c] W fun e w'=>∃y,e=.returned (treeV y)/\bare y=sub m r.bs/\zah w' y/\(∀b,UsesT y b->W.heap.size<=b)/\Ext W w':=fun W h=>Ih.out W SA sn sc m r.A r.n r.c r.bs (HS.out.up ((hx0b.trans Xw).trans h)) hmS (hbr.up h) hrd
     unfold treeV at hcall;have Hcall:=zsp hcall;have Hr:=zsp hr;clear hcall hr
     go_wp2
     go_region_law (first
      |(go_simp;go_at_call 97;refine(Hcall.out _ xx).mono ?_;rintro e w5 ⟨y',rfl,hb',hT',hU',E5⟩;have X5:Ext wr w5:=Ext.trans xx E5;have y5:=X5.of_cell y3;have y5l:=Nat.lt_of_lt_of_le y1 X5.size)
      |(refine zcc zkg (by rfl) (.tmp 92) (.tmp 101) (by rfl) (by rfl) ((own.up X5).alloc _) (by rfl) (zbJ w5 (treeC y') 27 rfl rfl) (by simpa using zej [y']) (by omega) (by unfold maxLen;omega) ?_;intro A6 c6 w6 own6 g6 m6;have hB6:=((hB3.up X5).alloc _).beside ((own.up X5).alloc _) (by decide) g6;have hB64:=((hB4.up X5).alloc _).beside ((own.up X5).alloc _) (by decide) g6;have hl6:=hB6.lt;have hf6:=hB6.free 3;have hc6:w6.cell? ⟨w.heap.size+1,3,none⟩=some (.slice U k cu):=hB6.cell 3))
     all_goals
      go_simp
      go_wp2
      go_roundw
      case rel=>
       have hnew:∀b,UsesT y' b->wr.heap.size<=b:=fun b hb=>by
        have h:=hU' b hb
        first|exact h|simpa using h
       have hTg:=((hT.up X5).snoc hT' (fun b hb=>by
        have h:=hnew b hb;refine⟨by omega,fun q=> ?_⟩;have:=(own.block_new (g:=b) (by rw[zak U k cu 0 0];exact q)).2
        omega) (fun b hb=>.inr (Nat.le_trans hT.size (hnew b hb)))).grow (Ext.alloc (Ext.refl w5) _) g6 m6
       have hB36:=hB6.set_ 3 (.slice A6 (k+1) c6);have hfar:=own6.far hB6 (by decide) (show wb.heap.size<=w.heap.size+1 by omega) 3 (.slice A6 (k+1) c6)
       have hst6:Stays (fun b=>b≠w.heap.size+1/\b<w3.heap.size) w3 (w6.setCell ⟨w.heap.size+1,3,none⟩ (.slice A6 (k+1) c6)):=
        (((hst.trans (Stays.of_ext X5)).trans (Stays.of_ext (Ext.alloc (Ext.refl w5) _))).trans (Stays.grown g6 (fun b hb h=>by rw[zak U k cu 0 0]at hb;have:=hU b hb;omega))).set (fun h=>h.1 rfl) _
       have hU6:∀b,(Value.slice A6 0 0).ownBlock=some b->w3.heap.size<=b:=fun b hb=>by
        rcases m6 with q|q
        . rw[q]at hb;exact hU b hb
        . rw[q]at hb;injection hb with hb;rw[<-hb];exact Nat.le_trans hst.size (Nat.le_trans X5.size (Ext.alloc (Ext.refl w5) _).size)
       refine⟨k+1,A6,c6,ys++[y'],by omega,by go_num,hB64.set_far _ (by omega) _,hB36,?_,?_,hTg.store 3 _,hst6,hU6⟩
       . rw[List.flatMap_append]
         simpa using hfar
       . show _=_
         rw[zap _ _ _ Hr.out,List.map_append,List.map_append,hD.out];simp[hb']
      case measure=>simp[intOf];omega
   . have hge:¬((k:Int)<(nv:Int)):=by omega
     have p0:wr.cell? ⟨w.heap.size+1,0,none⟩=some (.int .i64 p.f.number):=hB3.cell 0;have p1:wr.cell? ⟨w.heap.size+1,1,none⟩=some (.slice aw nw cw):=hB3.cell 1;have p2:wr.cell? ⟨w.heap.size+1,2,none⟩=some (.slice none 0 0):=hB3.cell 2;have p3:wr.cell? ⟨w.heap.size+1,3,none⟩=some (.slice U k cu):=hB3.cell 3;have s0:wr.cell? ⟨w.heap.size,0,none⟩=some (.int .i64 0):=hB4.cell 0;have s1:wr.cell? ⟨w.heap.size,1,none⟩=some (.slice none 0 0):=hB4.cell 1;have s2:wr.cell? ⟨w.heap.size,2,none⟩=some (.slice none 0 0):=hB4.cell 2;have s3:wr.cell? ⟨w.heap.size,3,none⟩=some (.slice none 0 0):=hB4.cell 3;have r0:=hB4.free 0;have r1:=hB4.free 1;have r2:=hB4.free 2;have r3:=hB4.free 3;have l4:=hB4.lt;have q1:IntKind.i64.wrap ((nw:Int)+0)=nw:=by rw[Int.add_zero];exact IntWalk.i64_in _ (by omega)
     have q2:IntKind.i64.wrap ((nw:Int)+k)=((nw+k:Nat):Int):=by rw[IntWalk.i64_in _ (by omega)];omega
     go_wp2
     go_region
     go_simp
     go_wp2
     (try simp only[Exit.inBlock,Exit.then])
     have hws:=hB4.set_ 0 (.int .i64 p.f.number);have hwt:=hws.set_ 1 (.slice aw nw cw);have hwu:=hwt.set_ 2 (.slice none 0 0);have BF:=(hwu.set_ 3 (.slice U k cu)).drew;have hle:wb.heap.size<=w.heap.size:=Nat.le_of_eq hwbs;have o1:=own.far hB4 (by decide) hle 0 (.int .i64 p.f.number);have o2:=o1.far hws (by decide) hle 1 (.slice aw nw cw);have o3:=o2.far hwt (by decide) hle 2 (.slice none 0 0);have o4:=(o3.far hwu (by decide) hle 3 (.slice U k cu)).drew
     have hS:Stays (fun b=>b≠w.heap.size) wr ((((wr.setCell ⟨w.heap.size,0,none⟩ (.int .i64 p.f.number)).setCell ⟨w.heap.size,1,none⟩ (.slice aw nw cw)).setCell ⟨w.heap.size,2,none⟩ (.slice none 0 0)).setCell ⟨w.heap.size,3,none⟩ (.slice U k cu)).drew:=
      (((((Stays.refl _ wr).set (fun h=>h rfl) _).set (fun h=>h rfl) _).set (fun h=>h rfl) _).set (fun h=>h rfl) _).trans (Stays.of_ext (Ext.refl _).drew)
     have hkn2:k=nv:=by omega
     have hwl:ws.length=nw:=by have:=G.words.len;simpa using this
     have hwords:=(G.words.stays hst (fun b hb=>(by have:=(Hp.out.lt (G.wfoot b hb)).2;exact⟨by omega,by omega⟩))).stays hS (fun b hb=>(by have:=(Hp.out.lt (G.wfoot b hb)).2;omega))
     have hlast:Stays (fun b=>¬Foot p b) w ((((wr.setCell ⟨w.heap.size,0,none⟩ (.int .i64 p.f.number)).setCell ⟨w.heap.size,1,none⟩ (.slice aw nw cw)).setCell ⟨w.heap.size,2,none⟩ (.slice none 0 0)).setCell ⟨w.heap.size,3,none⟩ (.slice U k cu)).drew:=by
      refine⟨Nat.le_trans G.stays.size (Nat.le_trans hst.size hS.size),fun b hb hlt=> ?_⟩;rw[hS.block b (by omega) (by omega),hst.block b ⟨by omega,by omega⟩ (by omega),G.stays.block b hb hlt]
     have hX:=hx0b.trans o4.ext;have h4r:=o4.reads;refine bodyPost_ret (zaJ (ty:=69) rfl _ _ w.heap.size _ _ (0,0) _ rfl BF underlying69 rfl (by kernel_rfl)) rfl ?_
     have hlen:ys.length=k:=by
      have h1:=congrArg List.length hD.out;simp only[List.length_map,List.length_take]at h1;omega
     refine⟨⟨(aw,cw),(none,0),(U,cu),p.f.number,ws,[],ys⟩,?_,?_,⟨⟨hnum,?_,hws1,⟨Reads.nil _ 1,(fun t ht=>by cases ht)⟩,?_⟩,fun y hy=> ?_⟩,?_,hlast,hX⟩
     . show Ending.returned (Value.tuple #[Value.agg #[.int .i64 p.f.number,.slice aw nw cw,.slice none 0 0,.slice U k cu],.bool (decide ((0:Int)<(nw:Int)+k))])=Ending.returned (Value.tuple #[Value.agg #[.int .i64 p.f.number,.slice aw ws.length cw,.slice none 0 0,.slice U ys.length cu],.bool (decide ((0:Int)<((ws.length+0+ys.length:Nat):Int)))])
       rw[hwl,hlen];simp
     . unfold bareV zaM
       rw[if_pos Hk.out,if_pos Hk.out,<-G.rowsEq,<-G.wsEq,hof,hD.out,hkn2,<-hlb,List.take_length,List.map_map];rfl
     . show Reads _ aw ws.length cw 1 (ws.map uv)
       rw[hwl];exact hwords
     . show Reads _ U ys.length cu 2 (ys.flatMap treeC)
       rw[hlen];exact h4r
     . refine(hT.at_ y hy).stays hS (fun b hb=> ?_)
       rcases hT.from_ y hy b hb with h|h
       . exact h.elim
       . omega
     . intro b hb
       rcases hb with(hb|hb|hb)|⟨y,hy,hb⟩
       . have hb:UsesA aw ws.length b:=hb
         rw[hwl]at hb;exact .inl (G.wfoot b hb)
       . exact absurd hb.1 (Nat.lt_irrefl 0)
       . have hb:UsesA U ys.length b:=hb
         rw[hlen]at hb;exact .inr (hwbs▸o4.uses_new hb)
       . rcases hT.from_ y hy b hb with h|h
         . exact h.elim
         . exact .inr (by omega)
 case true=>
  rw[hrep]at c3
  go_wp2
  have G:ValGo w0 w ((w.alloc (.cells #[.int .i64 0,.slice none 0 0,.slice none 0 0,.slice none 0 0] 69)).alloc (.cells #[.int .i64 p.f.number,.slice p.A p.ws.length p.c,.slice none 0 0,.slice none 0 0] 69)) p p.ws p.A p.ws.length p.c p.vs p.B p.vs.length p.d:=
   ⟨(BlkT.new w _ _ rfl).alloc _,BlkT.new _ _ _ (by simp),(Hp.out.blk.alloc _).alloc _,(hx0.alloc _).alloc _,Stays.of_ext (((Ext.refl w).alloc _).alloc _),(Hp.out.words.reads.ext (((Ext.refl w).alloc _).alloc _)),
     fun b hb=>.inr (.inl (Reads.row_uses hb Hp.out.words)),⟨Hp.out.vals.reads.ext (((Ext.refl w).alloc _).alloc _),fun r hr=>(Hp.out.each r hr).ext ((hx0.alloc _).alloc _)⟩,
     fun b hb=>(by have:=(Hp.out.vals.new_lt (Reads.row_uses hb Hp.out.vals)).2;omega),fun r hr b hb=>(by have:=Reads.uses_lt (Hp.out.each r hr) hb;have:=hx0.size;omega),(by unfold zaZ;rw[if_pos hrep]),(by unfold zas;rw[if_pos hrep])⟩
  have hnw1:p.ws.length<=1000000:=hw;have hnv1:p.vs.length<=1000000:=hs;have hws1:∀x∈p.ws,x<18446744073709551616:=hsm;clear c1 c2 c3 c6 c7 hw hs;generalize ((w.alloc (.cells #[.int .i64 0,.slice none 0 0,.slice none 0 0,.slice none 0 0] 69)).alloc (.cells #[.int .i64 p.f.number,.slice p.A p.ws.length p.c,.slice none 0 0,.slice none 0 0] 69))=w3 at*;generalize p.ws.length=nw at G hnw1⊢;generalize p.vs.length=nv at G hnv1⊢;generalize p.A=aw at G⊢;generalize p.c=cw at G⊢;generalize p.B=av at G⊢;generalize p.d=cv at G⊢;obtain⟨ws,hws⟩:∃ws,ws=p.ws:=⟨_,rfl⟩
  obtain⟨rows,hrows⟩:∃rows,rows=p.vs:=⟨_,rfl⟩
  rw[<-hws]at G hws1;rw[<-hrows]at G;clear hws hrows;have hsz3:=G.val.lt;have hlb:=zaN.length G.at_;obtain⟨wb,hwb,hwbs⟩:=zgC w3 (n:=w.heap.size) (by omega);have hx0b:Ext w0 wb:=ziI G.ext hwb (by rw[hwbs];exact hx0.size)
  go_loopw [9,81] (fun u i wr=>∃(k:Nat)(U:Option Addr)(cu:Nat)(ys:List MsgR),k<=nv/\i=.int .i64 (k:Int)/\BlkT wr w.heap.size 69 #[.int .i64 0,.slice none 0 0,.slice none 0 0,.slice none 0 0]/\BlkT wr (w.heap.size+1) 69 #[.int .i64 p.f.number,.slice aw nw cw,.slice none 0 0,.slice U k cu]/\Own wb wr 27 2 U k cu (ys.flatMap treeC)/\Hid (ys.map bare=(rows.take k).map (fun r=>sub m r.bs))/\Trees w3 wr (w.heap.size+1) U (fun _=>False) ys/\Stays (fun b=>b≠w.heap.size+1/\b<w3.heap.size) w3 wr/\(∀b,(Value.slice U 0 0).ownBlock=some b->w3.heap.size<=b)) (fun _ i _=>nv - (intOf i).toNat)
  case atStart=>exact⟨0,none,0,[],Nat.zero_le _,rfl,G.res,G.val,Own.nil hwb _ _,rfl,Trees.nil (Nat.le_refl _),Stays.refl _ _,(fun b h=>by cases h)⟩
  case round=>
   obtain⟨k,U,cu,ys,hkn,rfl,hB4,hB3,own,hD,hT,hst,hU⟩:=hrel;have hBP:=G.blk.stays hst ⟨hne1,G.blk.lt⟩;have y1:=hB3.lt;have y2:=hBP.lt;have d2:wr.cell? ⟨p.b,2,none⟩=some (.int .i64 p.f.kind):=hBP.cell 2;by_cases hlt:k<nv
   . have hltI:(k:Int)<nv:=by omega
     have hrw:=zaN.stays G.at_ hst (fun b hb=>⟨(G.raway b hb).2,Reads.uses_lt G.at_.1 hb⟩) (fun r hr b hb=>⟨(G.baway r hr b hb).2,Reads.uses_lt (G.at_.2 r hr) hb⟩);obtain⟨b5,off5,r,hav,hr,hb5,hbr,e0⟩:=hrw.row hlt;cases hav;have hrm:=List.mem_of_getElem? hr;have Xw:=own.ext;have y3:wr.cell? ⟨w.heap.size+1,3,none⟩=some (.slice U k cu):=hB3.cell 3;have f3:=hB3.free 3;have d5:wr.cell? ⟨p.b,5,none⟩=some (.int .i64 (m:Int)):=by rw[<-hof];exact hBP.cell 5
     have hrd:r.n<d:=by
      have h1:=Hlen.out r.bs (by rw[<-G.rowsEq];exact List.mem_map.2 ⟨r,hrm,rfl⟩);rw[hbr.length]at h1;exact h1
     have hcall:∀W,Ext wr W->Calls prog 97 #[.slice SA sn sc,.int .i64 (m:Int),.slice r.A r.n r.c] W fun e w'=>∃y,e=.returned (treeV y)/\bare y=sub m r.bs/\zah w' y/\(∀b,UsesT y b->W.heap.size<=b)/\Ext W w':=fun W h=>Ih.out W SA sn sc m r.A r.n r.c r.bs (HS.out.up ((hx0b.trans Xw).trans h)) hmS (hbr.up h) hrd
     unfold treeV at hcall;have Hcall:=zsp hcall;have Hr:=zsp hr;clear hcall hr
     go_wp2
     go_region_law (first
      |(go_simp;go_at_call 97;refine(Hcall.out _ xx).mono ?_;rintro e w5 ⟨y',rfl,hb',hT',hU',E5⟩;have X5:Ext wr w5:=Ext.trans xx E5;have y5:=X5.of_cell y3;have y5l:=Nat.lt_of_lt_of_le y1 X5.size)
      |(refine zcc zkg (by rfl) (.tmp 92) (.tmp 101) (by rfl) (by rfl) ((own.up X5).alloc _) (by rfl) (zbJ w5 (treeC y') 27 rfl rfl) (by simpa using zej [y']) (by omega) (by unfold maxLen;omega) ?_;intro A6 c6 w6 own6 g6 m6;have hB6:=((hB3.up X5).alloc _).beside ((own.up X5).alloc _) (by decide) g6;have hB64:=((hB4.up X5).alloc _).beside ((own.up X5).alloc _) (by decide) g6;have hl6:=hB6.lt;have hf6:=hB6.free 3;have hc6:w6.cell? ⟨w.heap.size+1,3,none⟩=some (.slice U k cu):=hB6.cell 3))
     all_goals
      go_simp
      go_wp2
      go_roundw
      case rel=>
       have hnew:∀b,UsesT y' b->wr.heap.size<=b:=fun b hb=>by
        have h:=hU' b hb
        first|exact h|simpa using h
       have hTg:=((hT.up X5).snoc hT' (fun b hb=>by
        have h:=hnew b hb;refine⟨by omega,fun q=> ?_⟩;have:=(own.block_new (g:=b) (by rw[zak U k cu 0 0];exact q)).2
        omega) (fun b hb=>.inr (Nat.le_trans hT.size (hnew b hb)))).grow (Ext.alloc (Ext.refl w5) _) g6 m6
       have hB36:=hB6.set_ 3 (.slice A6 (k+1) c6);have hfar:=own6.far hB6 (by decide) (show wb.heap.size<=w.heap.size+1 by omega) 3 (.slice A6 (k+1) c6)
       have hst6:Stays (fun b=>b≠w.heap.size+1/\b<w3.heap.size) w3 (w6.setCell ⟨w.heap.size+1,3,none⟩ (.slice A6 (k+1) c6)):=
        (((hst.trans (Stays.of_ext X5)).trans (Stays.of_ext (Ext.alloc (Ext.refl w5) _))).trans (Stays.grown g6 (fun b hb h=>by rw[zak U k cu 0 0]at hb;have:=hU b hb;omega))).set (fun h=>h.1 rfl) _
       have hU6:∀b,(Value.slice A6 0 0).ownBlock=some b->w3.heap.size<=b:=fun b hb=>by
        rcases m6 with q|q
        . rw[q]at hb;exact hU b hb
        . rw[q]at hb;injection hb with hb;rw[<-hb];exact Nat.le_trans hst.size (Nat.le_trans X5.size (Ext.alloc (Ext.refl w5) _).size)
       refine⟨k+1,A6,c6,ys++[y'],by omega,by go_num,hB64.set_far _ (by omega) _,hB36,?_,?_,hTg.store 3 _,hst6,hU6⟩
       . rw[List.flatMap_append]
         simpa using hfar
       . show _=_
         rw[zap _ _ _ Hr.out,List.map_append,List.map_append,hD.out];simp[hb']
      case measure=>simp[intOf];omega
   . have hge:¬((k:Int)<(nv:Int)):=by omega
     have p0:wr.cell? ⟨w.heap.size+1,0,none⟩=some (.int .i64 p.f.number):=hB3.cell 0;have p1:wr.cell? ⟨w.heap.size+1,1,none⟩=some (.slice aw nw cw):=hB3.cell 1;have p2:wr.cell? ⟨w.heap.size+1,2,none⟩=some (.slice none 0 0):=hB3.cell 2;have p3:wr.cell? ⟨w.heap.size+1,3,none⟩=some (.slice U k cu):=hB3.cell 3;have s0:wr.cell? ⟨w.heap.size,0,none⟩=some (.int .i64 0):=hB4.cell 0;have s1:wr.cell? ⟨w.heap.size,1,none⟩=some (.slice none 0 0):=hB4.cell 1;have s2:wr.cell? ⟨w.heap.size,2,none⟩=some (.slice none 0 0):=hB4.cell 2;have s3:wr.cell? ⟨w.heap.size,3,none⟩=some (.slice none 0 0):=hB4.cell 3;have r0:=hB4.free 0;have r1:=hB4.free 1;have r2:=hB4.free 2;have r3:=hB4.free 3;have l4:=hB4.lt;have q1:IntKind.i64.wrap ((nw:Int)+0)=nw:=by rw[Int.add_zero];exact IntWalk.i64_in _ (by omega)
     have q2:IntKind.i64.wrap ((nw:Int)+k)=((nw+k:Nat):Int):=by rw[IntWalk.i64_in _ (by omega)];omega
     go_wp2
     go_region
     go_simp
     go_wp2
     (try simp only[Exit.inBlock,Exit.then])
     have hws:=hB4.set_ 0 (.int .i64 p.f.number);have hwt:=hws.set_ 1 (.slice aw nw cw);have hwu:=hwt.set_ 2 (.slice none 0 0);have BF:=(hwu.set_ 3 (.slice U k cu)).drew;have hle:wb.heap.size<=w.heap.size:=Nat.le_of_eq hwbs;have o1:=own.far hB4 (by decide) hle 0 (.int .i64 p.f.number);have o2:=o1.far hws (by decide) hle 1 (.slice aw nw cw);have o3:=o2.far hwt (by decide) hle 2 (.slice none 0 0);have o4:=(o3.far hwu (by decide) hle 3 (.slice U k cu)).drew
     have hS:Stays (fun b=>b≠w.heap.size) wr ((((wr.setCell ⟨w.heap.size,0,none⟩ (.int .i64 p.f.number)).setCell ⟨w.heap.size,1,none⟩ (.slice aw nw cw)).setCell ⟨w.heap.size,2,none⟩ (.slice none 0 0)).setCell ⟨w.heap.size,3,none⟩ (.slice U k cu)).drew:=
      (((((Stays.refl _ wr).set (fun h=>h rfl) _).set (fun h=>h rfl) _).set (fun h=>h rfl) _).set (fun h=>h rfl) _).trans (Stays.of_ext (Ext.refl _).drew)
     have hkn2:k=nv:=by omega
     have hwl:ws.length=nw:=by have:=G.words.len;simpa using this
     have hwords:=(G.words.stays hst (fun b hb=>(by have:=(Hp.out.lt (G.wfoot b hb)).2;exact⟨by omega,by omega⟩))).stays hS (fun b hb=>(by have:=(Hp.out.lt (G.wfoot b hb)).2;omega))
     have hlast:Stays (fun b=>¬Foot p b) w ((((wr.setCell ⟨w.heap.size,0,none⟩ (.int .i64 p.f.number)).setCell ⟨w.heap.size,1,none⟩ (.slice aw nw cw)).setCell ⟨w.heap.size,2,none⟩ (.slice none 0 0)).setCell ⟨w.heap.size,3,none⟩ (.slice U k cu)).drew:=by
      refine⟨Nat.le_trans G.stays.size (Nat.le_trans hst.size hS.size),fun b hb hlt=> ?_⟩;rw[hS.block b (by omega) (by omega),hst.block b ⟨by omega,by omega⟩ (by omega),G.stays.block b hb hlt]
     have hX:=hx0b.trans o4.ext;have h4r:=o4.reads;refine bodyPost_ret (zaJ (ty:=69) rfl _ _ w.heap.size _ _ (0,0) _ rfl BF underlying69 rfl (by kernel_rfl)) rfl ?_
     have hlen:ys.length=k:=by
      have h1:=congrArg List.length hD.out;simp only[List.length_map,List.length_take]at h1;omega
     refine⟨⟨(aw,cw),(none,0),(U,cu),p.f.number,ws,[],ys⟩,?_,?_,⟨⟨hnum,?_,hws1,⟨Reads.nil _ 1,(fun t ht=>by cases ht)⟩,?_⟩,fun y hy=> ?_⟩,?_,hlast,hX⟩
     . show Ending.returned (Value.tuple #[Value.agg #[.int .i64 p.f.number,.slice aw nw cw,.slice none 0 0,.slice U k cu],.bool (decide ((0:Int)<(nw:Int)+k))])=Ending.returned (Value.tuple #[Value.agg #[.int .i64 p.f.number,.slice aw ws.length cw,.slice none 0 0,.slice U ys.length cu],.bool (decide ((0:Int)<((ws.length+0+ys.length:Nat):Int)))])
       rw[hwl,hlen];simp
     . unfold bareV zaM
       rw[if_pos Hk.out,if_pos Hk.out,<-G.rowsEq,<-G.wsEq,hof,hD.out,hkn2,<-hlb,List.take_length,List.map_map];rfl
     . show Reads _ aw ws.length cw 1 (ws.map uv)
       rw[hwl];exact hwords
     . show Reads _ U ys.length cu 2 (ys.flatMap treeC)
       rw[hlen];exact h4r
     . refine(hT.at_ y hy).stays hS (fun b hb=> ?_)
       rcases hT.from_ y hy b hb with h|h
       . exact h.elim
       . omega
     . intro b hb
       rcases hb with(hb|hb|hb)|⟨y,hy,hb⟩
       . have hb:UsesA aw ws.length b:=hb
         rw[hwl]at hb;exact .inl (G.wfoot b hb)
       . exact absurd hb.1 (Nat.lt_irrefl 0)
       . have hb:UsesA U ys.length b:=hb
         rw[hlen]at hb;exact .inr (hwbs▸o4.uses_new hb)
       . rcases hT.from_ y hy b hb with h|h
         . exact h.elim
         . exact .inr (by omega)
theorem zqS(ih:OfP S d sub)(hp:zbo w0 w p)(hS:zaj w0 SA sn sc S)(hlen:∀x∈zas p.f (p.vs.map BRow.bs),x.length<d)(hw:p.ws.length<=1000000)(hs:p.vs.length<=1000000)(hj:(p.vs.map BRow.bs).flatten.length<=1000000)(hk:¬p.f.kind=17):
 Calls prog 139 #[ptrP p,.slice SA sn sc] w fun e w'=>∃u:ValR,e=.returned (.tuple #[tvalV u,.bool (decide ((0:Int)<(manyU u:Nat)))])/\bareV u=zaM sub p.f p.ws (p.vs.map BRow.bs)/\ValAt w' u/\(∀b,UsesV u b->Foot p b\/w.heap.size<=b)/\Stays (fun b=>¬Foot p b) w w'/\Ext w0 w':=by
 have hnum:=hp.ok.number;have hsm:=hp.small;have hx0:=hp.words.ext;have hnew:=hp.new;have c1:w.cell? ⟨p.b,1,none⟩=some (.int .i64 p.f.number):=hp.blk.cell 1;have c2:w.cell? ⟨p.b,2,none⟩=some (.int .i64 p.f.kind):=hp.blk.cell 2;have c3:w.cell? ⟨p.b,3,none⟩=some (.bool p.f.rep):=hp.blk.cell 3;have c6:w.cell? ⟨p.b,6,none⟩=some (.slice p.A p.ws.length p.c):=hp.blk.cell 6;have c7:w.cell? ⟨p.b,7,none⟩=some (.slice p.B p.vs.length p.d):=hp.blk.cell 7;have hbl:=hp.blk.lt;have hne:p.b≠w.heap.size:=by omega
 have hne1:p.b≠w.heap.size+1:=by omega
 have k17:((p.f.kind:Int)==17)=false:=by rw[beq_eq_false_iff_ne];exact hk
 have Hp:=zsp hp;have HS:=zsp hS;have Hlen:=zsp hlen;have Hj:=zsp hj;have Ih:=zsp ih;have Hk:=zsp hk;clear hp hS hlen hj ih hk;unfold ptrP
 go_enter func139,ntmps139
 rcases hrep:p.f.rep with _|_
 case false=>
  rw[hrep]at c3;have hfr:=Hp.out.blk.free
  go_wp2
  have P4:=(Hp.out.blk.alloc (.cells #[.int .i64 0,.slice none 0 0,.slice none 0 0,.slice none 0 0] 69)).alloc (.cells #[.int .i64 p.f.number,.slice none 0 0,.slice none 0 0,.slice none 0 0] 69);have R4:=(BlkT.new w 69 #[.int .i64 0,.slice none 0 0,.slice none 0 0,.slice none 0 0] rfl).alloc (.cells #[.int .i64 p.f.number,.slice none 0 0,.slice none 0 0,.slice none 0 0] 69);have V4:BlkT ((w.alloc (.cells #[.int .i64 0,.slice none 0 0,.slice none 0 0,.slice none 0 0] 69)).alloc (.cells #[.int .i64 p.f.number,.slice none 0 0,.slice none 0 0,.slice none 0 0] 69)) (w.heap.size+1) 69 #[.int .i64 p.f.number,.slice none 0 0,.slice none 0 0,.slice none 0 0]:=BlkT.new _ _ _ (by simp);have ow4:=(Hp.out.words.alloc (.cells #[.int .i64 0,.slice none 0 0,.slice none 0 0,.slice none 0 0] 69)).alloc (.cells #[.int .i64 p.f.number,.slice none 0 0,.slice none 0 0,.slice none 0 0] 69);have rd4:=((Hp.out.vals.alloc (.cells #[.int .i64 0,.slice none 0 0,.slice none 0 0,.slice none 0 0] 69)).alloc (.cells #[.int .i64 p.f.number,.slice none 0 0,.slice none 0 0,.slice none 0 0] 69)).reads;have st4:=(Stays.of_ext (s:=fun b=>¬Foot p b) (((Ext.refl w).alloc (.cells #[.int .i64 0,.slice none 0 0,.slice none 0 0,.slice none 0 0] 69)).alloc (.cells #[.int .i64 p.f.number,.slice none 0 0,.slice none 0 0,.slice none 0 0] 69)))
  obtain⟨W4,hW4⟩:∃W4,W4=(w.alloc (.cells #[.int .i64 0,.slice none 0 0,.slice none 0 0,.slice none 0 0] 69)).alloc (.cells #[.int .i64 p.f.number,.slice none 0 0,.slice none 0 0,.slice none 0 0] 69):=⟨_,rfl⟩
  rw[<-hW4]at P4 R4 V4 ow4 st4 rd4⊢;clear hW4;clear c1 c2 c3 c6 c7;have d1:W4.cell? ⟨p.b,1,none⟩=some (.int .i64 p.f.number):=P4.cell 1;have d2:W4.cell? ⟨p.b,2,none⟩=some (.int .i64 p.f.kind):=P4.cell 2;have d6:W4.cell? ⟨p.b,6,none⟩=some (.slice p.A p.ws.length p.c):=P4.cell 6;have d7:W4.cell? ⟨p.b,7,none⟩=some (.slice p.B p.vs.length p.d):=P4.cell 7;have fr6:=P4.free 6;have fr7:=P4.free 7;have dl:=P4.lt;have vl:=V4.lt;have vf1:=V4.free 1;obtain⟨n1,hn1⟩:∃n1,n1=p.ws.length:=⟨_,rfl⟩
  obtain⟨n2,hn2⟩:∃n2:Nat,n2=p.vs.length:=⟨_,rfl⟩
  have e1:IntKind.i64.wrap ((p.ws.length:Int) - 1)=(p.ws.length:Int) - 1:=IntWalk.i64_in _ (by omega);have e3:IntKind.i64.wrap ((p.vs.length:Int) - 1)=(p.vs.length:Int) - 1:=IntWalk.i64_in _ (by omega)
  go_cut []from 22 (fun wz=>∃ws aw nw cw rows av nv cv,zlF w0 w wz p ws aw nw cw rows av nv cv)
  case first=>
   go_region
   rw[zgD p.ws.length];rw[zgD p.vs.length];generalize (if(1:Int)<(p.vs.length:Int)then(p.vs.length:Int) - 1 else 0)=t2;generalize (if(1:Int)<(p.ws.length:Int)then(p.ws.length:Int) - 1 else 0)=t1;obtain⟨rA,uA⟩:=ziJ (l:=p.ws.length - 1) ow4.reads (by omega);obtain⟨rB,uB⟩:=ziJ (l:=p.vs.length - 1) rd4 (by omega);have hbA:=fun b (hb:(Value.slice p.A 0 0).ownBlock=some b)=>ow4.not_blk P4 (by decide) hb
   have hbA2:=fun b (hb:(Value.slice p.A 0 0).ownBlock=some b)=>(Hp.out.words.new_lt hb).2
   generalize (if p.c=p.ws.length - 1 then p.A else Option.map (fun x=>x.add (p.ws.length - 1)) p.A)=aw at rA uA⊢;have hnw1:p.ws.length - (p.ws.length - 1)<=1000000:=by omega
   generalize p.ws.length - (p.ws.length - 1)=nw at rA hnw1⊢;generalize p.c - (p.ws.length - 1)=cw at rA⊢;generalize (if p.d=p.vs.length - 1 then p.B else Option.map (fun x=>x.add (p.vs.length - 1)) p.B)=av at rB uB⊢;have hnv1:p.vs.length - (p.vs.length - 1)<=1000000:=by omega
   generalize p.vs.length - (p.vs.length - 1)=nv at rB hnv1⊢;generalize p.d - (p.vs.length - 1)=cv at rB⊢;have hws1:∀x∈p.ws.drop (p.ws.length - 1),x<18446744073709551616:=fun x hx=>hsm x (List.mem_of_mem_drop hx)
   have P5:=((P4.set_ 6 (.slice aw nw cw)).set_ 7 (.slice av nv cv)).drew;have V5:=((V4.set_far 6 hne1 (.slice aw nw cw)).set_far 7 hne1 (.slice av nv cv)).drew;have R5:=((R4.set_far 6 hne (.slice aw nw cw)).set_far 7 hne (.slice av nv cv)).drew;have X5:=((ow4.ext.setCell (p:=⟨p.b,6,none⟩) hnew (.slice aw nw cw)).setCell (p:=⟨p.b,7,none⟩) hnew (.slice av nv cv)).drew;have st5:=((st4.set (p:=⟨p.b,6,none⟩) (fun h=>h (.inl rfl)) (.slice aw nw cw)).set (p:=⟨p.b,7,none⟩) (fun h=>h (.inl rfl)) (.slice av nv cv)).drew;have sp5:=(((Stays.refl (fun b=>b≠p.b) W4).set (p:=⟨p.b,6,none⟩) (fun h=>h rfl) (.slice aw nw cw)).set (p:=⟨p.b,7,none⟩) (fun h=>h rfl) (.slice av nv cv)).drew;have rA5:=rA.stays sp5 (fun b hb=>hbA b (uA _ b hb));have hbB:∀b,UsesA av nv b->b≠p.b/\b<w.heap.size:=fun b hb=>(by have h:=Hp.out.vals.new_lt (uB _ b hb);have h2:=Hp.out.vals.not_blk Hp.out.blk (by decide) (uB _ b hb);exact⟨h2,h.2⟩)
   have rB5:=rB.stays sp5 (fun b hb=>(hbB b hb).1)
   go_wp2
   go_meet
   refine⟨p.ws.drop (p.ws.length - 1),aw,nw,cw,(p.vs.drop (p.vs.length - 1)),av,nv,cv,R5,V5,P5,X5,st5,(by rw[List.map_drop];exact rA5),fun b hb=>.inr (.inl (uA _ b hb)),?_,?_,?_,(by unfold zaZ lastO;rw[if_neg (by rw[hrep];simp)]),?_,fun b hb=>(Hp.out.lt hb).2,hx0.size,hnw1,hnv1,hws1⟩
   . exact⟨(by rw[List.map_drop];exact rB5),fun r hr=>(Hp.out.each r (List.mem_of_mem_drop hr)).ext X5⟩
   . intro b hb;have:=hbB b hb;omega
   . intro r hr b hb;have:=Reads.uses_lt (Hp.out.each r (List.mem_of_mem_drop hr)) hb;have:=hx0.size;omega
   . unfold zas lastO;rw[if_neg (by rw[hrep];simp),if_neg Hk.out,List.map_drop,List.length_map]
  case rest=>
  clear e1 e3 d1 d2 d6 d7 fr6 fr7 dl vl vf1 P4 V4 R4 ow4 st4 rd4 hn1 n1 hn2 n2 hw hs hfr;obtain⟨ws,aw,nw,cw,rows,av,nv,cv,hmid⟩:=hcut
  rename World=>W5
  have d1:W5.cell? ⟨p.b,1,none⟩=some (.int .i64 p.f.number):=hmid.blk.cell 1;have d2:W5.cell? ⟨p.b,2,none⟩=some (.int .i64 p.f.kind):=hmid.blk.cell 2;have d6:W5.cell? ⟨p.b,6,none⟩=some (.slice aw nw cw):=hmid.blk.cell 6;have d7:W5.cell? ⟨p.b,7,none⟩=some (.slice av nv cv):=hmid.blk.cell 7;have v5:=hmid.val.lt;have dl5:=hmid.blk.lt;have vf:=hmid.val.free 1;have vc:W5.cell? ⟨w.heap.size+1,1,none⟩=some (.slice none 0 0):=hmid.val.cell 1;have hnw1:=hmid.nwl;have hnv1:=hmid.nvl;have hws1:=hmid.small;have G:=hmid.go;clear hmid
  go_wp2
  clear d1 d2 d6 d7 v5 dl5 vf vc;generalize (W5.setCell ⟨w.heap.size+1,1,none⟩ (.slice aw nw cw))=w3 at*;clear W5;have hsz3:=G.val.lt;have hlb:=zaN.length G.at_;obtain⟨wb,hwb,hwbs⟩:=zgC w3 (n:=w.heap.size) (by omega);have hx0b:Ext w0 wb:=ziI G.ext hwb (by rw[hwbs];exact hx0.size)
  go_loopw [9,81] (fun u i wr=>∃(k:Nat)(U:Option Addr)(cu:Nat),k<=nv/\i=.int .i64 (k:Int)/\BlkT wr w.heap.size 69 #[.int .i64 0,.slice none 0 0,.slice none 0 0,.slice none 0 0]/\BlkT wr (w.heap.size+1) 69 #[.int .i64 p.f.number,.slice aw nw cw,.slice U k cu,.slice none 0 0]/\Own wb wr 9 1 U k cu ((rows.take k).map fun r=>strV (textO r.bs))/\Stays (fun b=>b≠w.heap.size+1/\b<w3.heap.size) w3 wr/\(∀b,(Value.slice U 0 0).ownBlock=some b->w3.heap.size<=b)) (fun _ i _=>nv - (intOf i).toNat)
  case atStart=>exact⟨0,none,0,Nat.zero_le _,rfl,G.res,G.val,Own.nil hwb _ _,Stays.refl _ _,(fun b h=>by cases h)⟩
  case round=>
   obtain⟨k,U,cu,hkn,rfl,hB4,hB3,own,hst,hU⟩:=hrel;have hBP:=G.blk.stays hst ⟨hne1,G.blk.lt⟩;have y1:=hB3.lt;have y2:=hBP.lt;have d2:wr.cell? ⟨p.b,2,none⟩=some (.int .i64 p.f.kind):=hBP.cell 2;by_cases hlt:k<nv
   . have hltI:(k:Int)<nv:=by omega
     have hrw:=zaN.stays G.at_ hst (fun b hb=>⟨(G.raway b hb).2,Reads.uses_lt G.at_.1 hb⟩) (fun r hr b hb=>⟨(G.baway r hr b hb).2,Reads.uses_lt (G.at_.2 r hr) hb⟩);obtain⟨b5,off5,r,hav,hr,hb5,hbr,e0⟩:=hrw.row hlt;cases hav;have hrm:=List.mem_of_getElem? hr;have Xw:=own.ext;have y3:wr.cell? ⟨w.heap.size+1,2,none⟩=some (.slice U k cu):=hB3.cell 2;have f3:=hB3.free 2;have hcv:=hbr.convert (P:=prog) 46 5 9 underlying46 underlying5 underlying9;have Hr:=zsp hr;clear hr
     go_wp2_with (at_builtin;refine zbd zjj rfl (.tmp 105) (.tmp 108) rfl rfl (own.alloc _) rfl (zcF wr (.string ⟨r.bs.toArray⟩) 9 rfl) (by simp[Value.oneCell']) (by omega) (by unfold maxLen;omega) ?_;intro A6 c6 w6 own6 g6 m6;have hB6:=(hB3.alloc (.cells #[.string ⟨r.bs.toArray⟩] 9)).beside (own.alloc _) (by decide) g6;have hB64:=(hB4.alloc (.cells #[.string ⟨r.bs.toArray⟩] 9)).beside (own.alloc _) (by decide) g6;have hl6:=hB6.lt;have hf6:=hB6.free 2;have hc6:w6.cell? ⟨w.heap.size+1,2,none⟩=some (.slice U k cu):=hB6.cell 2)
     go_roundw
     case rel=>
      have hB36:=hB6.set_ 2 (.slice A6 (k+1) c6);have hfar:=own6.far hB6 (by decide) (show wb.heap.size<=w.heap.size+1 by omega) 2 (.slice A6 (k+1) c6)
      have hst6:Stays (fun b=>b≠w.heap.size+1/\b<w3.heap.size) w3 (w6.setCell ⟨w.heap.size+1,2,none⟩ (.slice A6 (k+1) c6)):=
       ((hst.trans (Stays.of_ext (Ext.alloc (Ext.refl wr) _))).trans (Stays.grown g6 (fun b hb h=>by rw[zak U k cu 0 0]at hb;have:=hU b hb;omega))).set (fun h=>h.1 rfl) _
      have hU6:∀b,(Value.slice A6 0 0).ownBlock=some b->w3.heap.size<=b:=fun b hb=>by
       rcases m6 with q|q
       . rw[q]at hb;exact hU b hb
       . rw[q]at hb;injection hb with hb;rw[<-hb];exact Nat.le_trans hst.size (Ext.alloc (Ext.refl wr) _).size
      refine⟨k+1,A6,c6,by omega,by go_num,hB64.set_far _ (by omega) _,hB36,?_,hst6,hU6⟩;rw[zap _ _ _ Hr.out,List.map_append];exact hfar
     case measure=>simp[intOf];omega
   . have hge:¬((k:Int)<(nv:Int)):=by omega
     have p0:wr.cell? ⟨w.heap.size+1,0,none⟩=some (.int .i64 p.f.number):=hB3.cell 0;have p1:wr.cell? ⟨w.heap.size+1,1,none⟩=some (.slice aw nw cw):=hB3.cell 1;have p2:wr.cell? ⟨w.heap.size+1,2,none⟩=some (.slice U k cu):=hB3.cell 2;have p3:wr.cell? ⟨w.heap.size+1,3,none⟩=some (.slice none 0 0):=hB3.cell 3;have s0:wr.cell? ⟨w.heap.size,0,none⟩=some (.int .i64 0):=hB4.cell 0;have s1:wr.cell? ⟨w.heap.size,1,none⟩=some (.slice none 0 0):=hB4.cell 1;have s2:wr.cell? ⟨w.heap.size,2,none⟩=some (.slice none 0 0):=hB4.cell 2;have s3:wr.cell? ⟨w.heap.size,3,none⟩=some (.slice none 0 0):=hB4.cell 3;have r0:=hB4.free 0;have r1:=hB4.free 1;have r2:=hB4.free 2;have r3:=hB4.free 3;have l4:=hB4.lt;have q1:IntKind.i64.wrap ((nw:Int)+0)=nw:=by rw[Int.add_zero];exact IntWalk.i64_in _ (by omega)
     have q2:IntKind.i64.wrap ((nw:Int)+k)=((nw+k:Nat):Int):=by rw[IntWalk.i64_in _ (by omega)];omega
     go_wp2
     go_region
     go_simp
     go_wp2
     (try simp only[Exit.inBlock,Exit.then])
     have hws:=hB4.set_ 0 (.int .i64 p.f.number);have hwt:=hws.set_ 1 (.slice aw nw cw);have hwu:=hwt.set_ 2 (.slice U k cu);have BF:=(hwu.set_ 3 (.slice none 0 0)).drew;have hle:wb.heap.size<=w.heap.size:=Nat.le_of_eq hwbs;have o1:=own.far hB4 (by decide) hle 0 (.int .i64 p.f.number);have o2:=o1.far hws (by decide) hle 1 (.slice aw nw cw);have o3:=o2.far hwt (by decide) hle 2 (.slice U k cu);have o4:=(o3.far hwu (by decide) hle 3 (.slice none 0 0)).drew
     have hS:Stays (fun b=>b≠w.heap.size) wr ((((wr.setCell ⟨w.heap.size,0,none⟩ (.int .i64 p.f.number)).setCell ⟨w.heap.size,1,none⟩ (.slice aw nw cw)).setCell ⟨w.heap.size,2,none⟩ (.slice U k cu)).setCell ⟨w.heap.size,3,none⟩ (.slice none 0 0)).drew:=
      (((((Stays.refl _ wr).set (fun h=>h rfl) _).set (fun h=>h rfl) _).set (fun h=>h rfl) _).set (fun h=>h rfl) _).trans (Stays.of_ext (Ext.refl _).drew)
     have hkn2:k=nv:=by omega
     have hwl:ws.length=nw:=by have:=G.words.len;simpa using this
     have hwords:=(G.words.stays hst (fun b hb=>(by have:=(Hp.out.lt (G.wfoot b hb)).2;exact⟨by omega,by omega⟩))).stays hS (fun b hb=>(by have:=(Hp.out.lt (G.wfoot b hb)).2;omega))
     have hlast:Stays (fun b=>¬Foot p b) w ((((wr.setCell ⟨w.heap.size,0,none⟩ (.int .i64 p.f.number)).setCell ⟨w.heap.size,1,none⟩ (.slice aw nw cw)).setCell ⟨w.heap.size,2,none⟩ (.slice U k cu)).setCell ⟨w.heap.size,3,none⟩ (.slice none 0 0)).drew:=by
      refine⟨Nat.le_trans G.stays.size (Nat.le_trans hst.size hS.size),fun b hb hlt=> ?_⟩;rw[hS.block b (by omega) (by omega),hst.block b ⟨by omega,by omega⟩ (by omega),G.stays.block b hb hlt]
     have hX:=hx0b.trans o4.ext;have h4r:=o4.reads;refine bodyPost_ret (zaJ (ty:=69) rfl _ _ w.heap.size _ _ (0,0) _ rfl BF underlying69 rfl (by kernel_rfl)) rfl ?_;have hrl:rows.length=k:=by omega
     have htk:rows.take k=rows:=by rw[<-hrl,List.take_length]
     rw[htk]at h4r;refine⟨⟨(aw,cw),(U,cu),(none,0),p.f.number,ws,rows.map fun r=>textO r.bs,[]⟩,?_,?_,⟨⟨hnum,?_,hws1,⟨?_,fun t ht=> ?_⟩,Reads.nil _ 2⟩,(fun y hy=>by cases hy)⟩,?_,hlast,hX⟩
     . show Ending.returned (Value.tuple #[Value.agg #[.int .i64 p.f.number,.slice aw nw cw,.slice U k cu,.slice none 0 0],.bool (decide ((0:Int)<(nw:Int)+k))])=Ending.returned (Value.tuple #[Value.agg #[.int .i64 p.f.number,.slice aw ws.length cw,.slice U (rows.map fun r=>textO r.bs).length cu,.slice none 0 0],.bool (decide ((0:Int)<((ws.length+(rows.map fun r=>textO r.bs).length+0:Nat):Int)))])
       rw[hwl,List.length_map,hrl];simp
     . unfold bareV zaM
       rw[if_neg Hk.out,if_neg Hk.out,<-G.rowsEq,<-G.wsEq,List.map_map];rfl
     . show Reads _ aw ws.length cw 1 (ws.map uv)
       rw[hwl];exact hwords
     . show Reads _ U (rows.map fun r=>textO r.bs).length cu 1 ((rows.map fun r=>textO r.bs).map strV)
       rw[List.length_map,hrl,List.map_map];exact h4r
     . obtain⟨r,hr,rfl⟩:=List.mem_map.1 ht
       have h1:=(G.at_.2 r hr).length;have h2:=Reads.max (G.at_.2 r hr);have h3:=Reads.cap (G.at_.2 r hr);show r.bs.toArray.size<=maxLen;rw[List.size_toArray];omega
     . intro b hb
       rcases hb with(hb|hb|hb)|⟨y,hy,hb⟩
       . have hb:UsesA aw ws.length b:=hb
         rw[hwl]at hb;exact .inl (G.wfoot b hb)
       . have hb:UsesA U (rows.map fun r=>textO r.bs).length b:=hb
         rw[List.length_map,hrl]at hb;exact .inr (hwbs▸o4.uses_new hb)
       . exact absurd hb.1 (Nat.lt_irrefl 0)
       . cases hy
 case true=>
  rw[hrep]at c3
  go_wp2
  have G:ValGo w0 w ((w.alloc (.cells #[.int .i64 0,.slice none 0 0,.slice none 0 0,.slice none 0 0] 69)).alloc (.cells #[.int .i64 p.f.number,.slice p.A p.ws.length p.c,.slice none 0 0,.slice none 0 0] 69)) p p.ws p.A p.ws.length p.c p.vs p.B p.vs.length p.d:=
   ⟨(BlkT.new w _ _ rfl).alloc _,BlkT.new _ _ _ (by simp),(Hp.out.blk.alloc _).alloc _,(hx0.alloc _).alloc _,Stays.of_ext (((Ext.refl w).alloc _).alloc _),(Hp.out.words.reads.ext (((Ext.refl w).alloc _).alloc _)),
     fun b hb=>.inr (.inl (Reads.row_uses hb Hp.out.words)),⟨Hp.out.vals.reads.ext (((Ext.refl w).alloc _).alloc _),fun r hr=>(Hp.out.each r hr).ext ((hx0.alloc _).alloc _)⟩,
     fun b hb=>(by have:=(Hp.out.vals.new_lt (Reads.row_uses hb Hp.out.vals)).2;omega),fun r hr b hb=>(by have:=Reads.uses_lt (Hp.out.each r hr) hb;have:=hx0.size;omega),(by unfold zaZ;rw[if_pos hrep]),(by unfold zas;rw[if_pos hrep])⟩
  have hnw1:p.ws.length<=1000000:=hw;have hnv1:p.vs.length<=1000000:=hs;have hws1:∀x∈p.ws,x<18446744073709551616:=hsm;clear c1 c2 c3 c6 c7 hw hs;generalize ((w.alloc (.cells #[.int .i64 0,.slice none 0 0,.slice none 0 0,.slice none 0 0] 69)).alloc (.cells #[.int .i64 p.f.number,.slice p.A p.ws.length p.c,.slice none 0 0,.slice none 0 0] 69))=w3 at*;generalize p.ws.length=nw at G hnw1⊢;generalize p.vs.length=nv at G hnv1⊢;generalize p.A=aw at G⊢;generalize p.c=cw at G⊢;generalize p.B=av at G⊢;generalize p.d=cv at G⊢;obtain⟨ws,hws⟩:∃ws,ws=p.ws:=⟨_,rfl⟩
  obtain⟨rows,hrows⟩:∃rows,rows=p.vs:=⟨_,rfl⟩
  rw[<-hws]at G hws1;rw[<-hrows]at G;clear hws hrows;have hsz3:=G.val.lt;have hlb:=zaN.length G.at_;obtain⟨wb,hwb,hwbs⟩:=zgC w3 (n:=w.heap.size) (by omega);have hx0b:Ext w0 wb:=ziI G.ext hwb (by rw[hwbs];exact hx0.size)
  go_loopw [9,81] (fun u i wr=>∃(k:Nat)(U:Option Addr)(cu:Nat),k<=nv/\i=.int .i64 (k:Int)/\BlkT wr w.heap.size 69 #[.int .i64 0,.slice none 0 0,.slice none 0 0,.slice none 0 0]/\BlkT wr (w.heap.size+1) 69 #[.int .i64 p.f.number,.slice aw nw cw,.slice U k cu,.slice none 0 0]/\Own wb wr 9 1 U k cu ((rows.take k).map fun r=>strV (textO r.bs))/\Stays (fun b=>b≠w.heap.size+1/\b<w3.heap.size) w3 wr/\(∀b,(Value.slice U 0 0).ownBlock=some b->w3.heap.size<=b)) (fun _ i _=>nv - (intOf i).toNat)
  case atStart=>exact⟨0,none,0,Nat.zero_le _,rfl,G.res,G.val,Own.nil hwb _ _,Stays.refl _ _,(fun b h=>by cases h)⟩
  case round=>
   obtain⟨k,U,cu,hkn,rfl,hB4,hB3,own,hst,hU⟩:=hrel;have hBP:=G.blk.stays hst ⟨hne1,G.blk.lt⟩;have y1:=hB3.lt;have y2:=hBP.lt;have d2:wr.cell? ⟨p.b,2,none⟩=some (.int .i64 p.f.kind):=hBP.cell 2;by_cases hlt:k<nv
   . have hltI:(k:Int)<nv:=by omega
     have hrw:=zaN.stays G.at_ hst (fun b hb=>⟨(G.raway b hb).2,Reads.uses_lt G.at_.1 hb⟩) (fun r hr b hb=>⟨(G.baway r hr b hb).2,Reads.uses_lt (G.at_.2 r hr) hb⟩);obtain⟨b5,off5,r,hav,hr,hb5,hbr,e0⟩:=hrw.row hlt;cases hav;have hrm:=List.mem_of_getElem? hr;have Xw:=own.ext;have y3:wr.cell? ⟨w.heap.size+1,2,none⟩=some (.slice U k cu):=hB3.cell 2;have f3:=hB3.free 2;have hcv:=hbr.convert (P:=prog) 46 5 9 underlying46 underlying5 underlying9;have Hr:=zsp hr;clear hr
     go_wp2_with (at_builtin;refine zbd zjj rfl (.tmp 105) (.tmp 108) rfl rfl (own.alloc _) rfl (zcF wr (.string ⟨r.bs.toArray⟩) 9 rfl) (by simp[Value.oneCell']) (by omega) (by unfold maxLen;omega) ?_;intro A6 c6 w6 own6 g6 m6;have hB6:=(hB3.alloc (.cells #[.string ⟨r.bs.toArray⟩] 9)).beside (own.alloc _) (by decide) g6;have hB64:=(hB4.alloc (.cells #[.string ⟨r.bs.toArray⟩] 9)).beside (own.alloc _) (by decide) g6;have hl6:=hB6.lt;have hf6:=hB6.free 2;have hc6:w6.cell? ⟨w.heap.size+1,2,none⟩=some (.slice U k cu):=hB6.cell 2)
     go_roundw
     case rel=>
      have hB36:=hB6.set_ 2 (.slice A6 (k+1) c6);have hfar:=own6.far hB6 (by decide) (show wb.heap.size<=w.heap.size+1 by omega) 2 (.slice A6 (k+1) c6)
      have hst6:Stays (fun b=>b≠w.heap.size+1/\b<w3.heap.size) w3 (w6.setCell ⟨w.heap.size+1,2,none⟩ (.slice A6 (k+1) c6)):=
       ((hst.trans (Stays.of_ext (Ext.alloc (Ext.refl wr) _))).trans (Stays.grown g6 (fun b hb h=>by rw[zak U k cu 0 0]at hb;have:=hU b hb;omega))).set (fun h=>h.1 rfl) _
      have hU6:∀b,(Value.slice A6 0 0).ownBlock=some b->w3.heap.size<=b:=fun b hb=>by
       rcases m6 with q|q
       . rw[q]at hb;exact hU b hb
       . rw[q]at hb;injection hb with hb;rw[<-hb];exact Nat.le_trans hst.size (Ext.alloc (Ext.refl wr) _).size
      refine⟨k+1,A6,c6,by omega,by go_num,hB64.set_far _ (by omega) _,hB36,?_,hst6,hU6⟩;rw[zap _ _ _ Hr.out,List.map_append];exact hfar
     case measure=>simp[intOf];omega
   . have hge:¬((k:Int)<(nv:Int)):=by omega
     have p0:wr.cell? ⟨w.heap.size+1,0,none⟩=some (.int .i64 p.f.number):=hB3.cell 0;have p1:wr.cell? ⟨w.heap.size+1,1,none⟩=some (.slice aw nw cw):=hB3.cell 1;have p2:wr.cell? ⟨w.heap.size+1,2,none⟩=some (.slice U k cu):=hB3.cell 2;have p3:wr.cell? ⟨w.heap.size+1,3,none⟩=some (.slice none 0 0):=hB3.cell 3;have s0:wr.cell? ⟨w.heap.size,0,none⟩=some (.int .i64 0):=hB4.cell 0;have s1:wr.cell? ⟨w.heap.size,1,none⟩=some (.slice none 0 0):=hB4.cell 1;have s2:wr.cell? ⟨w.heap.size,2,none⟩=some (.slice none 0 0):=hB4.cell 2;have s3:wr.cell? ⟨w.heap.size,3,none⟩=some (.slice none 0 0):=hB4.cell 3;have r0:=hB4.free 0;have r1:=hB4.free 1;have r2:=hB4.free 2;have r3:=hB4.free 3;have l4:=hB4.lt;have q1:IntKind.i64.wrap ((nw:Int)+0)=nw:=by rw[Int.add_zero];exact IntWalk.i64_in _ (by omega)
     have q2:IntKind.i64.wrap ((nw:Int)+k)=((nw+k:Nat):Int):=by rw[IntWalk.i64_in _ (by omega)];omega
     go_wp2
     go_region
     go_simp
     go_wp2
     (try simp only[Exit.inBlock,Exit.then])
     have hws:=hB4.set_ 0 (.int .i64 p.f.number);have hwt:=hws.set_ 1 (.slice aw nw cw);have hwu:=hwt.set_ 2 (.slice U k cu);have BF:=(hwu.set_ 3 (.slice none 0 0)).drew;have hle:wb.heap.size<=w.heap.size:=Nat.le_of_eq hwbs;have o1:=own.far hB4 (by decide) hle 0 (.int .i64 p.f.number);have o2:=o1.far hws (by decide) hle 1 (.slice aw nw cw);have o3:=o2.far hwt (by decide) hle 2 (.slice U k cu);have o4:=(o3.far hwu (by decide) hle 3 (.slice none 0 0)).drew
     have hS:Stays (fun b=>b≠w.heap.size) wr ((((wr.setCell ⟨w.heap.size,0,none⟩ (.int .i64 p.f.number)).setCell ⟨w.heap.size,1,none⟩ (.slice aw nw cw)).setCell ⟨w.heap.size,2,none⟩ (.slice U k cu)).setCell ⟨w.heap.size,3,none⟩ (.slice none 0 0)).drew:=
      (((((Stays.refl _ wr).set (fun h=>h rfl) _).set (fun h=>h rfl) _).set (fun h=>h rfl) _).set (fun h=>h rfl) _).trans (Stays.of_ext (Ext.refl _).drew)
     have hkn2:k=nv:=by omega
     have hwl:ws.length=nw:=by have:=G.words.len;simpa using this
     have hwords:=(G.words.stays hst (fun b hb=>(by have:=(Hp.out.lt (G.wfoot b hb)).2;exact⟨by omega,by omega⟩))).stays hS (fun b hb=>(by have:=(Hp.out.lt (G.wfoot b hb)).2;omega))
     have hlast:Stays (fun b=>¬Foot p b) w ((((wr.setCell ⟨w.heap.size,0,none⟩ (.int .i64 p.f.number)).setCell ⟨w.heap.size,1,none⟩ (.slice aw nw cw)).setCell ⟨w.heap.size,2,none⟩ (.slice U k cu)).setCell ⟨w.heap.size,3,none⟩ (.slice none 0 0)).drew:=by
      refine⟨Nat.le_trans G.stays.size (Nat.le_trans hst.size hS.size),fun b hb hlt=> ?_⟩;rw[hS.block b (by omega) (by omega),hst.block b ⟨by omega,by omega⟩ (by omega),G.stays.block b hb hlt]
     have hX:=hx0b.trans o4.ext;have h4r:=o4.reads;refine bodyPost_ret (zaJ (ty:=69) rfl _ _ w.heap.size _ _ (0,0) _ rfl BF underlying69 rfl (by kernel_rfl)) rfl ?_;have hrl:rows.length=k:=by omega
     have htk:rows.take k=rows:=by rw[<-hrl,List.take_length]
     rw[htk]at h4r;refine⟨⟨(aw,cw),(U,cu),(none,0),p.f.number,ws,rows.map fun r=>textO r.bs,[]⟩,?_,?_,⟨⟨hnum,?_,hws1,⟨?_,fun t ht=> ?_⟩,Reads.nil _ 2⟩,(fun y hy=>by cases hy)⟩,?_,hlast,hX⟩
     . show Ending.returned (Value.tuple #[Value.agg #[.int .i64 p.f.number,.slice aw nw cw,.slice U k cu,.slice none 0 0],.bool (decide ((0:Int)<(nw:Int)+k))])=Ending.returned (Value.tuple #[Value.agg #[.int .i64 p.f.number,.slice aw ws.length cw,.slice U (rows.map fun r=>textO r.bs).length cu,.slice none 0 0],.bool (decide ((0:Int)<((ws.length+(rows.map fun r=>textO r.bs).length+0:Nat):Int)))])
       rw[hwl,List.length_map,hrl];simp
     . unfold bareV zaM
       rw[if_neg Hk.out,if_neg Hk.out,<-G.rowsEq,<-G.wsEq,List.map_map];rfl
     . show Reads _ aw ws.length cw 1 (ws.map uv)
       rw[hwl];exact hwords
     . show Reads _ U (rows.map fun r=>textO r.bs).length cu 1 ((rows.map fun r=>textO r.bs).map strV)
       rw[List.length_map,hrl,List.map_map];exact h4r
     . obtain⟨r,hr,rfl⟩:=List.mem_map.1 ht
       have h1:=(G.at_.2 r hr).length;have h2:=Reads.max (G.at_.2 r hr);have h3:=Reads.cap (G.at_.2 r hr);show r.bs.toArray.size<=maxLen;rw[List.size_toArray];omega
     . intro b hb
       rcases hb with(hb|hb|hb)|⟨y,hy,hb⟩
       . have hb:UsesA aw ws.length b:=hb
         rw[hwl]at hb;exact .inl (G.wfoot b hb)
       . have hb:UsesA U (rows.map fun r=>textO r.bs).length b:=hb
         rw[List.length_map,hrl]at hb;exact .inr (hwbs▸o4.uses_new hb)
       . exact absurd hb.1 (Nat.lt_irrefl 0)
       . cases hy
end Go.Proofs.YtlhbllaojjelcaaGreat
