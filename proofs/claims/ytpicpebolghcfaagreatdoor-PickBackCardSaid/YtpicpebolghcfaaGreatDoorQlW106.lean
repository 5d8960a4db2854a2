/- Layer 20: the reference's Value. (Printed by gen_value20.py.) -/
import Derived.Test.YtpicpebolghcfaaGreatDoorQlW107
import Derived.Test.YtpicpebolghcfaaGreatDoorQlW105

set_option linter.unusedVariables false
set_option linter.unusedSimpArgs false
set_option maxRecDepth 100000
set_option maxHeartbeats 4000000
namespace Go.Proofs.YtpicpebolghcfaaGreatDoor
open Go.RowKit Go.Shelf Tryz
structure VLp(w w5 wr:World)(FC cs:Array Value)(e:TypeId)(size:Nat)(A:Option Addr)(n c:Nat)(xs:List Value):Prop where
 fld:BlkT wr w.heap.size 43 FC
 res:BlkT wr (w.heap.size+1) 48 #[.int .i64 0,.slice none 0 0,.slice none 0 0,.slice none 0 0]
 out:BlkT wr (w.heap.size+1+1) 48 cs
 own:Own w wr e size A n c xs
 fresh:∀b,(Value.slice A 0 0).ownBlock=some b->w5.heap.size<=b
 stays:Stays (fun b=>b≠w.heap.size+1+1) w5 wr
section
variable {w w5 wr W w7:World} {FC cs:Array Value} {e:TypeId} {size n c n7 c7:Nat} {A A7:Option Addr} {xs ys:List Value}
theorem VLp.up(h:VLp w w5 wr FC cs e size A n c xs)(E:Ext wr W):VLp w w5 W FC cs e size A n c xs:=
 ⟨h.fld.up E,h.res.up E,h.out.up E,h.own.up E,h.fresh,h.stays.trans (Stays.of_ext E)⟩
theorem VLp.step(h:VLp w w5 wr FC cs e size A n c xs)(hF:e≠43)(hV:e≠48)(own7:Own w w7 e size A7 n7 c7 ys)(g:wr.grownBy w7 (Value.slice A n c).ownBlock)(m:Moved wr A A7)(i:Nat)(v:Value):
 VLp w w5 (w7.setCell ⟨w.heap.size+1+1,i,none⟩ v) FC (cs.setIfInBounds i v) e size A7 n7 c7 ys:=by
 have ho:=h.out.beside h.own hV g;refine⟨(h.fld.beside h.own hF g).set_far i (by omega) v,(h.res.beside h.own hV g).set_far i (by omega) v,ho.set_ i v,own7.far ho hV (by omega) i v,fun b hb=> ?_,?_⟩
 . rcases m with q|q
   . exact h.fresh b (by rw[<-q];exact hb)
   . rw[q]at hb
     injection hb with hb;rw[<-hb];exact h.stays.size
 . have hS:Stays (fun b=>(Value.slice A 0 0).ownBlock≠some b) wr w7:=Stays.grown g (fun k hk=>by rw[zaV A n c 0 0]at hk;exact fun q=>q hk)
   refine⟨?_,fun b hs hb=> ?_⟩
   . exact Nat.le_trans h.stays.size (Nat.le_trans hS.size ((Stays.refl (fun b=>b≠w.heap.size+1+1) w7).set (fun e=>e rfl) v (p:=⟨w.heap.size+1+1,i,none⟩)).size)
   . have h1:=h.stays.block b hs hb
     have h2:=hS.block b (fun q=>by have:=h.fresh b q;omega) (Nat.lt_of_lt_of_le hb h.stays.size);have h3:=((Stays.refl (fun b=>b≠w.heap.size+1+1) w7).set (fun e=>e rfl) v (p:=⟨w.heap.size+1+1,i,none⟩)).block b hs (Nat.lt_of_lt_of_le hb (Nat.le_trans h.stays.size hS.size));exact h3.trans (h2.trans h1)
theorem VLp.fin(h:VLp w w5 wr FC cs e size A n c xs)(hV:e≠48)(u0 u1 u2 u3:Value):
 BlkT ((((wr.setCell ⟨w.heap.size+1,0,none⟩ u0).setCell ⟨w.heap.size+1,1,none⟩ u1).setCell ⟨w.heap.size+1,2,none⟩ u2).setCell ⟨w.heap.size+1,3,none⟩ u3) (w.heap.size+1) 48 #[u0,u1,u2,u3]/\
 Own w ((((wr.setCell ⟨w.heap.size+1,0,none⟩ u0).setCell ⟨w.heap.size+1,1,none⟩ u1).setCell ⟨w.heap.size+1,2,none⟩ u2).setCell ⟨w.heap.size+1,3,none⟩ u3) e size A n c xs/\
 Stays (fun b=>b≠w.heap.size+1) wr ((((wr.setCell ⟨w.heap.size+1,0,none⟩ u0).setCell ⟨w.heap.size+1,1,none⟩ u1).setCell ⟨w.heap.size+1,2,none⟩ u2).setCell ⟨w.heap.size+1,3,none⟩ u3):=by
 have r0:=h.res;have r1:=r0.set_ 0 u0;have r2:=r1.set_ 1 u1;have r3:=r2.set_ 2 u2;have r4:=r3.set_ 3 u3;have hl:w.heap.size<=w.heap.size+1:=Nat.le_succ _;exact⟨r4,(((h.own.far r0 hV hl 0 u0).far r1 hV hl 1 u1).far r2 hV hl 2 u2).far r3 hV hl 3 u3,((((Stays.refl _ wr).set (fun e=>e rfl) _).set (fun e=>e rfl) _).set (fun e=>e rfl) _).set (fun e=>e rfl) _⟩
end
def zhH(w:World)(A V:Option Addr)(n c m k:Nat)(f:zab)(d:Int)(its:List (List UInt8)):Prop:=
 ∀W,Ext w W->Calls prog 56 #[.slice A n c,zaq f,.slice V m k,.int .i64 d] W fun e w'=>∃(l:List BRow)(A':Option Addr)(n' c':Nat),e=.returned (.tuple #[.slice A' n' c',.int .i64 0])/\Ext W w'/\ziD w W w' A' n' c' l/\zat l=its
variable{l:List BRow}{n c:Nat}{A:Option Addr}{w0 w w':World}
theorem ziD.len(h:ziD w0 w w' A n c l):l.length=n:=by
 have:=h.reads.len;simp at this;exact this
variable{k:Nat}
theorem ziD.row(h:ziD w0 w w' A n c l){W:World}{s:Nat->Prop}(hS:Stays s w' W)(hs:∀b,w.heap.size<=b->s b)(hE:Ext w0 W)(hk:k<n):∃b off r,A=some ⟨b,off,none⟩/\l[k]?=some r/\b<W.heap.size/\zac W r.A r.n r.c r.bs/\W.cell? ⟨b,off+k,none⟩=some (.slice r.A r.n r.c):=by
 have hr:=h.reads.stays hS (fun b hb=>hs b (h.new b hb));obtain⟨b,off,e,hb,hc⟩:=hr.at_ (by omega);have hl:=h.len;have hx:l[k]?=some (l[k]'(by omega)):=List.getElem?_eq_getElem (by omega);exact⟨b,off,_,e,hx,hb,(h.old _ (List.mem_of_getElem? hx)).up hE,hc k _ (by rw[List.getElem?_map,hx];rfl)⟩
variable{its:List (List UInt8)}{d:Int}{f:zab}{m:Nat}{V:Option Addr}
theorem zkg(h17:f.kind≠17)(hn:zaf f.kind=false)(hit:zhH w A V n c m k f d its)(hits:its.length<=100001)(hb:∀b∈its,b.length<=100000)(hnum: -9223372036854775808<=f.number/\f.number<9223372036854775808):
 Calls prog 27 #[.slice A n c,zaq f,.slice V m k,.int .i64 d] w fun e w'=>∃y:ValR,e=.returned (tvalV y)/\bareV y=⟨(),(),(),f.number,[],its.map textO,[]⟩/\ValAt w' y/\Ext w w':=by
 have q17:(f.kind==17)=false:=by rw[beq_eq_false_iff_ne];exact h17
 have hkn:=fun W:World=>zbz f.kind W
 rw[hn]at hkn;unfold zhH at hit;have Hkn:=zsz hkn;have Hit:=zsz hit;have Hb:=zsz hb;have Hnum:=zsz hnum;obtain⟨fname,fnum,fkind,frep,fpk,fof⟩:=f;simp only at*;unfold zaq at*;simp only at*;clear hkn hit hb hn hnum
 go_enter func27,ntmps27
 go_upto_region 2 with fail
 have B1:BlkT (((w.alloc (.cells #[.string fname,.int .i64 fnum,.int .i64 fkind,.bool frep,.bool fpk,.int .i64 fof] 43)).alloc (.cells #[.int .i64 0,.slice none 0 0,.slice none 0 0,.slice none 0 0] 48)).alloc (.cells #[.int .i64 fnum,.slice none 0 0,.slice none 0 0,.slice none 0 0] 48)) w.heap.size 43 #[.string fname,.int .i64 fnum,.int .i64 fkind,.bool frep,.bool fpk,.int .i64 fof]:=((BlkT.new w 43 #[.string fname,.int .i64 fnum,.int .i64 fkind,.bool frep,.bool fpk,.int .i64 fof] rfl).alloc _).alloc _;have B2:BlkT (((w.alloc (.cells #[.string fname,.int .i64 fnum,.int .i64 fkind,.bool frep,.bool fpk,.int .i64 fof] 43)).alloc (.cells #[.int .i64 0,.slice none 0 0,.slice none 0 0,.slice none 0 0] 48)).alloc (.cells #[.int .i64 fnum,.slice none 0 0,.slice none 0 0,.slice none 0 0] 48)) (w.heap.size+1) 48 #[.int .i64 0,.slice none 0 0,.slice none 0 0,.slice none 0 0]:=(BlkT.new _ _ _ (by simp)).alloc _;have B3:BlkT (((w.alloc (.cells #[.string fname,.int .i64 fnum,.int .i64 fkind,.bool frep,.bool fpk,.int .i64 fof] 43)).alloc (.cells #[.int .i64 0,.slice none 0 0,.slice none 0 0,.slice none 0 0] 48)).alloc (.cells #[.int .i64 fnum,.slice none 0 0,.slice none 0 0,.slice none 0 0] 48)) (w.heap.size+1+1) 48 #[.int .i64 fnum,.slice none 0 0,.slice none 0 0,.slice none 0 0]:=BlkT.new _ _ _ (by simp);have X3:Ext w (((w.alloc (.cells #[.string fname,.int .i64 fnum,.int .i64 fkind,.bool frep,.bool fpk,.int .i64 fof] 43)).alloc (.cells #[.int .i64 0,.slice none 0 0,.slice none 0 0,.slice none 0 0] 48)).alloc (.cells #[.int .i64 fnum,.slice none 0 0,.slice none 0 0,.slice none 0 0] 48)):=((((Ext.refl w).alloc _).alloc _).alloc _)
 have S3:(((w.alloc (.cells #[.string fname,.int .i64 fnum,.int .i64 fkind,.bool frep,.bool fpk,.int .i64 fof] 43)).alloc (.cells #[.int .i64 0,.slice none 0 0,.slice none 0 0,.slice none 0 0] 48)).alloc (.cells #[.int .i64 fnum,.slice none 0 0,.slice none 0 0,.slice none 0 0] 48)).heap.size=w.heap.size+1+1+1:=by simp
 generalize (((w.alloc (.cells #[.string fname,.int .i64 fnum,.int .i64 fkind,.bool frep,.bool fpk,.int .i64 fof] 43)).alloc (.cells #[.int .i64 0,.slice none 0 0,.slice none 0 0,.slice none 0 0] 48)).alloc (.cells #[.int .i64 fnum,.slice none 0 0,.slice none 0 0,.slice none 0 0] 48))=w3 at*;have c0:w3.cell? ⟨w.heap.size,0,none⟩=some (.string fname):=B1.cell 0;have c1:w3.cell? ⟨w.heap.size,1,none⟩=some (.int .i64 fnum):=B1.cell 1;have c2:w3.cell? ⟨w.heap.size,2,none⟩=some (.int .i64 fkind):=B1.cell 2;have c3:w3.cell? ⟨w.heap.size,3,none⟩=some (.bool frep):=B1.cell 3;have c4:w3.cell? ⟨w.heap.size,4,none⟩=some (.bool fpk):=B1.cell 4;have c5:w3.cell? ⟨w.heap.size,5,none⟩=some (.int .i64 fof):=B1.cell 5;have cl:=B1.lt
 go_cut [24] (fun t wz=>t=.bool false/\wz=w3)
 case first=>
  rcases frep with _|_
  all_goals
   go_wp2_with (go_at_call 14;refine(Hkn.out _).mono ?_;rintro e w4 ⟨rfl,rfl⟩)
   go_meet
   exact⟨rfl,rfl⟩
 case rest=>
  obtain⟨rfl,rfl⟩:=hcut
  go_upto_region 7 with(go_at_call 56;refine(Hit.out _ X3).mono ?_;rintro e w5 ⟨l5,A5,n5,k5,rfl,E5,R5,hl5⟩;replace c0:=E5.of_cell c0;replace c1:=E5.of_cell c1;replace c2:=E5.of_cell c2;replace c3:=E5.of_cell c3;replace c4:=E5.of_cell c4;replace c5:=E5.of_cell c5;replace cl:=Nat.lt_of_lt_of_le cl E5.size)
  have hln:=R5.len;have hli:=congrArg List.length hl5;unfold zat at hli;rw[List.length_map,hln]at hli;have start:VLp w w5 w5 #[.string fname,.int .i64 fnum,.int .i64 fkind,.bool frep,.bool fpk,.int .i64 fof] #[.int .i64 fnum,.slice none 0 0,.slice none 0 0,.slice none 0 0] 9 1 none 0 0 []:=⟨B1.up E5,B2.up E5,B3.up E5,Own.nil (X3.trans E5) _ _,(fun b h=>by cases h),Stays.refl _ _⟩
  have R:=zsz R5;have Hl:=zsz hl5;have Hits:=zsz hits;have hn5:n5<=100001:=by omega
  have s35:w.heap.size+1+1+1<=w5.heap.size:=by have:=E5.size;omega
  clear R5 hl5 hits B1 B2 B3 c0 c1 c2 c3 c4 c5 cl hln hli
  go_loopw [12] (fun i wr=>∃(q:Nat)(A2:Option Addr)(k2:Nat),q<=n5/\i=.int .i64 (q:Int)/\VLp w w5 wr #[.string fname,.int .i64 fnum,.int .i64 fkind,.bool frep,.bool fpk,.int .i64 fof] #[.int .i64 fnum,.slice none 0 0,.slice A2 q k2,.slice none 0 0] 9 1 A2 q k2 ((its.take q).map fun b=>strV (textO b))) (fun i _=>n5 - (intOf i).toNat)
  case atStart=>exact⟨0,none,0,Nat.zero_le _,rfl,by simpa using start⟩
  case round=>
   obtain⟨q,A2,k2,hq,rfl,hV⟩:=hrel;by_cases hlt:q<n5
   . have hltI:(q:Int)<n5:=by omega
     obtain⟨b8,o8,r8,rfl,hr8,hb8,hy8,e8⟩:=R.out.row hV.stays (fun b h=>by omega) hV.own.ext hlt
     have hi8:its[q]?=some r8.bs:=by
      rw[<-Hl.out];unfold zat;rw[List.getElem?_map,hr8];rfl
     have hbl:=Hb.out _ (List.mem_of_getElem? hi8);have hyl:=hy8.length;obtain⟨RA,rn,rc,rb⟩:=r8;simp only at hy8 e8 hi8 hbl hyl;have c0:wr.cell? ⟨w.heap.size,0,none⟩=some (.string fname):=hV.fld.cell 0;have c1:wr.cell? ⟨w.heap.size,1,none⟩=some (.int .i64 fnum):=hV.fld.cell 1;have c2:wr.cell? ⟨w.heap.size,2,none⟩=some (.int .i64 fkind):=hV.fld.cell 2;have c3:wr.cell? ⟨w.heap.size,3,none⟩=some (.bool frep):=hV.fld.cell 3;have c4:wr.cell? ⟨w.heap.size,4,none⟩=some (.bool fpk):=hV.fld.cell 4;have c5:wr.cell? ⟨w.heap.size,5,none⟩=some (.int .i64 fof):=hV.fld.cell 5;have cl:=hV.fld.lt;have o2:wr.cell? ⟨w.heap.size+1+1,2,none⟩=some (.slice A2 q k2):=hV.out.cell 2;have of:=hV.out.free 2;have ol:=hV.out.lt;have HV:=zsz hV;have Hi8:=zsz hi8;have Hy8:=zsz hy8;clear hV hi8 hr8 hy8;have cv:(convert 24 9 (.slice RA rn rc)).run prog wr.drew=.ok (.string ⟨rb.toArray⟩) wr.drew:=(Hy8.out.up (Ext.refl wr).drew).convert (P:=prog) 24 5 9 underlying24 underlying5 underlying9
     go_wp2_with (go_at_call 14;refine(Hkn.out _).mono ?_;rintro e w4 ⟨rfl,rfl⟩)
     go_region_law (first
      |(refine zes zjm (by rfl) (.tmp 84) (.tmp 90) (by rfl) (by rfl) ((HV.out.own.alloc _).drew) (by rfl) ((zce wr (.string ⟨rb.toArray⟩) 9 rfl).ext (Ext.refl _).drew) (by simp[Value.oneCell']) (by omega) (by unfold maxLen;omega) ?_;intro A7 c7 w7 own7 g7 m7;have B7:=((HV.out.out.alloc _).drew).beside ((HV.out.own.alloc _).drew) (by decide) g7;have z7:w7.cell? ⟨w.heap.size+1+1,2,none⟩=some (.slice A2 q k2):=B7.cell 2;have zf:=B7.free 2;have zl:=B7.lt))
     all_goals
      go_simp
      go_wp2
      go_roundw
      case rel=>
       refine⟨q+1,A7,c7,by omega,by go_num,?_⟩;have h7:=(HV.out.up (((Ext.refl wr).alloc _).drew)).step (by decide) (by decide) own7 g7 m7 2 (.slice A7 (q+1) c7);rw[zaC _ _ _ Hi8.out,List.map_append];exact h7
      case measure=>simp[intOf];omega
   . obtain rfl:q=n5:=by omega
     have hge:¬((q:Int)<(q:Int)):=by omega
     have p0:wr.cell? ⟨w.heap.size+1+1,0,none⟩=some (.int .i64 fnum):=hV.out.cell 0;have p1:wr.cell? ⟨w.heap.size+1+1,1,none⟩=some (.slice none 0 0):=hV.out.cell 1;have p2:wr.cell? ⟨w.heap.size+1+1,2,none⟩=some (.slice A2 q k2):=hV.out.cell 2;have p3:wr.cell? ⟨w.heap.size+1+1,3,none⟩=some (.slice none 0 0):=hV.out.cell 3;have s0:wr.cell? ⟨w.heap.size+1,0,none⟩=some (.int .i64 0):=hV.res.cell 0;have s1:wr.cell? ⟨w.heap.size+1,1,none⟩=some (.slice none 0 0):=hV.res.cell 1;have s2:wr.cell? ⟨w.heap.size+1,2,none⟩=some (.slice none 0 0):=hV.res.cell 2;have s3:wr.cell? ⟨w.heap.size+1,3,none⟩=some (.slice none 0 0):=hV.res.cell 3;have r0:=hV.res.free 0;have r1:=hV.res.free 1;have r2:=hV.res.free 2;have r3:=hV.res.free 3;have rl:=hV.res.lt;have ol:=hV.out.lt;obtain⟨BF,own,hS⟩:=hV.fin (by decide) (.int .i64 fnum) (.slice none 0 0) (.slice A2 q k2) (.slice none 0 0);have HV:=zsz hV;clear hV
     go_wp2
     (try simp only[Exit.inBlock,Exit.then])
     refine bodyPost_ret (results_cell_row (ty:=48) rfl _ _ (w.heap.size+1) _ _ (0,0) _ rfl BF underlying48 rfl (by kernel_rfl)) rfl ?_
     have hlen:its.length=q:=by
      have:=congrArg List.length Hl.out;unfold zat at this;rw[List.length_map,R.out.len]at this;omega
     have htk:its.take q=its:=by rw[<-hlen,List.take_length]
     rw[htk]at own;have ho:=own.reads;refine⟨⟨(none,0),(A2,k2),(none,0),fnum,[],its.map textO,[]⟩,?_,rfl,?_,own.ext⟩
     . show Ending.returned _=Ending.returned (Value.agg #[.int .i64 fnum,.slice none 0 0,.slice A2 (its.map textO).length k2,.slice none 0 0])
       rw[List.length_map,hlen]
     . refine⟨⟨Hnum.out,Reads.nil _ _,(fun x h=>by cases h),⟨?_,fun t ht=> ?_⟩,Reads.nil _ _⟩,fun y h=>by cases h⟩
       . show Reads _ A2 (its.map textO).length k2 1 ((its.map textO).map strV)
         rw[List.length_map,List.map_map,hlen];exact ho
       . obtain⟨b,hb,rfl⟩:=List.mem_map.1 ht
         have:=Hb.out b hb;show b.toArray.size<=maxLen;rw[List.size_toArray];unfold maxLen;omega
theorem zlo(hr:f.rep=false)(hn:zaf f.kind=true)(hit:zhH w A V n c m k f d its)(hits:its.length<=100001)(hb:∀b∈its,b.length<=100000)(hnum: -9223372036854775808<=f.number/\f.number<9223372036854775808):
 Calls prog 27 #[.slice A n c,zaq f,.slice V m k,.int .i64 d] w fun e w'=>∃y:ValR,e=.returned (tvalV y)/\bareV y=⟨(),(),(),f.number,its.map fun b=>(readS f.kind b).1,[],[]⟩/\ValAt w' y/\Ext w w':=by
 have hkn:=fun W:World=>zbz f.kind W
 rw[hn]at hkn;unfold zhH at hit;have Hkn:=zsz hkn;have Hit:=zsz hit;have Hb:=zsz hb;have Hnum:=zsz hnum;obtain⟨fname,fnum,fkind,frep,fpk,fof⟩:=f;simp only at*;subst hr;unfold zaq at*;simp only at*;clear hkn hit hb hn hnum
 go_enter func27,ntmps27
 go_upto_region 2 with fail
 have B1:BlkT (((w.alloc (.cells #[.string fname,.int .i64 fnum,.int .i64 fkind,.bool false,.bool fpk,.int .i64 fof] 43)).alloc (.cells #[.int .i64 0,.slice none 0 0,.slice none 0 0,.slice none 0 0] 48)).alloc (.cells #[.int .i64 fnum,.slice none 0 0,.slice none 0 0,.slice none 0 0] 48)) w.heap.size 43 #[.string fname,.int .i64 fnum,.int .i64 fkind,.bool false,.bool fpk,.int .i64 fof]:=((BlkT.new w 43 #[.string fname,.int .i64 fnum,.int .i64 fkind,.bool false,.bool fpk,.int .i64 fof] rfl).alloc _).alloc _;have B2:BlkT (((w.alloc (.cells #[.string fname,.int .i64 fnum,.int .i64 fkind,.bool false,.bool fpk,.int .i64 fof] 43)).alloc (.cells #[.int .i64 0,.slice none 0 0,.slice none 0 0,.slice none 0 0] 48)).alloc (.cells #[.int .i64 fnum,.slice none 0 0,.slice none 0 0,.slice none 0 0] 48)) (w.heap.size+1) 48 #[.int .i64 0,.slice none 0 0,.slice none 0 0,.slice none 0 0]:=(BlkT.new _ _ _ (by simp)).alloc _;have B3:BlkT (((w.alloc (.cells #[.string fname,.int .i64 fnum,.int .i64 fkind,.bool false,.bool fpk,.int .i64 fof] 43)).alloc (.cells #[.int .i64 0,.slice none 0 0,.slice none 0 0,.slice none 0 0] 48)).alloc (.cells #[.int .i64 fnum,.slice none 0 0,.slice none 0 0,.slice none 0 0] 48)) (w.heap.size+1+1) 48 #[.int .i64 fnum,.slice none 0 0,.slice none 0 0,.slice none 0 0]:=BlkT.new _ _ _ (by simp);have X3:Ext w (((w.alloc (.cells #[.string fname,.int .i64 fnum,.int .i64 fkind,.bool false,.bool fpk,.int .i64 fof] 43)).alloc (.cells #[.int .i64 0,.slice none 0 0,.slice none 0 0,.slice none 0 0] 48)).alloc (.cells #[.int .i64 fnum,.slice none 0 0,.slice none 0 0,.slice none 0 0] 48)):=((((Ext.refl w).alloc _).alloc _).alloc _)
 have S3:(((w.alloc (.cells #[.string fname,.int .i64 fnum,.int .i64 fkind,.bool false,.bool fpk,.int .i64 fof] 43)).alloc (.cells #[.int .i64 0,.slice none 0 0,.slice none 0 0,.slice none 0 0] 48)).alloc (.cells #[.int .i64 fnum,.slice none 0 0,.slice none 0 0,.slice none 0 0] 48)).heap.size=w.heap.size+1+1+1:=by simp
 generalize (((w.alloc (.cells #[.string fname,.int .i64 fnum,.int .i64 fkind,.bool false,.bool fpk,.int .i64 fof] 43)).alloc (.cells #[.int .i64 0,.slice none 0 0,.slice none 0 0,.slice none 0 0] 48)).alloc (.cells #[.int .i64 fnum,.slice none 0 0,.slice none 0 0,.slice none 0 0] 48))=w3 at*;have c0:w3.cell? ⟨w.heap.size,0,none⟩=some (.string fname):=B1.cell 0;have c1:w3.cell? ⟨w.heap.size,1,none⟩=some (.int .i64 fnum):=B1.cell 1;have c2:w3.cell? ⟨w.heap.size,2,none⟩=some (.int .i64 fkind):=B1.cell 2;have c3:w3.cell? ⟨w.heap.size,3,none⟩=some (.bool false):=B1.cell 3;have c4:w3.cell? ⟨w.heap.size,4,none⟩=some (.bool fpk):=B1.cell 4;have c5:w3.cell? ⟨w.heap.size,5,none⟩=some (.int .i64 fof):=B1.cell 5;have cl:=B1.lt
 go_upto_region 7 with(first
  |(go_at_call 14;refine(Hkn.out _).mono ?_;rintro e w4 ⟨rfl,rfl⟩)
  |(go_at_call 56;refine(Hit.out _ X3).mono ?_;rintro e w5 ⟨l5,A5,n5,k5,rfl,E5,R5,hl5⟩;replace c0:=E5.of_cell c0;replace c1:=E5.of_cell c1;replace c2:=E5.of_cell c2;replace c3:=E5.of_cell c3;replace c4:=E5.of_cell c4;replace c5:=E5.of_cell c5;replace cl:=Nat.lt_of_lt_of_le cl E5.size))
 have hln:=R5.len;have hli:=congrArg List.length hl5;unfold zat at hli;rw[List.length_map,hln]at hli;have start:VLp w w5 w5 #[.string fname,.int .i64 fnum,.int .i64 fkind,.bool false,.bool fpk,.int .i64 fof] #[.int .i64 fnum,.slice none 0 0,.slice none 0 0,.slice none 0 0] 68 1 none 0 0 []:=⟨B1.up E5,B2.up E5,B3.up E5,Own.nil (X3.trans E5) _ _,(fun b h=>by cases h),Stays.refl _ _⟩
 have R:=zsz R5;have Hl:=zsz hl5;have Hits:=zsz hits;have hn5:n5<=100001:=by omega
 have s35:w.heap.size+1+1+1<=w5.heap.size:=by have:=E5.size;omega
 clear R5 hl5 hits B1 B2 B3 c0 c1 c2 c3 c4 c5 cl hln hli
 go_loopw [12] (fun i wr=>∃(q:Nat)(A2:Option Addr)(k2:Nat),q<=n5/\i=.int .i64 (q:Int)/\VLp w w5 wr #[.string fname,.int .i64 fnum,.int .i64 fkind,.bool false,.bool fpk,.int .i64 fof] #[.int .i64 fnum,.slice A2 q k2,.slice none 0 0,.slice none 0 0] 68 1 A2 q k2 ((its.take q).map fun b=>uv (readS fkind b).1)) (fun i _=>n5 - (intOf i).toNat)
 case atStart=>exact⟨0,none,0,Nat.zero_le _,rfl,by simpa using start⟩
 case round=>
  obtain⟨q,A2,k2,hq,rfl,hV⟩:=hrel;by_cases hlt:q<n5
  . have hltI:(q:Int)<n5:=by omega
    obtain⟨b8,o8,r8,rfl,hr8,hb8,hy8,e8⟩:=R.out.row hV.stays (fun b h=>by omega) hV.own.ext hlt
    have hi8:its[q]?=some r8.bs:=by
     rw[<-Hl.out];unfold zat;rw[List.getElem?_map,hr8];rfl
    have hbl:=Hb.out _ (List.mem_of_getElem? hi8);have hyl:=hy8.length;obtain⟨RA,rn,rc,rb⟩:=r8;simp only at hy8 e8 hi8 hbl hyl;have c0:wr.cell? ⟨w.heap.size,0,none⟩=some (.string fname):=hV.fld.cell 0;have c1:wr.cell? ⟨w.heap.size,1,none⟩=some (.int .i64 fnum):=hV.fld.cell 1;have c2:wr.cell? ⟨w.heap.size,2,none⟩=some (.int .i64 fkind):=hV.fld.cell 2;have c3:wr.cell? ⟨w.heap.size,3,none⟩=some (.bool false):=hV.fld.cell 3;have c4:wr.cell? ⟨w.heap.size,4,none⟩=some (.bool fpk):=hV.fld.cell 4;have c5:wr.cell? ⟨w.heap.size,5,none⟩=some (.int .i64 fof):=hV.fld.cell 5;have cl:=hV.fld.lt;have o1:wr.cell? ⟨w.heap.size+1+1,1,none⟩=some (.slice A2 q k2):=hV.out.cell 1;have of:=hV.out.free 1;have ol:=hV.out.lt;have HV:=zsz hV;have Hi8:=zsz hi8;have Hy8:=zsz hy8;clear hV hi8 hr8 hy8;have hWd:=(zfA fkind rb).1;rcases hrd:readS fkind rb with⟨Wd,Cd⟩
    rw[hrd]at hWd;simp only at hWd;have hRd:=fun W (h:zac W RA rn rc rb)=>zkF h (by omega) hrd
    have HRd:=zsz hRd;have Hrd:=zsz hrd;clear hRd hrd
    go_wp2_with (go_at_call 14;refine(Hkn.out _).mono ?_;rintro e w4 ⟨rfl,rfl⟩)
    go_quiet ((go_at_call 39;exact Calls.quiet_of_same ((HRd.out _ (Hy8.out.up xx)).mono fun _ _ h=>⟨h.1,h.2.symm⟩)))
    go_wp2_with (at_builtin;refine zaK elemU rfl (.tmp 62) (.tmp 64) rfl rfl ((HV.out.own.up (w':=_) xx).alloc _) rfl (zce _ (.int .u64 (Wd:Int)) 68 (by simp)) (by simp[Value.oneCell']) (by omega) (by unfold maxLen;omega) ?_;intro A7 c7 w7 own7 g7 m7;have B7:=((HV.out.out.up (w':=_) xx).alloc _).beside ((HV.out.own.up (w':=_) xx).alloc _) (by decide) g7;have z7:w7.cell? ⟨w.heap.size+1+1,1,none⟩=some (.slice A2 q k2):=B7.cell 1;have zf:=B7.free 1;have zl:=B7.lt)
    go_roundw
    case rel=>
     refine⟨q+1,A7,c7,by omega,by go_num,?_⟩;have h7:=(HV.out.up (Ext.alloc (by exact xx) _)).step (by decide) (by decide) own7 g7 m7 1 (.slice A7 (q+1) c7);rw[zaC _ _ _ Hi8.out,List.map_append];simp only[List.map_cons,List.map_nil,Hrd.out];exact h7
    case measure=>simp[intOf];omega
  . obtain rfl:q=n5:=by omega
    have hge:¬((q:Int)<(q:Int)):=by omega
    have p0:wr.cell? ⟨w.heap.size+1+1,0,none⟩=some (.int .i64 fnum):=hV.out.cell 0;have p1:wr.cell? ⟨w.heap.size+1+1,1,none⟩=some (.slice A2 q k2):=hV.out.cell 1;have p2:wr.cell? ⟨w.heap.size+1+1,2,none⟩=some (.slice none 0 0):=hV.out.cell 2;have p3:wr.cell? ⟨w.heap.size+1+1,3,none⟩=some (.slice none 0 0):=hV.out.cell 3;have s0:wr.cell? ⟨w.heap.size+1,0,none⟩=some (.int .i64 0):=hV.res.cell 0;have s1:wr.cell? ⟨w.heap.size+1,1,none⟩=some (.slice none 0 0):=hV.res.cell 1;have s2:wr.cell? ⟨w.heap.size+1,2,none⟩=some (.slice none 0 0):=hV.res.cell 2;have s3:wr.cell? ⟨w.heap.size+1,3,none⟩=some (.slice none 0 0):=hV.res.cell 3;have r0:=hV.res.free 0;have r1:=hV.res.free 1;have r2:=hV.res.free 2;have r3:=hV.res.free 3;have rl:=hV.res.lt;have ol:=hV.out.lt;obtain⟨BF,own,hS⟩:=hV.fin (by decide) (.int .i64 fnum) (.slice A2 q k2) (.slice none 0 0) (.slice none 0 0);have HV:=zsz hV;clear hV
    go_wp2
    (try simp only[Exit.inBlock,Exit.then])
    refine bodyPost_ret (results_cell_row (ty:=48) rfl _ _ (w.heap.size+1) _ _ (0,0) _ rfl BF underlying48 rfl (by kernel_rfl)) rfl ?_
    have hlen:its.length=q:=by
     have:=congrArg List.length Hl.out;unfold zat at this;rw[List.length_map,R.out.len]at this;omega
    have htk:its.take q=its:=by rw[<-hlen,List.take_length]
    rw[htk]at own;have ho:=own.reads;refine⟨⟨(A2,k2),(none,0),(none,0),fnum,its.map fun b=>(readS fkind b).1,[],[]⟩,?_,rfl,?_,own.ext⟩
    . show Ending.returned _=Ending.returned (Value.agg #[.int .i64 fnum,.slice A2 (its.map fun b=>(readS fkind b).1).length k2,.slice none 0 0,.slice none 0 0])
      rw[List.length_map,hlen]
    . refine⟨⟨Hnum.out,?_,(fun x hx=> ?_),⟨Reads.nil _ _,fun t h=>by cases h⟩,Reads.nil _ _⟩,fun y h=>by cases h⟩
      . show Reads _ A2 (its.map fun b=>(readS fkind b).1).length k2 1 ((its.map fun b=>(readS fkind b).1).map uv)
        rw[List.length_map,List.map_map,hlen];exact ho
      . obtain⟨b,hb,rfl⟩:=List.mem_map.1 hx
        exact(zfA fkind b).1
theorem zlp{g:List UInt8->MsgT}(hk:f.kind=17)(hO:∀(W:World)(B:Option Addr)(nb cb:Nat)(b:List UInt8),Ext w W->zac W B nb cb b->nb<=100000->Calls prog 11 #[.slice A n c,.int .i64 f.of_,.slice B nb cb] W fun e w'=>∃y:MsgR,e=.returned (.agg #[.slice y.a.1 y.vals.length y.a.2,.slice y.b.1 y.unk.length y.b.2])/\bare y=g b/\zay w' y/\(∀b,UsesT y b->W.heap.size<=b)/\Ext W w')(hn:zaf f.kind=false)(hit:zhH w A V n c m k f d its)(hits:its.length<=100001)(hb:∀b∈its,b.length<=100000)(hnum: -9223372036854775808<=f.number/\f.number<9223372036854775808):
 Calls prog 27 #[.slice A n c,zaq f,.slice V m k,.int .i64 d] w fun e w'=>∃y:ValR,e=.returned (tvalV y)/\bareV y=⟨(),(),(),f.number,[],[],its.map g⟩/\ValAt w' y/\Ext w w':=by
 have HO:=zsz hO;clear hO;have hkn:=fun W:World=>zbz f.kind W
 rw[hn]at hkn;unfold zhH at hit;have Hkn:=zsz hkn;have Hit:=zsz hit;have Hb:=zsz hb;have Hnum:=zsz hnum;obtain⟨fname,fnum,fkind,frep,fpk,fof⟩:=f;simp only at*;subst hk;unfold zaq at*;simp only at*;clear hkn hit hb hn hnum
 go_enter func27,ntmps27
 go_upto_region 2 with fail
 have B1:BlkT (((w.alloc (.cells #[.string fname,.int .i64 fnum,.int .i64 17,.bool frep,.bool fpk,.int .i64 fof] 43)).alloc (.cells #[.int .i64 0,.slice none 0 0,.slice none 0 0,.slice none 0 0] 48)).alloc (.cells #[.int .i64 fnum,.slice none 0 0,.slice none 0 0,.slice none 0 0] 48)) w.heap.size 43 #[.string fname,.int .i64 fnum,.int .i64 17,.bool frep,.bool fpk,.int .i64 fof]:=((BlkT.new w 43 #[.string fname,.int .i64 fnum,.int .i64 17,.bool frep,.bool fpk,.int .i64 fof] rfl).alloc _).alloc _;have B2:BlkT (((w.alloc (.cells #[.string fname,.int .i64 fnum,.int .i64 17,.bool frep,.bool fpk,.int .i64 fof] 43)).alloc (.cells #[.int .i64 0,.slice none 0 0,.slice none 0 0,.slice none 0 0] 48)).alloc (.cells #[.int .i64 fnum,.slice none 0 0,.slice none 0 0,.slice none 0 0] 48)) (w.heap.size+1) 48 #[.int .i64 0,.slice none 0 0,.slice none 0 0,.slice none 0 0]:=(BlkT.new _ _ _ (by simp)).alloc _;have B3:BlkT (((w.alloc (.cells #[.string fname,.int .i64 fnum,.int .i64 17,.bool frep,.bool fpk,.int .i64 fof] 43)).alloc (.cells #[.int .i64 0,.slice none 0 0,.slice none 0 0,.slice none 0 0] 48)).alloc (.cells #[.int .i64 fnum,.slice none 0 0,.slice none 0 0,.slice none 0 0] 48)) (w.heap.size+1+1) 48 #[.int .i64 fnum,.slice none 0 0,.slice none 0 0,.slice none 0 0]:=BlkT.new _ _ _ (by simp);have X3:Ext w (((w.alloc (.cells #[.string fname,.int .i64 fnum,.int .i64 17,.bool frep,.bool fpk,.int .i64 fof] 43)).alloc (.cells #[.int .i64 0,.slice none 0 0,.slice none 0 0,.slice none 0 0] 48)).alloc (.cells #[.int .i64 fnum,.slice none 0 0,.slice none 0 0,.slice none 0 0] 48)):=((((Ext.refl w).alloc _).alloc _).alloc _)
 have S3:(((w.alloc (.cells #[.string fname,.int .i64 fnum,.int .i64 17,.bool frep,.bool fpk,.int .i64 fof] 43)).alloc (.cells #[.int .i64 0,.slice none 0 0,.slice none 0 0,.slice none 0 0] 48)).alloc (.cells #[.int .i64 fnum,.slice none 0 0,.slice none 0 0,.slice none 0 0] 48)).heap.size=w.heap.size+1+1+1:=by simp
 generalize (((w.alloc (.cells #[.string fname,.int .i64 fnum,.int .i64 17,.bool frep,.bool fpk,.int .i64 fof] 43)).alloc (.cells #[.int .i64 0,.slice none 0 0,.slice none 0 0,.slice none 0 0] 48)).alloc (.cells #[.int .i64 fnum,.slice none 0 0,.slice none 0 0,.slice none 0 0] 48))=w3 at*;have c0:w3.cell? ⟨w.heap.size,0,none⟩=some (.string fname):=B1.cell 0;have c1:w3.cell? ⟨w.heap.size,1,none⟩=some (.int .i64 fnum):=B1.cell 1;have c2:w3.cell? ⟨w.heap.size,2,none⟩=some (.int .i64 17):=B1.cell 2;have c3:w3.cell? ⟨w.heap.size,3,none⟩=some (.bool frep):=B1.cell 3;have c4:w3.cell? ⟨w.heap.size,4,none⟩=some (.bool fpk):=B1.cell 4;have c5:w3.cell? ⟨w.heap.size,5,none⟩=some (.int .i64 fof):=B1.cell 5;have cl:=B1.lt
 go_cut [24] (fun t wz=>t=.bool false/\wz=w3)
 case first=>
  rcases frep with _|_
  all_goals
   go_wp2_with (go_at_call 14;refine(Hkn.out _).mono ?_;rintro e w4 ⟨rfl,rfl⟩)
   go_meet
   exact⟨rfl,rfl⟩
 case rest=>
  obtain⟨rfl,rfl⟩:=hcut
  go_upto_region 7 with(go_at_call 56;refine(Hit.out _ X3).mono ?_;rintro e w5 ⟨l5,A5,n5,k5,rfl,E5,R5,hl5⟩;replace c0:=E5.of_cell c0;replace c1:=E5.of_cell c1;replace c2:=E5.of_cell c2;replace c3:=E5.of_cell c3;replace c4:=E5.of_cell c4;replace c5:=E5.of_cell c5;replace cl:=Nat.lt_of_lt_of_le cl E5.size)
  have hln:=R5.len;have hli:=congrArg List.length hl5;unfold zat at hli;rw[List.length_map,hln]at hli;have start:VLp w w5 w5 #[.string fname,.int .i64 fnum,.int .i64 17,.bool frep,.bool fpk,.int .i64 fof] #[.int .i64 fnum,.slice none 0 0,.slice none 0 0,.slice none 0 0] 40 2 none 0 0 []:=⟨B1.up E5,B2.up E5,B3.up E5,Own.nil (X3.trans E5) _ _,(fun b h=>by cases h),Stays.refl _ _⟩
  have R:=zsz R5;have Hl:=zsz hl5;have Hits:=zsz hits;have hn5:n5<=100001:=by omega
  have s35:w.heap.size+1+1+1<=w5.heap.size:=by have:=E5.size;omega
  clear R5 hl5 hits B1 B2 B3 c0 c1 c2 c3 c4 c5 cl hln hli
  go_loopw [12] (fun i wr=>∃(q:Nat)(A2:Option Addr)(k2:Nat)(ys:List MsgR),q<=n5/\i=.int .i64 (q:Int)/\VLp w w5 wr #[.string fname,.int .i64 fnum,.int .i64 17,.bool frep,.bool fpk,.int .i64 fof] #[.int .i64 fnum,.slice none 0 0,.slice none 0 0,.slice A2 q k2] 40 2 A2 q k2 (ys.flatMap treeC)/\Hid (ys.map bare=(its.take q).map g)/\Trees w5 wr (w.heap.size+1+1) A2 (fun _=>False) ys) (fun i _=>n5 - (intOf i).toNat)
  case atStart=>exact⟨0,none,0,[],Nat.zero_le _,rfl,by simpa using start,rfl,Trees.nil (Nat.le_refl _)⟩
  case round=>
   obtain⟨q,A2,k2,ys,hq,rfl,hV,hD,hT⟩:=hrel;by_cases hlt:q<n5
   . have hltI:(q:Int)<n5:=by omega
     obtain⟨b8,o8,r8,rfl,hr8,hb8,hy8,e8⟩:=R.out.row hV.stays (fun b h=>by omega) hV.own.ext hlt
     have hi8:its[q]?=some r8.bs:=by
      rw[<-Hl.out];unfold zat;rw[List.getElem?_map,hr8];rfl
     have hbl:=Hb.out _ (List.mem_of_getElem? hi8);have hyl:=hy8.length;obtain⟨RA,rn,rc,rb⟩:=r8;simp only at hy8 e8 hi8 hbl hyl;have c0:wr.cell? ⟨w.heap.size,0,none⟩=some (.string fname):=hV.fld.cell 0;have c1:wr.cell? ⟨w.heap.size,1,none⟩=some (.int .i64 fnum):=hV.fld.cell 1;have c2:wr.cell? ⟨w.heap.size,2,none⟩=some (.int .i64 17):=hV.fld.cell 2;have c3:wr.cell? ⟨w.heap.size,3,none⟩=some (.bool frep):=hV.fld.cell 3;have c4:wr.cell? ⟨w.heap.size,4,none⟩=some (.bool fpk):=hV.fld.cell 4;have c5:wr.cell? ⟨w.heap.size,5,none⟩=some (.int .i64 fof):=hV.fld.cell 5;have cl:=hV.fld.lt;have o3:wr.cell? ⟨w.heap.size+1+1,3,none⟩=some (.slice A2 q k2):=hV.out.cell 3;have of:=hV.out.free 3;have ol:=hV.out.lt;have HV:=zsz hV;have Hi8:=zsz hi8;have Hy8:=zsz hy8;clear hV hi8 hr8 hy8;have hcall:∀W,Ext wr W->Calls prog 11 #[.slice A n c,.int .i64 fof,.slice RA rn rc] W fun e w'=>∃y:MsgR,e=.returned (.agg #[.slice y.a.1 y.vals.length y.a.2,.slice y.b.1 y.unk.length y.b.2])/\bare y=g rb/\zay w' y/\(∀b,UsesT y b->W.heap.size<=b)/\Ext W w':=fun W h=>HO.out W RA rn rc rb (HV.out.own.ext.trans h) (Hy8.out.up h) (by omega)
     have Hcall:=zsz hcall;clear hcall;have HT:=zsz hT;clear hT
     go_upto_region 13 with(go_at_call 14;refine(Hkn.out _).mono ?_;rintro e w4 ⟨rfl,rfl⟩)
     refine calmP (fun _ _ _ hd h=>⟨hd,h.2⟩) (zrW hltI (by omega) o3 c5 e8 HV.out.out HV.out.own Hcall.out ?_);intro s70 s71 s72 s73 s74 s75 s76 s77 s78 s79 s80 s81 s82 y' A7 c7 W9 W7 wz hwz X6 hb' hT' hU' own7 g7 m7;subst hwz;have h7:=(HV.out.up (Ext.alloc X6 (.cells #[.slice y'.a.1 y'.vals.length y'.a.2,.slice y'.b.1 y'.unk.length y'.b.2] 40))).step (by decide) (by decide) own7 g7 m7 3 (.slice A7 (q+1) c7)
     have hTg:=((HT.out.up X6).snoc hT' (fun b hb=>by
      have h:=hU' b hb;refine⟨by omega,fun r=> ?_⟩;have:=(HV.out.own.block_new (g:=b) (by rw[zaV A2 q k2 0 0];exact r)).2
      omega) (fun b hb=>.inr (Nat.le_trans HT.out.size (hU' b hb)))).grow (Ext.alloc (Ext.refl W9) _) g7 m7
     have hTz:=hTg.store 3 (.slice A7 (q+1) c7)
     have hDz:Hid ((ys++[y']).map bare=(its.take (q+1)).map g):=zsz (by
      rw[zaC _ _ _ Hi8.out,List.map_append,List.map_append,hD.out]
      simp[hb'])
     have H7:=zsz h7;clear own7 g7 m7 hTg h7 hT' hU' hb' X6 hD HT HV Hi8 Hy8 o3 of ol e8 c0 c1 c2 c3 c4 c5 cl Hcall;generalize W7.setCell ⟨w.heap.size+1+1,3,none⟩ (.slice A7 (q+1) c7)=wz at*
     go_wp2
     go_roundw
     case rel=>
      refine⟨q+1,A7,c7,ys++[y'],by omega,by go_num,?_,hDz,hTz⟩;rw[List.flatMap_append];simpa using H7.out
     case measure=>simp[intOf];omega
   . obtain rfl:q=n5:=by omega
     have hge:¬((q:Int)<(q:Int)):=by omega
     have p0:wr.cell? ⟨w.heap.size+1+1,0,none⟩=some (.int .i64 fnum):=hV.out.cell 0;have p1:wr.cell? ⟨w.heap.size+1+1,1,none⟩=some (.slice none 0 0):=hV.out.cell 1;have p2:wr.cell? ⟨w.heap.size+1+1,2,none⟩=some (.slice none 0 0):=hV.out.cell 2;have p3:wr.cell? ⟨w.heap.size+1+1,3,none⟩=some (.slice A2 q k2):=hV.out.cell 3;have s0:wr.cell? ⟨w.heap.size+1,0,none⟩=some (.int .i64 0):=hV.res.cell 0;have s1:wr.cell? ⟨w.heap.size+1,1,none⟩=some (.slice none 0 0):=hV.res.cell 1;have s2:wr.cell? ⟨w.heap.size+1,2,none⟩=some (.slice none 0 0):=hV.res.cell 2;have s3:wr.cell? ⟨w.heap.size+1,3,none⟩=some (.slice none 0 0):=hV.res.cell 3;have r0:=hV.res.free 0;have r1:=hV.res.free 1;have r2:=hV.res.free 2;have r3:=hV.res.free 3;have rl:=hV.res.lt;have ol:=hV.out.lt;obtain⟨BF,own,hS⟩:=hV.fin (by decide) (.int .i64 fnum) (.slice none 0 0) (.slice none 0 0) (.slice A2 q k2);have HV:=zsz hV;clear hV
     go_wp2
     (try simp only[Exit.inBlock,Exit.then])
     refine bodyPost_ret (results_cell_row (ty:=48) rfl _ _ (w.heap.size+1) _ _ (0,0) _ rfl BF underlying48 rfl (by kernel_rfl)) rfl ?_
     have hlen:its.length=q:=by
      have:=congrArg List.length Hl.out;unfold zat at this;rw[List.length_map,R.out.len]at this;omega
     have htk:its.take q=its:=by rw[<-hlen,List.take_length]
     have ho:=own.reads
     have hYl:ys.length=q:=by
      have:=congrArg List.length hD.out;rw[List.length_map,List.length_map,htk]at this;omega
     have hYs:∀y∈ys,∀b,UsesT y b->w5.heap.size<=b:=fun y hy b hb=>(hT.from_ y hy b hb).elim (fun h=>h.elim) id
     refine⟨⟨(none,0),(none,0),(A2,k2),fnum,[],[],ys⟩,?_,?_,?_,own.ext⟩
     . show Ending.returned _=Ending.returned (Value.agg #[.int .i64 fnum,.slice none 0 0,.slice none 0 0,.slice A2 ys.length k2])
       rw[hYl]
     . unfold bareV
       simp only;rw[hD.out,htk]
     . refine⟨⟨Hnum.out,Reads.nil _ _,(fun x h=>by cases h),⟨Reads.nil _ _,fun t h=>by cases h⟩,?_⟩,fun y hy=> ?_⟩
       . show Reads _ A2 ys.length k2 2 (ys.flatMap treeC)
         rw[hYl];exact ho
       . refine(hT.at_ y hy).stays hS (fun b hb=> ?_)
         have:=hYs y hy b hb;omega
theorem zlq{vs:List UInt8}(hr:f.rep=true)(hn:zaf f.kind=true)(hb:zac w V m k vs)(hm:m<=100000)(hsm:∀x∈(zaD f.kind vs).1,x<18446744073709551616)(hnum: -9223372036854775808<=f.number/\f.number<9223372036854775808):
 Calls prog 27 #[.slice A n c,zaq f,.slice V m k,.int .i64 d] w fun e w'=>∃y:ValR,e=.returned (tvalV y)/\bareV y=⟨(),(),(),f.number,(zaD f.kind vs).1,[],[]⟩/\ValAt w' y/\Ext w w':=by
 have hkn:=fun W:World=>zbz f.kind W
 rw[hn]at hkn;have hwd:=fun(W:World)(h:Ext w W)=>zpE (k:=f.kind) (hb.up h) (by omega)
 generalize (zaD f.kind vs).1=ws at*;generalize (zaD f.kind vs).2=C at*;have Hkn:=zsz hkn;have Hwd:=zsz hwd;have Hnum:=zsz hnum;have Hsm:=zsz hsm;obtain⟨fname,fnum,fkind,frep,fpk,fof⟩:=f;simp only at*;subst hr;unfold zaq at*;simp only at*;clear hkn hwd hn hnum hsm hb
 go_enter func27,ntmps27
 go_upto_region 2 with fail
 have B1:BlkT (((w.alloc (.cells #[.string fname,.int .i64 fnum,.int .i64 fkind,.bool true,.bool fpk,.int .i64 fof] 43)).alloc (.cells #[.int .i64 0,.slice none 0 0,.slice none 0 0,.slice none 0 0] 48)).alloc (.cells #[.int .i64 fnum,.slice none 0 0,.slice none 0 0,.slice none 0 0] 48)) w.heap.size 43 #[.string fname,.int .i64 fnum,.int .i64 fkind,.bool true,.bool fpk,.int .i64 fof]:=((BlkT.new w 43 #[.string fname,.int .i64 fnum,.int .i64 fkind,.bool true,.bool fpk,.int .i64 fof] rfl).alloc _).alloc _;have B2:BlkT (((w.alloc (.cells #[.string fname,.int .i64 fnum,.int .i64 fkind,.bool true,.bool fpk,.int .i64 fof] 43)).alloc (.cells #[.int .i64 0,.slice none 0 0,.slice none 0 0,.slice none 0 0] 48)).alloc (.cells #[.int .i64 fnum,.slice none 0 0,.slice none 0 0,.slice none 0 0] 48)) (w.heap.size+1) 48 #[.int .i64 0,.slice none 0 0,.slice none 0 0,.slice none 0 0]:=(BlkT.new _ _ _ (by simp)).alloc _;have B3:BlkT (((w.alloc (.cells #[.string fname,.int .i64 fnum,.int .i64 fkind,.bool true,.bool fpk,.int .i64 fof] 43)).alloc (.cells #[.int .i64 0,.slice none 0 0,.slice none 0 0,.slice none 0 0] 48)).alloc (.cells #[.int .i64 fnum,.slice none 0 0,.slice none 0 0,.slice none 0 0] 48)) (w.heap.size+1+1) 48 #[.int .i64 fnum,.slice none 0 0,.slice none 0 0,.slice none 0 0]:=BlkT.new _ _ _ (by simp);have X3:Ext w (((w.alloc (.cells #[.string fname,.int .i64 fnum,.int .i64 fkind,.bool true,.bool fpk,.int .i64 fof] 43)).alloc (.cells #[.int .i64 0,.slice none 0 0,.slice none 0 0,.slice none 0 0] 48)).alloc (.cells #[.int .i64 fnum,.slice none 0 0,.slice none 0 0,.slice none 0 0] 48)):=((((Ext.refl w).alloc _).alloc _).alloc _)
 have S3:(((w.alloc (.cells #[.string fname,.int .i64 fnum,.int .i64 fkind,.bool true,.bool fpk,.int .i64 fof] 43)).alloc (.cells #[.int .i64 0,.slice none 0 0,.slice none 0 0,.slice none 0 0] 48)).alloc (.cells #[.int .i64 fnum,.slice none 0 0,.slice none 0 0,.slice none 0 0] 48)).heap.size=w.heap.size+1+1+1:=by simp
 generalize (((w.alloc (.cells #[.string fname,.int .i64 fnum,.int .i64 fkind,.bool true,.bool fpk,.int .i64 fof] 43)).alloc (.cells #[.int .i64 0,.slice none 0 0,.slice none 0 0,.slice none 0 0] 48)).alloc (.cells #[.int .i64 fnum,.slice none 0 0,.slice none 0 0,.slice none 0 0] 48))=w3 at*;have c0:w3.cell? ⟨w.heap.size,0,none⟩=some (.string fname):=B1.cell 0;have c1:w3.cell? ⟨w.heap.size,1,none⟩=some (.int .i64 fnum):=B1.cell 1;have c2:w3.cell? ⟨w.heap.size,2,none⟩=some (.int .i64 fkind):=B1.cell 2;have c3:w3.cell? ⟨w.heap.size,3,none⟩=some (.bool true):=B1.cell 3;have c4:w3.cell? ⟨w.heap.size,4,none⟩=some (.bool fpk):=B1.cell 4;have c5:w3.cell? ⟨w.heap.size,5,none⟩=some (.int .i64 fof):=B1.cell 5;have cl:=B1.lt
 go_upto_region 4 with(first
  |(go_at_call 14;refine(Hkn.out _).mono ?_;rintro e w4 ⟨rfl,rfl⟩)
  |(go_at_call 23;refine(Hwd.out _ X3).mono ?_;rintro e w5 ⟨A5,k5,rfl,own5⟩;have E5:=own5.ext;have o1:=E5.of_cell (show w3.cell? ⟨w.heap.size+1+1,1,none⟩=some (.slice none 0 0)from B3.cell 1);have of:=(B3.up E5).free 1;have ol:=(B3.up E5).lt))
 have own5':=own5.since X3
 have hV:VLp w w (w5.setCell ⟨w.heap.size+1+1,1,none⟩ (.slice A5 ws.length k5)) #[.string fname,.int .i64 fnum,.int .i64 fkind,.bool true,.bool fpk,.int .i64 fof] #[.int .i64 fnum,.slice A5 ws.length k5,.slice none 0 0,.slice none 0 0] 68 1 A5 ws.length k5 (ws.map uv):=
  ⟨(B1.up E5).set_far 1 (by omega) _,(B2.up E5).set_far 1 (by omega) _,(B3.up E5).set_ 1 _,own5'.far (B3.up E5) (by decide) (by omega) 1 _,fun b hb=>(own5'.block_new (g:=b) (by rw[zaV A5 ws.length k5 0 0];exact hb)).1,Stays.of_ext (own5'.far (B3.up E5) (by decide) (by omega) 1 _).ext⟩
 generalize w5.setCell ⟨w.heap.size+1+1,1,none⟩ (.slice A5 ws.length k5)=wr at*;clear own5 own5' B1 B2 B3 c0 c1 c2 c3 c4 c5 cl E5 o1 of ol;have p0:wr.cell? ⟨w.heap.size+1+1,0,none⟩=some (.int .i64 fnum):=hV.out.cell 0;have p1:wr.cell? ⟨w.heap.size+1+1,1,none⟩=some (.slice A5 ws.length k5):=hV.out.cell 1;have p2:wr.cell? ⟨w.heap.size+1+1,2,none⟩=some (.slice none 0 0):=hV.out.cell 2;have p3:wr.cell? ⟨w.heap.size+1+1,3,none⟩=some (.slice none 0 0):=hV.out.cell 3;have s0:wr.cell? ⟨w.heap.size+1,0,none⟩=some (.int .i64 0):=hV.res.cell 0;have r0:=hV.res.free 0;have s1:wr.cell? ⟨w.heap.size+1,1,none⟩=some (.slice none 0 0):=hV.res.cell 1;have r1:=hV.res.free 1;have s2:wr.cell? ⟨w.heap.size+1,2,none⟩=some (.slice none 0 0):=hV.res.cell 2;have r2:=hV.res.free 2;have s3:wr.cell? ⟨w.heap.size+1,3,none⟩=some (.slice none 0 0):=hV.res.cell 3;have r3:=hV.res.free 3;have rl:=hV.res.lt;have ol:=hV.out.lt;obtain⟨BF,own,hS⟩:=hV.fin (by decide) (.int .i64 fnum) (.slice A5 ws.length k5) (.slice none 0 0) (.slice none 0 0);clear hV
 go_wp2
 (try simp only[Exit.inBlock,Exit.then])
 refine bodyPost_ret (results_cell_row (ty:=48) rfl _ _ (w.heap.size+1) _ _ (0,0) _ rfl BF underlying48 rfl (by kernel_rfl)) rfl ?_;have ho:=own.reads;exact⟨⟨(A5,k5),(none,0),(none,0),fnum,ws,[],[]⟩,rfl,rfl,⟨⟨Hnum.out,ho,Hsm.out,⟨Reads.nil _ _,fun t h=>by cases h⟩,Reads.nil _ _⟩,fun y h=>by cases h⟩,own.ext⟩
end Go.Proofs.YtpicpebolghcfaaGreatDoor
