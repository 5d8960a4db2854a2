/- Contracts of layer 14: the same meanings, as the reference has it. -/
import Derived.Test.YtpicpebolghcfaaGreatDoorQlW14s

set_option linter.unusedVariables false
set_option maxRecDepth 100000
set_option maxHeartbeats 4000000
namespace Go.Proofs.YtpicpebolghcfaaGreatDoor
open Go.RowKit Go.Proofs.Tryz
variable{w:World}
theorem zqz{v u:ValR}(hv:ValAt w v)(hu:ValAt w u)(hp:∀y∈v.subs,∀z∈u.subs,∀W:World,Ext w W->Calls prog 29 #[treeV y,treeV z] W fun e W'=>e=.returned (.bool (eqB (bare y=bare z)))/\Ext W W'):
 Calls prog 26 #[tvalV v,tvalV u] w fun e w'=>e=.returned (.bool (eqB (bareV v=bareV u)))/\Ext w w':=by
 have Hp:=zsz hp;clear hp;have hvw:=hv.own.words.max;have hvw':=hv.own.words.cap;have hvt:=hv.own.texts.at_.max;have hvt':=hv.own.texts.at_.cap;have hvs:=hv.own.subs.max;have hvs':=hv.own.subs.cap;have huw':=hu.own.words.cap;have hut':=hu.own.texts.at_.cap;have hus':=hu.own.subs.cap;have huw:=hu.own.words.max;have hut:=hu.own.texts.at_.max;have hus:=hu.own.subs.max;unfold maxLen at hvw hvt hvs huw hut hus;unfold tvalV;by_cases e0:v.number=u.number
 . by_cases e1:v.words.length=u.words.length
   . by_cases e2:v.texts.length=u.texts.length
     . by_cases e3:v.subs.length=u.subs.length
       . rw[<-e1,<-e2,<-e3]
         rw[<-e1]at huw';rw[<-e2]at hut';rw[<-e3]at hus';have t0:(v.number !=u.number)=false:=by simp[e0]
         have t1:((v.words.length:Int) !=(v.words.length:Int))=false:=by simp
         have t2:((v.texts.length:Int) !=(v.texts.length:Int))=false:=by simp
         have t3:((v.subs.length:Int) !=(v.subs.length:Int))=false:=by simp
         have E0:=zsz e0;have E1:=zsz e1;have E2:=zsz e2;have E3:=zsz e3;clear e0 e1 e2 e3
         go_enter func26,ntmps26
         go_wp2
         have B1:BlkT ((w.alloc (.cells #[.int .i64 v.number,.slice v.a.1 v.words.length v.a.2,.slice v.b.1 v.texts.length v.b.2,.slice v.c.1 v.subs.length v.c.2] 48)).alloc (.cells #[.int .i64 u.number,.slice u.a.1 v.words.length u.a.2,.slice u.b.1 v.texts.length u.b.2,.slice u.c.1 v.subs.length u.c.2] 48)) w.heap.size 48 #[.int .i64 v.number,.slice v.a.1 v.words.length v.a.2,.slice v.b.1 v.texts.length v.b.2,.slice v.c.1 v.subs.length v.c.2]:=(BlkT.new w _ _ rfl).alloc _;have B2:BlkT ((w.alloc (.cells #[.int .i64 v.number,.slice v.a.1 v.words.length v.a.2,.slice v.b.1 v.texts.length v.b.2,.slice v.c.1 v.subs.length v.c.2] 48)).alloc (.cells #[.int .i64 u.number,.slice u.a.1 v.words.length u.a.2,.slice u.b.1 v.texts.length u.b.2,.slice u.c.1 v.subs.length u.c.2] 48)) (w.heap.size+1) 48 #[.int .i64 u.number,.slice u.a.1 v.words.length u.a.2,.slice u.b.1 v.texts.length u.b.2,.slice u.c.1 v.subs.length u.c.2]:=BlkT.new _ _ _ (by simp);have X0:Ext w ((w.alloc (.cells #[.int .i64 v.number,.slice v.a.1 v.words.length v.a.2,.slice v.b.1 v.texts.length v.b.2,.slice v.c.1 v.subs.length v.c.2] 48)).alloc (.cells #[.int .i64 u.number,.slice u.a.1 v.words.length u.a.2,.slice u.b.1 v.texts.length u.b.2,.slice u.c.1 v.subs.length u.c.2] 48)):=xx;generalize ((w.alloc (.cells #[.int .i64 v.number,.slice v.a.1 v.words.length v.a.2,.slice v.b.1 v.texts.length v.b.2,.slice v.c.1 v.subs.length v.c.2] 48)).alloc (.cells #[.int .i64 u.number,.slice u.a.1 v.words.length u.a.2,.slice u.b.1 v.texts.length u.b.2,.slice u.c.1 v.subs.length u.c.2] 48))=w2 at*;have a1:w2.cell? ⟨w.heap.size,1,none⟩=some (.slice v.a.1 v.words.length v.a.2):=B1.cell 1;have b1:w2.cell? ⟨w.heap.size+1,1,none⟩=some (.slice u.a.1 v.words.length u.a.2):=B2.cell 1;have a2:w2.cell? ⟨w.heap.size,2,none⟩=some (.slice v.b.1 v.texts.length v.b.2):=B1.cell 2;have b2:w2.cell? ⟨w.heap.size+1,2,none⟩=some (.slice u.b.1 v.texts.length u.b.2):=B2.cell 2;have a3:w2.cell? ⟨w.heap.size,3,none⟩=some (.slice v.c.1 v.subs.length v.c.2):=B1.cell 3;have b3:w2.cell? ⟨w.heap.size+1,3,none⟩=some (.slice u.c.1 v.subs.length u.c.2):=B2.cell 3
         go_loopw [4,5] (fun _ i wr=>∃j:Nat,j<=v.words.length/\i=.int .i64 (j:Int)/\Ext w2 wr/\Hid (v.words.take j=u.words.take j)) (fun _ i _=>v.words.length - (intOf i).toNat)
         case atStart=>exact⟨0,Nat.zero_le _,rfl,Ext.refl _,rfl⟩
         case round=>
          obtain⟨j,hj,rfl,hE1,hT1⟩:=hrel;have ar:=hE1.of_cell a1;have br:=hE1.of_cell b1;by_cases hlt:j<v.words.length
          . have hltI:(j:Int)<(v.words.length:Int):=by omega
            have hlu:j<u.words.length:=by have:=E1.out;omega
            obtain⟨c1,off1,f1,hA,h1,hb1,d0⟩:=zmy (hv.own.words.ext (X0.trans hE1)) (k:=j) hlt;obtain⟨c2,off2,f2,hB,h2,hb2,g0⟩:=zmy (hu.own.words.ext (X0.trans hE1)) (k:=j) hlu;rw[hA]at ar;rw[hB]at br;have H1:=zsz h1;have H2:=zsz h2;by_cases hf:f1=f2
            . have q2:((f1:Int) !=(f2:Int))=false:=by simp[hf]
              have Hf:=zsz hf;clear h1 h2 hf
              go_wp2
              go_quiet (fail)
              go_wp2
              go_roundw
              case rel=>exact⟨j+1,by omega,by go_num,hE1.trans xx,by show _=_;rw[zaC _ _ _ H1.out,zaC _ _ _ H2.out,hT1.out,Hf.out]⟩
              case measure=>simp[intOf];omega
            . have q2:((f1:Int) !=(f2:Int))=true:=by rw[bne_iff_ne];omega
              have Hf:=zsz hf;clear h1 h2 hf
              go_wp2
              go_quiet (fail)
              go_wp2
              go_ret
              refine⟨zam (zdF ?_).symm,(X0.trans hE1).trans xx⟩;intro hh;have hh:=(zcG.1 hh).2.1;have h1:=H1.out;rw[hh]at h1;have:=h1.symm.trans H2.out;exact Hf.out (by simpa using this)
          . have hge:¬((j:Int)<(v.words.length:Int)):=by omega
            have hfin1:v.words=u.words:=by
             have:=hT1.out;have hn:=E1.out
             rwa[List.take_of_length_le (by omega),List.take_of_length_le (by omega)]at this
            have F1:=zsz hfin1;clear hfin1
            go_wp2
            go_loopw [4,6] (fun _ i wr=>∃j:Nat,j<=v.texts.length/\i=.int .i64 (j:Int)/\Ext w2 wr/\Hid (v.texts.take j=u.texts.take j)) (fun _ i _=>v.texts.length - (intOf i).toNat)
            case atStart=>exact⟨0,Nat.zero_le _,rfl,hE1,rfl⟩
            case round=>
             obtain⟨j,hj,rfl,hE2,hT2⟩:=hrel;have ar:=hE2.of_cell a2;have br:=hE2.of_cell b2;by_cases hlt:j<v.texts.length
             . have hltI:(j:Int)<(v.texts.length:Int):=by omega
               have hlu:j<u.texts.length:=by have:=E2.out;omega
               obtain⟨c1,off1,f1,hA,h1,hb1,_,d0⟩:=(hv.own.texts.up (X0.trans hE2)).text (k:=j) hlt;obtain⟨c2,off2,f2,hB,h2,hb2,_,g0⟩:=(hu.own.texts.up (X0.trans hE2)).text (k:=j) hlu;rw[hA]at ar;rw[hB]at br;have H1:=zsz h1;have H2:=zsz h2;by_cases hf:f1=f2
               . have q2:(f1.toList==f2.toList)=true:=by rw[ziO];exact decide_eq_true hf
                 have Hf:=zsz hf;clear h1 h2 hf
                 go_wp2
                 go_quiet (fail)
                 go_wp2
                 go_roundw
                 case rel=>exact⟨j+1,by omega,by go_num,hE2.trans xx,by show _=_;rw[zaC _ _ _ H1.out,zaC _ _ _ H2.out,hT2.out,Hf.out]⟩
                 case measure=>simp[intOf];omega
               . have q2:=zpm hf
                 have Hf:=zsz hf;clear h1 h2 hf
                 go_wp2
                 go_quiet (fail)
                 go_wp2
                 go_ret
                 refine⟨zam (zdF ?_).symm,(X0.trans hE2).trans xx⟩;intro hh;have hh:=(zcG.1 hh).2.2.1;have h1:=H1.out;rw[hh]at h1;have:=h1.symm.trans H2.out;exact Hf.out (by simpa using this)
             . have hge:¬((j:Int)<(v.texts.length:Int)):=by omega
               have hfin2:v.texts=u.texts:=by
                have:=hT2.out;have hn:=E2.out
                rwa[List.take_of_length_le (by omega),List.take_of_length_le (by omega)]at this
               have F2:=zsz hfin2;clear hfin2
               go_wp2
               go_loopw [4,7] (fun _ i wr=>∃j:Nat,j<=v.subs.length/\i=.int .i64 (j:Int)/\Ext w2 wr/\Hid ((v.subs.map bare).take j=(u.subs.map bare).take j)) (fun _ i _=>v.subs.length - (intOf i).toNat)
               case atStart=>exact⟨0,Nat.zero_le _,rfl,hE2,rfl⟩
               case round=>
                obtain⟨j,hj,rfl,hE3,hT3⟩:=hrel;have ar:=hE3.of_cell a3;have br:=hE3.of_cell b3;by_cases hlt:j<v.subs.length
                . have hltI:(j:Int)<(v.subs.length:Int):=by omega
                  have hlu:j<u.subs.length:=by have:=E3.out;omega
                  obtain⟨c1,off1,f1,hA,h1,hb1,d0,d1⟩:=zgP (hv.own.subs.ext (X0.trans hE3)) hlt;obtain⟨c2,off2,f2,hB,h2,hb2,g0,g1⟩:=zgP (hu.own.subs.ext (X0.trans hE3)) hlu;rw[hA]at ar;rw[hB]at br;have H1:=zsz h1;have H2:=zsz h2;have M1:Hid ((v.subs.map bare)[j]?=some (bare f1)):=by show _=_;rw[List.getElem?_map,h1];rfl
                  have M2:Hid ((u.subs.map bare)[j]?=some (bare f2)):=by show _=_;rw[List.getElem?_map,h2];rfl
                  have hc:=Hp.out f1 (List.mem_of_getElem? h1) f2 (List.mem_of_getElem? h2);unfold treeV at hc;by_cases hf:bare f1=bare f2
                  . rw[zge hf]at hc
                    have Hf:=zsz hf;have Hc:=zsz hc;clear h1 h2 hf hc hA hB;have k1:=World.block_lt_of_cell? _ _ ar;have k2:=World.block_lt_of_cell? _ _ br;simp only at k1 k2
                    go_wp2
                    have Xw:Ext wr wr:=Ext.refl wr
                    go_region_held3 (fun W=>Ext wr W/\∀b o,b<wr.heap.size->W.cell? ⟨b,o,none⟩=wr.cell? ⟨b,o,none⟩) ((refine Ext.keep ?_;repeat with_reducible (first|assumption|exact Ext.refl _|refine Ext.alloc ?_ _|refine Ext.drew ?_|refine Ext.drewN ?_ _|refine Ext.setCell ?_ (by first|omega|(simp<;>omega)) _))) (first|(go_split_ands;go_at_call 29;refine(Hc.out _ ((X0.trans hE3).trans (by with_reducible assumption))).mono ?_;rintro e w9 ⟨rfl,E9⟩;have q0:Ext wr w9:=Ext.trans (by with_reducible assumption) E9))
                    go_wp2
                    go_roundw
                    case rel=>exact⟨j+1,by omega,by go_num,hE3.trans q0,by show _=_;rw[zaC _ _ _ M1.out,zaC _ _ _ M2.out,hT3.out,Hf.out]⟩
                    case measure=>simp[intOf];omega
                  . rw[zdF hf]at hc
                    have Hf:=zsz hf;have Hc:=zsz hc;clear h1 h2 hf hc hA hB;have k1:=World.block_lt_of_cell? _ _ ar;have k2:=World.block_lt_of_cell? _ _ br;simp only at k1 k2
                    go_wp2
                    have Xw:Ext wr wr:=Ext.refl wr
                    go_region_held3 (fun W=>Ext wr W/\∀b o,b<wr.heap.size->W.cell? ⟨b,o,none⟩=wr.cell? ⟨b,o,none⟩) ((refine Ext.keep ?_;repeat with_reducible (first|assumption|exact Ext.refl _|refine Ext.alloc ?_ _|refine Ext.drew ?_|refine Ext.drewN ?_ _|refine Ext.setCell ?_ (by first|omega|(simp<;>omega)) _))) (first|(go_split_ands;go_at_call 29;refine(Hc.out _ ((X0.trans hE3).trans (by with_reducible assumption))).mono ?_;rintro e w9 ⟨rfl,E9⟩;have q0:Ext wr w9:=Ext.trans (by with_reducible assumption) E9))
                    go_wp2
                    go_ret
                    refine⟨zam (zdF ?_).symm,(X0.trans hE3).trans q0⟩;intro hh;have hh:=(zcG.1 hh).2.2.2;have h1:=M1.out;rw[hh]at h1;have:=h1.symm.trans M2.out;exact Hf.out (by simpa using this)
                . have hge:¬((j:Int)<(v.subs.length:Int)):=by omega
                  have hfin3:v.subs.map bare=u.subs.map bare:=by
                   have:=hT3.out;have hn:=E3.out
                   rwa[List.take_of_length_le (by simp;omega),List.take_of_length_le (by simp;omega)]at this
                  have F3:=zsz hfin3;clear hfin3
                  go_wp2
                  go_ret
                  exact⟨zam (zge (zcG.2 ⟨E0.out,F1.out,F2.out,F3.out⟩)).symm,(X0.trans hE3).trans xx⟩
       . have t0:(v.number !=u.number)=false:=by simp[e0]
         have t1:((v.words.length:Int) !=(u.words.length:Int))=false:=by simp[e1]
         have t2:((v.texts.length:Int) !=(u.texts.length:Int))=false:=by simp[e2]
         have t3:((v.subs.length:Int) !=(u.subs.length:Int))=true:=by simp;omega
         have E0:=zsz e0;have E1:=zsz e1;have E2:=zsz e2;have E3:=zsz e3;clear e0 e1 e2 e3
         go_enter func26,ntmps26
         go_wp2
         go_ret
         refine⟨zam (zdF ?_).symm,xx⟩;intro hh;have hh:=zcG.1 hh;refine E3.out ?_;have:=congrArg List.length hh.2.2.2;simpa using this
     . have t0:(v.number !=u.number)=false:=by simp[e0]
       have t1:((v.words.length:Int) !=(u.words.length:Int))=false:=by simp[e1]
       have t2:((v.texts.length:Int) !=(u.texts.length:Int))=true:=by simp;omega
       have E0:=zsz e0;have E1:=zsz e1;have E2:=zsz e2;clear e0 e1 e2
       go_enter func26,ntmps26
       go_wp2
       go_ret
       refine⟨zam (zdF ?_).symm,xx⟩;intro hh;have hh:=zcG.1 hh;exact E2.out (by rw[hh.2.2.1])
   . have t0:(v.number !=u.number)=false:=by simp[e0]
     have t1:((v.words.length:Int) !=(u.words.length:Int))=true:=by simp;omega
     have E0:=zsz e0;have E1:=zsz e1;clear e0 e1
     go_enter func26,ntmps26
     go_wp2
     go_ret
     refine⟨zam (zdF ?_).symm,xx⟩;intro hh;have hh:=zcG.1 hh;exact E1.out (by rw[hh.2.1])
 . have t0:(v.number !=u.number)=true:=by simp[e0]
   have E0:=zsz e0;clear e0
   go_enter func26,ntmps26
   go_wp2
   go_ret
   refine⟨zam (zdF ?_).symm,xx⟩;intro hh;have hh:=zcG.1 hh;exact E0.out hh.1
theorem zrE{x y:MsgR}(hx:zay w x)(hy:zay w y)(hp:∀v∈x.vals,∀u∈y.vals,∀W:World,Ext w W->Calls prog 26 #[tvalV v,tvalV u] W fun e W'=>e=.returned (.bool (eqB (bareV v=bareV u)))/\Ext W W'):
 Calls prog 29 #[treeV x,treeV y] w fun e w'=>e=.returned (.bool (eqB (bare x=bare y)))/\Ext w w':=by
 have Hp:=zsz hp;clear hp;have hxv:=hx.vals.max;have hxv':=hx.vals.cap;have hxu:=hx.unk.at_.max;have hxu':=hx.unk.at_.cap;have hyv:=hy.vals.max;have hyv':=hy.vals.cap;have hyu:=hy.unk.at_.max;have hyu':=hy.unk.at_.cap;unfold maxLen at hxv hxu hyv hyu;unfold treeV;by_cases e0:x.vals.length=y.vals.length
 . by_cases e1:x.unk.length=y.unk.length
   . rw[<-e0,<-e1]
     rw[<-e0]at hyv';rw[<-e1]at hyu';have t0:((x.vals.length:Int) !=(x.vals.length:Int))=false:=by simp
     have t1:((x.unk.length:Int) !=(x.unk.length:Int))=false:=by simp
     have E0:=zsz e0;have E1:=zsz e1;clear e0 e1
     go_enter func29,ntmps29
     go_wp2
     have B1:BlkT ((w.alloc (.cells #[.slice x.a.1 x.vals.length x.a.2,.slice x.b.1 x.unk.length x.b.2] 40)).alloc (.cells #[.slice y.a.1 x.vals.length y.a.2,.slice y.b.1 x.unk.length y.b.2] 40)) w.heap.size 40 #[.slice x.a.1 x.vals.length x.a.2,.slice x.b.1 x.unk.length x.b.2]:=(BlkT.new w _ _ rfl).alloc _;have B2:BlkT ((w.alloc (.cells #[.slice x.a.1 x.vals.length x.a.2,.slice x.b.1 x.unk.length x.b.2] 40)).alloc (.cells #[.slice y.a.1 x.vals.length y.a.2,.slice y.b.1 x.unk.length y.b.2] 40)) (w.heap.size+1) 40 #[.slice y.a.1 x.vals.length y.a.2,.slice y.b.1 x.unk.length y.b.2]:=BlkT.new _ _ _ (by simp);have X0:Ext w ((w.alloc (.cells #[.slice x.a.1 x.vals.length x.a.2,.slice x.b.1 x.unk.length x.b.2] 40)).alloc (.cells #[.slice y.a.1 x.vals.length y.a.2,.slice y.b.1 x.unk.length y.b.2] 40)):=xx;generalize ((w.alloc (.cells #[.slice x.a.1 x.vals.length x.a.2,.slice x.b.1 x.unk.length x.b.2] 40)).alloc (.cells #[.slice y.a.1 x.vals.length y.a.2,.slice y.b.1 x.unk.length y.b.2] 40))=w2 at*;have a1:w2.cell? ⟨w.heap.size,0,none⟩=some (.slice x.a.1 x.vals.length x.a.2):=B1.cell 0;have b1:w2.cell? ⟨w.heap.size+1,0,none⟩=some (.slice y.a.1 x.vals.length y.a.2):=B2.cell 0;have a2:w2.cell? ⟨w.heap.size,1,none⟩=some (.slice x.b.1 x.unk.length x.b.2):=B1.cell 1;have b2:w2.cell? ⟨w.heap.size+1,1,none⟩=some (.slice y.b.1 x.unk.length y.b.2):=B2.cell 1
     go_loopw [4,5] (fun _ i wr=>∃j:Nat,j<=x.vals.length/\i=.int .i64 (j:Int)/\Ext w2 wr/\Hid ((x.vals.map bareV).take j=(y.vals.map bareV).take j)) (fun _ i _=>x.vals.length - (intOf i).toNat)
     case atStart=>exact⟨0,Nat.zero_le _,rfl,Ext.refl _,rfl⟩
     case round=>
      obtain⟨j,hj,rfl,hE1,hT1⟩:=hrel;have ar:=hE1.of_cell a1;have br:=hE1.of_cell b1;by_cases hlt:j<x.vals.length
      . have hltI:(j:Int)<(x.vals.length:Int):=by omega
        have hlu:j<y.vals.length:=by have:=E0.out;omega
        obtain⟨c1,off1,f1,hA,h1,hb1,d0,d1,d2,d3⟩:=zgE (hx.vals.ext (X0.trans hE1)) hlt;obtain⟨c2,off2,f2,hB,h2,hb2,g0,g1,g2,g3⟩:=zgE (hy.vals.ext (X0.trans hE1)) hlu;rw[hA]at ar;rw[hB]at br;have M1:Hid ((x.vals.map bareV)[j]?=some (bareV f1)):=by show _=_;rw[List.getElem?_map,h1];rfl
        have M2:Hid ((y.vals.map bareV)[j]?=some (bareV f2)):=by show _=_;rw[List.getElem?_map,h2];rfl
        have hc:=Hp.out f1 (List.mem_of_getElem? h1) f2 (List.mem_of_getElem? h2);unfold tvalV at hc;by_cases hf:bareV f1=bareV f2
        . rw[zge hf]at hc
          have Hf:=zsz hf;have Hc:=zsz hc;clear h1 h2 hf hc hA hB;have k1:=World.block_lt_of_cell? _ _ ar;have k2:=World.block_lt_of_cell? _ _ br;simp only at k1 k2
          go_wp2
          have Xw:Ext wr wr:=Ext.refl wr
          go_region_held3 (fun W=>Ext wr W/\∀b o,b<wr.heap.size->W.cell? ⟨b,o,none⟩=wr.cell? ⟨b,o,none⟩) ((refine Ext.keep ?_;repeat with_reducible (first|assumption|exact Ext.refl _|refine Ext.alloc ?_ _|refine Ext.drew ?_|refine Ext.drewN ?_ _|refine Ext.setCell ?_ (by first|omega|(simp<;>omega)) _))) (first|(go_split_ands;go_at_call 26;refine(Hc.out _ ((X0.trans hE1).trans (by with_reducible assumption))).mono ?_;rintro e w9 ⟨rfl,E9⟩;have q0:Ext wr w9:=Ext.trans (by with_reducible assumption) E9))
          go_wp2
          go_roundw
          case rel=>exact⟨j+1,by omega,by go_num,hE1.trans q0,by show _=_;rw[zaC _ _ _ M1.out,zaC _ _ _ M2.out,hT1.out,Hf.out]⟩
          case measure=>simp[intOf];omega
        . rw[zdF hf]at hc
          have Hf:=zsz hf;have Hc:=zsz hc;clear h1 h2 hf hc hA hB;have k1:=World.block_lt_of_cell? _ _ ar;have k2:=World.block_lt_of_cell? _ _ br;simp only at k1 k2
          go_wp2
          have Xw:Ext wr wr:=Ext.refl wr
          go_region_held3 (fun W=>Ext wr W/\∀b o,b<wr.heap.size->W.cell? ⟨b,o,none⟩=wr.cell? ⟨b,o,none⟩) ((refine Ext.keep ?_;repeat with_reducible (first|assumption|exact Ext.refl _|refine Ext.alloc ?_ _|refine Ext.drew ?_|refine Ext.drewN ?_ _|refine Ext.setCell ?_ (by first|omega|(simp<;>omega)) _))) (first|(go_split_ands;go_at_call 26;refine(Hc.out _ ((X0.trans hE1).trans (by with_reducible assumption))).mono ?_;rintro e w9 ⟨rfl,E9⟩;have q0:Ext wr w9:=Ext.trans (by with_reducible assumption) E9))
          go_wp2
          go_ret
          refine⟨zam (zdF ?_).symm,(X0.trans hE1).trans q0⟩;intro hh;have hh:=(zfB.1 hh).2;have h1:=M1.out;rw[hh]at h1;have:=h1.symm.trans M2.out;exact Hf.out (by simpa using this)
      . have hge:¬((j:Int)<(x.vals.length:Int)):=by omega
        have hfin1:x.vals.map bareV=y.vals.map bareV:=by
         have:=hT1.out;have hn:=E0.out
         rwa[List.take_of_length_le (by simp;omega),List.take_of_length_le (by simp;omega)]at this
        have F1:=zsz hfin1;clear hfin1
        go_wp2
        go_loopw [4,6] (fun _ i wr=>∃j:Nat,j<=x.unk.length/\i=.int .i64 (j:Int)/\Ext w2 wr/\Hid (x.unk.take j=y.unk.take j)) (fun _ i _=>x.unk.length - (intOf i).toNat)
        case atStart=>exact⟨0,Nat.zero_le _,rfl,hE1,rfl⟩
        case round=>
         obtain⟨j,hj,rfl,hE2,hT2⟩:=hrel;have ar:=hE2.of_cell a2;have br:=hE2.of_cell b2;by_cases hlt:j<x.unk.length
         . have hltI:(j:Int)<(x.unk.length:Int):=by omega
           have hlu:j<y.unk.length:=by have:=E1.out;omega
           obtain⟨c1,off1,f1,hA,h1,hb1,_,d0⟩:=(hx.unk.up (X0.trans hE2)).text (k:=j) hlt;obtain⟨c2,off2,f2,hB,h2,hb2,_,g0⟩:=(hy.unk.up (X0.trans hE2)).text (k:=j) hlu;rw[hA]at ar;rw[hB]at br;have H1:=zsz h1;have H2:=zsz h2;by_cases hf:f1=f2
           . have q2:(f1.toList==f2.toList)=true:=by rw[ziO];exact decide_eq_true hf
             have Hf:=zsz hf;clear h1 h2 hf
             go_wp2
             go_quiet (fail)
             go_wp2
             go_roundw
             case rel=>exact⟨j+1,by omega,by go_num,hE2.trans xx,by show _=_;rw[zaC _ _ _ H1.out,zaC _ _ _ H2.out,hT2.out,Hf.out]⟩
             case measure=>simp[intOf];omega
           . have q2:=zpm hf
             have Hf:=zsz hf;clear h1 h2 hf
             go_wp2
             go_quiet (fail)
             go_wp2
             go_ret
             refine⟨zam (zdF ?_).symm,(X0.trans hE2).trans xx⟩;intro hh;have hh:=(zfB.1 hh).1;have h1:=H1.out;rw[hh]at h1;have:=h1.symm.trans H2.out;exact Hf.out (by simpa using this)
         . have hge:¬((j:Int)<(x.unk.length:Int)):=by omega
           have hfin2:x.unk=y.unk:=by
            have:=hT2.out;have hn:=E1.out
            rwa[List.take_of_length_le (by omega),List.take_of_length_le (by omega)]at this
           have F2:=zsz hfin2;clear hfin2
           go_wp2
           go_ret
           exact⟨zam (zge (zfB.2 ⟨F2.out,F1.out⟩)).symm,(X0.trans hE2).trans xx⟩
   . have t0:((x.vals.length:Int) !=(y.vals.length:Int))=false:=by simp[e0]
     have t1:((x.unk.length:Int) !=(y.unk.length:Int))=true:=by simp;omega
     have E0:=zsz e0;have E1:=zsz e1;clear e0 e1
     go_enter func29,ntmps29
     go_wp2
     go_ret
     refine⟨zam (zdF ?_).symm,xx⟩;intro hh;exact E1.out (by rw[(zfB.1 hh).1])
 . have t0:((x.vals.length:Int) !=(y.vals.length:Int))=true:=by simp;omega
   have E0:=zsz e0;clear e0
   go_enter func29,ntmps29
   go_wp2
   go_ret
   refine⟨zam (zdF ?_).symm,xx⟩;intro hh;refine E0.out ?_;have:=congrArg List.length (zfB.1 hh).2;simpa using this
def RSame(x:MsgR):Prop:=∀(y:MsgR)(w:World),zay w x->zay w y->Calls prog 29 #[treeV x,treeV y] w fun e w'=>e=.returned (.bool (eqB (bare x=bare y)))/\Ext w w'
theorem rSame(x:MsgR):RSame x:=by
 refine MsgX.ind (P:=RSame) (fun x ih=> ?_) x;intro y w hx hy;refine zrE hx hy (fun v hv u hu W hW=> ?_);exact zqz ((hx.val hv).up hW) ((hy.val hu).up hW) (fun y' hy' z hz W' hW'=>ih v hv y' hy' z W' ((((hx.val hv).up hW).sub y' hy').up hW') ((((hy.val hu).up hW).sub z hz).up hW'))
end Go.Proofs.YtpicpebolghcfaaGreatDoor
namespace Go.Proofs.YtpicpebolghcfaaGreatDoor
open Go.RowKit Go.Shelf Go.Proofs.Tryz
theorem rOfB{S:List MsgV}(hR:zan (S.map MsgV.d)=true):∀d,d<=100000->OfR S (d+1) (ofV (S.map MsgV.d) d)
 |0,_=>rStep hR (Nat.zero_le _) (fun w SA sn sc m A n c bs _ _ _ h=>absurd h (Nat.not_lt_zero n))
 |d+1,h=>rStep hR (by omega) (rOfB hR d (by omega))
variable{bs:List UInt8}{p:ByteArray}{root d:Int}{S:List MsgD}
theorem znZ(h:(zap S root d p bs).2=0):(zai S d.toNat root.toNat bs).2=0/\(zap S root d p bs).1.length<=65/\0<=d/\d<=64:=by
 unfold zap at h⊢;by_cases h0:argsV S root d≠0
 . rw[if_pos h0]at h
   exact absurd h h0
 . rw[if_neg h0]at h⊢
   by_cases h1:(zas S root p).2≠0
   . rw[if_pos h1]at h
     exact absurd h h1
   . rw[if_neg h1]at h⊢
     obtain⟨_,_,_,_,_,q⟩:=zeH (S:=S) (root:=root) (p:=p) (by omega);have h2:(zaM S root bs d).2=0:=h;unfold zaM at h2;rw[if_pos (by omega)]at h2;refine⟨h2,q,?_⟩;have h3:argsV S root d=0:=by omega
     unfold argsV at h3;split at h3
     . cases h3
     . split at h3
       . cases h3
       . omega
theorem zkJ{D D':Nat}{f:zab}{ps:List (List UInt8)}(h:f.kind=17->∀b∈zcf f ps,b.length<=D/\b.length<=D'):zbr (ofV S D) f ps=zbr (ofV S D') f ps:=by
 unfold zbr;by_cases h17:f.kind=17
 . rw[if_pos h17,if_pos h17]
   congr 1;exact List.map_congr_left fun b hb=>zfE S D D' _ b (h h17 b hb).1 (h h17 b hb).2
 . rw[if_neg h17,if_neg h17]
theorem ziS{A B:Option Addr}{n c m k:Nat}{S:List MsgV}{w:World}(hs:zag w A n c S)(hroot: -9223372036854775808<=root/\root<9223372036854775808)(hb:zac w B m k bs)(hd: -9223372036854775808<=d/\d<9223372036854775808)(hp:p.size<=maxLen):
 Calls prog 5 #[.slice A n c,.int .i64 root,.slice B m k,.int .i64 d,.string p] w fun e w'=>e=.returned (.bool true)/\Ext w w':=by
 by_cases hm:m<=1500
 . by_cases hp5:p.size<=5000
   . have hm9:m<=1000000000:=by omega
     have hp9:p.size<=1000000000:=by omega
     by_cases hK:(zap (S.map MsgV.d) root d p bs).2=0
     . obtain⟨hRS,hr0,hr1,f,hf,_⟩:=at_on hK
       obtain⟨hval,hw65,hd0,hd64⟩:=znZ hK;have hpl:=zbZ (S.map MsgV.d) (zap (S.map MsgV.d) root d p bs).1 root.toNat bs;have hbl:=hb.length;have hSl:=hs.length;have hr1':=hr1;rw[List.length_map]at hr1;have hrn:root.toNat<n:=by omega
       have hroot2:((root.toNat:Nat):Int)=root:=Int.toNat_of_nonneg hr0;have hd2:((d.toNat:Nat):Int)=d:=Int.toNat_of_nonneg hd0;have hmS:root.toNat<(S.map MsgV.d).length:=by omega
       have hG:=fun W (a:zag W A n c S)(b:zac W B m k bs)=>zoj (root:=root) (d:=d) a b hm9 hp hK hf
       rcases ht:zbk f (atP (S.map MsgV.d) root d p bs)with _|_
       . refine zmw (K:=11) zgZ hs hb hm hp5 (by omega) (by omega) (fun W a b=> ?_)
         refine(hG W a b).mono ?_;rintro e w' ⟨A',c',h1,h2⟩;rw[show gotV f (atP (S.map MsgV.d) root d p bs)=([],11)by unfold gotV;rw[ht,if_neg (by simp)]]at h1;exact⟨A',c',h1,h2.ext⟩
       . have htp:zbk f (zao (S.map MsgV.d) root.toNat bs (zap (S.map MsgV.d) root d p bs).1)=true:=ht
         obtain⟨D',hDt,hat,hsol,hcode⟩:=at_of hRS hf bs 100000 d.toNat hmS (by omega) hval;obtain⟨l1,l2,l3,_⟩:=zox hRS hf (d:=d.toNat) (by omega) hval hmS (by omega) htp;obtain⟨m1,m2,m3⟩:=zrM hRS hf (d:=d.toNat) (by omega) hval hmS (by omega) hw65 htp;rw[hd2]at l1 l2;rw[if_pos htp]at hat
         have hload:∀b∈zcf f (zao (S.map MsgV.d) root.toNat bs (zap (S.map MsgV.d) root d p bs).1),b.length<=100000:=fun b hb'=>by
          unfold zcf at hb';split at hb'
          . have:=zcx hb'
            omega
          . rw[List.mem_singleton]at hb'
            subst hb';omega
         rw[zkJ (D':=100000) (fun h17 b hb'=>⟨hDt b hb' htp h17,hload b hb'⟩)]at hat;have hps:atP (S.map MsgV.d) root d p bs=zao (S.map MsgV.d) root.toNat bs (zap (S.map MsgV.d) root d p bs).1:=rfl;rw[<-hps]at l1 l2 l3 m1 m2 m3 hat
         have hgot:gotV f (atP (S.map MsgV.d) root d p bs)=(loadP f (atP (S.map MsgV.d) root d p bs),0):=by
          unfold gotV;rw[ht,if_pos rfl]
         have hset:setU (S.map MsgV.d) root d p bs (loadP f (atP (S.map MsgV.d) root d p bs)) f=(setB (S.map MsgV.d) true (zal f (loadP f (atP (S.map MsgV.d) root d p bs))) (zap (S.map MsgV.d) root d p bs).1 root.toNat bs true,0):=by
          unfold setU;rw[if_neg (by simpa using hK),if_neg (by simpa using l2)]
         rw[Int.max_comm]at l1;have hof:=rOfB hRS 100000 (Nat.le_refl _);generalize hcs:setB (S.map MsgV.d) true (zal f (loadP f (atP (S.map MsgV.d) root d p bs))) (zap (S.map MsgV.d) root d p bs).1 root.toNat bs true=cs at*;refine zrj (wl:=(zap (S.map MsgV.d) root d p bs).1.length) (vn:=(loadP f (atP (S.map MsgV.d) root d p bs)).length) (way:=(zap (S.map MsgV.d) root d p bs).1) (F:=f) (X:=ofV (S.map MsgV.d) 100000 root.toNat bs) (Z:=zbr (ofV (S.map MsgV.d) 100000) f (atP (S.map MsgV.d) root d p bs)) (vs:=loadP f (atP (S.map MsgV.d) root d p bs)) (cs:=cs) zgZ hs hb hm hp5 (IntWalk.i64_in _ ⟨by omega,by omega⟩) ?_ ?_ ?_ ?_ ?_ ?_ ?_ ?_ ?_ ?_ ?_
         . intro W a b
           have h:=hG W a b;rw[hgot]at h;refine h.mono ?_;rintro e w' ⟨A',c',h1,h2⟩;exact⟨A',c',h1,h2.reads,h2.ext⟩
         . intro W a b
           have h:=zmO (root:=root) (d:=d) a b hm9 hp9;rw[hK]at h;refine h.mono ?_;rintro e w' ⟨A',c',h1,h2⟩;exact⟨A',c',h1,h2.reads,h2.ext⟩
         . intro W a b
           have h:=hof W A n c root.toNat B m k bs a (by omega) b (by omega);rw[hroot2]at h;refine h.mono ?_;rintro e w' ⟨y,h1,h2,h3,_,h5⟩;exact⟨y,h1,h2,h3,h5⟩
         . intro W A' c' a h
           have:=rLast hRS a hrn hf h hw65;rw[hroot2]at this;exact this
         . intro W y A' c' hy hby h
           refine(rAt _ hf.ne hy (by rw[hby];exact hsol) h (by omega)).mono ?_;rintro e w' ⟨v,ok,h1,h2,h3⟩;have hbr:=zma (zap (S.map MsgV.d) root d p bs).1 y;rw[hby,hat]at hbr;rcases h3 with⟨_,h3⟩|⟨h3,h4⟩
           . rw[h3]at hbr
             cases hbr
           . subst h3
             rw[h4]at hbr;exact⟨v,h1,(zqB _ hy h4).up h2,Option.some.inj hbr,h2⟩
         . intro W V kv a b
           have h:=zqf (f:=f) (d:=max 0 (d - ((zap (S.map MsgV.d) root d p bs).1.length:Int))) a b (by omega);rw[l1]at h;exact h
         . intro W V kv a b
           refine(zqm (d:=max 0 (d - ((zap (S.map MsgV.d) root d p bs).1.length:Int))) a b (by omega) l1 hof).mono ?_;rintro e w' ⟨v,h1,h2,h3,h4⟩;exact⟨v,h1,h2.trans (l3 _),h3,h4⟩
         . intro W v u hv hu he
           refine(zqz hv hu (fun y hy z hz W' E=>rSame y z W' ((hv.sub y hy).up E) ((hu.sub z hz).up E))).mono ?_;rintro e w' ⟨h1,h2⟩;rw[zge he]at h1;exact⟨h1,h2⟩
         . intro W V kv a b hv
           refine(uSet (root:=root) (d:=d) (p:=p) a b (by omega) hv (by omega) hp hK hf).mono ?_;rintro e w' ⟨A',n',c',h1,_,h2,h3⟩;rw[hset]at h1 h2;exact⟨A',n',c',h1,h2,h3⟩
         . intro W V n' c' a b
           have hl:=b.length;have h:=hof W A n c root.toNat V n' c' cs a (by omega) b (by omega);rw[hroot2,m3 100000 (by omega)]at h;refine h.mono ?_;rintro e w' ⟨y,h1,h2,h3,_,h5⟩;exact⟨y,h1,h2,h3,h5⟩
         . intro W y z hy hz he
           refine(rSame y z W hy hz).mono ?_;rintro e w' ⟨h1,h2⟩;rw[zge he]at h1;exact⟨h1,h2⟩
     . refine zmw (K:=(zap (S.map MsgV.d) root d p bs).2) zgZ hs hb hm hp5 hK (at_le _ _ _ _ _) (fun W a b=> ?_)
       refine(zpK (root:=root) (d:=d) a b hm9 hp rfl hK).mono ?_;rintro e w' ⟨h1,h2⟩;exact⟨none,0,h1,h2⟩
   . exact zoV zgZ hs hb hm hp (by omega)
 . exact znx zgZ hs hb (by omega) hp
end Go.Proofs.YtpicpebolghcfaaGreatDoor
