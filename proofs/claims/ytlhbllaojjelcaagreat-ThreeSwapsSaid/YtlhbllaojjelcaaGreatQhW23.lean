/- Contracts of layer 14: a meaning in new memory. (Begun.) -/
import Derived.Test.YtlhbllaojjelcaaGreatQhM37

set_option linter.unusedVariables false
set_option maxRecDepth 100000
set_option maxHeartbeats 4000000
namespace Go.Proofs.YtlhbllaojjelcaaGreat
open Go.RowKit Go.Shelf Tryz
variable{cs:Array Value}{xs:List Value}{A:Option Addr}{size n c b:Nat}{e t:TypeId}{w0 w:World}
theorem Own.uses_ne(h:Own w0 w e size A n c xs)(k:BlkT w b t cs)(hne:e≠t){g:Nat}(hu:UsesA A n g):g≠b:=by
 refine h.not_blk k hne (g:=g) ?_;obtain⟨hn,p,rfl,rfl⟩:=hu;rcases h.row.2 with⟨hv,_⟩|⟨g,cap,cur,hv,hg,_⟩
 . cases hv
 . cases hv;rfl
theorem Own.far4(h:Own w0 w e size A n c xs)(k:BlkT w b t cs)(hne:e≠t)(hb:w0.heap.size<=b)(u0 u1 u2 u3:Value):
 Own w0 ((((w.setCell ⟨b,0,none⟩ u0).setCell ⟨b,1,none⟩ u1).setCell ⟨b,2,none⟩ u2).setCell ⟨b,3,none⟩ u3) e size A n c xs:=
 (((h.far k hne hb 0 u0).far (k.set_ 0 u0) hne hb 1 u1).far ((k.set_ 0 u0).set_ 1 u1) hne hb 2 u2).far (((k.set_ 0 u0).set_ 1 u1).set_ 2 u2) hne hb 3 u3
theorem Ext.drew_of{w':World}(h:Ext w.drew w'):Ext w w':=((Ext.refl w).drew).trans h
def TCopy(x:MsgR):Prop:=∀w:World,zah w x->FitT 1000000000000 x->Calls prog 28 #[treeV x] w fun e w'=>∃y,e=.returned (treeV y)/\bare y=bare x/\zah w' y/\(∀b,UsesT y b->w.heap.size<=b)/\Ext w w'
theorem zrT{x:MsgR}(ih:∀v∈x.vals,∀y∈v.subs,TCopy y):TCopy x:=by
 intro w hx hfit;have hvals:=hx.vals;have hunk:=hx.unk;have hmax:=hvals.max;have hcap:=hvals.cap;have humax:=hunk.at_.max;have hucap:=hunk.at_.cap;have hfv:=hfit.vals;have hfu:=hfit.unk;unfold maxLen at hmax humax;have hcl:=fun(W:World)(E:Ext w W)=>znA (hx.unk.up E) hfu
 have Ih:=zsp ih;have Hfit:=zsp hfit;unfold treeV;obtain⟨va,hva⟩:∃va,va=x.a.1:=⟨_,rfl⟩
 obtain⟨vb,hvb⟩:∃vb,vb=x.b.1:=⟨_,rfl⟩
 rw[<-hvb]at hcl;rw[<-hva,<-hvb];have Hva:=zsp hva;generalize hm:x.vals.length=m at*;have Hm:=zsp hm;generalize hun:x.unk.length=un at*;have Hun:=zsp hun;have Hcl:=zsp hcl;clear ih hm hun hva hvb hvals hunk hfit hcl
 go_enter func28,ntmps28
 go_wp2_with (go_at_call 59;refine(Hcl.out _ xx).mono ?_;rintro e w4 ⟨A4,c4,rfl,own4⟩;have o0:w4.cell? ⟨w.heap.size,0,none⟩=some (.slice va m x.a.2):=(((BlkT.new w 27 #[.slice va m x.a.2,.slice vb un x.b.2] rfl).alloc _).up own4.ext).cell 0;have o1:w.heap.size<w4.heap.size:=by{have h:=own4.ext.size;simp at h;omega})
 have hp4:=own4.ext.size;have hp4:w.heap.size+1+1<=w4.heap.size:=by simpa using hp4
 have X2:Ext w ((w.alloc (.cells #[.slice va m x.a.2,.slice vb un x.b.2] 27)).alloc (.cells #[.slice none 0 0,.slice none 0 0] 27)):=xx;have X4:Ext w w4:=X2.trans own4.ext;have B1:BlkT (w4.alloc (.cells #[.slice none 0 0,.slice A4 un c4] 27)) w.heap.size 27 #[.slice va m x.a.2,.slice vb un x.b.2]:=(((BlkT.new w _ _ rfl).alloc _).up own4.ext).alloc _;have B2:BlkT (w4.alloc (.cells #[.slice none 0 0,.slice A4 un c4] 27)) (w.heap.size+1) 27 #[.slice none 0 0,.slice none 0 0]:=((BlkT.new _ _ _ (by simp)).up own4.ext).alloc _;have B3:BlkT (w4.alloc (.cells #[.slice none 0 0,.slice A4 un c4] 27)) w4.heap.size 27 #[.slice none 0 0,.slice A4 un c4]:=BlkT.new _ _ _ rfl;have X3:Ext w (w4.alloc (.cells #[.slice none 0 0,.slice A4 un c4] 27)):=X4.alloc _
 have hu4:∀b,UsesA A4 un b->w.heap.size<=b/\b<w4.heap.size:=fun b hb=>by
  have h1:=own4.uses_new hb;have h2:=own4.reads.uses_lt hb;have h1:w.heap.size+1+1<=b:=by simpa using h1
  omega
 have V0:ValsT (w4.alloc (.cells #[.slice none 0 0,.slice A4 un c4] 27)) (w4.alloc (.cells #[.slice none 0 0,.slice A4 un c4] 27)) w4.heap.size none (fun _=>False) (A4,c4) x.unk []:=by
  refine⟨(fun y h=>by cases h),⟨?_,hx.unk.size⟩,(fun y h=>by cases h),fun b hb=>⟨?_,(fun q=>by cases q)⟩,(fun y h=>by cases h),Nat.le_refl _⟩
  . have h:=own4.reads.ext ((Ext.refl w4).alloc (.cells #[.slice none 0 0,.slice A4 un c4] 27))
    show Reads _ A4 x.unk.length c4 1 _;rw[Hun.out];exact h
  . have h:=hu4 b (by have h:=hb;rw[Hun.out]at h;exact h)
    omega
 have hu2:∀b,UsesA A4 un b->w.heap.size+1+1<=b:=fun b hb=>by
  have h1:=own4.uses_new hb;simpa using h1
 have Hu2:=zsp hu2;have B3l:=B3.lt;have y3:(w4.alloc (.cells #[.slice none 0 0,.slice A4 un c4] 27)).heap.size=w4.heap.size+1:=by simp
 clear own4 X4 hu4 hu2 X2;generalize w4.alloc (.cells #[.slice none 0 0,.slice A4 un c4] 27)=w3 at*;generalize w4.heap.size=b3 at*
 go_loopw [5,6,8,16,32] (fun _ _ _ i _ wr=>∃(k:Nat)(A2:Option Addr)(c2:Nat)(ys:List ValR),k<=m/\i=.int .i64 (k:Int)/\BlkT wr (w.heap.size+1) 27 #[.slice none 0 0,.slice none 0 0]/\BlkT wr b3 27 #[.slice A2 k c2,.slice A4 un c4]/\Own w wr 69 4 A2 k c2 (ys.flatMap tvalC)/\Hid (ys.map bareV=(x.vals.take k).map bareV)/\ValsT w3 wr b3 A2 (fun _=>False) (A4,c4) x.unk ys) (fun _ _ _ i _ _=>m - (intOf i).toNat)
 case atStart=>exact⟨0,none,0,[],Nat.zero_le _,rfl,B2,B3,Own.nil X3 _ _,rfl,V0⟩
 case round=>
  rename World=>wr
  obtain⟨k,A2,c2,ys,hk,rfl,hB2,hB3,own,hD,hT⟩:=hrel;by_cases hlt:k<m
  . have hltI:(k:Int)<m:=by omega
    have hxr:=hx.up own.ext;have hsr:=hxr.vals;rw[Hm.out,<-Hva.out]at hsr;obtain⟨b5,off5,v,hA,hv,hb5,e0,e1,e2,e3⟩:=zdO hsr hlt;have hvm:=List.mem_of_getElem? hv;have hval:=hxr.val hvm;obtain⟨f1,f2,f3⟩:=Hfit.out.each v hvm;have hcw:=fun(W:World)(E:Ext wr W)=>zqC (A:=v.a) (l:=v.words) (hval.own.words.ext E) f1
    have hct:=fun(W:World)(E:Ext wr W)=>znA (hval.own.texts.up E) f2
    have Hcw:=zsp hcw;have Hct:=zsp hct;have Hv:=zsp hv;have smax:=hval.own.subs.max;have scap:=hval.own.subs.cap;unfold maxLen at smax;rw[hA];clear hcw hct hv hsr;obtain⟨vc,hvc⟩:∃vc,vc=v.c.1:=⟨_,rfl⟩
    rw[<-hvc]at e3;have Hvc:=zsp hvc;generalize hmm:v.subs.length=mm at*;have Hmm:=zsp hmm;clear hvc hmm;have BV:=BlkT.new wr 69 #[.int .i64 v.number,.slice v.a.1 v.words.length v.a.2,.slice v.b.1 v.texts.length v.b.2,.slice vc mm v.c.2] rfl;have Xv:Ext wr (wr.alloc (.cells #[.int .i64 v.number,.slice v.a.1 v.words.length v.a.2,.slice v.b.1 v.texts.length v.b.2,.slice vc mm v.c.2] 69)):=(Ext.refl wr).alloc _
    go_wp2_with fail
    generalize wr.alloc (.cells #[.int .i64 v.number,.slice v.a.1 v.words.length v.a.2,.slice v.b.1 v.texts.length v.b.2,.slice vc mm v.c.2] 69)=wv at*;have z0:wv.cell? ⟨wr.heap.size,0,none⟩=some (.int .i64 v.number):=BV.cell 0;have z1:wv.cell? ⟨wr.heap.size,1,none⟩=some (.slice v.a.1 v.words.length v.a.2):=BV.cell 1;have z2:wv.cell? ⟨wr.heap.size,2,none⟩=some (.slice v.b.1 v.texts.length v.b.2):=BV.cell 2;have z3:wv.cell? ⟨wr.heap.size,3,none⟩=some (.slice vc mm v.c.2):=BV.cell 3;have zl:=BV.lt;have Xvv:Ext wv wv:=Ext.refl wv;clear BV
    go_cut [6]from 20 to 29 (fun q wz=>∃b6 A5 c5 A6 c6,q=.pointer (some ⟨b6,0,none⟩)/\wv.heap.size<=b6/\BlkT wz b6 69 #[.int .i64 v.number,.slice A5 v.words.length c5,.slice A6 v.texts.length c6,.slice none 0 0]/\Own wv wz 100 1 A5 v.words.length c5 (v.words.map uv)/\Own wv wz 9 1 A6 v.texts.length c6 (v.texts.map strV))
    case first=>
     go_region_held3 (fun W=>Ext wv W/\∀b o,b<wv.heap.size->W.cell? ⟨b,o,none⟩=wv.cell? ⟨b,o,none⟩) ((refine Ext.keep ?_;repeat with_reducible (first|assumption|exact Ext.refl _|refine Ext.alloc ?_ _|refine Ext.drew ?_|refine Ext.drewN ?_ _|refine Ext.setCell ?_ (by first|omega|(simp<;>omega)) _))) (first
      |(go_split_ands;go_at_call 60;refine(Hcw.out _ (Xv.trans (by with_reducible assumption))).mono ?_;rintro e w5 ⟨A5,c5,rfl,own5⟩;have q5:Ext wv w5:=Ext.trans (by with_reducible assumption) own5.ext;have o5:=own5.since (by with_reducible assumption);have q5s:=q5.size;(try(have B5:=(BlkT.new wv 69 #[.int .i64 0,.slice none 0 0,.slice none 0 0,.slice none 0 0] rfl).up (Ext.drew_of own5.ext);have g1:∀i,w5.cell? ⟨wv.heap.size,i,none⟩=(#[.int .i64 0,.slice none 0 0,.slice none 0 0,.slice none 0 0]:Array Value)[i]?:=B5.cell;have g2:∀i,w5.frozen? ⟨wv.heap.size,i,none⟩=false:=B5.free;have g3:=B5.lt)))
      |(go_split_ands;go_at_call 59;refine(Hct.out _ (Xv.trans (by with_reducible assumption))).mono ?_;rintro e w6 ⟨A6,c6,rfl,own6⟩;have q6:Ext wv w6:=Ext.trans (by with_reducible assumption) own6.ext;have o6:=own6.since (by with_reducible assumption);have q6s:=q6.size;(try(replace B5:=B5.up own6.ext;clear g1 g2;have g1:∀i,w6.cell? ⟨wv.heap.size,i,none⟩=(#[.int .i64 0,.slice none 0 0,.slice none 0 0,.slice none 0 0]:Array Value)[i]?:=B5.cell;have g2:∀i,w6.frozen? ⟨wv.heap.size,i,none⟩=false:=B5.free;replace g3:=B5.lt));(try(have B5:=(BlkT.new w5 69 #[.int .i64 0,.slice none 0 0,.slice none 0 0,.slice none 0 0] rfl).up own6.ext;have g1:∀i,w6.cell? ⟨w5.heap.size,i,none⟩=(#[.int .i64 0,.slice none 0 0,.slice none 0 0,.slice none 0 0]:Array Value)[i]?:=B5.cell;have g2:∀i,w6.frozen? ⟨w5.heap.size,i,none⟩=false:=B5.free;have g3:=B5.lt))))
     all_goals (go_wp2_with fail;go_meet)
     . exact⟨_,A5,c5,A6,c6,rfl,q6s,BlkT.new _ _ _ rfl,(o5.up own6.ext).alloc _,o6.alloc _⟩
     . exact⟨_,A5,c5,A6,c6,rfl,q5s,(((B5.set_ 0 _).set_ 1 _).set_ 2 _).set_ 3 _,((o5.alloc _).up own6.ext).far4 B5 (by decide) q5s _ _ _ _,o6.far4 B5 (by decide) q5s _ _ _ _⟩
     . exact⟨_,A5,c5,A6,c6,rfl,Nat.le_refl _,(((B5.set_ 0 _).set_ 1 _).set_ 2 _).set_ 3 _,(o5.up own6.ext).far4 B5 (by decide) (Nat.le_refl _) _ _ _ _,o6.far4 B5 (by decide) (Nat.le_refl _) _ _ _ _⟩
    case rest=>
     obtain⟨b6,A5,c5,A6,c6,rfl,hb6,B6,o5,o6⟩:=hcut;have Xc:Ext wv wc:=o5.ext;have Xrc:Ext wr wc:=Xv.trans Xc;have z3c:wc.cell? ⟨wr.heap.size,3,none⟩=some (.slice vc mm v.c.2):=Xc.of_cell z3;have zlc:wr.heap.size<wc.heap.size:=Nat.lt_of_lt_of_le zl Xc.size;have B6l:=B6.lt;have T7:Trees wr wc b6 none (fun _=>False) []:=Trees.nil Xrc.size
     have V7:ValsT wr wc b6 none (fun _=>False) (none,0) [] [⟨(A5,c5),(A6,c6),(none,0),v.number,v.words,v.texts,[]⟩]:=by
      refine⟨fun y hy=> ?_,⟨Reads.nil _ _,fun t h=>by cases h⟩,fun y hy b hb=> ?_,fun b hb=>absurd hb.1 (Nat.lt_irrefl _),fun y hy b hb=> ?_,Xrc.size⟩
      . rw[List.mem_singleton]at hy
        subst hy;exact⟨⟨hval.own.num,o5.reads,hval.own.small,⟨o6.reads,hval.own.texts.size⟩,Reads.nil _ _⟩,fun y h=>by cases h⟩
      . rw[List.mem_singleton]at hy
        subst hy;refine⟨?_,fun q=>by cases q⟩;rcases hb with(hb|hb|hb)|⟨y,hy,_⟩
        . exact o5.uses_ne B6 (by decide) hb
        . exact o6.uses_ne B6 (by decide) hb
        . exact absurd hb.1 (Nat.lt_irrefl _)
        . cases hy
      . rw[List.mem_singleton]at hy
        subst hy;refine .inr ?_;rcases hb with(hb|hb|hb)|⟨y,hy,_⟩
        . exact Nat.le_trans (Nat.le_of_lt zl) (o5.uses_new hb)
        . exact Nat.le_trans (Nat.le_of_lt zl) (o6.uses_new hb)
        . exact absurd hb.1 (Nat.lt_irrefl _)
        . cases hy
     have N7:Own wr wc 27 2 none 0 0 []:=Own.nil Xrc _ _;clear o5 o6 z0 z1 z2 z3 Xvv
     go_wp2_with fail
     go_loopw [8,32] (fun _ j wi=>∃(kk:Nat)(A7:Option Addr)(c7:Nat)(ys7:List MsgR),kk<=mm/\j=.int .i64 (kk:Int)/\BlkT wi b6 69 #[.int .i64 v.number,.slice A5 v.words.length c5,.slice A6 v.texts.length c6,.slice A7 kk c7]/\Own wr wi 27 2 A7 kk c7 (ys7.flatMap treeC)/\Hid (ys7.map bare=(v.subs.take kk).map bare)/\Trees wr wi b6 A7 (fun _=>False) ys7/\ValsT wr wi b6 A7 (fun _=>False) (none,0) [] [⟨(A5,c5),(A6,c6),(none,0),v.number,v.words,v.texts,[]⟩]) (fun _ j _=>mm - (intOf j).toNat)
     case atStart=>exact⟨0,none,0,[],Nat.zero_le _,rfl,B6,N7,rfl,T7,V7⟩
     case round=>
      rename World=>wi
      obtain⟨kk,A7,c7,ys7,hkk,rfl,B6,own7,hD7,hT7,hV7⟩:=hrel;have Xri:Ext wr wi:=own7.ext;have B6l:=B6.lt;by_cases hlt7:kk<mm
      . have hltI7:(kk:Int)<mm:=by omega
        have hvi:=hval.up Xri;have hsi:=hvi.own.subs;rw[Hmm.out,<-Hvc.out]at hsi;obtain⟨b9,off9,y,hA9,hy,hb9,e9,e10⟩:=zdw hsi hlt7;have hym:=List.mem_of_getElem? hy;have hty:=hvi.sub y hym;have hcall:∀W,zah W y->Calls prog 28 #[treeV y] W fun e w'=>∃y',e=.returned (treeV y')/\bare y'=bare y/\zah w' y'/\(∀b,UsesT y' b->W.heap.size<=b)/\Ext W w':=fun W h=>Ih.out v hvm y hym W h (Hfit.out.sub v hvm y hym)
        unfold treeV at hcall;have y3:wi.cell? ⟨b6,3,none⟩=some (.slice A7 kk c7):=B6.cell 3;have f3:=B6.free 3;have Hcall:=zsp hcall;have Hy:=zsp hy;rw[hA9];clear hcall hy hsi
        go_wp2
        go_region_law (first
         |(go_simp;go_at_call 28;refine(Hcall.out _ (hty.up xx)).mono ?_;rintro e w5 ⟨y',rfl,hb',hT',hU',E5⟩;have X5:Ext wi w5:=Ext.trans xx E5;have y5:=X5.of_cell y3;have y5l:=Nat.lt_of_lt_of_le B6l X5.size)
         |(refine zcc zkg (by rfl) (.tmp 37) (.tmp 40) (by rfl) (by rfl) ((own7.up X5).alloc _) (by rfl) (zbJ w5 (treeC y') 27 rfl rfl) (by simpa using zej [y']) (by omega) (by unfold maxLen;omega) ?_;intro A8 c8 w8 own8 g8 m8;have hB8:=((B6.up X5).alloc _).beside ((own7.up X5).alloc _) (by decide) g8;have hl8:=hB8.lt;have hf8:=hB8.free 3;have hc8:w8.cell? ⟨b6,3,none⟩=some (.slice A7 kk c7):=hB8.cell 3))
        all_goals
         go_simp
         go_wp2
         go_roundw
         case rel=>
          have hnew:∀b,UsesT y' b->wi.heap.size<=b:=fun b hb=>by
           have h:=hU' b hb;have h:wi.heap.size+1<=b:=by simpa using h
           omega
          have hTg:=((hT7.up X5).snoc hT' (fun b hb=>by
           have h:=hnew b hb;refine⟨by omega,fun q=> ?_⟩;have:=(own7.block_new (g:=b) (by rw[zak A7 kk c7 0 0];exact q)).2
           omega) (fun b hb=>.inr (Nat.le_trans Xri.size (hnew b hb)))).grow (Ext.alloc (Ext.refl w5) _) g8 m8
          have hVg:=(hV7.up X5).grow (Ext.alloc (Ext.refl w5) _) g8 m8;have hB88:=hB8.set_ 3 (.slice A8 (kk+1) c8);have hfar:=own8.far hB8 (by decide) (show wr.heap.size<=b6 by omega) 3 (.slice A8 (kk+1) c8);refine⟨kk+1,A8,c8,ys7++[y'],by omega,by go_num,hB88,?_,?_,hTg.store 3 _,hVg.store 3 _⟩
          . rw[List.flatMap_append]
            simpa using hfar
          . show _=_
            rw[zap _ _ _ Hy.out,List.map_append,List.map_append,hD7.out];simp[hb']
         case measure=>simp[intOf];omega
      . have hge7:¬((kk:Int)<(mm:Int)):=by omega
        have hkk7:kk=mm:=by omega
        have hlen7:ys7.length=mm:=by
         have h1:=congrArg List.length hD7.out;simp only[List.length_map,List.length_take]at h1;have h2:=Hmm.out;omega
        have hva':ValAt wi ⟨(A5,c5),(A6,c6),(A7,c7),v.number,v.words,v.texts,ys7⟩:=by
         have h:=hV7.at_ _ (List.mem_singleton.2 rfl);refine⟨⟨h.own.num,h.own.words,h.own.small,h.own.texts,?_⟩,fun y hy=>hT7.at_ y hy⟩;show Reads _ A7 ys7.length c7 2 (ys7.flatMap treeC);rw[hlen7,<-hkk7];exact own7.reads
        have hVu:∀b,UsesV ⟨(A5,c5),(A6,c6),(A7,c7),v.number,v.words,v.texts,ys7⟩ b->wr.heap.size<=b:=fun b hb=>by
         have h0:=hV7.from_ _ (List.mem_singleton.2 rfl) b;rcases hb with(hb|hb|hb)|⟨y,hy,hb⟩
         . exact(h0 (.inl (.inl hb))).resolve_left id
         . exact(h0 (.inl (.inr (.inl hb)))).resolve_left id
         . have hb':UsesA A7 ys7.length b:=hb
           rw[hlen7,<-hkk7]at hb';exact own7.uses_new hb'
         . exact(hT7.from_ y hy b hb).resolve_left id
        have hVb:bareV ⟨(A5,c5),(A6,c6),(A7,c7),v.number,v.words,v.texts,ys7⟩=bareV v:=by
         unfold bareV;simp only;rw[hD7.out,hkk7,<-Hmm.out,List.take_length]
        obtain⟨v',hv'⟩:∃v':ValR,v'=⟨(A5,c5),(A6,c6),(A7,c7),v.number,v.words,v.texts,ys7⟩:=⟨_,rfl⟩
        have hC:(#[.int .i64 v.number,.slice A5 v.words.length c5,.slice A6 v.texts.length c6,.slice A7 kk c7]:Array Value)=(tvalC v').toArray:=by
         rw[hv',hkk7,<-hlen7];rfl
        have HC:=zsp hC;rw[<-hv']at hva' hVu hVb;have p0:wi.cell? ⟨b6,0,none⟩=some (.int .i64 v.number):=B6.cell 0;have p1:wi.cell? ⟨b6,1,none⟩=some (.slice A5 v.words.length c5):=B6.cell 1;have p2:wi.cell? ⟨b6,2,none⟩=some (.slice A6 v.texts.length c6):=B6.cell 2;have p3:wi.cell? ⟨b6,3,none⟩=some (.slice A7 kk c7):=B6.cell 3;have hB3i:=hB3.up Xri;have l3:=hB3i.lt;have y0:wi.cell? ⟨b3,0,none⟩=some (.slice A2 k c2):=hB3i.cell 0
        have hVc:∀u∈ [Value.int .i64 v.number,.slice A5 v.words.length c5,.slice A6 v.texts.length c6,.slice A7 kk c7],u.oneCell'=true:=fun u hu=>by
         have h:=zgO [v'] u
         have e:[v'].flatMap tvalC=[Value.int .i64 v.number,.slice A5 v.words.length c5,.slice A6 v.texts.length c6,.slice A7 kk c7]:=by
          rw[List.flatMap_cons,List.flatMap_nil,List.append_nil];have:=congrArg Array.toList HC.out;simpa using this.symm
         rw[e]at h;exact h hu
        have HVc:=zsp hVc;have HVu:=zsp hVu;have HVb:=zsp hVb;clear hC hv' hVc hVu hVb B6 hD7 hT7 hV7 hkk7 hlen7
        go_wp2_with (first
         |(at_builtin;refine zbd zoh rfl (.tmp 45) (.tmp 47) rfl rfl ((own.up Xri).alloc _) rfl (zbJ wi [Value.int .i64 v.number,.slice A5 v.words.length c5,.slice A6 v.texts.length c6,.slice A7 kk c7] 69 rfl rfl) HVc.out (by omega) (by unfold maxLen;omega) ?_;intro A8 c8 w8 own8 g8 m8;have hB8:=(hB3i.alloc (.cells #[.int .i64 v.number,.slice A5 v.words.length c5,.slice A6 v.texts.length c6,.slice A7 kk c7] 69)).beside ((own.up Xri).alloc _) (by decide) g8;have hl8:=hB8.lt;have hf8:=hB8.free 0;have hc8:w8.cell? ⟨b3,0,none⟩=some (.slice A2 k c2):=hB8.cell 0))
        go_roundw
        case rel=>
         have hTg:=((hT.up Xri).snoc hva' (fun b hb=>by
          have h:=HVu.out b hb;have h1:=hB3.lt;refine⟨by omega,fun q=> ?_⟩;have:=(own.block_new (g:=b) (by rw[zak A2 k c2 0 0];exact q)).2
          omega) (fun b hb=>.inr (Nat.le_trans hT.size (HVu.out b hb)))).grow (Ext.alloc (Ext.refl wi) _) g8 m8
         have hB38:=hB8.set_ 0 (.slice A8 (k+1) c8);have hfar:=own8.far hB8 (by decide) (show w.heap.size<=b3 by omega) 0 (.slice A8 (k+1) c8);refine⟨k+1,A8,c8,ys++[v'],by omega,by go_num,(((hB2.up Xri).alloc _).beside ((own.up Xri).alloc _) (by decide) g8).set_far _ (by omega) _,hB38,?_,?_,hTg.store 0 _⟩
         . rw[List.flatMap_append,List.flatMap_cons,List.flatMap_nil,List.append_nil]
           have e:tvalC v'=[Value.int .i64 v.number,.slice A5 v.words.length c5,.slice A6 v.texts.length c6,.slice A7 kk c7]:=by
            have:=congrArg Array.toList HC.out;simpa using this.symm
           rw[e];exact hfar
         . show _=_
           rw[zap _ _ _ Hv.out,List.map_append,List.map_append,hD.out];simp[HVb.out]
        case measure=>simp[intOf];omega
  . have hge:¬((k:Int)<(m:Int)):=by omega
    have p0:wr.cell? ⟨b3,0,none⟩=some (.slice A2 k c2):=hB3.cell 0;have p1:wr.cell? ⟨b3,1,none⟩=some (.slice A4 un c4):=hB3.cell 1;have s0:wr.cell? ⟨w.heap.size+1,0,none⟩=some (.slice none 0 0):=hB2.cell 0;have s1:wr.cell? ⟨w.heap.size+1,1,none⟩=some (.slice none 0 0):=hB2.cell 1;have r0:=hB2.free 0;have r1:=hB2.free 1;have l2:=hB2.lt
    go_wp2
    (try simp only[Exit.inBlock,Exit.then])
    have BF:=(hB2.set_ 0 (.slice A2 k c2)).set_ 1 (.slice A4 un c4);have EW:Ext w wr:=own.ext
    have EF:Ext w ((wr.setCell ⟨w.heap.size+1,0,none⟩ (.slice A2 k c2)).setCell ⟨w.heap.size+1,1,none⟩ (.slice A4 un c4)):=
     (EW.setCell (show w.heap.size<=w.heap.size+1 by omega) _).setCell (show w.heap.size<=w.heap.size+1 by omega) _
    have o1:=own.far hB2 (by decide) (show w.heap.size<=w.heap.size+1 by omega) 0 (.slice A2 k c2);have o2:=o1.far (hB2.set_ 0 (.slice A2 k c2)) (by decide) (show w.heap.size<=w.heap.size+1 by omega) 1 (.slice A4 un c4);refine bodyPost_ret (results_cell_row (ty:=27) rfl _ _ (w.heap.size+1) _ _ (0,0) _ rfl BF underlying27 rfl (by kernel_rfl)) rfl ?_;have hkm:k=m:=by omega
    have hlen:ys.length=m:=by
     have h1:=congrArg List.length hD.out;simp only[List.length_map,List.length_take]at h1;have h2:=Hm.out;omega
    have hS:Stays (fun b=>b≠w.heap.size+1) wr ((wr.setCell ⟨w.heap.size+1,0,none⟩ (.slice A2 k c2)).setCell ⟨w.heap.size+1,1,none⟩ (.slice A4 un c4)):=
     ((Stays.refl _ wr).set (fun e=>e rfl) _).set (fun e=>e rfl) _
    have hYs:∀y∈ys,∀b,UsesV y b->w3.heap.size<=b:=fun y hy b hb=>(hT.from_ y hy b hb).resolve_left id
    have ho4:=o2.reads;refine⟨.mk (A2,c2) (A4,c4) ys x.unk,?_,?_,?_,?_,EF⟩
    . show Ending.returned (Value.agg #[.slice A2 k c2,.slice A4 un c4])=Ending.returned (Value.agg #[.slice A2 ys.length c2,.slice A4 x.unk.length c4])
      rw[hlen,<-hkm,Hun.out]
    . rw[zbf,zbf]
      show MsgX.mk () () (ys.map bareV) x.unk=_;rw[hD.out,hkm,<-Hm.out,List.take_length]
    . refine zah.of ?_ ?_ (fun y hy=> ?_)
      . show Reads _ A2 ys.length c2 4 (ys.flatMap tvalC)
        rw[hlen,<-hkm];exact ho4
      . refine hT.unk.stays hS (fun b hb=> ?_)
        have:=Hu2.out b (by have h:=hb;rw[Hun.out]at h;exact h);omega
      . refine(hT.at_ y hy).stays hS (fun b hb=> ?_)
        have:=hYs y hy b hb;omega
    . intro b hb
      rcases hb.cases' with hb|hb|⟨y,hy,hb⟩
      . refine o2.uses_new (b:=b) ?_
        have hb':UsesA A2 ys.length b:=hb;rw[hlen,<-hkm]at hb';exact hb'
      . have:=Hu2.out b (by have h:UsesA A4 x.unk.length b:=hb;rw[Hun.out]at h;exact h)
        omega
      . have:=hYs y hy b hb
        omega
theorem tCopy(x:MsgR):TCopy x:=MsgX.ind (P:=TCopy) (fun x ih=>zrT ih) x
end Go.Proofs.YtlhbllaojjelcaaGreat
