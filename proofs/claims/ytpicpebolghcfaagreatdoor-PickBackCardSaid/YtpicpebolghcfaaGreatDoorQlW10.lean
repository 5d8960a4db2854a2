/- Contracts of layer 10. -/
import Derived.Test.YtpicpebolghcfaaGreatDoorQlW7
import Derived.Test.YtpicpebolghcfaaGreatDoorQlW8

set_option linter.unusedVariables false
set_option maxRecDepth 100000
set_option maxHeartbeats 4000000
namespace Go.Proofs.YtpicpebolghcfaaGreatDoor
open Go.RowKit Go.Shelf Tryz
variable{w:World}{x:Int}{b:Nat}
theorem zqY{f:zab}(hc:w.cell? ⟨b,0,none⟩=some (.int .i64 x)):
 Calls prog 168 #[zaq f,.pointer (some ⟨b,0,none⟩)] w fun e w'=>e=.returned (.bool (numP x f))/\Ext w w':=by
 unfold zaq;have hb:=World.block_lt_of_cell? w _ hc;simp only at hb
 go_enter func168,ntmps168
 go_wp2
 go_ret
 exact⟨rfl,xx⟩
variable{l:List zab}{n c:Nat}{A:Option Addr}{s:ByteArray}
theorem zrP(hb:zav w A n c l)(hn:n<=1000000000000):
 Calls prog 158 #[.agg #[.string s,.slice A n c],.int .i64 x] w fun e w'=>e=.returned (.int .i64 (idxB (numP x) l))/\Ext w w':=by
 have eg:∀args w,(callFunc 168 args).run prog w=.ok (.enter 168 args) w:=enters_of func168 (by kernel_rfl) rfl
 go_enter func158,ntmps158
 go_wp2_with fail
 have B:=Ext.new_blk (Ext.refl ((w.alloc (.cells #[.string s,.slice A n c] 77)).alloc (.cells #[.int .i64 x] 3)));refine(zmF (p:=numP x) eg (hb.up xx) hn ?_).mono ?_
 . intro W f hf hE
   have c0:W.cell? ⟨w.heap.size+1,0,none⟩=some (.int .i64 x):=by have:=hE.of_cell (B.cell 0);simpa using this
   exact zqY c0
 . rintro e w1 ⟨rfl,E1⟩
   go_wp2
   go_ret
   exact⟨rfl,Ext.trans xx E1⟩
variable{I:Int}
theorem zqZ(hb:zav w A n c l)(hn:n<=1000000000000)(h:I=idxB (numP x) l):
 Calls prog 158 #[.agg #[.string s,.slice A n c],.int .i64 x] w fun e w'=>e=.returned (.int .i64 I)/\Ext w w':=by
 subst h;exact zrP hb hn
theorem zrQ(hb:zav w A n c l)(hn:n<=1000000000000):
 Calls prog 42 #[.agg #[.string s,.slice A n c],.int .i64 x] w fun e w'=>e=.returned (.int .i64 (idxB (numP x) l))/\Ext w w':=by
 have hl:=hb.length;have Hl:=zsz hl;clear hl;have hbw:zav (w.alloc (.cells #[.string s,.slice A n c] 77)) A n c l:=hb.up xx
 go_enter func42,ntmps42
 go_wp2
 go_loop [5] (fun i=>∃k:Nat,k<=n/\i=.int .i64 k/\Hid (∀(j:Nat) y,j<k->l[j]?=some y->numP x y=false)) (fun i=>n - (intOf i).toNat)
 case atStart=>exact⟨0,Nat.zero_le _,rfl,fun j y h=>absurd h (Nat.not_lt_zero j)⟩
 case round=>
  obtain⟨k,hk,rfl,hN⟩:=hrel;by_cases hlt:k<n
  . have hlt2:(k:Int)<n:=by omega
    obtain⟨b,off,f,rfl,hf,hok,hb1,c0,c1,c2,c3,c4,c5⟩:=hbw.field hlt;rcases hq:numP x f with _|_
    . have q:(f.number==x)=false:=hq
      have Hq:=zsz hq;have Hf:=zsz hf;clear hq hf hbw hb
      go_wp2
      go_round
      case rel=>
       refine⟨k+1,by omega,by go_num,fun j y hj hy=> ?_⟩;by_cases e:j=k
       . subst e
         have:=Hf.out.symm.trans hy;cases this;exact Hq.out
       . exact hN.out j y (by omega) hy
      case measure=>simp[intOf];omega
    . have q:(f.number==x)=true:=hq
      have Hi:=zsz (zcU hf hq hN.out);clear hq hf hbw hb
      go_wp2
      go_ret
      exact⟨zbF Hi.out.symm,xx⟩
  . have hk2:k=n:=by omega
    subst hk2;have hi:idxB (numP x) l= -1:=zee (fun j y hy=>hN.out j y (by have:=(List.getElem?_eq_some_iff.1 hy).1;have:=Hl.out;omega) hy);have Hi:=zsz hi;clear hi
    go_wp2
    go_ret
    exact⟨zbF Hi.out.symm,xx⟩
def viewV(v:ViewD):Value:=.agg #[.int .i64 (v.r.n:Int),.int .i64 (v.r.w:Int),.int .i64 (v.r.f:Int),.int .i64 (v.r.a:Int),.int .i64 (v.r.t:Int),.int .i64 v.field,.bool v.run]
variable{C:Nat}{r:Rec}{bs:List UInt8}
theorem zoE{p:Int}(hb:zac w A n c bs)(hn:n<=1000000000000)(h:nextI bs p=(r,C)):
 Calls prog 157 #[.slice A n c,.int .i64 p] w fun e w'=>e=.returned (.tuple #[recV r,.int .u8 (C:Int)])/\Ext w w':=by
 unfold nextI at h;rw[hb.length]at h;by_cases hp:p<0\/(n:Int)<=p
 . rw[if_pos hp]at h
   cases h;exact zpj hp
 . rw[if_neg hp]at h
   have:=rNext hb (p:=p.toNat) (by omega) hn h
   rwa[show((p.toNat:Nat):Int)=p by omega]at this
theorem zkb(bs:List UInt8)(p:Int):(nextI bs p).2<=5:=by
 unfold nextI;split
 . simp
 . exact zmr bs _
variable{v:ViewD}{m d:Nat}{B:Option Addr}
theorem vLook{p:Int}(hf:zav w A n c l)(hn:n<=1000000000000)(hb:zac w B m d bs)(hm:m<=1000000000000)(h:lookI l bs p=(v,C)):
 Calls prog 140 #[.agg #[.string s,.slice A n c],.slice B m d,.int .i64 p] w fun e w'=>e=.returned (.tuple #[viewV v,.int .u8 (C:Int)])/\Ext w w':=by
 have hE:=Ext.refl w;rcases hx:nextI bs p with⟨r,K⟩
 have hK5:=zkb bs p;rw[hx]at hK5;unfold lookI at h;rw[hx]at h;simp only at h hK5;have Hx:=zsz hx;clear hx;by_cases hK:K=0
 . subst hK
   rw[if_pos rfl]at h;obtain⟨rn,rw_,rf,ra,rt⟩:=r;obtain⟨I,hI⟩:∃I,I=idxB (numP (rn:Int)) l:=⟨_,rfl⟩
   have HI:=zsz hI;have Hs:=zsz h;clear h hI
   go_enter func140,ntmps140
   go_upto_region 4 with(go_at_call 157;refine(zoE (hb.up xx) hm Hx.out).mono ?_;rintro e w1 ⟨rfl,E1⟩;unfold recV;have B1:=zaS E1;have f1:=B1.2.1;have f2:=B1.2.2.2.1;have f0:=B1.1;have f3:w.heap.size+1<w1.heap.size:=(by have:=B1.2.2.2.2;omega);clear B1;have X_:Ext w w1:=Ext.trans xx E1;replace hE:=hE.up X_;replace hf:=hf.up X_;clear X_)
   go_cut [10] (fun s10 wy=>∃g:Nat,s10=.pointer (some ⟨g,0,none⟩)/\w1.heap.size<g/\g<wy.heap.size/\Ext w1 wy/\
    (wy.cell? ⟨w1.heap.size,0,none⟩=some (.int .i64 (rn:Int))/\wy.cell? ⟨w1.heap.size,1,none⟩=some (.int .i64 (rw_:Int))/\wy.cell? ⟨w1.heap.size,2,none⟩=some (.int .i64 (rf:Int))/\wy.cell? ⟨w1.heap.size,3,none⟩=some (.int .i64 (ra:Int))/\wy.cell? ⟨w1.heap.size,4,none⟩=some (.int .i64 (rt:Int)))/\
    (wy.cell? ⟨g,0,none⟩=some (.int .i64 (rn:Int))/\wy.cell? ⟨g,1,none⟩=some (.int .i64 (rw_:Int))/\wy.cell? ⟨g,2,none⟩=some (.int .i64 (rf:Int))/\wy.cell? ⟨g,3,none⟩=some (.int .i64 (ra:Int))/\wy.cell? ⟨g,4,none⟩=some (.int .i64 (rt:Int))/\wy.cell? ⟨g,5,none⟩=some (.int .i64 I)/\wy.cell? ⟨g,6,none⟩=some (.bool false))/\wy.frozen? ⟨g,6,none⟩=false)
   case first=>
    have x0:Ext w1 (w1.alloc (.cells #[.int .i64 (rn:Int),.int .i64 (rw_:Int),.int .i64 (rf:Int),.int .i64 (ra:Int),.int .i64 (rt:Int)] 181)):=xx;have B0:=Ext.new_blk (Ext.refl (w1.alloc (.cells #[.int .i64 (rn:Int),.int .i64 (rw_:Int),.int .i64 (rf:Int),.int .i64 (ra:Int),.int .i64 (rt:Int)] 181)));have m0:=x0.of_cell (f0 0);have m1:=x0.of_cell (f0 1);generalize w1.alloc (.cells #[.int .i64 (rn:Int),.int .i64 (rw_:Int),.int .i64 (rf:Int),.int .i64 (ra:Int),.int .i64 (rt:Int)] 181)=wx at*;have y0:wx.cell? ⟨w1.heap.size,0,none⟩=some (.int .i64 (rn:Int)):=B0.cell 0;have y1:wx.cell? ⟨w1.heap.size,1,none⟩=some (.int .i64 (rw_:Int)):=B0.cell 1;have y2:wx.cell? ⟨w1.heap.size,2,none⟩=some (.int .i64 (rf:Int)):=B0.cell 2;have y3:wx.cell? ⟨w1.heap.size,3,none⟩=some (.int .i64 (ra:Int)):=B0.cell 3;have y4:wx.cell? ⟨w1.heap.size,4,none⟩=some (.int .i64 (rt:Int)):=B0.cell 4;have hlt:=B0.lt;have hlt0:w.heap.size<wx.heap.size:=by have:=x0.size;omega
    clear B0 f0 f1 f2
    go_region_held3 (fun W=>Ext wx W/\∀b o,b<wx.heap.size->W.cell? ⟨b,o,none⟩=wx.cell? ⟨b,o,none⟩) ((refine Ext.keep ?_;repeat with_reducible (first|assumption|exact Ext.refl _|refine Ext.alloc ?_ _|refine Ext.drew ?_|refine Ext.drewN ?_ _|refine Ext.setCell ?_ (by first|omega|(simp<;>omega)) _)))
     (first|(go_split_ands;go_at_call 158;refine(zqZ (x:=(rn:Int)) (hf.up (x0.trans (by with_reducible assumption))) hn HI.out).mono ?_;rintro e w2 ⟨rfl,E2⟩;have q0:Ext wx w2:=Ext.trans (by with_reducible assumption) E2;have q1:=q0.size;try(have B3:=Ext.new_blk_drew E2;have g1:∀i,w2.cell? ⟨wx.heap.size,i,none⟩=(#[.int .i64 0,.int .i64 0,.int .i64 0,.int .i64 0,.int .i64 0,.int .i64 0,.bool false]:Array Value)[i]?:=B3.cell;have g2:∀i,w2.frozen? ⟨wx.heap.size,i,none⟩=false:=B3.free;have g3:wx.heap.size<w2.heap.size:=B3.lt;clear B3)))
    all_goals
     go_wp2_with fail
     go_meet
    . refine⟨_,rfl,by omega,by first|(simp;done)|(simp;omega)|(simp[go_sem];omega)|(simp[World.setCell];omega),x0.trans xy,⟨Ext.of_cell (w:=wx) xy y0,Ext.of_cell (w:=wx) xy y1,Ext.of_cell (w:=wx) xy y2,Ext.of_cell (w:=wx) xy y3,Ext.of_cell (w:=wx) xy y4⟩,?_,?_⟩
      . exact⟨World.cell?_alloc_new _ _ _ _,World.cell?_alloc_new _ _ _ _,World.cell?_alloc_new _ _ _ _,World.cell?_alloc_new _ _ _ _,World.cell?_alloc_new _ _ _ _,World.cell?_alloc_new _ _ _ _,World.cell?_alloc_new _ _ _ _⟩
      . exact(Ext.new_blk (Ext.refl _)).free _
    . refine⟨_,rfl,by omega,by first|(simp;done)|(simp;omega)|(simp[go_sem];omega)|(simp[World.setCell];omega),x0.trans xy,⟨Ext.of_cell (w:=wx) xy y0,Ext.of_cell (w:=wx) xy y1,Ext.of_cell (w:=wx) xy y2,Ext.of_cell (w:=wx) xy y3,Ext.of_cell (w:=wx) xy y4⟩,?_,?_⟩
      . refine⟨?_,?_,?_,?_,?_,?_,?_⟩<;>first|(simp[go_sem,g1];done)
      . simp[g2]
   case rest=>
    obtain⟨g,rfl,h1,h2,X1,⟨r0,r1,r2,r3,r4⟩,⟨c0,c1,c2,c3,c4,c5,c6⟩,fz⟩:=hcut;have e1:∀i,wc.cell? ⟨w.heap.size+1,i,none⟩=(#[.int .i64 0,.int .i64 0,.int .i64 0,.int .i64 0,.int .i64 0,.int .i64 0,.bool false]:Array Value)[i]?:=fun i=>(X1.cell (p:=⟨w.heap.size+1,i,none⟩) f3).trans (f1 i)
    have e2:∀i,wc.frozen? ⟨w.heap.size+1,i,none⟩=false:=fun i=>(X1.frozen (p:=⟨w.heap.size+1,i,none⟩) f3).trans (f2 i)
    have e3:∀i,wc.cell? ⟨w.heap.size,i,none⟩=(#[.string s,.slice A n c]:Array Value)[i]?:=fun i=>(X1.cell (p:=⟨w.heap.size,i,none⟩) (by show w.heap.size<_;omega)).trans (f0 i)
    have hfc:=hf.up X1;have hEc:Ext w wc:=hE.trans X1;have hg0:w.heap.size+1<g:=by omega
    have hg1:w.heap.size+1<wc.heap.size:=by omega
    clear f0 f1 f2 hb;rcases zaL (numP (rn:Int)) l with⟨i1,_⟩|⟨k,f,i1,i2,i3,_⟩
    . have hIv:=HI.out
      rw[i1]at hIv;have hsv:=Hs.out;rw[zbL i1]at hsv;obtain⟨rfl,hC⟩:=Prod.mk.inj hsv;obtain rfl:C=0:=hC.symm;subst hIv;clear i1 hsv HI Hs
      go_wp2
      exact bodyPost_ret (v:=.tuple #[viewV ⟨⟨rn,rw_,rf,ra,rt⟩, -1,false⟩,.int .u8 0]) (by simp[results,results140,go_sem,viewV,e1]) rfl ⟨rfl,xy⟩
    . have hlt:=(List.getElem?_eq_some_iff.1 i2).1
      rw[hfc.length]at hlt;have hkn:(k:Int)<n:=by omega
      obtain⟨b,off,f',rfl,i2',hok,hb1,d0,d1,d2,d3,d4,d5⟩:=hfc.field hlt;rw[i2]at i2';cases i2';have hIv:=HI.out;rw[i1]at hIv;have hsv:=Hs.out;rw[zbD i1 i2]at hsv;subst hIv;have qk:((k:Int)== -1)=false:=by rw[beq_eq_false_iff_ne];omega
      have hbg:b<wc.heap.size:=hb1;clear i1 i2 i3 HI Hs hfc hf hok;obtain⟨fn,fnum,fk,frep,fp,fo⟩:=f;simp only at hsv d0 d1 d2 d3 d4 d5;have hkind:zaf fk=true->kindB fk=true:=fun h=>by have:=zdg h;unfold kindB;exact decide_eq_true (by omega)
      obtain⟨nb,hnb⟩:∃nb,nb=zaf fk:=⟨_,rfl⟩
      have kn:=fun W:World=>zbP fk W
      rw[<-hnb]at kn
      obtain⟨wv,cv,kw,hwc⟩:∃wv cv:Int,(∀W:World,Calls prog 58 #[.int .i64 fk] W fun e w'=>e=.returned (.tuple #[.int .i64 wv,.int .u8 cv])/\Ext W w')/\
       ((kindB fk=true/\wv=wireI fk/\cv=0)\/(kindB fk=false/\cv=2)):=by
       refine⟨_,_,fun W=>kWire fk W,?_⟩;rcases hkb:kindB fk with _|_
       . exact .inr ⟨rfl,by simp⟩
       . exact .inl ⟨rfl,by unfold zdG;rw[hkb];simp,by simp⟩
      have Kn:=zsz kn;have Kw:=zsz kw;clear kn kw;have hgw:w1.heap.size≠g:=by omega
      have hgr:w.heap.size+1≠g:=by omega
      by_cases hR:(frep=true/\nb=true/\rw_=2)
      . obtain⟨rfl,rfl,rfl⟩:=hR
        rw[<-hnb]at hsv;simp at hsv;obtain⟨rfl,rfl⟩:=hsv;clear hnb hkind hwc
        go_wp2_with (first
         |(go_at_call 31;refine(Kn.out _).mono ?_;rintro e w5 ⟨rfl,E5⟩;have D5:=E5.new_blk;have d2':w5.cell? ⟨wc.heap.size,2,none⟩=some (.int .i64 fk):=D5.cell 2;have l5:=D5.lt;clear D5;have X_:Ext wc w5:=Ext.trans xx E5;replace hEc:=hEc.up X_;have X5:=X_;clear X_;clear E5;replace r1:=X5.of_cell r1;replace c0:=X5.of_cell c0;replace c1:=X5.of_cell c1;replace c2:=X5.of_cell c2;replace c3:=X5.of_cell c3;replace c4:=X5.of_cell c4;replace c5:=X5.of_cell c5;replace c6:=X5.of_cell c6;replace fz:w5.frozen? ⟨g,6,none⟩=false:=(X5.frozen (p:=⟨g,6,none⟩) h2).trans fz;replace e1:∀i,w5.cell? ⟨w.heap.size+1,i,none⟩=_:=fun i=>(X5.cell (p:=⟨w.heap.size+1,i,none⟩) hg1).trans (e1 i);replace e2:∀i,w5.frozen? ⟨w.heap.size+1,i,none⟩=false:=fun i=>(X5.frozen (p:=⟨w.heap.size+1,i,none⟩) hg1).trans (e2 i))
         |(go_at_call 58;refine(Kw.out _).mono ?_;rintro e w6 ⟨rfl,E6⟩;have k0:w6.cell? ⟨g,0,none⟩=some (.int .i64 (rn:Int)):=E6.of_cell (by simp[go_sem,c0]);have k1:w6.cell? ⟨g,1,none⟩=some (.int .i64 (2:Int)):=E6.of_cell (by simp[go_sem,c1]);have k2:w6.cell? ⟨g,2,none⟩=some (.int .i64 (rf:Int)):=E6.of_cell (by simp[go_sem,c2]);have k3:w6.cell? ⟨g,3,none⟩=some (.int .i64 (ra:Int)):=E6.of_cell (by simp[go_sem,c3]);have k4:w6.cell? ⟨g,4,none⟩=some (.int .i64 (rt:Int)):=E6.of_cell (by simp[go_sem,c4]);have k5:w6.cell? ⟨g,5,none⟩=some (.int .i64 (k:Int)):=E6.of_cell (by simp[go_sem,c5]);have k6:w6.cell? ⟨g,6,none⟩=some (.bool true):=E6.of_cell (by simp[go_sem,c6]);have r6:w6.cell? ⟨w1.heap.size,1,none⟩=some (.int .i64 (2:Int)):=E6.of_cell (by simp[go_sem,r1]);have hE6:Ext w w6:=Ext.trans xy E6;have e6:∀i,w6.cell? ⟨w.heap.size+1,i,none⟩=_:=fun i=>(E6.cell (p:=⟨w.heap.size+1,i,none⟩) (by simp[go_sem];omega)).trans ((show _=_ by simp[go_sem]).trans (e1 i));have e7:∀i,w6.frozen? ⟨w.heap.size+1,i,none⟩=false:=fun i=>(E6.frozen (p:=⟨w.heap.size+1,i,none⟩) (by simp[go_sem];omega)).trans ((show _=_ by simp[go_sem]).trans (e2 i))))
        exact bodyPost_ret (v:=.tuple #[viewV ⟨⟨rn,2,rf,ra,rt⟩,k,true⟩,.int .u8 0]) (by simp[results,results140,go_sem,viewV,e6]) rfl ⟨rfl,xy⟩
      . have hrun:(frep&&zaf fk&&rw_==2)=false:=by
         rw[<-hnb];rcases frep with _|_
         . rfl
         . rcases nb with _|_
           . rfl
           . have:rw_≠2:=fun e=>hR ⟨rfl,rfl,e⟩
             simpa using this
        rw[hrun,if_neg (by simp)]at hsv
        have hq2:frep=true->nb=true->((rw_:Int)==2)=false:=fun a b=>by
         have:rw_≠2:=fun e=>hR ⟨a,b,e⟩
         simp;omega
        have hm:(cv=0/\wv=(rw_:Int)/\v=⟨⟨rn,rw_,rf,ra,rt⟩,k,false⟩/\C=0)\/(cv=0/\(wv==(rw_:Int))=false/\v=ViewD.zero/\C=6)\/(cv=2/\v=ViewD.zero/\C=6):=by
         rcases hwc with⟨a1,a2,a3⟩|⟨a1,a2⟩
         . rw[a1,<-a2]at hsv
           by_cases e:wv=(rw_:Int)
           . rw[if_pos ⟨rfl,e⟩]at hsv
             exact .inl ⟨a3,e,(Prod.mk.inj hsv).1.symm,(Prod.mk.inj hsv).2.symm⟩
           . rw[if_neg (fun h=>e h.2)]at hsv
             exact .inr (.inl ⟨a3,by rw[beq_eq_false_iff_ne];exact e,(Prod.mk.inj hsv).1.symm,(Prod.mk.inj hsv).2.symm⟩)
         . rw[a1,if_neg (by simp)]at hsv
           exact .inr (.inr ⟨a2,(Prod.mk.inj hsv).1.symm,(Prod.mk.inj hsv).2.symm⟩)
        clear hsv hrun hR hnb hkind hwc;rcases frep with _|_
        . clear hq2
          rcases hm with⟨rfl,rfl,rfl,rfl⟩|⟨rfl,qw,rfl,rfl⟩|⟨rfl,rfl,rfl⟩
          . go_wp2_with (first
         |(go_at_call 58;refine(Kw.out _).mono ?_;rintro e w6 ⟨rfl,E6⟩;replace E6:=Ext.trans (Ext.alloc (Ext.refl _) _) E6;have k0:w6.cell? ⟨g,0,none⟩=some (.int .i64 (rn:Int)):=E6.of_cell (by simp[go_sem,c0]);have k1:w6.cell? ⟨g,1,none⟩=some (.int .i64 (rw_:Int)):=E6.of_cell (by simp[go_sem,c1]);have k2:w6.cell? ⟨g,2,none⟩=some (.int .i64 (rf:Int)):=E6.of_cell (by simp[go_sem,c2]);have k3:w6.cell? ⟨g,3,none⟩=some (.int .i64 (ra:Int)):=E6.of_cell (by simp[go_sem,c3]);have k4:w6.cell? ⟨g,4,none⟩=some (.int .i64 (rt:Int)):=E6.of_cell (by simp[go_sem,c4]);have k5:w6.cell? ⟨g,5,none⟩=some (.int .i64 (k:Int)):=E6.of_cell (by simp[go_sem,c5]);have k6:w6.cell? ⟨g,6,none⟩=some (.bool false):=E6.of_cell (by simp[go_sem,c6]);have r6:w6.cell? ⟨w1.heap.size,1,none⟩=some (.int .i64 (rw_:Int)):=E6.of_cell (by simp[go_sem,r1]);have hE6:Ext w w6:=Ext.trans xy E6;have e6:∀i,w6.cell? ⟨w.heap.size+1,i,none⟩=_:=fun i=>(E6.cell (p:=⟨w.heap.size+1,i,none⟩) (by simp[go_sem];omega)).trans ((show _=_ by simp[go_sem]).trans (e1 i));have e7:∀i,w6.frozen? ⟨w.heap.size+1,i,none⟩=false:=fun i=>(E6.frozen (p:=⟨w.heap.size+1,i,none⟩) (by simp[go_sem];omega)).trans ((show _=_ by simp[go_sem]).trans (e2 i))))
            exact bodyPost_ret (v:=.tuple #[viewV ⟨⟨rn,rw_,rf,ra,rt⟩,k,false⟩,.int .u8 0]) (by simp[results,results140,go_sem,viewV,e6]) rfl ⟨rfl,xy⟩
          . go_wp2_with (first
         |(go_at_call 58;refine(Kw.out _).mono ?_;rintro e w6 ⟨rfl,E6⟩;replace E6:=Ext.trans (Ext.alloc (Ext.refl _) _) E6;have k0:w6.cell? ⟨g,0,none⟩=some (.int .i64 (rn:Int)):=E6.of_cell (by simp[go_sem,c0]);have k1:w6.cell? ⟨g,1,none⟩=some (.int .i64 (rw_:Int)):=E6.of_cell (by simp[go_sem,c1]);have k2:w6.cell? ⟨g,2,none⟩=some (.int .i64 (rf:Int)):=E6.of_cell (by simp[go_sem,c2]);have k3:w6.cell? ⟨g,3,none⟩=some (.int .i64 (ra:Int)):=E6.of_cell (by simp[go_sem,c3]);have k4:w6.cell? ⟨g,4,none⟩=some (.int .i64 (rt:Int)):=E6.of_cell (by simp[go_sem,c4]);have k5:w6.cell? ⟨g,5,none⟩=some (.int .i64 (k:Int)):=E6.of_cell (by simp[go_sem,c5]);have k6:w6.cell? ⟨g,6,none⟩=some (.bool false):=E6.of_cell (by simp[go_sem,c6]);have r6:w6.cell? ⟨w1.heap.size,1,none⟩=some (.int .i64 (rw_:Int)):=E6.of_cell (by simp[go_sem,r1]);have hE6:Ext w w6:=Ext.trans xy E6;have e6:∀i,w6.cell? ⟨w.heap.size+1,i,none⟩=_:=fun i=>(E6.cell (p:=⟨w.heap.size+1,i,none⟩) (by simp[go_sem];omega)).trans ((show _=_ by simp[go_sem]).trans (e1 i));have e7:∀i,w6.frozen? ⟨w.heap.size+1,i,none⟩=false:=fun i=>(E6.frozen (p:=⟨w.heap.size+1,i,none⟩) (by simp[go_sem];omega)).trans ((show _=_ by simp[go_sem]).trans (e2 i))))
            exact bodyPost_ret (v:=.tuple #[viewV ViewD.zero,.int .u8 6]) (by simp[results,results140,go_sem,viewV,ViewD.zero,Rec.zero,e6]) rfl ⟨rfl,xy⟩
          . go_wp2_with (first
         |(go_at_call 58;refine(Kw.out _).mono ?_;rintro e w6 ⟨rfl,E6⟩;replace E6:=Ext.trans (Ext.alloc (Ext.refl _) _) E6;have k0:w6.cell? ⟨g,0,none⟩=some (.int .i64 (rn:Int)):=E6.of_cell (by simp[go_sem,c0]);have k1:w6.cell? ⟨g,1,none⟩=some (.int .i64 (rw_:Int)):=E6.of_cell (by simp[go_sem,c1]);have k2:w6.cell? ⟨g,2,none⟩=some (.int .i64 (rf:Int)):=E6.of_cell (by simp[go_sem,c2]);have k3:w6.cell? ⟨g,3,none⟩=some (.int .i64 (ra:Int)):=E6.of_cell (by simp[go_sem,c3]);have k4:w6.cell? ⟨g,4,none⟩=some (.int .i64 (rt:Int)):=E6.of_cell (by simp[go_sem,c4]);have k5:w6.cell? ⟨g,5,none⟩=some (.int .i64 (k:Int)):=E6.of_cell (by simp[go_sem,c5]);have k6:w6.cell? ⟨g,6,none⟩=some (.bool false):=E6.of_cell (by simp[go_sem,c6]);have r6:w6.cell? ⟨w1.heap.size,1,none⟩=some (.int .i64 (rw_:Int)):=E6.of_cell (by simp[go_sem,r1]);have hE6:Ext w w6:=Ext.trans xy E6;have e6:∀i,w6.cell? ⟨w.heap.size+1,i,none⟩=_:=fun i=>(E6.cell (p:=⟨w.heap.size+1,i,none⟩) (by simp[go_sem];omega)).trans ((show _=_ by simp[go_sem]).trans (e1 i));have e7:∀i,w6.frozen? ⟨w.heap.size+1,i,none⟩=false:=fun i=>(E6.frozen (p:=⟨w.heap.size+1,i,none⟩) (by simp[go_sem];omega)).trans ((show _=_ by simp[go_sem]).trans (e2 i))))
            exact bodyPost_ret (v:=.tuple #[viewV ViewD.zero,.int .u8 6]) (by simp[results,results140,go_sem,viewV,ViewD.zero,Rec.zero,e6]) rfl ⟨rfl,xy⟩
        . rcases nb with _|_
          . clear hq2
            rcases hm with⟨rfl,rfl,rfl,rfl⟩|⟨rfl,qw,rfl,rfl⟩|⟨rfl,rfl,rfl⟩
            . go_wp2_with (first
         |(go_at_call 31;refine(Kn.out _).mono ?_;rintro e w5 ⟨rfl,E5⟩;have D5:=E5.new_blk;have d2':w5.cell? ⟨wc.heap.size,2,none⟩=some (.int .i64 fk):=D5.cell 2;have l5:=D5.lt;clear D5;have X_:Ext wc w5:=Ext.trans xx E5;replace hEc:=hEc.up X_;have X5:=X_;clear X_;clear E5;replace r1:=X5.of_cell r1;replace c0:=X5.of_cell c0;replace c1:=X5.of_cell c1;replace c2:=X5.of_cell c2;replace c3:=X5.of_cell c3;replace c4:=X5.of_cell c4;replace c5:=X5.of_cell c5;replace c6:=X5.of_cell c6;replace fz:w5.frozen? ⟨g,6,none⟩=false:=(X5.frozen (p:=⟨g,6,none⟩) h2).trans fz;replace e1:∀i,w5.cell? ⟨w.heap.size+1,i,none⟩=_:=fun i=>(X5.cell (p:=⟨w.heap.size+1,i,none⟩) hg1).trans (e1 i);replace e2:∀i,w5.frozen? ⟨w.heap.size+1,i,none⟩=false:=fun i=>(X5.frozen (p:=⟨w.heap.size+1,i,none⟩) hg1).trans (e2 i))
         |(go_at_call 58;refine(Kw.out _).mono ?_;rintro e w6 ⟨rfl,E6⟩;have k0:w6.cell? ⟨g,0,none⟩=some (.int .i64 (rn:Int)):=E6.of_cell (by simp[go_sem,c0]);have k1:w6.cell? ⟨g,1,none⟩=some (.int .i64 (rw_:Int)):=E6.of_cell (by simp[go_sem,c1]);have k2:w6.cell? ⟨g,2,none⟩=some (.int .i64 (rf:Int)):=E6.of_cell (by simp[go_sem,c2]);have k3:w6.cell? ⟨g,3,none⟩=some (.int .i64 (ra:Int)):=E6.of_cell (by simp[go_sem,c3]);have k4:w6.cell? ⟨g,4,none⟩=some (.int .i64 (rt:Int)):=E6.of_cell (by simp[go_sem,c4]);have k5:w6.cell? ⟨g,5,none⟩=some (.int .i64 (k:Int)):=E6.of_cell (by simp[go_sem,c5]);have k6:w6.cell? ⟨g,6,none⟩=some (.bool false):=E6.of_cell (by simp[go_sem,c6]);have r6:w6.cell? ⟨w1.heap.size,1,none⟩=some (.int .i64 (rw_:Int)):=E6.of_cell (by simp[go_sem,r1]);have hE6:Ext w w6:=Ext.trans xy E6;have e6:∀i,w6.cell? ⟨w.heap.size+1,i,none⟩=_:=fun i=>(E6.cell (p:=⟨w.heap.size+1,i,none⟩) (by simp[go_sem];omega)).trans ((show _=_ by simp[go_sem]).trans (e1 i));have e7:∀i,w6.frozen? ⟨w.heap.size+1,i,none⟩=false:=fun i=>(E6.frozen (p:=⟨w.heap.size+1,i,none⟩) (by simp[go_sem];omega)).trans ((show _=_ by simp[go_sem]).trans (e2 i))))
              exact bodyPost_ret (v:=.tuple #[viewV ⟨⟨rn,rw_,rf,ra,rt⟩,k,false⟩,.int .u8 0]) (by simp[results,results140,go_sem,viewV,e6]) rfl ⟨rfl,xy⟩
            . go_wp2_with (first
         |(go_at_call 31;refine(Kn.out _).mono ?_;rintro e w5 ⟨rfl,E5⟩;have D5:=E5.new_blk;have d2':w5.cell? ⟨wc.heap.size,2,none⟩=some (.int .i64 fk):=D5.cell 2;have l5:=D5.lt;clear D5;have X_:Ext wc w5:=Ext.trans xx E5;replace hEc:=hEc.up X_;have X5:=X_;clear X_;clear E5;replace r1:=X5.of_cell r1;replace c0:=X5.of_cell c0;replace c1:=X5.of_cell c1;replace c2:=X5.of_cell c2;replace c3:=X5.of_cell c3;replace c4:=X5.of_cell c4;replace c5:=X5.of_cell c5;replace c6:=X5.of_cell c6;replace fz:w5.frozen? ⟨g,6,none⟩=false:=(X5.frozen (p:=⟨g,6,none⟩) h2).trans fz;replace e1:∀i,w5.cell? ⟨w.heap.size+1,i,none⟩=_:=fun i=>(X5.cell (p:=⟨w.heap.size+1,i,none⟩) hg1).trans (e1 i);replace e2:∀i,w5.frozen? ⟨w.heap.size+1,i,none⟩=false:=fun i=>(X5.frozen (p:=⟨w.heap.size+1,i,none⟩) hg1).trans (e2 i))
         |(go_at_call 58;refine(Kw.out _).mono ?_;rintro e w6 ⟨rfl,E6⟩;have k0:w6.cell? ⟨g,0,none⟩=some (.int .i64 (rn:Int)):=E6.of_cell (by simp[go_sem,c0]);have k1:w6.cell? ⟨g,1,none⟩=some (.int .i64 (rw_:Int)):=E6.of_cell (by simp[go_sem,c1]);have k2:w6.cell? ⟨g,2,none⟩=some (.int .i64 (rf:Int)):=E6.of_cell (by simp[go_sem,c2]);have k3:w6.cell? ⟨g,3,none⟩=some (.int .i64 (ra:Int)):=E6.of_cell (by simp[go_sem,c3]);have k4:w6.cell? ⟨g,4,none⟩=some (.int .i64 (rt:Int)):=E6.of_cell (by simp[go_sem,c4]);have k5:w6.cell? ⟨g,5,none⟩=some (.int .i64 (k:Int)):=E6.of_cell (by simp[go_sem,c5]);have k6:w6.cell? ⟨g,6,none⟩=some (.bool false):=E6.of_cell (by simp[go_sem,c6]);have r6:w6.cell? ⟨w1.heap.size,1,none⟩=some (.int .i64 (rw_:Int)):=E6.of_cell (by simp[go_sem,r1]);have hE6:Ext w w6:=Ext.trans xy E6;have e6:∀i,w6.cell? ⟨w.heap.size+1,i,none⟩=_:=fun i=>(E6.cell (p:=⟨w.heap.size+1,i,none⟩) (by simp[go_sem];omega)).trans ((show _=_ by simp[go_sem]).trans (e1 i));have e7:∀i,w6.frozen? ⟨w.heap.size+1,i,none⟩=false:=fun i=>(E6.frozen (p:=⟨w.heap.size+1,i,none⟩) (by simp[go_sem];omega)).trans ((show _=_ by simp[go_sem]).trans (e2 i))))
              exact bodyPost_ret (v:=.tuple #[viewV ViewD.zero,.int .u8 6]) (by simp[results,results140,go_sem,viewV,ViewD.zero,Rec.zero,e6]) rfl ⟨rfl,xy⟩
            . go_wp2_with (first
         |(go_at_call 31;refine(Kn.out _).mono ?_;rintro e w5 ⟨rfl,E5⟩;have D5:=E5.new_blk;have d2':w5.cell? ⟨wc.heap.size,2,none⟩=some (.int .i64 fk):=D5.cell 2;have l5:=D5.lt;clear D5;have X_:Ext wc w5:=Ext.trans xx E5;replace hEc:=hEc.up X_;have X5:=X_;clear X_;clear E5;replace r1:=X5.of_cell r1;replace c0:=X5.of_cell c0;replace c1:=X5.of_cell c1;replace c2:=X5.of_cell c2;replace c3:=X5.of_cell c3;replace c4:=X5.of_cell c4;replace c5:=X5.of_cell c5;replace c6:=X5.of_cell c6;replace fz:w5.frozen? ⟨g,6,none⟩=false:=(X5.frozen (p:=⟨g,6,none⟩) h2).trans fz;replace e1:∀i,w5.cell? ⟨w.heap.size+1,i,none⟩=_:=fun i=>(X5.cell (p:=⟨w.heap.size+1,i,none⟩) hg1).trans (e1 i);replace e2:∀i,w5.frozen? ⟨w.heap.size+1,i,none⟩=false:=fun i=>(X5.frozen (p:=⟨w.heap.size+1,i,none⟩) hg1).trans (e2 i))
         |(go_at_call 58;refine(Kw.out _).mono ?_;rintro e w6 ⟨rfl,E6⟩;have k0:w6.cell? ⟨g,0,none⟩=some (.int .i64 (rn:Int)):=E6.of_cell (by simp[go_sem,c0]);have k1:w6.cell? ⟨g,1,none⟩=some (.int .i64 (rw_:Int)):=E6.of_cell (by simp[go_sem,c1]);have k2:w6.cell? ⟨g,2,none⟩=some (.int .i64 (rf:Int)):=E6.of_cell (by simp[go_sem,c2]);have k3:w6.cell? ⟨g,3,none⟩=some (.int .i64 (ra:Int)):=E6.of_cell (by simp[go_sem,c3]);have k4:w6.cell? ⟨g,4,none⟩=some (.int .i64 (rt:Int)):=E6.of_cell (by simp[go_sem,c4]);have k5:w6.cell? ⟨g,5,none⟩=some (.int .i64 (k:Int)):=E6.of_cell (by simp[go_sem,c5]);have k6:w6.cell? ⟨g,6,none⟩=some (.bool false):=E6.of_cell (by simp[go_sem,c6]);have r6:w6.cell? ⟨w1.heap.size,1,none⟩=some (.int .i64 (rw_:Int)):=E6.of_cell (by simp[go_sem,r1]);have hE6:Ext w w6:=Ext.trans xy E6;have e6:∀i,w6.cell? ⟨w.heap.size+1,i,none⟩=_:=fun i=>(E6.cell (p:=⟨w.heap.size+1,i,none⟩) (by simp[go_sem];omega)).trans ((show _=_ by simp[go_sem]).trans (e1 i));have e7:∀i,w6.frozen? ⟨w.heap.size+1,i,none⟩=false:=fun i=>(E6.frozen (p:=⟨w.heap.size+1,i,none⟩) (by simp[go_sem];omega)).trans ((show _=_ by simp[go_sem]).trans (e2 i))))
              exact bodyPost_ret (v:=.tuple #[viewV ViewD.zero,.int .u8 6]) (by simp[results,results140,go_sem,viewV,ViewD.zero,Rec.zero,e6]) rfl ⟨rfl,xy⟩
          . have q2:=hq2 rfl rfl
            clear hq2;rcases hm with⟨rfl,rfl,rfl,rfl⟩|⟨rfl,qw,rfl,rfl⟩|⟨rfl,rfl,rfl⟩
            . go_wp2_with (first
         |(go_at_call 31;refine(Kn.out _).mono ?_;rintro e w5 ⟨rfl,E5⟩;have D5:=E5.new_blk;have d2':w5.cell? ⟨wc.heap.size,2,none⟩=some (.int .i64 fk):=D5.cell 2;have l5:=D5.lt;clear D5;have X_:Ext wc w5:=Ext.trans xx E5;replace hEc:=hEc.up X_;have X5:=X_;clear X_;clear E5;replace r1:=X5.of_cell r1;replace c0:=X5.of_cell c0;replace c1:=X5.of_cell c1;replace c2:=X5.of_cell c2;replace c3:=X5.of_cell c3;replace c4:=X5.of_cell c4;replace c5:=X5.of_cell c5;replace c6:=X5.of_cell c6;replace fz:w5.frozen? ⟨g,6,none⟩=false:=(X5.frozen (p:=⟨g,6,none⟩) h2).trans fz;replace e1:∀i,w5.cell? ⟨w.heap.size+1,i,none⟩=_:=fun i=>(X5.cell (p:=⟨w.heap.size+1,i,none⟩) hg1).trans (e1 i);replace e2:∀i,w5.frozen? ⟨w.heap.size+1,i,none⟩=false:=fun i=>(X5.frozen (p:=⟨w.heap.size+1,i,none⟩) hg1).trans (e2 i))
         |(go_at_call 58;refine(Kw.out _).mono ?_;rintro e w6 ⟨rfl,E6⟩;have k0:w6.cell? ⟨g,0,none⟩=some (.int .i64 (rn:Int)):=E6.of_cell (by simp[go_sem,c0]);have k1:w6.cell? ⟨g,1,none⟩=some (.int .i64 (rw_:Int)):=E6.of_cell (by simp[go_sem,c1]);have k2:w6.cell? ⟨g,2,none⟩=some (.int .i64 (rf:Int)):=E6.of_cell (by simp[go_sem,c2]);have k3:w6.cell? ⟨g,3,none⟩=some (.int .i64 (ra:Int)):=E6.of_cell (by simp[go_sem,c3]);have k4:w6.cell? ⟨g,4,none⟩=some (.int .i64 (rt:Int)):=E6.of_cell (by simp[go_sem,c4]);have k5:w6.cell? ⟨g,5,none⟩=some (.int .i64 (k:Int)):=E6.of_cell (by simp[go_sem,c5]);have k6:w6.cell? ⟨g,6,none⟩=some (.bool false):=E6.of_cell (by simp[go_sem,c6]);have r6:w6.cell? ⟨w1.heap.size,1,none⟩=some (.int .i64 (rw_:Int)):=E6.of_cell (by simp[go_sem,r1]);have hE6:Ext w w6:=Ext.trans xy E6;have e6:∀i,w6.cell? ⟨w.heap.size+1,i,none⟩=_:=fun i=>(E6.cell (p:=⟨w.heap.size+1,i,none⟩) (by simp[go_sem];omega)).trans ((show _=_ by simp[go_sem]).trans (e1 i));have e7:∀i,w6.frozen? ⟨w.heap.size+1,i,none⟩=false:=fun i=>(E6.frozen (p:=⟨w.heap.size+1,i,none⟩) (by simp[go_sem];omega)).trans ((show _=_ by simp[go_sem]).trans (e2 i))))
              exact bodyPost_ret (v:=.tuple #[viewV ⟨⟨rn,rw_,rf,ra,rt⟩,k,false⟩,.int .u8 0]) (by simp[results,results140,go_sem,viewV,e6]) rfl ⟨rfl,xy⟩
            . go_wp2_with (first
         |(go_at_call 31;refine(Kn.out _).mono ?_;rintro e w5 ⟨rfl,E5⟩;have D5:=E5.new_blk;have d2':w5.cell? ⟨wc.heap.size,2,none⟩=some (.int .i64 fk):=D5.cell 2;have l5:=D5.lt;clear D5;have X_:Ext wc w5:=Ext.trans xx E5;replace hEc:=hEc.up X_;have X5:=X_;clear X_;clear E5;replace r1:=X5.of_cell r1;replace c0:=X5.of_cell c0;replace c1:=X5.of_cell c1;replace c2:=X5.of_cell c2;replace c3:=X5.of_cell c3;replace c4:=X5.of_cell c4;replace c5:=X5.of_cell c5;replace c6:=X5.of_cell c6;replace fz:w5.frozen? ⟨g,6,none⟩=false:=(X5.frozen (p:=⟨g,6,none⟩) h2).trans fz;replace e1:∀i,w5.cell? ⟨w.heap.size+1,i,none⟩=_:=fun i=>(X5.cell (p:=⟨w.heap.size+1,i,none⟩) hg1).trans (e1 i);replace e2:∀i,w5.frozen? ⟨w.heap.size+1,i,none⟩=false:=fun i=>(X5.frozen (p:=⟨w.heap.size+1,i,none⟩) hg1).trans (e2 i))
         |(go_at_call 58;refine(Kw.out _).mono ?_;rintro e w6 ⟨rfl,E6⟩;have k0:w6.cell? ⟨g,0,none⟩=some (.int .i64 (rn:Int)):=E6.of_cell (by simp[go_sem,c0]);have k1:w6.cell? ⟨g,1,none⟩=some (.int .i64 (rw_:Int)):=E6.of_cell (by simp[go_sem,c1]);have k2:w6.cell? ⟨g,2,none⟩=some (.int .i64 (rf:Int)):=E6.of_cell (by simp[go_sem,c2]);have k3:w6.cell? ⟨g,3,none⟩=some (.int .i64 (ra:Int)):=E6.of_cell (by simp[go_sem,c3]);have k4:w6.cell? ⟨g,4,none⟩=some (.int .i64 (rt:Int)):=E6.of_cell (by simp[go_sem,c4]);have k5:w6.cell? ⟨g,5,none⟩=some (.int .i64 (k:Int)):=E6.of_cell (by simp[go_sem,c5]);have k6:w6.cell? ⟨g,6,none⟩=some (.bool false):=E6.of_cell (by simp[go_sem,c6]);have r6:w6.cell? ⟨w1.heap.size,1,none⟩=some (.int .i64 (rw_:Int)):=E6.of_cell (by simp[go_sem,r1]);have hE6:Ext w w6:=Ext.trans xy E6;have e6:∀i,w6.cell? ⟨w.heap.size+1,i,none⟩=_:=fun i=>(E6.cell (p:=⟨w.heap.size+1,i,none⟩) (by simp[go_sem];omega)).trans ((show _=_ by simp[go_sem]).trans (e1 i));have e7:∀i,w6.frozen? ⟨w.heap.size+1,i,none⟩=false:=fun i=>(E6.frozen (p:=⟨w.heap.size+1,i,none⟩) (by simp[go_sem];omega)).trans ((show _=_ by simp[go_sem]).trans (e2 i))))
              exact bodyPost_ret (v:=.tuple #[viewV ViewD.zero,.int .u8 6]) (by simp[results,results140,go_sem,viewV,ViewD.zero,Rec.zero,e6]) rfl ⟨rfl,xy⟩
            . go_wp2_with (first
         |(go_at_call 31;refine(Kn.out _).mono ?_;rintro e w5 ⟨rfl,E5⟩;have D5:=E5.new_blk;have d2':w5.cell? ⟨wc.heap.size,2,none⟩=some (.int .i64 fk):=D5.cell 2;have l5:=D5.lt;clear D5;have X_:Ext wc w5:=Ext.trans xx E5;replace hEc:=hEc.up X_;have X5:=X_;clear X_;clear E5;replace r1:=X5.of_cell r1;replace c0:=X5.of_cell c0;replace c1:=X5.of_cell c1;replace c2:=X5.of_cell c2;replace c3:=X5.of_cell c3;replace c4:=X5.of_cell c4;replace c5:=X5.of_cell c5;replace c6:=X5.of_cell c6;replace fz:w5.frozen? ⟨g,6,none⟩=false:=(X5.frozen (p:=⟨g,6,none⟩) h2).trans fz;replace e1:∀i,w5.cell? ⟨w.heap.size+1,i,none⟩=_:=fun i=>(X5.cell (p:=⟨w.heap.size+1,i,none⟩) hg1).trans (e1 i);replace e2:∀i,w5.frozen? ⟨w.heap.size+1,i,none⟩=false:=fun i=>(X5.frozen (p:=⟨w.heap.size+1,i,none⟩) hg1).trans (e2 i))
         |(go_at_call 58;refine(Kw.out _).mono ?_;rintro e w6 ⟨rfl,E6⟩;have k0:w6.cell? ⟨g,0,none⟩=some (.int .i64 (rn:Int)):=E6.of_cell (by simp[go_sem,c0]);have k1:w6.cell? ⟨g,1,none⟩=some (.int .i64 (rw_:Int)):=E6.of_cell (by simp[go_sem,c1]);have k2:w6.cell? ⟨g,2,none⟩=some (.int .i64 (rf:Int)):=E6.of_cell (by simp[go_sem,c2]);have k3:w6.cell? ⟨g,3,none⟩=some (.int .i64 (ra:Int)):=E6.of_cell (by simp[go_sem,c3]);have k4:w6.cell? ⟨g,4,none⟩=some (.int .i64 (rt:Int)):=E6.of_cell (by simp[go_sem,c4]);have k5:w6.cell? ⟨g,5,none⟩=some (.int .i64 (k:Int)):=E6.of_cell (by simp[go_sem,c5]);have k6:w6.cell? ⟨g,6,none⟩=some (.bool false):=E6.of_cell (by simp[go_sem,c6]);have r6:w6.cell? ⟨w1.heap.size,1,none⟩=some (.int .i64 (rw_:Int)):=E6.of_cell (by simp[go_sem,r1]);have hE6:Ext w w6:=Ext.trans xy E6;have e6:∀i,w6.cell? ⟨w.heap.size+1,i,none⟩=_:=fun i=>(E6.cell (p:=⟨w.heap.size+1,i,none⟩) (by simp[go_sem];omega)).trans ((show _=_ by simp[go_sem]).trans (e1 i));have e7:∀i,w6.frozen? ⟨w.heap.size+1,i,none⟩=false:=fun i=>(E6.frozen (p:=⟨w.heap.size+1,i,none⟩) (by simp[go_sem];omega)).trans ((show _=_ by simp[go_sem]).trans (e2 i))))
              exact bodyPost_ret (v:=.tuple #[viewV ViewD.zero,.int .u8 6]) (by simp[results,results140,go_sem,viewV,ViewD.zero,Rec.zero,e6]) rfl ⟨rfl,xy⟩
 . have q:((K:Int) !=0)=true:=by simp;omega
   rw[if_neg hK]at h;obtain⟨rfl,hKC⟩:=Prod.mk.inj h;obtain rfl:K=C:=hKC
   go_enter func140,ntmps140
   go_wp2_with (go_at_call 157;refine(zoE (hb.up xx) hm Hx.out).mono ?_;rintro e w1 ⟨rfl,E1⟩;unfold recV;have B1:=zaS E1;have f1:=B1.2.1;have f2:=B1.2.2.2.1;have f3:w.heap.size+1<w1.heap.size:=(by have:=B1.2.2.2.2;omega);have X_:Ext w w1:=Ext.trans xx E1;replace hE:=hE.up X_;clear X_)
   exact bodyPost_ret (v:=.tuple #[viewV ViewD.zero,.int .u8 K]) (by simp[results,results140,go_sem,viewV,ViewD.zero,Rec.zero,f1,f3]) rfl ⟨rfl,xy⟩
theorem zbX{p:Int}(hb:zac w A n c bs)(hn:n<=1000000000000)(h:nextI bs p=(r,C)):
 Calls prog 101 #[.slice A n c,.int .i64 p] w fun e w'=>e=.returned (.tuple #[recV r,.int .i64 (C:Int)])/\Ext w w':=by
 unfold nextI at h;rw[hb.length]at h;by_cases hp:p<0\/(n:Int)<=p
 . rw[if_pos hp]at h
   cases h;exact znM hp
 . rw[if_neg hp]at h
   have:=zse hb (p:=p.toNat) (by omega) hn h
   rwa[show((p.toNat:Nat):Int)=p by omega]at this
theorem zct(hb:zav w A n c l)(hn:n<=1000000000000)(h:idxB (numP x) l=I):
 Calls prog 42 #[.agg #[.string s,.slice A n c],.int .i64 x] w fun e w'=>e=.returned (.int .i64 I)/\Ext w w':=by
 subst h;exact zrQ hb hn
theorem zdQ{k W:Int}(hk:true=kindB k)(hw:W=wireI k):
 Calls prog 68 #[.int .i64 k] w fun e w'=>e=.returned (.int .i64 W)/\w=w':=by
 subst hw;exact zqK hk.symm w
theorem zrR{p:Int}(hf:zav w A n c l)(hn:n<=1000000000000)(hb:zac w B m d bs)(hm:m<=1000000000000)(h:lookI l bs p=(v,C)):
 Calls prog 66 #[.agg #[.string s,.slice A n c],.slice B m d,.int .i64 p] w fun e w'=>e=.returned (.tuple #[viewV v,.int .i64 (C:Int)])/\Ext w w':=by
 have hE:=Ext.refl w;rcases hx:nextI bs p with⟨r,K⟩
 have hK5:=zkb bs p;rw[hx]at hK5;unfold lookI at h;rw[hx]at h;simp only at h hK5;have Hx:=zsz hx;clear hx;by_cases hK:K=0
 . subst hK
   rw[if_pos rfl]at h;obtain⟨rn,rw_,rf,ra,rt⟩:=r;have Hs:=zsz h;clear h;rcases zaL (numP (rn:Int)) l with⟨i1,_⟩|⟨k,f,i1,i2,i3,_⟩
   . have hsv:=Hs.out
     rw[zbL i1]at hsv;obtain⟨rfl,hC⟩:=Prod.mk.inj hsv;obtain rfl:C=0:=hC.symm;have HI:=zsz i1;clear i1 hsv Hs
     go_enter func66,ntmps66
     go_wp2_with (first|(go_at_call 101;refine(zbX (hb.up xx) hm Hx.out).mono ?_;rintro e w1 ⟨rfl,E1⟩;unfold recV;have B1:=zaS E1;have b1:=B1.2.1;have b2:=B1.2.2.2.1;have b0:=B1.1;have b3:w.heap.size+1<w1.heap.size:=(by have:=B1.2.2.2.2;omega);have b4:w.heap.size<w1.heap.size:=(by omega);clear B1;have X_:Ext w w1:=Ext.trans xx E1;replace hE:=hE.up X_;replace hf:=hf.up X_;clear X_)|(go_at_call 42;refine(zct (hf.up xx) hn HI.out).mono ?_;rintro e w2 ⟨rfl,E2⟩;have D2:=E2.new_blk;have y0:w2.cell? ⟨w1.heap.size,0,none⟩=some (.int .i64 (rn:Int)):=D2.cell 0;have y1:w2.cell? ⟨w1.heap.size,1,none⟩=some (.int .i64 (rw_:Int)):=D2.cell 1;have y2:w2.cell? ⟨w1.heap.size,2,none⟩=some (.int .i64 (rf:Int)):=D2.cell 2;have y3:w2.cell? ⟨w1.heap.size,3,none⟩=some (.int .i64 (ra:Int)):=D2.cell 3;have y4:w2.cell? ⟨w1.heap.size,4,none⟩=some (.int .i64 (rt:Int)):=D2.cell 4;have l2:=D2.lt;have b5:w.heap.size<w2.heap.size:=(by omega);have b6:w.heap.size+1<w2.heap.size:=(by omega);clear D2;have X_:Ext w1 w2:=Ext.trans xx E2;replace hE:=hE.up X_;have X2:=X_;clear X_;replace b1:∀i,w2.cell? ⟨w.heap.size+1,i,none⟩=_:=fun i=>(X2.cell (p:=⟨w.heap.size+1,i,none⟩) b3).trans (b1 i);replace b2:∀i,w2.frozen? ⟨w.heap.size+1,i,none⟩=false:=fun i=>(X2.frozen (p:=⟨w.heap.size+1,i,none⟩) b3).trans (b2 i);replace b0:∀i,w2.cell? ⟨w.heap.size,i,none⟩=_:=fun i=>(X2.cell (p:=⟨w.heap.size,i,none⟩) (by show w.heap.size<_;omega)).trans (b0 i)))
     exact bodyPost_ret (v:=.tuple #[viewV ⟨⟨rn,rw_,rf,ra,rt⟩, -1,false⟩,.int .i64 0]) (by simp[results,results66,go_sem,viewV,b1]) rfl ⟨rfl,xy⟩
   . have hlt:=(List.getElem?_eq_some_iff.1 i2).1
     rw[hf.length]at hlt;have hkn:(k:Int)<n:=by omega
     obtain⟨b,off,f',rfl,i2',hok,hb1,d0,d1,d2,d3,d4,d5⟩:=hf.field hlt;rw[i2]at i2';cases i2';have hsv:=Hs.out;rw[zbD i1 i2]at hsv;have HI:=zsz i1;clear i1 i2 i3 Hs hok;obtain⟨fn,fnum,fk,frep,fp,fo⟩:=f;simp only at hsv d0 d1 d2 d3 d4 d5;obtain⟨nb,hnb⟩:∃nb,nb=zaf fk:=⟨_,rfl⟩
     obtain⟨kb,hkb⟩:∃kb,kb=kindB fk:=⟨_,rfl⟩
     have kn:=fun W:World=>zbz fk W
     rw[<-hnb]at kn;have kr:=fun W:World=>zjp fk W
     rw[<-hkb]at kr;rw[<-hnb,<-hkb]at hsv;have Kn:=zsz kn;have Kr:=zsz kr;have Hkb:=zsz hkb;obtain⟨wv,hwv⟩:∃wv,wv=wireI fk:=⟨_,rfl⟩
     rw[<-hwv]at hsv;have Hwv:=zsz hwv;clear kn kr hnb hkb hwv;have hq2:(rw_==2)=((rw_:Int)==2):=by rw[Bool.eq_iff_iff];simp;omega
     rw[hq2]at hsv
     have cases4:(frep=true/\nb=true/\((rw_:Int)==2)=true/\v=⟨⟨rn,rw_,rf,ra,rt⟩,k,true⟩/\C=0)\/
      (((frep=false)\/(frep=true/\nb=false)\/(frep=true/\nb=true/\((rw_:Int)==2)=false))/\
        ((kb=true/\(wv==(rw_:Int))=true/\v=⟨⟨rn,rw_,rf,ra,rt⟩,k,false⟩/\C=0)\/(kb=true/\(wv==(rw_:Int))=false/\v=ViewD.zero/\C=6)\/(kb=false/\v=ViewD.zero/\C=6))):=by
      have tail:(if kb=true/\wv=(rw_:Int)then((⟨⟨rn,rw_,rf,ra,rt⟩,(k:Int),false⟩:ViewD),0)else(ViewD.zero,6))=(v,C)->
       ((kb=true/\(wv==(rw_:Int))=true/\v=⟨⟨rn,rw_,rf,ra,rt⟩,k,false⟩/\C=0)\/(kb=true/\(wv==(rw_:Int))=false/\v=ViewD.zero/\C=6)\/(kb=false/\v=ViewD.zero/\C=6)):=by
       intro h;rcases kb with _|_
       . rw[if_neg (by simp)]at h
         exact .inr (.inr ⟨rfl,(Prod.mk.inj h).1.symm,(Prod.mk.inj h).2.symm⟩)
       . by_cases e:wv=(rw_:Int)
         . rw[if_pos ⟨rfl,e⟩]at h
           exact .inl ⟨rfl,by simpa using e,(Prod.mk.inj h).1.symm,(Prod.mk.inj h).2.symm⟩
         . rw[if_neg (fun h=>e h.2)]at h
           exact .inr (.inl ⟨rfl,by rw[beq_eq_false_iff_ne];exact e,(Prod.mk.inj h).1.symm,(Prod.mk.inj h).2.symm⟩)
      rcases frep with _|_
      . rw[Bool.false_and,Bool.false_and,if_neg (by simp)]at hsv
        exact .inr ⟨.inl rfl,tail hsv⟩
      . rcases nb with _|_
        . rw[Bool.and_false,Bool.false_and,if_neg (by simp)]at hsv
          exact .inr ⟨.inr (.inl ⟨rfl,rfl⟩),tail hsv⟩
        . rcases h2:((rw_:Int)==2)with _|_
          . rw[h2,Bool.and_false,if_neg (by simp)]at hsv
            exact .inr ⟨.inr (.inr ⟨rfl,rfl,rfl⟩),tail hsv⟩
          . rw[h2,if_pos (by simp)]at hsv
            exact .inl ⟨rfl,rfl,rfl,(Prod.mk.inj hsv).1.symm,(Prod.mk.inj hsv).2.symm⟩
     clear hsv hq2;rcases cases4 with⟨rfl,rfl,q2,rfl,rfl⟩|⟨hrun,hend⟩
     . go_enter func66,ntmps66
       go_wp2_with (first|(go_at_call 101;refine(zbX (hb.up xx) hm Hx.out).mono ?_;rintro e w1 ⟨rfl,E1⟩;unfold recV;have B1:=zaS E1;have b1:=B1.2.1;have b2:=B1.2.2.2.1;have b0:=B1.1;have b3:w.heap.size+1<w1.heap.size:=(by have:=B1.2.2.2.2;omega);have b4:w.heap.size<w1.heap.size:=(by omega);clear B1;have X_:Ext w w1:=Ext.trans xx E1;replace hE:=hE.up X_;replace hf:=hf.up X_;clear X_)|(go_at_call 42;refine(zct (hf.up xx) hn HI.out).mono ?_;rintro e w2 ⟨rfl,E2⟩;have D2:=E2.new_blk;have y0:w2.cell? ⟨w1.heap.size,0,none⟩=some (.int .i64 (rn:Int)):=D2.cell 0;have y1:w2.cell? ⟨w1.heap.size,1,none⟩=some (.int .i64 (rw_:Int)):=D2.cell 1;have y2:w2.cell? ⟨w1.heap.size,2,none⟩=some (.int .i64 (rf:Int)):=D2.cell 2;have y3:w2.cell? ⟨w1.heap.size,3,none⟩=some (.int .i64 (ra:Int)):=D2.cell 3;have y4:w2.cell? ⟨w1.heap.size,4,none⟩=some (.int .i64 (rt:Int)):=D2.cell 4;have l2:=D2.lt;have b5:w.heap.size<w2.heap.size:=(by omega);have b6:w.heap.size+1<w2.heap.size:=(by omega);clear D2;have X_:Ext w1 w2:=Ext.trans xx E2;replace hE:=hE.up X_;have X2:=X_;clear X_;replace b1:∀i,w2.cell? ⟨w.heap.size+1,i,none⟩=_:=fun i=>(X2.cell (p:=⟨w.heap.size+1,i,none⟩) b3).trans (b1 i);replace b2:∀i,w2.frozen? ⟨w.heap.size+1,i,none⟩=false:=fun i=>(X2.frozen (p:=⟨w.heap.size+1,i,none⟩) b3).trans (b2 i);replace b0:∀i,w2.cell? ⟨w.heap.size,i,none⟩=_:=fun i=>(X2.cell (p:=⟨w.heap.size,i,none⟩) (by show w.heap.size<_;omega)).trans (b0 i);replace d0:=hE.of_cell d0;replace d1:=hE.of_cell d1;replace d2:=hE.of_cell d2;replace d3:=hE.of_cell d3;replace d4:=hE.of_cell d4;replace d5:=hE.of_cell d5;have hbl:b<w2.heap.size:=Nat.lt_of_lt_of_le hb1 hE.size)|(go_at_call 14;refine(Kn.out _).mono ?_;rintro e w' ⟨rfl,rfl⟩))
       exact bodyPost_ret (v:=.tuple #[viewV ⟨⟨rn,rw_,rf,ra,rt⟩,k,true⟩,.int .i64 0]) (by simp[results,results66,go_sem,viewV,b1,b6]) rfl ⟨rfl,xy⟩
     . rcases hrun with rfl|⟨rfl,rfl⟩|⟨rfl,rfl,q2⟩
       . rcases hend with⟨rfl,qw,rfl,rfl⟩|⟨rfl,qw,rfl,rfl⟩|⟨rfl,rfl,rfl⟩
         . go_enter func66,ntmps66
           go_wp2_with (first|(go_at_call 101;refine(zbX (hb.up xx) hm Hx.out).mono ?_;rintro e w1 ⟨rfl,E1⟩;unfold recV;have B1:=zaS E1;have b1:=B1.2.1;have b2:=B1.2.2.2.1;have b0:=B1.1;have b3:w.heap.size+1<w1.heap.size:=(by have:=B1.2.2.2.2;omega);have b4:w.heap.size<w1.heap.size:=(by omega);clear B1;have X_:Ext w w1:=Ext.trans xx E1;replace hE:=hE.up X_;replace hf:=hf.up X_;clear X_)|(go_at_call 42;refine(zct (hf.up xx) hn HI.out).mono ?_;rintro e w2 ⟨rfl,E2⟩;have D2:=E2.new_blk;have y0:w2.cell? ⟨w1.heap.size,0,none⟩=some (.int .i64 (rn:Int)):=D2.cell 0;have y1:w2.cell? ⟨w1.heap.size,1,none⟩=some (.int .i64 (rw_:Int)):=D2.cell 1;have y2:w2.cell? ⟨w1.heap.size,2,none⟩=some (.int .i64 (rf:Int)):=D2.cell 2;have y3:w2.cell? ⟨w1.heap.size,3,none⟩=some (.int .i64 (ra:Int)):=D2.cell 3;have y4:w2.cell? ⟨w1.heap.size,4,none⟩=some (.int .i64 (rt:Int)):=D2.cell 4;have l2:=D2.lt;have b5:w.heap.size<w2.heap.size:=(by omega);have b6:w.heap.size+1<w2.heap.size:=(by omega);clear D2;have X_:Ext w1 w2:=Ext.trans xx E2;replace hE:=hE.up X_;have X2:=X_;clear X_;replace b1:∀i,w2.cell? ⟨w.heap.size+1,i,none⟩=_:=fun i=>(X2.cell (p:=⟨w.heap.size+1,i,none⟩) b3).trans (b1 i);replace b2:∀i,w2.frozen? ⟨w.heap.size+1,i,none⟩=false:=fun i=>(X2.frozen (p:=⟨w.heap.size+1,i,none⟩) b3).trans (b2 i);replace b0:∀i,w2.cell? ⟨w.heap.size,i,none⟩=_:=fun i=>(X2.cell (p:=⟨w.heap.size,i,none⟩) (by show w.heap.size<_;omega)).trans (b0 i);replace d0:=hE.of_cell d0;replace d1:=hE.of_cell d1;replace d2:=hE.of_cell d2;replace d3:=hE.of_cell d3;replace d4:=hE.of_cell d4;replace d5:=hE.of_cell d5;have hbl:b<w2.heap.size:=Nat.lt_of_lt_of_le hb1 hE.size)|(go_at_call 14;refine(Kn.out _).mono ?_;rintro e w' ⟨rfl,rfl⟩))
           go_quiet (first|(go_at_call 85;exact Calls.quiet_of_same ((Kr.out _).mono fun _ _ h=>⟨h.1,h.2.symm⟩))|(go_at_call 68;exact Calls.quiet_of_same ((zdQ Hkb.out Hwv.out).mono fun _ _ h=>⟨h.1,h.2.symm⟩)))
           go_wp2
           exact bodyPost_ret (v:=.tuple #[viewV ⟨⟨rn,rw_,rf,ra,rt⟩,k,false⟩,.int .i64 0]) (by simp[results,results66,go_sem,viewV,b1,b6]) rfl ⟨rfl,xy⟩
         . go_enter func66,ntmps66
           go_wp2_with (first|(go_at_call 101;refine(zbX (hb.up xx) hm Hx.out).mono ?_;rintro e w1 ⟨rfl,E1⟩;unfold recV;have B1:=zaS E1;have b1:=B1.2.1;have b2:=B1.2.2.2.1;have b0:=B1.1;have b3:w.heap.size+1<w1.heap.size:=(by have:=B1.2.2.2.2;omega);have b4:w.heap.size<w1.heap.size:=(by omega);clear B1;have X_:Ext w w1:=Ext.trans xx E1;replace hE:=hE.up X_;replace hf:=hf.up X_;clear X_)|(go_at_call 42;refine(zct (hf.up xx) hn HI.out).mono ?_;rintro e w2 ⟨rfl,E2⟩;have D2:=E2.new_blk;have y0:w2.cell? ⟨w1.heap.size,0,none⟩=some (.int .i64 (rn:Int)):=D2.cell 0;have y1:w2.cell? ⟨w1.heap.size,1,none⟩=some (.int .i64 (rw_:Int)):=D2.cell 1;have y2:w2.cell? ⟨w1.heap.size,2,none⟩=some (.int .i64 (rf:Int)):=D2.cell 2;have y3:w2.cell? ⟨w1.heap.size,3,none⟩=some (.int .i64 (ra:Int)):=D2.cell 3;have y4:w2.cell? ⟨w1.heap.size,4,none⟩=some (.int .i64 (rt:Int)):=D2.cell 4;have l2:=D2.lt;have b5:w.heap.size<w2.heap.size:=(by omega);have b6:w.heap.size+1<w2.heap.size:=(by omega);clear D2;have X_:Ext w1 w2:=Ext.trans xx E2;replace hE:=hE.up X_;have X2:=X_;clear X_;replace b1:∀i,w2.cell? ⟨w.heap.size+1,i,none⟩=_:=fun i=>(X2.cell (p:=⟨w.heap.size+1,i,none⟩) b3).trans (b1 i);replace b2:∀i,w2.frozen? ⟨w.heap.size+1,i,none⟩=false:=fun i=>(X2.frozen (p:=⟨w.heap.size+1,i,none⟩) b3).trans (b2 i);replace b0:∀i,w2.cell? ⟨w.heap.size,i,none⟩=_:=fun i=>(X2.cell (p:=⟨w.heap.size,i,none⟩) (by show w.heap.size<_;omega)).trans (b0 i);replace d0:=hE.of_cell d0;replace d1:=hE.of_cell d1;replace d2:=hE.of_cell d2;replace d3:=hE.of_cell d3;replace d4:=hE.of_cell d4;replace d5:=hE.of_cell d5;have hbl:b<w2.heap.size:=Nat.lt_of_lt_of_le hb1 hE.size)|(go_at_call 14;refine(Kn.out _).mono ?_;rintro e w' ⟨rfl,rfl⟩))
           go_quiet (first|(go_at_call 85;exact Calls.quiet_of_same ((Kr.out _).mono fun _ _ h=>⟨h.1,h.2.symm⟩))|(go_at_call 68;exact Calls.quiet_of_same ((zdQ Hkb.out Hwv.out).mono fun _ _ h=>⟨h.1,h.2.symm⟩)))
           go_wp2
           exact bodyPost_ret (v:=.tuple #[viewV ViewD.zero,.int .i64 6]) (by simp[results,results66,go_sem,viewV,ViewD.zero,Rec.zero,b1,b6]) rfl ⟨rfl,xy⟩
         . go_enter func66,ntmps66
           go_wp2_with (first|(go_at_call 101;refine(zbX (hb.up xx) hm Hx.out).mono ?_;rintro e w1 ⟨rfl,E1⟩;unfold recV;have B1:=zaS E1;have b1:=B1.2.1;have b2:=B1.2.2.2.1;have b0:=B1.1;have b3:w.heap.size+1<w1.heap.size:=(by have:=B1.2.2.2.2;omega);have b4:w.heap.size<w1.heap.size:=(by omega);clear B1;have X_:Ext w w1:=Ext.trans xx E1;replace hE:=hE.up X_;replace hf:=hf.up X_;clear X_)|(go_at_call 42;refine(zct (hf.up xx) hn HI.out).mono ?_;rintro e w2 ⟨rfl,E2⟩;have D2:=E2.new_blk;have y0:w2.cell? ⟨w1.heap.size,0,none⟩=some (.int .i64 (rn:Int)):=D2.cell 0;have y1:w2.cell? ⟨w1.heap.size,1,none⟩=some (.int .i64 (rw_:Int)):=D2.cell 1;have y2:w2.cell? ⟨w1.heap.size,2,none⟩=some (.int .i64 (rf:Int)):=D2.cell 2;have y3:w2.cell? ⟨w1.heap.size,3,none⟩=some (.int .i64 (ra:Int)):=D2.cell 3;have y4:w2.cell? ⟨w1.heap.size,4,none⟩=some (.int .i64 (rt:Int)):=D2.cell 4;have l2:=D2.lt;have b5:w.heap.size<w2.heap.size:=(by omega);have b6:w.heap.size+1<w2.heap.size:=(by omega);clear D2;have X_:Ext w1 w2:=Ext.trans xx E2;replace hE:=hE.up X_;have X2:=X_;clear X_;replace b1:∀i,w2.cell? ⟨w.heap.size+1,i,none⟩=_:=fun i=>(X2.cell (p:=⟨w.heap.size+1,i,none⟩) b3).trans (b1 i);replace b2:∀i,w2.frozen? ⟨w.heap.size+1,i,none⟩=false:=fun i=>(X2.frozen (p:=⟨w.heap.size+1,i,none⟩) b3).trans (b2 i);replace b0:∀i,w2.cell? ⟨w.heap.size,i,none⟩=_:=fun i=>(X2.cell (p:=⟨w.heap.size,i,none⟩) (by show w.heap.size<_;omega)).trans (b0 i);replace d0:=hE.of_cell d0;replace d1:=hE.of_cell d1;replace d2:=hE.of_cell d2;replace d3:=hE.of_cell d3;replace d4:=hE.of_cell d4;replace d5:=hE.of_cell d5;have hbl:b<w2.heap.size:=Nat.lt_of_lt_of_le hb1 hE.size)|(go_at_call 14;refine(Kn.out _).mono ?_;rintro e w' ⟨rfl,rfl⟩))
           go_quiet (first|(go_at_call 85;exact Calls.quiet_of_same ((Kr.out _).mono fun _ _ h=>⟨h.1,h.2.symm⟩))|(go_at_call 68;exact Calls.quiet_of_same ((zdQ Hkb.out Hwv.out).mono fun _ _ h=>⟨h.1,h.2.symm⟩)))
           go_wp2
           exact bodyPost_ret (v:=.tuple #[viewV ViewD.zero,.int .i64 6]) (by simp[results,results66,go_sem,viewV,ViewD.zero,Rec.zero,b1,b6]) rfl ⟨rfl,xy⟩
       . rcases hend with⟨rfl,qw,rfl,rfl⟩|⟨rfl,qw,rfl,rfl⟩|⟨rfl,rfl,rfl⟩
         . go_enter func66,ntmps66
           go_wp2_with (first|(go_at_call 101;refine(zbX (hb.up xx) hm Hx.out).mono ?_;rintro e w1 ⟨rfl,E1⟩;unfold recV;have B1:=zaS E1;have b1:=B1.2.1;have b2:=B1.2.2.2.1;have b0:=B1.1;have b3:w.heap.size+1<w1.heap.size:=(by have:=B1.2.2.2.2;omega);have b4:w.heap.size<w1.heap.size:=(by omega);clear B1;have X_:Ext w w1:=Ext.trans xx E1;replace hE:=hE.up X_;replace hf:=hf.up X_;clear X_)|(go_at_call 42;refine(zct (hf.up xx) hn HI.out).mono ?_;rintro e w2 ⟨rfl,E2⟩;have D2:=E2.new_blk;have y0:w2.cell? ⟨w1.heap.size,0,none⟩=some (.int .i64 (rn:Int)):=D2.cell 0;have y1:w2.cell? ⟨w1.heap.size,1,none⟩=some (.int .i64 (rw_:Int)):=D2.cell 1;have y2:w2.cell? ⟨w1.heap.size,2,none⟩=some (.int .i64 (rf:Int)):=D2.cell 2;have y3:w2.cell? ⟨w1.heap.size,3,none⟩=some (.int .i64 (ra:Int)):=D2.cell 3;have y4:w2.cell? ⟨w1.heap.size,4,none⟩=some (.int .i64 (rt:Int)):=D2.cell 4;have l2:=D2.lt;have b5:w.heap.size<w2.heap.size:=(by omega);have b6:w.heap.size+1<w2.heap.size:=(by omega);clear D2;have X_:Ext w1 w2:=Ext.trans xx E2;replace hE:=hE.up X_;have X2:=X_;clear X_;replace b1:∀i,w2.cell? ⟨w.heap.size+1,i,none⟩=_:=fun i=>(X2.cell (p:=⟨w.heap.size+1,i,none⟩) b3).trans (b1 i);replace b2:∀i,w2.frozen? ⟨w.heap.size+1,i,none⟩=false:=fun i=>(X2.frozen (p:=⟨w.heap.size+1,i,none⟩) b3).trans (b2 i);replace b0:∀i,w2.cell? ⟨w.heap.size,i,none⟩=_:=fun i=>(X2.cell (p:=⟨w.heap.size,i,none⟩) (by show w.heap.size<_;omega)).trans (b0 i);replace d0:=hE.of_cell d0;replace d1:=hE.of_cell d1;replace d2:=hE.of_cell d2;replace d3:=hE.of_cell d3;replace d4:=hE.of_cell d4;replace d5:=hE.of_cell d5;have hbl:b<w2.heap.size:=Nat.lt_of_lt_of_le hb1 hE.size)|(go_at_call 14;refine(Kn.out _).mono ?_;rintro e w' ⟨rfl,rfl⟩))
           go_quiet (first|(go_at_call 85;exact Calls.quiet_of_same ((Kr.out _).mono fun _ _ h=>⟨h.1,h.2.symm⟩))|(go_at_call 68;exact Calls.quiet_of_same ((zdQ Hkb.out Hwv.out).mono fun _ _ h=>⟨h.1,h.2.symm⟩)))
           go_wp2
           exact bodyPost_ret (v:=.tuple #[viewV ⟨⟨rn,rw_,rf,ra,rt⟩,k,false⟩,.int .i64 0]) (by simp[results,results66,go_sem,viewV,b1,b6]) rfl ⟨rfl,xy⟩
         . go_enter func66,ntmps66
           go_wp2_with (first|(go_at_call 101;refine(zbX (hb.up xx) hm Hx.out).mono ?_;rintro e w1 ⟨rfl,E1⟩;unfold recV;have B1:=zaS E1;have b1:=B1.2.1;have b2:=B1.2.2.2.1;have b0:=B1.1;have b3:w.heap.size+1<w1.heap.size:=(by have:=B1.2.2.2.2;omega);have b4:w.heap.size<w1.heap.size:=(by omega);clear B1;have X_:Ext w w1:=Ext.trans xx E1;replace hE:=hE.up X_;replace hf:=hf.up X_;clear X_)|(go_at_call 42;refine(zct (hf.up xx) hn HI.out).mono ?_;rintro e w2 ⟨rfl,E2⟩;have D2:=E2.new_blk;have y0:w2.cell? ⟨w1.heap.size,0,none⟩=some (.int .i64 (rn:Int)):=D2.cell 0;have y1:w2.cell? ⟨w1.heap.size,1,none⟩=some (.int .i64 (rw_:Int)):=D2.cell 1;have y2:w2.cell? ⟨w1.heap.size,2,none⟩=some (.int .i64 (rf:Int)):=D2.cell 2;have y3:w2.cell? ⟨w1.heap.size,3,none⟩=some (.int .i64 (ra:Int)):=D2.cell 3;have y4:w2.cell? ⟨w1.heap.size,4,none⟩=some (.int .i64 (rt:Int)):=D2.cell 4;have l2:=D2.lt;have b5:w.heap.size<w2.heap.size:=(by omega);have b6:w.heap.size+1<w2.heap.size:=(by omega);clear D2;have X_:Ext w1 w2:=Ext.trans xx E2;replace hE:=hE.up X_;have X2:=X_;clear X_;replace b1:∀i,w2.cell? ⟨w.heap.size+1,i,none⟩=_:=fun i=>(X2.cell (p:=⟨w.heap.size+1,i,none⟩) b3).trans (b1 i);replace b2:∀i,w2.frozen? ⟨w.heap.size+1,i,none⟩=false:=fun i=>(X2.frozen (p:=⟨w.heap.size+1,i,none⟩) b3).trans (b2 i);replace b0:∀i,w2.cell? ⟨w.heap.size,i,none⟩=_:=fun i=>(X2.cell (p:=⟨w.heap.size,i,none⟩) (by show w.heap.size<_;omega)).trans (b0 i);replace d0:=hE.of_cell d0;replace d1:=hE.of_cell d1;replace d2:=hE.of_cell d2;replace d3:=hE.of_cell d3;replace d4:=hE.of_cell d4;replace d5:=hE.of_cell d5;have hbl:b<w2.heap.size:=Nat.lt_of_lt_of_le hb1 hE.size)|(go_at_call 14;refine(Kn.out _).mono ?_;rintro e w' ⟨rfl,rfl⟩))
           go_quiet (first|(go_at_call 85;exact Calls.quiet_of_same ((Kr.out _).mono fun _ _ h=>⟨h.1,h.2.symm⟩))|(go_at_call 68;exact Calls.quiet_of_same ((zdQ Hkb.out Hwv.out).mono fun _ _ h=>⟨h.1,h.2.symm⟩)))
           go_wp2
           exact bodyPost_ret (v:=.tuple #[viewV ViewD.zero,.int .i64 6]) (by simp[results,results66,go_sem,viewV,ViewD.zero,Rec.zero,b1,b6]) rfl ⟨rfl,xy⟩
         . go_enter func66,ntmps66
           go_wp2_with (first|(go_at_call 101;refine(zbX (hb.up xx) hm Hx.out).mono ?_;rintro e w1 ⟨rfl,E1⟩;unfold recV;have B1:=zaS E1;have b1:=B1.2.1;have b2:=B1.2.2.2.1;have b0:=B1.1;have b3:w.heap.size+1<w1.heap.size:=(by have:=B1.2.2.2.2;omega);have b4:w.heap.size<w1.heap.size:=(by omega);clear B1;have X_:Ext w w1:=Ext.trans xx E1;replace hE:=hE.up X_;replace hf:=hf.up X_;clear X_)|(go_at_call 42;refine(zct (hf.up xx) hn HI.out).mono ?_;rintro e w2 ⟨rfl,E2⟩;have D2:=E2.new_blk;have y0:w2.cell? ⟨w1.heap.size,0,none⟩=some (.int .i64 (rn:Int)):=D2.cell 0;have y1:w2.cell? ⟨w1.heap.size,1,none⟩=some (.int .i64 (rw_:Int)):=D2.cell 1;have y2:w2.cell? ⟨w1.heap.size,2,none⟩=some (.int .i64 (rf:Int)):=D2.cell 2;have y3:w2.cell? ⟨w1.heap.size,3,none⟩=some (.int .i64 (ra:Int)):=D2.cell 3;have y4:w2.cell? ⟨w1.heap.size,4,none⟩=some (.int .i64 (rt:Int)):=D2.cell 4;have l2:=D2.lt;have b5:w.heap.size<w2.heap.size:=(by omega);have b6:w.heap.size+1<w2.heap.size:=(by omega);clear D2;have X_:Ext w1 w2:=Ext.trans xx E2;replace hE:=hE.up X_;have X2:=X_;clear X_;replace b1:∀i,w2.cell? ⟨w.heap.size+1,i,none⟩=_:=fun i=>(X2.cell (p:=⟨w.heap.size+1,i,none⟩) b3).trans (b1 i);replace b2:∀i,w2.frozen? ⟨w.heap.size+1,i,none⟩=false:=fun i=>(X2.frozen (p:=⟨w.heap.size+1,i,none⟩) b3).trans (b2 i);replace b0:∀i,w2.cell? ⟨w.heap.size,i,none⟩=_:=fun i=>(X2.cell (p:=⟨w.heap.size,i,none⟩) (by show w.heap.size<_;omega)).trans (b0 i);replace d0:=hE.of_cell d0;replace d1:=hE.of_cell d1;replace d2:=hE.of_cell d2;replace d3:=hE.of_cell d3;replace d4:=hE.of_cell d4;replace d5:=hE.of_cell d5;have hbl:b<w2.heap.size:=Nat.lt_of_lt_of_le hb1 hE.size)|(go_at_call 14;refine(Kn.out _).mono ?_;rintro e w' ⟨rfl,rfl⟩))
           go_quiet (first|(go_at_call 85;exact Calls.quiet_of_same ((Kr.out _).mono fun _ _ h=>⟨h.1,h.2.symm⟩))|(go_at_call 68;exact Calls.quiet_of_same ((zdQ Hkb.out Hwv.out).mono fun _ _ h=>⟨h.1,h.2.symm⟩)))
           go_wp2
           exact bodyPost_ret (v:=.tuple #[viewV ViewD.zero,.int .i64 6]) (by simp[results,results66,go_sem,viewV,ViewD.zero,Rec.zero,b1,b6]) rfl ⟨rfl,xy⟩
       . rcases hend with⟨rfl,qw,rfl,rfl⟩|⟨rfl,qw,rfl,rfl⟩|⟨rfl,rfl,rfl⟩
         . go_enter func66,ntmps66
           go_wp2_with (first|(go_at_call 101;refine(zbX (hb.up xx) hm Hx.out).mono ?_;rintro e w1 ⟨rfl,E1⟩;unfold recV;have B1:=zaS E1;have b1:=B1.2.1;have b2:=B1.2.2.2.1;have b0:=B1.1;have b3:w.heap.size+1<w1.heap.size:=(by have:=B1.2.2.2.2;omega);have b4:w.heap.size<w1.heap.size:=(by omega);clear B1;have X_:Ext w w1:=Ext.trans xx E1;replace hE:=hE.up X_;replace hf:=hf.up X_;clear X_)|(go_at_call 42;refine(zct (hf.up xx) hn HI.out).mono ?_;rintro e w2 ⟨rfl,E2⟩;have D2:=E2.new_blk;have y0:w2.cell? ⟨w1.heap.size,0,none⟩=some (.int .i64 (rn:Int)):=D2.cell 0;have y1:w2.cell? ⟨w1.heap.size,1,none⟩=some (.int .i64 (rw_:Int)):=D2.cell 1;have y2:w2.cell? ⟨w1.heap.size,2,none⟩=some (.int .i64 (rf:Int)):=D2.cell 2;have y3:w2.cell? ⟨w1.heap.size,3,none⟩=some (.int .i64 (ra:Int)):=D2.cell 3;have y4:w2.cell? ⟨w1.heap.size,4,none⟩=some (.int .i64 (rt:Int)):=D2.cell 4;have l2:=D2.lt;have b5:w.heap.size<w2.heap.size:=(by omega);have b6:w.heap.size+1<w2.heap.size:=(by omega);clear D2;have X_:Ext w1 w2:=Ext.trans xx E2;replace hE:=hE.up X_;have X2:=X_;clear X_;replace b1:∀i,w2.cell? ⟨w.heap.size+1,i,none⟩=_:=fun i=>(X2.cell (p:=⟨w.heap.size+1,i,none⟩) b3).trans (b1 i);replace b2:∀i,w2.frozen? ⟨w.heap.size+1,i,none⟩=false:=fun i=>(X2.frozen (p:=⟨w.heap.size+1,i,none⟩) b3).trans (b2 i);replace b0:∀i,w2.cell? ⟨w.heap.size,i,none⟩=_:=fun i=>(X2.cell (p:=⟨w.heap.size,i,none⟩) (by show w.heap.size<_;omega)).trans (b0 i);replace d0:=hE.of_cell d0;replace d1:=hE.of_cell d1;replace d2:=hE.of_cell d2;replace d3:=hE.of_cell d3;replace d4:=hE.of_cell d4;replace d5:=hE.of_cell d5;have hbl:b<w2.heap.size:=Nat.lt_of_lt_of_le hb1 hE.size)|(go_at_call 14;refine(Kn.out _).mono ?_;rintro e w' ⟨rfl,rfl⟩))
           go_quiet (first|(go_at_call 85;exact Calls.quiet_of_same ((Kr.out _).mono fun _ _ h=>⟨h.1,h.2.symm⟩))|(go_at_call 68;exact Calls.quiet_of_same ((zdQ Hkb.out Hwv.out).mono fun _ _ h=>⟨h.1,h.2.symm⟩)))
           go_wp2
           exact bodyPost_ret (v:=.tuple #[viewV ⟨⟨rn,rw_,rf,ra,rt⟩,k,false⟩,.int .i64 0]) (by simp[results,results66,go_sem,viewV,b1,b6]) rfl ⟨rfl,xy⟩
         . go_enter func66,ntmps66
           go_wp2_with (first|(go_at_call 101;refine(zbX (hb.up xx) hm Hx.out).mono ?_;rintro e w1 ⟨rfl,E1⟩;unfold recV;have B1:=zaS E1;have b1:=B1.2.1;have b2:=B1.2.2.2.1;have b0:=B1.1;have b3:w.heap.size+1<w1.heap.size:=(by have:=B1.2.2.2.2;omega);have b4:w.heap.size<w1.heap.size:=(by omega);clear B1;have X_:Ext w w1:=Ext.trans xx E1;replace hE:=hE.up X_;replace hf:=hf.up X_;clear X_)|(go_at_call 42;refine(zct (hf.up xx) hn HI.out).mono ?_;rintro e w2 ⟨rfl,E2⟩;have D2:=E2.new_blk;have y0:w2.cell? ⟨w1.heap.size,0,none⟩=some (.int .i64 (rn:Int)):=D2.cell 0;have y1:w2.cell? ⟨w1.heap.size,1,none⟩=some (.int .i64 (rw_:Int)):=D2.cell 1;have y2:w2.cell? ⟨w1.heap.size,2,none⟩=some (.int .i64 (rf:Int)):=D2.cell 2;have y3:w2.cell? ⟨w1.heap.size,3,none⟩=some (.int .i64 (ra:Int)):=D2.cell 3;have y4:w2.cell? ⟨w1.heap.size,4,none⟩=some (.int .i64 (rt:Int)):=D2.cell 4;have l2:=D2.lt;have b5:w.heap.size<w2.heap.size:=(by omega);have b6:w.heap.size+1<w2.heap.size:=(by omega);clear D2;have X_:Ext w1 w2:=Ext.trans xx E2;replace hE:=hE.up X_;have X2:=X_;clear X_;replace b1:∀i,w2.cell? ⟨w.heap.size+1,i,none⟩=_:=fun i=>(X2.cell (p:=⟨w.heap.size+1,i,none⟩) b3).trans (b1 i);replace b2:∀i,w2.frozen? ⟨w.heap.size+1,i,none⟩=false:=fun i=>(X2.frozen (p:=⟨w.heap.size+1,i,none⟩) b3).trans (b2 i);replace b0:∀i,w2.cell? ⟨w.heap.size,i,none⟩=_:=fun i=>(X2.cell (p:=⟨w.heap.size,i,none⟩) (by show w.heap.size<_;omega)).trans (b0 i);replace d0:=hE.of_cell d0;replace d1:=hE.of_cell d1;replace d2:=hE.of_cell d2;replace d3:=hE.of_cell d3;replace d4:=hE.of_cell d4;replace d5:=hE.of_cell d5;have hbl:b<w2.heap.size:=Nat.lt_of_lt_of_le hb1 hE.size)|(go_at_call 14;refine(Kn.out _).mono ?_;rintro e w' ⟨rfl,rfl⟩))
           go_quiet (first|(go_at_call 85;exact Calls.quiet_of_same ((Kr.out _).mono fun _ _ h=>⟨h.1,h.2.symm⟩))|(go_at_call 68;exact Calls.quiet_of_same ((zdQ Hkb.out Hwv.out).mono fun _ _ h=>⟨h.1,h.2.symm⟩)))
           go_wp2
           exact bodyPost_ret (v:=.tuple #[viewV ViewD.zero,.int .i64 6]) (by simp[results,results66,go_sem,viewV,ViewD.zero,Rec.zero,b1,b6]) rfl ⟨rfl,xy⟩
         . go_enter func66,ntmps66
           go_wp2_with (first|(go_at_call 101;refine(zbX (hb.up xx) hm Hx.out).mono ?_;rintro e w1 ⟨rfl,E1⟩;unfold recV;have B1:=zaS E1;have b1:=B1.2.1;have b2:=B1.2.2.2.1;have b0:=B1.1;have b3:w.heap.size+1<w1.heap.size:=(by have:=B1.2.2.2.2;omega);have b4:w.heap.size<w1.heap.size:=(by omega);clear B1;have X_:Ext w w1:=Ext.trans xx E1;replace hE:=hE.up X_;replace hf:=hf.up X_;clear X_)|(go_at_call 42;refine(zct (hf.up xx) hn HI.out).mono ?_;rintro e w2 ⟨rfl,E2⟩;have D2:=E2.new_blk;have y0:w2.cell? ⟨w1.heap.size,0,none⟩=some (.int .i64 (rn:Int)):=D2.cell 0;have y1:w2.cell? ⟨w1.heap.size,1,none⟩=some (.int .i64 (rw_:Int)):=D2.cell 1;have y2:w2.cell? ⟨w1.heap.size,2,none⟩=some (.int .i64 (rf:Int)):=D2.cell 2;have y3:w2.cell? ⟨w1.heap.size,3,none⟩=some (.int .i64 (ra:Int)):=D2.cell 3;have y4:w2.cell? ⟨w1.heap.size,4,none⟩=some (.int .i64 (rt:Int)):=D2.cell 4;have l2:=D2.lt;have b5:w.heap.size<w2.heap.size:=(by omega);have b6:w.heap.size+1<w2.heap.size:=(by omega);clear D2;have X_:Ext w1 w2:=Ext.trans xx E2;replace hE:=hE.up X_;have X2:=X_;clear X_;replace b1:∀i,w2.cell? ⟨w.heap.size+1,i,none⟩=_:=fun i=>(X2.cell (p:=⟨w.heap.size+1,i,none⟩) b3).trans (b1 i);replace b2:∀i,w2.frozen? ⟨w.heap.size+1,i,none⟩=false:=fun i=>(X2.frozen (p:=⟨w.heap.size+1,i,none⟩) b3).trans (b2 i);replace b0:∀i,w2.cell? ⟨w.heap.size,i,none⟩=_:=fun i=>(X2.cell (p:=⟨w.heap.size,i,none⟩) (by show w.heap.size<_;omega)).trans (b0 i);replace d0:=hE.of_cell d0;replace d1:=hE.of_cell d1;replace d2:=hE.of_cell d2;replace d3:=hE.of_cell d3;replace d4:=hE.of_cell d4;replace d5:=hE.of_cell d5;have hbl:b<w2.heap.size:=Nat.lt_of_lt_of_le hb1 hE.size)|(go_at_call 14;refine(Kn.out _).mono ?_;rintro e w' ⟨rfl,rfl⟩))
           go_quiet (first|(go_at_call 85;exact Calls.quiet_of_same ((Kr.out _).mono fun _ _ h=>⟨h.1,h.2.symm⟩))|(go_at_call 68;exact Calls.quiet_of_same ((zdQ Hkb.out Hwv.out).mono fun _ _ h=>⟨h.1,h.2.symm⟩)))
           go_wp2
           exact bodyPost_ret (v:=.tuple #[viewV ViewD.zero,.int .i64 6]) (by simp[results,results66,go_sem,viewV,ViewD.zero,Rec.zero,b1,b6]) rfl ⟨rfl,xy⟩
 . have q:((K:Int) !=0)=true:=by simp;omega
   rw[if_neg hK]at h;obtain⟨rfl,hKC⟩:=Prod.mk.inj h;obtain rfl:K=C:=hKC
   go_enter func66,ntmps66
   go_wp2_with (first|(go_at_call 101;refine(zbX (hb.up xx) hm Hx.out).mono ?_;rintro e w1 ⟨rfl,E1⟩;unfold recV;have B1:=zaS E1;have b1:=B1.2.1;have b2:=B1.2.2.2.1;have b0:=B1.1;have b3:w.heap.size+1<w1.heap.size:=(by have:=B1.2.2.2.2;omega);have b4:w.heap.size<w1.heap.size:=(by omega);clear B1;have X_:Ext w w1:=Ext.trans xx E1;replace hE:=hE.up X_;replace hf:=hf.up X_;clear X_))
   exact bodyPost_ret (v:=.tuple #[viewV ViewD.zero,.int .i64 K]) (by simp[results,results66,go_sem,viewV,ViewD.zero,Rec.zero,b1,b3]) rfl ⟨rfl,xy⟩
def viewC(v:ViewD):List Value:=[.int .i64 (v.r.n:Int),.int .i64 (v.r.w:Int),.int .i64 (v.r.f:Int),.int .i64 (v.r.a:Int),.int .i64 (v.r.t:Int),.int .i64 v.field,.bool v.run]
theorem zkc(v:ViewD):∀u∈viewC v,u.oneCell'=true:=by
 intro u hu;simp only[viewC,List.mem_cons,List.not_mem_nil,or_false]at hu;rcases hu with rfl|rfl|rfl|rfl|rfl|rfl|rfl<;>rfl
theorem zqa:Elem prog 179 183 7 56:=Elem.mk' (z:=.agg #[.int .i64 0,.int .i64 0,.int .i64 0,.int .i64 0,.int .i64 0,.int .i64 0,.bool false]) underlying179 (by kernel_rfl) rfl (by omega)
theorem zoF:Elem prog 87 94 7 56:=Elem.mk' (z:=.agg #[.int .i64 0,.int .i64 0,.int .i64 0,.int .i64 0,.int .i64 0,.int .i64 0,.bool false]) underlying87 (by kernel_rfl) rfl (by omega)
theorem zoG{p:Nat}(hf:zav w A n c l)(hn:n<=1000000000000)(hb:zac w B m d bs)(hm:m<=1000000000000)(hp:p<m)(h:lookV l bs p=(v,C)):
 Calls prog 140 #[.agg #[.string s,.slice A n c],.slice B m d,.int .i64 (p:Int)] w fun e w'=>e=.returned (.tuple #[viewV v,.int .u8 (C:Int)])/\Ext w w':=
 vLook hf hn hb hm (by rw[zjU (by rw[hb.length];exact hp)];exact h)
theorem zlk{p:Nat}(hf:zav w A n c l)(hn:n<=1000000000000)(hb:zac w B m d bs)(hm:m<=1000000000000)(hp:p<m)(h:lookV l bs p=(v,C)):
 Calls prog 66 #[.agg #[.string s,.slice A n c],.slice B m d,.int .i64 (p:Int)] w fun e w'=>e=.returned (.tuple #[viewV v,.int .i64 (C:Int)])/\Ext w w':=
 zrR hf hn hb hm (by rw[zjU (by rw[hb.length];exact hp)];exact h)
variable{P:Nat}{L:List ViewD}{fs:List zab}
theorem vAllV(hf:zav w A n c fs)(hn:n<=1000000000000)(hb:zac w B m d bs)(hm:m<=1000000000)(h:zae fs bs=(L,P,C)):
 Calls prog 118 #[.agg #[.string s,.slice A n c],.slice B m d] w fun e w'=>∃A' c',e=.returned (.tuple #[.slice A' L.length c',.int .i64 (P:Int),.int .u8 (C:Int)])/\Own w w' 183 7 A' L.length c' (L.flatMap viewC):=by
 have hlen:=hb.length;have hO:=zaB fs bs;rw[hlen]at hO;have hS:zae fs bs=scan (lookV fs bs) ViewD.to m 0:=by unfold zae;rw[hlen]
 rw[hS]at h;have HO:=zsz hO;have HS:=zsz h;clear hlen hO hS h;have B0:=Ext.new_blk (Ext.refl (w.alloc (.cells #[.string s,.slice A n c] 77)));have hE0:Ext w (w.alloc (.cells #[.string s,.slice A n c] 77)):=xx
 go_enter func118,ntmps118
 go_wp2
 go_loopw [7,8] (fun u i wr=>∃(p:Nat)(A2:Option Addr)(c2:Nat)(l:List ViewD),p<=m/\i=.int .i64 p/\u=.slice A2 l.length c2/\Own (w.alloc (.cells #[.string s,.slice A n c] 77)) wr 183 7 A2 l.length c2 (l.flatMap viewC)/\
  l.length<=p/\Hid ((L,P,C)=pre l (scan (lookV fs bs) ViewD.to m p))) (fun _ i _=>m - (intOf i).toNat)
 case atStart=>exact⟨0,none,0,[],Nat.zero_le _,rfl,rfl,Own.nil (Ext.refl _) 183 7,Nat.zero_le _,by rw[zgG HO.out];exact HS.out.symm⟩
 case round=>
  obtain⟨p,A2,c2,l,hp,rfl,rfl,own,hlp,hA⟩:=hrel;have B1:=B0.up own.ext;have k0:wr.cell? ⟨w.heap.size,0,none⟩=some (.string s):=B1.cell 0;have k1:wr.cell? ⟨w.heap.size,1,none⟩=some (.slice A n c):=B1.cell 1;have kl:=B1.lt;clear B1;have hfw:=hf.up (hE0.trans own.ext);have hbw:=hb.up (hE0.trans own.ext);by_cases hm2:(p:Int)<m
  . rcases hv:lookV fs bs p with⟨v,D⟩
    by_cases hC:D=0
    . subst hC
      have h2:=HO.out p (by omega) (by rw[hv]);rw[hv]at h2;simp only at h2;have hsc:=zbE HO.out (show p<m by omega) hv;obtain⟨⟨rn,rw_,rf,ra,rt⟩,vf,vr⟩:=v;unfold ViewD.to at h2;simp only at h2;have Hv:=zsz hv;have Hsc:=zsz hsc;clear hv hsc
      go_wp2_with (first|(go_at_call 140;refine(zoG hfw (by omega) hbw (by omega) (by omega) Hv.out).mono ?_;rintro e w1 ⟨rfl,E1⟩;unfold viewV;have X_:Ext wr w1:=Ext.trans xx E1;replace own:=own.up X_;have hE:=X_;clear X_))
      go_region_law ((refine zoc (cs:=viewC ⟨⟨rn,rw_,rf,ra,rt⟩,vf,vr⟩) zqa rfl (.tmp 26) (.tmp 28) rfl rfl (own.up xx) rfl (by first|rfl|simp) rfl (zkc _) (by omega) (by unfold maxLen;omega) ?_;intro A4 c4 w4 own4 g4;have k4:w4.cell? ⟨w1.heap.size,4,none⟩=some (.int .i64 (rt:Int)):=(zbp own g4 (Nat.le_refl _) (by simp<;>omega)).trans (by simp)))
      all_goals
       go_simp
       go_wp2
       go_roundw
       case rel=>
        refine⟨rt,A4,c4,l++[⟨⟨rn,rw_,rf,ra,rt⟩,vf,vr⟩],by omega,rfl,zpG (by simp),by simpa using own4,by simp;omega,?_⟩;have e:=hA.out;rw[Hsc.out,zld]at e;exact e
       case measure=>simp[intOf];omega
    . have q:((D:Int) !=0)=true:=by simp;omega
      have hA':=hA.out;rw[zaR (show p<m by omega) hv hC,zmn _ hC]at hA';have Hv:=zsz hv;cases hA';clear hv
      go_wp2_with (first|(go_at_call 140;refine(zoG hfw (by omega) hbw (by omega) (by omega) Hv.out).mono ?_;rintro e w1 ⟨rfl,E1⟩;unfold viewV;have X_:Ext wr w1:=Ext.trans xx E1;replace own:=own.up X_;have hE:=X_;clear X_))
      go_ret3
      exact⟨none,0,rfl,Own.nil (hE0.trans (own.ext.trans xx)) 183 7⟩
  . have hA':=hA.out
    rw[zaE (by omega),zle]at hA';cases hA'
    go_wp2
    go_ret3
    exact⟨A2,c2,rfl,own.since hE0⟩
theorem zrS(hf:zav w A n c fs)(hn:n<=1000000000000)(hb:zac w B m d bs)(hm:m<=1000000000)(h:zae fs bs=(L,P,C)):
 Calls prog 37 #[.agg #[.string s,.slice A n c],.slice B m d] w fun e w'=>∃A' c',e=.returned (.tuple #[.slice A' L.length c',.int .i64 (P:Int),.int .i64 (C:Int)])/\Own w w' 94 7 A' L.length c' (L.flatMap viewC):=by
 have hlen:=hb.length;have hO:=zaB fs bs;rw[hlen]at hO;have hS:zae fs bs=scan (lookV fs bs) ViewD.to m 0:=by unfold zae;rw[hlen]
 rw[hS]at h;have HO:=zsz hO;have HS:=zsz h;clear hlen hO hS h;have B0:=Ext.new_blk (Ext.refl (w.alloc (.cells #[.string s,.slice A n c] 77)));have hE0:Ext w (w.alloc (.cells #[.string s,.slice A n c] 77)):=xx
 go_enter func37,ntmps37
 go_wp2
 go_loopw [7,8] (fun u i wr=>∃(p:Nat)(A2:Option Addr)(c2:Nat)(l:List ViewD),p<=m/\i=.int .i64 p/\u=.slice A2 l.length c2/\Own (w.alloc (.cells #[.string s,.slice A n c] 77)) wr 94 7 A2 l.length c2 (l.flatMap viewC)/\
  l.length<=p/\Hid ((L,P,C)=pre l (scan (lookV fs bs) ViewD.to m p))) (fun _ i _=>m - (intOf i).toNat)
 case atStart=>exact⟨0,none,0,[],Nat.zero_le _,rfl,rfl,Own.nil (Ext.refl _) 94 7,Nat.zero_le _,by rw[zgG HO.out];exact HS.out.symm⟩
 case round=>
  obtain⟨p,A2,c2,l,hp,rfl,rfl,own,hlp,hA⟩:=hrel;have B1:=B0.up own.ext;have k0:wr.cell? ⟨w.heap.size,0,none⟩=some (.string s):=B1.cell 0;have k1:wr.cell? ⟨w.heap.size,1,none⟩=some (.slice A n c):=B1.cell 1;have kl:=B1.lt;clear B1;have hfw:=hf.up (hE0.trans own.ext);have hbw:=hb.up (hE0.trans own.ext);by_cases hm2:(p:Int)<m
  . rcases hv:lookV fs bs p with⟨v,D⟩
    by_cases hC:D=0
    . subst hC
      have h2:=HO.out p (by omega) (by rw[hv]);rw[hv]at h2;simp only at h2;have hsc:=zbE HO.out (show p<m by omega) hv;obtain⟨⟨rn,rw_,rf,ra,rt⟩,vf,vr⟩:=v;unfold ViewD.to at h2;simp only at h2;have Hv:=zsz hv;have Hsc:=zsz hsc;clear hv hsc
      go_wp2_with (first|(go_at_call 66;refine(zlk hfw (by omega) hbw (by omega) (by omega) Hv.out).mono ?_;rintro e w1 ⟨rfl,E1⟩;unfold viewV;have X_:Ext wr w1:=Ext.trans xx E1;replace own:=own.up X_;have hE:=X_;clear X_)|(at_builtin;refine zkK (cs:=viewC ⟨⟨rn,rw_,rf,ra,rt⟩,vf,vr⟩) zoF rfl (.tmp 26) (.tmp 28) rfl rfl (own.up xx) rfl (by first|rfl|simp) rfl (zkc _) (by omega) (by unfold maxLen;omega) ?_;intro A4 c4 w4 own4 g4;have k4:w4.cell? ⟨w1.heap.size,4,none⟩=some (.int .i64 (rt:Int)):=(zbp own g4 (Nat.le_refl _) (by simp<;>omega)).trans (by simp)))
      all_goals
       go_roundw
       case rel=>
        refine⟨rt,A4,c4,l++[⟨⟨rn,rw_,rf,ra,rt⟩,vf,vr⟩],by omega,rfl,zpG (by simp),by simpa using own4,by simp;omega,?_⟩;have e:=hA.out;rw[Hsc.out,zld]at e;exact e
       case measure=>simp[intOf];omega
    . have q:((D:Int) !=0)=true:=by simp;omega
      have hA':=hA.out;rw[zaR (show p<m by omega) hv hC,zmn _ hC]at hA';have Hv:=zsz hv;cases hA';clear hv
      go_wp2_with (first|(go_at_call 66;refine(zlk hfw (by omega) hbw (by omega) (by omega) Hv.out).mono ?_;rintro e w1 ⟨rfl,E1⟩;unfold viewV;have X_:Ext wr w1:=Ext.trans xx E1;replace own:=own.up X_;have hE:=X_;clear X_))
      go_ret3
      exact⟨none,0,rfl,Own.nil (hE0.trans (own.ext.trans xx)) 94 7⟩
  . have hA':=hA.out
    rw[zaE (by omega),zle]at hA';cases hA'
    go_wp2
    go_ret3
    exact⟨A2,c2,rfl,own.since hE0⟩
variable{k:Nat}
theorem Reads.view'{l:List ViewD}(h:Reads w A n c 7 (l.flatMap viewC))(hk:k<n):
 ∃b off v,A=some ⟨b,off,none⟩/\l[k]?=some v/\b<w.heap.size/\w.cell? ⟨b,off+k*7,none⟩=some (.int .i64 (v.r.n:Int))/\w.cell? ⟨b,off+k*7+1,none⟩=some (.int .i64 (v.r.w:Int))/\
  w.cell? ⟨b,off+k*7+2,none⟩=some (.int .i64 (v.r.f:Int))/\w.cell? ⟨b,off+k*7+3,none⟩=some (.int .i64 (v.r.a:Int))/\w.cell? ⟨b,off+k*7+4,none⟩=some (.int .i64 (v.r.t:Int))/\
  w.cell? ⟨b,off+k*7+5,none⟩=some (.int .i64 v.field)/\w.cell? ⟨b,off+k*7+6,none⟩=some (.bool v.run):=by
 obtain⟨b,off,r,e,hx,hb,hj⟩:=h.elem (size:=7) (fun _=>rfl) (by omega) hk;exact⟨b,off,r,e,hx,hb,hj 0 _ rfl,hj 1 _ rfl,hj 2 _ rfl,hj 3 _ rfl,hj 4 _ rfl,hj 5 _ rfl,hj 6 _ rfl⟩
variable{p:ViewD->Bool}{lb:Array Value}
theorem zra{l:List ViewD}{g:FuncId}(eg:∀args w,(callFunc g args).run prog w=.ok (.enter g args) w)(hb:Reads w A n c 7 (l.flatMap viewC))(hn:n<=1000000000000)(hp:∀(W:World)(f:ViewD),Ext w W->Calls prog g (#[viewV f]++lb) W fun e W'=>e=.returned (.bool (p f))/\Ext W W'):
 Calls prog 165 #[.slice A n c,.func (.func g) #[] lb] w fun e w'=>e=.returned (.int .i64 (idxB p l))/\Ext w w':=by
 have hl:l.length=n:=by have:=hb.len;rw[zby (size:=7) (fun _=>rfl)]at this;omega
 have Hl:=zsz hl;have Hp:=zsz hp;clear hl hp
 go_enter func165,ntmps165
 go_wp2
 go_loopw [5,8] (fun _ i wr=>∃k:Nat,k<=n/\i=.int .i64 k/\Ext w wr/\Hid (∀(j:Nat) y,j<k->l[j]?=some y->p y=false)) (fun _ i _=>n - (intOf i).toNat)
 case atStart=>exact⟨0,Nat.zero_le _,rfl,Ext.refl _,fun j y h=>absurd h (Nat.not_lt_zero j)⟩
 case round=>
  obtain⟨k,hk,rfl,hW,hN⟩:=hrel;by_cases hlt:k<n
  . have hlt2:(k:Int)<n:=by omega
    obtain⟨b,off,f,rfl,hf,hb1,c0,c1,c2,c3,c4,c5,c6⟩:=(hb.up hW).view' hlt;have Hf:=zsz hf;clear hf;rcases hq:p f with _|_
    . have hcall:=Hp.out wr f hW
      rw[hq]at hcall;unfold viewV at hcall;have Hc:=zsz hcall;have Hq:=zsz hq;clear hcall hq
      go_wp2_with (go_at_fn g;refine Hc.out.mono ?_;rintro e w1 ⟨rfl,E1⟩)
      go_roundw
      case rel=>
       refine⟨k+1,by omega,by go_num,hW.trans E1,fun j y hj hy=> ?_⟩;by_cases e:j=k
       . subst e
         have:=Hf.out.symm.trans hy;cases this;exact Hq.out
       . exact hN.out j y (by omega) hy
      case measure=>simp[intOf];omega
    . have hcall:=Hp.out wr f hW
      rw[hq]at hcall;unfold viewV at hcall;have Hc:=zsz hcall;have hi:=zcU Hf.out hq hN.out;have Hi:=zsz hi;clear hcall hq hi
      go_wp2_with (go_at_fn g;refine Hc.out.mono ?_;rintro e w1 ⟨rfl,E1⟩)
      go_ret
      exact⟨zbF Hi.out.symm,hW.trans E1⟩
  . have hk2:k=n:=by omega
    subst hk2;have hi:idxB p l= -1:=zee (fun j y hy=>hN.out j y (by have:=(List.getElem?_eq_some_iff.1 hy).1;have:=Hl.out;omega) hy);have Hi:=zsz hi;clear hi
    go_wp2
    go_ret
    exact⟨zbF Hi.out.symm,hW⟩
theorem zkd{α:Type}{f:α->List Value}{size:Nat}(hf:∀x,(f x).length=size):∀(l:List α)(k:Nat),(l.flatMap f).take (k*size)=(l.take k).flatMap f
 |[],k=>by simp
 |x::l,0=>by simp
 |x::l,k+1=>by
  rw[List.flatMap_cons,List.take_succ_cons,List.flatMap_cons,List.take_append,hf,Nat.succ_mul,Nat.add_sub_cancel,zkd hf l k,List.take_of_length_le (by rw[hf];omega)]
theorem zqb(X:List ViewD){i:Nat}(hi:i<X.length)(v:ViewD):
 (((((((X.flatMap viewC).set (i*7) (.int .i64 (v.r.n:Int))).set (i*7+1) (.int .i64 (v.r.w:Int))).set (i*7+2) (.int .i64 (v.r.f:Int))).set (i*7+3) (.int .i64 (v.r.a:Int))).set (i*7+4) (.int .i64 (v.r.t:Int))).set (i*7+5) (.int .i64 v.field)).set (i*7+6) (.bool v.run)=(X.set i v).flatMap viewC:=by
 have hsp:X=X.take i++X[i]::X.drop (i+1):=by rw[<-List.drop_eq_getElem_cons hi,List.take_append_drop]
 have hlt:(X.take i).length=i:=by rw[List.length_take];omega
 have hfl:((X.take i).flatMap viewC).length=i*7:=by rw[zby (size:=7) (fun _=>rfl),hlt]
 generalize hA:X.take i=A at*;generalize X[i]=x at*;generalize X.drop (i+1)=B at*;subst hsp;have hset:(A++x::B).set i v=A++v::B:=by rw[List.set_append_right _ _ (by omega),hlt];simp
 rw[hset];simp only[List.flatMap_append,List.flatMap_cons];generalize A.flatMap viewC=A' at*;rw[List.set_append_right _ _ (by omega),List.set_append_right _ _ (by omega),List.set_append_right _ _ (by omega),List.set_append_right _ _ (by omega),List.set_append_right _ _ (by omega),List.set_append_right _ _ (by omega),List.set_append_right _ _ (by omega),hfl];congr 1;simp[viewC]
theorem zqc(w:World):(zeroValue 183).run prog w=.ok (.agg #[.int .i64 0,.int .i64 0,.int .i64 0,.int .i64 0,.int .i64 0,.int .i64 0,.bool false]) w:=by kernel_rfl
theorem zoH(w:World)(b o n c:Nat)(hc:∀j,j<n*7->(w.cell? ⟨b,o+j,none⟩).isSome=true)(hf:∀j,j<n*7->w.frozen? ⟨b,o+j,none⟩=false):
 ∃vs,∀ty,(Builtin.clear_ #[179] ty #[.slice (some ⟨b,o,none⟩) n c]).run prog w=.ok (.tuple #[]) (w.setCells b o vs):=by
 refine ziU w _ _ _ underlying179 zqc (fun n v hv=> ?_) b o n c hc hf;simp only[Builtin.zeroCells,Array.toList_map,List.mem_map]at hv;obtain⟨i,_,rfl⟩:=hv;have:∀k,k<7->((Value.agg #[.int .i64 0,.int .i64 0,.int .i64 0,.int .i64 0,.int .i64 0,.int .i64 0,.bool false]).cells[k]!).oneCell'=true:=by decide
 exact this _ (Nat.mod_lt _ (by decide))
variable{α:Type}
theorem zhD{p:α->Bool}{l:List α}{x:α}(h:l[k]?=some x):(l.take (k+1)).filter p=(l.take k).filter p++(if p x=true then[x]else[]):=by
 rw[List.take_add_one,h,List.filter_append];congr 1;simp only[Option.toList_some,List.filter_cons,List.filter_nil]
theorem zjk{p:α->Bool}{l:List α}(h:∀(j:Nat) y,j<k->l[j]?=some y->p y=false):(l.take k).filter (fun x=> !p x)=l.take k:=by
 rw[List.filter_eq_self];intro x hx;obtain⟨j,hj,rfl⟩:=List.getElem_of_mem hx;rw[List.length_take]at hj;have:=h j _ (by omega) (by rw[List.getElem?_eq_getElem (by omega)]);rw[List.getElem_take,this];rfl
variable{w0:World}
theorem Own.there{e:TypeId}{size g:Nat}{xs:List Value}(h:Own w0 w e size (some ⟨g,0,none⟩) n c xs):(∀i,i<n*size->(w.cell? ⟨g,i,none⟩).isSome=true)/\∀i,w.frozen? ⟨g,i,none⟩=false:=by
 rcases h.row.2 with⟨hv,_⟩|⟨g',cap,cur,hv,hg,hh,hnc,hcm,hcs,ht⟩
 . cases hv
 . cases hv
   refine⟨fun i hi=> ?_,fun i=>by simp[World.frozen?,hh]⟩;have hlt:i<cur.size:=by rw[hcs];exact Nat.lt_of_lt_of_le hi (Nat.mul_le_mul_right _ hnc)
   simp[World.cell?,hh,hlt]
variable{f:FuncId}
theorem zrb{X:List ViewD}(eg:∀args w,(callFunc f args).run prog w=.ok (.enter f args) w)(own:Own w0 w 183 7 A n c (X.flatMap viewC))(hn:n<=1000000000)(hp:∀(g:Nat)(W:World)(v:ViewD),A=some ⟨g,0,none⟩->Only g w W->Calls prog f (#[viewV v]++lb) W fun e W'=>e=.returned (.bool (p v))/\Ext W W')(hp0:∀(W:World)(v:ViewD),Ext w W->Calls prog f (#[viewV v]++lb) W fun e W'=>e=.returned (.bool (p v))/\Ext W W'):
 Calls prog 150 #[.slice A n c,.func (.func f) #[] lb] w fun e w'=>∃A',e=.returned (.slice A' (X.filter fun v=> !p v).length c)/\Own w0 w' 183 7 A' (X.filter fun v=> !p v).length c ((X.filter fun v=> !p v).flatMap viewC):=by
 have hl:X.length=n:=by have:=own.reads.len;rw[zby (size:=7) (fun _=>rfl)]at this;omega
 have Hl:=zsz hl;have Hp:=zsz hp;have hix:=zra (p:=p) eg own.reads (by omega) hp0;obtain⟨I,hI⟩:∃I,I=idxB p X:=⟨_,rfl⟩
 rw[<-hI]at hix;have Hix:=zsz hix;rcases zaL p X with⟨i1,i2⟩|⟨k,x,i1,i2,i3,i4⟩
 . have hall:X.filter (fun v=> !p v)=X:=by
    rw[List.filter_eq_self];intro v hv;rw[i2 v hv];rfl
   rw[hall,hl];have hI1:I= -1:=by rw[hI,i1]
   subst hI1;clear hix hI i1 i2 hall hp hp0 hl Hp
   go_enter func150,ntmps150
   go_wp2_with (go_at_call 165;refine Hix.out.mono ?_;rintro e w1 ⟨rfl,E1⟩)
   go_ret
   exact⟨A,rfl,own.up E1⟩
 . have hkn:k<n:=by have:=(List.getElem?_eq_some_iff.1 i2).1;omega
   obtain⟨g,rfl⟩:∃g,A=some ⟨g,0,none⟩:=by
    rcases own.row.2 with⟨hv,h0⟩|⟨g,cap,cur,hv,_⟩
    . omega
    . cases hv;exact⟨g,rfl⟩
   have hbase:=own.base;have hI1:I=(k:Int):=by rw[hI,i1]
   subst hI1;have hq:((k:Int)== -1)=false:=by rw[beq_eq_false_iff_ne];omega
   have hfb:=zjk i4;have h2:=i2
   have hf2:(X.take (k+1)).filter (fun v=> !p v)=X.take k:=by
    rw[zhD h2,hfb,if_neg (by rw[i3];simp),List.append_nil]
   have Hf2:=zsz hf2;clear hix hI i1 i2 i3 i4 hfb h2 hf2 hp hp0 hl
   go_enter func150,ntmps150
   go_wp2_with (go_at_call 165;refine Hix.out.mono ?_;rintro e w1 ⟨rfl,E1⟩)
   go_loopw [5,6,7] (fun i j _ wr=>∃(iN jN:Nat)(Y:List ViewD),i=.int .i64 iN/\j=.int .i64 jN/\iN<jN/\jN<=n/\Own w0 wr 183 7 (some ⟨g,0,none⟩) n c (Y.flatMap viewC)/\Y.length=n/\
    Hid (Y.take iN=(X.take jN).filter (fun v=> !p v))/\Hid (Y.drop jN=X.drop jN)/\Only g w wr) (fun _ j _ _=>n - (intOf j).toNat)
   case atStart=>exact⟨k,k+1,X,rfl,by go_num,by omega,by omega,own.up E1,Hl.out,Hf2.out.symm,rfl,(Only.refl g w).ext E1⟩
   case round=>
    obtain⟨iN,jN,Y,rfl,rfl,hij,hj,ownY,hYl,hT,hD,hO⟩:=hrel;by_cases hlt:jN<n
    . obtain⟨b,off,v,hA,hv,hb1,c0,c1,c2,c3,c4,c5,c6⟩:=ownY.reads.view' hlt
      cases hA;have hlt2:(jN:Int)<n:=by omega
      have hXv:X[jN]?=some v:=by
       have h:=congrArg (fun l=>l[0]?) hD.out;simp only[List.getElem?_drop,Nat.add_zero]at h;rw[<-h];exact hv
      have htf:=zhD (p:=fun v=> !p v) hXv
      have hD2:Y.drop (jN+1)=X.drop (jN+1):=by
       have h:=congrArg (List.drop 1) hD.out;simpa[List.drop_drop] using h
      have hgw:=ownY.base;have hcall:=Hp.out g wr v rfl hO;have HD2:=zsz hD2;have HYl:=zsz hYl;have Hv:=zsz hv;simp only[Nat.zero_add]at c0 c1 c2 c3 c4 c5 c6;obtain⟨⟨vn,vw,vf,va,vt⟩,vfi,vr⟩:=v;simp only at c0 c1 c2 c3 c4 c5 c6;have hcall2:=fun W (h:Only g w W)=>Hp.out g W ⟨⟨vn,vw,vf,va,vt⟩,vfi,vr⟩ rfl h
      unfold viewV at hcall2;rcases hq2:p ⟨⟨vn,vw,vf,va,vt⟩,vfi,vr⟩with _|_
      . rw[hq2]at htf hcall2
        have Hc:=zsz hcall2;have Htf:=zsz htf;clear hcall hcall2 hq2 htf hD2 hv hXv hYl
        go_wp2_with (go_at_fn f;refine(Hc.out _ (hO.ext xx)).mono ?_;rintro e w2 ⟨rfl,E2⟩;have D2:=E2.new_blk;have y0:w2.cell? ⟨wr.heap.size,0,none⟩=some (.int .i64 (vn:Int)):=D2.cell 0;have y1:w2.cell? ⟨wr.heap.size,1,none⟩=some (.int .i64 (vw:Int)):=D2.cell 1;have y2:w2.cell? ⟨wr.heap.size,2,none⟩=some (.int .i64 (vf:Int)):=D2.cell 2;have y3:w2.cell? ⟨wr.heap.size,3,none⟩=some (.int .i64 (va:Int)):=D2.cell 3;have y4:w2.cell? ⟨wr.heap.size,4,none⟩=some (.int .i64 (vt:Int)):=D2.cell 4;have y5:w2.cell? ⟨wr.heap.size,5,none⟩=some (.int .i64 vfi):=D2.cell 5;have y6:w2.cell? ⟨wr.heap.size,6,none⟩=some (.bool vr):=D2.cell 6;clear D2;have own2:=ownY.up (Ext.trans xx E2);have hO2:=(hO.ext xx).ext E2;have fr:=own2.there.2;obtain⟨b',off',u,hA',hu,hb2,z0,z1,z2,z3,z4,z5,z6⟩:=own2.reads.view' (k:=iN) (by omega);cases hA';simp only[Nat.zero_add]at z0 z1 z2 z3 z4 z5 z6;have Hu:=zsz hu;clear hu)
        go_roundw
        case rel=>
         refine⟨iN+1,jN+1,Y.set iN ⟨⟨vn,vw,vf,va,vt⟩,vfi,vr⟩,by go_num,by go_num,by omega,by omega,?_,by rw[List.length_set];exact HYl.out,?_,?_,?_⟩
         . rw[<-zqb Y (by have:=HYl.out;omega)]
           exact((((((own2.put _ _).put _ _).put _ _).put _ _).put _ _).put _ _).put _ _
         . show _=_
           have hYi:iN<Y.length:=by have:=HYl.out;omega
           rw[Htf.out,<-hT.out,List.take_add_one,List.getElem?_set_self hYi,List.take_set_of_le (Nat.le_refl _)];simp
         . show _=_
           rw[List.drop_set_of_lt (by omega)];exact HD2.out
         . exact((((((hO2.set _ _).set _ _).set _ _).set _ _).set _ _).set _ _).set _ _
        case measure=>simp[intOf];omega
      . rw[hq2]at htf hcall2
        have Hc:=zsz hcall2;have Htf:=zsz htf;clear hcall hcall2 hq2 htf hD2 hv hXv hYl
        go_wp2_with (go_at_fn f;refine(Hc.out _ (hO.ext xx)).mono ?_;rintro e w2 ⟨rfl,E2⟩)
        go_roundw
        case rel=>
         refine⟨iN,jN+1,Y,rfl,by go_num,by omega,by omega,ownY.up (Ext.trans xx E2),HYl.out,?_,HD2.out,(hO.ext xx).ext E2⟩;show _=_;rw[Htf.out,hT.out];simp
        case measure=>simp[intOf];omega
    . have hjn:jN=n:=by omega
      subst hjn;have hTn:=hT.out;rw[show X.take jN=X from List.take_of_length_le (by rw[Hl.out];exact Nat.le_refl _)]at hTn;have hlen:(X.filter fun v=> !p v).length=iN:=by rw[<-hTn,List.length_take,hYl];omega
      have hth:=ownY.there;have Hlen:=zsz hlen;have HTn:=zsz hTn;have hci:¬c=iN:=by have:=ownY.reads.cap;omega
      obtain⟨vs,hcl⟩:=zoH wr g (iN*7) (jN - iN) (c - iN) (fun i hi=>hth.1 _ (by omega)) (fun i _=>hth.2 _);have hijI:(iN:Int)<=jN:=by omega
      have hcapI:(iN:Int)<=c:=by have:=ownY.reads.cap;omega
      clear hlen hTn hT hD
      go_wp2
      go_ret
      rw[Hlen.out,<-HTn.out];have hd:=ownY.head (k:=iN) (o:=iN*7) (by omega) (Nat.le_refl _) vs;refine⟨_,rfl,?_⟩;rw[zkd (size:=7) (fun _=>rfl)]at hd;exact hd
def Kept(w W:World):Prop:=∀p:Addr,p.block<w.heap.size->W.cell? p=w.cell? p
theorem Ext.kept{W:World}(h:Ext w W):Kept w W:=fun p hp=>h.cell hp
variable{q:ViewD->Bool}
theorem zoI(eg:∀args w,(callFunc f args).run prog w=.ok (.enter f args) w)(hc:w.cell? ⟨b,0,none⟩=some (.func (.func f) #[] lb))(hq:∀W:World,Ext w W->Calls prog f (#[viewV v]++lb) W fun e W'=>e=.returned (.bool (q v))/\Ext W W'):
 Calls prog 151 #[viewV v,.pointer (some ⟨b,0,none⟩)] w fun e w'=>e=.returned (.bool (!q v))/\Ext w w':=by
 have hb:=World.block_lt_of_cell? w _ hc;simp only at hb;unfold viewV at hq⊢;have Hq:=zsz hq;clear hq
 go_enter func151,ntmps151
 go_wp2_with (go_at_fn f;refine(Hq.out _ xx).mono ?_;rintro e w2 ⟨rfl,E2⟩)
 go_ret
 exact⟨rfl,Ext.trans xx E2⟩
theorem zrT(eg:∀args w,(callFunc f args).run prog w=.ok (.enter f args) w)(hf:zav w A n c fs)(hn:n<=1000000000000)(hb:zac w B m d bs)(hm:m<=1000000000)(h:zae fs bs=(L,P,C))(hq:∀(W:World)(v:ViewD),Kept w W->Calls prog f (#[viewV v]++lb) W fun e W'=>e=.returned (.bool (q v))/\Ext W W'):
 Calls prog 132 #[.agg #[.string s,.slice A n c],.slice B m d,.func (.func f) #[] lb] w fun e w'=>∃A' c',e=.returned (.slice A' (L.filter q).length c')/\Own w w' 183 7 A' (L.filter q).length c' ((L.filter q).flatMap viewC):=by
 have eg2:∀args w,(callFunc 151 args).run prog w=.ok (.enter 151 args) w:=enters_of func151 (by kernel_rfl) rfl;have hLm:L.length<=m:=by have:=(zdd fs bs).2.1;rw[h,hb.length]at this;exact this
 have hff:(L.filter fun v=> !(fun v=> !q v) v)=L.filter q:=by congr 1;funext v;simp
 have Hv:=zsz h;have Hq:=zsz hq;have Hff:=zsz hff;clear h hq hff
 go_enter func132,ntmps132
 go_wp2_with fail
 have hE0:Ext w ((w.alloc (.cells #[.string s,.slice A n c] 77)).alloc (.cells #[.func (.func f) #[] lb] 221)):=xx;have BM:=Ext.new_blk (Ext.refl ((w.alloc (.cells #[.string s,.slice A n c] 77)).alloc (.cells #[.func (.func f) #[] lb] 221)));refine(vAllV (hf.up hE0) hn (hb.up hE0) hm Hv.out).mono ?_;rintro e w1 ⟨A1,c1,rfl,own1⟩;have B1:=BM.up own1.ext;have hsz:=own1.ext.size;have hw0:((w.alloc (.cells #[.string s,.slice A n c] 77)).alloc (.cells #[.func (.func f) #[] lb] 221)).heap.size=w.heap.size+2:=by simp
 have hc1:w1.cell? ⟨w.heap.size+1,0,none⟩=some (.func (.func f) #[] lb):=by have:=B1.cell 0;simpa using this
 have hlt1:=B1.lt;rw[hw0]at hsz
 go_wp2_with fail
 refine(zrb (p:=fun v=> !q v) (lb:=#[.pointer (some ⟨w.heap.size+1,0,none⟩)]) eg2 (own1.since hE0) (by omega) ?_ ?_).mono ?_
 . rintro g W v rfl hO
   have hg:=own1.base.1;rw[hw0]at hg;refine zoI eg ((hO.cell (p:=⟨w.heap.size+1,0,none⟩) (by show w.heap.size+1<_;omega) (by show w.heap.size+1≠g;omega)).trans hc1) (fun W' hE=>Hq.out W' v (fun p hp=> ?_));have e1:W'.cell? p=W.cell? p:=hE.cell (Nat.lt_of_lt_of_le (by omega:p.block<w1.heap.size) hO.size);have e2:W.cell? p=w1.cell? p:=hO.cell (by omega) (by omega);have e3:w1.cell? p=w.cell? p:=(hE0.trans own1.ext).cell hp;rw[e1,e2,e3]
 . intro W v hE
   refine zoI eg (hE.of_cell hc1) (fun W' hE'=>Hq.out W' v ?_);exact((hE0.trans own1.ext).trans (hE.trans hE')).kept
 . rintro e w2 ⟨A2,rfl,own2⟩
   rw[Hff.out]at own2⊢
   go_wp2
   go_ret
   exact⟨A2,c1,rfl,own2⟩
theorem vOf1(hc:w.cell? ⟨b,0,none⟩=some (.int .i64 x)):
 Calls prog 133 #[viewV v,.pointer (some ⟨b,0,none⟩)] w fun e w'=>e=.returned (.bool ((v.r.n:Int)==x))/\Ext w w':=by
 have hb:=World.block_lt_of_cell? w _ hc;simp only at hb;unfold viewV
 go_enter func133,ntmps133
 go_wp2
 go_ret
 exact⟨rfl,xx⟩
def ofP(x:Int)(v:ViewD):Bool:=(v.r.n:Int)==x
theorem vOf(hf:zav w A n c fs)(hn:n<=1000000000000)(hb:zac w B m d bs)(hm:m<=1000000000)(h:zae fs bs=(L,P,C)):
 Calls prog 108 #[.agg #[.string s,.slice A n c],.slice B m d,.int .i64 x] w fun e w'=>∃A' c',e=.returned (.slice A' (L.filter (ofP x)).length c')/\Own w w' 183 7 A' (L.filter (ofP x)).length c' ((L.filter (ofP x)).flatMap viewC):=by
 have eg:∀args w,(callFunc 133 args).run prog w=.ok (.enter 133 args) w:=enters_of func133 (by kernel_rfl) rfl;have Hv:=zsz h;clear h
 go_enter func108,ntmps108
 go_wp2_with fail
 have hE0:Ext w ((w.alloc (.cells #[.string s,.slice A n c] 77)).alloc (.cells #[.int .i64 x] 3)):=xx;have BM:=Ext.new_blk (Ext.refl ((w.alloc (.cells #[.string s,.slice A n c] 77)).alloc (.cells #[.int .i64 x] 3)));refine(zrT (q:=ofP x) eg (hf.up hE0) hn (hb.up hE0) hm Hv.out ?_).mono ?_
 . intro W v hK
   refine vOf1 ?_;have:=hK ⟨w.heap.size+1,0,none⟩ (by simp);rw[this];have hb:=BM.cell 0;rw[show((w.alloc (.cells #[.string s,.slice A n c] 77))).heap.size=w.heap.size+1 by simp]at hb;exact hb
 . rintro e w2 ⟨A2,c2,rfl,own2⟩
   go_wp2
   go_ret
   exact⟨A2,c2,rfl,own2.since hE0⟩
theorem zbI(l:List zab)(bs:List UInt8):∀v∈(zae l bs).1,nextV bs v.r.f=(v.r,0)/\seenV l v.r=(v,0):=
 zmo (zaB l bs) (fun p x hp h=>by
  have h2:=zbW h;refine⟨?_,h2.2⟩;rw[(zci h2.1).2.1]
  exact h2.1) bs.length 0 (by omega)
theorem zcc(hb:zac w A n c bs){l:Nat}(hl:l<=m)(hm:m<=n):
 ∃A',(∀W:World,(Instr.slice 24 (.slice A n c) (some (.int .i64 (l:Int))) (some (.int .i64 (m:Int))) none).run prog W=.ok (.slice A' (m - l) (c - l)) W)/\zac w A' (m - l) (c - l) (spanB bs l m):=by
 obtain⟨A',h1,h2⟩:=ziT elemB hb .i64 .i64 hl hm;exact⟨A',h1,by simpa[zac,spanB,List.map_drop,List.map_take] using h2⟩
theorem zqD:Elem prog 31 24 1 24:=Elem.mk' (z:=.slice none 0 0) underlying31 (by kernel_rfl) rfl (by omega)
end Go.Proofs.YtpicpebolghcfaaGreatDoor
namespace Go.Proofs.YtpicpebolghcfaaGreatDoor
open Go.RowKit Go.Lib Tryz
section
variable {α:Type} {s1 s2:Nat->α×Nat} {tt:α->Nat} {n m:Nat}
theorem zns(hO1:zcN s1 tt n)(hO2:zcN s2 tt m)(hnm:n<=m)(hl:∀p x,p<n->s1 p=(x,0)->s2 p=(x,0)):∀(k p:Nat),n - p<=k->p<=n->(scan s1 tt n p).2.2=0->
 scan s2 tt m p=pre (scan s1 tt n p).1 (scan s2 tt m n):=by
 intro k
 induction k with
 |zero=>
  intro p hk hp h0;obtain rfl:p=n:=by omega
  rw[zaE (step:=s1) (Nat.le_refl _),zgG hO2]
 |succ k ih=>
  intro p hk hp h0;by_cases he:p=n
  . subst he
    rw[zaE (step:=s1) (Nat.le_refl _),zgG hO2]
  . rcases hs:s1 p with⟨r,C⟩
    have hlt:p<n:=by omega
    by_cases hC:C=0
    . subst hC
      have h1:=hO1 p hlt (by rw[hs]);rw[hs]at h1;simp only at h1;have hok:=zbE hO1 hlt hs;have hok2:=zbE hO2 (p:=p) (by omega) (hl p r hlt hs);rw[hok]at h0
      have h00:(scan s1 tt n (tt r)).2.2=0:=by
       unfold pre at h0;by_cases h:(scan s1 tt n (tt r)).2.2=0
       . exact h
       . rw[if_neg h]at h0;exact h0
      rw[hok,hok2,ih (tt r) (by omega) h1.2 h00,zld];unfold pre;rw[if_pos h00]
    . rw[zaR hlt hs hC]at h0
      exact absurd h0 hC
theorem zll{sh:α->α}{k:Nat}(hO1:zcN s1 tt n)(hO2:zcN s2 tt (k+n))(hto:∀p x,p<n->s1 p=(x,0)->tt (sh x)=k+tt x)(hr:∀q,q<n->(s2 (k+q)).2=(s1 q).2/\((s1 q).2=0->(s2 (k+q)).1=sh (s1 q).1)):∀(j q:Nat),n - q<=j->q<=n->
 scan s2 tt (k+n) (k+q)=((scan s1 tt n q).1.map sh,(if(scan s1 tt n q).2.2=0 then 0 else k+(scan s1 tt n q).2.1),(scan s1 tt n q).2.2):=by
 intro j
 induction j with
 |zero=>
  intro q hj hq;rw[zaE (by omega),zaE (by omega)];rfl
 |succ j ih=>
  intro q hj hq;by_cases he:q=n
  . subst he
    rw[zaE (by omega),zaE (by omega)];rfl
  . rcases hs:s1 q with⟨r,C⟩
    have hlt:q<n:=by omega
    obtain⟨r1,r2⟩:=hr q hlt;rw[hs]at r1 r2;simp only at r1 r2;by_cases hC:C=0
    . subst hC
      have h1:=hO1 q hlt (by rw[hs]);rw[hs]at h1;simp only at h1;have hs2:s2 (k+q)=(sh r,0):=by rw[<-r2 rfl,<-r1]
      have hok:=zbE hO1 hlt hs;have hok2:=zbE hO2 (p:=k+q) (by omega) hs2;rw[hok,hok2];have:=ih (tt r) (by omega) h1.2;rw[hto q r hlt hs,this];unfold pre;by_cases h0:(scan s1 tt n (tt r)).2.2=0
      . simp[h0]
      . simp[h0]
    . have hs2:s2 (k+q)=((s2 (k+q)).1,C):=by rw[<-r1]
      rw[zaR hlt hs hC,zaR (by omega) hs2 hC];simp[hC]
end
variable{m:Nat}{bs:List UInt8}
theorem zdq{W N:Nat}(h:readV bs=(W,N,0))(hm:N<=m):readV (bs.take m)=(W,N,0):=by
 have h1:=zdo (zno h) ((bs.take m).drop N);have:bs.take N=(bs.take m).take N:=by rw[List.take_take,Nat.min_eq_left hm]
 rwa[this,List.take_append_drop]at h1
variable{V:Nat}
theorem zke{D:List UInt8}{a g:Nat}(h:sizeV V D=(a,g,0))(hm:a+g<=m):sizeV V (D.take m)=(a,g,0):=by
 unfold sizeV at h⊢;by_cases h0:V=0
 . rw[if_pos h0]at h⊢
   simp only[Prod.mk.injEq]at h;obtain⟨rfl,h2,h3⟩:=h;rcases hr:readV D with⟨W,N,C⟩
   rw[hr]at h2 h3;simp only at h2 h3;subst h2 h3;rw[zdq hr (by omega)]
 . rw[if_neg h0]at h⊢
   by_cases h1:V=1
   . rw[if_pos h1]at h⊢
     exact h
   . rw[if_neg h1]at h⊢
     by_cases h5:V=5
     . rw[if_pos h5]at h⊢
       exact h
     . rw[if_neg h5]at h⊢
       rcases hr:readV D with⟨W,N,C⟩
       rw[hr]at h;simp only[Prod.mk.injEq]at h;obtain⟨h1,h2,h3⟩:=h;subst h1 h2 h3;rw[zdq hr (by omega)]
variable{T:Nat}
theorem zei{a t:Nat}(h:headV bs=(T,V,a,t,0))(hm:t<=m):headV (bs.take m)=(T,V,a,t,0):=by
 rcases zdf bs with⟨C,h1,h2,_⟩|⟨T',V',N,a',g,h1,h2,h3,h4,h5⟩
 . rw[h1]at h;simp only[Prod.mk.injEq]at h;exact absurd h.2.2.2.2 h2
 . rw[h5]at h
   simp only[Prod.mk.injEq,and_true]at h;obtain⟨rfl,rfl,rfl,rfl⟩:=h;obtain⟨W,w1,w2,w3,w4⟩:=zjh h1
   have ht:tagV (bs.take m)=(T',V',N,0):=by
    have:=zji (zdq w1 (m:=m) (by omega)) (by rw[w2,w3];exact w4)
    rwa[w2,w3]at this
   refine zcz ht ?_ (by rw[List.length_take];omega);rw[List.drop_take];exact zke h2 (by omega)
def ViewD.shift(k:Nat)(v:ViewD):ViewD:=⟨v.r.shift k,v.field,v.run⟩
variable{r:Rec}{l:List zab}
theorem zlm(k:Nat):(seenV l (r.shift k)).2=(seenV l r).2/\((seenV l r).2=0->(seenV l (r.shift k)).1=(seenV l r).1.shift k):=by
 have hn:(r.shift k).n=r.n:=rfl;have hw:(r.shift k).w=r.w:=rfl;rcases zaL (numP (r.n:Int)) l with⟨h1,_⟩|⟨j,f,h1,h2,h3,_⟩
 . rw[zbL h1,zbL (r:=r.shift k) (by rw[hn];exact h1)]
   exact⟨rfl,fun _=>rfl⟩
 . rw[zbD h1 h2,zbD (r:=r.shift k) (by rw[hn];exact h1) h2,hw]
   split
   . exact⟨rfl,fun _=>rfl⟩
   . split
     . exact⟨rfl,fun _=>rfl⟩
     . exact⟨rfl,fun h=>by simp at h⟩
theorem zln(l:List zab)(a b:List UInt8)(q:Nat):(lookV l (a++b) (a.length+q)).2=(lookV l b q).2/\((lookV l b q).2=0->(lookV l (a++b) (a.length+q)).1=(lookV l b q).1.shift a.length):=by
 unfold lookV;rw[zlf];simp only;by_cases h:(nextV b q).2=0
 . rw[if_pos h,if_pos h,if_pos h]
   exact zlm _
 . rw[if_neg h,if_neg h]
   exact⟨rfl,fun h0=>absurd h0 h⟩
variable{v:ViewD}{a:List UInt8}
theorem znt{p:Nat}(hp:p<a.length)(h:lookV l a p=(v,0))(b:List UInt8):lookV l (a++b) p=(v,0):=by
 obtain⟨h1,h2⟩:=zbW h;unfold lookV;rw[znp hp h1 b,if_pos rfl];exact h2
theorem zbM{b:List UInt8}(h:(zae l a).2.2=0):
 zae l (a++b)=if(zae l b).2.2=0 then((zae l a).1++(zae l b).1.map (ViewD.shift a.length),0,0)else([],a.length+(zae l b).2.1,(zae l b).2.2):=by
 have hO:=zaB l (a++b);have hr:=zll (sh:=ViewD.shift a.length) (k:=a.length) (zaB l b) (by rw[<-List.length_append];exact hO) (fun p x _ _=>by unfold ViewD.to ViewD.shift Rec.shift;simp only;omega) (fun q _=>zln l a b q) b.length 0 (by omega) (by omega);rw[Nat.add_zero,<-List.length_append]at hr;unfold zae at h⊢;rw[zns (zaB l a) hO (by rw[List.length_append];omega) (fun p x hp h=>znt hp h b) a.length 0 (by omega) (by omega) h,hr];unfold pre;by_cases h0:(scan (lookV l b) ViewD.to b.length 0).2.2=0
 . simp[h0]
 . simp[h0]
theorem zaZ(l:List zab):zae l []=([],0,0):=zaE (Nat.le_refl _)
theorem zeD{c:List UInt8}{a:Nat}(h:headV c=(T,V,a,c.length,0))(hs:seenV l ⟨T,V,0,a,c.length⟩=(v,0)):zae l c=([v],0,0):=by
 have hb:=zmq h;have hn:nextV c 0=(⟨T,V,0,a,c.length⟩,0):=by unfold nextV;rw[List.drop_zero,h];simp[zcb]
 have hl:lookV l c 0=(v,0):=by unfold lookV;rw[hn,if_pos rfl];exact hs
 have hv:=zml hs;unfold zae;rw[zbE (zaB l c) (by omega) hl,show v.to=c.length by unfold ViewD.to;rw[hv],zaE (Nat.le_refl _),zle]
theorem zkf(h:nextV bs r.f=(r,0)):headV (spanB bs r.f r.t)=(r.n,r.w,r.a - r.f,(spanB bs r.f r.t).length,0):=by
 obtain⟨h1,hf,h2,h3,h4⟩:=zci h;have hl:=zax bs (a:=r.f) (t:=r.t) h4;have:=zei h1 (Nat.le_refl _);rw[<-List.drop_take]at this;rw[hl];exact this
def LinkV:Nat->List ViewD->Nat->Prop
 |p,[],q=>p=q
 |p,v::L,q=>v.r.f=p/\v.r.f<=v.r.t/\LinkV v.r.t L q
theorem LinkV.le:∀{L:List ViewD}{p q:Nat},LinkV p L q->p<=q
 |[],_,_,h=>Nat.le_of_eq h
 |v::L,p,q,h=>by have:=LinkV.le h.2.2;have:=h.1;have:=h.2.1;omega
theorem zhE(l:List zab)(bs:List UInt8):∀(m p:Nat),bs.length - p<=m->p<=bs.length->(scan (lookV l bs) ViewD.to bs.length p).2.2=0->LinkV p (scan (lookV l bs) ViewD.to bs.length p).1 bs.length:=by
 intro m
 induction m with
 |zero=>
  intro p hm hp h0;rw[zaE (by omega)];show p=bs.length;omega
 |succ m ih=>
  intro p hm hp h0;by_cases he:p=bs.length
  . rw[zaE (by omega)]
    exact he
  . rcases hs:lookV l bs p with⟨v,C⟩
    have hlt:p<bs.length:=by omega
    by_cases hC:C=0
    . subst hC
      have h1:=zaB l bs p hlt (by rw[hs]);rw[hs]at h1;simp only at h1;have hn:=zci (zbW hs).1;have hok:=zbE (zaB l bs) hlt hs;rw[hok]at h0⊢
      have h00:(scan (lookV l bs) ViewD.to bs.length v.to).2.2=0:=by
       unfold pre at h0;by_cases h:(scan (lookV l bs) ViewD.to bs.length v.to).2.2=0
       . exact h
       . rw[if_neg h]at h0;exact h0
      have:=ih v.to (by omega) h1.2 h00;unfold pre;rw[if_pos h00];exact⟨hn.2.1,by omega,this⟩
    . rw[zaR hlt hs hC]at h0
      exact absurd h0 hC
theorem zbm{α:Type}{p:α->Bool}{l:List α}:(idxB p l= -1->l.find? p=none)/\∀(k:Nat) x,idxB p l=(k:Nat)->l[k]?=some x->l.find? p=some x:=by
 constructor
 . intro h
   rcases zaL p l with⟨_,h2⟩|⟨k,x,h1,_⟩
   . rw[List.find?_eq_none];intro x hx;rw[h2 x hx];simp
   . rw[h]at h1;omega
 . intro k x h hx
   rcases zaL p l with⟨h1,_⟩|⟨k',x',h1,h2,h3,h4⟩
   . rw[h1]at h;omega
   . rw[h]at h1
     obtain rfl:k=k':=by omega
     rw[hx]at h2;cases h2
     have aux:∀(l:List α)(k:Nat),l[k]?=some x->(∀(j:Nat) y,j<k->l[j]?=some y->p y=false)->l.find? p=some x:=by
      intro l
      induction l with
      |nil=>intro k hk;simp at hk
      |cons a r ih=>
       intro k hk hj
       cases k with
       |zero=>
        simp only[List.getElem?_cons_zero,Option.some.injEq]at hk;subst hk;exact List.find?_cons_of_pos h3
       |succ k=>
        rw[List.find?_cons_of_neg (by rw[hj 0 a (by omega) rfl];simp)];exact ih k hk (fun j y h1 h2=>hj (j+1) y (by omega) h2)
     exact aux l k hx h4
theorem zdE(l:List zab)(r:Rec):(l.find? (numP (r.n:Int))=none/\seenV l r=(⟨r, -1,false⟩,0))\/∃k f,l.find? (numP (r.n:Int))=some f/\l[k]?=some f/\numP (r.n:Int) f=true/\idxB (numP (r.n:Int)) l=(k:Nat)/\
 seenV l r=if(f.rep&&zaf f.kind&&r.w==2)=true then(⟨r,(k:Int),true⟩,0)else if kindB f.kind=true/\wireI f.kind=(r.w:Int)then(⟨r,(k:Int),false⟩,0)else(ViewD.zero,6):=by
 rcases zaL (numP (r.n:Int)) l with⟨h1,_⟩|⟨k,f,h1,h2,h3,_⟩
 . exact .inl ⟨zbm.1 h1,zbL h1⟩
 . exact .inr ⟨k,f,zbm.2 k f h1 h2,h2,h3,h1,zbD h1 h2⟩
end Go.Proofs.YtpicpebolghcfaaGreatDoor
