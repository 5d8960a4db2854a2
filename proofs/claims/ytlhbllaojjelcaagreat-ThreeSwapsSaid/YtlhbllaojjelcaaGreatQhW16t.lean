/- Contracts of layer 26: the chapter's example. -/
import Derived.Test.YtlhbllaojjelcaaGreatQhW63

set_option linter.unusedVariables false
set_option maxRecDepth 100000
namespace Go.Proofs.YtlhbllaojjelcaaGreat
open Go.RowKit Go.Shelf Go.Proofs.Tryz
def exS:List MsgD:=[⟨⟨#[109]⟩,[⟨⟨#[97]⟩,1,3,false,false,0⟩]⟩]
def exV(n:Nat):MsgT:=.mk () () [⟨(),(),(),1,[n],[],[]⟩] []
def exN:MsgT:=.mk () () [] []
theorem zjl:meanB exS 0 [8,1]=exV 1/\meanB exS 0 [8,2]=exV 2/\meanB exS 0 []=exN:=⟨by kernel_rfl,by kernel_rfl,by kernel_rfl⟩
theorem zgI:(zar exS 0 [8,1] 0).2=0/\(zar exS 0 [8,2] 0).2=0/\(zar exS 0 [] 0).2=0/\zan exS=true:=by
 refine⟨?_,?_,?_,?_⟩<;>decide+kernel
theorem zps:sortK (keyF [⟨⟨#[97]⟩,1,3,false,false,0⟩]) 1=[0]:=by decide+kernel
theorem zmf:(zaH exS 0 0 [8,1] [8,2] []).2=[[1]]:=by
 obtain⟨m1,m2,m3⟩:=zjl;unfold zaH;rw[show((0:Int).toNat)=0 from rfl,m1,m2,m3]
 have h:zcg exS 0 0 (exV 1) (exV 2) exN []=(.mk () () ((sortK (keyF [⟨⟨#[97]⟩,1,3,false,false,0⟩]) 1).filterMap fun i=>(zbh (fun _ _ _ _ _=>(.mk () () [] [],[])) [⟨⟨#[97]⟩,1,3,false,false,0⟩] (exV 1) (exV 2) exN [] i).1) (unkT (exV 1) (exV 2) exN []).1,
  ((sortK (keyF [⟨⟨#[97]⟩,1,3,false,false,0⟩]) 1).flatMap fun i=>(zbh (fun _ _ _ _ _=>(.mk () () [] [],[])) [⟨⟨#[97]⟩,1,3,false,false,0⟩] (exV 1) (exV 2) exN [] i).2)++(unkT (exV 1) (exV 2) exN []).2):=rfl
 rw[h,zps]
 have hp:zbh (fun _ _ _ _ _=>(.mk () () [] [],[])) [⟨⟨#[97]⟩,1,3,false,false,0⟩] (exV 1) (exV 2) exN [] 0=(some ⟨(),(),(),1,[2],[],[]⟩,[[1]]):=by
  show zav (fun _ _ _ _ _=>(.mk () () [] [],[])) (⟨⟨#[97]⟩,1,3,false,false,0⟩:zaa) (some ⟨(),(),(),1,[1],[],[]⟩) (some ⟨(),(),(),1,[2],[],[]⟩) none [1]=_;rw[zbD (by simp) (by simp) (by simp) (fun q=>absurd q.1 (by decide))]
 have hu:(unkT (exV 1) (exV 2) exN []).2=[]:=by
  unfold unkT;rw[if_pos (.inl rfl)]
 rw[hu,List.flatMap_cons,List.flatMap_nil,hp];rfl
theorem zpt:zaE exS 0 0 (exV 2):=by
 have:=zhY (S:=exS) (d:=0) (m:=0) (bs:=[8,2]) zgI.2.2.2 (by decide) (by decide+kernel) (by decide)
 rwa[zjl.2.1]at this
theorem zqb:zaH exS 0 0 [8,1] [8,1] [8,2]=(exV 2,[]):=by
 obtain⟨m1,m2,m3⟩:=zjl;unfold zaH;rw[show((0:Int).toNat)=0 from rfl,m1,m2];exact zfB zgI.2.2.2 zpt (.inl rfl) []
theorem zoi:zbm exS 0 0 [8,1] [8,2] []=14/\zbn exS 0 0 [8,1] [8,2] []=[[1]]:=by
 obtain⟨c1,c2,c3,_⟩:=zgI
 have hc:zaV exS 0 [8,1] [8,2] [] 0=0:=by
  unfold zaV;rw[if_neg (fun q=>q c1),if_neg (fun q=>q c2),c3]
 constructor
 . unfold zbm
   rw[if_neg (fun q=>q hc),if_neg (by rw[zmf];simp)]
 . unfold zbn
   rw[if_pos hc,zmf]
theorem zoj:zbm exS 0 0 [8,1] [8,1] [8,2]=0/\zbn exS 0 0 [8,1] [8,1] [8,2]=[]/\zbs exS 0 0 [8,1] [8,1] [8,2]=[8,2]:=by
 obtain⟨c1,c2,c3,_⟩:=zgI
 have hc:zaV exS 0 [8,1] [8,1] [8,2] 0=0:=by
  unfold zaV;rw[if_neg (fun q=>q c1),if_neg (fun q=>q c1),c2]
 have h2:(zaH exS 0 0 [8,1] [8,1] [8,2]).2=[]:=by rw[zqb]
 refine⟨?_,?_,?_⟩
 . unfold zbm
   rw[if_neg (fun q=>q hc),if_pos h2]
 . unfold zbn
   rw[if_pos hc,h2]
 . unfold zbs
   rw[if_pos ⟨hc,h2⟩];unfold zbr;rw[zqb]
   kernel_rfl
theorem zjm(w:World):Calls prog 6 #[] w fun e w'=>e=.returned (.bool true)/\Ext w w':=by
 have hs:=zmW (w:=w) (nm:=⟨#[109]⟩) (f:=⟨⟨#[97]⟩,1,3,false,false,0⟩) (by constructor<;>decide) (by decide);obtain⟨e1,e2⟩:=zoi;obtain⟨e3,e4,e5⟩:=zoj;have h1:=fun(W:World)(A:Option Addr)(n c:Nat)(A':Option Addr)(n' c':Nat)(h:zaj W A n c [⟨⟨⟨#[109]⟩,[⟨⟨#[97]⟩,1,3,false,false,0⟩]⟩,A',n',c'⟩])(B C:Option Addr)(ha:zab W B 2 2 [8,1])(hb:zab W C 2 2 [8,2])=>zeG (root:=0) (d:=0) h ha hb (zdy W) (by decide) (by decide) (by decide)
 have h2:=fun(W:World)(A:Option Addr)(n c:Nat)(A':Option Addr)(n' c':Nat)(h:zaj W A n c [⟨⟨⟨#[109]⟩,[⟨⟨#[97]⟩,1,3,false,false,0⟩]⟩,A',n',c'⟩])(B C D:Option Addr)(ha:zab W B 2 2 [8,1])(hb:zab W C 2 2 [8,1])(hc:zab W D 2 2 [8,2])=>zeG (root:=0) (d:=0) h ha hb hc (by decide) (by decide) (by decide)
 simp only[List.map_cons,List.map_nil]at h1 h2;unfold exS at e1 e2 e3 e4 e5;simp only[e1,e2]at h1;simp only[e3,e4,e5]at h2;have Hs:=zsp hs;have H1:=zsp h1;have H2:=zsp h2;clear hs h1 h2 e1 e2 e3 e4 e5
 go_enter func6,ntmps6
 go_wp2_with fail
 have b1:=(zdv ((w.alloc (.cells #[.string ⟨#[97]⟩,.int .i64 1,.int .i64 3,.bool false,.bool false,.int .i64 0] 61)).alloc (.cells #[.string ⟨#[109]⟩,.slice (some ⟨w.heap.size,0,none⟩) 1 1] 64)) 5 [.int .u8 8,.int .u8 1] [8,1] 2 (b:=w.heap.size+2) (by simp) (by simp[bv]) rfl (by simp[maxLen])).ext ((Ext.refl _).alloc (.cells #[.int .u8 8,.int .u8 2] 5));have b2:=zdv (((w.alloc (.cells #[.string ⟨#[97]⟩,.int .i64 1,.int .i64 3,.bool false,.bool false,.int .i64 0] 61)).alloc (.cells #[.string ⟨#[109]⟩,.slice (some ⟨w.heap.size,0,none⟩) 1 1] 64)).alloc (.cells #[.int .u8 8,.int .u8 1] 5)) 5 [.int .u8 8,.int .u8 2] [8,2] 2 (b:=w.heap.size+3) (by simp) (by simp[bv]) rfl (by simp[maxLen]);refine(H1.out _ _ _ _ _ _ _ (Hs.out.up (((Ext.refl _).alloc _).alloc _)) _ _ b1 b2).mono ?_;rintro e w1 ⟨A',n',c',A4,n4,c4,l4,rfl,q1,q2,q3,q4,E1⟩;have X1:Ext ((w.alloc (.cells #[.string ⟨#[97]⟩,.int .i64 1,.int .i64 3,.bool false,.bool false,.int .i64 0] 61)).alloc (.cells #[.string ⟨#[109]⟩,.slice (some ⟨w.heap.size,0,none⟩) 1 1] 64)) w1:=(((Ext.refl _).alloc _).alloc _).trans E1;have XW:Ext w w1:=(((Ext.refl w).alloc _).alloc _).trans X1;have s1:=Hs.out.up X1
 have hn4:n4=1:=by
  have h1:=q3.length;have h2:=congrArg List.length q4.out;rw[List.length_map]at h2;exact h1.symm.trans h2
 subst hn4;have S1:=zsp s1;have HXW:=zsp XW;clear b1 b2 q1 q2 q3 q4 s1 Hs H1
 go_wp2_with fail
 have b3:=((zdv w1 5 [.int .u8 8,.int .u8 1] [8,1] 2 (b:=w1.heap.size) rfl (by simp[bv]) rfl (by simp[maxLen])).ext ((Ext.refl _).alloc (.cells #[.int .u8 8,.int .u8 1] 5))).ext ((Ext.refl _).alloc (.cells #[.int .u8 8,.int .u8 2] 5));have b4:=(zdv (w1.alloc (.cells #[.int .u8 8,.int .u8 1] 5)) 5 [.int .u8 8,.int .u8 1] [8,1] 2 (b:=w1.heap.size+1) (by simp) (by simp[bv]) rfl (by simp[maxLen])).ext ((Ext.refl _).alloc (.cells #[.int .u8 8,.int .u8 2] 5));have b5:=zdv ((w1.alloc (.cells #[.int .u8 8,.int .u8 1] 5)).alloc (.cells #[.int .u8 8,.int .u8 1] 5)) 5 [.int .u8 8,.int .u8 2] [8,2] 2 (b:=w1.heap.size+2) (by simp) (by simp[bv]) rfl (by simp[maxLen]);refine(H2.out _ _ _ _ _ _ _ (S1.out.up ((((Ext.refl _).alloc _).alloc _).alloc _)) _ _ _ b3 b4 b5).mono ?_;rintro e w2 ⟨A5,n5,c5,A6,n6,c6,l6,rfl,q1,q2,q3,q4,E2⟩;have X2:Ext w1 w2:=((((Ext.refl _).alloc _).alloc _).alloc _).trans E2
 have hn6:n6=0:=by
  have h1:=q3.length;have h2:=congrArg List.length q4.out;rw[List.length_map]at h2;exact h1.symm.trans h2
 subst hn6;obtain rfl:n5=2:=q2.out;have Q1:=zsp q1;clear b3 b4 b5 q1 q2 q3 q4
 go_wp2_with fail
 refine(same (xs:=[8,2]) (ys:=[8,2]) (Q1.out.ext xx) (zdv _ _ _ [8,2] 2 (by simp) (by simp[bv]) rfl (by simp[maxLen]))).mono ?_;rintro e w3 ⟨rfl,rfl⟩
 go_wp2
 go_ret
 exact⟨rfl,(HXW.out.trans X2).alloc _⟩
end Go.Proofs.YtlhbllaojjelcaaGreat
