/- Contracts of layer 14: the same meanings. -/
import Derived.Test.YtlhbllaojjelcaaGreatQhM14

set_option linter.unusedVariables false
set_option maxRecDepth 100000
set_option maxHeartbeats 2000000
namespace Go.Proofs.YtlhbllaojjelcaaGreat
open Go.RowKit Tryz
noncomputable def eqB(p:Prop):Bool:= @decide p (Classical.propDecidable p)
variable{p:Prop}
theorem zbQ(h:p):eqB p=true:=by unfold eqB;exact @decide_eq_true p (Classical.propDecidable p) h
theorem zaC(h:¬p):eqB p=false:=by unfold eqB;exact @decide_eq_false p (Classical.propDecidable p) h
theorem zdI{q:Prop}(h:p<->q):eqB p=eqB q:=by
 by_cases c:p
 . rw[zbQ c,zbQ (h.1 c)]
 . rw[zaC c,zaC (fun d=>c (h.2 d))]
variable{l:List Nat}{w:World}
theorem zmb{A:Option Addr}{n c k:Nat}(h:Reads w A n c 1 (l.map uv))(hk:k<n):
 ∃b off x,A=some ⟨b,off,none⟩/\l[k]?=some x/\b<w.heap.size/\w.cell? ⟨b,off+k,none⟩=some (.int .u64 (x:Int)):=by
 obtain⟨b,off,e,hb,hc⟩:=h.at_ (by omega);have hl:l.length=n:=by have:=h.len;simpa using this
 have hx:l[k]?=some (l[k]'(by omega)):=List.getElem?_eq_getElem (by omega);exact⟨b,off,_,e,hx,hb,hc k _ (by rw[List.getElem?_map,hx];rfl)⟩
variable{A B:Sl}
theorem zkh{l k:List ByteArray}(ha:zbG w A l)(hb:zbG w B k):
 Calls prog 57 #[.slice A.1 l.length A.2,.slice B.1 k.length B.2] w fun e w'=>e=.returned (.bool (decide (l=k)))/\Ext w w':=by
 have hmax:=ha.at_.max;have hcap:=ha.at_.cap;unfold maxLen at hmax;generalize hx:l.length=n at*;generalize hy:k.length=m at*;by_cases hnm:n=m
 . subst hnm
   have q1:((n:Int) !=(n:Int))=false:=by simp
   go_enter func57,ntmps57
   go_wp2
   go_loopw [5,13] (fun _ i wr=>∃j:Nat,j<=n/\i=.int .i64 j/\Ext w wr/\Hid (l.take j=k.take j)) (fun _ i _=>n - (intOf i).toNat)
   case atStart=>exact⟨0,Nat.zero_le _,rfl,Ext.refl _,rfl⟩
   case round=>
    obtain⟨j,hj,rfl,hE,hT⟩:=hrel;by_cases hlt:j<n
    . obtain⟨b1,off1,f1,hA,h1,hb1,_,d0⟩:=(ha.up hE).text (k:=j) (by omega)
      obtain⟨b2,off2,f2,hB,h2,hb2,_,e0⟩:=(hb.up hE).text (k:=j) (by omega);rw[hA,hB];have hltI:(j:Int)<n:=by omega
      have H1:=zsp h1;have H2:=zsp h2;have Hx:=zsp hx;have Hy:=zsp hy;by_cases hf:f1=f2
      . have q2:(f1.toList==f2.toList)=true:=by rw[zmp];exact decide_eq_true hf
        have Hf:=zsp hf;clear h1 h2 hf hx hy
        go_wp2
        go_quiet (fail)
        go_wp2
        go_roundw
        case rel=>exact⟨j+1,by omega,by go_num,hE.trans xx,by show _=_;rw[zap _ _ _ H1.out,zap _ _ _ H2.out,hT.out,Hf.out]⟩
        case measure=>simp[intOf];omega
      . have q2:=zsf hf
        have Hf:=zsp hf;clear h1 h2 hf hx hy
        go_wp2
        go_quiet (fail)
        go_wp2
        go_ret
        refine⟨zag (decide_eq_false ?_).symm,hE.trans xx⟩;rintro rfl;have:=H1.out.symm.trans H2.out;exact Hf.out (by simpa using this)
    . have hkn:j=n:=by omega
      subst hkn
      have hfin:l=k:=by
       have:=hT.out
       rwa[List.take_of_length_le (by omega),List.take_of_length_le (by omega)]at this
      have Hf:=zsp hfin;clear hfin hx hy
      go_wp2
      go_ret
      exact⟨zag (decide_eq_true Hf.out).symm,hE⟩
 . have q1:((n:Int) !=(m:Int))=true:=by simp;omega
   have hne:¬l=k:=by rintro rfl;omega
   have Hne:=zsp hne;clear hne hnm hx hy
   go_enter func57,ntmps57
   go_wp2
   go_ret
   exact⟨zag (decide_eq_false Hne.out).symm,Ext.refl _⟩
theorem zqP{k:List Nat}(ha:Reads w A.1 l.length A.2 1 (l.map uv))(hb:Reads w B.1 k.length B.2 1 (k.map uv)):
 Calls prog 181 #[.slice A.1 l.length A.2,.slice B.1 k.length B.2] w fun e w'=>e=.returned (.bool (decide (l=k)))/\Ext w w':=by
 have hmax:=ha.max;have hcap:=ha.cap;unfold maxLen at hmax;generalize hx:l.length=n at*;generalize hy:k.length=m at*;by_cases hnm:n=m
 . subst hnm
   have q1:((n:Int) !=(n:Int))=false:=by simp
   go_enter func181,ntmps181
   go_wp2
   go_loopw [5,13] (fun _ i wr=>∃j:Nat,j<=n/\i=.int .i64 j/\Ext w wr/\Hid (l.take j=k.take j)) (fun _ i _=>n - (intOf i).toNat)
   case atStart=>exact⟨0,Nat.zero_le _,rfl,Ext.refl _,rfl⟩
   case round=>
    obtain⟨j,hj,rfl,hE,hT⟩:=hrel;by_cases hlt:j<n
    . obtain⟨b1,off1,f1,hA,h1,hb1,d0⟩:=zmb (ha.ext hE) (k:=j) (by omega)
      obtain⟨b2,off2,f2,hB,h2,hb2,e0⟩:=zmb (hb.ext hE) (k:=j) (by omega);rw[hA,hB];have hltI:(j:Int)<n:=by omega
      have H1:=zsp h1;have H2:=zsp h2;have Hx:=zsp hx;have Hy:=zsp hy;by_cases hf:f1=f2
      . have q2:((f1:Int) !=(f2:Int))=false:=by simp[hf]
        have Hf:=zsp hf;clear h1 h2 hf hx hy
        go_wp2
        go_quiet (fail)
        go_wp2
        go_roundw
        case rel=>exact⟨j+1,by omega,by go_num,hE.trans xx,by show _=_;rw[zap _ _ _ H1.out,zap _ _ _ H2.out,hT.out,Hf.out]⟩
        case measure=>simp[intOf];omega
      . have q2:((f1:Int) !=(f2:Int))=true:=by rw[bne_iff_ne];omega
        have Hf:=zsp hf;clear h1 h2 hf hx hy
        go_wp2
        go_quiet (fail)
        go_wp2
        go_ret
        refine⟨zag (decide_eq_false ?_).symm,hE.trans xx⟩;rintro rfl;have:=H1.out.symm.trans H2.out;exact Hf.out (by simpa using this)
    . have hkn:j=n:=by omega
      subst hkn
      have hfin:l=k:=by
       have:=hT.out
       rwa[List.take_of_length_le (by omega),List.take_of_length_le (by omega)]at this
      have Hf:=zsp hfin;clear hfin hx hy
      go_wp2
      go_ret
      exact⟨zag (decide_eq_true Hf.out).symm,hE⟩
 . have q1:((n:Int) !=(m:Int))=true:=by simp;omega
   have hne:¬l=k:=by rintro rfl;omega
   have Hne:=zsp hne;clear hne hnm hx hy
   go_enter func181,ntmps181
   go_wp2
   go_ret
   exact⟨zag (decide_eq_false Hne.out).symm,Ext.refl _⟩
variable{g:FuncId}
theorem zrM{l k:List ValR}(eg:∀args w,(callFunc g args).run prog w=.ok (.enter g args) w)(ha:Reads w A.1 l.length A.2 4 (l.flatMap tvalC))(hb:Reads w B.1 k.length B.2 4 (k.flatMap tvalC))(hp:∀f1∈l,∀f2∈k,∀W:World,Ext w W->Calls prog g #[tvalV f1,tvalV f2] W fun e W'=>e=.returned (.bool (eqB (bareV f1=bareV f2)))/\Ext W W'):
 Calls prog 164 #[.slice A.1 l.length A.2,.slice B.1 k.length B.2,.func (.func g) #[] #[]] w fun e w'=>e=.returned (.bool (eqB (l.map bareV=k.map bareV)))/\Ext w w':=by
 have hmax:=ha.max;have hcap:=ha.cap;unfold maxLen at hmax;have Hp:=zsp hp;clear hp;generalize hx:l.length=n at*;generalize hy:k.length=m at*;by_cases hnm:n=m
 . subst hnm
   have q1:((n:Int) !=(n:Int))=false:=by simp
   go_enter func164,ntmps164
   go_wp2
   go_loopw [7,8,9,17] (fun _ _ _ i wr=>∃j:Nat,j<=n/\i=.int .i64 j/\Ext w wr/\Hid ((l.map bareV).take j=(k.map bareV).take j)) (fun _ _ _ i _=>n - (intOf i).toNat)
   case atStart=>exact⟨0,Nat.zero_le _,rfl,Ext.refl _,rfl⟩
   case round=>
    obtain⟨j,hj,rfl,hE,hT⟩:=hrel;by_cases hlt:j<n
    . obtain⟨b1,off1,f1,hA,h1,hb1,c10,c11,c12,c13⟩:=zdO (ha.ext hE) hlt
      obtain⟨b2,off2,f2,hB,h2,hb2,c20,c21,c22,c23⟩:=zdO (hb.ext hE) hlt;rw[hA,hB];have hltI:(j:Int)<n:=by omega
      have H1:Hid ((l.map bareV)[j]?=some (bareV f1)):=by show _=_;rw[List.getElem?_map,h1];rfl
      have H2:Hid ((k.map bareV)[j]?=some (bareV f2)):=by show _=_;rw[List.getElem?_map,h2];rfl
      have hc:=Hp.out f1 (List.mem_of_getElem? h1) f2 (List.mem_of_getElem? h2);have Hx:=zsp hx;have Hy:=zsp hy;unfold tvalV at hc;by_cases hf:bareV f1=bareV f2
      . rw[zbQ hf]at hc
        have Hf:=zsp hf;have Hc:=zsp hc;clear h1 h2 hf hx hy hc
        go_wp2_with (go_at_fn g;refine(Hc.out _ (hE.trans xx)).mono ?_;rintro e w1 ⟨rfl,E1⟩)
        go_roundw
        case rel=>exact⟨j+1,by omega,by go_num,hE.trans (Ext.trans xx E1),by show _=_;rw[zap _ _ _ H1.out,zap _ _ _ H2.out,hT.out,Hf.out]⟩
        case measure=>simp[intOf];omega
      . rw[zaC hf]at hc
        have Hf:=zsp hf;have Hc:=zsp hc;clear h1 h2 hf hx hy hc
        go_wp2_with (go_at_fn g;refine(Hc.out _ (hE.trans xx)).mono ?_;rintro e w1 ⟨rfl,E1⟩)
        go_ret
        refine⟨zag (zaC ?_).symm,hE.trans (Ext.trans xx E1)⟩;intro hh;have:=H1.out.symm.trans ((congrArg (fun q=>q[j]?) hh).trans H2.out);exact Hf.out (by simpa using this)
    . have hkn:j=n:=by omega
      subst hkn
      have hfin:l.map bareV=k.map bareV:=by
       have:=hT.out
       rwa[List.take_of_length_le (by simp;omega),List.take_of_length_le (by simp;omega)]at this
      have Hf:=zsp hfin;clear hfin hx hy
      go_wp2
      go_ret
      exact⟨zag (zbQ Hf.out).symm,hE⟩
 . have q1:((n:Int) !=(m:Int))=true:=by simp;omega
   have hne:¬l.map bareV=k.map bareV:=by
    intro hh;have:=congrArg List.length hh;simp only[List.length_map]at this;omega
   have Hne:=zsp hne;clear hne hnm hx hy
   go_enter func164,ntmps164
   go_wp2
   go_ret
   exact⟨zag (zaC Hne.out).symm,Ext.refl _⟩
theorem zrN{l k:List MsgR}(eg:∀args w,(callFunc g args).run prog w=.ok (.enter g args) w)(ha:Reads w A.1 l.length A.2 2 (l.flatMap treeC))(hb:Reads w B.1 k.length B.2 2 (k.flatMap treeC))(hp:∀f1∈l,∀f2∈k,∀W:World,Ext w W->Calls prog g #[treeV f1,treeV f2] W fun e W'=>e=.returned (.bool (eqB (bare f1=bare f2)))/\Ext W W'):
 Calls prog 182 #[.slice A.1 l.length A.2,.slice B.1 k.length B.2,.func (.func g) #[] #[]] w fun e w'=>e=.returned (.bool (eqB (l.map bare=k.map bare)))/\Ext w w':=by
 have hmax:=ha.max;have hcap:=ha.cap;unfold maxLen at hmax;have Hp:=zsp hp;clear hp;generalize hx:l.length=n at*;generalize hy:k.length=m at*;by_cases hnm:n=m
 . subst hnm
   have q1:((n:Int) !=(n:Int))=false:=by simp
   go_enter func182,ntmps182
   go_wp2
   go_loopw [7,8,9,17] (fun _ _ _ i wr=>∃j:Nat,j<=n/\i=.int .i64 j/\Ext w wr/\Hid ((l.map bare).take j=(k.map bare).take j)) (fun _ _ _ i _=>n - (intOf i).toNat)
   case atStart=>exact⟨0,Nat.zero_le _,rfl,Ext.refl _,rfl⟩
   case round=>
    obtain⟨j,hj,rfl,hE,hT⟩:=hrel;by_cases hlt:j<n
    . obtain⟨b1,off1,f1,hA,h1,hb1,c10,c11⟩:=zdw (ha.ext hE) hlt
      obtain⟨b2,off2,f2,hB,h2,hb2,c20,c21⟩:=zdw (hb.ext hE) hlt;rw[hA,hB];have hltI:(j:Int)<n:=by omega
      have H1:Hid ((l.map bare)[j]?=some (bare f1)):=by show _=_;rw[List.getElem?_map,h1];rfl
      have H2:Hid ((k.map bare)[j]?=some (bare f2)):=by show _=_;rw[List.getElem?_map,h2];rfl
      have hc:=Hp.out f1 (List.mem_of_getElem? h1) f2 (List.mem_of_getElem? h2);have Hx:=zsp hx;have Hy:=zsp hy;unfold treeV at hc;by_cases hf:bare f1=bare f2
      . rw[zbQ hf]at hc
        have Hf:=zsp hf;have Hc:=zsp hc;clear h1 h2 hf hx hy hc
        go_wp2_with (go_at_fn g;refine(Hc.out _ (hE.trans xx)).mono ?_;rintro e w1 ⟨rfl,E1⟩)
        go_roundw
        case rel=>exact⟨j+1,by omega,by go_num,hE.trans (Ext.trans xx E1),by show _=_;rw[zap _ _ _ H1.out,zap _ _ _ H2.out,hT.out,Hf.out]⟩
        case measure=>simp[intOf];omega
      . rw[zaC hf]at hc
        have Hf:=zsp hf;have Hc:=zsp hc;clear h1 h2 hf hx hy hc
        go_wp2_with (go_at_fn g;refine(Hc.out _ (hE.trans xx)).mono ?_;rintro e w1 ⟨rfl,E1⟩)
        go_ret
        refine⟨zag (zaC ?_).symm,hE.trans (Ext.trans xx E1)⟩;intro hh;have:=H1.out.symm.trans ((congrArg (fun q=>q[j]?) hh).trans H2.out);exact Hf.out (by simpa using this)
    . have hkn:j=n:=by omega
      subst hkn
      have hfin:l.map bare=k.map bare:=by
       have:=hT.out
       rwa[List.take_of_length_le (by simp;omega),List.take_of_length_le (by simp;omega)]at this
      have Hf:=zsp hfin;clear hfin hx hy
      go_wp2
      go_ret
      exact⟨zag (zbQ Hf.out).symm,hE⟩
 . have q1:((n:Int) !=(m:Int))=true:=by simp;omega
   have hne:¬l.map bare=k.map bare:=by
    intro hh;have:=congrArg List.length hh;simp only[List.length_map]at this;omega
   have Hne:=zsp hne;clear hne hnm hx hy
   go_enter func182,ntmps182
   go_wp2
   go_ret
   exact⟨zag (zaC Hne.out).symm,Ext.refl _⟩
variable{v u:ValR}
theorem zog:bareV v=bareV u<->v.number=u.number/\v.words=u.words/\v.texts=u.texts/\v.subs.map bare=u.subs.map bare:=by
 unfold bareV;simp only[ValG.mk.injEq,true_and]
theorem zpp{x y:MsgR}:bare x=bare y<->x.unk=y.unk/\x.vals.map bareV=y.vals.map bareV:=by
 rw[zbf,zbf];simp only[MsgX.mk.injEq,true_and];exact And.comm
theorem tsame(hv:ValAt w v)(hu:ValAt w u)(hp:∀y∈v.subs,∀z∈u.subs,∀W:World,Ext w W->Calls prog 131 #[treeV y,treeV z] W fun e W'=>e=.returned (.bool (eqB (bare y=bare z)))/\Ext W W'):
 Calls prog 165 #[tvalV v,tvalV u] w fun e w'=>e=.returned (.bool (eqB (bareV v=bareV u)))/\Ext w w':=by
 have eg:∀args w,(callFunc 131 args).run prog w=.ok (.enter 131 args) w:=enters_of func131 (by kernel_rfl) rfl;have c1:=fun W (h:Ext w W)=>zqP (hv.own.words.ext h) (hu.own.words.ext h)
 have c2:=fun W (h:Ext w W)=>zkh (hv.own.texts.up h) (hu.own.texts.up h)
 have c3:=fun W (h:Ext w W)=>zrN eg (hv.own.subs.ext h) (hu.own.subs.ext h) (fun y hy z hz W' h'=>hp y hy z hz W' (h.trans h'))
 rw[zdI zog];unfold tvalV;generalize v.subs.map bare=s1 at*;generalize u.subs.map bare=s2 at*;have C1:=zsp c1;have C2:=zsp c2;have C3:=zsp c3;clear c1 c2 c3 hp;by_cases h1:v.number=u.number
 . by_cases h2:v.words=u.words
   . have q2:decide (v.words=u.words)=true:=decide_eq_true h2
     by_cases h3:v.texts=u.texts
     . have q3:decide (v.texts=u.texts)=true:=decide_eq_true h3
       have hd:eqB (v.number=u.number/\v.words=u.words/\v.texts=u.texts/\s1=s2)=eqB (s1=s2):=zdI ⟨fun h=>h.2.2.2,fun h=>⟨h1,h2,h3,h⟩⟩;have c1:=C1.out;have c2:=C2.out;rw[q2]at c1;rw[q3]at c2;rw[hd,h1];have C1:=zsp c1;have C2:=zsp c2;clear c1 c2 h1 h2 h3 q2 q3 hd
       go_enter func165,ntmps165
       go_wp2_with (first
        |(go_at_call 181;refine(C1.out _ xx).mono ?_;rintro e w1 ⟨rfl,E1⟩;have X1:Ext w w1:=Ext.trans xx E1;obtain⟨p1,p2,_,_,p5⟩:=zaF E1;have v2:w1.cell? ⟨w.heap.size,2,none⟩=some (.slice v.b.1 v.texts.length v.b.2):=p1 2;have v3:w1.cell? ⟨w.heap.size,3,none⟩=some (.slice v.c.1 v.subs.length v.c.2):=p1 3;have u2:w1.cell? ⟨w.heap.size+1,2,none⟩=some (.slice u.b.1 u.texts.length u.b.2):=p2 2;have u3:w1.cell? ⟨w.heap.size+1,3,none⟩=some (.slice u.c.1 u.subs.length u.c.2):=p2 3)
        |(go_at_call 57;refine(C2.out _ X1).mono ?_;rintro e w2 ⟨rfl,E2⟩;have X2:=X1.trans E2;have v3':=E2.of_cell v3;have u3':=E2.of_cell u3;have p6:=E2.size)
        |(go_at_call 182;refine(C3.out _ X2).mono ?_;rintro e w3 ⟨rfl,E3⟩))
       go_ret
       exact⟨rfl,X2.trans E3⟩
     . have q3:decide (v.texts=u.texts)=false:=decide_eq_false h3
       have hd:eqB (v.number=u.number/\v.words=u.words/\v.texts=u.texts/\s1=s2)=false:=zaC (fun h=>h3 h.2.2.1);have c1:=C1.out;have c2:=C2.out;rw[q2]at c1;rw[q3]at c2;rw[hd,h1];have C1:=zsp c1;have C2:=zsp c2;clear c1 c2 h1 h2 h3 q2 q3 hd
       go_enter func165,ntmps165
       go_wp2_with (first
        |(go_at_call 181;refine(C1.out _ xx).mono ?_;rintro e w1 ⟨rfl,E1⟩;have X1:Ext w w1:=Ext.trans xx E1;obtain⟨p1,p2,_,_,p5⟩:=zaF E1;have v2:w1.cell? ⟨w.heap.size,2,none⟩=some (.slice v.b.1 v.texts.length v.b.2):=p1 2;have v3:w1.cell? ⟨w.heap.size,3,none⟩=some (.slice v.c.1 v.subs.length v.c.2):=p1 3;have u2:w1.cell? ⟨w.heap.size+1,2,none⟩=some (.slice u.b.1 u.texts.length u.b.2):=p2 2;have u3:w1.cell? ⟨w.heap.size+1,3,none⟩=some (.slice u.c.1 u.subs.length u.c.2):=p2 3)
        |(go_at_call 57;refine(C2.out _ X1).mono ?_;rintro e w2 ⟨rfl,E2⟩;have X2:=X1.trans E2;have v3':=E2.of_cell v3;have u3':=E2.of_cell u3;have p6:=E2.size))
       go_ret
       exact⟨rfl,X2⟩
   . have q2:decide (v.words=u.words)=false:=decide_eq_false h2
     have hd:eqB (v.number=u.number/\v.words=u.words/\v.texts=u.texts/\s1=s2)=false:=zaC (fun h=>h2 h.2.1);have c1:=C1.out;rw[q2]at c1;rw[hd,h1];have C1:=zsp c1;clear c1 h1 h2 q2 hd
     go_enter func165,ntmps165
     go_wp2_with (go_at_call 181;refine(C1.out _ xx).mono ?_;rintro e w1 ⟨rfl,E1⟩;have X1:Ext w w1:=Ext.trans xx E1;obtain⟨p1,p2,_,_,p5⟩:=zaF E1;have v2:w1.cell? ⟨w.heap.size,2,none⟩=some (.slice v.b.1 v.texts.length v.b.2):=p1 2;have v3:w1.cell? ⟨w.heap.size,3,none⟩=some (.slice v.c.1 v.subs.length v.c.2):=p1 3;have u2:w1.cell? ⟨w.heap.size+1,2,none⟩=some (.slice u.b.1 u.texts.length u.b.2):=p2 2;have u3:w1.cell? ⟨w.heap.size+1,3,none⟩=some (.slice u.c.1 u.subs.length u.c.2):=p2 3)
     go_ret
     exact⟨rfl,X1⟩
 . have hd:eqB (v.number=u.number/\v.words=u.words/\v.texts=u.texts/\s1=s2)=false:=zaC (fun h=>h1 h.1)
   have q1:(v.number==u.number)=false:=by rw[beq_eq_false_iff_ne];exact h1
   rw[hd];clear h1 hd
   go_enter func165,ntmps165
   go_wp2
   go_ret
   exact⟨rfl,xx⟩
def TSame(x:MsgR):Prop:=∀(y:MsgR)(w:World),zah w x->zah w y->Calls prog 131 #[treeV x,treeV y] w fun e w'=>e=.returned (.bool (eqB (bare x=bare y)))/\Ext w w'
theorem tSame(x:MsgR):TSame x:=by
 refine MsgX.ind (P:=TSame) (fun x ih=> ?_) x;intro y w hx hy;have eg:∀args w,(callFunc 165 args).run prog w=.ok (.enter 165 args) w:=enters_of func165 (by kernel_rfl) rfl;have c1:=fun W (h:Ext w W)=>zkh (hx.unk.up h) (hy.unk.up h)
 have c2:=fun W (h:Ext w W)=>zrM eg (hx.vals.ext h) (hy.vals.ext h) (fun v hv u hu W' h'=>tsame ((hx.val hv).up (h.trans h')) ((hy.val hu).up (h.trans h')) (fun y' hy' z hz W2 h2=>ih v hv y' hy' z W2 ((hx.sub v hv y' hy').up (h.trans (h'.trans h2))) ((hy.sub u hu z hz).up (h.trans (h'.trans h2)))))
 rw[zdI zpp];unfold treeV;generalize x.vals.map bareV=s1 at*;generalize y.vals.map bareV=s2 at*;have C1:=zsp c1;have C2:=zsp c2;clear c1 c2 ih;by_cases h1:x.unk=y.unk
 . have q1:decide (x.unk=y.unk)=true:=decide_eq_true h1
   have hd:eqB (x.unk=y.unk/\s1=s2)=eqB (s1=s2):=zdI ⟨fun h=>h.2,fun h=>⟨h1,h⟩⟩;have c1:=C1.out;rw[q1]at c1;rw[hd];have C1:=zsp c1;clear c1 h1 q1 hd
   go_enter func131,ntmps131
   go_wp2_with (first
    |(go_at_call 57;refine(C1.out _ xx).mono ?_;rintro e w1 ⟨rfl,E1⟩;have X1:Ext w w1:=Ext.trans xx E1;obtain⟨p1,p2,_,_,p5⟩:=zaF E1;have v0:w1.cell? ⟨w.heap.size,0,none⟩=some (.slice x.a.1 x.vals.length x.a.2):=p1 0;have u0:w1.cell? ⟨w.heap.size+1,0,none⟩=some (.slice y.a.1 y.vals.length y.a.2):=p2 0)
    |(go_at_call 164;refine(C2.out _ X1).mono ?_;rintro e w2 ⟨rfl,E2⟩))
   go_ret
   exact⟨rfl,X1.trans E2⟩
 . have q1:decide (x.unk=y.unk)=false:=decide_eq_false h1
   have hd:eqB (x.unk=y.unk/\s1=s2)=false:=zaC (fun h=>h1 h.1);have c1:=C1.out;rw[q1]at c1;rw[hd];have C1:=zsp c1;clear c1 h1 q1 hd
   go_enter func131,ntmps131
   go_wp2_with (go_at_call 57;refine(C1.out _ xx).mono ?_;rintro e w1 ⟨rfl,E1⟩)
   go_ret
   exact⟨rfl,Ext.trans xx E1⟩
end Go.Proofs.YtlhbllaojjelcaaGreat
