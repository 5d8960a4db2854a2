/- Contracts of layer 26: three messages made one, one level. -/
import Derived.Test.YtlhbllaojjelcaaGreatQhW53
import Derived.Test.YtlhbllaojjelcaaGreatQhW20s

set_option linter.unusedVariables false
set_option linter.unusedSimpArgs false
set_option maxRecDepth 100000
set_option maxHeartbeats 8000000
namespace Go.Proofs.YtlhbllaojjelcaaGreat
open Go.RowKit Go.Shelf Go.Proofs.Tryz
theorem zkv{α β:Type}(g:α->List β)(l:List α)(j:Nat):((l.take j).flatMap g).length<=(l.flatMap g).length:=by
 conv=>rhs;rw[<-List.take_append_drop j l]
 rw[List.flatMap_append,List.length_append];exact Nat.le_add_right _ _
variable{rs:Nat->MsgT->Prop}{f:zaa}
theorem zlw{x:Option ValT}{v:ValR}{ok:Bool}(h:zat x v ok)(hx:∀u,x=some u->zbB rs f u)(h17:f.kind=17)(hr:f.rep=false)(hk:ok=true):0<v.subs.length:=by
 rcases h with⟨_,rfl⟩|⟨q,_⟩
 . obtain⟨y,hy,_⟩:=zcm (hx _ rfl) h17 hr
   have hy:v.subs.map bare=[y]:=hy;have:=congrArg List.length hy;rw[List.length_map]at this;simp at this;omega
 . rw[hk]at q
   cases q
def KSub(w0:World)(bk:Nat)(SA:Option Addr)(sn sc mm:Nat)(rec:Three)(way:Way)(o a b:MsgT)(fs:List zaa):Prop:=
 ∀(i:Nat)(f:zaa),fs[i]?=some f->f.kind=17->f.rep=false->sideT a f.number≠none->sideT b f.number≠none->∀(W:World)(o' a' b':MsgR)(A1:Option Addr)(n1 c1:Nat)(l1:List WRow)(B':Option Addr)(d':Nat),KS w0 W bk SA sn sc A1 n1 c1 l1->
  n1+(rec f.of_.toNat (subT (sideT o f.number)) (subT (sideT a f.number)) (subT (sideT b f.number)) (way++[f.number])).2.length<=1000000000->bare o'=subT (sideT o f.number)->bare a'=subT (sideT a f.number)->bare b'=subT (sideT b f.number)->zah W o'->zah W a'->zah W b'->(∀q,UsesT o' q->¬KU bk A1 l1 q)->(∀q,UsesT a' q->¬KU bk A1 l1 q)->(∀q,UsesT b' q->¬KU bk A1 l1 q)->
  WayAt W B' (mm+1) d' (way++[f.number])->(∀q,UsesA B' (mm+1) q->¬KU bk A1 l1 q)->
  Calls prog 27 #[.pointer (some ⟨bk,0,none⟩),.int .i64 f.of_,.agg #[.slice o'.a.1 o'.vals.length o'.a.2,.slice o'.b.1 o'.unk.length o'.b.2],.agg #[.slice a'.a.1 a'.vals.length a'.a.2,.slice a'.b.1 a'.unk.length a'.b.2],.agg #[.slice b'.a.1 b'.vals.length b'.a.2,.slice b'.b.1 b'.unk.length b'.b.2],.slice B' (mm+1) d'] W
   (KMade w0 bk SA sn sc A1 l1 W a' b' (rec f.of_.toNat (subT (sideT o f.number)) (subT (sideT a f.number)) (subT (sideT b f.number)) (way++[f.number])))
variable{way:Way}{M:MsgD}{m i sn sc mm bk:Nat}{S:List MsgD}{rec:Three}{SA:Option Addr}{w0:World}
theorem zri{wq:World}{A2:Option Addr}{n2 c2:Nat}{l2:List WRow}{o a b:MsgT}(hR:zan S=true)(hM:S[m]?=some M)(hf:M.fields[i]?=some f)(ro:zaO rs S m o)(ra:zaO rs S m a)(rb:zaO rs S m b)(hK:KS w0 wq bk SA sn sc A2 n2 c2 l2)(hn:n2+(zav rec f (sideT o f.number) (sideT a f.number) (sideT b f.number) (way++[f.number])).2.length<=1000000000)(hml:mm<=1000000)(hp:KSub w0 bk SA sn sc mm rec way o a b M.fields):
 ∀W (vo:ValR)(oo:Bool)(va:ValR)(oa:Bool)(vb:ValR)(ob:Bool)(A':Option Addr)(cc:Nat),Ext wq W->zat (sideT o f.number) vo oo->zat (sideT a f.number) va oa->zat (sideT b f.number) vb ob->ValAt W vo->ValAt W va->ValAt W vb->(∀q,UsesV vo q->wq.heap.size<=q)->(∀q,UsesV va q->wq.heap.size<=q)->(∀q,UsesV vb q->wq.heap.size<=q)->WayAt W A' (mm+1) cc (way++[f.number])->(∀q,UsesA A' (mm+1) q->wq.heap.size<=q)->
  Calls prog 54 #[.pointer (some ⟨bk,0,none⟩),.agg #[.string f.name,.int .i64 f.number,.int .i64 f.kind,.bool f.rep,.bool f.packed,.int .i64 f.of_],.agg #[.int .i64 vo.number,.slice vo.a.1 vo.words.length vo.a.2,.slice vo.b.1 vo.texts.length vo.b.2,.slice vo.c.1 vo.subs.length vo.c.2,.bool oo],.agg #[.int .i64 va.number,.slice va.a.1 va.words.length va.a.2,.slice va.b.1 va.texts.length va.b.2,.slice va.c.1 va.subs.length va.c.2,.bool oa],.agg #[.int .i64 vb.number,.slice vb.a.1 vb.words.length vb.a.2,.slice vb.b.1 vb.texts.length vb.b.2,.slice vb.c.1 vb.subs.length vb.c.2,.bool ob],.slice A' (mm+1) cc] W fun e W'=>∃(u:ValR)(ok:Bool),e=.returned (.agg #[.int .i64 u.number,.slice u.a.1 u.words.length u.a.2,.slice u.b.1 u.texts.length u.b.2,.slice u.c.1 u.subs.length u.c.2,.bool ok])/\zat (zav rec f (sideT o f.number) (sideT a f.number) (sideT b f.number) (way++[f.number])).1 u ok/\ValAt W' u/\(∀q,UsesV u q->UsesV va q\/UsesV vb q\/W.heap.size<=q)/\Made w0 bk SA sn sc A2 l2 W (zav rec f (sideT o f.number) (sideT a f.number) (sideT b f.number) (way++[f.number])).2 (UsesV u) W':=by
 intro W vo oo va oa vb ob A' cc X so sa sb ho ha hb uo ua ub hw uw;have ap:∀q,wq.heap.size<=q->¬KU bk A2 l2 q:=fun q hq=>hK.apart hq
 obtain⟨⟨T,hT⟩,n1,n3,hkb⟩:=zbC hR hM hf;refine zsb (rec:=rec) (hK.up X) so sa sb ho ha hb (fun q hq=>ap q (ua q hq)) (fun q hq=>ap q (ub q hq)) (fun q hq=>ap q (uo q hq)) hw (by omega) (by omega) (fun h17 hr hk=>zlw so (fun v hv=>zbP hR hM ro hf hv) h17 hr hk) (fun h17 hr hk=>zlw sa (fun v hv=>zbP hR hM ra hf hv) h17 hr hk) (fun h17 hr hk=>zlw sb (fun v hv=>zbP hR hM rb hf hv) h17 hr hk) (by omega) (fun h17 hr e1 e2 e3 na nb W2 o' a' b' X2 eo ea eb tO ta tb vo' va' vb'=> ?_);rw[zdG e1 e2 e3 ⟨h17,hr,na,nb⟩]at hn;exact hp i f hf h17 hr na nb W2 o' a' b' A2 n2 c2 l2 A' cc (hK.up (X.trans X2)) hn eo ea eb tO ta tb vo' va' vb' (hw.ext X2) (fun q hq=>ap q (uw q hq))
theorem zkw{w:World}{A:Option Addr}{n c:Nat}{l:List WRow}{S:List MsgV}{o a b:MsgR}{B:Option Addr}{dd:Nat}(hR:zan (S.map MsgV.d)=true)(hm:m<sn)(hs:zaj w0 SA sn sc S)(h:KS w0 w bk SA sn sc A n c l)(ho:zah w o)(ha:zah w a)(hb:zah w b)(fo:FitT 1000000000000 o)(fa:FitT 1000000000000 a)(fb:FitT 1000000000000 b)(ro:zaO rs (S.map MsgV.d) m (bare o))(ra:zaO rs (S.map MsgV.d) m (bare a))(rb:zaO rs (S.map MsgV.d) m (bare b))(uo:∀q,UsesT o q->¬KU bk A l q)(ua:∀q,UsesT a q->¬KU bk A l q)(ub:∀q,UsesT b q->¬KU bk A l q)(hw:WayAt w B mm dd way)(hml:mm<=1000000)(wu:∀q,UsesA B mm q->¬KU bk A l q)(hn:n+(zbS rec (S.map MsgV.d) m (bare o) (bare a) (bare b) way).2.length<=1000000000)(hp:∀M,S[m]?=some M->KSub w0 bk SA sn sc mm rec way (bare o) (bare a) (bare b) M.d.fields):
 Calls prog 27 #[.pointer (some ⟨bk,0,none⟩),.int .i64 (m:Int),.agg #[.slice o.a.1 o.vals.length o.a.2,.slice o.b.1 o.unk.length o.b.2],.agg #[.slice a.a.1 a.vals.length a.a.2,.slice a.b.1 a.unk.length a.b.2],.agg #[.slice b.a.1 b.vals.length b.a.2,.slice b.b.1 b.unk.length b.b.2],.slice B mm dd] w
  (KMade w0 bk SA sn sc A l w a b (zbS rec (S.map MsgV.d) m (bare o) (bare a) (bare b) way)):=by
 have hSl:=hs.length;obtain⟨b1,off1,M,hSA,hM,hf,hnm,hb1,s0,s1⟩:=hs.msg (k:=m) hm;subst hSA;have hMd:(S.map MsgV.d)[m]?=some M.d:=by rw[List.getElem?_map,hM];rfl
 have hsn1:sn<=1000000:=by have:=(zfT hR).2.1;rw[List.length_map]at this;omega
 have hfl:M.d.fields.length=M.n:=hf.length;have hMn:M.n<=1000000:=by have:=(zbk hR hMd).2.2.1;omega
 have hso:=fun W (h:Ext w0 W)=>zlC (s:=M.d.name) (hf.up h) (show M.n<=1000000000000 by omega)
 obtain⟨UK,hUK⟩:∃UK,UK=unkT (bare o) (bare a) (bare b) way:=⟨_,rfl⟩
 obtain⟨p1,hp1⟩:∃p1:Nat->Option ValT,p1=fun i=>(zbh rec M.d.fields (bare o) (bare a) (bare b) way i).1:=⟨_,rfl⟩
 obtain⟨p2,hp2⟩:∃p2:Nat->List Way,p2=fun i=>(zbh rec M.d.fields (bare o) (bare a) (bare b) way i).2:=⟨_,rfl⟩
 have hJ:zbS rec (S.map MsgV.d) m (bare o) (bare a) (bare b) way=(.mk () () ((sortK (keyF M.d.fields) M.n).filterMap p1) UK.1,((sortK (keyF M.d.fields) M.n).flatMap p2)++UK.2):=by
  unfold zbS;rw[hMd];simp only;rw[hfl,hp1,hp2,hUK]
 rw[hJ]at hn⊢;have hol:(sortK (keyF M.d.fields) M.n).length=M.n:=zcL _ _;have hord:∀i,i∈sortK (keyF M.d.fields) M.n->i<M.n:=fun i hi=>zbl.1 hi
 have hpl:∀(i:Nat)(f:zaa),M.d.fields[i]?=some f->zbh rec M.d.fields (bare o) (bare a) (bare b) way i=zav rec f (sideT (bare o) f.number) (sideT (bare a) f.number) (sideT (bare b) f.number) (way++[f.number]):=fun i f hi=>by
  unfold zbh;rw[hi]
 have hfie:=fun(i:Nat)(f:zaa)(hi:M.d.fields[i]?=some f)(wq:World)(A2:Option Addr)(n2 c2:Nat)(l2:List WRow)(hK:KS w0 wq bk (some ⟨b1,off1,none⟩) sn sc A2 n2 c2 l2)(hn2:n2+(zav rec f (sideT (bare o) f.number) (sideT (bare a) f.number) (sideT (bare b) f.number) (way++[f.number])).2.length<=1000000000)=>
  zri (rec:=rec) (way:=way) hR hMd hi ro ra rb hK hn2 hml (hp M hM)
 have hofo:=fun(W:World)(N:Int)(h:zah W o)=>kOf (N:=N) h fo
 have hofa:=fun(W:World)(N:Int)(h:zah W a)=>kOf (N:=N) h fa
 have hofb:=fun(W:World)(N:Int)(h:zah W b)=>kOf (N:=N) h fb
 have eab:=fun(W:World)(h1:zah W a)(h2:zah W b)=>zkh h1.unk h2.unk
 have ebo:=fun(W:World)(h1:zah W b)(h2:zah W o)=>zkh h1.unk h2.unk
 have eao:=fun(W:World)(h1:zah W a)(h2:zah W o)=>zkh h1.unk h2.unk
 have hUK':=hUK;unfold unkT at hUK';rw[show(bare o).unk=o.unk by rw[zbf];rfl,show(bare a).unk=a.unk by rw[zbf];rfl,show(bare b).unk=b.unk by rw[zbf];rfl]at hUK';rw[List.length_append]at hn
 have hpl1:∀(i:Nat)(f:zaa),M.d.fields[i]?=some f->zav rec f (sideT (bare o) f.number) (sideT (bare a) f.number) (sideT (bare b) f.number) (way++[f.number])=(p1 i,p2 i):=fun i f hi=>by
  rw[<-hpl i f hi,hp1,hp2]
 have hmx:=hw.max;have hcw:=hw.cap;have Hso:=zsp hso;have Hord:=zsp hord;have Hfie:=zsp hfie;have Hpl:=zsp hpl1;have Hofo:=zsp hofo;have Hofa:=zsp hofa;have Hofb:=zsp hofb;have Eab:=zsp eab;have Ebo:=zsp ebo;have Eao:=zsp eao;have Huk:=zsp hUK';have Hf:=zsp hf;have Hk:=zsp h;have Ho:=zsp ho;have Ha:=zsp ha;have Hb:=zsp hb;have Uo:=zsp uo;have Ua:=zsp ua;have Ub:=zsp ub;have Hw:=zsp hw;have Wu:=zsp wu;have E0:=h.ext;have k0:w.cell? ⟨bk,0,none⟩=some (.slice (some ⟨b1,off1,none⟩) sn sc):=h.o.cell 0;have kl:=h.o.lt;have q0:=E0.of_cell s0;have q1:=E0.of_cell s1;have lb:=Nat.lt_of_lt_of_le hb1 E0.size;have hsz:=E0.size;have mI:(m:Int)<sn:=by omega
 have S1:=zsp s1;clear hso hord hfie hpl hpl1 hofo hofa hofb eab ebo eao hUK hUK' hf h ho ha hb uo ua ub hw wu s0 s1 hp1 hp2 hJ hMd hM hR hs hnm ro ra rb fo fa fb hp;generalize sortK (keyF M.d.fields) M.n=order at*
 go_enter func27,ntmps27
 go_upto_region 2 with(fail)
 have BO:=((((BlkT.new w 27 #[.slice o.a.1 o.vals.length o.a.2,.slice o.b.1 o.unk.length o.b.2] rfl).alloc (.cells #[.slice a.a.1 a.vals.length a.a.2,.slice a.b.1 a.unk.length a.b.2] 27)).alloc (.cells #[.slice b.a.1 b.vals.length b.a.2,.slice b.b.1 b.unk.length b.b.2] 27)).alloc (.cells #[.slice none 0 0,.slice none 0 0] 27)).alloc (.cells #[.slice none 0 0,.slice none 0 0] 27);have BA:=(((BlkT.new (w.alloc (.cells #[.slice o.a.1 o.vals.length o.a.2,.slice o.b.1 o.unk.length o.b.2] 27)) 27 #[.slice a.a.1 a.vals.length a.a.2,.slice a.b.1 a.unk.length a.b.2] (show w.heap.size+1=_ by simp)).alloc (.cells #[.slice b.a.1 b.vals.length b.a.2,.slice b.b.1 b.unk.length b.b.2] 27)).alloc (.cells #[.slice none 0 0,.slice none 0 0] 27)).alloc (.cells #[.slice none 0 0,.slice none 0 0] 27);have BB:=((BlkT.new ((w.alloc (.cells #[.slice o.a.1 o.vals.length o.a.2,.slice o.b.1 o.unk.length o.b.2] 27)).alloc (.cells #[.slice a.a.1 a.vals.length a.a.2,.slice a.b.1 a.unk.length a.b.2] 27)) 27 #[.slice b.a.1 b.vals.length b.a.2,.slice b.b.1 b.unk.length b.b.2] (show w.heap.size+2=_ by simp)).alloc (.cells #[.slice none 0 0,.slice none 0 0] 27)).alloc (.cells #[.slice none 0 0,.slice none 0 0] 27);have BR:=(BlkT.new (((w.alloc (.cells #[.slice o.a.1 o.vals.length o.a.2,.slice o.b.1 o.unk.length o.b.2] 27)).alloc (.cells #[.slice a.a.1 a.vals.length a.a.2,.slice a.b.1 a.unk.length a.b.2] 27)).alloc (.cells #[.slice b.a.1 b.vals.length b.a.2,.slice b.b.1 b.unk.length b.b.2] 27)) 27 #[.slice none 0 0,.slice none 0 0] (show w.heap.size+3=_ by simp)).alloc (.cells #[.slice none 0 0,.slice none 0 0] 27);have BT:=BlkT.new ((((w.alloc (.cells #[.slice o.a.1 o.vals.length o.a.2,.slice o.b.1 o.unk.length o.b.2] 27)).alloc (.cells #[.slice a.a.1 a.vals.length a.a.2,.slice a.b.1 a.unk.length a.b.2] 27)).alloc (.cells #[.slice b.a.1 b.vals.length b.a.2,.slice b.b.1 b.unk.length b.b.2] 27)).alloc (.cells #[.slice none 0 0,.slice none 0 0] 27)) 27 #[.slice none 0 0,.slice none 0 0] (show w.heap.size+4=_ by simp);have X1:Ext w (((((w.alloc (.cells #[.slice o.a.1 o.vals.length o.a.2,.slice o.b.1 o.unk.length o.b.2] 27)).alloc (.cells #[.slice a.a.1 a.vals.length a.a.2,.slice a.b.1 a.unk.length a.b.2] 27)).alloc (.cells #[.slice b.a.1 b.vals.length b.a.2,.slice b.b.1 b.unk.length b.b.2] 27)).alloc (.cells #[.slice none 0 0,.slice none 0 0] 27)).alloc (.cells #[.slice none 0 0,.slice none 0 0] 27)):=(((((Ext.refl w).alloc _).alloc _).alloc _).alloc _).alloc _;have lT1:=BT.lt;have hw1:w.heap.size+5=((((((w.alloc (.cells #[.slice o.a.1 o.vals.length o.a.2,.slice o.b.1 o.unk.length o.b.2] 27)).alloc (.cells #[.slice a.a.1 a.vals.length a.a.2,.slice a.b.1 a.unk.length a.b.2] 27)).alloc (.cells #[.slice b.a.1 b.vals.length b.a.2,.slice b.b.1 b.unk.length b.b.2] 27)).alloc (.cells #[.slice none 0 0,.slice none 0 0] 27)).alloc (.cells #[.slice none 0 0,.slice none 0 0] 27))).heap.size:=by simp
 generalize (((((w.alloc (.cells #[.slice o.a.1 o.vals.length o.a.2,.slice o.b.1 o.unk.length o.b.2] 27)).alloc (.cells #[.slice a.a.1 a.vals.length a.a.2,.slice a.b.1 a.unk.length a.b.2] 27)).alloc (.cells #[.slice b.a.1 b.vals.length b.a.2,.slice b.b.1 b.unk.length b.b.2] 27)).alloc (.cells #[.slice none 0 0,.slice none 0 0] 27)).alloc (.cells #[.slice none 0 0,.slice none 0 0] 27))=w1 at*;have k01:=X1.of_cell k0;have kl1:=Nat.lt_of_lt_of_le kl X1.size;have q01:=X1.of_cell q0;have q11:=X1.of_cell q1;have lb1:=Nat.lt_of_lt_of_le lb X1.size
 go_wp2_with (go_at_call 53;refine(Hso.out _ (E0.trans X1)).mono ?_;rintro e w2 ⟨A6,c6,rfl,own6⟩)
 have X2:=X1.trans own6.ext;have BO2:=BO.up own6.ext;have BA2:=BA.up own6.ext;have BB2:=BB.up own6.ext;have BR2:=BR.up own6.ext;have BT2:=BT.up own6.ext;have o0:w2.cell? ⟨w.heap.size,0,none⟩=some (.slice o.a.1 o.vals.length o.a.2):=BO2.cell 0;have o1:w2.cell? ⟨w.heap.size,1,none⟩=some (.slice o.b.1 o.unk.length o.b.2):=BO2.cell 1;have a0:w2.cell? ⟨w.heap.size+1,0,none⟩=some (.slice a.a.1 a.vals.length a.a.2):=BA2.cell 0;have a1:w2.cell? ⟨w.heap.size+1,1,none⟩=some (.slice a.b.1 a.unk.length a.b.2):=BA2.cell 1;have b0:w2.cell? ⟨w.heap.size+2,0,none⟩=some (.slice b.a.1 b.vals.length b.a.2):=BB2.cell 0;have b1':w2.cell? ⟨w.heap.size+2,1,none⟩=some (.slice b.b.1 b.unk.length b.b.2):=BB2.cell 1;have lT2:=BT2.lt;have ap:∀k,w.heap.size<=k->¬KU bk A l k:=fun k hk=>Hk.out.apart hk
 have hL0:KLoop w0 w2 w2 bk (some ⟨b1,off1,none⟩) sn sc A l (w.heap.size+4) A n c l (.slice none 0 0) none 0 0 [] [] []:=
  ⟨Hk.out.up X2,by rw[List.append_nil],fun b hb=>.inl hb,Stays.refl _ _,BT2,Own.nil (E0.trans X2) _ _,fun b hb=>(by cases hb),rfl,fun y hy=>(by cases hy),⟨by omega,lT2,ap _ (by omega)⟩⟩
 have HL0:=zsp hL0;have HBR:=zsp BR2;have H6:=zsp own6;have HX2:=zsp X2;have Ap:=zsp ap;have Hcell:=zsp (And.intro (And.intro o0 o1) (And.intro (And.intro a0 a1) (And.intro b0 b1')));clear hL0 BR2 own6 X2 ap o0 o1 a0 a1 b0 b1' BO BA BB BR BT BO2 BA2 BB2 BT2
 go_loopw [15,16,17,27] (fun _ _ _ i wr=>∃(j:Nat)(A2:Option Addr)(n2 c2:Nat)(l2:List WRow)(V:Option Addr)(yn vc:Nat)(ys:List ValR),j<=M.n/\i=.int .i64 (j:Int)/\KLoop w0 w2 wr bk (some ⟨b1,off1,none⟩) sn sc A l (w.heap.size+4) A2 n2 c2 l2 (.slice none 0 0) V yn vc ys ((order.take j).filterMap p1) ((order.take j).flatMap p2)) (fun _ _ _ i _=>M.n - (intOf i).toNat)
 case atStart=>exact⟨0,A,n,c,l,none,0,0,[],Nat.zero_le _,rfl,HL0.out⟩
 case round=>
  rename World=>wr
  obtain⟨j,A2,n2,c2,l2,V,yn,vc,ys,hj,rfl,hL⟩:=hrel;have HL:=zsp hL;clear hL;by_cases hlt:j<M.n
  . have hltI:(j:Int)<M.n:=by omega
    obtain⟨i,hij⟩:∃i,order[j]?=some i:=⟨_,List.getElem?_eq_getElem (by rw[hol];omega)⟩
    have him:=Hord.out i (List.mem_of_getElem? hij);have EL:=HL.out.K.ext
    have hO:=Reads.stays H6.out.reads HL.out.st (fun b hb=>by
     have h1:=H6.out.uses_new hb
     exact⟨Ap.out b (by omega),by omega⟩)
    obtain⟨b9,off9,hA6,hb9,hc9⟩:=hO.at_ (by omega);have e9:wr.cell? ⟨b9,off9+j,none⟩=some (.int .i64 (i:Int)):=hc9 j _ (by rw[List.getElem?_map,hij];rfl);subst hA6;obtain⟨b8,off8,f,hA8,hfi,hok,hb8,g0,g1,g2,g3,g4,g5⟩:=(Hf.out.up EL).field him;have t1:=EL.of_cell S1.out;rw[hA8]at t1;have tl:=Nat.lt_of_lt_of_le hb1 EL.size;have k0r:wr.cell? ⟨bk,0,none⟩=some (.slice (some ⟨b1,off1,none⟩) sn sc):=HL.out.K.o.cell 0;have klr:=HL.out.K.o.lt;have iI:(i:Int)<M.n:=by omega
    have Hij:=zsp hij;have Hfi:=zsp hfi;have Xf:Ext wr (wr.alloc (.cells #[.string f.name,.int .i64 f.number,.int .i64 f.kind,.bool f.rep,.bool f.packed,.int .i64 f.of_] 61)):=(Ext.refl wr).alloc _;have BF:=BlkT.new wr 61 #[.string f.name,.int .i64 f.number,.int .i64 f.kind,.bool f.rep,.bool f.packed,.int .i64 f.of_] rfl;clear hA8 hij hfi hO hc9
    go_wp2_with fail
    generalize wr.alloc (.cells #[.string f.name,.int .i64 f.number,.int .i64 f.kind,.bool f.rep,.bool f.packed,.int .i64 f.of_] 61)=wq at*;have zf0:wq.cell? ⟨wr.heap.size,0,none⟩=some (.string f.name):=BF.cell 0;have zf1:wq.cell? ⟨wr.heap.size,1,none⟩=some (.int .i64 f.number):=BF.cell 1;have zf2:wq.cell? ⟨wr.heap.size,2,none⟩=some (.int .i64 f.kind):=BF.cell 2;have zf3:wq.cell? ⟨wr.heap.size,3,none⟩=some (.bool f.rep):=BF.cell 3;have zf4:wq.cell? ⟨wr.heap.size,4,none⟩=some (.bool f.packed):=BF.cell 4;have zf5:wq.cell? ⟨wr.heap.size,5,none⟩=some (.int .i64 f.of_):=BF.cell 5;have HLq:=zsp (HL.out.up Xf);have stq:=HLq.out.st;have ne:∀k,w.heap.size<=k->k<w.heap.size+4->¬KU bk A l k/\k≠w.heap.size+4:=fun k h1 h2=>⟨Ap.out k h1,by omega⟩
    have zo0:wq.cell? ⟨w.heap.size,0,none⟩=some (.slice o.a.1 o.vals.length o.a.2):=stq.cell (p:=⟨w.heap.size,0,none⟩) (ne (w.heap.size) (by omega) (by omega)) Hcell.out.1.1;have zo1:wq.cell? ⟨w.heap.size,1,none⟩=some (.slice o.b.1 o.unk.length o.b.2):=stq.cell (p:=⟨w.heap.size,1,none⟩) (ne (w.heap.size) (by omega) (by omega)) Hcell.out.1.2;have za0:wq.cell? ⟨w.heap.size+1,0,none⟩=some (.slice a.a.1 a.vals.length a.a.2):=stq.cell (p:=⟨w.heap.size+1,0,none⟩) (ne (w.heap.size+1) (by omega) (by omega)) Hcell.out.2.1.1;have za1:wq.cell? ⟨w.heap.size+1,1,none⟩=some (.slice a.b.1 a.unk.length a.b.2):=stq.cell (p:=⟨w.heap.size+1,1,none⟩) (ne (w.heap.size+1) (by omega) (by omega)) Hcell.out.2.1.2;have zb0:wq.cell? ⟨w.heap.size+2,0,none⟩=some (.slice b.a.1 b.vals.length b.a.2):=stq.cell (p:=⟨w.heap.size+2,0,none⟩) (ne (w.heap.size+2) (by omega) (by omega)) Hcell.out.2.2.1;have zb1:wq.cell? ⟨w.heap.size+2,1,none⟩=some (.slice b.b.1 b.unk.length b.b.2):=stq.cell (p:=⟨w.heap.size+2,1,none⟩) (ne (w.heap.size+2) (by omega) (by omega)) Hcell.out.2.2.2;have apq:∀k,wq.heap.size<=k->¬KU bk A2 l2 k:=fun k hk=>HLq.out.K.apart hk
    have kk:∀k,w.heap.size<=k->k<w.heap.size+4->¬KU bk A2 l2 k:=fun k h1 h2=>HLq.out.kku (by omega) (Ap.out k h1)
    have tq:∀{x:MsgR},zah w x->(∀q,UsesT x q->¬KU bk A l q)->zah wq x:=fun hx hu=>(hx.up HX2.out).stays stq (fun q hq=>⟨hu q hq,by have:=hx.lt hq;omega⟩)
    have hwq:WayAt wq B mm dd way:=Reads.stays (Hw.out.ext HX2.out) stq (fun q hq=>⟨Wu.out q hq,by have:=Hw.out.uses_lt hq;omega⟩)
    have hlw:l2.length+(p2 i).length<=1000000000:=by
     have h1:=congrArg List.length HLq.out.way;rw[List.length_map,List.length_append,List.length_map]at h1;have h2:=zkv p2 order (j+1);rw[List.take_add_one,Hij.out,List.flatMap_append,List.length_append]at h2;have h3:(List.flatMap p2 (some i).toList).length=(p2 i).length:=by simp
     rw[h3]at h2;have h4:=Hk.out.len;omega
    have hfe:=Hfie.out i f Hfi.out wq A2 n2 c2 l2 HLq.out.K (by rw[Hpl.out i f Hfi.out];show n2+(p2 i).length<=_;have:=HLq.out.K.len;omega);rw[Hpl.out i f Hfi.out]at hfe;have hso_:=fun W (E:Ext wq W)=>Hofo.out W f.number ((tq Ho.out Uo.out).up E)
    have hsa_:=fun W (E:Ext wq W)=>Hofa.out W f.number ((tq Ha.out Ua.out).up E)
    have hsb_:=fun W (E:Ext wq W)=>Hofb.out W f.number ((tq Hb.out Ub.out).up E)
    unfold treeV sideV at hso_ hsa_ hsb_;refine calm (fun _ _ _ hd h=>⟨hd,h.2⟩) (mreg6 (R:=(p1 i,p2 i)) zf0 zf1 zf2 zf3 zf4 zf5 zo0 zo1 za0 za1 zb0 zb1 (HL.out.K.apart (Nat.le_refl _)) (kk _ (by omega) (by omega)) (kk _ (by omega) (by omega)) (kk _ (by omega) (by omega)) apq HLq.out.K.ext.size hwq hml (zsp hso_) (zsp hsa_) (zsp hsb_) (zsp hfe) ?_);intro s17 s42 s43 s44 s45 s46 s47 s48 s49 s50 s51 s52 s53 s54 s55 s56 s57 s58 s59 s60 s61 s62 u ok A3 n3 c3 l3 kx wz ST e17 lkx BX nkx K3 L3 N3 U3 V3 SO TA;subst e17;have HL1:=zsp (HLq.out.step ST K3 L3 N3);have HU3:=zsp U3;have HV3:=zsp V3;have HTA:=zsp TA;have HSO:=zsp SO;have x0:wz.cell? ⟨kx,0,none⟩=some (.int .i64 u.number):=BX.cell 0;have x1:wz.cell? ⟨kx,1,none⟩=some (.slice u.a.1 u.words.length u.a.2):=BX.cell 1;have x2:wz.cell? ⟨kx,2,none⟩=some (.slice u.b.1 u.texts.length u.b.2):=BX.cell 2;have x3:wz.cell? ⟨kx,3,none⟩=some (.slice u.c.1 u.subs.length u.c.2):=BX.cell 3;have x4:wz.cell? ⟨kx,4,none⟩=some (.bool ok):=BX.cell 4;have lX:=BX.lt
    have hyn:yn<=1000000:=by
     have h1:=HL.out.len;have h2:=congrArg List.length HL.out.vals;rw[List.length_map]at h2;have h3:=List.length_filterMap_le p1 (order.take j);rw[List.length_take]at h3;omega
    have Hw2:=zsp (show(order.take (j+1)).flatMap p2=(order.take j).flatMap p2++p2 i by rw[List.take_add_one,Hij.out,List.flatMap_append];simp);clear hso_ hsa_ hsb_ hfe hlw hwq tq kk apq ne stq ST K3 L3 N3 U3 V3 SO TA zf0 zf1 zf2 zf3 zf4 zf5 zo0 zo1 za0 za1 zb0 zb1 BF nkx;rcases(show ok=false\/ok=true by cases ok<;>simp)with rfl|rfl
    . have hp1:p1 i=none:=by
       rcases HSO.out with⟨q,_⟩|⟨_,q,_⟩
       . cases q
       . exact q
      have Hp1:=zsp (show(order.take (j+1)).filterMap p1=(order.take j).filterMap p1 by rw[List.take_add_one,Hij.out,List.filterMap_append];simp[hp1]);clear hp1
      go_wp2
      go_roundw
      case rel=>exact⟨j+1,A3,n3,c3,l3,V,yn,vc,ys,by omega,by go_num,by rw[Hp1.out,Hw2.out];exact HL1.out⟩
      case measure=>simp[intOf];omega
    . have hp1:p1 i=some (bareV u):=by
       rcases HSO.out with⟨_,q⟩|⟨q,_⟩
       . exact q
       . cases q
      have Hp1:=zsp (show(order.take (j+1)).filterMap p1=(order.take j).filterMap p1++[bareV u]by rw[List.take_add_one,Hij.out,List.filterMap_append];simp[hp1]);clear hp1;have y0:wz.cell? ⟨w.heap.size+4,0,none⟩=some (.slice V yn vc):=HL1.out.out.cell 0;have y1:=HL1.out.out.free 0;have y2:=HL1.out.out.lt
      have hVc:∀x∈ [Value.int .i64 u.number,.slice u.a.1 u.words.length u.a.2,.slice u.b.1 u.texts.length u.b.2,.slice u.c.1 u.subs.length u.c.2],x.oneCell'=true:=fun x hx=>by
       have:=zgO [u] x;rw[List.flatMap_cons,List.flatMap_nil,List.append_nil]at this;exact this hx
      have HVc:=zsp hVc;clear hVc
      go_wp2_with (at_builtin;refine zbd zoh rfl (.tmp 66) (.tmp 69) rfl rfl (HL1.out.own.alloc _) rfl (zbJ wz [.int .i64 u.number,.slice u.a.1 u.words.length u.a.2,.slice u.b.1 u.texts.length u.b.2,.slice u.c.1 u.subs.length u.c.2] 69 rfl rfl) HVc.out (by omega) (by unfold maxLen;omega) ?_;intro A8 c8 w8 own8 g8 m8;have hB8:=(HL1.out.out.alloc (.cells #[.int .i64 u.number,.slice u.a.1 u.words.length u.a.2,.slice u.b.1 u.texts.length u.b.2,.slice u.c.1 u.subs.length u.c.2] 69)).beside (HL1.out.own.alloc _) (by decide) g8;have hl8:=hB8.lt;have hf8:=hB8.free 0;have hc8:w8.cell? ⟨w.heap.size+4,0,none⟩=some (.slice V yn vc):=hB8.cell 0)
      go_roundw
      case rel=>
       refine⟨j+1,A3,n3,c3,l3,A8,yn+1,c8,ys++[u],by omega,by go_num,?_⟩;rw[Hp1.out,Hw2.out];refine HL1.out.push ((Ext.refl wz).alloc _) HTA.out (fun q hq=>⟨?_,HU3.out q hq,fun e=> ?_⟩) own8 g8 m8
       . have h1:=HV3.out q hq
         have h2:=HLq.out.st.size;omega
       . have h1:=HV3.out q hq
         have h2:=(HLq.out.own.new_lt e).2;omega
      case measure=>simp[intOf];omega
  . obtain rfl:j=M.n:=by omega
    have hltI:¬(M.n:Int)<M.n:=by omega
    have hE:KLoop w0 w2 wr bk (some ⟨b1,off1,none⟩) sn sc A l (w.heap.size+4) A2 n2 c2 l2 (.slice none 0 0) V yn vc ys (order.filterMap p1) (order.flatMap p2):=by
     have:=HL.out
     rwa[List.take_of_length_le (by omega)]at this
    have HE:=zsp hE;clear hE;have za1:wr.cell? ⟨w.heap.size+1,1,none⟩=some (.slice a.b.1 a.unk.length a.b.2):=HE.out.st.cell (p:=⟨w.heap.size+1,1,none⟩) ⟨Ap.out (w.heap.size+1) (by omega),by simp⟩ Hcell.out.2.1.2;have y0:wr.cell? ⟨w.heap.size+4,1,none⟩=some (.slice none 0 0):=HE.out.out.cell 1;have y1:=HE.out.out.free 1;have y2:=HE.out.out.lt;have hsw:=HE.out.st.size;have la:w.heap.size+1<wr.heap.size:=by omega
    go_upto_region 12 with(fail)
    have HS:=zsp (HE.out.unk (.slice a.b.1 a.unk.length a.b.2));clear za1 y0 y1 y2 la;generalize wr.setCell ⟨w.heap.size+4,1,none⟩ (.slice a.b.1 a.unk.length a.b.2)=ws at*;have hst:=HS.out.st;have BT:BlkT ws (w.heap.size+4) 27 #[.slice V yn vc,.slice a.b.1 a.unk.length a.b.2]:=HS.out.out;have BR:BlkT ws (w.heap.size+3) 27 #[.slice none 0 0,.slice none 0 0]:=HBR.out.stays hst ⟨Ap.out _ (by omega),by omega⟩;have zo:ws.cell? ⟨w.heap.size,1,none⟩=some (.slice o.b.1 o.unk.length o.b.2):=hst.cell (p:=⟨w.heap.size,1,none⟩) ⟨Ap.out (w.heap.size) (by omega),by show w.heap.size≠w.heap.size+4;omega⟩ Hcell.out.1.2;have za:ws.cell? ⟨w.heap.size+1,1,none⟩=some (.slice a.b.1 a.unk.length a.b.2):=hst.cell (p:=⟨w.heap.size+1,1,none⟩) ⟨Ap.out (w.heap.size+1) (by omega),by show w.heap.size+1≠w.heap.size+4;omega⟩ Hcell.out.2.1.2;have zb:ws.cell? ⟨w.heap.size+2,1,none⟩=some (.slice b.b.1 b.unk.length b.b.2):=hst.cell (p:=⟨w.heap.size+2,1,none⟩) ⟨Ap.out (w.heap.size+2) (by omega),by show w.heap.size+2≠w.heap.size+4;omega⟩ Hcell.out.2.2.2;have ts:∀{x:MsgR},zah w x->(∀q,UsesT x q->¬KU bk A l q)->zah ws x:=fun hx hu=>(hx.up HX2.out).stays hst (fun q hq=>⟨hu q hq,by have:=hx.lt hq;omega⟩)
    have hws:WayAt ws B mm dd way:=Reads.stays (Hw.out.ext HX2.out) hst (fun q hq=>⟨Wu.out q hq,by have:=Hw.out.uses_lt hq;omega⟩);have Hws:=zsp hws;have ta:=ts Ha.out Ua.out;have tb:=ts Hb.out Ub.out;have to_:=ts Ho.out Uo.out;have eab:=fun W (E:Ext ws W)=>Eab.out W (ta.up E) (tb.up E)
    have ebo:=fun W (E:Ext ws W)=>Ebo.out W (tb.up E) (to_.up E)
    have eao:=fun W (E:Ext ws W)=>Eao.out W (ta.up E) (to_.up E)
    have hX:Ext ws ws:=Ext.refl ws;have hsz2:=hst.size;have hw2s:w2.heap.size<=ws.heap.size:=hst.size;clear hws ta tb to_ ts hst;by_cases hab:a.unk=b.unk
    . have hR:UK=(a.unk,[]):=by rw[Huk.out,if_pos (.inl hab)]
      simp only[show decide (a.unk=b.unk)=true from decide_eq_true hab]at eab;have HR:=zsp hR;have S0:=zsp eab;clear hR eab ebo eao hab
      go_wp2_with (first
       |(go_at_call 57;(with_reducible refine(S0.out _ (Ext.trans hX xx)).mono ?_);rintro e w5 ⟨rfl,E5⟩;have X_:Ext ws w5:=Ext.trans xx E5;replace hX:=hX.up X_;replace BT:=BT.up X_;replace BR:=BR.up X_;replace zo:=X_.of_cell zo;replace za:=X_.of_cell za;replace zb:=X_.of_cell zb;clear X_;have y0:w5.cell? ⟨w.heap.size+4,0,none⟩=some (.slice V yn vc):=BT.cell 0;have r3:w5.cell? ⟨w.heap.size+3,0,none⟩=some (.slice none 0 0):=BR.cell 0;have r4:w5.cell? ⟨w.heap.size+3,1,none⟩=some (.slice none 0 0):=BR.cell 1;have y1:w5.cell? ⟨w.heap.size+4,1,none⟩=some (.slice a.b.1 a.unk.length a.b.2):=BT.cell 1;have y2:=BT.lt;have yf:=BT.free 1;have r0:=BR.free 0;have r1:=BR.free 1;have r2:=BR.lt))
      (try simp only[Exit.inBlock,Exit.then])
      have B9:=(BR.set_ 0 (.slice V yn vc)).set_ 1 (.slice a.b.1 a.unk.length a.b.2);have S9:=((Stays.refl (fun b=>b≠w.heap.size+3) (w5)).set (p:=⟨w.heap.size+3,0,none⟩) (fun e=>e rfl) (.slice V yn vc)).set (p:=⟨w.heap.size+3,1,none⟩) (fun e=>e rfl) (.slice a.b.1 a.unk.length a.b.2);have E9:=((HS.out.up hX).K.ext.setCell (p:=⟨w.heap.size+3,0,none⟩) (by show _<=w.heap.size+3;omega) (.slice V yn vc)).setCell (p:=⟨w.heap.size+3,1,none⟩) (by show _<=w.heap.size+3;omega) (.slice a.b.1 a.unk.length a.b.2);refine bodyPost_ret (results_cell_row (ty:=27) rfl _ _ (w.heap.size+3) _ _ (0,0) _ rfl B9 underlying27 rfl (by kernel_rfl)) rfl ?_;exact KLoop.done (R:=(.mk () () (order.filterMap p1) UK.1,order.flatMap p2++UK.2)) (HS.out.up hX) rfl (.inl rfl) HX2.out ⟨by omega,by omega⟩ ⟨by omega,by omega⟩ Hk.out Ha.out Ua.out S9 E9 (by rw[HR.out];simp only[List.append_nil])
    . simp only[show decide (a.unk=b.unk)=false from decide_eq_false hab]at eab
      by_cases hbo:b.unk=o.unk
      . have hR:UK=(a.unk,[]):=by rw[Huk.out,if_pos (.inr hbo)]
        simp only[show decide (b.unk=o.unk)=true from decide_eq_true hbo]at ebo;have HR:=zsp hR;have S0:=zsp eab;have S1:=zsp ebo;clear hR eab ebo eao hab hbo
        go_wp2_with (first
         |(go_at_call 57;(with_reducible refine(S0.out _ (Ext.trans hX xx)).mono ?_);rintro e w4 ⟨rfl,E4⟩;have X_:Ext ws w4:=Ext.trans xx E4;replace hX:=hX.up X_;replace BT:=BT.up X_;replace BR:=BR.up X_;replace zo:=X_.of_cell zo;replace za:=X_.of_cell za;replace zb:=X_.of_cell zb;clear X_)
         |(go_at_call 57;(with_reducible refine(S1.out _ (Ext.trans hX xx)).mono ?_);rintro e w5 ⟨rfl,E5⟩;have X_:Ext w4 w5:=Ext.trans xx E5;replace hX:=hX.up X_;replace BT:=BT.up X_;replace BR:=BR.up X_;replace zo:=X_.of_cell zo;replace za:=X_.of_cell za;replace zb:=X_.of_cell zb;clear X_;have y0:w5.cell? ⟨w.heap.size+4,0,none⟩=some (.slice V yn vc):=BT.cell 0;have r3:w5.cell? ⟨w.heap.size+3,0,none⟩=some (.slice none 0 0):=BR.cell 0;have r4:w5.cell? ⟨w.heap.size+3,1,none⟩=some (.slice none 0 0):=BR.cell 1;have y1:w5.cell? ⟨w.heap.size+4,1,none⟩=some (.slice a.b.1 a.unk.length a.b.2):=BT.cell 1;have y2:=BT.lt;have yf:=BT.free 1;have r0:=BR.free 0;have r1:=BR.free 1;have r2:=BR.lt))
        (try simp only[Exit.inBlock,Exit.then])
        have B9:=(BR.set_ 0 (.slice V yn vc)).set_ 1 (.slice a.b.1 a.unk.length a.b.2);have S9:=((Stays.refl (fun b=>b≠w.heap.size+3) (w5)).set (p:=⟨w.heap.size+3,0,none⟩) (fun e=>e rfl) (.slice V yn vc)).set (p:=⟨w.heap.size+3,1,none⟩) (fun e=>e rfl) (.slice a.b.1 a.unk.length a.b.2);have E9:=((HS.out.up hX).K.ext.setCell (p:=⟨w.heap.size+3,0,none⟩) (by show _<=w.heap.size+3;omega) (.slice V yn vc)).setCell (p:=⟨w.heap.size+3,1,none⟩) (by show _<=w.heap.size+3;omega) (.slice a.b.1 a.unk.length a.b.2);refine bodyPost_ret (results_cell_row (ty:=27) rfl _ _ (w.heap.size+3) _ _ (0,0) _ rfl B9 underlying27 rfl (by kernel_rfl)) rfl ?_;exact KLoop.done (R:=(.mk () () (order.filterMap p1) UK.1,order.flatMap p2++UK.2)) (HS.out.up hX) rfl (.inl rfl) HX2.out ⟨by omega,by omega⟩ ⟨by omega,by omega⟩ Hk.out Ha.out Ua.out S9 E9 (by rw[HR.out];simp only[List.append_nil])
      . simp only[show decide (b.unk=o.unk)=false from decide_eq_false hbo]at ebo
        by_cases hao:a.unk=o.unk
        . have hR:UK=(b.unk,[]):=by rw[Huk.out,if_neg (fun q=>q.elim hab hbo),if_pos hao]
          simp only[show decide (a.unk=o.unk)=true from decide_eq_true hao]at eao;have HR:=zsp hR;have S0:=zsp eab;have S1:=zsp ebo;have S2:=zsp eao;clear hR eab ebo eao hab hbo hao
          go_wp2_with (first
           |(go_at_call 57;(with_reducible refine(S0.out _ (Ext.trans hX xx)).mono ?_);rintro e w3 ⟨rfl,E3⟩;have X_:Ext ws w3:=Ext.trans xx E3;replace hX:=hX.up X_;replace BT:=BT.up X_;replace BR:=BR.up X_;replace zo:=X_.of_cell zo;replace za:=X_.of_cell za;replace zb:=X_.of_cell zb;clear X_)
           |(go_at_call 57;(with_reducible refine(S1.out _ (Ext.trans hX xx)).mono ?_);rintro e w4 ⟨rfl,E4⟩;have X_:Ext w3 w4:=Ext.trans xx E4;replace hX:=hX.up X_;replace BT:=BT.up X_;replace BR:=BR.up X_;replace zo:=X_.of_cell zo;replace za:=X_.of_cell za;replace zb:=X_.of_cell zb;clear X_)
           |(go_at_call 57;(with_reducible refine(S2.out _ (Ext.trans hX xx)).mono ?_);rintro e w5 ⟨rfl,E5⟩;have X_:Ext w4 w5:=Ext.trans xx E5;replace hX:=hX.up X_;replace BT:=BT.up X_;replace BR:=BR.up X_;replace zo:=X_.of_cell zo;replace za:=X_.of_cell za;replace zb:=X_.of_cell zb;clear X_;have y0:w5.cell? ⟨w.heap.size+4,0,none⟩=some (.slice V yn vc):=BT.cell 0;have r3:w5.cell? ⟨w.heap.size+3,0,none⟩=some (.slice none 0 0):=BR.cell 0;have r4:w5.cell? ⟨w.heap.size+3,1,none⟩=some (.slice none 0 0):=BR.cell 1;have y1:w5.cell? ⟨w.heap.size+4,1,none⟩=some (.slice a.b.1 a.unk.length a.b.2):=BT.cell 1;have y2:=BT.lt;have yf:=BT.free 1;have r0:=BR.free 0;have r1:=BR.free 1;have r2:=BR.lt))
          replace BR:=BR.far (p:=⟨w.heap.size+4,1,none⟩) (by show w.heap.size+3≠w.heap.size+4;omega) (.slice b.b.1 b.unk.length b.b.2)
          (try simp only[Exit.inBlock,Exit.then])
          have B9:=(BR.set_ 0 (.slice V yn vc)).set_ 1 (.slice b.b.1 b.unk.length b.b.2);have S9:=((Stays.refl (fun b=>b≠w.heap.size+3) (w5.setCell ⟨w.heap.size+4,1,none⟩ (.slice b.b.1 b.unk.length b.b.2))).set (p:=⟨w.heap.size+3,0,none⟩) (fun e=>e rfl) (.slice V yn vc)).set (p:=⟨w.heap.size+3,1,none⟩) (fun e=>e rfl) (.slice b.b.1 b.unk.length b.b.2);have E9:=(((HS.out.up hX).unk (.slice b.b.1 b.unk.length b.b.2)).K.ext.setCell (p:=⟨w.heap.size+3,0,none⟩) (by show _<=w.heap.size+3;omega) (.slice V yn vc)).setCell (p:=⟨w.heap.size+3,1,none⟩) (by show _<=w.heap.size+3;omega) (.slice b.b.1 b.unk.length b.b.2);refine bodyPost_ret (results_cell_row (ty:=27) rfl _ _ (w.heap.size+3) _ _ (0,0) _ rfl B9 underlying27 rfl (by kernel_rfl)) rfl ?_;exact KLoop.done (R:=(.mk () () (order.filterMap p1) UK.1,order.flatMap p2++UK.2)) ((HS.out.up hX).unk (.slice b.b.1 b.unk.length b.b.2)) rfl (.inr rfl) HX2.out ⟨by omega,by omega⟩ ⟨by omega,by omega⟩ Hk.out Hb.out Ub.out S9 E9 (by rw[HR.out];simp only[List.append_nil])
        . have hR:UK=(a.unk,[way]):=by rw[Huk.out,if_neg (fun q=>q.elim hab hbo),if_neg hao]
          simp only[show decide (a.unk=o.unk)=false from decide_eq_false hao]at eao
          have hn2:n2<=1000000000:=by
           have h1:=congrArg List.length HS.out.way;rw[List.length_map,List.length_append,List.length_map]at h1;have h2:=HS.out.K.len;have h3:=Hk.out.len;omega
          have HR:=zsp hR;have S0:=zsp eab;have S1:=zsp ebo;have S2:=zsp eao;clear hR eab ebo eao hab hbo hao
          go_wp2_with (first
           |(go_at_call 57;(with_reducible refine(S0.out _ (Ext.trans hX xx)).mono ?_);rintro e w3 ⟨rfl,E3⟩;have X_:Ext ws w3:=Ext.trans xx E3;replace hX:=hX.up X_;replace BT:=BT.up X_;replace BR:=BR.up X_;replace zo:=X_.of_cell zo;replace za:=X_.of_cell za;replace zb:=X_.of_cell zb;clear X_)
           |(go_at_call 57;(with_reducible refine(S1.out _ (Ext.trans hX xx)).mono ?_);rintro e w4 ⟨rfl,E4⟩;have X_:Ext w3 w4:=Ext.trans xx E4;replace hX:=hX.up X_;replace BT:=BT.up X_;replace BR:=BR.up X_;replace zo:=X_.of_cell zo;replace za:=X_.of_cell za;replace zb:=X_.of_cell zb;clear X_)
           |(go_at_call 57;(with_reducible refine(S2.out _ (Ext.trans hX xx)).mono ?_);rintro e w5 ⟨rfl,E5⟩;have X_:Ext w4 w5:=Ext.trans xx E5;replace hX:=hX.up X_;replace BT:=BT.up X_;replace BR:=BR.up X_;replace zo:=X_.of_cell zo;replace za:=X_.of_cell za;replace zb:=X_.of_cell zb;clear X_)
           |(go_at_call 58;refine(zku (HS.out.K.up (hX.trans xx)) hn2 (Hws.out.ext (hX.trans xx)) (by omega)).mono ?_;rintro e w6 ⟨rfl,A7,n7,c7,l7,K7,L7,S7,N7,_⟩;have HF:=zsp ((HS.out.up hX).step S7 K7 L7 N7);replace BT:BlkT w6 (w.heap.size+4) 27 #[.slice V yn vc,.slice a.b.1 a.unk.length a.b.2]:=HF.out.out;replace BR:=BR.stays S7 (HS.out.kku (by omega) (Ap.out _ (by omega)));have y0:w6.cell? ⟨w.heap.size+4,0,none⟩=some (.slice V yn vc):=BT.cell 0;have r3:w6.cell? ⟨w.heap.size+3,0,none⟩=some (.slice none 0 0):=BR.cell 0;have r4:w6.cell? ⟨w.heap.size+3,1,none⟩=some (.slice none 0 0):=BR.cell 1;have y1:w6.cell? ⟨w.heap.size+4,1,none⟩=some (.slice a.b.1 a.unk.length a.b.2):=BT.cell 1;have y2:=BT.lt;have yf:=BT.free 1;have r0:=BR.free 0;have r1:=BR.free 1;have r2:=BR.lt))
          (try simp only[Exit.inBlock,Exit.then])
          have B9:=(BR.set_ 0 (.slice V yn vc)).set_ 1 (.slice a.b.1 a.unk.length a.b.2);have S9:=((Stays.refl (fun b=>b≠w.heap.size+3) (w6)).set (p:=⟨w.heap.size+3,0,none⟩) (fun e=>e rfl) (.slice V yn vc)).set (p:=⟨w.heap.size+3,1,none⟩) (fun e=>e rfl) (.slice a.b.1 a.unk.length a.b.2);have E9:=(HF.out.K.ext.setCell (p:=⟨w.heap.size+3,0,none⟩) (by show _<=w.heap.size+3;omega) (.slice V yn vc)).setCell (p:=⟨w.heap.size+3,1,none⟩) (by show _<=w.heap.size+3;omega) (.slice a.b.1 a.unk.length a.b.2);refine bodyPost_ret (results_cell_row (ty:=27) rfl _ _ (w.heap.size+3) _ _ (0,0) _ rfl B9 underlying27 rfl (by kernel_rfl)) rfl ?_;exact KLoop.done (R:=(.mk () () (order.filterMap p1) UK.1,order.flatMap p2++UK.2)) HF.out rfl (.inl rfl) HX2.out ⟨by omega,by omega⟩ ⟨by omega,by omega⟩ Hk.out Ha.out Ua.out S9 E9 (by rw[HR.out])
theorem zhy(hm:m<S.length):zaO rs S m (.mk () () [] []):=
 ⟨S[m],List.getElem?_eq_getElem hm,List.Pairwise.nil,fun v hv=>(by cases hv),fun t ht=>(by cases ht)⟩
theorem zlx(hm:m<S.length):∀d,zaE S d m (.mk () () [] [])
 |0=>zhy hm
 |d+1=>zhy hm
theorem zgc{d:Nat}{x:MsgT}(hR:zan S=true)(hM:S[m]?=some M)(hf:M.fields[i]?=some f)(h17:f.kind=17)(hr:f.rep=false)(hx:zaO (zaE S d) S m x):zaE S d f.of_.toNat (subT (sideT x f.number)):=by
 obtain⟨o,ho,hol⟩:=zcj hR hM hf h17;rcases hs:sideT x f.number with _|v
 . rw[ho,Int.toNat_natCast]
   exact zlx hol d
 . obtain⟨y,_,e,h⟩:=zcm (zbP hR hM hx hf hs) h17 hr
   rw[e];exact h
theorem zly{x y:MsgR}{N:Int}(hx:FitT 1000000000000 x)(e:bare y=subT (sideT (bare x) N)):FitT 1000000000000 y:=by
 refine FitT.of_bare y ?_;rw[e];exact ziW (FitT.to_bare x hx) N
theorem zmm{w0:World}{bk:Nat}{SA:Option Addr}{sn sc:Nat}{S:List MsgV}(hR:zan (S.map MsgV.d)=true)(hs:zaj w0 SA sn sc S):∀(d m:Nat)(o a b:MsgR)(w:World)(A:Option Addr)(n c:Nat)(l:List WRow)(B:Option Addr)(mm dd:Nat)(way:Way),m<sn->KS w0 w bk SA sn sc A n c l->
 zah w o->zah w a->zah w b->FitT 1000000000000 o->FitT 1000000000000 a->FitT 1000000000000 b->zaE (S.map MsgV.d) d m (bare o)->zaE (S.map MsgV.d) d m (bare a)->zaE (S.map MsgV.d) d m (bare b)->(∀q,UsesT o q->¬KU bk A l q)->(∀q,UsesT a q->¬KU bk A l q)->(∀q,UsesT b q->¬KU bk A l q)->
 WayAt w B mm dd way->mm+d<=1000000->(∀q,UsesA B mm q->¬KU bk A l q)->n+(zcg (S.map MsgV.d) d m (bare o) (bare a) (bare b) way).2.length<=1000000000->
 Calls prog 27 #[.pointer (some ⟨bk,0,none⟩),.int .i64 (m:Int),.agg #[.slice o.a.1 o.vals.length o.a.2,.slice o.b.1 o.unk.length o.b.2],.agg #[.slice a.a.1 a.vals.length a.a.2,.slice a.b.1 a.unk.length a.b.2],.agg #[.slice b.a.1 b.vals.length b.a.2,.slice b.b.1 b.unk.length b.b.2],.slice B mm dd] w
  (KMade w0 bk SA sn sc A l w a b (zcg (S.map MsgV.d) d m (bare o) (bare a) (bare b) way))
 |0,m,o,a,b,w,A,n,c,l,B,mm,dd,way,hm,h,ho,ha,hb,fo,fa,fb,ro,ra,rb,uo,ua,ub,hw,hml,wu,hn=>by
  refine zkw hR hm hs h ho ha hb fo fa fb (rs:=fun _ _=>False) ro ra rb uo ua ub hw (by omega) wu hn (fun M hM i f hf h17 hr na nb=> ?_);have hMd:(S.map MsgV.d)[m]?=some M.d:=by rw[List.getElem?_map,hM];rfl
  obtain⟨v,hv⟩:=Option.ne_none_iff_exists'.1 na;obtain⟨y,_,_,hy⟩:=zcm (zbP hR hMd ra hf hv) h17 hr;exact hy.elim
 |d+1,m,o,a,b,w,A,n,c,l,B,mm,dd,way,hm,h,ho,ha,hb,fo,fa,fb,ro,ra,rb,uo,ua,ub,hw,hml,wu,hn=>by
  refine zkw hR hm hs h ho ha hb fo fa fb (rs:=zaE (S.map MsgV.d) d) ro ra rb uo ua ub hw (by omega) wu hn (fun M hM i f hf h17 hr na nb W o' a' b' A1 n1 c1 l1 B' d' K1 hn1 eo ea eb to_ ta tb uo' ua' ub' hw' wu'=> ?_);have hMd:(S.map MsgV.d)[m]?=some M.d:=by rw[List.getElem?_map,hM];rfl
  obtain⟨k,hk,hkl⟩:=zcj hR hMd hf h17;have ro':=zgc hR hMd hf h17 hr ro;have ra':=zgc hR hMd hf h17 hr ra;have rb':=zgc hR hMd hf h17 hr rb;rw[hk,Int.toNat_natCast]at hn1 ro' ra' rb'⊢;rw[<-eo,<-ea,<-eb]at hn1⊢;rw[<-eo]at ro';rw[<-ea]at ra';rw[<-eb]at rb';rw[List.length_map]at hkl;have hSl:=hs.length;exact zmm hR hs d k o' a' b' W A1 n1 c1 l1 B' (mm+1) d' _ (by omega) K1 to_ ta tb (zly fo eo) (zly fa ea) (zly fb eb) ro' ra' rb' uo' ua' ub' hw' (by omega) wu' hn1
end Go.Proofs.YtlhbllaojjelcaaGreat
