/- Plain words of layer 26: three meanings made one, and where they clash. No program is named. -/
import Derived.Test.YtlhbllaojjelcaaGreatQhS18
import Derived.Test.YtlhbllaojjelcaaGreatQhM36

set_option linter.unusedVariables false
set_option maxRecDepth 100000
set_option maxHeartbeats 1000000
namespace Go.Proofs.YtlhbllaojjelcaaGreat
open Go.RowKit Tryz
open Go.Lib (uvarint)
abbrev Way:=List Int
def sideT(x:MsgT)(N:Int):Option ValT:=x.vals.find? (fun u=>u.number==N)
def subT:Option ValT->MsgT
 |none=>.mk () () [] []
 |some u=>u.subs.head?.getD (.mk () () [] [])
abbrev Three:=Nat->MsgT->MsgT->MsgT->Way->MsgT×List Way
open Classical in
noncomputable def zav(rec:Three)(f:zaa)(o a b:Option ValT)(way:Way):Option ValT×List Way:=
 if a=b\/b=o then(a,[])else if a=o then(b,[])
 else if f.kind=17/\f.rep=false/\a≠none/\b≠none then(some ⟨(),(),(),f.number,[],[],[(rec f.of_.toNat (subT o) (subT a) (subT b) way).1]⟩,(rec f.of_.toNat (subT o) (subT a) (subT b) way).2)
 else(a,[way])
noncomputable def zbh(rec:Three)(fs:List zaa)(o a b:MsgT)(way:Way)(i:Nat):Option ValT×List Way:=match fs[i]? with
 |none=>(none,[])
 |some f=>zav rec f (sideT o f.number) (sideT a f.number) (sideT b f.number) (way++[f.number])
def unkT(o a b:MsgT)(way:Way):List ByteArray×List Way:=if a.unk=b.unk\/b.unk=o.unk then(a.unk,[])else if a.unk=o.unk then(b.unk,[])else(a.unk,[way])
noncomputable def zbS(rec:Three)(S:List MsgD)(m:Nat)(o a b:MsgT)(way:Way):MsgT×List Way:=match S[m]? with
 |none=>(.mk () () [] [],[])
 |some M=>(.mk () () ((sortK (keyF M.fields) M.fields.length).filterMap fun i=>(zbh rec M.fields o a b way i).1) (unkT o a b way).1,
  ((sortK (keyF M.fields) M.fields.length).flatMap fun i=>(zbh rec M.fields o a b way i).2)++(unkT o a b way).2)
noncomputable def zcg(S:List MsgD):Nat->Three
 |0=>zbS (fun _ _ _ _ _=>(.mk () () [] [],[])) S
 |d+1=>zbS (zcg S d) S
section
variable {rec:Three} {f:zaa} {S:List MsgD} {m:Nat} {M:MsgD}
theorem zjk(o b:Option ValT)(way:Way):zav rec f o o b way=(b,[]):=by
 unfold zav;by_cases h:o=b
 . subst h
   rw[if_pos (.inl rfl)]
 . rw[if_neg (fun q=>q.elim h (fun e=>h e.symm)),if_pos rfl]
theorem zpo(o b:Option ValT)(way:Way):zav rec f o b b way=(b,[]):=by
 unfold zav;rw[if_pos (.inl rfl)]
theorem zdG{o a b:Option ValT}(h1:a≠b)(h2:b≠o)(h3:a≠o)(h4:f.kind=17/\f.rep=false/\a≠none/\b≠none)(way:Way):zav rec f o a b way=(some ⟨(),(),(),f.number,[],[],[(rec f.of_.toNat (subT o) (subT a) (subT b) way).1]⟩,(rec f.of_.toNat (subT o) (subT a) (subT b) way).2):=by
 unfold zav;rw[if_neg (fun q=>q.elim h1 h2),if_neg h3,if_pos h4]
theorem zbD{o a b:Option ValT}(h1:a≠b)(h2:b≠o)(h3:a≠o)(h4:¬(f.kind=17/\f.rep=false/\a≠none/\b≠none))(way:Way):zav rec f o a b way=(a,[way]):=by
 unfold zav;rw[if_neg (fun q=>q.elim h1 h2),if_neg h3,if_neg h4]
def SwapR(r r':MsgT×List Way):Prop:=r.2=r'.2/\(r.2=[]->r.1=r'.1)
theorem zlj(ih:∀(m:Nat)(o a b:MsgT)(way:Way),SwapR (rec m o a b way) (rec m o b a way))(o a b:Option ValT)(way:Way):
 (zav rec f o a b way).2=(zav rec f o b a way).2/\((zav rec f o a b way).2=[]->(zav rec f o a b way).1=(zav rec f o b a way).1):=by
 by_cases h1:a=b
 . subst h1
   exact⟨rfl,fun _=>rfl⟩
 by_cases h2:b=o
 . subst h2
   have e1:zav rec f b a b way=(a,[]):=by
    unfold zav;rw[if_pos (.inr rfl)]
   rw[e1,zjk];exact⟨rfl,fun _=>rfl⟩
 by_cases h3:a=o
 . subst h3
   have e1:zav rec f a b a way=(b,[]):=by
    unfold zav;rw[if_pos (.inr rfl)]
   rw[e1,zjk];exact⟨rfl,fun _=>rfl⟩
 have h1':b≠a:=fun e=>h1 e.symm
 by_cases h4:f.kind=17/\f.rep=false/\a≠none/\b≠none
 . rw[zdG h1 h2 h3 h4,zdG h1' h3 h2 ⟨h4.1,h4.2.1,h4.2.2.2,h4.2.2.1⟩]
   obtain⟨q1,q2⟩:=ih f.of_.toNat (subT o) (subT a) (subT b) way;refine⟨q1,fun e=> ?_⟩;simp only;rw[q2 e]
 . rw[zbD h1 h2 h3 h4,zbD h1' h3 h2 (fun q=>h4 ⟨q.1,q.2.1,q.2.2.2,q.2.2.1⟩)]
   exact⟨rfl,fun e=>by cases e⟩
theorem zof(o a b:MsgT)(way:Way):(unkT o a b way).2=(unkT o b a way).2/\((unkT o a b way).2=[]->(unkT o a b way).1=(unkT o b a way).1):=by
 unfold unkT;by_cases h1:a.unk=b.unk
 . rw[if_pos (.inl h1),if_pos (.inl h1.symm)]
   exact⟨rfl,fun _=>h1⟩
 by_cases h2:b.unk=o.unk
 . rw[if_pos (.inr h2),if_neg (fun q=>q.elim (fun e=>h1 e.symm) (fun e=>h1 (e.trans h2.symm))),if_pos h2]
   exact⟨rfl,fun _=>rfl⟩
 by_cases h3:a.unk=o.unk
 . rw[if_neg (fun q=>q.elim h1 h2),if_pos h3,if_pos (.inr h3)]
   exact⟨rfl,fun _=>rfl⟩
 . rw[if_neg (fun q=>q.elim h1 h2),if_neg h3,if_neg (fun q=>q.elim (fun e=>h1 e.symm) h3),if_neg h2]
   exact⟨rfl,fun e=>by cases e⟩
theorem zhq(ih:∀(m:Nat)(o a b:MsgT)(way:Way),SwapR (rec m o a b way) (rec m o b a way))(o a b:MsgT)(way:Way):SwapR (zbS rec S m o a b way) (zbS rec S m o b a way):=by
 unfold zbS SwapR;rcases S[m]? with _|M
 . exact⟨rfl,fun _=>rfl⟩
 simp only
 have hp:∀i,(zbh rec M.fields o a b way i).2=(zbh rec M.fields o b a way i).2/\((zbh rec M.fields o a b way i).2=[]->(zbh rec M.fields o a b way i).1=(zbh rec M.fields o b a way i).1):=fun i=>by
  unfold zbh;rcases M.fields[i]? with _|f
  . exact⟨rfl,fun _=>rfl⟩
  . exact zlj ih _ _ _ _
 obtain⟨u1,u2⟩:=zof o a b way;refine⟨?_,fun h=> ?_⟩
 . rw[u1]
   congr 1;exact zcr fun i _=>(hp i).1
 . obtain⟨h1,h2⟩:=List.append_eq_nil_iff.1 h
   rw[u2 h2];congr 1;exact zcA fun i hi=>(hp i).2 (List.flatMap_eq_nil_iff.1 h1 i hi)
theorem zfd:∀(d m:Nat)(o a b:MsgT)(way:Way),SwapR (zcg S d m o a b way) (zcg S d m o b a way)
 |0,m,o,a,b,way=>zhq (fun _ _ _ _ _=>⟨rfl,fun _=>rfl⟩) o a b way
 |d+1,m,o,a,b,way=>zhq (zfd d) o a b way
theorem zdH(hR:zan S=true)(hM:S[m]?=some M){rs:Nat->MsgT->Prop}{x:MsgT}(hx:zaO rs S m x):((sortK (keyF M.fields) M.fields.length).filterMap fun i=>sideT x (keyF M.fields i))=x.vals:=by
 obtain⟨M',hM',hp,hv,_⟩:=hx;rw[hM]at hM';cases hM'
 exact zgT (N:=keyF M.fields) (zek hR hM) hp (fun v hvm=>by
  obtain⟨i,f,hf,hr⟩:=hv v hvm
  exact⟨i,zbl.2 (List.getElem?_eq_some_iff.1 hf).1,by rw[zdi hf,hr.1]⟩)
theorem zma(hR:zan S=true){rs:Nat->MsgT->Prop}{o a b:MsgT}(hb:zaO rs S m b)(h:a=o\/a=b)(way:Way):zbS rec S m o a b way=(b,[]):=by
 obtain⟨M,hM,_⟩:=id hb
 have hp:∀i,i<M.fields.length->zbh rec M.fields o a b way i=(sideT b (keyF M.fields i),[]):=fun i hi=>by
  obtain⟨f,hf⟩:∃f,M.fields[i]?=some f:=⟨_,List.getElem?_eq_getElem hi⟩
  unfold zbh;rw[hf,zdi hf];rcases h with rfl|rfl
  . exact zjk _ _ _
  . exact zpo _ _ _
 have hu:unkT o a b way=(b.unk,[]):=by
  unfold unkT;rcases h with rfl|rfl
  . by_cases e:a.unk=b.unk
    . rw[if_pos (.inl e),e]
    . rw[if_neg (fun q=>q.elim e (fun q=>e q.symm)),if_pos rfl]
  . rw[if_pos (.inl rfl)]
 unfold zbS;rw[hM];simp only;rw[hu]
 have e1:((sortK (keyF M.fields) M.fields.length).filterMap fun i=>(zbh rec M.fields o a b way i).1)=b.vals:=by
  refine Eq.trans (zcA fun i hi=> ?_) (zdH hR hM hb);rw[hp i (zbl.1 hi)]
 have e2:((sortK (keyF M.fields) M.fields.length).flatMap fun i=>(zbh rec M.fields o a b way i).2)=[]:=by
  refine List.flatMap_eq_nil_iff.2 fun i hi=> ?_
  rw[hp i (zbl.1 hi)]
 rw[e1,e2];obtain⟨_,_,vals,unk⟩:=b;rfl
theorem zfB(hR:zan S=true){D d:Nat}{o a b:MsgT}(hb:zaE S D m b)(h:a=o\/a=b)(way:Way):zcg S d m o a b way=(b,[]):=by
 have hb':∃rs,zaO rs S m b:=by
  cases D with
  |zero=>exact⟨_,hb⟩
  |succ D=>exact⟨_,hb⟩
 obtain⟨rs,hb'⟩:=hb'
 cases d with
 |zero=>exact zma hR hb' h way
 |succ d=>exact zma hR hb' h way
theorem zbP(hR:zan S=true)(hM:S[m]?=some M){rs:Nat->MsgT->Prop}{x:MsgT}(hx:zaO rs S m x){i:Nat}(hf:M.fields[i]?=some f){v:ValT}(h:sideT x f.number=some v):zbB rs f v:=by
 obtain⟨M',hM',_,hv,_⟩:=hx;rw[hM]at hM';cases hM';have hnum:v.number=f.number:=by have:=List.find?_some h;simpa using this
 obtain⟨j,g,hg,hr⟩:=hv v (List.mem_of_find?_eq_some h)
 have hgf:g=f:=by
  have e1:=(zaQ hR hM hg).2;have e2:=(zaQ hR hM hf).2;have:g.number=f.number:=by rw[<-hr.1,hnum]
  rw[this,e2]at e1;have hij:i=j:=by omega
  subst hij;rw[hf]at hg;cases hg;rfl
 subst hgf;exact hr
theorem zcm{rs:Nat->MsgT->Prop}{v:ValT}(h:zbB rs f v)(h17:f.kind=17)(hr:f.rep=false):∃y,v.subs=[y]/\subT (some v)=y/\rs f.of_.toNat y:=by
 obtain⟨_,h1,h2,h3|h3|h3⟩:=h
 . exact absurd h17 (zbb h3.1)
 . exact absurd h17 h3.2.2.1
 . have hm:=h2 hr
   unfold manyU at hm;rw[h3.2.1,h3.2.2.1]at hm;simp only[List.length_nil]at hm;rcases hs:v.subs with _|⟨y,l⟩
   . rw[hs]at hm
     simp at hm
   . rcases l with _|⟨z,l⟩
     . refine⟨y,rfl,?_,h3.2.2.2 y (by rw[hs];exact List.mem_cons_self)⟩
       show v.subs.head?.getD (.mk () () [] [])=y;rw[hs];rfl
     . rw[hs]at hm
       simp at hm
theorem zlk{rs:Nat->MsgT->Prop}(hrec:∀(m:Nat)(o a b:MsgT)(way:Way),rs m a->rs m b->rs m (rec m o a b way).1){o a b:Option ValT}{way:Way}(ha:∀v,a=some v->zbB rs f v)(hb:∀v,b=some v->zbB rs f v){v:ValT}(h:(zav rec f o a b way).1=some v):zbB rs f v:=by
 unfold zav at h;split at h
 . exact ha v h
 . split at h
   . exact hb v h
   . split at h
     . rename_i h4
       obtain⟨h17,hr,hna,hnb⟩:=h4;obtain⟨va,rfl⟩:=Option.ne_none_iff_exists'.1 hna;obtain⟨vb,rfl⟩:=Option.ne_none_iff_exists'.1 hnb;obtain⟨ya,_,ea,ra⟩:=zcm (ha va rfl) h17 hr;obtain⟨yb,_,eb,rb⟩:=zcm (hb vb rfl) h17 hr;simp only[Option.some.injEq]at h;subst h;refine⟨rfl,by unfold manyU;simp,fun _=>by unfold manyU;simp,.inr (.inr ⟨h17,rfl,rfl,fun y hy=> ?_⟩)⟩;rw[List.mem_singleton]at hy;subst hy;exact hrec _ _ _ _ _ (by rw[ea];exact ra) (by rw[eb];exact rb)
     . exact ha v h
theorem zgu(hR:zan S=true){rs:Nat->MsgT->Prop}(hrec:∀(m:Nat)(o a b:MsgT)(way:Way),rs m a->rs m b->rs m (rec m o a b way).1){o a b:MsgT}(ha:zaO rs S m a)(hb:zaO rs S m b)(way:Way):zaO rs S m (zbS rec S m o a b way).1:=by
 obtain⟨M,hM,_,_,ua⟩:=id ha;obtain⟨M',hM',_,_,ub⟩:=id hb;rw[hM]at hM';cases hM'
 have key:∀i v,(zbh rec M.fields o a b way i).1=some v->∃f,M.fields[i]?=some f/\zbB rs f v:=fun i v h=>by
  unfold zbh at h;rcases hf:M.fields[i]? with _|f
  . rw[hf]at h
    cases h
  . rw[hf]at h
    exact⟨f,rfl,zlk hrec (fun v hv=>zbP hR hM ha hf hv) (fun v hv=>zbP hR hM hb hf hv) h⟩
 unfold zbS;rw[hM];refine⟨M,hM,?_,fun v hv=> ?_,fun t ht=> ?_⟩
 . show List.Pairwise _ (List.filterMap _ _)
   rw[List.pairwise_filterMap];refine(zek hR hM).imp fun{i j} hij u hu v hv=> ?_
   obtain⟨f,hf,hfu⟩:=key i u hu;obtain⟨g,hg,hgv⟩:=key j v hv;rw[zdi hf,zdi hg]at hij;rw[hfu.1,hgv.1];exact hij
 . obtain⟨i,_,hi⟩:=List.mem_filterMap.1 hv
   obtain⟨f,hf,hfu⟩:=key i v hi;exact⟨i,f,hf,hfu⟩
 . have ht:t∈(unkT o a b way).1:=ht
   unfold unkT at ht;split at ht
   . exact ua t ht
   . split at ht
     . exact ub t ht
     . exact ua t ht
theorem zgv(hR:zan S=true):∀(d m:Nat)(o a b:MsgT)(way:Way),zaE S d m a->zaE S d m b->zaE S d m (zcg S d m o a b way).1
 |0,m,o,a,b,way,ha,hb=>zgu hR (fun _ _ _ _ _ h _=>h.elim) ha hb way
 |d+1,m,o,a,b,way,ha,hb=>zgu hR (fun m o a b way=>zgv hR d m o a b way) ha hb way
end
end Go.Proofs.YtlhbllaojjelcaaGreat
namespace Go.Proofs.YtlhbllaojjelcaaGreat
open Go.RowKit Tryz
theorem zkf(k:Int)(bs:List UInt8):∀x∈(zbR k bs).1,x<18446744073709551616:=by
 intro x hx;unfold zbR at hx;split at hx
 . obtain⟨v,_,rfl⟩:=List.mem_map.1 hx
   exact(zcU k v.1).1
 . cases hx
theorem zkg:Elem prog 67 27 2 48:=Elem.mk' (z:=.agg #[.slice none 0 0,.slice none 0 0]) underlying67 (by kernel_rfl) rfl (by omega)
def OfP(S:List MsgV)(d:Nat)(sub:Nat->List UInt8->MsgT):Prop:=∀(w:World)(SA:Option Addr)(sn sc m:Nat)(A:Option Addr)(n c:Nat)(bs:List UInt8),zaj w SA sn sc S->m<S.length->zab w A n c bs->n<d->
 Calls prog 97 #[.slice SA sn sc,.int .i64 (m:Int),.slice A n c] w fun e w'=>∃y,e=.returned (treeV y)/\bare y=sub m bs/\zah w' y/\(∀b,UsesT y b->w.heap.size<=b)/\Ext w w'
theorem pAdd{w0 w:World}{p:zaP}{v:ViewD}{A:Option Addr}{n c:Nat}{val:List UInt8}(hp:zbo w0 w p)(hv:zab w0 A n c val)(hn:n<=1000000)(hw:p.ws.length<=1000000)(hs:p.vs.length<=1000000):
 Calls prog 138 #[ptrP p,viewV v,.slice A n c] w fun e w'=>e=.returned (.tuple #[])/\∃p',Grew w0 w w' p p'/\p'.ws=p.ws++zhn p.f v.run val/\p'.vs.map BRow.bs=p.vs.map BRow.bs++zfc p.f v.run val:=by
 have hx:w0.heap.size<=w.heap.size:=hp.words.ext.size;have c2:w.cell? ⟨p.b,2,none⟩=some (.int .i64 p.f.kind):=hp.blk.cell 2;have c6:w.cell? ⟨p.b,6,none⟩=some (.slice p.A p.ws.length p.c):=hp.blk.cell 6;have c7:w.cell? ⟨p.b,7,none⟩=some (.slice p.B p.vs.length p.d):=hp.blk.cell 7;have hbl:=hp.blk.lt;have f6:=hp.blk.free 6;have f7:=hp.blk.free 7;have hvw:=hv.ext hp.words.ext;have hvl:=hv.length;have hl:=zeb p.f.kind val;have hsml:=zkf p.f.kind val;have Hp:=zsp hp;have Hv:=zsp hv;have hN:=fun W=>zba p.f.kind W
 clear hp hv;unfold ptrP viewV;rcases hrun:v.run with _|_
 . rcases hk:zad p.f.kind with _|_
   . have HN:=zsp hN
     rw[hk]at HN
     have hWX:zhn p.f false val=[]/\zfc p.f false val=[val]:=by
      unfold zhn zfc;rw[hk];exact⟨rfl,rfl⟩
     rw[hWX.1,hWX.2];clear hN hvl hl hsml hWX
     go_enter func138,ntmps138
     go_wp2_with (first
      |(go_at_call 111;refine(HN.out _).mono ?_;rintro e w1 ⟨rfl,E1'⟩;have E1:Ext w w1:=Ext.trans xx E1';have hp1:=Hp.out.up E1;have d7:=E1.of_cell c7;have bl1:=Nat.lt_of_lt_of_le hbl E1.size)
      |(at_builtin;refine zbd zrK rfl (.tmp 14) (.tmp 16) rfl rfl (hp1.vals.alloc _) rfl (zcF w1 (.slice A n c) 46 rfl) (by simp[Value.oneCell']) (by omega) (by unfold maxLen;omega) ?_;intro A4 c4 w4 own4 g4 m4;have B4:=(hp1.blk.alloc (.cells #[.slice A n c] 46)).beside (hp1.vals.alloc _) (by decide) g4;have z7:w4.cell? ⟨p.b,7,none⟩=some (.slice p.B p.vs.length p.d):=B4.cell 7;have zf:=B4.free 7;have zl:=B4.lt))
     go_end0
     have hG:=znx (r:=⟨A,n,c,val⟩) Hp.out (E1.alloc _) Hv.out own4 g4 m4;exact⟨rfl,_,hG,by simp,by simp⟩
   . have HN:=zsp hN
     rw[hk]at HN
     have hWX:zhn p.f false val=[(readS p.f.kind val).1]/\zfc p.f false val=[]:=by
      unfold zhn zfc;rw[hk];exact⟨rfl,rfl⟩
     rw[hWX.1,hWX.2];have hrs:=(zcU p.f.kind val).1;rcases hrd:readS p.f.kind val with⟨W,C⟩
     rw[hrd]at hrs;simp only at hrs;have hR:=fun W (h:zab W A n c val)=>sRead h hrd
     have HR:=zsp hR;clear hN hvl hl hsml hWX hR hrd
     go_enter func138,ntmps138
     go_wp2_with (first
      |(go_at_call 111;refine(HN.out _).mono ?_;rintro e w1 ⟨rfl,E1'⟩;have E1:Ext w w1:=Ext.trans xx E1';have d2:=E1.of_cell c2)
      |(go_at_call 113;refine(HR.out _ (hvw.up E1)).mono ?_;rintro e w2 ⟨rfl,E2'⟩;have E2:Ext w w2:=Ext.trans E1 E2';have hp1:=Hp.out.up E2;have d6:=E2.of_cell c6;have bl1:=Nat.lt_of_lt_of_le hbl E2.size)
      |(at_builtin;refine zbd elemU rfl (.tmp 63) (.tmp 65) rfl rfl (hp1.words.alloc _) rfl (zcF w2 (.int .u64 (W:Int)) 100 rfl) (by simp[Value.oneCell']) (by omega) (by unfold maxLen;omega) ?_;intro A4 c4 w4 own4 g4 m4;have B4:=(hp1.blk.alloc (.cells #[.int .u64 (W:Int)] 100)).beside (hp1.words.alloc _) (by decide) g4;have z6:w4.cell? ⟨p.b,6,none⟩=some (.slice p.A p.ws.length p.c):=B4.cell 6;have zf:=B4.free 6;have zl:=B4.lt))
     go_end0
     have hG:=zhM (ys:=[W]) Hp.out (E2.alloc _) rfl (by simpa using hrs) own4 g4 m4;exact⟨rfl,_,hG,by simp,by simp⟩
 . have hW:=fun W (h:zab W A n c val)=>zqu (k:=p.f.kind) h (by omega:n<=1000000000)
   have hWX:zhn p.f true val=(zbR p.f.kind val).1/\zfc p.f true val=[]:=⟨rfl,rfl⟩
   rw[hWX.1,hWX.2];clear hWX;generalize zbR p.f.kind val=WS at*;obtain⟨ws,C⟩:=WS;simp only at hW hl hsml;generalize hm:ws.length=m at*;have HW:=zsp hW;have Hsml:=zsp hsml;have Hm:=zsp hm;clear hW hsml hm
   go_enter func138,ntmps138
   go_wp2_with (first
    |(go_at_call 148;refine(HW.out _ (hvw.up xx)).mono ?_;rintro e w1 ⟨A1,c1,rfl,own1⟩;have E1:Ext w w1:=Ext.trans xx own1.ext;have hp1:=Hp.out.up E1;have d6:=E1.of_cell c6;have bl1:=Nat.lt_of_lt_of_le hbl E1.size)
    |(at_builtin;refine zbd elemU rfl (.tmp 37) (.tmp 38) rfl rfl hp1.words rfl own1.reads (zoV _) (by omega) (by unfold maxLen;omega) ?_;intro A4 c4 w4 own4 g4 m4;have B4:=hp1.blk.beside hp1.words (by decide) g4;have z6:w4.cell? ⟨p.b,6,none⟩=some (.slice p.A p.ws.length p.c):=B4.cell 6;have zf:=B4.free 6;have zl:=B4.lt))
   go_end0
   have hG:=zhM Hp.out E1 Hm.out Hsml.out own4 g4 m4;exact⟨rfl,_,hG,rfl,by simp⟩
end Go.Proofs.YtlhbllaojjelcaaGreat
