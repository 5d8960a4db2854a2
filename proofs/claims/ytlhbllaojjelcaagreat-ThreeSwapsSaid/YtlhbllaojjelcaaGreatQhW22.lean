/- Contracts of layer 16: a writer writes a meaning; canon.Encode, canon.Is. -/
import Derived.Test.YtlhbllaojjelcaaGreatQhW16s

set_option linter.unusedVariables false
set_option maxRecDepth 100000
set_option maxHeartbeats 4000000
namespace Go.Proofs.YtlhbllaojjelcaaGreat
open Go.RowKit Go.Shelf Go.Proofs.Tryz
variable{xs:List UInt8}{n c:Nat}{A:Option Addr}{w0 w:World}
theorem zgA(ty:TypeId)(h:Own w0 w 5 1 A n c (xs.map bv))(t:ByteArray)(hb:n+t.data.toList.length<=140737488355328):
 ∃A' c' w',(Builtin.append_ #[46,9] ty #[.slice A n c,.string t]).run prog w=.ok (.slice A' (n+t.data.toList.length) c') w'/\Own w0 w' 5 1 A' (n+t.data.toList.length) c' ((xs++t.data.toList).map bv)/\w.grownBy w' (Value.slice A n c).ownBlock/\Moved w A A':=by
 obtain⟨A',c',w',hrun,h2,h3⟩:=zht ty h t hb;refine⟨A',c',w',hrun,h2,h3,?_⟩;obtain⟨i,hi,hz,q1,q2⟩:=infoB;have hsz:t.size=t.data.toList.length:=rfl;rcases h.row.2 with⟨hv,hn0⟩|⟨g,cap,cur,hv,hbg,hg,hnc,hcm,hcs,htake⟩
 . cases hv
   by_cases h0:t.size=0
   . have hr:=h2.row.2
     rcases hr with⟨hv',_⟩|⟨g,cap,cur,hv',hbg,hg,hnc,hcm,hcs,htake⟩
     . injection hv' with e1 _ _
       rw[e1];exact .inl rfl
     . have hf:=Go.Lib.run_firstCells_string (P:=prog) w 1 t
       rw[h0]at hf
       have hz0:(Builtin.append_ #[46,9] ty #[.slice none 0 0,.string t]).run prog w=.ok (.slice none 0 0) w:=by
        simp[Builtin.append_,run_underlying underlying46,run_underlying underlying9,sizeOf,typeInfo,hi,q1,Builtin.lenOf,h0,hf]
       rw[hz0]at hrun;injection hrun with e1 _;injection e1 with e2 _ _;rw[<-e2];exact .inl rfl
   . have hr:=Go.run_append_nil_string (P:=prog) w 46 9 ty 5 i (.int .u8 0) underlying46 underlying9 hi hz t (by omega) (by omega) (by rw[q2];omega)
     rw[hr]at hrun;injection hrun with e1 _;injection e1 with e2 _ _;rw[<-e2];exact .inr rfl
 . cases hv
   by_cases hroom:n+t.size<=c
   . have hcs':cur.size=c:=by simpa using hcs
     have hr:=Go.Lib.run_append_room_string (P:=prog) w 46 9 ty 5 i underlying46 underlying9 hi q1 g n c cur hg t hroom (by omega);rw[hr]at hrun;injection hrun with e1 _;injection e1 with e2 _ _;rw[<-e2];exact .inl rfl
   . have holds:∀j u,(xs.map bv)[j]?=some u->w.cell? ((⟨g,0,none⟩:Addr).add j)=some u:=h.row.cells (g:=g) rfl
     have hxl:(xs.map bv).length=n:=by have:=h.row.1;simpa using this
     have hr:=Go.Lib.run_append_grow_string (P:=prog) w 46 9 ty 5 i (.int .u8 0) underlying46 underlying9 hi hz ⟨g,0,none⟩ n c (xs.map bv) (by rw[q1];omega) holds t (by omega) (by omega) (by rw[q2];exact growslice_fits (by omega) (by omega));rw[hr]at hrun;injection hrun with e1 _;injection e1 with e2 _ _;rw[<-e2];exact .inr rfl
theorem zkr{ops:Array Oper}{rest:List Oper}{o:Oper}{a:Act}{Q:Exit->Act->World->Prop}(hgd:Region.wanted o (yielded ops a.tmps)=true)(s x:Operand)(ho:o.op=.call {callee:=.builtin .append,args:=#[s,x],argTypes:=#[46,9]})(hs:a.eval s=.slice A n c)(h:Own w0 w 5 1 A n c (xs.map bv)){t:ByteArray}(hx:a.eval x=.string t)(hb:n+t.data.toList.length<=140737488355328)(k:∀A' c' w',Own w0 w' 5 1 A' (n+t.data.toList.length) c' ((xs++t.data.toList).map bv)->w.grownBy w' (Value.slice A n c).ownBlock->Moved w A A'->wpList prog ops Q rest (a.put o.dst (.slice A' (n+t.data.toList.length) c')) w'):wpList prog ops Q (o::rest) a w:=by
 obtain⟨A',c',w',hrun,h2,h3,h4⟩:=zgA o.type h t hb;refine wpList_step fun _ hK=> ?_
 rw[if_pos hgd];unfold Oper.wp execOp;simp only[ho,resolve,invoke,builtin,Sem.run_bind,Sem.run_pure,Result.andThen_ok,List.map_toArray,List.map_cons,List.map_nil,hs,hx,hrun];exact hK _ _ (k A' c' w' h2 h3 h4)
variable{rs:Nat->MsgT->Prop}{se:Nat->MsgT->List UInt8}{sn sc bw:Nat}{SA:Option Addr}{wr:World}
theorem zqj{f:zaa}{v:ValR}(h:WrS w0 wr bw SA sn sc xs A n c)(hn:n<=1000000)(hv:ValAt w0 v)(hF:zbB rs f (bareV v))(hkb:kindB f.kind=true)(r2:zao f.number 2=true)(rw_:zao f.number (wireI f.kind)=true)(hl:(zaU se f (bareV v)).flatten.length<=1000000)(hp:f.kind=17->∀y∈v.subs,∀(w1 w2:World)(bw2:Nat)(A2:Option Addr)(n2 c2:Nat),Ext w0 w1->WrS w1 w2 bw2 SA sn sc [] A2 n2 c2->Calls prog 98 #[.pointer (some ⟨bw2,0,none⟩),.int .i64 f.of_,treeV y] w2 (zeD w1 bw2 SA sn sc [] A2 w2 (se f.of_.toNat (bare y)))):
 Calls prog 140 #[.pointer (some ⟨bw,0,none⟩),zau f,tvalV v] wr (zeD w0 bw SA sn sc xs A wr (zaU se f (bareV v)).flatten):=by
 have h64:=hv.own.small;obtain⟨_,h2,h3,h4⟩:=hF;rcases hk:zad f.kind with _|_
 . have hE:zaU se f (bareV v)=(v.texts.map fun t=>putB f.number 2 t.data.toList)++v.subs.map fun y=>putB f.number 2 (se f.of_.toNat (bare y)):=by
    unfold zaU;rw[if_neg (by rw[hk];decide)];unfold bareV;simp only[List.map_map];rfl
   rw[hE,List.flatten_append]at hl⊢;rw[List.length_append]at hl;refine zls (se:=fun y=>se f.of_.toNat (bare y)) h hn hv hk hkb r2 (fun y hy=>hp ?_ y hy) (Nat.le_trans (Nat.add_le_add hn hl) (by omega));rcases h4 with⟨q,_⟩|⟨_,_,_,_,q,_⟩|⟨q,_⟩
   . rw[hk]at q
     cases q
   . have q':v.subs.map bare=[]:=q
     rw[List.map_eq_nil_iff]at q';rw[q']at hy;cases hy
   . exact q
 . have ht:v.texts=[]/\v.subs=[]:=by
    rcases h4 with⟨_,q1,q2,_⟩|⟨q,_⟩|⟨q,_⟩
    . exact⟨q1,List.map_eq_nil_iff.1 q2⟩
    . rw[hk]at q
      cases q
    . rw[q]at hk
      exact absurd hk (by decide)
   rcases hr:f.rep with _|_
   . have h1:v.words.length=1:=by
      have:=h3 hr;unfold manyU bareV at this;simp only[List.length_map,ht.1,ht.2,List.length_nil]at this;omega
     obtain⟨x,hw⟩:=List.length_eq_one_iff.1 h1
     have hE:(zaU se f (bareV v)).flatten=putB f.number (wireI f.kind) (putS f.kind x):=by
      unfold zaU;rw[if_pos hk,if_neg (by rw[hr];decide)];unfold bareV;simp only[hw];simp
     rw[hE];exact zni h hn hv hk hkb hr (by rw[ht.1];rfl) (by rw[ht.2];rfl) hw rw_
   . have hE:(zaU se f (bareV v)).flatten=putB f.number 2 (packW f.kind v.words):=by
      unfold zaU;rw[if_pos hk,if_pos hr];unfold bareV;simp
     rw[hE]at hl⊢;have h5:=zeA f.number (packW f.kind v.words);have h6:=zme f.kind v.words h64;exact zow h hn hv hk hkb hr (by rw[ht.1];rfl) (by rw[ht.2];rfl) (by omega) r2
variable{x:MsgR}{m:Nat}{S:List MsgV}
theorem zks(hR:zan (S.map MsgV.d)=true)(hs:zaj w0 SA sn sc S)(hx:zah w0 x)(hr:zaO rs (S.map MsgV.d) m (bare x))(h:WrS w0 wr bw SA sn sc xs A n c)(hl:n+(encC se (S.map MsgV.d) m (bare x)).flatten.length<=1000000)(hp:∀v∈x.vals,∀(M:MsgV)(i:Nat)(f:zaa),S[m]?=some M->M.d.fields[i]?=some f->zbB rs f (bareV v)->(zaU se f (bareV v)).flatten.length<=1000000->∀(wq:World)(ys:List UInt8)(A1:Option Addr)(n1 c1:Nat),WrS w0 wq bw SA sn sc ys A1 n1 c1->n1<=1000000->Calls prog 140 #[.pointer (some ⟨bw,0,none⟩),zau f,tvalV v] wq (zeD w0 bw SA sn sc ys A1 wq (zaU se f (bareV v)).flatten)):
 Calls prog 98 #[.pointer (some ⟨bw,0,none⟩),.int .i64 (m:Int),treeV x] wr (zeD w0 bw SA sn sc xs A wr (encC se (S.map MsgV.d) m (bare x)).flatten):=by
 obtain⟨MD,hMd,hpw,hvals,hunk⟩:=hr;have hSl:=hs.length
 have hml:m<sn:=by
  have:=(List.getElem?_eq_some_iff.1 hMd).1;rw[List.length_map]at this;omega
 obtain⟨b1,off1,M,hSA,hM,hf,hnm,hb1,s0,s1⟩:=hs.msg (k:=m) hml;subst hSA;have hMM:MD=M.d:=by rw[List.getElem?_map,hM]at hMd;exact(Option.some.inj hMd).symm
 subst hMM;have hn1:sn<=1000000:=by have:=(zfT hR).2.1;rw[List.length_map]at this;omega
 have hMn:M.n<=1000000:=by have:=(zbk hR hMd).2.2.1;have:=hf.length;omega
 obtain⟨E,hE⟩:∃E:ValR->List UInt8,E=fun v=>match M.d.fields.find? (fun f:zaa=>f.number==v.number)with|none=>[]|some f=>(zaU se f (bareV v)).flatten:=⟨_,rfl⟩
 obtain⟨T,hT⟩:∃T,T=x.vals.map E:=⟨_,rfl⟩
 obtain⟨U,hU⟩:∃U,U=x.unk.map fun t=>t.data.toList:=⟨_,rfl⟩
 have hall:(encC se (S.map MsgV.d) m (bare x)).flatten=T.flatten++U.flatten:=by
  unfold encC;rw[hMd,zbf];simp only;rw[List.flatten_append,zeh,hT,hU,hE];congr 2;show((x.vals.map bareV).map _)=_;rw[List.map_map];refine List.map_congr_left fun v _=> ?_
  simp only[Function.comp];show(match M.d.fields.find? (fun f:zaa=>f.number==v.number)with|none=>[]|some f=>zaU se f (bareV v)).flatten=_;rcases M.d.fields.find? (fun f:zaa=>f.number==v.number)with _|f
  . rfl
  . rfl
 rw[hall]at hl⊢;rw[List.length_append]at hl;have hTl:T.length=x.vals.length:=by rw[hT,List.length_map]
 have hUl:U.length=x.unk.length:=by rw[hU,List.length_map]
 have hTs:∀k v,x.vals[k]?=some v->∃(i:Nat)(f:zaa),M.d.fields[i]?=some f/\i<M.n/\idxB (fun g=>g.number==v.number) M.d.fields=(i:Nat)/\xs++(T.take (k+1)).flatten=(xs++(T.take k).flatten)++(zaU se f (bareV v)).flatten/\(xs++(T.take k).flatten).length<=1000000/\
  ∀(wq:World)(ys:List UInt8)(A1:Option Addr)(n1 c1:Nat),WrS w0 wq bw (some ⟨b1,off1,none⟩) sn sc ys A1 n1 c1->n1<=1000000->Calls prog 140 #[.pointer (some ⟨bw,0,none⟩),zau f,tvalV v] wq (zeD w0 bw (some ⟨b1,off1,none⟩) sn sc ys A1 wq (zaU se f (bareV v)).flatten):=fun k v q=>by
  have hvm:=List.mem_of_getElem? q;have hbm:bareV v∈(bare x).vals:=by rw[zbf];exact List.mem_map_of_mem hvm
  obtain⟨i,f,hfi,hF⟩:=hvals _ hbm;have hnum:v.number=f.number:=hF.1
  have hidx:idxB (fun g:zaa=>g.number==v.number) M.d.fields=(i:Nat):=by
   have:=(zaQ hR hMd hfi).2;rw[<-this,hnum];rfl
  have hfind:M.d.fields.find? (fun g=>g.number==v.number)=some f:=(zaX (p:=fun g:zaa=>g.number==v.number) (l:=M.d.fields)).2 i f hidx hfi;have hEv:E v=(zaU se f (bareV v)).flatten:=by rw[hE];simp only;rw[hfind]
  have hm:T[k]?=some ((zaU se f (bareV v)).flatten):=by rw[hT,List.getElem?_map,q,<-hEv];rfl
  have h1:=zaD (List.mem_of_getElem? hm);have h2:=zfD (T:=T) k;have hi:=(List.getElem?_eq_some_iff.1 hfi).1;have:=hf.length;have h4:=h.nL;exact⟨i,f,hfi,by omega,hidx,by rw[zap _ _ _ hm,List.flatten_append];simp,by rw[List.length_append];omega,hp v hvm M i f hM hfi hF (by omega)⟩
 have hUs:∀k t,x.unk[k]?=some t->xs++(T.flatten++(U.take (k+1)).flatten)=(xs++(T.flatten++(U.take k).flatten))++t.data.toList/\(xs++(T.flatten++(U.take k).flatten)).length<=1000000/\t.data.toList.length<=1000000:=fun k t q=>by
  have hm:U[k]?=some t.data.toList:=by rw[hU,List.getElem?_map,q];rfl
  have h1:=zaD (List.mem_of_getElem? hm);have h2:=zfD (T:=U) k;have h4:=h.nL;exact⟨by rw[zap _ _ _ hm,List.flatten_append];simp,by rw[List.length_append,List.length_append];omega,by omega⟩
 have hby:=fun(W:World)(y:Int)(i:Nat)(h:Ext w0 W)(hi:idxB (fun g=>g.number==y) M.d.fields=(i:Nat))=>zfI (s:=M.d.name) (x:=y) (hf.up h) (show M.n<=1000000000000 by omega) hi
 have hlt:=fun(b:Nat)(hb:wr.heap.size<=b)=>h.lt hb
 have HTs:=zsp hTs;have HUs:=zsp hUs;have HTl:=zsp hTl;have HUl:=zsp hUl
 have Hby:=zsp hby;have Hlt:=zsp hlt;have Hf:=zsp hf;have Hx:=zsp hx;have Hh:=zsp h;have tcap:=hx.vals.cap;have scap:=hx.unk.at_.cap;have tmax:=hx.vals.max;have smax:=hx.unk.at_.max;unfold maxLen at tmax smax;have mI:(m:Int)<sn:=by omega
 clear hTs hUs hTl hUl hby hlt hf hx h hall hT hU hE hl hp hvals hunk hpw hMd hM hR hs hSl;unfold treeV
 go_enter func98,ntmps98
 go_wp2
 have BX:=BlkT.new wr 27 #[.slice x.a.1 x.vals.length x.a.2,.slice x.b.1 x.unk.length x.b.2] rfl;have X0:Ext wr (wr.alloc (.cells #[.slice x.a.1 x.vals.length x.a.2,.slice x.b.1 x.unk.length x.b.2] 27)):=(Ext.refl wr).alloc _;generalize wr.alloc (.cells #[.slice x.a.1 x.vals.length x.a.2,.slice x.b.1 x.unk.length x.b.2] 27)=wx at*;have hx1:wx.cell? ⟨wr.heap.size,1,none⟩=some (.slice x.b.1 x.unk.length x.b.2):=BX.cell 1;have Hx1:=zsp hx1;have lx:=BX.lt;have hWx:=Hh.out.up X0;have HX0:=zsp X0;clear hx1 BX X0
 go_loopw [7,8,9,15] (fun _ _ _ i wq=>∃(k:Nat)(A1:Option Addr)(n1 c1:Nat),k<=x.vals.length/\i=.int .i64 (k:Int)/\WrS w0 wq bw (some ⟨b1,off1,none⟩) sn sc (xs++(T.take k).flatten) A1 n1 c1/\Went wx wq bw A A1) (fun _ _ _ i _=>x.vals.length - (intOf i).toNat)
 case atStart=>exact⟨0,A,n,c,Nat.zero_le _,rfl,by rw[List.take_zero,List.flatten_nil,List.append_nil];exact hWx,Went.refl _ _ _⟩
 case round=>
  rename World=>wq
  obtain⟨k,A1,n1,c1,hkk,rfl,hW1,hG⟩:=hrel;by_cases hlt:k<x.vals.length
  . have hltI:(k:Int)<x.vals.length:=by omega
    obtain⟨b5,off5,v,hA,hvk,hb5,e0,e1,e2,e3⟩:=zdO Hx.out.vals hlt;have hvm:=List.mem_of_getElem? hvk;obtain⟨i,f,hfi,hin,hidx,hs1,hs2,hcall⟩:=HTs.out k v hvk;obtain⟨b8,off8,f',hA8,hff,hok8,hb8,g0,g1,g2,g3,g4,g5⟩:=Hf.out.field hin;rw[hfi]at hff;cases hff;have E0:=hW1.own.ext;have o0:wq.cell? ⟨bw,0,none⟩=some (.slice (some ⟨b1,off1,none⟩) sn sc):=hW1.o.cell 0;have ol:=hW1.o.lt;rw[<-hW1.nL]at hs2;have hby:=fun(W:World)(h:Ext w0 W)=>Hby.out W v.number i h hidx
    rw[show max (i:Int) 0=i by omega,show decide ((0:Int)<=(i:Int))=true by rw[decide_eq_true_iff];omega,hA8]at hby;have s1x:=s1;rw[hA8]at s1x;have iI:(i:Int)<M.n:=by omega
    unfold zau tvalV at hcall
    have Hby2:=zsp hby;have Hcall:=zsp hcall;have Hs1:=zsp hs1;have HG:=zsp hG;have HW:=zsp hW1;have l5:=Nat.lt_of_lt_of_le hb5 E0.size;have l8:=Nat.lt_of_lt_of_le hb8 E0.size;have lb:=Nat.lt_of_lt_of_le hb1 E0.size;have e0q:=E0.of_cell e0;have e1q:=E0.of_cell e1;have e2q:=E0.of_cell e2;have e3q:=E0.of_cell e3;have s0q:=E0.of_cell s0;have s1q:=E0.of_cell s1x;have Hs1x:=zsp s1x;have hgs:=And.intro g0 (And.intro g1 (And.intro g2 (And.intro g3 (And.intro g4 g5))));have Hgs:=zsp hgs;rw[hA];clear hby hcall hs1 hG hW1 hfi hidx hA8 hvk e0 e1 e2 e3 s1x hgs g0 g1 g2 g3 g4 g5;have BV:=BlkT.new wq 69 #[.int .i64 v.number,.slice v.a.1 v.words.length v.a.2,.slice v.b.1 v.texts.length v.b.2,.slice v.c.1 v.subs.length v.c.2] rfl;have Xv:Ext wq (wq.alloc (.cells #[.int .i64 v.number,.slice v.a.1 v.words.length v.a.2,.slice v.b.1 v.texts.length v.b.2,.slice v.c.1 v.subs.length v.c.2] 69)):=(Ext.refl wq).alloc _
    go_wp2_with fail
    generalize wq.alloc (.cells #[.int .i64 v.number,.slice v.a.1 v.words.length v.a.2,.slice v.b.1 v.texts.length v.b.2,.slice v.c.1 v.subs.length v.c.2] 69)=wv at*;have z0:wv.cell? ⟨wq.heap.size,0,none⟩=some (.int .i64 v.number):=BV.cell 0;have z1:wv.cell? ⟨wq.heap.size,1,none⟩=some (.slice v.a.1 v.words.length v.a.2):=BV.cell 1;have z2:wv.cell? ⟨wq.heap.size,2,none⟩=some (.slice v.b.1 v.texts.length v.b.2):=BV.cell 2;have z3:wv.cell? ⟨wq.heap.size,3,none⟩=some (.slice v.c.1 v.subs.length v.c.2):=BV.cell 3;have zl:=BV.lt;have Xvv:Ext wv wv:=Ext.refl wv;have o0v:=Xv.of_cell o0;have s0v:=Xv.of_cell s0q;have s1v:=Xv.of_cell s1q;have lbv:=Nat.lt_of_lt_of_le lb Xv.size;have olv:=Nat.lt_of_lt_of_le ol Xv.size;clear BV o0 s0q s1q e0q e1q e2q e3q
    go_region_held3 (fun W=>Ext wv W/\∀b o,b<wv.heap.size->W.cell? ⟨b,o,none⟩=wv.cell? ⟨b,o,none⟩) ((refine Ext.keep ?_;repeat with_reducible (first|assumption|exact Ext.refl _|refine Ext.alloc ?_ _|refine Ext.drew ?_|refine Ext.drewN ?_ _|refine Ext.setCell ?_ (by first|omega|(simp<;>omega)) _))) (first|(go_split_ands;go_at_call 83;refine(Hby2.out _ (E0.trans (Xv.trans (by with_reducible assumption)))).mono ?_;rintro e w5 ⟨rfl,E5⟩;have q5:Ext wv w5:=Ext.trans (by with_reducible assumption) E5))
    rename Ext wv w5/\_=>hS5
    clear hS5;have X5:Ext wq w5:=Xv.trans q5;have HX5:=zsp X5;have o05:=q5.of_cell o0v;have s15:=q5.of_cell s1v;have z05:=q5.of_cell z0;have z15:=q5.of_cell z1;have z25:=q5.of_cell z2;have z35:=q5.of_cell z3;have g05:=(E0.trans X5).of_cell Hgs.out.1;have g15:=(E0.trans X5).of_cell Hgs.out.2.1;have g25:=(E0.trans X5).of_cell Hgs.out.2.2.1;have g35:=(E0.trans X5).of_cell Hgs.out.2.2.2.1;have g45:=(E0.trans X5).of_cell Hgs.out.2.2.2.2.1;have g55:=(E0.trans X5).of_cell Hgs.out.2.2.2.2.2;clear z0 z1 z2 z3 o0v s0v s1v
    go_wp2
    go_region_held3 (fun W=>(W.cell? ⟨bw,0,none⟩=some (.slice (some ⟨b1,off1,none⟩) sn sc))/\(W.cell? ⟨b1,off1+m*2+1,none⟩=some (.slice (some ⟨b8,off8,none⟩) M.n M.c))/\(W.cell? ⟨b8,off8+i*6,none⟩=some (.string f.name))/\(W.cell? ⟨b8,off8+i*6+1,none⟩=some (.int .i64 f.number))/\(W.cell? ⟨b8,off8+i*6+2,none⟩=some (.int .i64 f.kind))/\(W.cell? ⟨b8,off8+i*6+3,none⟩=some (.bool f.rep))/\(W.cell? ⟨b8,off8+i*6+4,none⟩=some (.bool f.packed))/\(W.cell? ⟨b8,off8+i*6+5,none⟩=some (.int .i64 f.of_))/\(W.cell? ⟨wq.heap.size,0,none⟩=some (.int .i64 v.number))/\(W.cell? ⟨wq.heap.size,1,none⟩=some (.slice v.a.1 v.words.length v.a.2))/\(W.cell? ⟨wq.heap.size,2,none⟩=some (.slice v.b.1 v.texts.length v.b.2))/\(W.cell? ⟨wq.heap.size,3,none⟩=some (.slice v.c.1 v.subs.length v.c.2)))
     (first|exact⟨by assumption,by assumption,by assumption,by assumption,by assumption,by assumption,by assumption,by assumption,by assumption,by assumption,by assumption,by assumption⟩|exact⟨by assumption,by assumption,by assumption,by assumption,by assumption,by assumption,by assumption,by assumption,by assumption,by assumption,by assumption,by assumption⟩|(go_split_ands;first|exact⟨by assumption,by assumption,by assumption,by assumption,by assumption,by assumption,by assumption,by assumption,by assumption,by assumption,by assumption,by assumption⟩|exact⟨Ext.of_cell (Ext.alloc (Ext.refl _) _) (by assumption),Ext.of_cell (Ext.alloc (Ext.refl _) _) (by assumption),Ext.of_cell (Ext.alloc (Ext.refl _) _) (by assumption),Ext.of_cell (Ext.alloc (Ext.refl _) _) (by assumption),Ext.of_cell (Ext.alloc (Ext.refl _) _) (by assumption),Ext.of_cell (Ext.alloc (Ext.refl _) _) (by assumption),Ext.of_cell (Ext.alloc (Ext.refl _) _) (by assumption),Ext.of_cell (Ext.alloc (Ext.refl _) _) (by assumption),Ext.of_cell (Ext.alloc (Ext.refl _) _) (by assumption),Ext.of_cell (Ext.alloc (Ext.refl _) _) (by assumption),Ext.of_cell (Ext.alloc (Ext.refl _) _) (by assumption),Ext.of_cell (Ext.alloc (Ext.refl _) _) (by assumption)⟩)) (first
     |(go_simp;go_at_call 140;refine(Hcall.out _ _ _ _ _ (HW.out.up (HX5.out.trans xx)) hs2).mono ?_;rintro e w6 ⟨rfl,A6,n6,c6,W6,S6,N6⟩;have G6:=HG.out.next (HX5.out.trans xx) S6 N6;have E6:=W6.own.ext;have o06:w6.cell? ⟨bw,0,none⟩=some (.slice (some ⟨b1,off1,none⟩) sn sc):=W6.o.cell 0;have s16:=E6.of_cell Hs1x.out;have g06:=E6.of_cell Hgs.out.1;have g16:=E6.of_cell Hgs.out.2.1;have g26:=E6.of_cell Hgs.out.2.2.1;have g36:=E6.of_cell Hgs.out.2.2.2.1;have g46:=E6.of_cell Hgs.out.2.2.2.2.1;have g56:=E6.of_cell Hgs.out.2.2.2.2.2;have z06:=S6.cellE (HW.out.lt (Nat.le_refl _)) z05;have z16:=S6.cellE (HW.out.lt (Nat.le_refl _)) z15;have z26:=S6.cellE (HW.out.lt (Nat.le_refl _)) z25;have z36:=S6.cellE (HW.out.lt (Nat.le_refl _)) z35))
    all_goals
     go_simp
     go_wp2
     go_roundw
     case rel=>exact⟨k+1,A6,n6,c6,by omega,by go_num,by rw[Hs1.out];exact W6,G6⟩
     case measure=>simp[intOf];omega
  . have hge:¬((k:Int)<x.vals.length):=by omega
    have hkT:(T.take k).flatten=T.flatten:=by rw[List.take_of_length_le (by have:=HTl.out;omega)]
    rw[hkT]at hW1;have x1q:=hG.cell (Hlt.out _ (Nat.le_refl _)) Hx1.out;have lxq:=Nat.lt_of_lt_of_le lx hG.stays.size;clear hkT
    go_wp2
    go_loopw [11,50] (fun _ i wp=>∃(j:Nat)(A1:Option Addr)(n1 c1:Nat),j<=x.unk.length/\i=.int .i64 (j:Int)/\WrS w0 wp bw (some ⟨b1,off1,none⟩) sn sc (xs++(T.flatten++(U.take j).flatten)) A1 n1 c1/\Went wx wp bw A A1) (fun _ i _=>x.unk.length - (intOf i).toNat)
    case atStart=>exact⟨0,A1,n1,c1,Nat.zero_le _,rfl,by rw[List.take_zero,List.flatten_nil,List.append_nil];exact hW1,hG⟩
    case round=>
     rename World=>wp
     obtain⟨j,A2,n2,c2,hj,rfl,hW2,hG2⟩:=hrel;by_cases hltj:j<x.unk.length
     . have hltI:(j:Int)<x.unk.length:=by omega
       obtain⟨b5,off5,t,hA,htk,hb5,hts,e0⟩:=Hx.out.unk.text hltj;have e0p:=hW2.own.ext.of_cell e0;have l5:=Nat.lt_of_lt_of_le hb5 hW2.own.ext.size;have o1:wp.cell? ⟨bw,1,none⟩=some (.slice A2 n2 c2):=hW2.o.cell 1;have ol:=hW2.o.lt;obtain⟨hs1,hs2,hs3⟩:=HUs.out j t htk;rw[<-hW2.nL]at hs2;have Hs1:=zsp hs1;have HG:=zsp hG2;have HW:=zsp hW2;rw[hA];clear hs1 htk hG2 hW2 e0
       go_wp2_with (at_builtin;refine zkr rfl (.tmp 58) (.tmp 59) rfl rfl HW.out.own rfl (by omega) ?_;intro A4 c4 w4 own4 g4 m4;have B4:=HW.out.o.beside HW.out.own (by decide) g4;have f4:=B4.free 1;have l4:=B4.lt;have c44:w4.cell? ⟨bw,1,none⟩=some (.slice A2 n2 c2):=B4.cell 1)
       go_roundw
       case rel=>
        have hfar:=own4.far B4 (by decide) HW.out.base 1 (.slice A4 (n2+t.data.toList.length) c4);have hS:Stays (Else bw A2) wp (w4.setCell ⟨bw,1,none⟩ (.slice A4 (n2+t.data.toList.length) c4)):=(Stays.grown g4 (fun k hk=>by rw[zak A2 n2 c2 0 0]at hk;exact fun q=>q.2 hk)).set (fun q=>q.1 rfl) _;refine⟨j+1,A4,n2+t.data.toList.length,c4,by omega,by go_num,?_,HG.out.next (Ext.refl wp) hS (fun b hb=> ?_)⟩
        . rw[Hs1.out]
          exact⟨B4.set_ 1 _,hfar,by rw[List.length_append,<-HW.out.nL],HW.out.base⟩
        . rcases m4 with q|q
          . rw[q]at hb
            exact .inl hb
          . rw[q]at hb
            injection hb with hb;exact .inr (by omega)
       case measure=>simp[intOf];omega
     . have hge2:¬((j:Int)<x.unk.length):=by omega
       have hkU:(U.take j).flatten=U.flatten:=by rw[List.take_of_length_le (by have:=HUl.out;omega)]
       rw[hkU]at hW2;clear hkU
       go_wp2
       go_end0
       exact⟨rfl,A2,n2,c2,hW2,(Stays.of_ext HX0.out).trans hG2.stays,fun b hb=>(hG2.news b hb).imp id (fun q=>Nat.le_trans HX0.out.size q)⟩
theorem zml{S:List MsgV}(hR:zan (S.map MsgV.d)=true):∀(d m:Nat)(x:MsgR)(w0 wr:World)(bw:Nat)(SA:Option Addr)(sn sc:Nat)(xs:List UInt8)(A:Option Addr)(n c:Nat),zaj w0 SA sn sc S->zah w0 x->zaE (S.map MsgV.d) d m (bare x)->WrS w0 wr bw SA sn sc xs A n c->n+(encV (S.map MsgV.d) d m (bare x)).length<=1000000->
 Calls prog 98 #[.pointer (some ⟨bw,0,none⟩),.int .i64 (m:Int),treeV x] wr (zeD w0 bw SA sn sc xs A wr (encV (S.map MsgV.d) d m (bare x)))
 |0,m,x,w0,wr,bw,SA,sn,sc,xs,A,n,c,hs,hx,hr,h,hl=>by
  have hr':zaO (fun _ _=>False) (S.map MsgV.d) m (bare x):=hr;have e:encV (S.map MsgV.d) 0 m (bare x)=(encC (fun _ _=>[]) (S.map MsgV.d) m (bare x)).flatten:=by rw[encV]
  rw[e]at hl⊢;refine zks hR hs hx hr' h hl (fun v hv M i f hM hf hF hvl wq ys A1 n1 c1 hW hn1=> ?_);have hMd:(S.map MsgV.d)[m]?=some M.d:=by rw[List.getElem?_map,hM];rfl
  obtain⟨r2,r3⟩:=ziy hR hMd hf;obtain⟨_,_,_,hkb⟩:=zbC hR hMd hf;refine zqj hW hn1 (hx.val hv) hF hkb r2 r3 hvl (fun h17 y hy=> ?_);obtain⟨_,_,_,h4⟩:=hF;rcases h4 with⟨q,_⟩|⟨_,_,q,_⟩|⟨_,_,_,q⟩
  . rw[h17]at q
    exact absurd q (by decide)
  . exact absurd h17 q
  . exact(q (bare y) (List.mem_map_of_mem hy)).elim
 |d+1,m,x,w0,wr,bw,SA,sn,sc,xs,A,n,c,hs,hx,hr,h,hl=>by
  have hr':zaO (zaE (S.map MsgV.d) d) (S.map MsgV.d) m (bare x):=hr;have e:encV (S.map MsgV.d) (d+1) m (bare x)=(encC (encV (S.map MsgV.d) d) (S.map MsgV.d) m (bare x)).flatten:=by rw[encV]
  rw[e]at hl⊢;refine zks hR hs hx hr' h hl (fun v hv M i f hM hf hF hvl wq ys A1 n1 c1 hW hn1=> ?_);have hMd:(S.map MsgV.d)[m]?=some M.d:=by rw[List.getElem?_map,hM];rfl
  obtain⟨r2,r3⟩:=ziy hR hMd hf;obtain⟨_,_,_,hkb⟩:=zbC hR hMd hf;refine zqj hW hn1 (hx.val hv) hF hkb r2 r3 hvl (fun h17 y hy w1 w2 bw2 A2 n2 c2 hE hW2=> ?_);obtain⟨o,ho,_⟩:=zcj hR hMd hf h17;obtain⟨_,_,_,h4⟩:=hF;have hy':bare y∈(bareV v).subs:=List.mem_map_of_mem hy
  have hq:zaE (S.map MsgV.d) d f.of_.toNat (bare y):=by
   rcases h4 with⟨q,_⟩|⟨_,_,q,_⟩|⟨_,_,_,q⟩
   . rw[h17]at q
     exact absurd q (by decide)
   . exact absurd h17 q
   . exact q (bare y) hy'
  have hyl:(encV (S.map MsgV.d) d f.of_.toNat (bare y)).length<=1000000:=by
   have h1:=zeA f.number (encV (S.map MsgV.d) d f.of_.toNat (bare y))
   have hm:putB f.number 2 (encV (S.map MsgV.d) d f.of_.toNat (bare y))∈zaU (encV (S.map MsgV.d) d) f (bareV v):=by
    unfold zaU;rw[if_neg (by rw[h17];decide)];exact List.mem_append_right _ (List.mem_map_of_mem (f:=fun y=>putB f.number 2 (encV (S.map MsgV.d) d f.of_.toNat y)) hy')
   have h2:=zaD hm;omega
  have hn2:n2=0:=hW2.nL;rw[ho,Int.toNat_natCast]at hq hyl⊢;exact zml hR d o y w1 w2 bw2 SA sn sc [] A2 n2 c2 (hs.up hE) (((hx.val hv).sub y hy).up hE) hq hW2 (by omega)
theorem zrc{d:Nat}(hR:zan (S.map MsgV.d)=true)(hm:m<n)(hs:zaj w A n c S)(hx:zah w x)(hr:zaE (S.map MsgV.d) d m (bare x))(hfit:FitT 1000000000000 x)(htx:zaS 1000000000 x)(hl:(encV (S.map MsgV.d) d m (bare x)).length<=1000000):
 Calls prog 66 #[.slice A n c,.int .i64 (m:Int),treeV x] w fun e w'=>∃A' n2 c2,e=.returned (.tuple #[.slice A' n2 c2,.int .u8 0])/\Hid (n2=(encV (S.map MsgV.d) d m (bare x)).length)/\Own w w' 5 1 A' n2 c2 ((encV (S.map MsgV.d) d m (bare x)).map bv):=by
 have h1:=fun W (h:zaj W A n c S)=>zmt h
 rw[hR]at h1;have h2:=fun W (h:zaj W A n c S)(q:zah W x)=>zjn (root:=(m:Int)) h q hfit htx
 have hRI:RI (S.map MsgV.d) (m:Int) (bare x):=⟨by omega,d,by rw[Int.toNat_natCast];exact hr⟩
 rw[hR,zbQ hRI]at h2;have h3:=fun(w2:World)(bw:Nat)(E:Ext w w2)(q:BlkT w2 bw 174 #[.slice A n c,.slice none 0 0])(hb:w.heap.size<=bw)=>zml hR d m x w w2 bw A n c [] none 0 0 hs hx hr ⟨q,Own.nil E _ _,rfl,hb⟩ (by omega)
 generalize encV (S.map MsgV.d) d m (bare x)=F at*;have H1:=zsp h1;have H2:=zsp h2;have H3:=zsp h3;have mI:(m:Int)<n:=by omega
 have mN:¬n<=m:=by omega
 unfold treeV at*;have H2':=H2.out;have H3':=H3.out;have HX:=zsp hx;have HS:=zsp hs;clear h1 h2 h3 hRI hR hr hfit htx hx hs
 go_enter func66,ntmps66
 go_wp2_with (first
  |(go_at_call 25;refine(H1.out _ (HS.out.up xx)).mono ?_;rintro e w1 ⟨rfl,E1⟩;have X1:Ext w w1:=Ext.trans xx E1;have BX:BlkT w1 w.heap.size 27 #[.slice x.a.1 x.vals.length x.a.2,.slice x.b.1 x.unk.length x.b.2]:=(BlkT.new w _ _ rfl).up E1;have x0:w1.cell? ⟨w.heap.size,0,none⟩=some (.slice x.a.1 x.vals.length x.a.2):=BX.cell 0;have x1:w1.cell? ⟨w.heap.size,1,none⟩=some (.slice x.b.1 x.unk.length x.b.2):=BX.cell 1;have lx:=BX.lt;clear BX)
  |(go_at_call 26;refine(H2.out _ (HS.out.up (X1.trans xx)) (HX.out.up (X1.trans xx))).mono ?_;rintro e w2 ⟨rfl,E2⟩;have X2:Ext w1 w2:=Ext.trans xx E2;replace x0:=X2.of_cell x0;replace x1:=X2.of_cell x1;replace lx:=Nat.lt_of_lt_of_le lx X2.size)
  |(go_at_call 98;refine(H3.out _ w2.heap.size (X1.trans (X2.trans xx)) (BlkT.new w2 _ _ rfl) (X1.trans X2).size).mono ?_;rintro e w3 ⟨rfl,A3,n3,c3,W3,S3,N3⟩;rw[List.nil_append]at W3;have f3:w3.cell? ⟨w2.heap.size,1,none⟩=some (.slice A3 n3 c3):=W3.o.cell 1))
 all_goals
  go_ret2
  exact⟨A3,n3,c3,rfl,W3.nL,W3.own⟩
end Go.Proofs.YtlhbllaojjelcaaGreat
