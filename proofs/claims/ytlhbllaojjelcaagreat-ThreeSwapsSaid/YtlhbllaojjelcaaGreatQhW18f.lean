/- Contracts of layer 16: the reference's bytes of a value that fits a field. -/
import Derived.Test.YtlhbllaojjelcaaGreatQhS18
import Derived.Test.YtlhbllaojjelcaaGreatQhM36

set_option linter.unusedVariables false
set_option maxHeartbeats 2000000
namespace Go.Proofs.YtlhbllaojjelcaaGreat
open Go.RowKit Go.Shelf Tryz
theorem zfD{α:Type}{T:List (List α)}(k:Nat):(T.take k).flatten.length<=T.flatten.length:=by
 have h:=congrArg List.flatten (List.take_append_drop k T);rw[List.flatten_append]at h;have h2:=congrArg List.length h;rw[List.length_append]at h2;omega
theorem zeA(n:Int)(v:List UInt8):v.length<=(putB n 2 v).length:=by rw[zcB];omega
theorem zbE:∀L:List ViewD,L.length<=zaG L
 |[]=>Nat.zero_le _
 |v::L=>by
  have:=zbE L;rw[zaY,List.length_cons];unfold zcp;omega
variable{vs:List ViewD}
theorem zna(f:zaa)(bs:List UInt8){k:Nat}{v:ViewD}(h:vs[k]?=some v):(vs.take (k+1)).flatMap (zaw f bs)=(vs.take k).flatMap (zaw f bs)++zaw f bs v:=by
 rw[List.take_add_one,h,List.flatMap_append];simp
variable{w:World}{n c:Nat}{A B:Option Addr}
theorem zpu{f:zaa}{bs:List UInt8}{vc:Nat}(hk:zad f.kind=true)(hbd:∀v∈vs,v.r.a<=v.r.t/\v.r.t<=bs.length)(hw:zaG vs<=1000000)(hb:zab w B n c bs)(hn:n<=1000000)(hv:Reads w A vs.length vc 7 (vs.flatMap viewC)):
 Calls prog 112 #[zau f,.slice B n c,.slice A vs.length vc] w fun e w'=>∃A' c',e=.returned (.slice A' (packW f.kind (vs.flatMap (zaw f bs))).length c')/\Own w w' 5 1 A' (packW f.kind (vs.flatMap (zaw f bs))).length c' ((packW f.kind (vs.flatMap (zaw f bs))).map bv):=by
 have hbl:=hb.length;have hwl:=zdo f bs vs (fun v h=>(hbd v h).2);have h64:=ziS f bs vs;have hvl:=zbE vs;obtain⟨ws,hws⟩:∃ws,ws=vs.flatMap (zaw f bs):=⟨_,rfl⟩
 rw[<-hws]at h64 hwl⊢;have H64:=zsp h64;have Hbd:=zsp hbd;have Hws:=zsp hws;clear h64 hbd hws;unfold zau
 go_enter func112,ntmps112
 go_wp2
 have B1:=BlkT.new w 61 #[.string f.name,.int .i64 f.number,.int .i64 f.kind,.bool f.rep,.bool f.packed,.int .i64 f.of_] rfl;have X1:Ext w (w.alloc (.cells #[.string f.name,.int .i64 f.number,.int .i64 f.kind,.bool f.rep,.bool f.packed,.int .i64 f.of_] 61)):=(Ext.refl w).alloc _;obtain⟨w1,hw1⟩:∃w1,w1=w.alloc (.cells #[.string f.name,.int .i64 f.number,.int .i64 f.kind,.bool f.rep,.bool f.packed,.int .i64 f.of_] 61):=⟨_,rfl⟩
 rw[<-hw1]at B1 X1⊢;clear hw1;generalize w.heap.size=b0 at*;have f2:w1.cell? ⟨b0,2,none⟩=some (.int .i64 f.kind):=B1.cell 2;have fl:=B1.lt;clear B1
 go_loopw [7,19] (fun u i wr=>∃(k:Nat)(U:Option Addr)(un uc:Nat),k<=vs.length/\i=.int .i64 (k:Int)/\u=.slice U un uc/\un=((vs.take k).flatMap (zaw f bs)).length/\Own w1 wr 100 1 U un uc (((vs.take k).flatMap (zaw f bs)).map uv)) (fun _ i _=>vs.length - (intOf i).toNat)
 case atStart=>exact⟨0,none,0,0,Nat.zero_le _,rfl,rfl,rfl,Own.nil (Ext.refl _) _ _⟩
 case round=>
  obtain⟨k,U,un,uc,hk1,rfl,rfl,hun,own⟩:=hrel;have X2:=own.ext;have g2:=X2.of_cell f2;have gl:=Nat.lt_of_lt_of_le fl X2.size;by_cases hlt:k<vs.length
  . have hltI:(k:Int)<vs.length:=by omega
    obtain⟨b5,off5,v,hA,hvk,hb5,e0,e1,e2,e3,e4,e5,e6⟩:=(hv.ext (X1.trans X2)).view' hlt;subst hA;have hvb:=Hbd.out v (List.mem_of_getElem? hvk);have hs:=zna f bs hvk;obtain⟨A9,run9,hb9⟩:=zbz (hb.up (X1.trans X2)) (l:=v.r.a) (m:=v.r.t) (by omega) (by omega)
    have hwk:((vs.take k).flatMap (zaw f bs)).length<=1000000:=by
     have h1:=zdo f bs (vs.take k) (fun u hu=>(Hbd.out u (List.mem_of_mem_take hu)).2);have h2:=zea vs k;omega
    rw[<-hun]at hwk;have Hun:=zsp hun;have Hs:=zsp hs;have Hvk:=zsp hvk;clear hs hun hvk;rcases hrun:v.run with _|_
    . rw[hrun]at e6
      have hW:zaw f bs v=[(readS f.kind (zal bs v)).1]:=by
       unfold zaw;rw[hrun,hk];rfl
      rcases hrd:readS f.kind (zal bs v)with⟨W,C⟩
      rw[hrd]at hW;have hR:=fun W' (h:zab W' A9 (v.r.t - v.r.a) (c - v.r.a) (zal bs v))=>sRead h hrd
      have HR:=zsp hR;have HW:=zsp hW;clear hR hrd hW
      go_wp2_with (first
       |(go_at_call 113;refine(HR.out _ (hb9.up xx)).mono ?_;rintro e w3 ⟨rfl,E3'⟩;have E3:Ext wr w3:=Ext.trans xx E3')
       |(at_builtin;refine zaT elemU rfl (.tmp 50) (.tmp 52) rfl rfl ((own.up E3).alloc _) rfl (zcF w3 (.int .u64 (W:Int)) 100 rfl) (by simp[Value.oneCell']) (by omega) (by unfold maxLen;omega) ?_;intro A4 c4 w4 own4 g4))
      go_roundw
      case rel=>
       refine⟨k+1,A4,un+1,c4,by omega,by go_num,rfl,?_,?_⟩
       . rw[Hs.out,HW.out,List.length_append,<-Hun.out]
         rfl
       . rw[Hs.out,HW.out,List.map_append]
         exact own4
      case measure=>simp[intOf];omega
    . rw[hrun]at e6
      have hW:zaw f bs v=(zbR f.kind (zal bs v)).1:=by
       unfold zaw;rw[if_pos hrun]
      have hR:=fun W' (h:zab W' A9 (v.r.t - v.r.a) (c - v.r.a) (zal bs v))=>zqu (k:=f.kind) h (by omega)
      have hl:=zeb f.kind (zal bs v)
      have hvl2:(zal bs v).length<=1000000:=by
       have:=hb9.length;unfold zal;omega
      generalize zbR f.kind (zal bs v)=WS at*;obtain⟨ws,C⟩:=WS;simp only at hR hl hW;generalize hm:ws.length=m at*;have HR:=zsp hR;have HW:=zsp hW;have Hm:=zsp hm;clear hR hW hm
      go_wp2_with (first
       |(go_at_call 148;refine(HR.out _ (hb9.up xx)).mono ?_;rintro e w3 ⟨A3,c3,rfl,own3⟩;have E3:Ext wr w3:=Ext.trans xx own3.ext)
       |(at_builtin;refine zaT elemU rfl (.tmp 40) (.tmp 41) rfl rfl (own.up E3) rfl own3.reads (zoV _) (by omega) (by unfold maxLen;omega) ?_;intro A4 c4 w4 own4 g4))
      go_roundw
      case rel=>
       refine⟨k+1,A4,un+m,c4,by omega,by go_num,rfl,?_,?_⟩
       . rw[Hs.out,HW.out,List.length_append,<-Hun.out,Hm.out]
       . rw[Hs.out,HW.out,List.map_append]
         exact own4
      case measure=>simp[intOf];omega
  . obtain rfl:k=vs.length:=by omega
    have hltI:¬(vs.length:Int)<vs.length:=by omega
    rw[List.take_length,<-Hws.out]at own hun;subst hun;have hp:=fun W (h:zfh W U ws.length uc ws)=>uPack h H64.out (by omega) hk
    have HP:=zsp hp;clear hp
    go_wp2_with (go_at_call 149;refine(HP.out _ (Reads.ext own.reads xx)).mono ?_;rintro e w3 ⟨A3,c3,rfl,own3⟩)
    go_ret
    exact⟨A3,c3,rfl,own3.since (X1.trans (X2.trans xx))⟩
theorem nPut{bo bf:Nat}{m d:Nat}{number wire:Int}{xs vs:List UInt8}(hbo:BlkT w bo 46 #[.slice A n c])(hf:w.cell? ⟨bf,1,none⟩=some (.int .i64 number))(hb:zab w A n c xs)(hn:n<=1000000000)(hv:zab w B m d vs)(hm:m<=1000000000)(h:(zao number wire&&fitsV wire vs)=true):
 Calls prog 109 #[.int .i64 wire,.slice B m d,.pointer (some ⟨bo,0,none⟩),.pointer (some ⟨bf,0,none⟩)] w fun e w'=>e=.returned (.tuple #[])/\∃w1 A' c',w'=w1.setCell ⟨bo,0,none⟩ (.slice A' (n+(putB number wire vs).length) c')/\Own w w1 5 1 A' (n+(putB number wire vs).length) c' ((xs++putB number wire vs).map bv):=by
 have o0:w.cell? ⟨bo,0,none⟩=some (.slice A n c):=hbo.cell 0;have ol:=hbo.lt;have Hp:=zsp (fun W (E:Ext w W)=>rPut (hb.up E) hn (hv.up E) hm h);have Hbo:=zsp hbo;clear hbo h hv hb
 go_enter func109,ntmps109
 go_wp2_with (go_at_call 110;refine(Hp.out _ xx).mono ?_;rintro e w1 ⟨A1,c1,rfl,own1⟩;have E1:Ext w w1:=Ext.trans xx own1.ext;have z0:=E1.of_cell o0;have zf:=(Hbo.out.up E1).free 0;have zl:=Nat.lt_of_lt_of_le ol E1.size)
 go_end0
 exact⟨rfl,w1,A1,c1,rfl,own1⟩
def NormP(S:List MsgV)(d:Nat)(se:Nat->MsgT->List UInt8)(sub:Nat->List UInt8->MsgT):Prop:=∀(w:World)(SA:Option Addr)(sn sc m:Nat)(A:Option Addr)(n c:Nat)(bs:List UInt8),zaj w SA sn sc S->m<S.length->zab w A n c bs->n<d->
 Calls prog 50 #[.slice SA sn sc,.int .i64 (m:Int),.slice A n c] w fun e w'=>∃A' c',e=.returned (.slice A' (se m (sub m bs)).length c')/\Own w w' 5 1 A' (se m (sub m bs)).length c' ((se m (sub m bs)).map bv)
structure PutS(w0 w wr:World)(b0:Nat)(f:zaa)(xs:List UInt8)(A:Option Addr)(n c:Nat):Prop where
 o:BlkT wr b0 46 #[.slice A n c]
 own:Own w0 wr 5 1 A n c (xs.map bv)
 nL:n=xs.length
 ext:Ext w wr
 f:BlkT wr (b0+1) 61 #[.string f.name,.int .i64 f.number,.int .i64 f.kind,.bool f.rep,.bool f.packed,.int .i64 f.of_]
section
variable {w0 w wr:World} {b0:Nat} {f:zaa} {xs:List UInt8} {A:Option Addr} {n c:Nat}
theorem PutS.up(h:PutS w0 w wr b0 f xs A n c){w':World}(X:Ext wr w'):PutS w0 w w' b0 f xs A n c:=⟨h.o.up X,h.own.up X,h.nL,h.ext.trans X,h.f.up X⟩
theorem PutS.put(h:PutS w0 w wr b0 f xs A n c)(h0:w0.heap.size<=b0)(hw:w.heap.size<=b0){B:Option Addr}{m d:Nat}{wire:Int}{vs:List UInt8}(hv:zab wr B m d vs)(hn:n<=1000000000)(hm:m<=1000000000)(hr:(zao f.number wire&&fitsV wire vs)=true):
 Calls prog 109 #[.int .i64 wire,.slice B m d,.pointer (some ⟨b0,0,none⟩),.pointer (some ⟨b0+1,0,none⟩)] wr fun e w'=>e=.returned (.tuple #[])/\∃A' n' c',PutS w0 w w' b0 f (xs++putB f.number wire vs) A' n' c':=by
 refine(nPut h.o (h.f.cell 1) h.own.bytes hn hv hm hr).mono ?_;rintro e w' ⟨rfl,w1,A',c',rfl,own1⟩;have B1:=h.o.up own1.ext;have own2:=own1.since h.own.ext;have hfar:=own2.far B1 (by decide) h0 0 (.slice A' (n+(putB f.number wire vs).length) c');exact⟨rfl,A',n+(putB f.number wire vs).length,c',⟨B1.set_ 0 _,hfar,by rw[List.length_append,<-h.nL],(h.ext.trans own1.ext).setCell hw _,(h.f.up own1.ext).set_far 0 (by omega) _⟩⟩
end
theorem zbH{k:Int}(h:kindB k=true):zdK k=wireI k:=by
 unfold zdK;rw[if_pos h]
section
variable {f:zaa} {bs:List UInt8} {vs:List ViewD}
theorem znb(hn:zad f.kind=false)(hr:∀v∈vs,v.run=false):vs.flatMap (zam f bs)=vs.map (zal bs):=by
 induction vs with
 |nil=>rfl
 |cons v l ih=>
  have h1:zam f bs v=[zal bs v]:=by
   unfold zam;rw[hr v List.mem_cons_self,hn];rfl
  rw[List.flatMap_cons,List.map_cons,ih (fun u hu=>hr u (List.mem_cons_of_mem _ hu)),h1];rfl
theorem znc(hn:zad f.kind=false)(hr:∀v∈vs,v.run=false):vs.flatMap (zaw f bs)=[]:=by
 rw[List.flatMap_eq_nil_iff];intro v hv;unfold zaw;rw[hr v hv,hn];rfl
def gputs(g:List UInt8->List UInt8)(n:Int)(bs:List UInt8)(vs:List ViewD)(k:Nat):List UInt8:=((vs.take k).map fun v=>putB n 2 (g (zal bs v))).flatten
theorem ziA{g:List UInt8->List UInt8}{n:Int}{k:Nat}{v:ViewD}(h:vs[k]?=some v):gputs g n bs vs (k+1)=gputs g n bs vs k++putB n 2 (g (zal bs v)):=by
 unfold gputs;rw[List.take_add_one,h,List.map_append,List.flatten_append];simp
theorem zkm{g:List UInt8->List UInt8}{n:Int}:gputs g n bs vs vs.length=((vs.map (zal bs)).map fun x=>putB n 2 (g x)).flatten:=by
 unfold gputs;rw[List.take_length,List.map_map];rfl
theorem zeB(hbd:∀v∈vs,v.r.t<=bs.length):vs.length+(vs.map (zal bs)).flatten.length<=zaG vs:=by
 induction vs with
 |nil=>exact Nat.zero_le _
 |cons v l ih=>
  have:=ih (fun u hu=>hbd u (List.mem_cons_of_mem _ hu));have h1:=hbd v List.mem_cons_self
  have h2:(zal bs v).length=v.r.t - v.r.a:=by
   unfold zal spanB;rw[List.length_drop,List.length_take];omega
  rw[List.map_cons,List.flatten_cons,List.length_append,zaY,List.length_cons];unfold zcp;omega
theorem zmh{g:List UInt8->List UInt8}{n:Int}(hr:zao n 2=true)(hbd:∀v∈vs,v.r.t<=bs.length)(hw:zaG vs<=100000)(hg:∀v∈vs,(g (zal bs v)).length<=32*(zal bs v).length)(k:Nat):(gputs g n bs vs k).length<=4700000:=by
 have h1:=zeB (vs:=vs.take k) (bs:=bs) (fun v hv=>hbd v (List.mem_of_mem_take hv));have h2:=zea vs k
 have h3:=zgF hr (c:=32) (g:=g) (ps:=(vs.take k).map (zal bs)) (fun x hx=>by
  obtain⟨v,hv,rfl⟩:=List.mem_map.1 hx;have h4:=hg v (List.mem_of_mem_take hv);have h5:(zal bs v).length<=((vs.take k).map (zal bs)).flatten.length:=zaD hx
  exact⟨h4,by omega⟩) (by omega)
 rw[List.length_map]at h3;unfold gputs
 have h6:((vs.take k).map fun v=>putB n 2 (g (zal bs v)))=((vs.take k).map (zal bs)).map fun x=>putB n 2 (g x):=by
  rw[List.map_map];rfl
 rw[h6];omega
theorem zpv{k:Int}{ws:List Nat}(h:∀x∈ws,x<18446744073709551616)(hne:ws≠ []):1<=(packW k ws).length:=by
 rcases ws with _|⟨x,l⟩
 . exact absurd rfl hne
 . have:=(zbg (k:=k) (h x List.mem_cons_self)).1
   simp[packW];omega
end
def zec(w0 w:World)(SA:Option Addr)(sn sc:Nat)(S:List MsgV)(f:zaa)(xs:List UInt8)(A:Option Addr)(n c:Nat)(B:Option Addr)(bn bc:Nat)(bs:List UInt8)(V:Option Addr)(vc:Nat)(vs:List ViewD):Prop:=
 Own w0 w 5 1 A n c (xs.map bv)/\n=xs.length/\n<=100000000/\zaj w SA sn sc S/\zab w B bn bc bs/\bn<=100000/\Reads w V vs.length vc 7 (vs.flatMap viewC)/\vs≠ []/\(∀v∈vs,v.r.a<=v.r.t/\v.r.t<=bs.length)/\zaG vs<=bs.length/\
  kindB f.kind=true/\zao f.number 2=true/\zao f.number (wireI f.kind)=true/\(zad f.kind=false->∀v∈vs,v.run=false)/\(f.rep=false->∀v∈vs,v.run=false)
def zbY(w0 w:World)(ys:List UInt8)(e:Ending)(w':World):Prop:=∃A' c',e=.returned (.slice A' ys.length c')/\Own w0 w' 5 1 A' ys.length c' (ys.map bv)/\Ext w w'
section
variable {w0 w:World} {SA:Option Addr} {sn sc:Nat} {S:List MsgV} {f:zaa} {xs:List UInt8} {A:Option Addr} {n c:Nat} {B:Option Addr} {bn bc:Nat} {bs:List UInt8} {V:Option Addr} {vc:Nat} {vs:List ViewD} {se:Nat->MsgT->List UInt8} {sub:Nat->List UInt8->MsgT}
structure zbc(w0 w w2:World)(f:zaa)(xs:List UInt8)(A:Option Addr)(n c:Nat)(v:ViewD):Prop where
 put:PutS w0 w w2 w.heap.size f xs A n c
 last:BlkT w2 (w.heap.size+2) 191 #[.int .i64 (v.r.n:Int),.int .i64 (v.r.w:Int),.int .i64 (v.r.f:Int),.int .i64 (v.r.a:Int),.int .i64 (v.r.t:Int),.int .i64 v.field,.bool v.run]
theorem zbc.made(own:Own w0 w 5 1 A n c (xs.map bv))(hn:n=xs.length){v:ViewD}{w2:World}(E:Ext (((w.alloc (.cells #[.slice A n c] 46)).alloc (.cells #[.string f.name,.int .i64 f.number,.int .i64 f.kind,.bool f.rep,.bool f.packed,.int .i64 f.of_] 61)).alloc (.cells #[.int .i64 (v.r.n:Int),.int .i64 (v.r.w:Int),.int .i64 (v.r.f:Int),.int .i64 (v.r.a:Int),.int .i64 (v.r.t:Int),.int .i64 v.field,.bool v.run] 191)) w2):zbc w0 w w2 f xs A n c v:=by
 have X1:Ext w w2:=((((Ext.refl w).alloc _).alloc _).alloc _).trans E;refine⟨⟨?_,own.up X1,hn,X1,?_⟩,?_⟩
 . exact(((BlkT.new w 46 #[.slice A n c] rfl).alloc _).alloc _).up E
 . exact((BlkT.new (w.alloc (.cells #[.slice A n c] 46)) 61 #[.string f.name,.int .i64 f.number,.int .i64 f.kind,.bool f.rep,.bool f.packed,.int .i64 f.of_] (show w.heap.size+1=_ by simp)).alloc _).up E
 . exact(BlkT.new ((w.alloc (.cells #[.slice A n c] 46)).alloc (.cells #[.string f.name,.int .i64 f.number,.int .i64 f.kind,.bool f.rep,.bool f.packed,.int .i64 f.of_] 61)) 191 #[.int .i64 (v.r.n:Int),.int .i64 (v.r.w:Int),.int .i64 (v.r.f:Int),.int .i64 (v.r.a:Int),.int .i64 (v.r.t:Int),.int .i64 v.field,.bool v.run] (show w.heap.size+2=_ by simp)).up E
theorem zbc.made'(own:Own w0 w 5 1 A n c (xs.map bv))(hn:n=xs.length){v:ViewD}{w2:World}{fk fo:Int}{fr:Bool}(e1:f.kind=fk)(e2:f.rep=fr)(e3:f.of_=fo)(E:Ext (((w.alloc (.cells #[.slice A n c] 46)).alloc (.cells #[.string f.name,.int .i64 f.number,.int .i64 fk,.bool fr,.bool f.packed,.int .i64 fo] 61)).alloc (.cells #[.int .i64 (v.r.n:Int),.int .i64 (v.r.w:Int),.int .i64 (v.r.f:Int),.int .i64 (v.r.a:Int),.int .i64 (v.r.t:Int),.int .i64 v.field,.bool v.run] 191)) w2):zbc w0 w w2 f xs A n c v:=by
 subst e1;subst e2;subst e3;exact zbc.made own hn E
theorem zbc.up{w2 w3:World}{v:ViewD}(h:zbc w0 w w2 f xs A n c v)(X:Ext w2 w3):zbc w0 w w3 f xs A n c v:=⟨h.put.up X,h.last.up X⟩
theorem zbc.cells{w2:World}{v:ViewD}(h:zbc w0 w w2 f xs A n c v):
 (w2.cell? ⟨w.heap.size,0,none⟩=some (.slice A n c)/\w.heap.size<w2.heap.size/\w.heap.size+1<w2.heap.size/\w.heap.size+2<w2.heap.size)/\
 (w2.cell? ⟨w.heap.size+1,0,none⟩=some (.string f.name)/\w2.cell? ⟨w.heap.size+1,1,none⟩=some (.int .i64 f.number)/\w2.cell? ⟨w.heap.size+1,2,none⟩=some (.int .i64 f.kind)/\w2.cell? ⟨w.heap.size+1,3,none⟩=some (.bool f.rep)/\w2.cell? ⟨w.heap.size+1,4,none⟩=some (.bool f.packed)/\w2.cell? ⟨w.heap.size+1,5,none⟩=some (.int .i64 f.of_))/\
 (w2.cell? ⟨w.heap.size+2,3,none⟩=some (.int .i64 (v.r.a:Int))/\w2.cell? ⟨w.heap.size+2,4,none⟩=some (.int .i64 (v.r.t:Int))):=
 ⟨⟨h.put.o.cell 0,h.put.o.lt,h.put.f.lt,h.last.lt⟩,⟨h.put.f.cell 0,h.put.f.cell 1,h.put.f.cell 2,h.put.f.cell 3,h.put.f.cell 4,h.put.f.cell 5⟩,⟨h.last.cell 3,h.last.cell 4⟩⟩
theorem zbc.done{w2:World}{v:ViewD}(h:zbc w0 w w2 f xs A n c v):zbY w0 w xs (.returned (.slice A n c)) w2:=by
 obtain rfl:=h.put.nL;exact⟨A,c,rfl,h.put.own,h.put.ext⟩
theorem PutS.done{w2:World}{b0:Nat}(h:PutS w0 w w2 b0 f xs A n c):zbY w0 w xs (.returned (.slice A n c)) w2:=by
 obtain rfl:=h.nL;exact⟨A,c,rfl,h.own,h.ext⟩
theorem zdJ{α:Type}{l:List α}(h:l≠ []):∃k x,l=k++[x]:=⟨_,_,(List.dropLast_concat_getLast h).symm⟩
end
end Go.Proofs.YtlhbllaojjelcaaGreat
