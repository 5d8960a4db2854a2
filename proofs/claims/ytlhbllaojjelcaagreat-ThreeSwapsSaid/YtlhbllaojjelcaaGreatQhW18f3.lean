/- Contracts of layer 18: a field's records behind others. -/
import Derived.Test.YtlhbllaojjelcaaGreatQhW18f

set_option linter.unusedVariables false
set_option maxRecDepth 100000
set_option maxHeartbeats 4000000
namespace Go.Proofs.YtlhbllaojjelcaaGreat
open Go.RowKit Go.Shelf Tryz
section
variable {w0 w:World} {SA:Option Addr} {sn sc:Nat} {S:List MsgV} {f:zaa} {xs:List UInt8} {A:Option Addr} {n c:Nat} {B:Option Addr} {bn bc:Nat} {bs:List UInt8} {V:Option Addr} {vc:Nat} {vs:List ViewD} {se:Nat->MsgT->List UInt8} {sub:Nat->List UInt8->MsgT}
theorem zok(h:zec w0 w SA sn sc S f xs A n c B bn bc bs V vc vs)(hk:zad f.kind=true)(hr:f.rep=true):
 Calls prog 80 #[.slice A n c,.slice SA sn sc,zau f,.slice B bn bc,.slice V vs.length vc] w (zbY w0 w (xs++zbv se sub f (vs.flatMap (zaw f bs)) [])):=by
 obtain⟨own,hnl,hn,hS,hb,hbn,hv,hne,hbd,hw,hkb,r2,rw_,hrun,_⟩:=h;have hbl:=hb.length
 have hvl:1<=vs.length:=by
  rcases vs with _|⟨v,l⟩
  . exact absurd rfl hne
  . simp
 have hvw:=zbE vs;obtain⟨q,hq⟩:∃q,vs.length=q+1:=⟨vs.length - 1,by omega⟩
 obtain⟨bV,off,v,hV,hvk,hbV,e0,e1,e2,e3,e4,e5,e6⟩:=hv.view' (k:=q) (by omega);have HV:Reads w V vs.length vc 7 (vs.flatMap viewC):=hv;have hix:((vs.length:Int) - 1)=(q:Int):=by omega
 have hqlt:(q:Int)<vs.length:=by omega
 have hq6:q<=1000000:=by omega
 have Hnl:=zsp hnl;have hN:=fun W=>zba f.kind W
 have hWr:=fun W=>kWire f.kind W
 rw[hk]at hN;rw[zbH hkb,if_pos hkb]at hWr;have h64:=ziS f bs vs;have hpl:=zfx f.kind _ h64;have hwl:=zdo f bs vs (fun v h=>(hbd v h).2);have hnum:=fun W (E:Ext w W)=>zpu (w:=W) hk hbd (by omega) (hb.up E) (by omega) (HV.ext E)
 unfold zau at hnum;rw[hr]at hnum;have h0s:=own.ext.size;rw[zcs hk hr];generalize vs.flatMap (zaw f bs)=ws at*
 have hfit:(zao f.number 2&&fitsV 2 (packW f.kind ws))=true:=by
  rw[r2];simp[fitsV]
 by_cases hws:ws=[]
 . subst hws
   rw[if_pos rfl,List.append_nil];have hp0:packW f.kind []=[]:=rfl;rw[hp0]at hnum;simp only[List.length_nil]at hnum;have Hnum:=zsp hnum;have HN:=zsp hN;have HWr:=zsp hWr;have Hown:=zsp own;subst hV;clear hnum hN hWr own hvk HV hv hS hb hrun h64 hbd hfit hnl hq;unfold zau at*;have hmf:∀(fn:Fn)(first cap:Array Value)(w:World),(Instr.makeFunc fn first cap).run prog w=.ok (.func fn first cap) w:=fun _ _ _ _=>rfl
   go_enter func80,ntmps80
   go_wp2_with (first
    |(go_at_call 108;refine(HWr.out _).mono ?_;rintro e w2 ⟨rfl,E2⟩;have M2:=zbc.made' (f:=f) Hown.out Hnl.out (by first|rfl|assumption) (by first|rfl|assumption) (by first|rfl|assumption) E2;obtain⟨⟨z0,l0,l1,l2⟩,⟨g0,g1,g2,g3,g4,g5⟩,⟨v3,v4⟩⟩:=M2.cells)
    |(go_at_call 111;refine(HN.out _).mono ?_;rintro e w3 ⟨rfl,E3⟩;have M3:=M2.up E3;clear z0 l0 l1 l2 g0 g1 g2 g3 g4 g5 v3 v4;obtain⟨⟨z0,l0,l1,l2⟩,⟨g0,g1,g2,g3,g4,g5⟩,⟨v3,v4⟩⟩:=M3.cells)
    |(go_at_call 112;refine(Hnum.out _ (M3.put.ext)).mono ?_;rintro e w4 ⟨A4,c4,rfl,own4⟩;have M4:=M3.up own4.ext;clear z0 l0 l1 l2 g0 g1 g2 g3 g4 g5 v3 v4;obtain⟨⟨z0,l0,l1,l2⟩,⟨g0,g1,g2,g3,g4,g5⟩,⟨v3,v4⟩⟩:=M4.cells))
   go_ret
   exact M4.done
 . rw[if_neg hws]
   have hpos:=zpv (k:=f.kind) h64 hws;have hposI:(0:Int)<((packW f.kind ws).length:Int):=by omega
   have hlen:(packW f.kind ws).length<=1000000000:=by omega
   generalize packW f.kind ws=P at*;generalize P.length=pn at*;have Hnum:=zsp hnum;have HN:=zsp hN;have HWr:=zsp hWr;have Hown:=zsp own;have Hfit:=zsp hfit;subst hV;clear hnum hN hWr own hvk HV hv hS hb hrun h64 hbd hfit hnl hq;unfold zau at*;have hmf:∀(fn:Fn)(first cap:Array Value)(w:World),(Instr.makeFunc fn first cap).run prog w=.ok (.func fn first cap) w:=fun _ _ _ _=>rfl
   go_enter func80,ntmps80
   go_wp2_with (first
    |(go_at_call 108;refine(HWr.out _).mono ?_;rintro e w2 ⟨rfl,E2⟩;have M2:=zbc.made' (f:=f) Hown.out Hnl.out (by first|rfl|assumption) (by first|rfl|assumption) (by first|rfl|assumption) E2;obtain⟨⟨z0,l0,l1,l2⟩,⟨g0,g1,g2,g3,g4,g5⟩,⟨v3,v4⟩⟩:=M2.cells)
    |(go_at_call 111;refine(HN.out _).mono ?_;rintro e w3 ⟨rfl,E3⟩;have M3:=M2.up E3;clear z0 l0 l1 l2 g0 g1 g2 g3 g4 g5 v3 v4;obtain⟨⟨z0,l0,l1,l2⟩,⟨g0,g1,g2,g3,g4,g5⟩,⟨v3,v4⟩⟩:=M3.cells)
    |(go_at_call 112;refine(Hnum.out _ (M3.put.ext)).mono ?_;rintro e w4 ⟨A4,c4,rfl,own4⟩;have M4:=M3.up own4.ext;clear z0 l0 l1 l2 g0 g1 g2 g3 g4 g5 v3 v4;obtain⟨⟨z0,l0,l1,l2⟩,⟨g0,g1,g2,g3,g4,g5⟩,⟨v3,v4⟩⟩:=M4.cells)
    |(go_at_call 109;refine(M4.put.put h0s (Nat.le_refl _) own4.bytes (by omega) hlen Hfit.out).mono ?_;rintro e w5 ⟨rfl,A5,n5,c5,P5⟩;clear z0;have z0:w5.cell? ⟨w.heap.size,0,none⟩=some (.slice A5 n5 c5):=P5.o.cell 0;have l5:=P5.o.lt))
   go_ret
   exact P5.done
end
section
variable {w0 w:World} {SA:Option Addr} {sn sc:Nat} {S:List MsgV} {f:zaa} {xs:List UInt8} {A:Option Addr} {n c:Nat} {B:Option Addr} {bn bc:Nat} {bs:List UInt8} {V:Option Addr} {vc:Nat} {vs:List ViewD} {se:Nat->MsgT->List UInt8} {sub:Nat->List UInt8->MsgT}
theorem znd(h:zec w0 w SA sn sc S f xs A n c B bn bc bs V vc vs)(hk:zad f.kind=true)(hr:f.rep=false):
 Calls prog 80 #[.slice A n c,.slice SA sn sc,zau f,.slice B bn bc,.slice V vs.length vc] w (zbY w0 w (xs++zbv se sub f (vs.flatMap (zaw f bs)) [])):=by
 obtain⟨own,hnl,hn,hS,hb,hbn,hv,hne,hbd,hw,hkb,r2,rw_,hrun,hrun2⟩:=h;have hbl:=hb.length;obtain⟨ini,v,hvs⟩:=zdJ hne;have hvl:vs.length=ini.length+1:=by rw[hvs];simp
 have hvw:=zbE vs;obtain⟨q,hq⟩:∃q,vs.length=q+1:=⟨_,hvl⟩
 obtain⟨bV,off,v',hV,hvk,hbV,e0,e1,e2,e3,e4,e5,e6⟩:=hv.view' (k:=q) (by omega)
 obtain rfl:v'=v:=by
  have:q=ini.length:=by omega
  subst this;rw[hvs]at hvk;simpa using hvk.symm
 have HV:Reads w V vs.length vc 7 (vs.flatMap viewC):=hv;have hvm:v'∈vs:=by rw[hvs];simp
 have hvb:=hbd v' hvm;have hix:((vs.length:Int) - 1)=(q:Int):=by omega
 have hqlt:(q:Int)<vs.length:=by omega
 have hq6:q<=1000000:=by omega
 have Hnl:=zsp hnl;have hN:=fun W=>zba f.kind W
 have hWr:=fun W=>kWire f.kind W
 rw[hk]at hN;rw[zbH hkb,if_pos hkb]at hWr;have h0s:=own.ext.size
 have hWo:zaw f bs v'=[(readS f.kind (zal bs v')).1]:=by
  unfold zaw;rw[hrun2 hr v' hvm,hk];rfl
 have hx64:=(zcU f.kind (zal bs v')).1;rw[hvs,List.flatMap_append,List.flatMap_singleton,hWo,zda hk hr,<-hvs];rcases hrd:readS f.kind (zal bs v')with⟨W,C⟩
 rw[hrd]at hx64;simp only at hx64⊢;obtain⟨A9,run9,hb9⟩:=zbz hb (l:=v'.r.a) (m:=v'.r.t) (by omega) (by omega);have hR:=fun W' (E:Ext w W')=>sRead (hb9.up E) hrd
 have hP:=fun W'=>sPut (k:=f.kind) (x:=W) (w:=W') hx64 hk rfl
 have hfit:(zao f.number (wireI f.kind)&&fitsV (wireI f.kind) (putS f.kind W))=true:=by
  obtain⟨Vw,q1,_,q3⟩:=zfk hk hx64;rw[rw_,q1,q3];rfl
 have hpl:=(zbg (k:=f.kind) hx64).2;generalize putS f.kind W=P at*;generalize wireI f.kind=wi at*;have HR:=zsp hR;have HP:=zsp hP;have HN:=zsp hN;have HWr:=zsp hWr;have Hown:=zsp own;have Hfit:=zsp hfit;clear hR hP hN hWr own hvk HV hv hS hb hrun hrun2 hbd hfit hb9 hrd hWo hvm hvs hnl hq hvl;subst hV;unfold zau at*;have hmf:∀(fn:Fn)(first cap:Array Value)(w:World),(Instr.makeFunc fn first cap).run prog w=.ok (.func fn first cap) w:=fun _ _ _ _=>rfl
 go_enter func80,ntmps80
 go_wp2_with (first
  |(go_at_call 108;refine(HWr.out _).mono ?_;rintro e w2 ⟨rfl,E2⟩;have M2:=zbc.made' (f:=f) Hown.out Hnl.out (by first|rfl|assumption) (by first|rfl|assumption) (by first|rfl|assumption) E2;obtain⟨⟨z0,l0,l1,l2⟩,⟨g0,g1,g2,g3,g4,g5⟩,⟨v3,v4⟩⟩:=M2.cells)
  |(go_at_call 111;refine(HN.out _).mono ?_;rintro e w3 ⟨rfl,E3⟩;replace M2:=M2.up E3;clear z0 l0 l1 l2 g0 g1 g2 g3 g4 g5 v3 v4;obtain⟨⟨z0,l0,l1,l2⟩,⟨g0,g1,g2,g3,g4,g5⟩,⟨v3,v4⟩⟩:=M2.cells))
 go_region_law (first
  |(go_simp;go_at_call 113;refine(HR.out _ (M2.put.ext.trans xx)).mono ?_;rintro e w5 ⟨rfl,E5⟩;replace M2:=M2.up (Ext.trans xx E5);clear z0 l0 l1 l2 g0 g1 g2 g3 g4 g5 v3 v4;obtain⟨⟨z0,l0,l1,l2⟩,⟨g0,g1,g2,g3,g4,g5⟩,⟨v3,v4⟩⟩:=M2.cells))
 go_wp2_with (first
  |(go_at_call 114;refine(HP.out _).mono ?_;rintro e w6 ⟨A6,c6,rfl,own6⟩;replace M2:=M2.up (Ext.trans xx own6.ext);clear z0 l0 l1 l2 g0 g1 g2 g3 g4 g5 v3 v4;obtain⟨⟨z0,l0,l1,l2⟩,⟨g0,g1,g2,g3,g4,g5⟩,⟨v3,v4⟩⟩:=M2.cells)
  |(go_at_call 109;refine(M2.put.put h0s (Nat.le_refl _) own6.bytes (by omega) (by omega) Hfit.out).mono ?_;rintro e w7 ⟨rfl,A5,n5,c5,P5⟩;clear z0;have z0:w7.cell? ⟨w.heap.size,0,none⟩=some (.slice A5 n5 c5):=P5.o.cell 0;have l5:=P5.o.lt))
 all_goals
  go_ret
  exact P5.done
end
section
variable {w0 w:World} {SA:Option Addr} {sn sc:Nat} {S:List MsgV} {f:zaa} {xs:List UInt8} {A:Option Addr} {n c:Nat} {B:Option Addr} {bn bc:Nat} {bs:List UInt8} {V:Option Addr} {vc:Nat} {vs:List ViewD} {se:Nat->MsgT->List UInt8} {sub:Nat->List UInt8->MsgT}
theorem zne(h:zec w0 w SA sn sc S f xs A n c B bn bc bs V vc vs)(hk:zad f.kind=false)(h17:f.kind≠17)(hr:f.rep=false):
 Calls prog 80 #[.slice A n c,.slice SA sn sc,zau f,.slice B bn bc,.slice V vs.length vc] w (zbY w0 w (xs++zbv se sub f [] (vs.map (zal bs)))):=by
 obtain⟨own,hnl,hn,hS,hb,hbn,hv,hne,hbd,hw,hkb,r2,rw_,hrun,hrun2⟩:=h;have hbl:=hb.length;obtain⟨ini,v,hvs⟩:=zdJ hne;have hvl:vs.length=ini.length+1:=by rw[hvs];simp
 have hvw:=zbE vs;obtain⟨q,hq⟩:∃q,vs.length=q+1:=⟨_,hvl⟩
 obtain⟨bV,off,v',hV,hvk,hbV,e0,e1,e2,e3,e4,e5,e6⟩:=hv.view' (k:=q) (by omega)
 obtain rfl:v'=v:=by
  have:q=ini.length:=by omega
  subst this;rw[hvs]at hvk;simpa using hvk.symm
 have HV:Reads w V vs.length vc 7 (vs.flatMap viewC):=hv;have hvm:v'∈vs:=by rw[hvs];simp
 have hvb:=hbd v' hvm;have hix:((vs.length:Int) - 1)=(q:Int):=by omega
 have hqlt:(q:Int)<vs.length:=by omega
 have hq6:q<=1000000:=by omega
 have Hnl:=zsp hnl;have hN:=fun W=>zba f.kind W
 have hWr:=fun W=>kWire f.kind W
 rw[hk]at hN;rw[zbH hkb,if_pos hkb]at hWr;have h0s:=own.ext.size;have hwi:=zcX hkb hk;rw[hwi]at hWr;rw[hvs,List.map_append,List.map_singleton,zdb hk h17 hr,<-hvs];obtain⟨A9,run9,hb9⟩:=zbz hb (l:=v'.r.a) (m:=v'.r.t) (by omega) (by omega)
 have hfit:(zao f.number 2&&fitsV 2 (zal bs v'))=true:=by
  rw[r2];simp[fitsV]
 have h17b:(f.kind==17)=false:=by simpa using h17
 have HN:=zsp hN;have HWr:=zsp hWr;have Hown:=zsp own;have Hfit:=zsp hfit;have Hb9:=zsp hb9;clear hN hWr own hvk HV hv hS hb hrun hrun2 hbd hfit hb9 hvm hvs hnl hq hvl;subst hV;unfold zau at*;have hmf:∀(fn:Fn)(first cap:Array Value)(w:World),(Instr.makeFunc fn first cap).run prog w=.ok (.func fn first cap) w:=fun _ _ _ _=>rfl
 go_enter func80,ntmps80
 go_wp2_with (first
  |(go_at_call 108;refine(HWr.out _).mono ?_;rintro e w2 ⟨rfl,E2⟩;have M2:=zbc.made' (f:=f) Hown.out Hnl.out (by first|rfl|assumption) (by first|rfl|assumption) (by first|rfl|assumption) E2;obtain⟨⟨z0,l0,l1,l2⟩,⟨g0,g1,g2,g3,g4,g5⟩,⟨v3,v4⟩⟩:=M2.cells)
  |(go_at_call 111;refine(HN.out _).mono ?_;rintro e w3 ⟨rfl,E3⟩;replace M2:=M2.up E3;clear z0 l0 l1 l2 g0 g1 g2 g3 g4 g5 v3 v4;obtain⟨⟨z0,l0,l1,l2⟩,⟨g0,g1,g2,g3,g4,g5⟩,⟨v3,v4⟩⟩:=M2.cells)
  |(go_at_call 109;refine(M2.put.put h0s (Nat.le_refl _) (Hb9.out.up M2.put.ext) (by omega) (by omega) Hfit.out).mono ?_;rintro e w7 ⟨rfl,A5,n5,c5,P5⟩;clear z0;have z0:w7.cell? ⟨w.heap.size,0,none⟩=some (.slice A5 n5 c5):=P5.o.cell 0;have l5:=P5.o.lt))
 go_ret
 exact P5.done
end
end Go.Proofs.YtlhbllaojjelcaaGreat
