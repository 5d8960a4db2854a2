/- Contracts of layer 18: a field's records behind others. -/
import Derived.Test.YtlhbllaojjelcaaGreatQhW18f3

set_option linter.unusedVariables false
set_option maxRecDepth 100000
set_option maxHeartbeats 4000000
namespace Go.Proofs.YtlhbllaojjelcaaGreat
open Go.RowKit Go.Shelf Tryz
section
variable {w0 w:World} {SA:Option Addr} {sn sc:Nat} {S:List MsgV} {f:zaa} {xs:List UInt8} {A:Option Addr} {n c:Nat} {B:Option Addr} {bn bc:Nat} {bs:List UInt8} {V:Option Addr} {vc:Nat} {vs:List ViewD} {se:Nat->MsgT->List UInt8} {sub:Nat->List UInt8->MsgT}
theorem zln(h:zec w0 w SA sn sc S f xs A n c B bn bc bs V vc vs)(hk:zad f.kind=false)(h17:f.kind≠17)(hr:f.rep=true):
 Calls prog 80 #[.slice A n c,.slice SA sn sc,zau f,.slice B bn bc,.slice V vs.length vc] w (zbY w0 w (xs++zbv se sub f [] (vs.map (zal bs)))):=by
 obtain⟨own,hnl,hn,hS,hb,hbn,hv,hne,hbd,hw,hkb,r2,rw_,hrun,hrun2⟩:=h;have hbl:=hb.length;obtain⟨ini,v,hvs⟩:=zdJ hne;have hvl:vs.length=ini.length+1:=by rw[hvs];simp
 have hvw:=zbE vs;obtain⟨q,hq⟩:∃q,vs.length=q+1:=⟨_,hvl⟩
 obtain⟨bV,off,v',hV,hvk,hbV,e0,e1,e2,e3,e4,e5,e6⟩:=hv.view' (k:=q) (by omega)
 obtain rfl:v'=v:=by
  have:q=ini.length:=by omega
  subst this;rw[hvs]at hvk;simpa using hvk.symm
 have HV:Reads w V vs.length vc 7 (vs.flatMap viewC):=hv;have hvm:v'∈vs:=by rw[hvs];simp
 have hvb:=hbd v' hvm;have hix:((vs.length:Int) - 1)=(q:Int):=by omega
 have hqlt:(q:Int)<vs.length:=by omega
 have hq6:q<=1000000:=by omega
 have Hnl:=zsp hnl;have hN:=fun W=>zba f.kind W
 have hWr:=fun W=>kWire f.kind W
 rw[hk]at hN;rw[zbH hkb,if_pos hkb]at hWr;have h0s:=own.ext.size;have hwi:=zcX hkb hk;rw[hwi]at hWr;rw[zcd hk h17 hr];have hall:((vs.map (zal bs)).map fun x=>putB f.number 2 x).flatten=gputs (fun x=>x) f.number bs vs vs.length:=zkm.symm;rw[hall];have hle:=fun k=>zmh (g:=fun x=>x) (vs:=vs) (bs:=bs) r2 (fun v h=>(hbd v h).2) (by omega) (fun v _=>by omega) k
 have hfit:∀x:List UInt8,(zao f.number 2&&fitsV 2 x)=true:=fun x=>by
  rw[r2];simp[fitsV]
 have h17b:(f.kind==17)=false:=by simpa using h17
 have HN:=zsp hN;have HWr:=zsp hWr;have Hown:=zsp own;have Hfit:=zsp hfit;have Hb:=zsp hb;have Hle:=zsp hle;have Hbd:=zsp hbd;have Hvs:=zsp HV;clear hN hWr own hvk HV hv hS hb hrun hrun2 hbd hfit hvm hvs hle hall hnl hq hvl;subst hV;unfold zau at*;have hmf:∀(fn:Fn)(first cap:Array Value)(w:World),(Instr.makeFunc fn first cap).run prog w=.ok (.func fn first cap) w:=fun _ _ _ _=>rfl
 go_enter func80,ntmps80
 go_wp2_with (first
  |(go_at_call 108;refine(HWr.out _).mono ?_;rintro e w2 ⟨rfl,E2⟩;have M2:=zbc.made' (f:=f) Hown.out Hnl.out (by first|rfl|assumption) (by first|rfl|assumption) (by first|rfl|assumption) E2;obtain⟨⟨z0,l0,l1,l2⟩,⟨g0,g1,g2,g3,g4,g5⟩,⟨v3,v4⟩⟩:=M2.cells)
  |(go_at_call 111;refine(HN.out _).mono ?_;rintro e w3 ⟨rfl,E3⟩;replace M2:=M2.up E3;clear z0 l0 l1 l2 g0 g1 g2 g3 g4 g5 v3 v4;obtain⟨⟨z0,l0,l1,l2⟩,⟨g0,g1,g2,g3,g4,g5⟩,⟨v3,v4⟩⟩:=M2.cells))
 go_loopw [163] (fun i wr=>∃(k:Nat)(A':Option Addr)(n' c':Nat),k<=vs.length/\i=.int .i64 (k:Int)/\PutS w0 w wr w.heap.size f (xs++gputs (fun x=>x) f.number bs vs k) A' n' c') (fun i _=>vs.length - (intOf i).toNat)
 case atStart=>exact⟨0,A,n,c,Nat.zero_le _,rfl,by have:=M2.put;simpa[gputs] using this⟩
 case round=>
  obtain⟨k,A',n',c',hk1,rfl,hP⟩:=hrel;have z0:wr.cell? ⟨w.heap.size,0,none⟩=some (.slice A' n' c'):=hP.o.cell 0;have zl:=hP.o.lt;by_cases hlt:k<vs.length
  . have hltI:(k:Int)<vs.length:=by omega
    obtain⟨b5,off5,v,hA,hvk,hb5,e0,e1,e2,e3,e4,e5,e6⟩:=(Hvs.out.ext hP.ext).view' hlt;have hvb:=Hbd.out v (List.mem_of_getElem? hvk);obtain⟨A9,run9,hb9⟩:=zbz Hb.out (l:=v.r.a) (m:=v.r.t) (by omega) (by omega);have hlk:=Hle.out k
    have hn8:n'<=105000000:=by
     have hn':=hP.nL;rw[List.length_append]at hn';have:=Hnl.out;omega
    have Hvk:=zsp hvk;have HP:=zsp hP;clear hvk hP;cases hA
    go_wp2_with (go_at_call 109;refine((HP.out.up xx).put h0s (Nat.le_refl _) (hb9.up (HP.out.ext.trans xx)) (by omega) (by omega) (Hfit.out _)).mono ?_;rintro e w7 ⟨rfl,A5,n5,c5,P5⟩;clear z0 zl;have z0:w7.cell? ⟨w.heap.size,0,none⟩=some (.slice A5 n5 c5):=P5.o.cell 0;have l5:=P5.o.lt)
    go_roundw
    case rel=>
     refine⟨k+1,A5,n5,c5,by omega,by go_num,?_⟩;rw[ziA Hvk.out,<-List.append_assoc];exact P5
    case measure=>simp[intOf];omega
  . obtain rfl:k=vs.length:=by omega
    have hltI:¬(vs.length:Int)<vs.length:=by omega
    have HP:=zsp hP;clear hP
    go_wp2
    go_ret
    exact HP.out.done
end
section
variable {w0 w:World} {SA:Option Addr} {sn sc:Nat} {S:List MsgV} {f:zaa} {xs:List UInt8} {A:Option Addr} {n c:Nat} {B:Option Addr} {bn bc:Nat} {bs:List UInt8} {V:Option Addr} {vc:Nat} {vs:List ViewD} {se:Nat->MsgT->List UInt8} {sub:Nat->List UInt8->MsgT}
theorem znf{d:Nat}(ih:NormP S d se sub)(hsm:∀(o:Nat)(x:List UInt8),x.length<=100000->(se o (sub o x)).length<=32*x.length)(h:zec w0 w SA sn sc S f xs A n c B bn bc bs V vc vs)(hd:bn<=d)(hof:∃m:Nat,f.of_=(m:Int)/\m<S.length)(h17:f.kind=17)(hr:f.rep=true):
 Calls prog 80 #[.slice A n c,.slice SA sn sc,zau f,.slice B bn bc,.slice V vs.length vc] w (zbY w0 w (xs++zbv se sub f [] (vs.map (zal bs)))):=by
 have hk:zad f.kind=false:=by rw[h17];rfl
 obtain⟨o,ho1,ho2⟩:=hof;obtain⟨own,hnl,hn,hS,hb,hbn,hv,hne,hbd,hw,hkb,r2,rw_,hrun,hrun2⟩:=h;have hbl:=hb.length;obtain⟨ini,v,hvs⟩:=zdJ hne;have hvl:vs.length=ini.length+1:=by rw[hvs];simp
 have hvw:=zbE vs;obtain⟨q,hq⟩:∃q,vs.length=q+1:=⟨_,hvl⟩
 obtain⟨bV,off,v',hV,hvk,hbV,e0,e1,e2,e3,e4,e5,e6⟩:=hv.view' (k:=q) (by omega)
 obtain rfl:v'=v:=by
  have:q=ini.length:=by omega
  subst this;rw[hvs]at hvk;simpa using hvk.symm
 have HV:Reads w V vs.length vc 7 (vs.flatMap viewC):=hv;have hvm:v'∈vs:=by rw[hvs];simp
 have hvb:=hbd v' hvm;have hix:((vs.length:Int) - 1)=(q:Int):=by omega
 have hqlt:(q:Int)<vs.length:=by omega
 have hq6:q<=1000000:=by omega
 have Hnl:=zsp hnl;have hN:=fun W=>zba f.kind W
 have hWr:=fun W=>kWire f.kind W
 rw[hk]at hN;rw[zbH hkb,if_pos hkb]at hWr;have h0s:=own.ext.size;have hwi:=zcX hkb hk;rw[hwi,h17]at hWr;rw[h17]at hN;have hon:f.of_.toNat=o:=by rw[ho1];rfl
 rw[zcu h17 hr,hon];have hall:((vs.map (zal bs)).map fun x=>putB f.number 2 (se o (sub o x))).flatten=gputs (fun x=>se o (sub o x)) f.number bs vs vs.length:=zkm.symm;rw[hall]
 have hvl2:∀v∈vs,(zal bs v).length+1<=bs.length:=fun v hv=>by
  have h1:=zix hv;have h2:=hbd v hv;have h3:(zal bs v).length=v.r.t - v.r.a:=zaI bs h2.2;unfold zcp at h1;omega
 have hle:=fun k=>zmh (g:=fun x=>se o (sub o x)) (vs:=vs) (bs:=bs) r2 (fun v h=>(hbd v h).2) (by omega) (fun v hv=>hsm o _ (by have:=hvl2 v hv;omega)) k
 have hfit:∀x:List UInt8,(zao f.number 2&&fitsV 2 x)=true:=fun x=>by
  rw[r2];simp[fitsV]
 have hform:=fun(W:World)(E:Ext w W)(A9:Option Addr)(n9 c9:Nat)(ys:List UInt8)(h9:zab W A9 n9 c9 ys)(hl:n9<d)=>ih W SA sn sc o A9 n9 c9 ys (hS.up E) ho2 h9 hl
 have h17b:(f.kind==17)=true:=by simp[h17]
 have HN:=zsp hN;have HWr:=zsp hWr;have Hown:=zsp own;have Hfit:=zsp hfit;have Hb:=zsp hb;have Hle:=zsp hle;have Hbd:=zsp hbd;have Hvs:=zsp HV;have Hform:=zsp hform;have Hsm:=zsp hsm;have Hvl2:=zsp hvl2;clear hN hWr own hvk HV hv hS hb hrun hrun2 hbd hfit hvm hvs hle hall hform ih hsm hvl2 hon hnl hq hvl;subst hV;unfold zau at*;have hmf:∀(fn:Fn)(first cap:Array Value)(w:World),(Instr.makeFunc fn first cap).run prog w=.ok (.func fn first cap) w:=fun _ _ _ _=>rfl
 go_enter func80,ntmps80
 go_wp2_with (first
  |(go_at_call 108;refine(HWr.out _).mono ?_;rintro e w2 ⟨rfl,E2⟩;have M2:=zbc.made' (f:=f) Hown.out Hnl.out (by first|rfl|assumption) (by first|rfl|assumption) (by first|rfl|assumption) E2;obtain⟨⟨z0,l0,l1,l2⟩,⟨g0,g1,g2,g3,g4,g5⟩,⟨v3,v4⟩⟩:=M2.cells)
  |(go_at_call 111;refine(HN.out _).mono ?_;rintro e w3 ⟨rfl,E3⟩;replace M2:=M2.up E3;clear z0 l0 l1 l2 g0 g1 g2 g3 g4 g5 v3 v4;obtain⟨⟨z0,l0,l1,l2⟩,⟨g0,g1,g2,g3,g4,g5⟩,⟨v3,v4⟩⟩:=M2.cells))
 go_loopw [138] (fun i wr=>∃(k:Nat)(A':Option Addr)(n' c':Nat),k<=vs.length/\i=.int .i64 (k:Int)/\PutS w0 w wr w.heap.size f (xs++gputs (fun x=>se o (sub o x)) f.number bs vs k) A' n' c') (fun i _=>vs.length - (intOf i).toNat)
 case atStart=>exact⟨0,A,n,c,Nat.zero_le _,rfl,by have:=M2.put;simpa[gputs] using this⟩
 case round=>
  obtain⟨k,A',n',c',hk1,rfl,hP⟩:=hrel;have z0:wr.cell? ⟨w.heap.size,0,none⟩=some (.slice A' n' c'):=hP.o.cell 0;have zl:=hP.o.lt;have g5:wr.cell? ⟨w.heap.size+1,5,none⟩=some (.int .i64 f.of_):=hP.f.cell 5;rw[ho1]at g5;have gl:=hP.f.lt;by_cases hlt:k<vs.length
  . have hltI:(k:Int)<vs.length:=by omega
    obtain⟨b5,off5,v,hA,hvk,hb5,e0,e1,e2,e3,e4,e5,e6⟩:=(Hvs.out.ext hP.ext).view' hlt;have hvb:=Hbd.out v (List.mem_of_getElem? hvk);have hvl3:=Hvl2.out v (List.mem_of_getElem? hvk)
    have hse:(se o (sub o (spanB bs v.r.a v.r.t))).length<=3200000:=by
     have h1:=Hsm.out o (zal bs v) (by omega);have h2:(zal bs v).length=v.r.t - v.r.a:=zaI bs hvb.2;unfold zal at h1 h2;omega
    obtain⟨A9,run9,hb9⟩:=zbz Hb.out (l:=v.r.a) (m:=v.r.t) (by omega) (by omega);have hlk:=Hle.out k
    have hn8:n'<=105000000:=by
     have hn':=hP.nL;rw[List.length_append]at hn';have:=Hnl.out;omega
    have hva:v.r.t - v.r.a+1<=bs.length:=by
     have:(zal bs v).length=v.r.t - v.r.a:=zaI bs hvb.2;omega
    have Hb9:=zsp hb9;have Hvk:=zsp hvk;have HP:=zsp hP;clear hvk hP hb9;cases hA
    go_wp2
    go_region_law (first
     |(go_simp;go_at_call 50;refine(Hform.out _ (HP.out.ext.trans xx) _ _ _ _ (Hb9.out.up (HP.out.ext.trans xx)) (by omega)).mono ?_;rintro e w6 ⟨A6,c6,rfl,own6⟩;have P6:=HP.out.up (Ext.trans xx own6.ext);clear z0;have z0:w6.cell? ⟨w.heap.size,0,none⟩=some (.slice A' n' c'):=P6.o.cell 0)
     |(go_simp;go_at_call 109;refine(P6.put h0s (Nat.le_refl _) own6.bytes (by omega) (by omega) (Hfit.out _)).mono ?_;rintro e w7 ⟨rfl,A5,n5,c5,P5⟩))
    all_goals
     go_simp
     go_wp2
     go_roundw
     case rel=>
      refine⟨k+1,A5,n5,c5,by omega,by go_num,?_⟩;rw[ziA Hvk.out,<-List.append_assoc];exact P5
     case measure=>simp[intOf];omega
  . obtain rfl:k=vs.length:=by omega
    have hltI:¬(vs.length:Int)<vs.length:=by omega
    have HP:=zsp hP;clear hP
    go_wp2
    go_ret
    exact HP.out.done
end
section
variable {w0 w:World} {SA:Option Addr} {sn sc:Nat} {S:List MsgV} {f:zaa} {xs:List UInt8} {A:Option Addr} {n c:Nat} {B:Option Addr} {bn bc:Nat} {bs:List UInt8} {V:Option Addr} {vc:Nat} {vs:List ViewD} {se:Nat->MsgT->List UInt8} {sub:Nat->List UInt8->MsgT}
theorem zng{d:Nat}(ih:NormP S d se sub)(hsm:∀(o:Nat)(x:List UInt8),x.length<=100000->(se o (sub o x)).length<=32*x.length)(h:zec w0 w SA sn sc S f xs A n c B bn bc bs V vc vs)(hd:bn<=d)(hof:∃m:Nat,f.of_=(m:Int)/\m<S.length)(h17:f.kind=17)(hr:f.rep=false):
 Calls prog 80 #[.slice A n c,.slice SA sn sc,zau f,.slice B bn bc,.slice V vs.length vc] w (zbY w0 w (xs++zbv se sub f [] (vs.map (zal bs)))):=by
 have hk:zad f.kind=false:=by rw[h17];rfl
 obtain⟨o,ho1,ho2⟩:=hof;obtain⟨own,hnl,hn,hS,hb,hbn,hv,hne,hbd,hw,hkb,r2,rw_,hrun,hrun2⟩:=h;have hbl:=hb.length;obtain⟨ini,v,hvs⟩:=zdJ hne;have hvl:vs.length=ini.length+1:=by rw[hvs];simp
 have hvw:=zbE vs;obtain⟨q,hq⟩:∃q,vs.length=q+1:=⟨_,hvl⟩
 obtain⟨bV,off,v',hV,hvk,hbV,e0,e1,e2,e3,e4,e5,e6⟩:=hv.view' (k:=q) (by omega)
 obtain rfl:v'=v:=by
  have:q=ini.length:=by omega
  subst this;rw[hvs]at hvk;simpa using hvk.symm
 have HV:Reads w V vs.length vc 7 (vs.flatMap viewC):=hv;have hvm:v'∈vs:=by rw[hvs];simp
 have hvb:=hbd v' hvm;have hix:((vs.length:Int) - 1)=(q:Int):=by omega
 have hqlt:(q:Int)<vs.length:=by omega
 have hq6:q<=1000000:=by omega
 have Hnl:=zsp hnl;have hN:=fun W=>zba f.kind W
 have hWr:=fun W=>kWire f.kind W
 rw[hk]at hN;rw[zbH hkb,if_pos hkb]at hWr;have h0s:=own.ext.size;have hwi:=zcX hkb hk;rw[hwi,h17]at hWr;rw[h17]at hN;have hon:f.of_.toNat=o:=by rw[ho1];rfl
 rw[zct h17 hr,hon]
 have hjl:∀k,((vs.take k).map (zal bs)).flatten.length<=bs.length:=fun k=>by
  have h1:=zeB (vs:=vs.take k) (bs:=bs) (fun v hv=>(hbd v (List.mem_of_mem_take hv)).2);have h2:=zea vs k;omega
 have hjs:∀(k:Nat)(v:ViewD),vs[k]?=some v->((vs.take (k+1)).map (zal bs)).flatten=((vs.take k).map (zal bs)).flatten++zal bs v:=fun k v h=>by
  rw[List.take_add_one,h,List.map_append,List.flatten_append];simp
 have hj1:(vs.map (zal bs)).flatten.length+1<=bs.length:=by
  have h1:=zeB (vs:=vs) (bs:=bs) (fun v hv=>(hbd v hv).2);omega
 have hse:=hsm o (vs.map (zal bs)).flatten (by omega);obtain⟨J,hJ⟩:∃J,J=(vs.map (zal bs)).flatten:=⟨_,rfl⟩
 rw[<-hJ]at hj1 hse⊢;have HJ:=zsp hJ;clear hJ
 have hfit:∀x:List UInt8,(zao f.number 2&&fitsV 2 x)=true:=fun x=>by
  rw[r2];simp[fitsV]
 have hform:=fun(W:World)(E:Ext w W)(A9:Option Addr)(n9 c9:Nat)(ys:List UInt8)(h9:zab W A9 n9 c9 ys)(hl:n9<d)=>ih W SA sn sc o A9 n9 c9 ys (hS.up E) ho2 h9 hl
 have h17b:(f.kind==17)=true:=by simp[h17]
 have HN:=zsp hN;have HWr:=zsp hWr;have Hown:=zsp own;have Hfit:=zsp hfit;have Hb:=zsp hb;have Hjl:=zsp hjl;have Hjs:=zsp hjs;have Hbd:=zsp hbd;have Hvs:=zsp HV;have Hform:=zsp hform;clear hN hWr own hvk HV hv hS hb hrun hrun2 hbd hfit hvm hvs hjl hjs hform ih hsm hon hnl hq hvl;subst hV;unfold zau at*;have hmf:∀(fn:Fn)(first cap:Array Value)(w:World),(Instr.makeFunc fn first cap).run prog w=.ok (.func fn first cap) w:=fun _ _ _ _=>rfl
 go_enter func80,ntmps80
 go_wp2_with (first
  |(go_at_call 108;refine(HWr.out _).mono ?_;rintro e w2 ⟨rfl,E2⟩;have M2:=zbc.made' (f:=f) Hown.out Hnl.out (by first|rfl|assumption) (by first|rfl|assumption) (by first|rfl|assumption) E2;obtain⟨⟨z0,l0,l1,l2⟩,⟨g0,g1,g2,g3,g4,g5⟩,⟨v3,v4⟩⟩:=M2.cells)
  |(go_at_call 111;refine(HN.out _).mono ?_;rintro e w3 ⟨rfl,E3⟩;replace M2:=M2.up E3;clear z0 l0 l1 l2 g0 g1 g2 g3 g4 g5 v3 v4;obtain⟨⟨z0,l0,l1,l2⟩,⟨g0,g1,g2,g3,g4,g5⟩,⟨v3,v4⟩⟩:=M2.cells))
 go_loopw [20,109] (fun u i wr=>∃(k:Nat)(U:Option Addr)(un uc:Nat),k<=vs.length/\i=.int .i64 (k:Int)/\u=.slice U un uc/\un=((vs.take k).map (zal bs)).flatten.length/\Own w3 wr 5 1 U un uc (((vs.take k).map (zal bs)).flatten.map bv)) (fun _ i _=>vs.length - (intOf i).toNat)
 case atStart=>exact⟨0,none,0,0,Nat.zero_le _,rfl,rfl,rfl,Own.nil (Ext.refl _) _ _⟩
 case round=>
  obtain⟨k,U,un,uc,hk1,rfl,rfl,hun,ownr⟩:=hrel;have Mr:=M2.up ownr.ext;clear z0 l0 l1 l2 g0 g1 g2 g3 g4 g5 v3 v4;obtain⟨⟨z0,l0,l1,l2⟩,⟨g0,g1,g2,g3,g4,g5⟩,⟨v3,v4⟩⟩:=Mr.cells;by_cases hlt:k<vs.length
  . have hltI:(k:Int)<vs.length:=by omega
    obtain⟨b5,off5,v,hA,hvk,hb5,e0,e1,e2,e3,e4,e5,e6⟩:=(Hvs.out.ext Mr.put.ext).view' hlt;have hvb:=Hbd.out v (List.mem_of_getElem? hvk);obtain⟨A9,run9,hb9⟩:=zbz (Hb.out.up Mr.put.ext) (l:=v.r.a) (m:=v.r.t) (by omega) (by omega);have hlk:=Hjl.out k;rw[<-hun]at hlk;have hl9:=hb9.length;have Hun:=zsp hun;have Hvk:=zsp hvk;have HM:=zsp Mr;clear hvk hun Mr;cases hA
    go_wp2_with (at_builtin;refine zaT elemB rfl (.tmp 113) (.tmp 121) rfl rfl (ownr.up xx) rfl (hb9.up xx) (zgh _) (by omega) (by unfold maxLen;omega) ?_;intro A4 c4 w4 own4 g4)
    go_roundw
    case rel=>
     refine⟨k+1,A4,un+(v.r.t - v.r.a),c4,by omega,by go_num,rfl,?_,?_⟩
     . rw[Hjs.out k v Hvk.out,List.length_append,<-Hun.out,<-hl9]
       rfl
     . rw[Hjs.out k v Hvk.out,List.map_append]
       exact own4
    case measure=>simp[intOf];omega
  . obtain rfl:k=vs.length:=by omega
    have hltI:¬(vs.length:Int)<vs.length:=by omega
    rw[List.take_length,<-HJ.out]at hun ownr;rw[ho1]at g5;subst hun;have HM:=zsp Mr;clear Mr
    go_wp2_with (first
     |(go_at_call 50;refine(Hform.out _ (HM.out.put.ext.trans xx) _ _ _ _ (ownr.bytes.up xx) (by omega)).mono ?_;rintro e w6 ⟨A6,c6,rfl,own6⟩;have P6:=HM.out.put.up (Ext.trans xx own6.ext);clear z0 l0;have z0:w6.cell? ⟨w.heap.size,0,none⟩=some (.slice A n c):=P6.o.cell 0;have l0:=P6.o.lt)
     |(go_at_call 109;refine(P6.put h0s (Nat.le_refl _) own6.bytes (by omega) (by omega) (Hfit.out _)).mono ?_;rintro e w7 ⟨rfl,A5,n5,c5,P5⟩;clear z0 l0;have z0:w7.cell? ⟨w.heap.size,0,none⟩=some (.slice A5 n5 c5):=P5.o.cell 0;have l5:=P5.o.lt))
    go_ret
    exact P5.done
end
section
variable {w0 w:World} {SA:Option Addr} {sn sc:Nat} {S:List MsgV} {f:zaa} {xs:List UInt8} {A:Option Addr} {n c:Nat} {B:Option Addr} {bn bc:Nat} {bs:List UInt8} {V:Option Addr} {vc:Nat} {vs:List ViewD} {se:Nat->MsgT->List UInt8} {sub:Nat->List UInt8->MsgT}
theorem zrQ{d:Nat}(ih:NormP S d se sub)(hsm:∀(o:Nat)(x:List UInt8),x.length<=100000->(se o (sub o x)).length<=32*x.length)(h:zec w0 w SA sn sc S f xs A n c B bn bc bs V vc vs)(hd:bn<=d)(hof:f.kind=17->∃m:Nat,f.of_=(m:Int)/\m<S.length):
 Calls prog 80 #[.slice A n c,.slice SA sn sc,zau f,.slice B bn bc,.slice V vs.length vc] w (zbY w0 w (xs++zbv se sub f (vs.flatMap (zaw f bs)) (vs.flatMap (zam f bs)))):=by
 have hrun:=h.2.2.2.2.2.2.2.2.2.2.2.2.2.1;rcases hk:zad f.kind with _|_
 . rw[znc hk (hrun hk),znb hk (hrun hk)]
   by_cases h17:f.kind=17
   . rcases hr:f.rep with _|_
     . exact zng ih hsm h hd (hof h17) h17 hr
     . exact znf ih hsm h hd (hof h17) h17 hr
   . rcases hr:f.rep with _|_
     . exact zne h hk h17 hr
     . exact zln h hk h17 hr
 . rw[zfz hk]
   rcases hr:f.rep with _|_
   . exact znd h hk hr
   . exact zok h hk hr
end
end Go.Proofs.YtlhbllaojjelcaaGreat
