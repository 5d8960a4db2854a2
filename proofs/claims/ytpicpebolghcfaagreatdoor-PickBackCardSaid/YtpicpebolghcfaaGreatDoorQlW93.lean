/- Layer 15: the reference's Path (and Join). -/
import Derived.Test.YtpicpebolghcfaaGreatDoorQlS18b

set_option linter.unusedVariables false
set_option linter.unusedSimpArgs false
set_option maxRecDepth 100000
set_option maxHeartbeats 4000000
namespace Go.Proofs.YtpicpebolghcfaaGreatDoor
open Go.RowKit Go.Shelf Tryz
variable{f:zab}{x:Int}{m:Nat}
theorem OnWay.head{S:List MsgD}{rest:List Int}(h:OnWay S m (x::rest) f):∃g,zbj S m x=some g/\((rest=[]/\g=f)\/(rest≠ []/\g.kind=17/\g.rep=false/\OnWay S g.of_.toNat rest f)):=by
 cases h with
 |last h=>exact⟨f,h,.inl ⟨rfl,rfl⟩⟩
 |step h hk hr t=>exact⟨_,h,.inr ⟨t.ne,hk,hr,t⟩⟩
variable{w:World}{n c:Nat}{A:Option Addr}
theorem zrA{l:List ByteArray}(hl:zcL w A n c l)(hs:∀s∈l,s.size<=60)(hn:n<=1000):
 Calls prog 71 #[.slice A n c] w fun e w'=>∃s:ByteArray,e=.returned (.string s)/\Ext w w':=by
 have Hl:=zsz hl;have Hs:=zsz hs;clear hl hs
 go_enter func71,ntmps71
 go_wp2_with fail
 go_loopw [3,4] (fun t3 t4 wr=>∃(q:Nat)(s:ByteArray),q<=n/\t4=.int .i64 q/\t3=.string s/\s.size<=61*q/\Ext w wr) (fun _ i _=>n - (intOf i).toNat)
 case atStart=>exact⟨0,⟨#[]⟩,Nat.zero_le _,rfl,rfl,by simp[ByteArray.size],Ext.refl _⟩
 case round=>
  obtain⟨q,s,hq,rfl,rfl,hsz,X⟩:=hrel;by_cases hlt:q<n
  . have hlt2:(q:Int)<n:=by omega
    obtain⟨b,off,t,rfl,ht,hb,hc⟩:=zcL.name Hl.out hlt;have ht60:=Hs.out t (List.mem_of_getElem? ht);have hc2:=X.of_cell hc;have hb2:=Nat.lt_of_lt_of_le hb X.size;clear hc hb ht;by_cases h0:q=0
    . subst h0
      simp only[Nat.add_zero]at hc2
      go_wp2
      go_roundw
      case rel=>exact⟨1,s++t,by omega,by go_num,rfl,by rw[ByteArray.size_append];omega,X⟩
      case measure=>simp[intOf];omega
    . have h1:(0:Int)<q:=by omega
      go_wp2
      go_roundw
      case rel=>exact⟨q+1,(s++⟨#[46]⟩)++t,by omega,by go_num,rfl,by rw[ByteArray.size_append,ByteArray.size_append,show(⟨#[46]⟩:ByteArray).size=1 from rfl];omega,X⟩
      case measure=>simp[intOf];omega
  . obtain rfl:q=n:=by omega
    go_wp2
    go_ret
    exact⟨s,rfl,X⟩
variable{k kc:Nat}
theorem rPath{C:Option Addr}{S:List MsgV}{way:List Int}(hR:zan (S.map MsgV.d)=true)(hs:zag w A n c S)(hm:m<n)(hf:OnWay (S.map MsgV.d) m way f)(hw:Reads w C k kc 1 (way.map wyV))(hk:way.length<=65):
 Calls prog 41 #[.slice A n c,.int .i64 (m:Int),.slice C k kc] w fun e w'=>∃s:ByteArray,e=.returned (.tuple #[.string s,.bool true])/\Ext w w':=by
 have hSl:=hs.length;have hkl:way.length=k:=by have:=hw.len;rw[List.length_map,Nat.mul_one]at this;exact this
 have hk0:0<k:=by
  rcases k with _|k
  . exact absurd (List.eq_nil_of_length_eq_zero hkl) hf.ne
  . omega
 have Hs:=zsz hs;have Hf:=zsz hf;have Hw:=zsz hw;have HR:=zsz hR;clear hs hf hw hR
 go_enter func41,ntmps41
 go_wp2_with fail
 go_loopw [1,8,9] (fun t1 t8 t9 wr=>∃(q:Nat)(A8:Option Addr)(k8:Nat)(l:List ByteArray),q<=k/\t9=.int .i64 q/\t8=.slice A8 q k8/\Own w wr 9 1 A8 q k8 (l.map nmV)/\Hid (∀s∈l,s.size<=60)/\
  Hid ((q<k/\∃mq:Nat,t1=.int .i64 mq/\mq<n/\OnWay (S.map MsgV.d) mq (way.drop q) f)\/(q=k/\∃z:Int,t1=.int .i64 z))) (fun _ _ i _=>k - (intOf i).toNat)
 case atStart=>exact⟨0,none,0,[],Nat.zero_le _,rfl,rfl,Own.nil (Ext.refl _) 9 1,zsz (fun s hs=>by cases hs),zsz (.inl ⟨hk0,m,rfl,hm,Hf.out⟩)⟩
 case round=>
  obtain⟨q,A8,k8,l,hq,rfl,rfl,own,hl60,hst⟩:=hrel;by_cases hlt:q<k
  . have hlt2:(q:Int)<k:=by omega
    rcases hst.out with⟨_,mq,e1,hmq,hon⟩|⟨h,_⟩
    rotate_left
    . omega
    subst e1;obtain⟨x,hx⟩:∃x,way[q]?=some x:=⟨_,List.getElem?_eq_getElem (by omega)⟩
    have hdrop:way.drop q=x::way.drop (q+1):=by
     have hql:q<way.length:=by omega
     rw[List.drop_eq_getElem_cons hql];congr 1;exact(Option.some.inj ((List.getElem?_eq_getElem hql).symm.trans hx))
    rw[hdrop]at hon;obtain⟨g,hg,hnext⟩:=hon.head;obtain⟨sb,so,⟨⟨Mn,Mf⟩,MA,Mk,Mc⟩,rfl,hM,hF,hMn,hsb,s0,s1⟩:=Hs.out.msg hmq;simp only at hF hMn s0 s1;have hM':(S.map MsgV.d)[mq]?=some ⟨Mn,Mf⟩:=by rw[List.getElem?_map,hM];rfl
    have hFl:=hF.length;have hF2:=(zbd HR.out hM').2.2.1;simp only at hF2;have hMk:Mk<=1000000000000:=by omega
    obtain⟨j,hj,hI⟩:=zbY hM' hg;simp only at hj hI;have hby:=fun W (h:Ext wr W)=>zct (s:=Mn) (x:=x) (hF.up (own.ext.trans h)) hMk hI
    have hjl:j<Mk:=by have:=(List.getElem?_eq_some_iff.1 hj).1;omega
    have hji:(j:Int)<Mk:=by omega
    have hmi:(mq:Int)<n:=by omega
    have hname:=zcV (zcW ((zbd HR.out hM').2.2.2 j g hj)).1;have hof:=fun(h:g.kind=17)=>zbV HR.out hM' hj h
    rw[List.length_map,hSl]at hof;obtain⟨fb,fo,f',rfl,hf',hok,hfb,c0,c1,c2,c3,c4,c5⟩:=hF.field hjl;obtain rfl:f'=g:=Option.some.inj (hf'.symm.trans hj);obtain⟨wb,wo,e,hwb,hwc⟩:=Hw.out.at_ (by omega);subst e;have w0:w.cell? ⟨wb,wo+q,none⟩=some (.int .i64 x):=hwc q (wyV x) (by rw[List.getElem?_map,hx];rfl);have X:=own.ext;replace c0:=X.of_cell c0;replace c1:=X.of_cell c1;replace c2:=X.of_cell c2;replace c3:=X.of_cell c3;replace c4:=X.of_cell c4;replace c5:=X.of_cell c5;replace s0:=X.of_cell s0;replace s1:=X.of_cell s1;replace w0:=X.of_cell w0;replace hsb:=Nat.lt_of_lt_of_le hsb X.size;replace hfb:=Nat.lt_of_lt_of_le hfb X.size;replace hwb:=Nat.lt_of_lt_of_le hwb X.size
    have Hby:=zsz hby;have Hnext:=zsz hnext;have Hof:=zsz hof;have Hok:=zsz hok;obtain⟨fname,fnum,fkind,frep,fpk,fof⟩:=f';simp only at c0 c1 c2 c3 c4 c5 hname;clear hby hnext hof hok hf' hj hI hF hM hM' hFl hF2 hon hdrop hx hwc hg hst
    go_wp2_with fail
    go_region_law (go_simp;go_at_call 42;refine(Hby.out _ xx).mono ?_;rintro e w1 ⟨rfl,E1⟩;have X1:Ext wr w1:=Ext.trans xx E1)
    all_goals
     go_simp
     replace c0:=X1.of_cell c0;replace c1:=X1.of_cell c1;replace c2:=X1.of_cell c2;replace c3:=X1.of_cell c3;replace c4:=X1.of_cell c4;replace c5:=X1.of_cell c5;replace s0:=X1.of_cell s0;replace s1:=X1.of_cell s1;replace hsb:=Nat.lt_of_lt_of_le hsb X1.size;replace hfb:=Nat.lt_of_lt_of_le hfb X1.size;have hjn:¬(j:Int)<0:=by omega
     have own1:=own.up X1;have BF:=BlkT.new w1 43 #[.string fname,.int .i64 fnum,.int .i64 fkind,.bool frep,.bool fpk,.int .i64 fof] rfl;have X2:Ext w1 (w1.alloc (.cells #[.string fname,.int .i64 fnum,.int .i64 fkind,.bool frep,.bool fpk,.int .i64 fof] 43)):=(Ext.refl w1).alloc _
     go_upto_region 9 with fail
     generalize w1.alloc (.cells #[.string fname,.int .i64 fnum,.int .i64 fkind,.bool frep,.bool fpk,.int .i64 fof] 43)=w2 at*;have own2:=own1.up X2;have X3:Ext wr w2:=X1.trans X2;have y0:w2.cell? ⟨w1.heap.size,0,none⟩=some (.string fname):=BF.cell 0;have yl:=BF.lt
     go_upto_region 10 with(at_builtin;refine zaH zkx rfl (.tmp 37) (.tmp 40) rfl rfl own2 rfl (by first|rfl|simp) rfl (by omega) (by unfold maxLen;omega) ?_;intro A4 c4 w4 own4 g4;have BF4:=(BF.alloc _).beside (own2.alloc _) (by decide) g4)
     have z2:w4.cell? ⟨w1.heap.size,2,none⟩=some (.int .i64 fkind):=BF4.cell 2;have z3:w4.cell? ⟨w1.heap.size,3,none⟩=some (.bool frep):=BF4.cell 3;have z5:w4.cell? ⟨w1.heap.size,5,none⟩=some (.int .i64 fof):=BF4.cell 5;have zl:=BF4.lt
     have hl2:∀s∈l++[fname],s.size<=60:=fun s hs=>by
      rcases List.mem_append.1 hs with hs|hs
      . exact hl60.out s hs
      . rw[List.mem_singleton]at hs
        subst hs;exact hname.2
     have Hl2:=zsz hl2;clear hl2;rcases Hnext.out with⟨h1,_⟩|⟨h1,h2,h3,h4⟩
     . have hlast:¬(q:Int)<(k:Int) - 1:=by
        have:=List.drop_eq_nil_iff.1 h1;omega
       have hqk:q+1=k:=by
        have:=List.drop_eq_nil_iff.1 h1;omega
       clear h1
       go_wp2
       go_roundw
       case rel=>exact⟨q+1,A4,c4,l++[fname],by omega,by go_num,rfl,by simpa[nmV] using own4,Hl2,zsz (.inr ⟨hqk,fof,rfl⟩)⟩
       case measure=>simp[intOf];omega
     . obtain⟨o,ho1,ho2⟩:=Hof.out h2
       have hq1:q+1<k:=by
        rcases Nat.lt_or_ge (q+1) k with h|h
        . exact h
        . exact absurd (List.drop_eq_nil_iff.2 (by omega)) h1
       have hlast:(q:Int)<(k:Int) - 1:=by omega
       try simp only at h2 h3 h4 ho1
       subst h2;subst h3;subst ho1;have H4:=zsz h4;clear h1 h4
       go_wp2
       go_roundw
       case rel=>exact⟨q+1,A4,c4,l++[fname],by omega,by go_num,rfl,by simpa[nmV] using own4,Hl2,zsz (.inl ⟨hq1,o,rfl,ho2,H4.out⟩)⟩
       case measure=>simp[intOf];omega
  . obtain rfl:q=k:=by omega
    have hjn:=fun W (h:Ext wr W)=>zrA (own.up h).reads hl60.out (by omega)
    have Hjn:=zsz hjn;have hk1:(1:Int)<=q:=by omega
    have hk65:(q:Int)<=65:=by omega
    clear hjn
    go_wp2_with (go_at_call 71;refine(Hjn.out _ xx).mono ?_;rintro e w1 ⟨s,rfl,E1⟩)
    go_ret2
    exact⟨s,rfl,own.ext.trans E1⟩
def zdu(w:World)(b:Nat)(f:zab):World:=
 (((((w.setCell ⟨b,0,none⟩ (.string f.name)).setCell ⟨b,1,none⟩ (.int .i64 f.number)).setCell ⟨b,2,none⟩ (.int .i64 f.kind)).setCell ⟨b,3,none⟩ (.bool f.rep)).setCell ⟨b,4,none⟩ (.bool f.packed)).setCell ⟨b,5,none⟩ (.int .i64 f.of_)
variable{b:Nat}
theorem zeK{w0:World}(h:Ext w0 w)(hb:w0.heap.size<=b):Ext w0 (zdu w b f):=by
 unfold zdu;exact(((((h.setCell (p:=⟨b,0,none⟩) hb _).setCell (p:=⟨b,1,none⟩) hb _).setCell (p:=⟨b,2,none⟩) hb _).setCell (p:=⟨b,3,none⟩) hb _).setCell (p:=⟨b,4,none⟩) hb _).setCell (p:=⟨b,5,none⟩) hb _
theorem ziQ{t:TypeId}(h:BlkT w b t #[.string ⟨#[]⟩,.int .i64 0,.int .i64 0,.bool false,.bool false,.int .i64 0]):BlkT (zdu w b f) b t #[.string f.name,.int .i64 f.number,.int .i64 f.kind,.bool f.rep,.bool f.packed,.int .i64 f.of_]:=by
 unfold zdu;have:=(((((h.set_ 0 (.string f.name)).set_ 1 (.int .i64 f.number)).set_ 2 (.int .i64 f.kind)).set_ 3 (.bool f.rep)).set_ 4 (.bool f.packed)).set_ 5 (.int .i64 f.of_);simpa using this
noncomputable def regLa(n:Nat):Code:=((Tryz.f12.body.bind (zbu n)).getD .skip)
structure zpC where
 (b0 b1 b2 b3 b4 b5 b6 b7 b8 b9 b10 b11 b12 b13 b14 b15 b16:Bool)
 (s29 s30 s31 s32 s33 s34 s35 s36 s37 s38 s39 s40 s41 s42 s43 s44:Value)
structure zrB(w:World)(sb so n c wb wo k kc fb fo Mk Mc m j q ka:Nat)(Mn:ByteArray)(x:Int)(fname:ByteArray)(fnum fkind:Int)(frep fpk:Bool)(fof:Int)(gn:ByteArray)(gnum gkind:Int)(grep gpk:Bool)(gof:Int)(σ:zpC)(W:World):Prop where
 X:σ.b16=false->Ext w W
 Q0:σ.b0=true->σ.s29=.slice (some ⟨sb,so,none⟩) n c
 Q1:σ.b1=true->σ.s30=.int .i64 (m:Int)
 Q2:σ.b2=true->σ.s31=.pointer (some ⟨sb,so+m*2,none⟩)
 Q3:σ.b3=true->σ.s32=.pointer (some ⟨sb,so+m*2+1,none⟩)
 Q4:σ.b4=true->σ.s33=.slice (some ⟨fb,fo,none⟩) Mk Mc
 Q5:σ.b5=true->σ.s34=.slice (some ⟨sb,so,none⟩) n c
 Q6:σ.b6=true->σ.s35=.int .i64 (m:Int)
 Q7:σ.b7=true->σ.s36=.pointer (some ⟨sb,so+m*2,none⟩)
 Q8:σ.b8=true->σ.s37=.agg #[.string Mn,.slice (some ⟨fb,fo,none⟩) Mk Mc]
 Q9:σ.b9=true->σ.s38=.slice (some ⟨wb,wo,none⟩) k kc
 Q10:σ.b10=true->σ.s39=.int .i64 (q:Int)
 Q11:σ.b11=true->σ.s40=.pointer (some ⟨wb,wo+q,none⟩)
 Q12:σ.b12=true->σ.s41=.int .i64 x
 Q13:σ.b13=true->σ.s42=.int .i64 (j:Nat)
 Q14:σ.b14=true->σ.s43=.pointer (some ⟨fb,fo+j*6,none⟩)
 Q15:σ.b15=true->σ.s44=.agg #[.string fname,.int .i64 fnum,.int .i64 fkind,.bool frep,.bool fpk,.int .i64 fof]
 F16:σ.b16=true->∃W6,W=zdu W6 ka ⟨fname,fnum,fkind,frep,fpk,fof⟩/\Ext w W6
 D2:σ.b2=true->σ.b0=true/\σ.b1=true
 D3:σ.b3=true->σ.b2=true
 D4:σ.b4=true->σ.b3=true
 D7:σ.b7=true->σ.b5=true/\σ.b6=true
 D8:σ.b8=true->σ.b7=true
 D11:σ.b11=true->σ.b9=true/\σ.b10=true
 D12:σ.b12=true->σ.b11=true
 D13:σ.b13=true->σ.b8=true/\σ.b12=true
 D14:σ.b14=true->σ.b4=true/\σ.b13=true
 D15:σ.b15=true->σ.b14=true
 D16:σ.b16=true->σ.b15=true
theorem zsv{Q0:Exit->Act->World->Prop}{u3 u4 u5 u6 u7 u8 u9 u12 u13 u14 u15 u16 u17 u18 u19 u20 u21 u22 u23 u24 u25 u26 u27 u28 u29 u30 u31 u32 u33 u34 u35 u36 u37 u38 u39 u40 u41 u42 u43 u44 u45 u46 u47:Value}{sb so wb wo fb fo Mk Mc j q ka:Nat}{Mn:ByteArray}{fname:ByteArray}{fnum fkind:Int}{frep fpk:Bool}{fof:Int}{gn:ByteArray}{gnum gkind:Int}{grep gpk:Bool}{gof:Int}(hmi:(m:Int)<n)(hqk:(q:Int)<k)(hji:(j:Int)<Mk)(z0:w.cell? ⟨sb,so+m*2,none⟩=some (.string Mn))(z1:w.cell? ⟨sb,so+m*2+1,none⟩=some (.slice (some ⟨fb,fo,none⟩) Mk Mc))(zw:w.cell? ⟨wb,wo+q,none⟩=some (.int .i64 x))(y0:w.cell? ⟨fb,fo+j*6,none⟩=some (.string fname))(y1:w.cell? ⟨fb,fo+j*6+1,none⟩=some (.int .i64 fnum))(y2:w.cell? ⟨fb,fo+j*6+2,none⟩=some (.int .i64 fkind))(y3:w.cell? ⟨fb,fo+j*6+3,none⟩=some (.bool frep))(y4:w.cell? ⟨fb,fo+j*6+4,none⟩=some (.bool fpk))(y5:w.cell? ⟨fb,fo+j*6+5,none⟩=some (.int .i64 fof))(BR:BlkT w ka 43 #[.string gn,.int .i64 gnum,.int .i64 gkind,.bool grep,.bool gpk,.int .i64 gof])(hby:∀W:World,Ext w W->Calls prog 42 #[.agg #[.string Mn,.slice (some ⟨fb,fo,none⟩) Mk Mc],.int .i64 x] W fun e w'=>e=.returned (.int .i64 (j:Nat))/\Ext W w')(hK:∀(s29 s30 s31 s32 s33 s34 s35 s36 s37 s38 s39 s40 s41 s42 s43 s44:Value)(W6 wz:World),wz=zdu W6 ka ⟨fname,fnum,fkind,frep,fpk,fof⟩->Ext w W6->Q0 .normal ⟨#[.slice (some ⟨sb,so,none⟩) n c,.int .i64 (m:Int),.slice (some ⟨wb,wo,none⟩) k kc,u3,u4,u5,u6,u7,u8,u9,.pointer (some ⟨ka,0,none⟩),.int .i64 (q:Int),u12,u13,u14,u15,u16,u17,u18,u19,u20,u21,u22,u23,u24,u25,u26,u27,u28,s29,s30,s31,s32,s33,s34,s35,s36,s37,s38,s39,s40,s41,s42,s43,s44,u45,u46,u47],[]⟩ wz):
 Code.wp prog (regLa 8) (zeS Q0) ⟨#[.slice (some ⟨sb,so,none⟩) n c,.int .i64 (m:Int),.slice (some ⟨wb,wo,none⟩) k kc,u3,u4,u5,u6,u7,u8,u9,.pointer (some ⟨ka,0,none⟩),.int .i64 (q:Int),u12,u13,u14,u15,u16,u17,u18,u19,u20,u21,u22,u23,u24,u25,u26,u27,u28,u29,u30,u31,u32,u33,u34,u35,u36,u37,u38,u39,u40,u41,u42,u43,u44,u45,u46,u47],[]⟩ w:=by
 have HK:=zsz hK;clear hK
 conv=>arg 2;whnf
 obtain⟨I,hI⟩:∃I:Array Bool->Act->World->Prop,∀l a W,I l a W<->(∃σ:zpC,l=#[σ.b0,σ.b1,σ.b2,σ.b3,σ.b4,σ.b5,σ.b6,σ.b7,σ.b8,σ.b9,σ.b10,σ.b11,σ.b12,σ.b13,σ.b14,σ.b15,σ.b16]/\a=⟨#[.slice (some ⟨sb,so,none⟩) n c,.int .i64 (m:Int),.slice (some ⟨wb,wo,none⟩) k kc,u3,u4,u5,u6,u7,u8,u9,.pointer (some ⟨ka,0,none⟩),.int .i64 (q:Int),u12,u13,u14,u15,u16,u17,u18,u19,u20,u21,u22,u23,u24,u25,u26,u27,u28,σ.s29,σ.s30,σ.s31,σ.s32,σ.s33,σ.s34,σ.s35,σ.s36,σ.s37,σ.s38,σ.s39,σ.s40,σ.s41,σ.s42,σ.s43,σ.s44,u45,u46,u47],[]⟩/\zrB w sb so n c wb wo k kc fb fo Mk Mc m j q ka Mn x fname fnum fkind frep fpk fof gn gnum gkind grep gpk gof σ W):=⟨_,fun _ _ _=>Iff.rfl⟩
 have HI:=zsz hI;clear hI;refine zbe (I:=I) (by kernel_rfl) (fun i l a W hi hr=> ?_) (fun l a W hi hr=> ?_) ?_
 . obtain⟨σ,rfl,rfl,G⟩:=(HI.out _ _ _).1 hi
   clear hi;obtain⟨hlt,hl,hd⟩:=zbo hr;clear hr;have hlt:i<17:=hlt;rcases(show i=0\/i=1\/i=2\/i=3\/i=4\/i=5\/i=6\/i=7\/i=8\/i=9\/i=10\/i=11\/i=12\/i=13\/i=14\/i=15\/i=16 by omega)with rfl|rfl|rfl|rfl|rfl|rfl|rfl|rfl|rfl|rfl|rfl|rfl|rfl|rfl|rfl|rfl|rfl
   all_goals
    have hd:=hd _ rfl;clear hlt;simp[Region.binds]at hl hd;have e:=zsz hl;clear hl
   . refine zad rfl rfl fun K HK2=> ?_
     go_simp
     refine HK2.out _ _ ((HI.out _ _ _).2 ⟨{σ with b0:=true,s29:=_},rfl,rfl,{G with D2:=fun h=>ff e (G.D2 h).1,Q0:=fun _=>rfl}⟩)
   . refine zad rfl rfl fun K HK2=> ?_
     go_simp
     refine HK2.out _ _ ((HI.out _ _ _).2 ⟨{σ with b1:=true,s30:=_},rfl,rfl,{G with D2:=fun h=>ff e (G.D2 h).2,Q1:=fun _=>rfl}⟩)
   . have t0:σ.b0=true:=by simp[hd]
     have t1:σ.b1=true:=by simp[hd]
     have er0:=G.Q0 t0;have er1:=G.Q1 t1;clear hd;refine zad rfl rfl fun K HK2=> ?_
     go_simp
     refine HK2.out _ _ ((HI.out _ _ _).2 ⟨{σ with b2:=true,s31:=_,s29:=_,s30:=_},rfl,rfl,{G with D2:=fun _=>⟨t0,t1⟩,D3:=fun h=>ff e (G.D3 h),Q0:=fun _=>rfl,Q1:=fun _=>rfl,Q2:=fun _=>rfl}⟩)
   . have t2:σ.b2=true:=by simp[hd]
     have er2:=G.Q2 t2;clear hd;refine zad rfl rfl fun K HK2=> ?_
     go_simp
     refine HK2.out _ _ ((HI.out _ _ _).2 ⟨{σ with b3:=true,s32:=_,s31:=_},rfl,rfl,{G with D3:=fun _=>t2,D4:=fun h=>ff e (G.D4 h),Q2:=fun _=>rfl,Q3:=fun _=>rfl}⟩)
   . have t3:σ.b3=true:=by simp[hd]
     have er3:=G.Q3 t3
     have e16:σ.b16=false:=by
      rcases hs:σ.b16 with _|_
      . rfl
      . exact ff e (G.D14 (G.D15 (G.D16 hs))).1
     have X:=G.X e16;have g0:W.cell? ⟨sb,so+m*2+1,none⟩=some (.slice (some ⟨fb,fo,none⟩) Mk Mc):=X.of_cell z1;have gl0:=World.block_lt_of_cell? W _ g0;have HX:=zsz X;clear X;have H16:=zsz e16;clear e16;clear hd;refine zad rfl rfl fun K HK2=> ?_
     go_simp
     refine HK2.out _ _ ((HI.out _ _ _).2 ⟨{σ with b4:=true,s33:=_,s32:=_},rfl,rfl,{G with D4:=fun _=>t3,D14:=fun h=>ff e (G.D14 h).1,Q3:=fun _=>rfl,Q4:=fun _=>rfl}⟩)
   . refine zad rfl rfl fun K HK2=> ?_
     go_simp
     refine HK2.out _ _ ((HI.out _ _ _).2 ⟨{σ with b5:=true,s34:=_},rfl,rfl,{G with D7:=fun h=>ff e (G.D7 h).1,Q5:=fun _=>rfl}⟩)
   . refine zad rfl rfl fun K HK2=> ?_
     go_simp
     refine HK2.out _ _ ((HI.out _ _ _).2 ⟨{σ with b6:=true,s35:=_},rfl,rfl,{G with D7:=fun h=>ff e (G.D7 h).2,Q6:=fun _=>rfl}⟩)
   . have t5:σ.b5=true:=by simp[hd]
     have t6:σ.b6=true:=by simp[hd]
     have er5:=G.Q5 t5;have er6:=G.Q6 t6;clear hd;refine zad rfl rfl fun K HK2=> ?_
     go_simp
     refine HK2.out _ _ ((HI.out _ _ _).2 ⟨{σ with b7:=true,s36:=_,s34:=_,s35:=_},rfl,rfl,{G with D7:=fun _=>⟨t5,t6⟩,D8:=fun h=>ff e (G.D8 h),Q5:=fun _=>rfl,Q6:=fun _=>rfl,Q7:=fun _=>rfl}⟩)
   . have t7:σ.b7=true:=by simp[hd]
     have er7:=G.Q7 t7
     have e16:σ.b16=false:=by
      rcases hs:σ.b16 with _|_
      . rfl
      . exact ff e (G.D13 (G.D14 (G.D15 (G.D16 hs))).2).1
     have X:=G.X e16;have g0:W.cell? ⟨sb,so+m*2,none⟩=some (.string Mn):=X.of_cell z0;have gl0:=World.block_lt_of_cell? W _ g0;have g1:W.cell? ⟨sb,so+m*2+1,none⟩=some (.slice (some ⟨fb,fo,none⟩) Mk Mc):=X.of_cell z1;have gl1:=World.block_lt_of_cell? W _ g1;have HX:=zsz X;clear X;have H16:=zsz e16;clear e16;clear hd;refine zad rfl rfl fun K HK2=> ?_
     go_simp
     refine HK2.out _ _ ((HI.out _ _ _).2 ⟨{σ with b8:=true,s37:=_,s36:=_},rfl,rfl,{G with D8:=fun _=>t7,D13:=fun h=>ff e (G.D13 h).1,Q7:=fun _=>rfl,Q8:=fun _=>rfl}⟩)
   . refine zad rfl rfl fun K HK2=> ?_
     go_simp
     refine HK2.out _ _ ((HI.out _ _ _).2 ⟨{σ with b9:=true,s38:=_},rfl,rfl,{G with D11:=fun h=>ff e (G.D11 h).1,Q9:=fun _=>rfl}⟩)
   . refine zad rfl rfl fun K HK2=> ?_
     go_simp
     refine HK2.out _ _ ((HI.out _ _ _).2 ⟨{σ with b10:=true,s39:=_},rfl,rfl,{G with D11:=fun h=>ff e (G.D11 h).2,Q10:=fun _=>rfl}⟩)
   . have t9:σ.b9=true:=by simp[hd]
     have t10:σ.b10=true:=by simp[hd]
     have er9:=G.Q9 t9;have er10:=G.Q10 t10;clear hd;refine zad rfl rfl fun K HK2=> ?_
     go_simp
     refine HK2.out _ _ ((HI.out _ _ _).2 ⟨{σ with b11:=true,s40:=_,s38:=_,s39:=_},rfl,rfl,{G with D11:=fun _=>⟨t9,t10⟩,D12:=fun h=>ff e (G.D12 h),Q9:=fun _=>rfl,Q10:=fun _=>rfl,Q11:=fun _=>rfl}⟩)
   . have t11:σ.b11=true:=by simp[hd]
     have er11:=G.Q11 t11
     have e16:σ.b16=false:=by
      rcases hs:σ.b16 with _|_
      . rfl
      . exact ff e (G.D13 (G.D14 (G.D15 (G.D16 hs))).2).2
     have X:=G.X e16;have g0:W.cell? ⟨wb,wo+q,none⟩=some (.int .i64 x):=X.of_cell zw;have gl0:=World.block_lt_of_cell? W _ g0;have HX:=zsz X;clear X;have H16:=zsz e16;clear e16;clear hd;refine zad rfl rfl fun K HK2=> ?_
     go_simp
     refine HK2.out _ _ ((HI.out _ _ _).2 ⟨{σ with b12:=true,s41:=_,s40:=_},rfl,rfl,{G with D12:=fun _=>t11,D13:=fun h=>ff e (G.D13 h).2,Q11:=fun _=>rfl,Q12:=fun _=>rfl}⟩)
   . have t8:σ.b8=true:=by simp[hd]
     have t12:σ.b12=true:=by simp[hd]
     have er8:=G.Q8 t8;have er12:=G.Q12 t12
     have e16:σ.b16=false:=by
      rcases hs:σ.b16 with _|_
      . rfl
      . exact ff e (G.D14 (G.D15 (G.D16 hs))).2
     have HX:=zsz (G.X e16);clear e16;clear hd;refine zad rfl rfl fun K HK2=> ?_
     go_simp
     go_at_call 42
     refine(hby W HX.out).mono ?_;rintro e1 W2 ⟨rfl,E2⟩
     (try dsimp only)
     (try simp only[Act.put,List.setIfInBounds_toArray,List.set_cons_zero,List.set_cons_succ])
     refine HK2.out _ _ ((HI.out _ _ _).2 ⟨{σ with b13:=true,s42:=_,s37:=_,s41:=_},rfl,rfl,{G with D13:=fun _=>⟨t8,t12⟩,D14:=fun h=>ff e (G.D14 h).2,Q8:=fun _=>rfl,Q12:=fun _=>rfl,Q13:=fun _=>rfl,X:=fun _=>HX.out.trans E2,F16:=fun h=>ff e (G.D14 (G.D15 (G.D16 h))).2}⟩)
   . have t4:σ.b4=true:=by simp[hd]
     have t13:σ.b13=true:=by simp[hd]
     have er4:=G.Q4 t4;have er13:=G.Q13 t13;clear hd;refine zad rfl rfl fun K HK2=> ?_
     go_simp
     refine HK2.out _ _ ((HI.out _ _ _).2 ⟨{σ with b14:=true,s43:=_,s33:=_,s42:=_},rfl,rfl,{G with D14:=fun _=>⟨t4,t13⟩,D15:=fun h=>ff e (G.D15 h),Q4:=fun _=>rfl,Q13:=fun _=>rfl,Q14:=fun _=>rfl}⟩)
   . have t14:σ.b14=true:=by simp[hd]
     have er14:=G.Q14 t14
     have e16:σ.b16=false:=by
      rcases hs:σ.b16 with _|_
      . rfl
      . exact ff e (G.D16 hs)
     have X:=G.X e16;have g0:W.cell? ⟨fb,fo+j*6,none⟩=some (.string fname):=X.of_cell y0;have gl0:=World.block_lt_of_cell? W _ g0;have g1:W.cell? ⟨fb,fo+j*6+1,none⟩=some (.int .i64 fnum):=X.of_cell y1;have gl1:=World.block_lt_of_cell? W _ g1;have g2:W.cell? ⟨fb,fo+j*6+2,none⟩=some (.int .i64 fkind):=X.of_cell y2;have gl2:=World.block_lt_of_cell? W _ g2;have g3:W.cell? ⟨fb,fo+j*6+3,none⟩=some (.bool frep):=X.of_cell y3;have gl3:=World.block_lt_of_cell? W _ g3;have g4:W.cell? ⟨fb,fo+j*6+4,none⟩=some (.bool fpk):=X.of_cell y4;have gl4:=World.block_lt_of_cell? W _ g4;have g5:W.cell? ⟨fb,fo+j*6+5,none⟩=some (.int .i64 fof):=X.of_cell y5;have gl5:=World.block_lt_of_cell? W _ g5;have HX:=zsz X;clear X;have H16:=zsz e16;clear e16;clear hd;refine zad rfl rfl fun K HK2=> ?_
     go_simp
     refine HK2.out _ _ ((HI.out _ _ _).2 ⟨{σ with b15:=true,s44:=_,s43:=_},rfl,rfl,{G with D15:=fun _=>t14,D16:=fun h=>ff e (G.D16 h),Q14:=fun _=>rfl,Q15:=fun _=>rfl}⟩)
   . have t15:σ.b15=true:=by simp[hd]
     have HX:=zsz (G.X e);have B:=BR.up (G.X e);have lb:=B.lt;have er15:=G.Q15 t15;have h0:W.cell? ⟨ka,0,none⟩=some (.string gn):=B.cell 0;have f0:=B.free 0;have h1:W.cell? ⟨ka,1,none⟩=some (.int .i64 gnum):=B.cell 1;have f1:=B.free 1;have h2:W.cell? ⟨ka,2,none⟩=some (.int .i64 gkind):=B.cell 2;have f2:=B.free 2;have h3:W.cell? ⟨ka,3,none⟩=some (.bool grep):=B.cell 3;have f3:=B.free 3;have h4:W.cell? ⟨ka,4,none⟩=some (.bool gpk):=B.cell 4;have f4:=B.free 4;have h5:W.cell? ⟨ka,5,none⟩=some (.int .i64 gof):=B.cell 5;have f5:=B.free 5;clear B;clear hd;refine zad rfl rfl fun K HK2=> ?_
     go_simp
     refine HK2.out _ _ ((HI.out _ _ _).2 ⟨{σ with b16:=true,s44:=_},rfl,rfl,{G with D16:=fun _=>t15,Q15:=fun _=>rfl,X:=(fun h=>by cases h),F16:=fun _=>⟨W,rfl,HX.out⟩}⟩)
 . obtain⟨σ,rfl,rfl,G⟩:=(HI.out _ _ _).1 hi
   clear hi;have t0:σ.b0=true:=zaa hr (i:=0) rfl (by simp[Region.binds]) (show 0<17 by decide);have t1:σ.b1=true:=zaa hr (i:=1) rfl (by simp[Region.binds,t0]) (show 1<17 by decide);have t2:σ.b2=true:=zaa hr (i:=2) rfl (by simp[Region.binds,t0,t1]) (show 2<17 by decide);have t3:σ.b3=true:=zaa hr (i:=3) rfl (by simp[Region.binds,t0,t1,t2]) (show 3<17 by decide);have t4:σ.b4=true:=zaa hr (i:=4) rfl (by simp[Region.binds,t0,t1,t2,t3]) (show 4<17 by decide);have t5:σ.b5=true:=zaa hr (i:=5) rfl (by simp[Region.binds,t0,t1,t2,t3,t4]) (show 5<17 by decide);have t6:σ.b6=true:=zaa hr (i:=6) rfl (by simp[Region.binds,t0,t1,t2,t3,t4,t5]) (show 6<17 by decide);have t7:σ.b7=true:=zaa hr (i:=7) rfl (by simp[Region.binds,t0,t1,t2,t3,t4,t5,t6]) (show 7<17 by decide);have t8:σ.b8=true:=zaa hr (i:=8) rfl (by simp[Region.binds,t0,t1,t2,t3,t4,t5,t6,t7]) (show 8<17 by decide);have t9:σ.b9=true:=zaa hr (i:=9) rfl (by simp[Region.binds,t0,t1,t2,t3,t4,t5,t6,t7,t8]) (show 9<17 by decide);have t10:σ.b10=true:=zaa hr (i:=10) rfl (by simp[Region.binds,t0,t1,t2,t3,t4,t5,t6,t7,t8,t9]) (show 10<17 by decide);have t11:σ.b11=true:=zaa hr (i:=11) rfl (by simp[Region.binds,t0,t1,t2,t3,t4,t5,t6,t7,t8,t9,t10]) (show 11<17 by decide);have t12:σ.b12=true:=zaa hr (i:=12) rfl (by simp[Region.binds,t0,t1,t2,t3,t4,t5,t6,t7,t8,t9,t10,t11]) (show 12<17 by decide);have t13:σ.b13=true:=zaa hr (i:=13) rfl (by simp[Region.binds,t0,t1,t2,t3,t4,t5,t6,t7,t8,t9,t10,t11,t12]) (show 13<17 by decide);have t14:σ.b14=true:=zaa hr (i:=14) rfl (by simp[Region.binds,t0,t1,t2,t3,t4,t5,t6,t7,t8,t9,t10,t11,t12,t13]) (show 14<17 by decide);have t15:σ.b15=true:=zaa hr (i:=15) rfl (by simp[Region.binds,t0,t1,t2,t3,t4,t5,t6,t7,t8,t9,t10,t11,t12,t13,t14]) (show 15<17 by decide);have t16:σ.b16=true:=zaa hr (i:=16) rfl (by simp[Region.binds,t0,t1,t2,t3,t4,t5,t6,t7,t8,t9,t10,t11,t12,t13,t14,t15]) (show 16<17 by decide);obtain⟨W6,p1,p2⟩:=G.F16 t16;exact HK.out _ _ _ _ _ _ _ _ _ _ _ _ _ _ _ _ W6 W p1 p2
 . refine(HI.out _ _ _).2 ⟨⟨false,false,false,false,false,false,false,false,false,false,false,false,false,false,false,false,false,_,_,_,_,_,_,_,_,_,_,_,_,_,_,_,_⟩,rfl,rfl,?_⟩
   constructor
   all_goals (try dsimp only)
   all_goals first|exact(Ext.refl w).drew|exact fun _=>(Ext.refl w).drew|(intro h;cases h;done)
end Go.Proofs.YtpicpebolghcfaaGreatDoor
