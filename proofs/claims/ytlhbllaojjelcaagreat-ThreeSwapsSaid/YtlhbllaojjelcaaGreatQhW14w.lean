/- The walk of the law SchemaChecks, out of its callees' contracts. -/
import Derived.Test.YtlhbllaojjelcaaGreatQhW14u

set_option linter.unusedVariables false
set_option maxRecDepth 100000
set_option maxHeartbeats 1000000
namespace Go.Proofs.YtlhbllaojjelcaaGreat
open Go.RowKit Tryz
theorem right_none:zan []=false:=by decide+kernel
def zpq(w:World)(e:Ending)(w':World):Prop:=∃b:Bool,e=.returned (.bool b)/\Ext w w'
theorem few07{A:Option Addr}{n c:Nat}{S:List MsgV}{w:World}(hs:zaj w A n c S):
 Calls prog 7 #[.slice A n c] w (zpq w):=by
 have hmax:=Reads.max hs.1;have hcap:=Reads.cap hs.1;unfold maxLen at hmax
 go_enter func7,ntmps7
 go_wp2
 go_loopw [3,4] (fun u i wr=>∃(k:Nat)(x:Int),k<=n/\i=.int .i64 k/\u=.int .i64 x/\Ext w wr) (fun _ i _=>n - (intOf i).toNat)
 case atStart=>exact⟨0,0,Nat.zero_le _,rfl,rfl,Ext.refl _⟩
 case round=>
  obtain⟨k,x,hk,rfl,rfl,hE⟩:=hrel;by_cases hlt:k<n
  . have hlt2:(k:Int)<n:=by omega
    obtain⟨bs,off,m,rfl,hm,hmf,hms,hb,c0,c1⟩:=(hs.up hE).msg hlt;obtain⟨⟨mn,mfs⟩,mA,mnn,mc⟩:=m;simp only at c0 c1 hmf hms;have hmm2:=Reads.cap hmf.1;have hmm3:=Reads.max hmf.1;unfold maxLen at hmm3;clear hm
    go_wp2
    go_quiet (fail)
    go_wp2
    obtain⟨wo,hwo⟩:∃wo:World,wo=wr:=⟨_,rfl⟩
    have hEo:Ext w wo:=by rw[hwo];exact hE
    have hmo:zax wo mA mnn mc mfs:=by rw[hwo];exact hmf
    have x0:wo.cell? ⟨bs,off+k*2+1,none⟩=some (.slice mA mnn mc):=by rw[hwo];exact c1
    have hbo:bs<wo.heap.size:=by rw[hwo];exact hb
    subst hwo
    go_loopw [3,5] (fun u i wq=>∃(q:Nat)(y:Int),q<=mnn/\i=.int .i64 q/\u=.int .i64 y/\Ext wo wq) (fun _ i _=>mnn - (intOf i).toNat)
    case atStart=>exact⟨0,_,Nat.zero_le _,rfl,rfl,xx⟩
    case round=>
     obtain⟨q,y,hq,rfl,rfl,hEq⟩:=hrel
     rename World=>wq
     have y0:=hEq.of_cell x0;have hbq:bs<wq.heap.size:=Nat.lt_of_lt_of_le hbo hEq.size;by_cases hltq:q<mnn
     . have hltq2:(q:Int)<mnn:=by omega
       obtain⟨bf,of',f,rfl,hf,hfo,hbf,d0,d1,d2,d3,d4,d5⟩:=(hmo.up hEq).field hltq;obtain⟨fn,fx,fk,fr,fp,fo⟩:=f;simp only at d0;clear d1 d2 d3 d4 d5 hf hfo
       go_wp2
       go_roundw
       case rel=>exact⟨q+1,_,by omega,by go_num,rfl,hEq⟩
       case measure=>simp[intOf];omega
     . have hqn:q=mnn:=by omega
       subst hqn
       go_wp2
       go_roundw
       case rel=>exact⟨k+1,_,by omega,by go_num,rfl,hEo.trans hEq⟩
       case measure=>simp[intOf];omega
  . have hkn:k=n:=by omega
    subst hkn
    go_wp2
    go_ret
    exact⟨_,rfl,hE⟩
end Go.Proofs.YtlhbllaojjelcaaGreat
namespace Go.Proofs.YtlhbllaojjelcaaGreat
open Go.RowKit Go.Shelf Tryz
def zcb(n:Nat):Code->Option Code
 |.region i ops d=>if i=n then some (.region i ops d)else none
 |.loop c=>zcb n c
 |.seq a b=>match zcb n a with
  |some c=>some c
  |none=>zcb n b
 |.block _ c=>zcb n c
 |.scope c=>zcb n c
 |.cond _ a b=>match zcb n a with
  |some c=>some c
  |none=>zcb n b
 |_=>none
def calmQ(Q:Exit->Act->World->Prop):Exit->Act->World->Prop
 |.panic x,a,w=>a.defers=[]/\Q (.panic x) ⟨#[],[]⟩ w
 |e,a,w=>Q e a w
variable{w:World}
theorem calm{P:Program}{c:Code}{Q:Exit->Act->World->Prop}{a:Act}(hq:∀x a w,a.defers=[]->Q (.panic x) ⟨#[],[]⟩ w->Q (.panic x) a w)(h:c.wp P (calmQ Q) a w):c.wp P Q a w:=
 Code.wp_mono (fun e a w h=>by
  cases e
  all_goals first|exact h|exact hq _ _ _ h.1 h.2) h
section
variable {w w6 wr wz:World} {bx:Nat} {U:Option Addr} {un uc:Nat} {V:Option Addr} {vn vc:Nat} {ys:List ValR}
end
theorem oOf{S:List MsgV}(hR:zan (S.map MsgV.d)=true):∀d,d<=100000->OfP S (d+1) (ofV (S.map MsgV.d) d)
 |0,_=>oStep hR (Nat.zero_le _) (fun w SA sn sc m A n c bs _ _ _ h=>absurd h (Nat.not_lt_zero n))
 |d+1,h=>oStep hR (by omega) (oOf hR d (by omega))
def OfT(S:List MsgD)(root:Int)(bs:List UInt8)(d:Int):MsgT:=if(zar S root bs d).2=0 then ofV S bs.length root.toNat bs else .mk () () [] []
variable{bs:List UInt8}{root d:Int}
theorem zll{S:List MsgD}(h:(zar S root bs d).2=0):zan S=true/\0<=root/\root<S.length/\0<=d/\d<=64/\(zaq S d.toNat root.toNat bs).2=0:=by
 unfold zar at h;by_cases h0:argsV S root d=0
 . rw[if_pos h0]at h
   unfold argsV at h0;split at h0
   . cases h0
   . rename_i hr
     split at h0
     . cases h0
     . exact⟨by simpa using hr,by omega,by omega,by omega,by omega,h⟩
 . rw[if_neg h0]at h
   exact absurd h h0
theorem zki:bare (MsgX.mk ((none,0):Sl) (none,0) [] [])=.mk () () [] []:=by rw[zbf];rfl
theorem zhr(w:World):zah w (.mk (none,0) (none,0) [] []):=
 zah.of (Reads.nil w 4) ⟨Reads.nil w 1,(fun t ht=>by cases ht)⟩ (fun v hv=>by cases hv)
theorem zkj{b:Nat}(h:UsesT (.mk (none,0) (none,0) [] []) b):False:=by
 rcases h.cases' with h|h|⟨v,hv,_⟩
 . exact absurd h.1 (Nat.lt_irrefl 0)
 . exact absurd h.1 (Nat.lt_irrefl 0)
 . cases hv
theorem tOfB{A:Option Addr}{n c:Nat}{S:List MsgV}{B:Option Addr}{n' c':Nat}(hs:zaj w A n c S)(hb:zab w B n' c' bs)(hn:n'<=100000):
 Calls prog 65 #[.slice A n c,.int .i64 root,.slice B n' c',.int .i64 d] w fun e w'=>∃y,e=.returned (.tuple #[treeV y,.int .u8 ((zar (S.map MsgV.d) root bs d).2:Nat)])/\
  bare y=OfT (S.map MsgV.d) root bs d/\zah w' y/\(∀b,UsesT y b->w.heap.size<=b)/\Ext w w':=by
 have hc:=fun W (h:zaj W A n c S)(h2:zab W B n' c' bs)=>zpY (root:=root) (d:=d) h h2 (by omega)
 have Hc:=zsp hc;clear hc;by_cases h0:(zar (S.map MsgV.d) root bs d).2=0
 . obtain⟨hR,r1,r2,_⟩:=zll h0
   obtain⟨m,rfl⟩:=Int.eq_ofNat_of_zero_le r1;have hm:m<S.length:=by simpa using r2
   have ho:=fun W (h:zaj W A n c S)(h2:zab W B n' c' bs)=>oOf hR n' hn W A n c m B n' c' bs h hm h2 (Nat.lt_succ_self _)
   have hO:OfT (S.map MsgV.d) (m:Int) bs d=ofV (S.map MsgV.d) n' m bs:=by unfold OfT;rw[if_pos h0,hb.length];rfl
   rw[hO];have Ho:=zsp ho;clear ho;generalize zar (S.map MsgV.d) (m:Int) bs d=V at*;obtain⟨p,C⟩:=V;simp only at h0 Hc⊢;subst h0;unfold treeV at Ho⊢
   go_enter func65,ntmps65
   go_wp2_with (first
    |(go_at_call 49;refine(Hc.out _ (hs.up xx) (hb.up xx)).mono ?_;rintro e w1 ⟨rfl,E1'⟩;have E1:Ext w w1:=Ext.trans xx E1';have B1:=(BlkT.new w 27 #[.slice none 0 0,.slice none 0 0] rfl).up E1';have z0w1:w1.cell? ⟨w.heap.size,0,none⟩=some (.slice none 0 0):=B1.cell 0;have z1w1:w1.cell? ⟨w.heap.size,1,none⟩=some (.slice none 0 0):=B1.cell 1;have f0w1:=B1.free 0;have f1w1:=B1.free 1;have lw1:=B1.lt)
    |(go_at_call 97;refine(Ho.out _ (hs.up xy) (hb.up xy)).mono ?_;rintro e w2 ⟨y,rfl,hy1,hy2,hy3,E2'⟩;have E2:Ext w w2:=Ext.trans xy E2';have B2:=B1.up E2';have z0w2:w2.cell? ⟨w.heap.size,0,none⟩=some (.slice none 0 0):=B2.cell 0;have z1w2:w2.cell? ⟨w.heap.size,1,none⟩=some (.slice none 0 0):=B2.cell 1;have f0w2:=B2.free 0;have f1w2:=B2.free 1;have lw2:=B2.lt))
   (try simp only[Exit.inBlock,Exit.then])
   have B0:=(B2.set_ 0 (.slice y.a.1 y.vals.length y.a.2)).set_ 1 (.slice y.b.1 y.unk.length y.b.2);have s1:=E1'.size;have s1':w.heap.size+1<=w1.heap.size:=by simpa using s1
   have EF:Ext w ((w2.setCell ⟨w.heap.size,0,none⟩ (.slice y.a.1 y.vals.length y.a.2)).setCell ⟨w.heap.size,1,none⟩ (.slice y.b.1 y.unk.length y.b.2)):=(E2.setCell (show w.heap.size<=w.heap.size by omega) _).setCell (show w.heap.size<=w.heap.size by omega) _
   have hS2:Stays (fun b=>b≠w.heap.size) w2 ((w2.setCell ⟨w.heap.size,0,none⟩ (.slice y.a.1 y.vals.length y.a.2)).setCell ⟨w.heap.size,1,none⟩ (.slice y.b.1 y.unk.length y.b.2)):=
    ((Stays.refl _ w2).set (fun e=>e rfl) _).set (fun e=>e rfl) _
   refine bodyPost_ret (zaJ (ty:=27) rfl _ _ w.heap.size _ _ (0,0) _ rfl B0 underlying27 rfl (by kernel_rfl)) rfl ?_;exact⟨y,rfl,hy1,hy2.stays hS2 (fun b hb=>by have:=hy3 b hb;omega),fun b hb=>by have:=hy3 b hb;omega,EF⟩
 . have hO:OfT (S.map MsgV.d) root bs d=.mk () () [] []:=if_neg h0
   rw[hO];generalize zar (S.map MsgV.d) root bs d=V at*;obtain⟨p,C⟩:=V;simp only at h0 Hc⊢;have h0':¬((C:Int)=0):=by omega
   go_enter func65,ntmps65
   go_wp2_with (go_at_call 49;refine(Hc.out _ (hs.up xx) (hb.up xx)).mono ?_;rintro e w1 ⟨rfl,E1'⟩;have E1:Ext w w1:=Ext.trans xx E1';have B1:=(BlkT.new w 27 #[.slice none 0 0,.slice none 0 0] rfl).up E1';have z0w1:w1.cell? ⟨w.heap.size,0,none⟩=some (.slice none 0 0):=B1.cell 0;have z1w1:w1.cell? ⟨w.heap.size,1,none⟩=some (.slice none 0 0):=B1.cell 1;have f0w1:=B1.free 0;have f1w1:=B1.free 1;have lw1:=B1.lt)
   (try simp only[Exit.inBlock,Exit.then])
   have B0:=(B1.set_ 0 (.slice none 0 0)).set_ 1 (.slice none 0 0);have EF:Ext w ((w1.setCell ⟨w.heap.size,0,none⟩ (.slice none 0 0)).setCell ⟨w.heap.size,1,none⟩ (.slice none 0 0)):=(E1.setCell (show w.heap.size<=w.heap.size by omega) _).setCell (show w.heap.size<=w.heap.size by omega) _;refine bodyPost_ret (zaJ (ty:=27) rfl _ _ w.heap.size _ _ (0,0) _ rfl B0 underlying27 rfl (by kernel_rfl)) rfl ?_;exact⟨.mk (none,0) (none,0) [] [],rfl,zki,zhr _,fun b hb=>(zkj hb).elim,EF⟩
end Go.Proofs.YtlhbllaojjelcaaGreat
