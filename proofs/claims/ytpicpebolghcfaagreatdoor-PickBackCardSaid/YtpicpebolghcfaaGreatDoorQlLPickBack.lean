/-
 The law darninglaw22.PickBack returns true for every input, and every argument reads afterwards as it read before. No condition.
-/
import Derived.Test.YtpicpebolghcfaaGreatDoorTie
import Derived.Test.YtpicpebolghcfaaGreatDoorCards
import Derived.LaidMore
import Derived.Lay
import Derived.SevenTiedAt
import Derived.Stop.Joined
import Derived.Test.YtpicpebolghcfaaGreatDoorQlKPickBack
import Derived.Below
import Derived.SizedLaws

set_option linter.unusedVariables false
set_option maxRecDepth 100000
namespace Go.Proofs.YtpicpebolghcfaaGreatDoor.pickBack
open Go.ChangeShapes Go.WideShapes Go.ChangeAt Go.RowKit Go.Joins Go.Proofs.Tryz
open Go.ChangeMaps (open_string shut_string)
theorem own:ownKnob prog.godebug=none:=by kernel_rfl
theorem laidOut:laidOutB prog=true:=by kernel_rfl
theorem lifted(os:Os)(started:os.Started)(H:Type)(enc:TypeId×Value->H):
 ReturnsInHanded {} Tryz.checked os 5 .any (fun w args=>(Rows.pickBackSpec.pre enc prog Tryz.f5 Rows.pickBackRow.domain false w args/\laidMetH prog Rows.pickBackRow.laid w)/\sizedMet enc prog Tryz.f5 (OpenSpec.ofChange Rows.pickBackSpec) false w args) (Rows.pickBackSpec.post enc prog Tryz.f5 false true false false):=by
 refine returnsInHanded_of_change_and (C:=Tryz.checked) (X:=fun w _=>laidMetH prog Rows.pickBackRow.laid w) (fun _ _ _ hh h=>h.of_heap hh) own started (by kernel_rfl) func5
  (ChangeSpec.witness_shaped (enc:=enc) (C:=Tryz.checked) (os:=os) (X:=fun w _=>laidMetH prog Rows.pickBackRow.laid w) false (World.laidAll prog os Rows.pickBackRow.laid) #[.slice none 0 0,.int .i64 0,.slice none 0 0,.int .i64 0,.string ⟨#[]⟩] 8 (World.laidAll_os _ _ _)
   (World.shaped_of_ZipB (by kernel_rfl) (by kernel_rfl)) (by kernel_rfl) (by kernel_rfl) (by kernel_rfl)
   (by rw[MakeChecks.laidMetH_plain _ _ _ (by kernel_rfl)];exact laidMet_laidAll _ (by kernel_rfl) (by kernel_rfl))) ?_
 intro W base args ds gs before hval0 hW hcnd _ hL _;have hval:∀(j:Nat) t v,Tryz.f5.params[j]?=some t->args[j]?=some v->Value.okWide prog W .any base t v:=hval0;have hW':=hW;obtain⟨p,q,hA0,hV,rfl,hfz,hnd⟩:=hW;have hA:DataW.TrodAll enc prog W 0 (fun _=>true) true Tryz.f5.params.toList args.toList ds p:=hA0;rw[Tryz.params5]at hA hval;obtain⟨v0,vs0,d0,ds0,p0,q0,hargs,rfl,rfl,h0,r0⟩:=trodAll_cons hA;obtain⟨v1,vs1,d1,ds1,p1,q1,rfl,rfl,rfl,h1,r1⟩:=trodAll_cons r0;obtain⟨v2,vs2,d2,ds2,p2,q2,rfl,rfl,rfl,h2,r2⟩:=trodAll_cons r1;obtain⟨v3,vs3,d3,ds3,p3,q3,rfl,rfl,rfl,h3,r3⟩:=trodAll_cons r2;obtain⟨v4,vs4,d4,ds4,p4,q4,rfl,rfl,rfl,h4,r4⟩:=trodAll_cons r3;obtain⟨rfl,rfl,rfl⟩:=trodAll_nil r4;obtain rfl:args=#[v0,v1,v2,v3,v4]:=by cases args;simp_all
 obtain⟨rfl,rfl⟩:=trodVars_none hV;simp only[List.append_nil]at hW';obtain⟨a0,len0,cap0,rfl⟩:=okWide_slice underlying23 (hval 0 23 v0 rfl rfl);have k0:=h0;have lt0:∀x∈p0,x.block<W.heap.size:=by obtain⟨m,hm⟩:=k0;exact DataW.trod_lt m _ _ _ hm
 obtain⟨l0,w0⟩:∃l,zag W a0 len0 cap0 l:=by
  obtain⟨fuel,hf⟩:=h0;obtain⟨A,n,c,l,e,hs⟩:=zkS (v:=.slice a0 len0 cap0) (tf:=75) underlying23 underlying77 (by kernel_rfl) (by kernel_rfl) underlying9 rfl underlying75 underlying43 (by kernel_rfl) (by kernel_rfl) underlying9 underlying3 underlying3 underlying4 underlying4 underlying3 hf;cases e;exact⟨l,hs⟩
 obtain⟨a1,rfl,rfl,rfl,w1⟩:=open_int underlying3 (hval 1 3 v1 rfl rfl) h1;have b1: -9223372036854775808<=a1/\a1<9223372036854775808:=by simp[Lit.wf,IntKind.min,IntKind.max,IntKind.signed,IntKind.bits]at w1;omega
 obtain⟨a2,len2,cap2,rfl⟩:=okWide_slice underlying24 (hval 2 24 v2 rfl rfl);have k2:=h2;have lt2:∀x∈p2,x.block<W.heap.size:=by obtain⟨m,hm⟩:=k2;exact DataW.trod_lt m _ _ _ hm
 obtain⟨z2,w2⟩:∃bs,zac W a2 len2 cap2 bs:=by
  obtain⟨fuel,hf⟩:=h2;rcases open_ints underlying24 underlying5 (by kernel_rfl) hf with⟨hcs,_⟩|⟨x,l,c,zs,hcs,_,hl,hm,hz,hx,hcell,hwz⟩
  . simp[Value.cells]at hcs
    obtain⟨rfl,rfl,rfl⟩:=hcs;exact⟨[],zoe W⟩
  . simp[Value.cells]at hcs
    obtain⟨rfl,rfl,rfl⟩:=hcs;exact⟨_,ziW hl hm (by simpa using hz) hcell hwz⟩
 obtain⟨a3,rfl,rfl,rfl,w3⟩:=open_int underlying3 (hval 3 3 v3 rfl rfl) h3;have b3: -9223372036854775808<=a3/\a3<9223372036854775808:=by simp[Lit.wf,IntKind.min,IntKind.max,IntKind.signed,IntKind.bits]at w3;omega
 obtain⟨a4,rfl,rfl,rfl,w4⟩:=open_string underlying9 (hval 4 9 v4 rfl rfl) h4;clear hA0 hval0;refine(ziS (w:=W) w0 b1 w2 b3 w4).mono fun e W' ⟨he,bel⟩=> ?_
 subst he;exact⟨_,rfl,_,_,_,[],_,[],hW',trodAll_mk1 (shut_bool underlying4 _),(trodAll_cons_mk (Below.trod laidOut (by kernel_rfl) (of_decide_eq_true (by kernel_rfl)) k0 bel lt0) (trodAll_cons_mk (shut_int underlying3 w1) (trodAll_cons_mk (Below.trod laidOut (by kernel_rfl) (of_decide_eq_true (by kernel_rfl)) k2 bel lt2) (trodAll_cons_mk (shut_int underlying3 w3) (trodAll_cons_mk (shut_string underlying9 w4) trodAll_mk0))))),rfl,Below.frame bel _,fun h=>by cases h⟩
theorem over:Rows.pickBackRow.holds Tryz.pinned (OpenSpec.ofChange Rows.pickBackSpec):=
 OpenClaim.holds_of_wide 5 Tryz.f5 rfl rfl rfl rfl rfl rfl rfl ⟨rfl,rfl,rfl,rfl,rfl⟩ rfl rfl rfl rfl rfl (by kernel_rfl) func5 (by kernel_rfl)
  (of_decide_eq_true (by kernel_rfl)) (by unfold Func.isWrapper;first|(rw[if_pos (by decide+kernel)];kernel_rfl)|(rw[if_neg (by decide+kernel)];exact⟨rfl,rfl⟩))
  (fun os started H enc _=>lifted os started H enc)
theorem proved:Rows.PickBackCardSaid:=
 Claim7.holds_tied_plain_at .later [] [.data,.pinned] true (true,"79f835b1262de371cba8379c2744bb35cf06fb16d595d968d8fd9ead20e38a49") false over (fun _ h=>by cases h) (by kernel_rfl) (fun _ h=>by cases h) pickBack_row_tie rfl ⟨rfl,rfl⟩ (by kernel_rfl) rfl
  (fun f fn hf hfn=>by
   obtain rfl:f=5:=Option.some.inj ((show prog.funcNamed "darning/darninglaw22.PickBack" =some 5 by kernel_rfl).symm.trans hf)|>.symm;obtain rfl:fn=Tryz.f5:=(Option.some.inj (func5.symm.trans hfn)).symm
   exact⟨by kernel_rfl,fun j t ht=>by
    rw[Tryz.params5]at ht;have hm:t∈ [(23:TypeId),3,24,9]:=by have:=Array.mem_of_getElem? ht;simp at this;rcases this with h|h|h|h|h<;>simp[h]
    have hall:([(23:TypeId),3,24,9].all fun u=> !prog.wantsStandIn u)=true:=by kernel_rfl
    exact(show prog.wantsStandIn t=false by simpa using List.all_eq_true.1 hall t hm)⟩)
  (by kernel_rfl)
#print axioms proved
end Go.Proofs.YtpicpebolghcfaaGreatDoor.pickBack
