/-
 The law darninglaw26.ThreeSwaps returns true for every input, and every argument reads afterwards as it read before. No condition.
-/
import Derived.Test.YtlhbllaojjelcaaGreatQhKThreeSwaps
import Derived.Below

set_option linter.unusedVariables false
set_option maxRecDepth 100000
namespace Go.Proofs.YtlhbllaojjelcaaGreat.threeSwaps
open Go.ChangeShapes Go.WideShapes Go.ChangeAt Go.RowKit Go.Joins Go.Proofs.Tryz
open Go.ChangeMaps (open_string shut_string)
theorem own:ownKnob prog.godebug=none:=by kernel_rfl
theorem laidOut:laidOutB prog=true:=by kernel_rfl
theorem lifted(os:Os)(started:os.Started)(H:Type)(enc:TypeId×Value->H):
 ReturnsInHanded {} Tryz.checked os 5 .any (Rows.threeSwapsSpec.pre6 enc prog Tryz.f5 Rows.threeSwapsRow.domain false) (Rows.threeSwapsSpec.post enc prog Tryz.f5 false true false false):=by
 refine returnsInHanded_of_change_sized (C:=Tryz.checked) own started (by kernel_rfl) func5
  (ChangeSpec.witness6 (enc:=enc) (C:=Tryz.checked) false ⟨#[],#[.slice none 0 0,.int .i64 0,.slice none 0 0,.slice none 0 0,.slice none 0 0,.int .i64 0],[]⟩ 8 (by kernel_rfl) (by kernel_rfl) (by kernel_rfl) (by kernel_rfl)) ?_
 intro W base args ds gs before hval0 hW hcnd hsz0 _;have hsz:(DataW.weightsEach prog (Tryz.f5.params.toList++Rows.threeSwapsSpec.plain.varTypes prog) (ds++gs)).all (· <=reachBytes)=true:=hsz0;clear hsz0;have hval:∀(j:Nat) t v,Tryz.f5.params[j]?=some t->args[j]?=some v->Value.okWide prog W .any base t v:=hval0;have hW':=hW;obtain⟨p,q,hA0,hV,rfl,hfz,hnd⟩:=hW;have hA:DataW.TrodAll enc prog W 0 (fun _=>true) true Tryz.f5.params.toList args.toList ds p:=hA0;rw[Tryz.params5]at hA hval hsz;obtain⟨v0,vs0,d0,ds0,p0,q0,hargs,rfl,rfl,h0,r0⟩:=trodAll_cons hA;obtain⟨v1,vs1,d1,ds1,p1,q1,rfl,rfl,rfl,h1,r1⟩:=trodAll_cons r0;obtain⟨v2,vs2,d2,ds2,p2,q2,rfl,rfl,rfl,h2,r2⟩:=trodAll_cons r1;obtain⟨v3,vs3,d3,ds3,p3,q3,rfl,rfl,rfl,h3,r3⟩:=trodAll_cons r2;obtain⟨v4,vs4,d4,ds4,p4,q4,rfl,rfl,rfl,h4,r4⟩:=trodAll_cons r3;obtain⟨v5,vs5,d5,ds5,p5,q5,rfl,rfl,rfl,h5,r5⟩:=trodAll_cons r4;obtain⟨rfl,rfl,rfl⟩:=trodAll_nil r5;obtain rfl:args=#[v0,v1,v2,v3,v4,v5]:=by cases args;simp_all
 obtain⟨rfl,rfl⟩:=trodVars_none hV;obtain⟨a0,len0,cap0,rfl⟩:=okWide_slice underlying23 (hval 0 23 v0 rfl rfl);have k0:=h0;have lt0:∀x∈p0,x.block<W.heap.size:=by obtain⟨m,hm⟩:=k0;exact DataW.trod_lt m _ _ _ hm
 obtain⟨l0,w0,s0,S0⟩:∃l,zaj W a0 len0 cap0 l/\(∀m∈l,m.c<=2932031007317)/\cap0<=3518437208780:=by
  obtain⟨fuel,hf⟩:=h0;obtain⟨A,n,c,l,e,hs,hs2,hs3⟩:=zgb (v:=.slice a0 len0 cap0) (tf:=62) underlying23 underlying64 (by kernel_rfl) (by kernel_rfl) underlying9 rfl underlying62 underlying61 (by kernel_rfl) (by kernel_rfl) underlying9 underlying3 underlying3 underlying4 underlying4 underlying3 (by kernel_rfl) (by kernel_rfl) (fun n hn=>by simpa using List.all_eq_true.1 hsz _ (DataW.weights_mem_each (j:=0) (t:=23) rfl rfl n hn)) hf;cases e;exact⟨l,hs,hs2,hs3⟩
 obtain⟨a1,rfl,rfl,rfl,w1⟩:=open_int underlying3 (hval 1 3 v1 rfl rfl) h1;have b1: -9223372036854775808<=a1/\a1<9223372036854775808:=by simp[Lit.wf,IntKind.min,IntKind.max,IntKind.signed,IntKind.bits]at w1;omega
 obtain⟨a2,len2,cap2,rfl⟩:=okWide_slice underlying46 (hval 2 46 v2 rfl rfl);have k2:=h2;have lt2:∀x∈p2,x.block<W.heap.size:=by obtain⟨m,hm⟩:=k2;exact DataW.trod_lt m _ _ _ hm
 obtain⟨z2,w2,s2⟩:∃bs,zab W a2 len2 cap2 bs/\cap2*1<=140737488351232:=by
  obtain⟨fuel,hf⟩:=h2;rcases open_ints underlying46 underlying5 (by kernel_rfl) hf with⟨hcs,_⟩|⟨x,l,c,zs,hcs,_,hl,hm,hz,hx,hcell,hwz⟩
  . simp[Value.cells]at hcs
    obtain⟨rfl,rfl,rfl⟩:=hcs;exact⟨[],zdy W,by omega⟩
  . simp[Value.cells]at hcs
    obtain⟨rfl,rfl,rfl⟩:=hcs;have hs:=sized_slice hsz (j:=2) (t:=46) rfl (congrArg some (Prod.mk.inj hx).1) underlying46;rw[show prog.bytesOf 5=1 from by kernel_rfl]at hs;have hz2:zs.length=cap2:=by simpa using hz
    simp[lits,List.length_take,List.length_drop,hz2,reachBytes]at hs;exact⟨_,zdP hl hm (by simpa using hz) hcell hwz,by omega⟩
 obtain⟨a3,len3,cap3,rfl⟩:=okWide_slice underlying46 (hval 3 46 v3 rfl rfl);have k3:=h3;have lt3:∀x∈p3,x.block<W.heap.size:=by obtain⟨m,hm⟩:=k3;exact DataW.trod_lt m _ _ _ hm
 obtain⟨z3,w3,s3⟩:∃bs,zab W a3 len3 cap3 bs/\cap3*1<=140737488351232:=by
  obtain⟨fuel,hf⟩:=h3;rcases open_ints underlying46 underlying5 (by kernel_rfl) hf with⟨hcs,_⟩|⟨x,l,c,zs,hcs,_,hl,hm,hz,hx,hcell,hwz⟩
  . simp[Value.cells]at hcs
    obtain⟨rfl,rfl,rfl⟩:=hcs;exact⟨[],zdy W,by omega⟩
  . simp[Value.cells]at hcs
    obtain⟨rfl,rfl,rfl⟩:=hcs;have hs:=sized_slice hsz (j:=3) (t:=46) rfl (congrArg some (Prod.mk.inj hx).1) underlying46;rw[show prog.bytesOf 5=1 from by kernel_rfl]at hs;have hz2:zs.length=cap3:=by simpa using hz
    simp[lits,List.length_take,List.length_drop,hz2,reachBytes]at hs;exact⟨_,zdP hl hm (by simpa using hz) hcell hwz,by omega⟩
 obtain⟨a4,len4,cap4,rfl⟩:=okWide_slice underlying46 (hval 4 46 v4 rfl rfl);have k4:=h4;have lt4:∀x∈p4,x.block<W.heap.size:=by obtain⟨m,hm⟩:=k4;exact DataW.trod_lt m _ _ _ hm
 obtain⟨z4,w4,s4⟩:∃bs,zab W a4 len4 cap4 bs/\cap4*1<=140737488351232:=by
  obtain⟨fuel,hf⟩:=h4;rcases open_ints underlying46 underlying5 (by kernel_rfl) hf with⟨hcs,_⟩|⟨x,l,c,zs,hcs,_,hl,hm,hz,hx,hcell,hwz⟩
  . simp[Value.cells]at hcs
    obtain⟨rfl,rfl,rfl⟩:=hcs;exact⟨[],zdy W,by omega⟩
  . simp[Value.cells]at hcs
    obtain⟨rfl,rfl,rfl⟩:=hcs;have hs:=sized_slice hsz (j:=4) (t:=46) rfl (congrArg some (Prod.mk.inj hx).1) underlying46;rw[show prog.bytesOf 5=1 from by kernel_rfl]at hs;have hz2:zs.length=cap4:=by simpa using hz
    simp[lits,List.length_take,List.length_drop,hz2,reachBytes]at hs;exact⟨_,zdP hl hm (by simpa using hz) hcell hwz,by omega⟩
 obtain⟨a5,rfl,rfl,rfl,w5⟩:=open_int underlying3 (hval 5 3 v5 rfl rfl) h5;have b5: -9223372036854775808<=a5/\a5<9223372036854775808:=by simp[Lit.wf,IntKind.min,IntKind.max,IntKind.signed,IntKind.bits]at w5;omega
 clear hA0 hval0;refine(zgL (w:=W) w0 b1 w2 s2 w3 s3 w4 s4 b5).mono fun e W' ⟨he,bel⟩=> ?_
 subst he;exact⟨_,rfl,_,_,_,[],_,[],hW',trodAll_mk1 (shut_bool underlying4 _),(trodAll_cons_mk (Below.trod laidOut (by kernel_rfl) (of_decide_eq_true (by kernel_rfl)) k0 bel lt0) (trodAll_cons_mk (shut_int underlying3 w1) (trodAll_cons_mk (Below.trod laidOut (by kernel_rfl) (of_decide_eq_true (by kernel_rfl)) k2 bel lt2) (trodAll_cons_mk (Below.trod laidOut (by kernel_rfl) (of_decide_eq_true (by kernel_rfl)) k3 bel lt3) (trodAll_cons_mk (Below.trod laidOut (by kernel_rfl) (of_decide_eq_true (by kernel_rfl)) k4 bel lt4) (trodAll_cons_mk (shut_int underlying3 w5) trodAll_mk0)))))),rfl,Below.frame bel _,fun h=>by cases h⟩
theorem over:Rows.threeSwapsRow.holds Tryz.pinned (OpenSpec.ofChange Rows.threeSwapsSpec):=
 OpenClaim.holds_of_wide 5 Tryz.f5 rfl rfl rfl rfl rfl rfl rfl ⟨rfl,rfl,rfl,rfl,rfl⟩ rfl rfl rfl rfl rfl (by kernel_rfl) func5 (by kernel_rfl)
  (of_decide_eq_true (by kernel_rfl)) (by unfold Func.isWrapper;first|(rw[if_pos (by decide+kernel)];kernel_rfl)|(rw[if_neg (by decide+kernel)];exact⟨rfl,rfl⟩))
  (fun os started H enc _=>lifted os started H enc)
theorem proved:Rows.ThreeSwapsSaid:=over
#print axioms proved
end Go.Proofs.YtlhbllaojjelcaaGreat.threeSwaps
