/- Contracts of layer 16: a text as bytes. -/
import Derived.Test.YtlhbllaojjelcaaGreatQhWA
import Derived.Lib.ConvBytes
import Derived.Lib.AppendStr

set_option linter.unusedVariables false
namespace Go.Proofs.YtlhbllaojjelcaaGreat
open Go.RowKit Tryz
theorem zmZ(w:World)(c:Array Value)(e:TypeId)(k:Nat):(w.alloc (.cells c e)).freeze ⟨w.heap.size,k,none⟩ 1=w.alloc (.cells c e (k,k+1)):=by
 unfold World.freeze World.alloc;rw[if_neg (by decide)]
 have hm:∀(a:Array Obj)(o:Obj)(f:Obj->Obj),(a.push o).modify a.size f=a.push (f o):=by
  intro a o f;apply Array.ext_getElem?;intro i;simp only[Array.getElem?_modify,Array.getElem?_push];by_cases h:a.size=i
  . subst h;simp
  . have h':¬i=a.size:=fun e=>h e.symm
    simp[h,h']
 simp only[hm];rfl
theorem zhs(w:World)(t:ByteArray)(ht:t.data.toList.length<=maxLen):∃(A:Option Addr)(c:Nat)(W2:World),(convert 9 46 (.string t)).run prog w=.ok (.slice A t.data.toList.length c) W2/\Ext w W2/\zab W2 A t.data.toList.length c t.data.toList:=by
 have hsz:t.size=t.data.toList.length:=rfl;have hr:=Go.Lib.run_convert_string_bytes (P:=prog) w 9 46 5 t underlying9 underlying46 underlying5
 have hw:Go.Lib.bytesWorld w 5 t=w.drew.alloc (.cells (Go.Lib.bytesCells w 5 t) 5 ((Go.Lib.bytesCells w 5 t).size,(Go.Lib.bytesCells w 5 t).size+1)):=by
  unfold Go.Lib.bytesWorld;have h0:w.heap.size=w.drew.heap.size:=rfl;rw[h0];exact zmZ w.drew _ _ _
 refine⟨some ⟨w.heap.size,0,none⟩,grownCap w t.size 0 5,Go.Lib.bytesWorld w 5 t,by rw[<-hsz];exact hr,?_,?_⟩
 . rw[hw]
   exact(Ext.refl w).drew.alloc _
 . refine⟨by rw[List.length_map,Nat.mul_one],by rw[<-hsz];exact grownCap_ge _ _ _ _,grownCap_le_maxLen _ _ _ _ (by rw[hsz];exact ht),fun _=>⟨w.heap.size,0,rfl,by rw[Go.Lib.bytesWorld_size];omega,fun j u hj=> ?_⟩⟩
   rw[List.getElem?_map]at hj;rcases hb:t.data.toList[j]? with _|b
   . rw[hb]at hj
     cases hj
   . rw[hb]at hj
     cases hj;have hlt:j<t.size:=by rw[hsz];exact(List.getElem?_eq_some_iff.1 hb).1
     have h1:=Go.Lib.bytesWorld_cell w 5 t j hlt;rw[Nat.zero_add,h1,List.getD_eq_getElem?_getD,hb];rfl
theorem infoB:∃i,prog.info? 5=some i/\i.zero=some (.int .u8 0)/\i.size=1/\i.bytes=1:=by
 have h:(prog.info? 5).map (fun i=>(i.zero,i.size,i.bytes))=some (some (Value.int IntKind.u8 0),1,1):=by kernel_rfl
 exact info_parts h
theorem zht{w0 w:World}{A:Option Addr}{n c:Nat}{xs:List UInt8}(ty:TypeId)(h:Own w0 w 5 1 A n c (xs.map bv))(t:ByteArray)(hb:n+t.data.toList.length<=140737488355328):
 ∃A' c' w',(Builtin.append_ #[46,9] ty #[.slice A n c,.string t]).run prog w=.ok (.slice A' (n+t.data.toList.length) c') w'/\Own w0 w' 5 1 A' (n+t.data.toList.length) c' ((xs++t.data.toList).map bv)/\w.grownBy w' (Value.slice A n c).ownBlock:=by
 obtain⟨i,hi,hz,h1,h2⟩:=infoB;obtain⟨v',w',hrun,hrow,hg,_⟩:=Go.Lib.run_append_own_string (P:=prog) w w0.heap.size 46 9 ty 5 i underlying46 underlying9 hi hz h1 h2 (.slice A n c) n (xs.map bv) h.row t (by show n+t.data.toList.length<=_;unfold maxLen;omega) hb h.ext.size;have hs:xs.map bv++Go.Lib.strCells t=(xs++t.data.toList).map bv:=by rw[List.map_append];rfl
 rw[hs]at hrow
 obtain⟨A',c',rfl⟩:∃A' c',v'=.slice A' (n+t.data.toList.length) c':=by
  rcases hrow.2 with⟨rfl,e⟩|⟨g,cap,cur,rfl,_⟩
  . exact⟨none,0,by rw[show n+t.data.toList.length=0 from e]⟩
  . exact⟨_,_,rfl⟩
 exact⟨A',c',w',hrun,⟨hrow,znw h hg h.ext⟩,hg⟩
end Go.Proofs.YtlhbllaojjelcaaGreat
