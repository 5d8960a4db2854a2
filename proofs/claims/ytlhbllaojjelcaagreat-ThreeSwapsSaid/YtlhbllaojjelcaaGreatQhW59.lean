/- Plain words of layer 26: three meanings made one, round by round, as the reference has it. No program is named. -/
import Derived.Test.YtlhbllaojjelcaaGreatQhW58

set_option linter.unusedVariables false
set_option maxRecDepth 100000
set_option maxHeartbeats 1000000
namespace Go.Proofs.YtlhbllaojjelcaaGreat
open Go.RowKit Go.Proofs.Tryz
section
variable {rec:Three} {f:zaa} {S:List MsgD} {m:Nat} {M:MsgD} {rs:Nat->MsgT->Prop} {x a b:MsgT} {N:Int}
end
end Go.Proofs.YtlhbllaojjelcaaGreat
namespace Go.Proofs.YtlhbllaojjelcaaGreat
open Go.RowKit Go.Shelf Go.Proofs.Tryz
variable{n c k:Nat}{A:Option Addr}{w:World}
theorem WayAt.num{l:Way}(h:WayAt w A n c l)(hk:k<n):∃b off x,A=some ⟨b,off,none⟩/\l[k]?=some x/\b<w.heap.size/\w.cell? ⟨b,off+k,none⟩=some (.int .i64 x):=by
 obtain⟨b,off,e,hb,hc⟩:=h.at_ (by omega);have hl:l.length=n:=by have:=h.len;simpa using this
 have hx:l[k]?=some (l[k]'(by omega)):=List.getElem?_eq_getElem (by omega);exact⟨b,off,_,e,hx,hb,hc k _ (by rw[List.getElem?_map,hx];rfl)⟩
variable{m d:Nat}{B:Option Addr}
theorem sameW{xs ys:Way}(ha:WayAt w A n c xs)(hb:WayAt w B m d ys):
 Calls prog 38 #[.slice A n c,.slice B m d] w fun e w'=>e=.returned (.bool (decide (xs=ys)))/\Ext w w':=by
 have hn:n<=9223372036854775807:=by have h1:=Reads.cap ha;have h2:=Reads.max ha;unfold maxLen at h2;omega
 have hx:xs.length=n:=by have:=Reads.len ha;simpa using this
 have hy:ys.length=m:=by have:=Reads.len hb;simpa using this
 by_cases hnm:n=m
 . subst hnm
   have q1:((n:Int) !=(n:Int))=false:=by simp
   go_enter func38,ntmps38
   go_wp2
   go_loopw [5] (fun i wr=>∃k:Nat,k<=n/\i=.int .i64 k/\Ext w wr/\Hid (xs.take k=ys.take k)) (fun i _=>n - (intOf i).toNat)
   case atStart=>exact⟨0,Nat.zero_le _,rfl,Ext.refl _,rfl⟩
   case round=>
    obtain⟨k,hk,rfl,hE,hT⟩:=hrel;by_cases hlt:k<n
    . obtain⟨b,off,x,rfl,hxk,hbx,hcx⟩:=WayAt.num (Reads.ext ha hE) hlt
      obtain⟨b',off',y,rfl,hyk,hby,hcy⟩:=WayAt.num (Reads.ext hb hE) hlt;have Hx:=zsp hxk;have Hy:=zsp hyk;have Hlx:=zsp hx;have Hly:=zsp hy;have hltI:(k:Int)<n:=by omega
      have hk0:(0:Int)<=k:=by omega
      clear hxk hyk hx hy;by_cases hxy:x=y
      . subst hxy
        have q2:(x !=x)=false:=by simp
        go_wp2
        go_quiet (fail)
        go_wp2
        go_roundw
        case rel=>exact⟨k+1,by omega,by go_num,hE.drewN _,by show _=_;rw[zap _ _ _ Hx.out,zap _ _ _ Hy.out,hT.out]⟩
        case measure=>simp[intOf];omega
      . have q2:(x !=y)=true:=by simp[hxy]
        have Hxy:=zsp hxy;clear hxy
        go_wp2
        go_quiet (fail)
        go_wp2
        go_ret
        refine⟨zag (decide_eq_false ?_).symm,hE.drewN _⟩;rintro rfl;have:=Hx.out.symm.trans Hy.out;exact Hxy.out (by simpa using this)
    . have hkn:k=n:=by omega
      subst hkn
      have hfin:xs=ys:=by
       have:=hT.out
       rwa[List.take_of_length_le (by omega),List.take_of_length_le (by omega)]at this
      have Hf:=zsp hfin;clear hfin hx hy
      go_wp2
      go_ret
      exact⟨zag (decide_eq_true Hf.out).symm,hE⟩
 . have q1:((n:Int) !=(m:Int))=true:=by simp;omega
   have hne:xs≠ys:=fun e=>hnm (by rw[<-hx,<-hy,e])
   have Hne:=zsp hne;clear hne hx hy
   go_enter func38,ntmps38
   go_wp2
   go_ret
   exact⟨zag (decide_eq_false Hne.out).symm,Ext.refl _⟩
theorem zbA.row{l:List WRow}(h:zbA w A n c l)(hk:k<n):∃b off r,A=some ⟨b,off,none⟩/\l[k]?=some r/\b<w.heap.size/\WayAt w r.A r.n r.c r.way/\w.cell? ⟨b,off+k,none⟩=some (.slice r.A r.n r.c):=by
 obtain⟨b,off,e,hb,hc⟩:=h.1.at_ (by omega);have hl:l.length=n:=h.length;have hx:l[k]?=some (l[k]'(by omega)):=List.getElem?_eq_getElem (by omega);exact⟨b,off,_,e,hx,hb,h.2 _ (List.mem_of_getElem? hx),hc k _ (by rw[List.getElem?_map,hx];rfl)⟩
theorem zmn{xs ys:List WRow}(ha:zbA w A n c xs)(hb:zbA w B m d ys)(hn:n<=1000000000000):
 Calls prog 14 #[.slice A n c,.slice B m d] w fun e w'=>e=.returned (.bool (decide (xs.map (·.way)=ys.map (·.way))))/\Ext w w':=by
 have hx:xs.length=n:=ha.length;have hy:ys.length=m:=hb.length;by_cases hnm:n=m
 . subst hnm
   have q1:((n:Int) !=(n:Int))=false:=by simp
   go_enter func14,ntmps14
   go_wp2
   go_loopw [5] (fun i wr=>∃k:Nat,k<=n/\i=.int .i64 k/\Ext w wr/\Hid ((xs.take k).map (·.way)=(ys.take k).map (·.way))) (fun i _=>n - (intOf i).toNat)
   case atStart=>exact⟨0,Nat.zero_le _,rfl,Ext.refl _,rfl⟩
   case round=>
    rename World=>wr
    obtain⟨k,hk,rfl,hE,hT⟩:=hrel;by_cases hlt:k<n
    . obtain⟨b,off,x,rfl,hxk,hbx,wx,hcx⟩:=(ha.up hE).row hlt
      obtain⟨b',off',y,rfl,hyk,hby,wy,hcy⟩:=(hb.up hE).row hlt;have hcall:=fun(W:World)(E:Ext wr W)=>sameW (wx.ext E) (wy.ext E)
      have Hx:=zsp hxk;have Hy:=zsp hyk;have Hlx:=zsp hx;have Hly:=zsp hy;have hltI:(k:Int)<n:=by omega
      have hk0:(0:Int)<=k:=by omega
      have Xr:Ext wr wr:=Ext.refl wr;clear hxk hyk hx hy wx wy;by_cases hxy:x.way=y.way
      . simp only[show decide (x.way=y.way)=true from decide_eq_true hxy]at hcall
        have Hxy:=zsp hxy;have Hcall:=zsp hcall;clear hxy hcall
        go_wp2
        go_region_held3 (fun W=>Ext wr W/\∀b o,b<wr.heap.size->W.cell? ⟨b,o,none⟩=wr.cell? ⟨b,o,none⟩) ((refine Ext.keep ?_;repeat with_reducible (first|assumption|exact Ext.refl _|refine Ext.alloc ?_ _|refine Ext.drew ?_|refine Ext.drewN ?_ _|refine Ext.setCell ?_ (by first|omega|(simp<;>omega)) _))) (first|(go_split_ands;go_at_call 38;refine(Hcall.out _ (by with_reducible assumption)).mono ?_;rintro e w5 ⟨rfl,E5⟩;have q5:Ext wr w5:=Ext.trans (by with_reducible assumption) E5))
        all_goals
         go_wp2
         go_roundw
         case rel=>exact⟨k+1,by omega,by go_num,hE.trans q5,by show _=_;rw[zap _ _ _ Hx.out,zap _ _ _ Hy.out,List.map_append,List.map_append,hT.out];simp[Hxy.out]⟩
         case measure=>simp[intOf];omega
      . simp only[show decide (x.way=y.way)=false from decide_eq_false hxy]at hcall
        have Hxy:=zsp hxy;have Hcall:=zsp hcall;clear hxy hcall
        go_wp2
        go_region_held3 (fun W=>Ext wr W/\∀b o,b<wr.heap.size->W.cell? ⟨b,o,none⟩=wr.cell? ⟨b,o,none⟩) ((refine Ext.keep ?_;repeat with_reducible (first|assumption|exact Ext.refl _|refine Ext.alloc ?_ _|refine Ext.drew ?_|refine Ext.drewN ?_ _|refine Ext.setCell ?_ (by first|omega|(simp<;>omega)) _))) (first|(go_split_ands;go_at_call 38;refine(Hcall.out _ (by with_reducible assumption)).mono ?_;rintro e w5 ⟨rfl,E5⟩;have q5:Ext wr w5:=Ext.trans (by with_reducible assumption) E5))
        all_goals
         go_wp2
         go_ret
         refine⟨zag (decide_eq_false ?_).symm,hE.trans q5⟩;intro q;have h1:(xs.map (·.way))[k]?=some x.way:=by rw[List.getElem?_map,Hx.out];rfl
         have h2:(ys.map (·.way))[k]?=some y.way:=by rw[List.getElem?_map,Hy.out];rfl
         rw[q,h2]at h1;exact Hxy.out (Option.some.inj h1).symm
    . have hkn:k=n:=by omega
      subst hkn
      have hfin:xs.map (·.way)=ys.map (·.way):=by
       have:=hT.out
       rwa[List.take_of_length_le (by omega),List.take_of_length_le (by omega)]at this
      have Hf:=zsp hfin;clear hfin hx hy
      go_wp2
      go_ret
      exact⟨zag (decide_eq_true Hf.out).symm,hE⟩
 . have q1:((n:Int) !=(m:Int))=true:=by simp;omega
   have hne:xs.map (·.way)≠ys.map (·.way):=fun e=>hnm (by have:=congrArg List.length e;rw[List.length_map,List.length_map]at this;omega)
   have Hne:=zsp hne;clear hne hx hy
   go_enter func14,ntmps14
   go_wp2
   go_ret
   exact⟨zag (decide_eq_false Hne.out).symm,Ext.refl _⟩
end Go.Proofs.YtlhbllaojjelcaaGreat
