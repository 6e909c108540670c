/- The plain law of 'FnExactCountShares': what the walk computes answers true, whatever the arguments. -/
import Derived.Test.YtbgnaamdlcggjaaCn
set_option linter.unusedVariables false
set_option autoImplicit false
namespace Go.Proofs.Ytbgnaamdlcggjaa
open Go Go.RowKit Go.Gv
theorem eqFracS_same {a:List Frac} {Q:Bool→Prop} (hl:a.length≤1048576) (h:Q true):laws_eqFracS a a Q:=by
  unfold laws_eqFracS
  refine br_false (by simp) ?_
  exact loop1_list (by omega) (fun _=>True) trivial (fun i nx hi _ hn=>idx_at hi (idx_at hi (det1_of true (eqFrac_same rfl) (br_false rfl (hn trivial))))) (fun _=>h)
def marksF (k:Int) (n:Nat):List Frac:=(List.range n).map fun (i:Nat)=>⟨k+2 * (i:Int),k+2 * (i:Int)+1⟩
theorem marksF_length (k:Int) (n:Nat):(marksF k n).length=n:=by simp [marksF]
theorem markFracS_ok {a:List Frac} {k:Int} {Q:Int→List Frac→Prop} (hl:a.length≤1048576) (hk:0≤k∧k≤1000000000) (h:Q (k+2 * (a.length:Int)) (marksF k a.length)):laws_markFracS a k Q:=by
  unfold laws_markFracS
  have hm:=marksF_length k a.length
  refine loop3_list (by omega) (fun a2 k2 i=>k2=k+2 * (i:Int)∧a2.length=(marksF k a.length).length∧a2.take i=(marksF k a.length).take i) ⟨by simp,by simp [hm],by simp⟩ (fun a2 k2 i nx hi ⟨h1,h2,h3⟩ hn=>?_) (fun a2 k2 ⟨h1,h2,h3⟩=>?_)
  · have hi2:i<a2.length:=by rw [h2,hm]; exact hi
    refine idx_at hi2 (idx_at (by simpa using hi2) ?_)
    rw [wr_in (x:=k2+1) (by omega) (by omega),wr_in (x:=k2+1+1) (by omega) (by omega)]
    refine hn _ _ ⟨by omega,by simpa using h2,?_⟩
    have:=set_done h2 hi2 h3
    simp only [Int.toNat_natCast,List.set_set]
    refine Eq.trans (congrArg (List.take (i+1)) (congrArg (List.set a2 i) ?_)) this
    simp [marksF,h1]
  · have e:a2=marksF k a.length:=eq_of_take h3 (by omega) hm
    rw [h1,e]; exact h
theorem heldFracS_ok {k:Int} {n:Nat} {Q:Int→Prop} (hl:n≤1048576) (hk:0≤k∧k≤1000000000) (h:Q (k+2 * (n:Int))):laws_heldFracS (marksF k n) k Q:=by
  unfold laws_heldFracS
  have hm:=marksF_length k n
  refine loop2_list (by omega) (fun k2 i=>k2=k+2 * (i:Int)) (by simp) (fun k2 i nx hi h1 hn=>idx_at hi ?_) (fun k2 h1=>?_)
  · have hg:(marksF k n)[i]=⟨k+2 * (i:Int),k+2 * (i:Int)+1⟩:=by simp [marksF]
    have hi':i<n:=by omega
    refine br_false (by simp [hg,h1]) (idx_at hi ?_)
    rw [wr_in (x:=k2+1) (by omega) (by omega),wr_in (x:=k2+1+1) (by omega) (by omega)]
    exact br_false (by simp [hg,h1]) (hn _ (by omega))
  · rw [h1,hm]; exact h
end Go.Proofs.Ytbgnaamdlcggjaa
