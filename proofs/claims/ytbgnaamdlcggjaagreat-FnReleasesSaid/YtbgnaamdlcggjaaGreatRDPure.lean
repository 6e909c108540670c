import Derived.Test.YtbgnaamdlcggjaaGreatRB
import Derived.Test.YtbgnaamdlcggjaaGreatQGPure
set_option linter.unusedVariables false
set_option autoImplicit false
namespace Go.Proofs.YtbgnaamdlcggjaaGreat
open Go Go.RowKit Go.Gv
theorem DF6{p:List Int}(h:gOk p=true):0<(lvs p).length:=by
  unfold gOk at h
  simp only [Bool.and_eq_true,decide_eq_true_eq] at h
  obtain ⟨⟨⟨h1,h2⟩,h3⟩,h4⟩:=h
  have h4:=List.all_eq_true.1 h4
  have hb:AE8 p ((p.length-1:Nat):Int)=false:=by
    unfold AE8
    rw [List.any_eq_false]
    intro x hx he
    have he:x=((p.length-1:Nat):Int):=by simpa using he
    obtain ⟨j,hj,rfl⟩:=List.mem_iff_getElem.1 hx
    have hg:gi p j=p[j]:=by unfold gi; simp [hj]
    have:=h4 j (List.mem_range.2 hj)
    by_cases e:j=0
    · subst e; rw [hg] at h3; omega
    · simp only [e,decide_false,Bool.false_or] at this
      have:=U2.1 this
      rw [hg] at this; omega
  unfold lvs pick
  rw [List.length_map]
  refine List.length_pos_of_mem (a:=p.length-1) (List.mem_filter.2 ⟨List.mem_range.2 (by omega),by simpa using hb⟩)
theorem EW6{p:List Int}{sx:List A0}(h:gOk p=true)(hL:Lok sx):0<nT p sx:=Nat.mul_pos (DF6 h) (AB0 hL).1
theorem CA0{p:List Int}{sx:List A0}{l:List B0}{n:Nat}{t:List Int}(ht:t∈AA9 p sx l n):t.length=nT p sx/\∀ c∈t,0<=c/\c<=(n:Int):=by
  unfold AA9 L8 at ht
  obtain ⟨t',h1,rfl⟩:=List.mem_map.1 ht
  have:=BP7 (List.mem_filter.1 h1).1
  simpa using this
end Go.Proofs.YtbgnaamdlcggjaaGreat
