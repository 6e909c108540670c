/- The plain law of FirstSurvey. -/
import Derived.Test.YtdgfkenlkpmlgaaGreatRB
import Derived.Test.YtdgfkenlkpmlgaaGreatQGPure
set_option linter.unusedVariables false
set_option autoImplicit false
namespace Go.Proofs.YtdgfkenlkpmlgaaGreat
open Go Go.RowKit Go.Gv
theorem lvs_pos {p:List Int} (h:gOk p=true):0<(lvs p).length:=by
  unfold gOk at h
  simp only [Bool.and_eq_true,decide_eq_true_eq] at h
  obtain ⟨⟨⟨h1,h2⟩,h3⟩,h4⟩:=h
  have h4:=List.all_eq_true.1 h4
  have hb:hasB p ((p.length-1:Nat):Int)=false:=by
    unfold hasB
    rw [List.any_eq_false]
    intro x hx he
    have he:x=((p.length-1:Nat):Int):=by simpa using he
    obtain ⟨j,hj,rfl⟩:=List.mem_iff_getElem.1 hx
    have hg:gi p j=p[j]:=by unfold gi; simp [hj]
    have:=h4 j (List.mem_range.2 hj)
    by_cases e:j=0
    · subst e; rw [hg] at h3; omega
    · simp only [e,decide_false,Bool.false_or] at this
      have:=inb_iff'.1 this
      rw [hg] at this; omega
  unfold lvs pick
  rw [List.length_map]
  refine List.length_pos_of_mem (a:=p.length-1) (List.mem_filter.2 ⟨List.mem_range.2 (by omega),by simpa using hb⟩)
theorem nT_pos {p:List Int} {sx:List Variable} (h:gOk p=true) (hL:Lok sx):0<nT p sx:=Nat.mul_pos (lvs_pos h) (cnt_small' hL).1
theorem surv_mem {p:List Int} {sx:List Variable} {l:List Published} {n:Nat} {t:List Int} (ht:t∈surv p sx l n):t.length=nT p sx∧∀ c∈t,0≤c∧c≤(n:Int):=by
  unfold surv sols at ht
  obtain ⟨t',h1,rfl⟩:=List.mem_map.1 ht
  have:=comps_len (List.mem_filter.1 h1).1
  simpa using this
end Go.Proofs.YtdgfkenlkpmlgaaGreat
