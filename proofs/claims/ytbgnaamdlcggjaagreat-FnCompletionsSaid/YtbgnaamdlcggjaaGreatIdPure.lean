/- The law of IsCover. -/
import Derived.Test.YtbgnaamdlcggjaaGreatIcPure
set_option linter.unusedVariables false
set_option autoImplicit false
namespace Go.Proofs.YtbgnaamdlcggjaaGreat
open Go Go.RowKit Go.Gv
theorem sFits_ok {sx:List Variable} {vs:List Int} {Q:Bool→Prop} (hL:Lok sx) (hq:Q (fitOk sx vs)):spec_sFits sx vs Q:=by
  have h0:=hL.1
  unfold spec_sFits
  refine br_ne (fun g=>?_) (fun g=>?_)
  · have:fitOk sx vs=false:=by unfold fitOk; rw [decide_eq_false (by unfold ln at g; omega)]; rfl
    rw [this] at hq; exact hq
  · have g':vs.length=sx.length:=by unfold ln at g; omega
    refine loop1_list (by omega) (fun i=>(List.range i).all (fun i=>inb 0 ((vAt sx i).Levels-1) (gi vs i))=true) (by simp) (fun i nx hi hj hx=>idx_at hi (idx_at (by omega) ?_)) (fun hj=>?_)
    · have ⟨e,h1,h2⟩:=lv_at hL hi
      refine ⟨inb 0 (sx[i].Levels-1) (vs[i]'(by omega)),l1In_ok (by rw [wr_in (by omega) (by omega)]; rfl),?_⟩
      have e1:inb 0 ((vAt sx i).Levels-1) (gi vs i)=inb 0 (sx[i].Levels-1) (vs[i]'(by omega)):=by rw [gi_at (by omega),vAt_at hi]
      rw [← e1]
      refine br_nb (fun g1=>?_) (fun g1=>hx (range_all_succ hj g1))
      have:fitOk sx vs=false:=by unfold fitOk; rw [range_all_no hi g1,Bool.and_false]
      rw [this] at hq; exact hq
    · have:fitOk sx vs=true:=by unfold fitOk; rw [hj,decide_eq_true g']; rfl
      rw [this] at hq; exact hq
theorem areValues_ok {sx:List Variable} {vs:List Int} {Q:Bool→Prop} (hL:Lok sx) (hq:Q (fitOk sx vs)):impl_areValues sx vs Q:=by
  have h0:=hL.1
  unfold impl_areValues
  refine br_ne (fun g=>?_) (fun g=>?_)
  · have:fitOk sx vs=false:=by unfold fitOk; rw [decide_eq_false (by unfold ln at g; omega)]; rfl
    rw [this] at hq; exact hq
  · have g':vs.length=sx.length:=by unfold ln at g; omega
    refine loop1_list (by omega) (fun i=>(List.range i).all (fun i=>inb 0 ((vAt sx i).Levels-1) (gi vs i))=true) (by simp) (fun i nx hi hj hx=>idx_at hi ?_) (fun hj=>?_)
    · have hi':i<sx.length:=by omega
      have ⟨e,h1,h2⟩:=lv_at hL hi'
      have e1:inb 0 ((vAt sx i).Levels-1) (gi vs i)=(!(decide (vs[i]<0))&&!decide (vs[i]≥sx[i].Levels)):=by
        rw [gi_at hi,vAt_at hi']; unfold inb; rw [Bool.eq_iff_iff]; simp; omega
      refine jn_bool (!inb 0 ((vAt sx i).Levels-1) (gi vs i)) ?_ fun k hk=>br_dec (fun g1=>?_) (fun g1=>idx_at hi' ?_)
      · refine br_nb (fun g1=>?_) (fun g1=>hx (range_all_succ hj g1))
        have:fitOk sx vs=false:=by unfold fitOk; rw [range_all_no hi' g1,Bool.and_false]
        rw [this] at hq; exact hq
      · rw [e1,decide_eq_true g1] at hk; exact hk
      · rw [e1,decide_eq_false g1,Bool.not_false,Bool.true_and,Bool.not_not] at hk; exact hk
    · have:fitOk sx vs=true:=by unfold fitOk; rw [← g',hj,decide_eq_true (by omega)]; rfl
      rw [this] at hq; exact hq
end Go.Proofs.YtbgnaamdlcggjaaGreat
