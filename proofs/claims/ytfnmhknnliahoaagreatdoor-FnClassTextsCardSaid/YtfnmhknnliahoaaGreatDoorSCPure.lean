/- The plain law of SiteCells. -/
import Derived.Test.YtfnmhknnliahoaaGreatDoorSB
set_option linter.unusedVariables false
set_option autoImplicit false
namespace Go.Proofs.YtfnmhknnliahoaaGreatDoor
open Go Go.RowKit Go.Gv
theorem areTabled_ok {p:List Int} {sx:List Variable} {t:Table} {Q:Bool→Prop} (hp:p.length≤1048576) (hs:sx.length≤1048576) (hv:t.Vars.length≤1048576) (hq:Q ((gOk p&&schOk sx)&&tOk p sx t)):impl_areTabled ⟨p⟩ sx t Q:=by
  unfold impl_areTabled
  refine jn_bool _ hq fun k hk=>IsGeo_ok (p:=p) hp (br_bo (fun g=>IsSchema_ok hs (br_bo (fun g1=>isTable_ok (p:=p) g (Lok_of g1) hv ?_) (fun g1=>?_))) (fun g=>?_))
  · rw [g,g1] at hk; exact hk
  · rw [g,g1] at hk; exact hk
  · rw [g] at hk; exact hk
end Go.Proofs.YtfnmhknnliahoaaGreatDoor
