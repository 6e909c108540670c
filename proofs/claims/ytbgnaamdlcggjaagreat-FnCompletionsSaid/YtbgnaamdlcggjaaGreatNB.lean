/- Plain facts about implied edits and resolvents. -/
import Derived.Test.YtbgnaamdlcggjaaGreatIcPure
import Derived.Test.YtbgnaamdlcggjaaGreatNA
set_option linter.unusedVariables false
set_option autoImplicit false
namespace Go.Proofs.YtbgnaamdlcggjaaGreat
open Go Go.RowKit Go.Gv
theorem sameInts_same {l:List Int} {Q:Bool→Prop} (hl:l.length≤1048576) (hq:Q true):laws_sameInts l l Q:=by
  unfold laws_sameInts
  refine br_false (by simp) (loop1_list (by omega) (fun _=>True) trivial (fun i nx hi _ hx=>idx_at hi (idx_at hi (br_false (by simp) (hx trivial)))) (fun _=>hq))
theorem pSameEdits_same {l:List Edit} {Q:Bool→Prop} (hl:l.length≤1048576∧∀ e∈l,e.Sets.length≤1048576) (hq:Q true):laws_pSameEdits l l Q:=by
  unfold laws_pSameEdits
  have h0:=hl.1
  refine br_false (by simp) (loop1_list (by omega) (fun _=>True) trivial (fun i nx hi _ hx=>idx_at hi (idx_at hi (det1_of true (sameInts_same (hl.2 _ (List.getElem_mem hi)) rfl) (br_false rfl (hx trivial))))) (fun _=>hq))
theorem big_ok {code more:List B8} {Q:Bool→Prop} (h:∀ b,Q b):laws_big code more Q:=by
  unfold laws_big
  exact jn_of (br_dec (fun _=>h _) (fun _=>h _))
end Go.Proofs.YtbgnaamdlcggjaaGreat
