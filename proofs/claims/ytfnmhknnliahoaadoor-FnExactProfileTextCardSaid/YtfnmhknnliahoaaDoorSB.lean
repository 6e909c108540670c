/- The laws' own functions over lists of lists and lists of records. -/
import Derived.Test.YtfnmhknnliahoaaDoorSA
set_option linter.unusedVariables false
set_option autoImplicit false
namespace Go.Proofs.YtfnmhknnliahoaaDoor
open Go Go.RowKit Go.Gv
theorem szI_ok {a:List Int} {left:Int} {Q:Int→Prop} (hw:a.length≤maxLen) (hl:0≤left∧left≤1048576) (h:∀ r,r≤left→(0≤r→a.length≤1048576)→Q r):laws_szIntS a left Q:=by
  unfold laws_szIntS
  have hw1:(a.length:Int)≤9223372036854775807:=by simp only [maxLen] at hw; omega
  rw [wr_in (x:=left-ln a) (by unfold ln; omega) (by unfold ln; omega)]
  refine br_dec (fun g=>h _ (by omega) (fun c=>by omega)) (fun g=>h _ (by unfold ln; omega) (fun c=>by unfold ln at g; omega))
theorem szG_ok {a:Geo} {left:Int} {Q:Int→Prop} (hw:a.Parents.length≤maxLen) (hl:0≤left∧left≤1048576) (h:∀ r,r≤left→(0≤r→a.Parents.length≤1048576)→Q r):laws_szGeo a left Q:=by
  unfold laws_szGeo
  exact szI_ok hw hl fun r h1 h2=>br_dec (fun g=>h _ (by omega) (fun c=>by omega)) (fun g=>h _ h1 h2)
theorem toG_ok {a:Geo} {Q:Geo→Prop} (hl:a.Parents.length≤1048576) (h:Q a):laws_toGeo a Q:=toIntS_ok hl h
theorem eqG_same {a:Geo} {Q:Bool→Prop} (hl:a.Parents.length≤1048576) (h:Q true):laws_eqGeo a a Q:=by
  unfold laws_eqGeo
  exact eqIntS_same hl (br_false rfl h)
theorem szT_ok {t:Table} {left:Int} {Q:Int→Prop} (h1:t.Vars.length≤maxLen) (h2:t.Where.length≤maxLen) (hl:0≤left∧left≤1048576) (h:∀ r,r≤left→(0≤r→t.Vars.length≤1048576∧t.Where.length≤1048576)→Q r):laws_szTable t left Q:=by
  unfold laws_szTable
  refine szI_ok h1 hl fun r1 a1 b1=>br_dec (fun g=>h _ (by omega) (fun c=>by omega)) (fun g=>?_)
  refine szI_ok h2 (by omega) fun r2 a2 b2=>br_dec (fun g2=>h _ (by omega) (fun c=>by omega)) (fun g2=>h _ (by omega) fun _=>⟨b1 (by omega),b2 (by omega)⟩)
theorem toT_ok {t:Table} {Q:Table→Prop} (h1:t.Vars.length≤1048576) (h2:t.Where.length≤1048576) (h:Q t):laws_toTable t Q:=toIntS_ok h1 (toIntS_ok h2 h)
theorem eqT_same {t:Table} {Q:Bool→Prop} (h1:t.Vars.length≤1048576) (h2:t.Where.length≤1048576) (h:Q true):laws_eqTable t t Q:=by
  unfold laws_eqTable
  exact br_false (by simp) (eqIntS_same h1 (br_false rfl (eqIntS_same h2 (br_false rfl (br_false (by simp) h)))))
end Go.Proofs.YtfnmhknnliahoaaDoor
