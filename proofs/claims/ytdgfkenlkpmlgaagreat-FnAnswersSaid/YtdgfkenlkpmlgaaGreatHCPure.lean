/- For every drawn attack, an answer is within its range, and types are found by their index. -/
import Derived.Test.YtdgfkenlkpmlgaaGreatHB
set_option linter.unusedVariables false
set_option autoImplicit false
namespace Go.Proofs.YtdgfkenlkpmlgaaGreat
open Go Go.RowKit Go.Gv
theorem lawAnswers (code more:List B8) (w0:Wf.wf code) (w1:Wf.wf more):laws_FnAnswers code more (fun r=>r=true):=by
  have hc:bytesOk code:=w0.2
  have hm:bytesOk more:=w1.2
  unfold laws_FnAnswers
  refine br_bo (fun _=>rfl) fun _=>drawAnswer_ok hc fun p sx l n t i w ht=>iAnswer_ok (t:=t) w (by have:=ht.1; omega) (sAnswer_ok (t:=t) w (by have:=ht.1; omega) (drawType_ok hm fun p2 sx2 j hp2 hs2=>?_))
  have hp2l:=gOk_len hp2.1
  have fin:jn (fun (k268:Bool→Prop)=>br (!(arO p sx l n t i)) (k268 true)<|br (decide ((arV p sx l n t i).1≤(arV p sx l n t i).2)) (k268 (decide ((arV p sx l n t i).1≥0)))<|k268 false) fun (x266:Bool)=>x266=true:=by
    refine jn_bool true rfl fun k hk=>br_nb (fun _=>hk) fun g=>?_
    have ⟨a,b⟩:=arV_le g
    exact br_yes b (by rw [decide_eq_true (by omega)]; exact hk)
  have six:∀ (K:Bool→Prop) (b1 b2:Bool) (a1 a2 a3:Int) (v:List Int),v.length≤1048576→K false→jn (fun (k:Bool→Prop)=>br (b1 != b1) (k true)<|br (a1 != a1) (k true)<|br (a2 != a2) (k true)<|br (b2 != b2) (k true)<|br (a3 != a3) (k true)<|laws_qInts v v fun r204=>k (!r204)) K:=fun K b1 b2 a1 a2 a3 v hv h =>
    jn_bool false h fun k hk=>br_false (by simp) (br_false (by simp) (br_false (by simp) (br_false (by simp) (br_false (by simp) (qInts_same hv hk)))))
  refine implType_ok (p:=p2) (by omega) hs2 (fun g=>specType_ok (p:=p2) (by omega) hs2 (fun _=>?_) fun k e hk ht2=>?_) fun k e hk ht2=>specType_ok (p:=p2) (by omega) hs2 (fun g=>?_) fun k' e' hk' _=>?_
  · exact six _ _ _ _ _ _ _ (by simp) (br_false rfl (jn_ok (fun K=>K) fin fun K hK=>br_false rfl hK))
  · unfold taB at g; rw [ht2,e,decide_eq_true (by omega),decide_eq_true (by omega)] at g; cases g
  · unfold taB at g; rw [ht2,e,decide_eq_true (by omega),decide_eq_true (by omega)] at g; cases g
  · have ek:k'=k:=by omega
    subst ek
    have ⟨a,_,hL,hT⟩:=tyOk_of ht2
    refine six _ _ _ _ _ _ _ (by show (vals sx2 _).length≤_; rw [vals_length]; have:=hs2.1; omega) (br_false rfl (jn_ok (fun K=>K) fin fun K hK=>br_true rfl ?_))
    refine typeCounts_ok (p:=p2) (by omega) hs2 ht2 hk ?_
    have hlen:(onT (nT p2 sx2) k').length=nT p2 sx2:=by unfold onT; simp
    refine jn_bool false (br_false rfl hK) fun K2 hK2=>br_false rfl (br_no (by unfold ln; omega) ?_)
    rw [e]
    refine idx_at (by omega) ?_
    rw [onT_at (by omega),if_pos rfl]
    exact br_false rfl (qSum_on (by omega) hk hK2)
end Go.Proofs.YtdgfkenlkpmlgaaGreat
