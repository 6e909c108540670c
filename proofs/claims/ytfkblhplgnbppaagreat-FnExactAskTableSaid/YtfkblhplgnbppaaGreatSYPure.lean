/- The plain law of AskTable. -/
import Derived.Test.YtfkblhplgnbppaaGreatSX
set_option linter.unusedVariables false
set_option autoImplicit false
namespace Go.Proofs.YtfkblhplgnbppaaGreat
open Go Go.RowKit Go.Gv
noncomputable def atS (x:Server) (t:Table):Server:=if svrOk x=true then asS x t else zSrv
noncomputable def atC (x:Server) (t:Table):List Int:=if svrOk x=true then asC x t else []
noncomputable def atN (x:Server) (t:Table):Int:=if svrOk x=true then cod x x.Asked t else 0
theorem sAskTable_ok {x:Server} {t:Table} {Q:Server→List Int→Int→Bool→Prop} (w:Sm x) (hn:∀ v∈x.S,v.Name.size≤1048576) (ht:t.Vars.length≤1048576∧t.Where.length≤1048576) (hq:Q (atS x t) (atC x t) (atN x t) (svrOk x)):spec_AskTable x t Q:=by
  unfold spec_AskTable
  unfold atS atC atN at hq
  refine jGoodA_ok (x:=x) w hn (br_nb (fun g=>?_) (fun g=>?_))
  · rw [g] at hq; exact hq
  · rw [g] at hq
    exact jOwn_ok (x:=x) w (jAsk_ok (x:=x) (t:=t) (VS_ok w hn g) (by have:=askLen g; omega) ht hq)
theorem iAskTable_ok {x:Server} {t:Table} {Q:Server→List Int→Int→Bool→Prop} (w:Sm x) (hn:∀ v∈x.S,v.Name.size≤1048576) (ht:t.Vars.length≤1048576∧t.Where.length≤1048576) (hq:Q (atS x t) (atC x t) (atN x t) (svrOk x)):impl_AskTable x t Q:=by
  unfold impl_AskTable
  unfold atS atC atN at hq
  refine IsServerA_ok (x:=x) w hn (br_nb (fun g=>?_) (fun g=>?_))
  · rw [g] at hq; exact hq
  · rw [g] at hq
    exact copyServer_ok (x:=x) w (askTable_ok (x:=x) (t:=t) (VS_ok w hn g) (by have:=askLen g; omega) ht hq)
theorem atS_sm {x:Server} {t:Table} (w:Sm x) (hn:∀ v∈x.S,v.Name.size≤1048576) (ht:t.Vars.length≤1048576∧t.Where.length≤1048576):Sm (atS x t)∧(atC x t).length≤600:=by
  unfold atS atC
  split
  · rename_i g
    exact ⟨(asS_sm w (by have:=askLen g; omega) ht).1,asC_b (VS_ok w hn g)⟩
  · exact ⟨zSm,by simp⟩
theorem lawAskTable (aX:Server) (aT:Table) (w0:Wf.wf aX) (w1:Wf.wf aT):laws_FnExactAskTable aX aT (fun r=>r=true):=by
  unfold laws_FnExactAskTable
  refine szServer_ok (x:=aX) w0 (by omega) fun r1 a1 b1=>br_dec (fun g=>rfl) (fun g1=>szT_ok (t:=aT) w1.2.1.1 w1.2.2.1.1 (by omega) fun r2 a2 b2=>br_dec (fun g=>rfl) (fun g2=>?_))
  have ⟨w,hn⟩:=b1 (by omega)
  have ht:=b2 (by omega)
  have ⟨hv,hc⟩:=atS_sm (t:=aT) w hn ht
  have cb:=cSv_b hv
  have cx:=cSv_b w
  refine toServer_ok (x:=aX) w (toT_ok (t:=aT) ht.1 ht.2 (sAskTable_ok (x:=aX) (t:=aT) w hn ht ?_))
  refine toServer_ok (x:=aX) w (toT_ok (t:=aT) ht.1 ht.2 (iAskTable_ok (x:=aX) (t:=aT) w hn ht ?_))
  refine jn_bool false ?_ fun k hk=>eqServer_same (x:=atS aX aT) hv (br_false rfl (eqIntS_same (by omega) (br_false rfl (br_false (by simp) (by simpa using hk)))))
  refine br_false rfl (toServer_ok (x:=aX) w (eqServer_same (x:=aX) w (br_false rfl (toT_ok (t:=aT) ht.1 ht.2 (eqT_same (t:=aT) ht.1 ht.2 (br_false rfl ?_))))))
  refine markServer_ok (x:=aX) w fun a b c d e _=>?_
  unfold laws_markTable
  refine markIntS_ok (a:=aT.Vars) (by omega) (by omega) (by omega) (markIntS_ok (a:=aT.Where) (by omega) (by omega) (by omega) ?_)
  refine jn_bool false ?_ fun k hk=>br_dec (fun g=>?_) (fun g=>eqServer_same (x:=atS aX aT) hv (br_false rfl (eqIntS_same (by omega) (br_false rfl (br_false (by simp) (by simpa using hk))))))
  · refine br_false rfl (markServer_ok (x:=atS aX aT) hv fun a b c d e hh=>markIntS_ok (by omega) (by omega) (by omega) ?_)
    refine hh rfl rfl rfl rfl rfl (br_dec (fun g=>by omega) (fun g=>heldIntS_ok (by omega) (by omega) (by omega) (br_dec (fun g=>by omega) (fun g=>br_ne (fun g=>absurd rfl g) (fun _=>?_)))))
    refine toServer_ok (x:=aX) w (toT_ok (t:=aT) ht.1 ht.2 (iAskTable_ok (x:=aX) (t:=aT) w hn ht ?_))
    refine jn_bool false ?_ fun k hk=>eqServer_same (x:=atS aX aT) hv (br_false rfl (eqIntS_same (by omega) (br_false rfl (br_false (by simp) (by simpa using hk)))))
    exact br_false rfl (hh rfl rfl rfl rfl rfl (br_dec (fun g=>by omega) (fun g=>heldIntS_ok (by omega) (by omega) (by omega) (br_dec (fun g=>by omega) (fun g=>br_ne (fun g=>absurd rfl g) (fun _=>rfl))))))
  · exfalso
    omega
end Go.Proofs.YtfkblhplgnbppaaGreat
