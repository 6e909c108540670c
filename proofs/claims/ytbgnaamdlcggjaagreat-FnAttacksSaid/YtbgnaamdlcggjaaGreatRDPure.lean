/- The plain law of FirstSurvey. -/
import Derived.Test.YtbgnaamdlcggjaaGreatRB
import Derived.Test.YtbgnaamdlcggjaaGreatQGPure
set_option linter.unusedVariables false
set_option autoImplicit false
namespace Go.Proofs.YtbgnaamdlcggjaaGreat
open Go Go.RowKit Go.Gv
theorem lvs_pos {p:List Int} (h:gOk p=true):0<(lvs p).length:=by
  unfold gOk at h
  simp only [Bool.and_eq_true,decide_eq_true_eq] at h
  obtain ⟨⟨⟨h1,h2⟩,h3⟩,h4⟩:=h
  have h4:=List.all_eq_true.1 h4
  have hb:hasB p ((p.length-1:Nat):Int)=false:=by
    unfold hasB
    rw [List.any_eq_false]
    intro x hx he
    have he:x=((p.length-1:Nat):Int):=by simpa using he
    obtain ⟨j,hj,rfl⟩:=List.mem_iff_getElem.1 hx
    have hg:gi p j=p[j]:=by unfold gi; simp [hj]
    have:=h4 j (List.mem_range.2 hj)
    by_cases e:j=0
    · subst e; rw [hg] at h3; omega
    · simp only [e,decide_false,Bool.false_or] at this
      have:=inb_iff'.1 this
      rw [hg] at this; omega
  unfold lvs pick
  rw [List.length_map]
  refine List.length_pos_of_mem (a:=p.length-1) (List.mem_filter.2 ⟨List.mem_range.2 (by omega),by simpa using hb⟩)
theorem nT_pos {p:List Int} {sx:List Variable} (h:gOk p=true) (hL:Lok sx):0<nT p sx:=Nat.mul_pos (lvs_pos h) (cnt_small' hL).1
def fsV (p:List Int) (sx:List Variable) (l:List Published) (n:Int):List Int:=if askB p sx l n=true then ((surv p sx l n.toNat).take 1).foldl (·++·) [] else []
def fsO (p:List Int) (sx:List Variable) (l:List Published) (n:Int):Bool:=askB p sx l n&&!(surv p sx l n.toNat).isEmpty
theorem surv_mem {p:List Int} {sx:List Variable} {l:List Published} {n:Nat} {t:List Int} (ht:t∈surv p sx l n):t.length=nT p sx∧∀ c∈t,0≤c∧c≤(n:Int):=by
  unfold surv sols at ht
  obtain ⟨t',h1,rfl⟩:=List.mem_map.1 ht
  have:=comps_len (List.mem_filter.1 h1).1
  simpa using this
theorem sFirst_ok {p:List Int} {sx:List Variable} {l:List Published} {n:Int} {Q:List Int→Bool→Prop} (w:WD p sx l) (hq:Q (fsV p sx l n) (fsO p sx l n)):spec_FirstSurvey ⟨p⟩ sx l n Q:=by
  unfold spec_FirstSurvey
  refine aAsked_ok (p:=p) w.p w.s.1 w.s.2 w.b (br_nb (fun g=>?_) (fun g=>?_))
  · have g':askB p sx l n=false:=g
    unfold fsV fsO at hq
    rw [g'] at hq
    simpa using hq
  · have g':askB p sx l n=true:=g
    have gg:=g
    simp only [Bool.and_eq_true] at gg
    have hn:=inb_iff'.1 gg.2
    have en:((n.toNat:Nat):Int)=n:=by omega
    have goal:spec_aSolve ⟨p⟩ sx l ((n.toNat:Nat):Int) ((0:Nat):Int) (fun r22=>br (ln r22==0) (Q [] false) (idx r22 0 fun x36=>Q x36 true)):=by
      refine aSolve_ok (p:=p) (M:=0) gg.1 (by omega) (by omega) ?_
      unfold fsV fsO at hq
      rw [g',if_pos rfl,Bool.true_and] at hq
      cases hs:surv p sx l n.toNat with
      | nil=>rw [hs] at hq; exact br_true rfl hq
      | cons t r=>rw [hs] at hq; exact br_false rfl (idx_at (by simp) (by simpa using hq))
    rw [en] at goal
    exact goal
theorem iFirst_ok {p:List Int} {sx:List Variable} {l:List Published} {n:Int} {Q:List Int→Bool→Prop} (w:WD p sx l) (hq:Q (fsV p sx l n) (fsO p sx l n)):impl_FirstSurvey ⟨p⟩ sx l n Q:=by
  unfold impl_FirstSurvey
  refine jn_bool (!askB p sx l n) ?_ fun k hk=>areAttacked_ok (p:=p) w.p w.s.1 w.b (br_nb (fun g=>?_) (fun g=>isPersons_ok ?_))
  · refine br_nb (fun g=>?_) (fun g'=>?_)
    · unfold fsV fsO at hq
      rw [g] at hq
      simpa using hq
    · have gg:=g'
      unfold askB at gg
      simp only [Bool.and_eq_true] at gg
      have hn:=inb_iff'.1 gg.2
      have en:((n.toNat:Nat):Int)=n:=by omega
      have ⟨a,b,c,d,e⟩:=att_of gg.1
      have hb:=nT_pos a b
      have goal:impl_solutions_impl_FirstSurvey_1 ⟨p⟩ sx l ((n.toNat:Nat):Int) ((1:Nat):Int) [] (fun r47 r48=>Q r48 (!(ln r48==0))):=by
        refine solutions_fs (p:=p) (M:=1) (s:=[]) gg.1 (by omega) (by omega) (by omega) (fun s c=>s++c) (fun found s=>s.length=found * nT p sx) (fun found s cs Q2 h1 h2 h3 h4 h5=>?_) (by simp) fun s' e1 e2=>?_
        · have h0:found=0:=by omega
          subst h0
          have h2:s.length=0:=by simpa using h2
          have h5:=h5 (by simp only [List.length_append]; omega)
          unfold impl_solutions_1_impl_FirstSurvey_1 impl_FirstSurvey_1
          refine ⟨by unfold ln; omega,by unfold ln; simp only [List.length_append]; omega,?_⟩
          rw [wr_in (by omega) (by omega)]
          exact h5
        · unfold fsV fsO at hq
          rw [g',if_pos rfl,Bool.true_and] at hq
          have es:s'=((surv p sx l n.toNat).take 1).foldl (·++·) []:=e1
          rw [← es] at hq
          have:(!(ln s'==0))=!(surv p sx l n.toNat).isEmpty:=by
            cases hs:surv p sx l n.toNat with
            | nil=>rw [hs] at es; subst es; rfl
            | cons t r =>
              have:=(surv_mem (p:=p) (sx:=sx) (l:=l) (n:=n.toNat) (t:=t) (by rw [hs]; exact List.mem_cons_self ..)).1
              rw [hs] at es
              have es:s'=t:=by simpa using es
              subst es
              have h6:(ln s'==0)=false:=by rw [beq_eq_false_iff_ne]; unfold ln; omega
              rw [h6]; rfl
          rw [this]; exact hq
      rw [en] at goal
      exact goal
  · unfold askB at hk; rw [g] at hk; exact hk
  · unfold askB at hk; rw [g,Bool.true_and] at hk; exact hk
end Go.Proofs.YtbgnaamdlcggjaaGreat
