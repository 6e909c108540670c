/- The plain law of SiteCells. -/
import Derived.Test.YtbgnaamdlcggjaaGreatSB
set_option linter.unusedVariables false
set_option autoImplicit false
namespace Go.Proofs.YtbgnaamdlcggjaaGreat
open Go Go.RowKit Go.Gv
def stIn (p:List Int) (sx:List Variable) (t:Table) (l:List (List Record)):Bool:=((gOk p&&schOk sx)&&tOk p sx t)&&((decide (2≤l.length)&&decide (l.length≤8))&&l.all (svOk p sx))
def stV (p:List Int) (sx:List Variable) (t:Table) (l:List (List Record)):List (List Int):=if stIn p sx t l=true then l.map (tabF p sx t) else []
structure WS (p:List Int) (sx:List Variable) (t:Table) (l:List (List Record)):Prop where
  p:p.length≤1048576
  s:sx.length≤1048576∧∀ x∈sx,x.Name.size≤1048576
  v:t.Vars.length≤1048576
  w:t.Where.length≤1048576
  l:smRR l
theorem zeSites_ok {p:List Int} {sx:List Variable} {t:Table} {l:List (List Record)} {Q:Bool→Prop} (w:WS p sx t l) (hq:Q (stIn p sx t l)):spec_zeSites ⟨p⟩ sx t l Q:=by
  have hl:=w.l.1
  unfold spec_zeSites
  refine jn_bool (!(((gOk p&&schOk sx)&&tOk p sx t)&&(decide (2≤l.length)&&decide (l.length≤8)))) ?_ fun k hk=>uGood_ok (p:=p) w.p w.s.1 w.s.2 w.v (br_nb (fun g=>?_) (fun g=>l1In_ok ?_))
  · refine br_nb (fun g=>?_) (fun g=>?_)
    · have:stIn p sx t l=false:=by unfold stIn; rw [← Bool.and_assoc,g,Bool.false_and]
      rw [this] at hq; exact hq
    · have gg:=g
      simp only [Bool.and_eq_true] at gg
      refine loop1_list (by omega) (fun i=>(l.take i).all (svOk p sx)=true) (by simp) (fun i nx hi hj hx=>idx_at hi (uSurvey_ok (p:=p) w.p w.s.1 w.s.2 (w.l.2 _ (List.getElem_mem hi)).1 (br_nb (fun g2=>?_) (fun g2=>hx (lallS hi hj ?_))))) (fun hj=>?_)
      · rw [gg.1.1.1,gg.1.1.2,Bool.true_and,Bool.true_and] at g2
        have:stIn p sx t l=false:=by unfold stIn; rw [all_no hi g2,Bool.and_false,Bool.and_false]
        rw [this] at hq; exact hq
      · rw [gg.1.1.1,gg.1.1.2,Bool.true_and,Bool.true_and] at g2; exact g2
      · rw [List.take_length] at hj
        have:stIn p sx t l=true:=by unfold stIn; rw [← Bool.and_assoc,g,hj]; rfl
        rw [this] at hq; exact hq
  · rw [g,Bool.false_and] at hk; exact hk
  · rw [g,Bool.true_and] at hk
    have e:(decide (2≤ln l)&&decide (ln l≤8))=(decide (2≤l.length)&&decide (l.length≤8)):=by unfold ln; rw [Bool.eq_iff_iff]; simp only [Bool.and_eq_true,decide_eq_true_eq]; omega
    rw [e]; exact hk
theorem stIn_of {p:List Int} {sx:List Variable} {t:Table} {l:List (List Record)} (h:stIn p sx t l=true):gOk p=true∧Lok sx∧tOk p sx t=true∧(2≤l.length∧l.length≤8)∧∀ x∈l,svOk p sx x=true:=by
  unfold stIn at h
  simp only [Bool.and_eq_true,decide_eq_true_eq] at h
  exact ⟨h.1.1.1,Lok_of h.1.1.2,h.1.2,h.2.1,fun x hx=>List.all_eq_true.1 h.2.2 x hx⟩
theorem sSites_ok {p:List Int} {sx:List Variable} {t:Table} {l:List (List Record)} {Q:List (List Int)→Bool→Prop} (w:WS p sx t l) (hq:Q (stV p sx t l) (stIn p sx t l)):spec_SiteCells ⟨p⟩ sx t l Q:=by
  unfold spec_SiteCells
  refine zeSites_ok (p:=p) w (br_nb (fun g=>?_) (fun g=>?_))
  · unfold stV at hq; rw [g] at hq; simpa using hq
  · have ⟨a,b,c,d,e⟩:=stIn_of g
    unfold stV at hq; rw [g,if_pos rfl] at hq
    refine loop2_list (by omega) (fun out i=>out=(l.take i).map (tabF p sx t)) rfl ?_ ?_
    · rintro out i nx hi rfl hx
      refine idx_at hi (uTable_ok (p:=p) a b c (e _ (List.getElem_mem hi)) ⟨by unfold ln; simp; omega,hx _ ?_⟩)
      rw [List.take_add_one,List.getElem?_eq_getElem hi,List.map_append]; rfl
    · rintro out rfl
      rw [List.take_of_length_le (Nat.le_refl _)]; exact hq
theorem areTabled_ok {p:List Int} {sx:List Variable} {t:Table} {Q:Bool→Prop} (hp:p.length≤1048576) (hs:sx.length≤1048576) (hv:t.Vars.length≤1048576) (hq:Q ((gOk p&&schOk sx)&&tOk p sx t)):impl_areTabled ⟨p⟩ sx t Q:=by
  unfold impl_areTabled
  refine jn_bool _ hq fun k hk=>IsGeo_ok (p:=p) hp (br_bo (fun g=>IsSchema_ok hs (br_bo (fun g1=>isTable_ok (p:=p) g (Lok_of g1) hv ?_) (fun g1=>?_))) (fun g=>?_))
  · rw [g,g1] at hk; exact hk
  · rw [g,g1] at hk; exact hk
  · rw [g] at hk; exact hk
theorem iSites_ok {p:List Int} {sx:List Variable} {t:Table} {l:List (List Record)} {Q:List (List Int)→Bool→Prop} (w:WS p sx t l) (hq:Q (stV p sx t l) (stIn p sx t l)):impl_SiteCells ⟨p⟩ sx t l Q:=by
  have hl:=w.l.1
  unfold impl_SiteCells impl_siteCells
  refine jn_bool (!(((gOk p&&schOk sx)&&tOk p sx t)&&(decide (2≤l.length)&&decide (l.length≤8)))) ?_ fun k hk=>areTabled_ok (p:=p) w.p w.s.1 w.v (br_nb (fun g=>?_) (fun g=>br_dec (fun g1=>?_) (fun g1=>?_)))
  · refine br_nb (fun g=>?_) (fun g=>?_)
    · have:stIn p sx t l=false:=by unfold stIn; rw [← Bool.and_assoc,g,Bool.false_and]
      unfold stV at hq; rw [this] at hq; simpa using hq
    · have gg:=g
      simp only [Bool.and_eq_true,decide_eq_true_eq] at gg
      have hL:=Lok_of gg.1.1.2
      refine ⟨by unfold ln; omega,by unfold ln; omega,?_⟩
      have en:Int.toNat (ln l)=l.length:=by unfold ln; omega
      rw [en]
      refine loop2_list (by omega) (fun out i=>out.length=l.length∧(l.take i).all (svOk p sx)=true∧out.take i=(l.map (tabF p sx t)).take i) ⟨by simp,by simp,by simp⟩ ?_ ?_
      · rintro out i nx hi ⟨n1,n2,n3⟩ hx
        refine idx_at hi (isSurvey_ok (p:=p) gg.1.1.1 hL (w.l.2 _ (List.getElem_mem hi)).1 (br_nb (fun g2=>?_) (fun g2=>tableOf_ok (p:=p) gg.1.1.1 hL gg.1.2 g2 ⟨by omega,by omega,hx _ ⟨by simpa using n1,lallS hi n2 g2,?_⟩⟩)))
        · have:stIn p sx t l=false:=by unfold stIn; rw [all_no hi g2,Bool.and_false,Bool.and_false]
          unfold stV at hq; rw [this] at hq; simpa using hq
        · exact setDone (by rw [List.length_map]; exact n1) (by rw [List.length_map]; exact hi) n3 (by simp)
      · rintro out ⟨n1,n2,n3⟩
        rw [List.take_length] at n2
        have:stIn p sx t l=true:=by unfold stIn; rw [← Bool.and_assoc,g,n2]; rfl
        unfold stV at hq; rw [this,if_pos rfl] at hq
        have e:out=l.map (tabF p sx t):=by
          rw [List.take_of_length_le (by omega),List.take_of_length_le (by rw [List.length_map]; omega)] at n3; exact n3
        rw [e]; exact hq
  · rw [g,Bool.false_and] at hk; exact hk
  · rw [decide_eq_false (by unfold ln at g1; omega:¬ 2≤l.length),Bool.false_and,Bool.and_false] at hk; exact hk
  · have e:decide (ln l>8)=!(((gOk p&&schOk sx)&&tOk p sx t)&&(decide (2≤l.length)&&decide (l.length≤8))):=by
      rw [g,decide_eq_true (by unfold ln at g1; omega:2≤l.length),Bool.true_and,Bool.true_and,Bool.eq_iff_iff]; unfold ln; simp only [decide_eq_true_eq,Bool.not_eq_true',decide_eq_false_iff_not]; omega
    rw [e]; exact hk
end Go.Proofs.YtbgnaamdlcggjaaGreat
