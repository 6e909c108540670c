/- The plain law of FederatedCells. -/
import Derived.Test.YtbgnaamdlcggjaaGreatFA
set_option linter.unusedVariables false
set_option autoImplicit false
namespace Go.Proofs.YtbgnaamdlcggjaaGreat
open Go Go.RowKit Go.Gv
theorem iSitesC_ok {p:List Int} {sx:List Variable} {t:Table} {l:List (List Record)} {Q:List (List Int)→Bool→Prop} (w:WS p sx t l) (hq:Q (stV p sx t l) (stIn p sx t l)):impl_siteCells ⟨p⟩ sx t l Q:=by
  have hl:=w.l.1
  unfold impl_siteCells
  refine jn_bool (!(((gOk p&&schOk sx)&&tOk p sx t)&&(decide (2≤l.length)&&decide (l.length≤8)))) ?_ fun k hk=>areTabled_ok (p:=p) w.p w.s.1 w.v (br_nb (fun g=>?_) (fun g=>br_dec (fun g1=>?_) (fun g1=>?_)))
  · refine br_nb (fun g=>?_) (fun g=>?_)
    · have:stIn p sx t l=false:=by unfold stIn; rw [← Bool.and_assoc,g,Bool.false_and]
      unfold stV at hq; rw [this] at hq; simpa using hq
    · have gg:=g
      simp only [Bool.and_eq_true,decide_eq_true_eq] at gg
      have hL:=Lok_of gg.1.1.2
      refine ⟨by unfold ln; omega,by unfold ln; omega,?_⟩
      have en:Int.toNat (ln l)=l.length:=by unfold ln; omega
      rw [en]
      refine loop2_list (by omega) (fun out i=>out.length=l.length∧(l.take i).all (svOk p sx)=true∧out.take i=(l.map (tabF p sx t)).take i) ⟨by simp,by simp,by simp⟩ ?_ ?_
      · rintro out i nx hi ⟨n1,n2,n3⟩ hx
        refine idx_at hi (isSurvey_ok (p:=p) gg.1.1.1 hL (w.l.2 _ (List.getElem_mem hi)).1 (br_nb (fun g2=>?_) (fun g2=>tableOf_ok (p:=p) gg.1.1.1 hL gg.1.2 g2 ⟨by omega,by omega,hx _ ⟨by simpa using n1,lallS hi n2 g2,?_⟩⟩)))
        · have:stIn p sx t l=false:=by unfold stIn; rw [all_no hi g2,Bool.and_false,Bool.and_false]
          unfold stV at hq; rw [this] at hq; simpa using hq
        · exact setDone (by rw [List.length_map]; exact n1) (by rw [List.length_map]; exact hi) n3 (by simp)
      · rintro out ⟨n1,n2,n3⟩
        rw [List.take_length] at n2
        have:stIn p sx t l=true:=by unfold stIn; rw [← Bool.and_assoc,g,n2]; rfl
        unfold stV at hq; rw [this,if_pos rfl] at hq
        have e:out=l.map (tabF p sx t):=by
          rw [List.take_of_length_le (by omega),List.take_of_length_le (by rw [List.length_map]; omega)] at n3; exact n3
        rw [e]; exact hq
  · rw [g,Bool.false_and] at hk; exact hk
  · rw [decide_eq_false (by unfold ln at g1; omega:¬ 2≤l.length),Bool.false_and,Bool.and_false] at hk; exact hk
  · have e:decide (ln l>8)=!(((gOk p&&schOk sx)&&tOk p sx t)&&(decide (2≤l.length)&&decide (l.length≤8))):=by
      rw [g,decide_eq_true (by unfold ln at g1; omega:2≤l.length),Bool.true_and,Bool.true_and,Bool.eq_iff_iff]; unfold ln; simp only [decide_eq_true_eq,Bool.not_eq_true',decide_eq_false_iff_not]; omega
    rw [e]; exact hk
def rmIn (r m:Int):Bool:=inbM 0 1000000 r&&inbM 2 1000000007 m
def fA (p:List Int) (sx:List Variable) (t:Table) (l:List (List Record)) (s:List (List Int)) (r m:Int):Bool:=(stIn p sx t l&&(seedsIn s&&decide (s.length=l.length)))&&rmIn r m
def fIn (p:List Int) (sx:List Variable) (t:Table) (l:List (List Record)) (s:List (List Int)) (r m:Int):Bool:=fA p sx t l s r m&&(stV p sx t l).all (isRes m)
/-- The share of a site. -/
def shr1 (C:List (List Int)) (s:List (List Int)) (r m:Int) (i:Nat):List Int:=cmb 1 m (C.getD i []) (mkOf s (i:Int) r ((C.getD i []).length:Int) m)
def shs (C:List (List Int)) (s:List (List Int)) (r m:Int):List (List Int):=(List.range C.length).map (shr1 C s r m)
def fV (p:List Int) (sx:List Variable) (t:Table) (l:List (List Record)) (s:List (List Int)) (r m:Int):List Int:=if fIn p sx t l s r m=true then smOf m (shs (stV p sx t l) s r m) else []
structure FP (C:List (List Int)) (s:List (List Int)) (r m:Int) (n:Nat):Prop where
  hs:(2≤s.length∧s.length≤8)∧∀ x∈s,x.length=s.length
  c:C.length=s.length
  hm:2≤m∧m≤1000000007
  hn:n≤600
  e:∀ x∈C,x.length=n
theorem fA_of {p:List Int} {sx:List Variable} {t:Table} {l:List (List Record)} {s:List (List Int)} {r m:Int} (h:fA p sx t l s r m=true):FP (stV p sx t l) s r m (cellN p sx t):=by
  unfold fA rmIn at h
  simp only [Bool.and_eq_true,decide_eq_true_eq] at h
  obtain ⟨⟨h1,h2,h3⟩,h4,h5⟩:=h
  have ⟨a,b,c,d,e⟩:=stIn_of h1
  have hv:stV p sx t l=l.map (tabF p sx t):=by unfold stV; rw [if_pos h1]
  refine ⟨seedsIn_of h2,by rw [hv,List.length_map]; exact h3.symm,inb_iff.1 h5,(tOk_b c).2,fun x hx=>?_⟩
  rw [hv] at hx
  obtain ⟨y,hy,rfl⟩:=List.mem_map.1 hx
  exact (tabF_in a b c (e y hy)).1
theorem getD_get {α:Type} {l:List α} {i:Nat} {d:α} (h:i<l.length):l.getD i d=l[i]:=by simp [List.getD_eq_getElem?_getD,h]
theorem shr1_ok {C s:List (List Int)} {r m:Int} {n i:Nat} (f:FP C s r m n) (hi:i<C.length):(shr1 C s r m i).length=n∧resL m (shr1 C s r m i):=by
  have he:=f.e _ (List.getElem_mem hi)
  unfold shr1
  rw [getD_get hi]
  exact ⟨by rw [cmb_length (by rw [mkOf_length]; omega)]; exact he,cmb_res f.hm.1⟩
theorem shs_in {C s:List (List Int)} {r m:Int} {n:Nat} (f:FP C s r m n):shIn m (shs C s r m)=true:=by
  have hl:(shs C s r m).length=C.length:=by unfold shs; rw [List.length_map,List.length_range]
  have hC:=f.c
  have hs:=f.hs.1
  have each:∀ x∈shs C s r m,x.length=n∧resL m x:=fun x hx=>by
    obtain ⟨i,hi,rfl⟩:=List.mem_map.1 hx
    exact shr1_ok f (List.mem_range.1 hi)
  have h0:0<(shs C s r m).length:=by omega
  have hn:shN (shs C s r m)=n:=by
    unfold shN; rw [getD_get h0]; exact (each _ (List.getElem_mem h0)).1
  unfold shIn
  rw [show inbM 2 1000000007 m=true from inb_iff.2 f.hm,decide_eq_true (by omega:1≤(shs C s r m).length∧(shs C s r m).length≤8),Bool.true_and,Bool.true_and,List.all_eq_true]
  intro x hx
  have ⟨h1,h2⟩:=each x hx
  have hn6:=f.hn
  unfold shRow isRes
  rw [hn,h1,decide_eq_true rfl,decide_eq_true (by omega:n≤600),Bool.true_and,Bool.true_and,List.all_eq_true]
  exact fun y hy=>inb_iff.2 (h2 y hy)
theorem isRes_of {m:Int} {l:List Int} (h:isRes m l=true):resL m l:=by
  unfold isRes at h
  simp only [Bool.and_eq_true] at h
  exact inb_allM h.2
section
variable {p:List Int} {sx:List Variable} {t:Table} {l:List (List Record)} {s:List (List Int)} {r m:Int} {Q:List Int→Bool→Prop}
theorem fV_no (h:fIn p sx t l s r m=false) (hq:Q (fV p sx t l s r m) (fIn p sx t l s r m)):Q [] false:=by
  unfold fV at hq; rw [h,if_neg (by decide)] at hq; exact hq
theorem sFed_ok (w:WS p sx t l) (hs:small s) (hq:Q (fV p sx t l s r m) (fIn p sx t l s r m)):spec_FederatedCells ⟨p⟩ sx t l s r m Q:=by
  unfold spec_FederatedCells
  refine sSites_ok (p:=p) (t:=t) w (jn_bool (!fA p sx t l s r m) ?_ fun k hk=>br_nb (fun g=>?_) (fun g=>zeSeeds_ok hs (br_nb (fun g1=>?_) (fun g1=>br_ne (fun g2=>?_) (fun g2=>zeRound_ok ?_)))))
  · refine br_nb (fun g=>fV_no (by unfold fIn; rw [g,Bool.false_and]) hq) (fun g=>?_)
    have f:=fA_of g
    have hC:=f.c
    have hs8:=f.hs.1
    have hin:=shs_in f
    have hfin:fIn p sx t l s r m=(stV p sx t l).all (isRes m):=by unfold fIn; rw [g,Bool.true_and]
    unfold fV at hq
    rw [hfin] at hq
    generalize stV p sx t l=C at f hC hin hq
    refine loop2_list (by omega) (fun out i=>out=(List.range i).map (shr1 C s r m)∧(C.take i).all (isRes m)=true) ⟨rfl,by simp⟩ ?_ ?_
    · rintro out i nx hi ⟨rfl,hall⟩ hx
      have he:=f.e _ (List.getElem_mem hi)
      have hn6:=f.hn
      refine idx_at hi (zeValues_ok f.hm (br_nb (fun g3=>?_) (fun g3=>?_)))
      · rw [all_no hi g3] at hq; simpa using hq
      · unfold spec_zeShare
        refine zeMaskOf_ok ⟨hs8.2,f.hs.2⟩ ⟨by omega,by omega⟩ ⟨by unfold ln; omega,by unfold ln; omega⟩ f.hm (zeAdd_ok f.hm (.inl rfl) (by omega) (by rw [mkOf_length]; unfold ln; omega) (isRes_of g3) (mkOf_res f.hm.1) ⟨by unfold ln; simp; omega,hx _ ⟨?_,lallS hi hall g3⟩⟩)
        rw [List.range_succ,List.map_append]
        simp only [List.map_cons,List.map_nil]
        congr 2
        unfold shr1
        rw [getD_get hi]
    · rintro out ⟨rfl,hall⟩
      rw [List.take_length] at hall
      rw [hall,if_pos rfl] at hq
      exact zeSum_ok hin hq
  · unfold fA at hk; rw [g] at hk; exact hk
  · unfold fA at hk; rw [g,g1] at hk; exact hk
  · unfold fA at hk; rw [g,g1,decide_eq_false (by unfold ln at g2; omega)] at hk; exact hk
  · unfold fA at hk; rw [g,g1,decide_eq_true (by unfold ln at g2; omega),Bool.true_and,Bool.true_and,Bool.true_and] at hk
    rw [show inbM 0 600 0=true by decide,Bool.true_and]
    exact hk
theorem iFed_ok (w:WS p sx t l) (hq:Q (fV p sx t l s r m) (fIn p sx t l s r m)):impl_FederatedCells ⟨p⟩ sx t l s r m Q:=by
  unfold impl_FederatedCells
  refine iSitesC_ok (p:=p) (t:=t) w (jn_bool (!fA p sx t l s r m) ?_ fun k hk=>br_nb (fun g=>?_) (fun g=>areSeedRows_ok (br_nb (fun g1=>?_) (fun g1=>br_ne (fun g2=>?_) (fun g2=>isRound_ok (br_nb (fun g3=>?_) (fun g3=>isModulus_ok ?_)))))))
  · refine br_nb (fun g=>fV_no (by unfold fIn; rw [g,Bool.false_and]) hq) (fun g=>?_)
    have f:=fA_of g
    have hC:=f.c
    have hs8:=f.hs.1
    have hin:=shs_in f
    have hfin:fIn p sx t l s r m=(stV p sx t l).all (isRes m):=by unfold fIn; rw [g,Bool.true_and]
    unfold fV at hq
    rw [hfin] at hq
    generalize stV p sx t l=C at f hC hin hq
    refine ⟨by unfold ln; omega,by unfold ln; omega,?_⟩
    have en:Int.toNat (ln C)=C.length:=by unfold ln; omega
    rw [en]
    have hsl:(shs C s r m).length=C.length:=by unfold shs; rw [List.length_map,List.length_range]
    refine loop2_list (by omega) (fun out i=>out.length=C.length∧out.take i=(shs C s r m).take i∧(C.take i).all (isRes m)=true) ⟨by simp,by simp,by simp⟩ ?_ ?_
    · rintro out i nx hi ⟨n1,n2,hall⟩ hx
      have he:=f.e _ (List.getElem_mem hi)
      have hn6:=f.hn
      refine idx_at hi (areResidues_ok f.hm (br_nb (fun g3=>?_) (fun g3=>?_)))
      · rw [all_no hi g3] at hq; simpa using hq
      · unfold impl_shareOf
        refine maskOf_ok ⟨hs8.2,f.hs.2⟩ ⟨by omega,by omega⟩ ⟨by unfold ln; omega,by unfold ln; omega⟩ f.hm (combine_ok f.hm (.inl rfl) (by rw [mkOf_length]; unfold ln; omega) (by rw [mkOf_length]; unfold ln; omega) (mkOf_res f.hm.1) (isRes_of g3) ⟨by omega,by omega,hx _ ⟨by simpa using n1,?_,lallS hi hall g3⟩⟩)
        refine setDone (by omega) (by omega) n2 ?_
        unfold shs
        rw [List.getElem_map,List.getElem_range]
        unfold shr1
        rw [getD_get hi,cmb_comm]
    · rintro out ⟨n1,n2,hall⟩
      rw [List.take_length] at hall
      rw [hall,if_pos rfl] at hq
      have e:out=shs C s r m:=by
        rw [List.take_of_length_le (by omega),List.take_of_length_le (by omega)] at n2; exact n2
      rw [e]
      exact sumOfShares_ok hin hq
  · unfold fA at hk; rw [g] at hk; exact hk
  · unfold fA at hk; rw [g,g1] at hk; exact hk
  · unfold fA at hk; rw [g,g1,decide_eq_false (by unfold ln at g2; omega)] at hk; exact hk
  · unfold fA rmIn at hk; rw [show inbM 0 1000000 r=false from g3,Bool.false_and,Bool.and_false] at hk; exact hk
  · unfold fA rmIn at hk; rw [g,g1,decide_eq_true (by unfold ln at g2; omega),show inbM 0 1000000 r=true from g3,Bool.true_and,Bool.true_and,Bool.true_and,Bool.true_and] at hk
    exact hk
theorem fV_len:(fV p sx t l s r m).length≤600:=by
  unfold fV
  split
  · rename_i h
    unfold fIn at h
    simp only [Bool.and_eq_true] at h
    have f:=fA_of h.1
    have hin:=shs_in f
    rw [(smOf_in hin).1]
    exact (shIn_of hin).2.2.1
  · simp
end
end Go.Proofs.YtbgnaamdlcggjaaGreat
