/- For every drawn attack, the counts agree, the first survey agrees and lies within the ranges. -/
import Derived.Test.YtbgnaamdlcggjaaGreatHA
import Derived.Test.YtbgnaamdlcggjaaGreatQHPure
set_option linter.unusedVariables false
set_option autoImplicit false
namespace Go.Proofs.YtbgnaamdlcggjaaGreat
open Go Go.RowKit Go.Gv
theorem drawCount_ok {code:List B8} {Q:Geo→List Variable→List Published→Int→Prop} (hc:bytesOk code) (h:∀ p sx l n,WD p sx l→Q ⟨p⟩ sx l n):spec_DrawCountSurveys code Q:=by
  unfold spec_DrawCountSurveys
  exact attack_ok hc (by omega) fun p sx l n a1 s1 hp w hs p0 p1=>h _ _ _ _ w
theorem drawSafe_ok {code:List B8} {Q:Geo→List Variable→List Published→Int→Int→Prop} (hc:bytesOk code) (h:∀ p sx l n f,WD p sx l→Q ⟨p⟩ sx l n f):spec_DrawIsSafeRelease code Q:=by
  unfold spec_DrawIsSafeRelease
  exact attack_ok hc (by omega) fun p sx l n a1 s1 hp w hs p0 p1=>among_ok hc (by unfold atOk; omega) (by simp) fun v hv a2 s2 q0 q1=>h _ _ _ _ _ w
theorem qInts_same {a:List Int} {Q:Bool→Prop} (hl:a.length≤1048576) (h:Q true):laws_qInts a a Q:=by
  unfold laws_qInts
  refine br_ne (fun c=>(c rfl).elim) fun _=>loop1_list (by omega) (fun _=>True) trivial (fun i nx hi _ hn=>?_) (fun _=>h)
  exact idx_at hi (idx_at hi (br_ne (fun c=>(c rfl).elim) fun _=>hn trivial))
theorem comps_sum:∀ {m l:Nat} {t:List Int},t∈comps m l→t.sum=(l:Int)
  | 0,l,t,h=>by
    unfold comps at h
    split at h
    · rename_i e; rw [List.mem_singleton.1 h,e]; rfl
    · cases h
  | m+1,l,t,h=>by
    unfold comps at h
    obtain ⟨c,hc,ht⟩:=List.mem_flatMap.1 h
    obtain ⟨t',ht',rfl⟩:=List.mem_map.1 ht
    have hc:=List.mem_range.1 hc
    have:=comps_sum ht'
    rw [List.sum_cons,this]; omega
theorem surv_sum {p:List Int} {sx:List Variable} {l:List Published} {n:Nat} {t:List Int} (ht:t∈surv p sx l n):t.sum=(n:Int)∧okR (rules p sx l) t=true:=by
  unfold surv sols at ht
  obtain ⟨t',h1,rfl⟩:=List.mem_map.1 ht
  have ⟨a,b⟩:=List.mem_filter.1 h1
  exact ⟨by simpa using comps_sum a,b⟩
theorem sum_le {l:List Int} (h:Cb l):0≤l.sum∧l.sum≤8 * (l.length:Int):=by
  induction l with
  | nil=>simp
  | cons a l ih =>
    have:=ih fun x hx=>h x (List.mem_cons_of_mem _ hx)
    have:=h a (List.mem_cons_self ..)
    simp only [List.sum_cons,List.length_cons]; omega
theorem qSum_ok {l:List Int} {Q:Int→Prop} (hb:Cb l) (hl:l.length≤1000) (h:Q l.sum):laws_qSum l Q:=by
  unfold laws_qSum
  refine loop2_list (by omega) (fun s i=>s=(l.take i).sum) rfl (fun s i nx hi e hx=>idx_at hi ?_) (fun s e=>by rw [e,List.take_length]; exact h)
  have e2:(l.take (i+1)).sum=(l.take i).sum+l[i]:=by
    rw [List.take_add_one,List.getElem?_eq_getElem hi,List.sum_append]; simp
  have:=sum_le (l:=l.take i) fun x hx=>hb x (List.mem_of_mem_take hx)
  have hlen:(l.take i).length≤1000:=by rw [List.length_take]; omega
  have:=hb _ (List.getElem_mem hi)
  rw [e,wr_in (by omega) (by omega)]
  exact hx _ e2.symm
theorem mn_le (a b:Int):mn a b≤a:=by show (if b<a then b else a)≤a; split <;> omega
theorem mx_ge (a b:Int):a≤mx a b:=by show a≤(if b>a then b else a); split <;> omega
def Btw (t:List Int) (s:St):Prop:=s.1.length=t.length∧s.2.length=t.length∧∀ i (h:i<t.length) (h1:i<s.1.length) (h2:i<s.2.length),s.1[i]≤t[i]∧t[i]≤s.2[i]
theorem btw_fold {t:List Int}:∀ {L:List (List Int)} {s:St},(∀ v∈L,v.length=t.length)→Btw t s→Btw t (L.foldl stp2 s)
  | [],s,_,h=>h
  | v :: L,s,hv,h=>by
    have e:=hv v (List.mem_cons_self ..)
    refine btw_fold (L:=L) (fun x hx=>hv x (List.mem_cons_of_mem _ hx)) ⟨?_,?_,fun i hi h1 h2=>?_⟩
    · show (zmn s.1 v).length=_; rw [zmn_len (by rw [h.1,e]),e]
    · show (zmx s.2 v).length=_; rw [zmx_len (by rw [h.2.1,e]),e]
    · have:=h.2.2 i hi (by rw [h.1]; exact hi) (by rw [h.2.1]; exact hi)
      have e1:(stp2 s v).1[i]=mn (s.1[i]'(by rw [h.1]; exact hi)) (v[i]'(by rw [e]; exact hi)):=List.getElem_zipWith (h:=h1)
      have e2:(stp2 s v).2[i]=mx (s.2[i]'(by rw [h.2.1]; exact hi)) (v[i]'(by rw [e]; exact hi)):=List.getElem_zipWith (h:=h2)
      rw [e1,e2]
      exact ⟨Int.le_trans (mn_le _ _) this.1,Int.le_trans this.2 (mx_ge _ _)⟩
theorem btw_rg {t:List Int} {L:List (List Int)} (h:∀ v∈t :: L,v.length=t.length):Btw t (rg (t :: L)) :=
  btw_fold h ⟨rfl,rfl,fun i _ _ _=>⟨Int.le_refl _,Int.le_refl _⟩⟩
theorem agree_ok {R:List (List Int×Int)} {cs:List Int} {Q:Bool→Prop} (hR:∀ r∈R,Ab r.1∧r.1.length=cs.length) (hl:R.length≤12000) (hc:Cb cs) (hcl:cs.length≤12) (hok:okR R cs=true) (hq:Q true):impl_agree (R.map mkC) cs Q:=by
  unfold impl_agree
  refine loop1_list (by rw [List.length_map]; omega) (fun _=>True) trivial (fun i nx hi _ hx=>idx_at hi ?_) (fun _=>hq)
  have hi':i<R.length:=by rw [List.length_map] at hi; exact hi
  have mem:=List.getElem_mem hi'
  have eR:(R.map mkC)[i]=mkC R[i]:=by rw [List.getElem_map]
  have ⟨ab,al⟩:=hR _ mem
  have od:=of_decide_eq_true (List.all_eq_true.1 hok _ mem)
  rw [eR]
  generalize R[i]=r at ab al od
  refine loop2_list (by omega) (fun s j=>s=dot r.1 (cs.take j)) (by rw [List.take_zero,dot_nil]) (fun s j nx2 hj e hx2=>idx_at hj (idx_at (by show j<r.1.length; omega) ?_)) (fun s e=>?_)
  · have hj2:j<r.1.length:=by omega
    have et:(cs.take j).length=j:=by rw [List.length_take]; omega
    have ed:=dot_snoc (am:=r.1) (pre:=cs.take j) (n:=cs[j]) (by omega)
    have ec:cs.take (j+1)=cs.take j++[cs[j]]:=by rw [List.take_add_one,List.getElem?_eq_getElem hj]; rfl
    have b1:=dot_b (am:=r.1) (cs:=cs.take j) ab fun x hx=>hc x (List.mem_of_mem_take hx)
    have b2:=mul_b (ab _ (List.getElem_mem hj2)) (hc _ (List.getElem_mem hj))
    have e3:r.1[(cs.take j).length]'(by omega)=r.1[j]:=by congr 1
    rw [e3,← ec] at ed
    show nx2 (wr (s+wr (cs[j] * r.1[j]))) _
    rw [Int.mul_comm cs[j],wr_in (x:=r.1[j] * cs[j]) (by omega) (by omega),wr_in (by omega) (by omega)]
    exact hx2 _ (by rw [ed,e])
  · rw [List.take_length] at e
    exact br_ne (fun c=>absurd (e.trans od) c) fun _=>hx trivial
theorem agrees_ok {p:List Int} {sx:List Variable} {l:List Published} {n:Int} {t:List Int} {Q:Bool→Bool→Prop} (w:WD p sx l) (g:askB p sx l n=true) (ht:t∈surv p sx l n.toNat) (hq:Q true true):impl_Agrees ⟨p⟩ sx l t Q:=by
  have ⟨h1,hT,hT2,h4,en⟩:=askB_of g
  have ⟨a,b,c,d,e⟩:=att_of h1
  have ⟨m1,m2⟩:=surv_mem ht
  unfold impl_Agrees
  refine jn_bool false (br_false rfl ?_) fun k hk=>areAttacked_ok (p:=p) w.p w.s.1 w.b (br_false (by rw [h1]; rfl) (typeCount_ok (p:=p) a b (br_false (by unfold ln; rw [m1]; simp) (areWithin_ok (by omega) ?_))))
  · exact conditionsOf_ok (p:=p) a b c d (agree_ok (fun r hr=>by have ⟨x,y⟩:=rules_ab a b d r hr; exact ⟨x,by omega⟩) e (fun x hx=>by have:=m2 x hx; omega) (by omega) (surv_sum ht).2 hq)
  · rw [List.all_eq_true.2 fun x hx=>inb_iff'.2 (by have:=m2 x hx; omega)]; exact hk
theorem lawAttacks (code more:List B8) (w0:Wf.wf code) (w1:Wf.wf more):laws_FnAttacks code more (fun r=>r=true):=by
  have hc:bytesOk code:=w0.2
  have hm:bytesOk more:=w1.2
  unfold laws_FnAttacks
  refine br_bo (fun _=>rfl) fun _=>drawCount_ok hc fun p sx l n w=>iCount2_ok (p:=p) w (sCount2_ok (p:=p) w (drawSafe_ok hm fun p2 sx2 l2 n2 f w2=>iSafe_ok (p:=p2) w2 (sSafe_ok (p:=p2) w2 ?_)))
  refine jn_bool false (br_false rfl ?_) fun k hk=>br_false (by simp) (br_false (by simp) (br_false (by simp) (by rw [bne_self_eq_false]; exact hk)))
  refine jn_ok (fun K=>K) ?_ fun K hK=>br_bo (fun g=>iCount2_ok (p:=p2) w2 (jn_bool false (br_false rfl hK) fun k hk=>br_bo (fun g2=>?_) fun _=>hk)) fun _=>hK
  · refine br_nb (fun _=>rfl) fun g=>?_
    have g':=g
    unfold csB at g'
    simp only [Bool.and_eq_true,decide_eq_true_eq] at g'
    have ⟨ga,gl⟩:=g'
    have ⟨h1,hT,hT2,h4,en⟩:=askB_of ga
    have ecs:csN p sx l n=(surv p sx l n.toNat).length:=by unfold csN; rw [if_pos g']
    refine iFirst_ok (p:=p) w ?_
    cases hs:surv p sx l n.toNat with
    | nil =>
      have e1:fsO p sx l n=false:=by unfold fsO; rw [hs,ga]; rfl
      rw [e1]
      exact br_false (by rw [ecs,hs]; rfl) (br_true rfl rfl)
    | cons t r =>
      have e1:fsO p sx l n=true:=by unfold fsO; rw [hs,ga]; rfl
      have e2:fsV p sx l n=t:=by unfold fsV; rw [if_pos ga,hs]; simp
      have mem:t∈surv p sx l n.toNat:=by rw [hs]; exact List.mem_cons_self ..
      have ⟨m1,m2⟩:=surv_mem mem
      have ho:trO p sx l n=true:=by
        unfold trO; rw [ga,decide_eq_true (by rw [hs,List.length_cons]; omega),decide_eq_true gl]; rfl
      have ev:trV p sx l n=rg (t :: r):=by unfold trV; rw [if_pos ho,hs]
      have bt:Btw t (trV p sx l n):=by
        rw [ev]; exact btw_rg fun v hv=>by rw [m1]; exact (surv_mem (hs ▸ hv)).1
      have tl:=trV_len (p:=p) (sx:=sx) (l:=l) (n:=n)
      rw [e1,e2]
      refine br_false (by rw [ecs,hs,decide_eq_true (by rw [List.length_cons]; omega)]; rfl) (br_false rfl ?_)
      refine sFirst_ok (p:=p) w ?_
      rw [e1,e2]
      refine agrees_ok (p:=p) w ga mem (iRanges_ok (p:=p) w (sRanges_ok (p:=p) w ?_))
      rw [ho]
      refine jn_bool false (br_false rfl ?_) fun k hk=>br_false rfl (qInts_same (by omega) (br_false rfl (br_false rfl (br_false rfl (br_false rfl (br_false rfl (qInts_same (by omega) (br_false rfl (qInts_same (by omega) hk)))))))))
      refine loop1_list (by omega) (fun _=>True) trivial (fun i nx hi _ hx=>idx_at hi ?_) (fun _=>?_)
      · have hb:=bt.2.2 i hi (by rw [bt.1]; exact hi) (by rw [bt.2.1]; exact hi)
        refine jn_bool false (br_false rfl (hx trivial)) fun k hk=>idx_at (by rw [bt.1]; exact hi) (br_no (by omega) (idx_at (by rw [bt.2.1]; exact hi) ?_))
        rw [decide_eq_false (by omega)]; exact hk
      · refine qSum_ok (fun x hx=>by have:=m2 x hx; omega) (by omega) ?_
        rw [(surv_sum mem).1,en]; simp
  · unfold csB at g2
    simp only [Bool.and_eq_true,decide_eq_true_eq] at g2
    have ecs:csN p2 sx2 l2 n2=(surv p2 sx2 l2 n2.toNat).length:=by unfold csN; rw [if_pos g2]
    have e:(saf p2 sx2 l2 n2 f != decide ((csN p2 sx2 l2 n2:Int)≥f))=false:=by
      unfold saf; rw [g,Bool.true_and,ecs]; exact bne_self_eq_false _
    rw [e]; exact hk
end Go.Proofs.YtbgnaamdlcggjaaGreat
