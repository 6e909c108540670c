/- Types by their index, and counts of types. -/
import Derived.Test.YtdgfkenlkpmlgaaGreatHA
set_option linter.unusedVariables false
set_option autoImplicit false
namespace Go.Proofs.YtdgfkenlkpmlgaaGreat
open Go Go.RowKit Go.Gv
theorem ix_vals:∀ {r:List Variable} (a m:Nat),ixN a r (vals r m)=a * cnt r+m % cnt r
  | [],a,m=>by simp [ixN,cnt,Nat.mod_one]
  | x :: r,a,m=>by
    show ixN (a * lv x+((m / cnt r % lv x:Nat):Int).toNat) r (vals r m)=a * (lv x * cnt r)+m % (lv x * cnt r)
    rw [Int.toNat_natCast,ix_vals,Nat.mul_comm (lv x) (cnt r),Nat.mod_mul,Nat.add_mul,Nat.mul_comm (cnt r) (m / cnt r % lv x),Nat.mul_assoc,Nat.mul_comm (lv x) (cnt r)]
    omega
def taB (p:List Int) (sx:List Variable) (i:Int):Bool:=tyOk p sx&&(decide (0≤i)&&decide (i<(nT p sx:Int)))
theorem taB_of {p:List Int} {sx:List Variable} {i:Int} (h:taB p sx i=true):∃ k:Nat,i=(k:Int)∧k<nT p sx∧tyOk p sx=true:=by
  unfold taB at h
  simp only [Bool.and_eq_true,decide_eq_true_eq] at h
  exact ⟨i.toNat,by omega,by omega,h.1⟩
theorem implType_ok {p:List Int} {sx:List Variable} {i:Int} {Q:Int→List Int→Bool→Prop} (hp:p.length≤1048576) (hs:sdOk sx) (h0:taB p sx i=false→Q 0 [] false)
    (h1:∀ k:Nat,i=(k:Int)→k<nT p sx→tyOk p sx=true→Q (recAt p sx k).Area (recAt p sx k).Values true):impl_TypeAt ⟨p⟩ sx i Q:=by
  unfold impl_TypeAt
  have ⟨w1,w2⟩:=hs.wide
  refine jn_bool (!taB p sx i) (br_nb (fun g=>h0 g) fun g=>?_) fun k hk=>areTyped_ok (p:=p) hp w1 (br_nb (fun g=>?_) fun g=>br_dec (fun c=>?_) fun c=>?_)
  · obtain ⟨k,rfl,hk,ht⟩:=taB_of g
    have ⟨a,_,b,_⟩:=tyOk_of ht
    exact typeAt_ok (p:=p) a b hk (h1 k rfl hk ht)
  · unfold taB at hk; rw [g] at hk; exact hk
  · unfold taB at hk; rw [decide_eq_false (by omega),Bool.false_and,Bool.and_false] at hk; exact hk
  · have ⟨a,_,b,_⟩:=tyOk_of g
    refine typeCount_ok (p:=p) a b ?_
    have e:decide (i≥(nT p sx:Int))=!taB p sx i:=by
      unfold taB; rw [g,decide_eq_true (by omega:0≤i),Bool.true_and,Bool.true_and,Bool.eq_iff_iff]; simp only [decide_eq_true_eq,Bool.not_eq_true',decide_eq_false_iff_not]; omega
    rw [e]; exact hk
theorem specType_ok {p:List Int} {sx:List Variable} {i:Int} {Q:Int→List Int→Bool→Prop} (hp:p.length≤1048576) (hs:sdOk sx) (h0:taB p sx i=false→Q 0 [] false)
    (h1:∀ k:Nat,i=(k:Int)→k<nT p sx→tyOk p sx=true→Q (recAt p sx k).Area (recAt p sx k).Values true):spec_TypeAt ⟨p⟩ sx i Q:=by
  unfold spec_TypeAt
  have ⟨w1,w2⟩:=hs.wide
  refine jn_bool (!taB p sx i) (br_nb (fun g=>h0 g) fun g=>?_) fun k hk=>aGood_ok (p:=p) hp w1 w2 (br_nb (fun g=>?_) fun g=>?_)
  · obtain ⟨k,rfl,hk,ht⟩:=taB_of g
    have ⟨a,_,b,_⟩:=tyOk_of ht
    exact aRecord_ok (p:=p) a b hk (h1 k rfl hk ht)
  · unfold taB at hk; rw [g] at hk; exact hk
  · have ⟨a,_,b,hT⟩:=tyOk_of g
    refine aTypes_ok (p:=p) a b (l1In_ok ?_)
    rw [wr_in (x:=(nT p sx:Int)-1) (by omega) (by omega)]
    have e:(!(decide (0≤i)&&decide (i≤(nT p sx:Int)-1)))=!taB p sx i:=by
      unfold taB; rw [g,Bool.true_and]; congr 2; rw [Bool.eq_iff_iff]; simp only [decide_eq_true_eq]; omega
    rw [e]; exact hk
/-- The counts of one record: one at its type. -/
def onT (n k:Nat):List Int:=(List.replicate n (0:Int)).set k 1
theorem typeRec_sv {p:List Int} {sx:List Variable} {k:Nat} (h:tyOk p sx=true) (hk:k<nT p sx):svOk p sx [recAt p sx k]=true:=by
  have ⟨a,_,hL,_⟩:=tyOk_of h
  have ⟨h1,h2⟩:=recAt_div hL hk
  have hf:=vals_fit hL (k % cnt sx)
  obtain ⟨i,ei,hi⟩:=recAt_area hL hk
  have hpl:=gOk_len a
  have hfit:fitOk sx (recAt p sx k).Values=true:=by
    unfold fitOk
    simp only [Bool.and_eq_true,decide_eq_true_eq,List.all_eq_true,List.mem_range]
    refine ⟨hf.1,fun j hj=>inb_iff'.2 ?_⟩
    have:=hf.2 j hj
    have e:=lv_at hL hj
    rw [vAt_at hj] at this ⊢
    show 0≤gi (vals sx (k % cnt sx)) j∧gi (vals sx (k % cnt sx)) j≤_
    omega
  have hleaf:hasB (lvs p) (recAt p sx k).Area=true:=by
    unfold hasB recAt
    refine List.any_eq_true.2 ⟨(lvs p)[k / cnt sx],List.getElem_mem h1,?_⟩
    rw [gi_at h1]; simp
  have harea:inb 0 29 (recAt p sx k).Area=true:=inb_iff'.2 (by rw [ei]; omega)
  have hhouse:inb 0 999 (recAt p sx k).House=true:=inb_iff'.2 (by show 0≤(0:Int)∧(0:Int)≤999; omega)
  unfold svOk dOk recOk
  simp only [List.all_cons,List.all_nil,Bool.and_true,hfit,hleaf,harea,hhouse,List.length_singleton]
  rfl
theorem typeCounts_ok {p:List Int} {sx:List Variable} {k:Nat} {Q:List Int→Bool→Prop} (hp:p.length≤1048576) (hs:sdOk sx) (h:tyOk p sx=true) (hk:k<nT p sx) (hq:Q (onT (nT p sx) k) true):impl_TypeCounts ⟨p⟩ sx [recAt p sx k] Q:=by
  unfold impl_TypeCounts
  have ⟨w1,w2⟩:=hs.wide
  have ⟨a,_,hL,hT⟩:=tyOk_of h
  have ⟨h1,h2⟩:=recAt_div hL hk
  have hc:=cnt_small' hL
  have hpl:=lvs_len a
  have hsv:=typeRec_sv h hk
  refine jn_bool false (br_false rfl ?_) fun k2 hk2=>areTyped_ok (p:=p) hp w1 (br_false (by rw [h]; rfl) (isSurvey_ok (p:=p) a hL (by simp) (by rw [hsv]; exact hk2)))
  refine typeCount_ok (p:=p) a hL ⟨by omega,by omega,combinations_ok hL ?_⟩
  rw [Int.toNat_natCast]
  refine loop2_list (xs:=[recAt p sx k]) (by simp) (fun cs i=>cs=if i=0 then List.replicate (nT p sx) (0:Int) else onT (nT p sx) k) (by simp) (fun cs i nx hi e hn=>?_) (fun cs e=>?_)
  · have hi0:i=0:=by simp at hi; omega
    subst hi0
    rw [if_pos rfl] at e
    subst e
    refine idx_at (by simp) (leavesOf_ok (p:=p) a ?_)
    show Loop2 _ (List.replicate (nT p sx) (0:Int)) 0
    refine loop2_list (xs:=lvs p) (by omega) (fun cs j=>cs=if j≤k / cnt sx then List.replicate (nT p sx) (0:Int) else onT (nT p sx) k) (by rw [if_pos (Nat.zero_le _)]) (fun cs j nx2 hj e2 hn2=>?_) (fun cs e2=>hn _ (by rw [e2,if_neg (by omega),if_neg (by omega)]))
    have area:(recAt p sx k).Area=(lvs p)[k / cnt sx]:=gi_at h1
    refine jn_ok (fun K=>K (if j+1≤k / cnt sx then List.replicate (nT p sx) (0:Int) else onT (nT p sx) k)) (hn2 _ rfl) fun K hK=>idx_at hj (br_eq (fun c=>?_) (fun c=>?_))
    · have srt:Srt (lvs p):=pick_srt _
      have c':(lvs p)[j]=(recAt p sx k).Area:=c
      have ej:j=k / cnt sx:=srt.uniq hj h1 (c'.trans area)
      subst ej
      rw [if_pos (Nat.le_refl _)] at e2
      subst e2
      have hix:ixN 0 sx (vals sx (k % cnt sx))=k % cnt sx:=by rw [ix_vals,Nat.zero_mul,Nat.zero_add,Nat.mod_mod]
      refine indexOfValues_ok (vs:=vals sx (k % cnt sx)) hL (vals_fit hL (k % cnt sx)) ?_
      rw [hix]
      have hkk:k / cnt sx * cnt sx+k % cnt sx=k:=by rw [Nat.mul_comm]; exact Nat.div_add_mod k (cnt sx)
      have ew:=cel_wr (a:=k / cnt sx) (b:=cnt sx) (c:=k % cnt sx) (n:=nT p sx) (by rw [hkk]; exact hk) (by omega)
      rw [ew,hkk]
      refine idx_at (by simp; exact hk) ⟨by omega,by rw [Int.toNat_natCast]; simp; exact hk,?_⟩
      rw [Int.toNat_natCast,List.getElem_replicate]
      rw [if_neg (by omega)] at hK
      exact hK
    · have ne:j≠k / cnt sx:=fun e=>by subst e; exact c area.symm
      rw [e2]
      by_cases hlt:j≤k / cnt sx
      · rw [if_pos hlt]; rw [if_pos (by omega)] at hK; exact hK
      · rw [if_neg hlt]; rw [if_neg (by omega)] at hK; exact hK
  · rw [e,if_neg (by simp)]; exact hq
theorem onT_at {n k j:Nat} (h:j<(onT n k).length):(onT n k)[j]=if j=k then 1 else 0:=by
  unfold onT at h ⊢
  rw [List.getElem_set]
  by_cases e:k=j
  · rw [if_pos e,if_pos e.symm]
  · rw [if_neg e,if_neg (fun c=>e c.symm),List.getElem_replicate]
theorem qSum_on {n k:Nat} {Q:Int→Prop} (hn:n≤1000) (hk:k<n) (h:Q 1):laws_qSum (onT n k) Q:=by
  unfold laws_qSum
  have hl:(onT n k).length=n:=by unfold onT; simp
  refine loop2_list (by omega) (fun s i=>s=if i≤k then 0 else 1) (by rw [if_pos (Nat.zero_le _)]) (fun s i nx hi e hx=>idx_at hi ?_) (fun s e=>by rw [e,if_neg (by omega)]; exact h)
  rw [onT_at hi,e]
  by_cases c:i=k
  · subst c; rw [if_pos (Nat.le_refl _),if_pos rfl,wr_in (by omega) (by omega)]; exact hx _ (by rw [if_neg (by omega)]; rfl)
  · rw [if_neg c]
    by_cases d:i≤k
    · rw [if_pos d,wr_in (by omega) (by omega)]; exact hx _ (by rw [if_pos (by omega)]; rfl)
    · rw [if_neg d,wr_in (by omega) (by omega)]; exact hx _ (by rw [if_neg (by omega)]; rfl)
theorem qInts_same {a:List Int} {Q:Bool→Prop} (hl:a.length≤1048576) (h:Q true):laws_qInts a a Q:=by
  unfold laws_qInts
  refine br_ne (fun c=>(c rfl).elim) fun _=>loop1_list (by omega) (fun _=>True) trivial (fun i nx hi _ hn=>?_) (fun _=>h)
  exact idx_at hi (idx_at hi (br_ne (fun c=>(c rfl).elim) fun _=>hn trivial))
/-- An answer's range: the least is at most the greatest, and none is negative. -/
theorem fold_le {am:List Int}:∀ (L:List (List Int)) (s:Int×Int),(∀ t∈L,0≤dot am t)→0≤s.1→s.1≤s.2→0≤(L.foldl (dstp am) s).1∧(L.foldl (dstp am) s).1≤(L.foldl (dstp am) s).2
  | [],s,_,h0,h1=>⟨h0,h1⟩
  | t :: L,s,h,h0,h1=>by
    have ht:=h t (by simp)
    refine fold_le L (dstp am s t) (fun u hu=>h u (by simp [hu])) ?_ ?_
    · show 0≤mn s.1 (dot am t); unfold mn; split <;> omega
    · show mn s.1 (dot am t)≤mx s.2 (dot am t); unfold mn mx; split <;> split <;> omega
theorem rd_le {am:List Int} {L:List (List Int)} (h:∀ t∈L,0≤dot am t):0≤(rd am L).1∧(rd am L).1≤(rd am L).2:=by
  cases L with
  | nil=>exact ⟨Int.le_refl _,Int.le_refl _⟩
  | cons t L=>exact fold_le (t :: L) _ h (h t (by simp)) (Int.le_refl _)
theorem arV_le {p:List Int} {sx:List Variable} {l:List Published} {n i:Int} {t:Table} (h:arO p sx l n t i=true):0≤(arV p sx l n t i).1∧(arV p sx l n t i).1≤(arV p sx l n t i).2:=by
  unfold arV; rw [if_pos h]
  unfold arO at h
  simp only [Bool.and_eq_true] at h
  have ⟨g,h1,h2⟩:=trO_of h.1
  have ⟨hat,hT,hT2,h8,_⟩:=askB_of g
  have ⟨a,b,c,d,e⟩:=att_of hat
  have hr:=h.2
  unfold arI at hr
  simp only [Bool.and_eq_true] at hr
  exact rd_le fun u hu=>(dot_b (amT_ab a b hr.1) (surv_cb h8 hu)).1
end Go.Proofs.YtdgfkenlkpmlgaaGreat
