/- Plain facts about geographies: which are valid, depths, levels, leaves, ancestors. -/
import Derived.Test.YtfnmhknnliahoaaGreatDoorPE
set_option linter.unusedVariables false
set_option autoImplicit false
namespace Go.Proofs.YtfnmhknnliahoaaGreatDoor
open Go Go.RowKit Go.Gv
def gOk (p:List Int):Bool:=((decide (1≤p.length)&&decide (p.length≤30))&&decide (gi p 0 = -1))&&(List.range p.length).all fun (i:Nat)=>decide (i=0) || inb 0 ((i:Int)-1) (gi p i)
theorem gOk_of {p:List Int} (h:gOk p=true):(1≤p.length∧p.length≤30)∧gi p 0 = -1∧∀ i,0<i→i<p.length→0≤gi p i∧gi p i<i:=by
  unfold gOk at h
  simp only [Bool.and_eq_true,decide_eq_true_eq] at h
  refine ⟨h.1.1,h.1.2,fun i h0 hi=>?_⟩
  have:=range_all_at h.2 hi
  simp only [Bool.or_eq_true,decide_eq_true_eq] at this
  rcases this with e | e
  · omega
  · have:=inb_iff'.1 e; omega
theorem gGood_ok {p:List Int} {Q:Bool→Prop} (hl:p.length≤1048576) (hq:Q (gOk p)):spec_gGood ⟨p⟩ Q:=by
  unfold spec_gGood
  dsimp only
  refine jn_bool (!((decide (1≤p.length)&&decide (p.length≤30))&&decide (gi p 0 = -1))) ?_ fun k hk=>l1In_ok (br_nb (fun g=>?_) (fun g=>?_))
  · refine br_nb (fun g=>?_) (fun g=>?_)
    · have:gOk p=false:=by unfold gOk; rw [g]; rfl
      rw [this] at hq; exact hq
    · refine loop1_list (by omega) (fun i=>(List.range i).all (fun (i:Nat)=>decide (i=0) || inb 0 ((i:Int)-1) (gi p i))=true) (by simp) (fun i nx hi hj hx=>idx_at hi ?_) (fun hj=>?_)
      · refine jn_bool (!(decide (i=0) || inb 0 ((i:Int)-1) (gi p i))) ?_ fun k hk=>br_dec (fun g2=>?_) (fun g2=>?_)
        · refine br_nb (fun g2=>?_) (fun g2=>hx (range_all_succ hj g2))
          have:gOk p=false:=by unfold gOk; rw [range_all_no hi g2,Bool.and_false]
          rw [this] at hq; exact hq
        · rw [decide_eq_false (by omega:¬ i=0),Bool.false_or] at hk
          rw [wr_in (by omega) (by omega)]
          refine l1In_ok ?_
          rw [gi_at hi] at hk; exact hk
        · rw [decide_eq_true (by omega:i=0)] at hk; exact hk
      · have:gOk p=true:=by unfold gOk; rw [g,hj]; rfl
        rw [this] at hq; exact hq
  · have:(decide (1≤p.length)&&decide (p.length≤30))=false:=by
      rw [← g]; congr 1 <;> (unfold ln; rw [Bool.eq_iff_iff]; simp; try omega)
    rw [this] at hk; exact hk
  · simp only [Bool.and_eq_true,decide_eq_true_eq] at g
    have h1:1≤p.length∧p.length≤30:=by unfold ln at g; omega
    refine idx_at (i:=0) (by omega) ?_
    rw [decide_eq_true h1.1,decide_eq_true h1.2,gi_at (by omega)] at hk
    have e:(p[0] != -1)=!decide (p[0] = -1):=by rw [Bool.eq_iff_iff]; simp
    rw [e]; simpa using hk
theorem IsGeo_ok {p:List Int} {Q:Bool→Prop} (hl:p.length≤1048576) (hq:Q (gOk p)):impl_IsGeo ⟨p⟩ Q:=by
  unfold impl_IsGeo
  dsimp only
  refine jn_bool (!((decide (1≤p.length)&&decide (p.length≤30))&&decide (gi p 0 = -1))) ?_ fun k hk=>br_dec (fun g=>?_) (fun g=>br_dec (fun g2=>?_) (fun g2=>?_))
  · refine br_nb (fun g=>?_) (fun g=>?_)
    · have:gOk p=false:=by unfold gOk; rw [g]; rfl
      rw [this] at hq; exact hq
    · have hg:=g
      simp only [Bool.and_eq_true,decide_eq_true_eq] at hg
      refine ⟨fun x=>∃ i:Nat,x=(i:Int)∧1≤i∧i≤p.length∧(List.range i).all (fun (i:Nat)=>decide (i=0) || inb 0 ((i:Int)-1) (gi p i))=true,fun x=>((p.length:Int)-x).toNat,⟨1,rfl,Nat.le_refl _,hg.1.1,by simp⟩,?_⟩
      rintro x ⟨i,rfl,h1,h2,hj⟩
      refine br_dec (fun g3=>?_) (fun g3=>?_)
      · have hi:i<p.length:=by unfold ln at g3; omega
        have e:(decide (i=0) || inb 0 ((i:Int)-1) (gi p i))=(!decide (p[i]<0)&&!decide (p[i]≥(i:Int))):=by
          rw [gi_at hi,decide_eq_false (by omega:¬ i=0),Bool.false_or]; unfold inb; rw [Bool.eq_iff_iff]; simp; omega
        refine jn_bool (!(decide (i=0) || inb 0 ((i:Int)-1) (gi p i))) ?_ fun k hk=>idx_at hi (br_dec (fun g4=>?_) (fun g4=>idx_at hi ?_))
        · refine br_nb (fun g4=>?_) (fun g4=>?_)
          · have:gOk p=false:=by unfold gOk; rw [range_all_no hi g4,Bool.and_false]
            rw [this] at hq; exact hq
          · rw [wr_in (by omega) (by omega)]
            refine ⟨⟨i+1,by omega,by omega,hi,range_all_succ hj g4⟩,?_⟩
            show ((p.length:Int)-((i:Int)+1)).toNat<((p.length:Int)-(i:Int)).toNat
            omega
        · rw [e,decide_eq_true g4] at hk; exact hk
        · rw [e,decide_eq_false g4,Bool.not_false,Bool.true_and,Bool.not_not] at hk; exact hk
      · have e:i=p.length:=by unfold ln at g3; omega
        subst e
        have:gOk p=true:=by unfold gOk; rw [g,hj]; rfl
        rw [this] at hq; exact hq
  · rw [decide_eq_false (by unfold ln at g; omega:¬ 1≤p.length)] at hk; simpa using hk
  · rw [decide_eq_false (by unfold ln at g2; omega:¬ p.length≤30)] at hk; simpa using hk
  · have h1:1≤p.length∧p.length≤30:=by unfold ln at g g2; omega
    refine idx_at (i:=0) (by omega) ?_
    rw [decide_eq_true h1.1,decide_eq_true h1.2,gi_at (by omega)] at hk
    have e:(p[0] != -1)=!decide (p[0] = -1):=by rw [Bool.eq_iff_iff]; simp
    rw [e]; simpa using hk
def pa (p:List Int) (i:Nat):Nat:=(gi p i).toNat
def depF (p:List Int):Nat→Nat→Nat
  | 0,_=>0
  | n+1,i=>if i=0 then 0 else depF p n (pa p i)+1
def dep (p:List Int) (i:Nat):Nat:=depF p i i
theorem pa_lt {p:List Int} (h:gOk p=true) {i:Nat} (h0:0<i) (hi:i<p.length):pa p i<i:=by
  have:=(gOk_of h).2.2 i h0 hi
  unfold pa; omega
theorem depF_eq {p:List Int} (h:gOk p=true):∀ i n,i≤n→i<p.length→depF p n i=dep p i:=by
  intro i
  induction i using Nat.strongRecOn with
  | _ i ih =>
    intro n hn hi
    cases i with
    | zero=>cases n <;> simp [depF,dep]
    | succ j =>
      cases n with
      | zero=>omega
      | succ m =>
        have hp:=pa_lt h (Nat.succ_pos j) hi
        have e:j+1≠0:=by omega
        unfold dep
        simp only [depF,if_neg e]
        rw [ih _ hp m (by omega) (by omega),ih _ hp j (by omega) (by omega)]
theorem dep_zero {p:List Int}:dep p 0=0:=rfl
theorem dep_succ {p:List Int} (h:gOk p=true) {i:Nat} (h0:0<i) (hi:i<p.length):dep p i=dep p (pa p i)+1:=by
  have hp:=pa_lt h h0 hi
  cases i with
  | zero=>omega
  | succ j =>
    have e:j+1≠0:=by omega
    show depF p (j+1) (j+1)=_
    simp only [depF,if_neg e]
    rw [depF_eq h _ j (by omega) (by omega)]
theorem dep_le {p:List Int} (h:gOk p=true):∀ i,i<p.length→dep p i≤i:=by
  intro i
  induction i using Nat.strongRecOn with
  | _ i ih =>
    intro hi
    by_cases e:i=0
    · subst e; rw [dep_zero]; exact Nat.le_refl _
    · have hp:=pa_lt h (Nat.pos_of_ne_zero e) hi
      rw [dep_succ h (Nat.pos_of_ne_zero e) hi]
      have:=ih _ hp (by omega); omega
theorem pa_at {p:List Int} (h:gOk p=true) {i:Nat} (h0:0<i) (hi:i<p.length):p[i]=(pa p i:Int):=by
  have:=(gOk_of h).2.2 i h0 hi
  unfold pa; rw [← gi_at hi]; omega
theorem gDepth_ok {p:List Int} {i:Nat} {Q:Int→Prop} (h:gOk p=true) (hi:i<p.length) (hq:Q (dep p i:Int)):spec_gDepth ⟨p⟩ (i:Int) Q:=by
  have hlen:=(gOk_of h).1
  have hd:=dep_le h i hi
  unfold spec_gDepth
  dsimp only
  refine ⟨fun x n=>∃ k m:Nat,x=(k:Int)∧n=(m:Int)∧k<p.length∧m+dep p k=dep p i,fun x _=>x.toNat,⟨i,0,rfl,rfl,hi,by omega⟩,?_⟩
  rintro _ _ ⟨k,m,rfl,rfl,hk,hm⟩
  refine idx_at hk (br_dec (fun g=>idx_at hk ?_) (fun g=>?_))
  · have h0:0<k:=by
      apply Nat.pos_of_ne_zero; rintro rfl
      have:=(gOk_of h).2.1
      rw [gi_at hk] at this; omega
    have hp:=pa_lt h h0 hk
    rw [pa_at h h0 hk,wr_in (by omega) (by omega)]
    have:=dep_succ h h0 hk
    refine ⟨⟨pa p k,m+1,rfl,by omega,by omega,by omega⟩,?_⟩
    show ((pa p k:Nat):Int).toNat<((k:Nat):Int).toNat
    omega
  · have h0:k=0:=Classical.byContradiction fun c=>by
      have:=(gOk_of h).2.2 k (by omega) hk
      rw [gi_at hk] at this; omega
    subst h0
    rw [dep_zero] at hm
    have:m=dep p i:=by omega
    subst this; exact hq
theorem depthOf_ok {p:List Int} {i:Nat} {Q:Int→Prop} (h:gOk p=true) (hi:i<p.length) (hq:Q (dep p i:Int)):impl_depthOf ⟨p⟩ (i:Int) Q:=by
  have hlen:=(gOk_of h).1
  have hd:=dep_le h i hi
  unfold impl_depthOf
  dsimp only
  refine ⟨fun x n=>∃ k m:Nat,x=(k:Int)∧n=(m:Int)∧k<p.length∧m+dep p k=dep p i,fun x _=>x.toNat,⟨i,0,rfl,rfl,hi,by omega⟩,?_⟩
  rintro _ _ ⟨k,m,rfl,rfl,hk,hm⟩
  refine br_dec (fun g=>idx_at hk ?_) (fun g=>?_)
  · have h0:0<k:=by omega
    have hp:=pa_lt h h0 hk
    rw [pa_at h h0 hk,wr_in (by omega) (by omega)]
    have:=dep_succ h h0 hk
    refine ⟨⟨pa p k,m+1,rfl,by omega,by omega,by omega⟩,?_⟩
    show ((pa p k:Nat):Int).toNat<((k:Nat):Int).toNat
    omega
  · have h0:k=0:=by omega
    subst h0
    rw [dep_zero] at hm
    have:m=dep p i:=by omega
    subst this; exact hq
def pick (f:Nat→Bool) (n:Nat):List Int:=((List.range n).filter f).map fun (i:Nat)=>(i:Int)
theorem pick_succ {f:Nat→Bool} {n:Nat}:pick f (n+1)=pick f n++if f n then [(n:Int)] else []:=by
  unfold pick
  rw [List.range_succ,List.filter_append,List.map_append,List.filter_cons,List.filter_nil]
  split <;> rfl
theorem pick_len {f:Nat→Bool} {n:Nat}:(pick f n).length≤n:=by
  unfold pick; rw [List.length_map]
  have:=List.length_filter_le f (List.range n)
  rwa [List.length_range] at this
theorem mem_pick {f:Nat→Bool} {n:Nat} {v:Int}:v∈pick f n↔∃ i:Nat,v=(i:Int)∧i<n∧f i=true:=by
  unfold pick
  rw [List.mem_map]
  constructor
  · rintro ⟨i,hi,rfl⟩; have ⟨a,b⟩:=List.mem_filter.1 hi; exact ⟨i,rfl,List.mem_range.1 a,b⟩
  · rintro ⟨i,rfl,a,b⟩; exact ⟨i,List.mem_filter.2 ⟨List.mem_range.2 a,b⟩,rfl⟩
def lev (p:List Int) (l:Int):List Int:=pick (fun i=>decide ((dep p i:Int)=l)) p.length
def hasB (l:List Int) (n:Int):Bool:=l.any fun x=>x==n
def lvs (p:List Int):List Int:=pick (fun i => !hasB p (i:Int)) p.length
theorem gLevel_ok {p:List Int} {l:Int} {Q:List Int→Prop} (h:gOk p=true) (hq:Q (lev p l)):spec_gLevel ⟨p⟩ l Q:=by
  have hlen:=(gOk_of h).1
  unfold spec_gLevel
  dsimp only
  refine loop2_list (by omega) (fun o i=>o=pick (fun i=>decide ((dep p i:Int)=l)) i) rfl (fun o i nx hi ho hx=>?_) (fun o ho=>by rw [ho]; exact hq)
  subst ho
  have hp:=pick_len (f:=fun i=>decide ((dep p i:Int)=l)) (n:=i)
  refine jn_bool _ (hx _ pick_succ.symm) fun k hk=>gDepth_ok h hi (br_eq (fun g=>⟨by unfold ln; simp only [List.length_singleton]; omega,?_⟩) (fun g=>?_))
  · rw [decide_eq_true g,if_pos rfl] at hk; exact hk
  · rw [decide_eq_false g] at hk; simpa using hk
theorem areasAt_ok {p:List Int} {l:Int} {Q:List Int→Prop} (h:gOk p=true) (hq:Q (lev p l)):impl_areasAt ⟨p⟩ l Q:=by
  have hlen:=(gOk_of h).1
  unfold impl_areasAt
  dsimp only
  refine loop2_list (by omega) (fun o i=>o=pick (fun i=>decide ((dep p i:Int)=l)) i) rfl (fun o i nx hi ho hx=>?_) (fun o ho=>by rw [ho]; exact hq)
  subst ho
  have hp:=pick_len (f:=fun i=>decide ((dep p i:Int)=l)) (n:=i)
  refine jn_bool _ (hx _ pick_succ.symm) fun k hk=>depthOf_ok h hi (br_eq (fun g=>⟨by unfold ln; simp only [List.length_singleton]; omega,?_⟩) (fun g=>?_))
  · rw [decide_eq_true g,if_pos rfl] at hk; exact hk
  · rw [decide_eq_false g] at hk; simpa using hk
theorem lany_succ' {α:Type} {p:α→Bool} {l:List α} {i:Nat} (hi:i<l.length):(l.take (i+1)).any p=((l.take i).any p || p l[i]):=by
  rw [List.take_succ_eq_append_getElem hi,List.any_append]; simp
theorem gChildren_ok {p:List Int} {n:Int} {Q:List Int→Prop} (hl:p.length≤1048576) (hq:∀ o:List Int,(o.length=0↔hasB p n=false)→Q o):spec_gChildren ⟨p⟩ n Q:=by
  unfold spec_gChildren
  dsimp only
  refine loop2_list (by omega) (fun o i=>o.length≤i∧(o.length=0↔(p.take i).any (fun x=>x==n)=false)) ⟨by simp,by simp⟩ (fun o i nx hi ⟨hj1,hj2⟩ hx=>?_) (fun o ⟨_,hj⟩=>hq o (by rw [List.take_length] at hj; exact hj))
  refine jn_bool (if p[i]==n then o++[(i:Int)] else o) (hx _ ⟨?_,?_⟩) fun k hk=>idx_at hi (br_bo (fun g=>?_) (fun g=>?_))
  · split
    · simp; omega
    · omega
  · rw [lany_succ' hi]
    cases hb:p[i]==n with
    | true=>simp
    | false=>simpa using hj2
  · rw [g] at hk; exact ⟨by unfold ln; simp; omega,hk⟩
  · rw [g] at hk; exact hk
theorem gLeaves_ok {p:List Int} {Q:List Int→Prop} (h:gOk p=true) (hq:Q (lvs p)):spec_gLeaves ⟨p⟩ Q:=by
  have hlen:=(gOk_of h).1
  unfold spec_gLeaves
  dsimp only
  refine loop2_list (by omega) (fun o i=>o=pick (fun i => !hasB p (i:Int)) i) rfl (fun o i nx hi ho hx=>?_) (fun o ho=>by rw [ho]; exact hq)
  subst ho
  have hp:=pick_len (f:=fun i => !hasB p (i:Int)) (n:=i)
  refine jn_bool _ (hx _ pick_succ.symm) fun k hk=>gChildren_ok (by omega) fun o ho=>br_eq (fun g=>⟨by unfold ln; simp only [List.length_singleton]; omega,?_⟩) (fun g=>?_)
  · have e:=ho.1 (by unfold ln at g; omega)
    rw [e] at hk; exact hk
  · have e:hasB p (i:Int)=true:=by
      cases hb:hasB p (i:Int) with
      | true=>rfl
      | false=>exact absurd (ho.2 hb) (by unfold ln at g; omega)
    rw [e] at hk; simpa using hk
def upN (p:List Int):Nat→Nat→Nat
  | 0,i=>i
  | n+1,i=>upN p n (pa p i)
def up (p:List Int) (i:Nat) (l:Int):Int:=if l<0∨(dep p i:Int)<l then -1 else (upN p (dep p i-l.toNat) i:Int)
theorem upN_ok {p:List Int} (h:gOk p=true):∀ n i,i<p.length→n≤dep p i→upN p n i<p.length∧dep p (upN p n i)=dep p i-n:=by
  intro n
  induction n with
  | zero=>intro i hi _; exact ⟨hi,rfl⟩
  | succ n ih =>
    intro i hi hn
    have h0:0<i:=by
      apply Nat.pos_of_ne_zero; rintro rfl; rw [dep_zero] at hn; omega
    have hp:=pa_lt h h0 hi
    have hs:=dep_succ h h0 hi
    have ⟨a,b⟩:=ih (pa p i) (by omega) (by omega)
    exact ⟨a,by show dep p (upN p n (pa p i))=_; rw [b]; omega⟩
theorem gUp_ok {p:List Int} {i:Nat} {l:Int} {Q:Int→Prop} (h:gOk p=true) (hi:i<p.length) (hq:Q (up p i l)):spec_gUp ⟨p⟩ (i:Int) l Q:=by
  have hlen:=(gOk_of h).1
  have hd:=dep_le h i hi
  unfold spec_gUp
  dsimp only
  refine gDepth_ok h hi (br_dec (fun g=>?_) (fun g=>?_))
  · unfold up at hq; rw [if_pos (.inl g)] at hq; exact hq
  · refine ⟨fun x d=>∃ k m:Nat,x=(k:Int)∧d=(m:Int)∧k<p.length∧dep p k=m∧m≤dep p i∧((dep p i:Int)<l→m=dep p i)∧(l≤(dep p i:Int)→l≤(m:Int))∧upN p (m-l.toNat) k=upN p (dep p i-l.toNat) i,fun x _=>x.toNat,⟨i,dep p i,rfl,rfl,hi,rfl,Nat.le_refl _,fun _=>rfl,fun c=>c,rfl⟩,?_⟩
    rintro _ _ ⟨k,m,rfl,rfl,hk,hkm,hm,hlt,hge,hup⟩
    refine br_dec (fun g2=>idx_at hk ?_) (fun g2=>br_dec (fun g3=>?_) (fun g3=>?_))
    · have h0:0<k:=by
        apply Nat.pos_of_ne_zero; rintro rfl; rw [dep_zero] at hkm; omega
      have hp:=pa_lt h h0 hk
      have hs:=dep_succ h h0 hk
      rw [pa_at h h0 hk,wr_in (by omega) (by omega)]
      have e:m-l.toNat=(m-1-l.toNat)+1:=by omega
      refine ⟨⟨pa p k,m-1,rfl,by omega,by omega,by omega,by omega,fun c=>by omega,fun c=>by omega,?_⟩,?_⟩
      · rw [← hup,e]; rfl
      · show ((pa p k:Nat):Int).toNat<((k:Nat):Int).toNat
        omega
    · unfold up at hq; rw [if_pos (.inr (by omega))] at hq; exact hq
    · unfold up at hq; rw [if_neg (by omega)] at hq
      have e:m-l.toNat=0:=by omega
      rw [e] at hup
      have hup:k=upN p (dep p i-l.toNat) i:=hup
      rw [← hup] at hq; exact hq
end Go.Proofs.YtfnmhknnliahoaaGreatDoor
