import Derived.Test.YtbgnaamdlcggjaaGreatPZ
set_option linter.unusedVariables false
set_option autoImplicit false
namespace Go.Proofs.YtbgnaamdlcggjaaGreat
open Go Go.RowKit Go.Gv
section
variable {p:List Int} {sx:List A0}
def mkC(r:List Int×Int):E0:=⟨r.1,r.2⟩
def AJ2(p:List Int)(sx:List A0)(x:Nat)(b:B0)(c:Nat):List Int×Int:=(mv (fB p sx b c) (gB p sx b) (nT p sx) x,gi b.Cells c)
def T8(p:List Int)(sx:List A0)(x:Nat)(b:B0)(L:List Nat):List (List Int×Int):=(L.filter fun c=>decide (0<=gi b.Cells c)).map (AJ2 p sx x b)
theorem AJ4{x:Nat}{b:B0}{j:Nat}:J0 p sx x b j=T8 p sx x b (List.range j):=rfl
theorem AT5{k:Nat}{b:B0}{L:List Nat}(h:∀ c∈L,0<=gi b.Cells c->fB p sx b c k=false):T8 p sx (k+1) b L=T8 p sx k b L:=by
  unfold T8
  refine List.map_congr_left fun c hc=>?_
  have ⟨h1,h2⟩:=List.mem_filter.1 hc
  unfold AJ2
  rw [DE0 (h c h1 (of_decide_eq_true h2))]
theorem CR3{n c:Nat}(h:c<n):∃ R:List Nat,List.range n=List.range c++c :: R/\∀ x∈R,x≠c:=by
  refine ⟨(List.range (n-c-1)).map (fun i=>c+(i+1)),?_,fun x hx=>?_⟩
  · have e:n=c+((n-c-1)+1):=by omega
    conv=>lhs; rw [e]
    rw [List.range_add,List.range_succ_eq_map,List.map_cons,List.map_map]
    rfl
  · obtain ⟨i,_,rfl⟩:=List.mem_map.1 hx; omega
theorem BH9{x:Nat}{b:B0}{L R:List Nat}:T8 p sx x b (L++R)=T8 p sx x b L++T8 p sx x b R:=by unfold T8; rw [List.filter_append,List.map_append]
theorem BT0{x:Nat}{b:B0}{c:Nat}{R:List Nat}(h:0<=gi b.Cells c):T8 p sx x b (c :: R)=AJ2 p sx x b c :: T8 p sx x b R:=by
  unfold T8; rw [List.filter_cons,if_pos (decide_eq_true h)]; rfl
theorem CZ1{x y:Nat}{b:B0}{L:List Nat}:(T8 p sx x b L).length=(T8 p sx y b L).length:=by unfold T8; simp
theorem DL8{k c:Nat}{b:B0}{pre:List (List Int×Int)}(hc:c<b.Cells.length)(h0:0<=gi b.Cells c)(hk:fB p sx b c k=true) :
    ∃ h:pre.length+(J0 p sx 0 b c).length<((pre++J0 p sx k b b.Cells.length).map mkC).length,
      ((pre++J0 p sx k b b.Cells.length).map mkC)[pre.length+(J0 p sx 0 b c).length]=mkC (AJ2 p sx k b c) /\
      ((pre++J0 p sx k b b.Cells.length).map mkC).set (pre.length+(J0 p sx 0 b c).length) (mkC (AJ2 p sx (k+1) b c))=(pre++J0 p sx (k+1) b b.Cells.length).map mkC:=by
  obtain ⟨R,hR,hne⟩:=CR3 hc
  have other:∀ x,x≠c->fB p sx b x k=false:=fun x hx=>by
    unfold fB at hk ⊢
    have:=of_decide_eq_true hk
    exact decide_eq_false (by omega)
  have e1:J0 p sx (k+1) b b.Cells.length=T8 p sx k b (List.range c)++AJ2 p sx (k+1) b c :: T8 p sx k b R:=by
    rw [AJ4,hR,BH9,BT0 h0,AT5 (L:=List.range c) fun x hx _=>other x (by have:=List.mem_range.1 hx; omega),AT5 (L:=R) fun x hx _=>other x (hne x hx)]
  have e0:J0 p sx k b b.Cells.length=T8 p sx k b (List.range c)++AJ2 p sx k b c :: T8 p sx k b R:=by
    rw [AJ4,hR,BH9,BT0 h0]
  have el:(J0 p sx 0 b c).length=(T8 p sx k b (List.range c)).length:=CZ1
  rw [e0,e1,el]
  generalize T8 p sx k b (List.range c)=A
  generalize T8 p sx k b R=B
  have h:pre.length+A.length<((pre++(A++AJ2 p sx k b c :: B)).map mkC).length:=by simp
  refine ⟨h,?_,?_⟩
  · rw [List.getElem_map]
    congr 1
    rw [List.getElem_append_right (by omega),List.getElem_append_right (by omega)]
    simp
  · have es:pre++(A++AJ2 p sx k b c :: B)=(pre++A)++AJ2 p sx k b c :: B:=by rw [List.append_assoc]
    have es2:pre++(A++AJ2 p sx (k+1) b c :: B)=(pre++A)++AJ2 p sx (k+1) b c :: B:=by rw [List.append_assoc]
    rw [es,es2,List.map_append (l₁:=pre++A) (l₂:=AJ2 p sx k b c :: B),List.map_append (l₁:=pre++A) (l₂:=AJ2 p sx (k+1) b c :: B),List.map_cons,List.map_cons,List.set_append_right _ _ (by simp)]
    simp
theorem AM8{l:List B0}{Q:List E0->Prop}(hg:gOk p=true)(hL:Lok sx)(hT:nT p sx<=12)(hl:S2 p sx l=true)(hq:Q ((L1 p sx l).map mkC)):P7 ⟨p⟩ sx l Q:=by
  unfold S2 at hl
  simp only [Bool.and_eq_true,decide_eq_true_eq] at hl
  have hall:=List.all_eq_true.1 hl.1
  unfold P7
  refine AC2 (p:=p) hg hL ?_
  refine F4 (by omega) (fun o i=>o=(L1 p sx (l.take i)).map mkC) (by simp [L1]) (fun o i nx hi ho hx=>C4 hi ?_) (fun o ho=>by rw [List.take_length] at ho; rw [ho]; exact hq)
  subst ho
  have ⟨ht,h600,hcn⟩:=BM9 (hall _ (List.getElem_mem hi))
  have hpre:=BQ2 (p:=p) (sx:=sx) (l:=l.take i) fun b hb=>hall b (List.mem_of_mem_take hb)
  rw [List.length_take] at hpre
  have hlm:(L1 p sx (l.take i)).length<=12000:=by
    have:min i l.length * 600<=20 * 600:=Nat.mul_le_mul_right _ (by omega)
    omega
  have hnext:L1 p sx (l.take i)++J0 p sx (nT p sx) l[i] l[i].Cells.length=L1 p sx (l.take (i+1)):=by
    unfold L1
    rw [List.take_succ_eq_append_getElem hi,List.flatMap_append]
    simp [BP3]
  generalize hpr:L1 p sx (l.take i)=pre at hlm hnext ⊢
  generalize hb:l[i]=b at ht h600 hcn hnext ⊢
  refine ⟨by unfold ln; omega,by unfold ln; omega,?_⟩
  refine BK3 (by omega) (fun o a j=>o=(pre++J0 p sx 0 b j).map mkC/\a.length=b.Cells.length/\∀ c (hc:c<a.length),c<j->a[c]=if 0<=gi b.Cells c then ((pre.length+(J0 p sx 0 b c).length:Nat):Int) else -1) ⟨by simp [J0],by simp,fun c _ h=>by omega⟩ ?_ ?_
  · rintro _ a j nx2 hj ⟨rfl,ha,hat⟩ hx2
    have hrl:=BD2 (p:=p) (sx:=sx) (x:=0) (b:=b) (j:=j)
    refine CR8 ((pre++J0 p sx 0 b (j+1)).map mkC) (a.set j (if 0<=gi b.Cells j then ((pre.length+(J0 p sx 0 b j).length:Nat):Int) else -1)) (hx2 _ _ ⟨rfl,by simpa using ha,fun c hc hcj=>?_⟩) fun k hk=>C4 hj ⟨by omega,by omega,E1 (fun g=>⟨by omega,by simp; omega,by omega,by omega,?_,?_⟩) (fun g=>?_)⟩
    · rw [List.getElem_set]
      split
      · rename_i e; subst e; rfl
      · exact hat c (by simpa using hc) (by omega)
    · unfold ln; rw [List.length_map,List.length_append]; simp only [List.length_singleton]; omega
    · rw [AP3,H9 hj,if_pos (by omega),if_pos (by omega),← List.append_assoc,List.map_append,DJ9] at hk
      rw [Int.toNat_natCast,List.set_set]
      have e:ln ((pre++J0 p sx 0 b j).map mkC)=((pre.length+(J0 p sx 0 b j).length:Nat):Int):=by unfold ln; rw [List.length_map,List.length_append]
      rw [e]
      exact hk
    · rw [AP3,H9 hj,if_neg (by omega),if_neg (by omega),List.append_nil] at hk
      rw [Int.toNat_natCast]; exact hk
  · rintro _ a ⟨rfl,ha,hat⟩
    refine CS7 (n:=(nT p sx:Int)) (by omega) (fun o k=>o=(pre++J0 p sx k b b.Cells.length).map mkC) rfl ?_ ?_
    · rintro _ m nx3 hm rfl hx3
      have hm':m<nT p sx:=by omega
      have ⟨c,har⟩:=cin hg hL ht hm'
      refine D3 ((pre++J0 p sx (m+1) b b.Cells.length).map mkC) (hx3 _ rfl) fun k hk=>DP3 (p:=p) hg hL hm' ⟨(cl p sx b m).1,(cl p sx b m).2,BC7 (p:=p) (t:=b.Table) (r:=AG0 p sx m) c har ⟨rfl,rfl⟩,?_⟩
      -- where it counts
      have hcase:(cl p sx b m).1 = -1∨∃ q:Nat,(cl p sx b m).1=(q:Int)/\q<b.Cells.length:=by
        unfold cl cell
        by_cases h:up p (AG0 p sx m).Area.toNat b.Table.Level<0∨BN3 b.Table.Where (AG0 p sx m).Values=false
        · rw [if_pos h]; exact .inl rfl
        · rw [if_neg h]
          exact .inr ⟨_,rfl,by rw [hcn]; exact (c.lt fun x=>h (.inl x)).2.2⟩
      rcases hcase with h1 | ⟨q,h1,h2⟩
      · rw [h1]
        have hno:∀ x∈List.range b.Cells.length,0<=gi b.Cells x->fB p sx b x m=false:=fun x _ _=>decide_eq_false (by rw [h1]; omega)
        rw [AJ4,AT5 hno,← AJ4] at hk
        exact D3 false (G9 rfl hk) fun k2 hk2=>DG5 (by omega) hk2
      · rw [h1]
        have hq:q<a.length:=by omega
        have haq:=hat q hq h2
        by_cases h0:0<=gi b.Cells q
        · rw [if_pos h0] at haq
          have hfb:fB p sx b q m=true:=decide_eq_true h1
          obtain ⟨w1,w2,w3⟩:=DL8 (p:=p) (sx:=sx) (k:=m) (pre:=pre) h2 h0 hfb
          refine D3 true (S1 rfl (C4 hq ?_)) fun k2 hk2=>BZ2 (by omega) (C4 hq ?_)
          · rw [haq]
            refine C4 w1 ?_
            rw [w2]
            refine ⟨by omega,by show m<(mv _ _ _ _).length; rw [BZ5]; exact hm',?_⟩
            rw [Int.toNat_natCast,Int.toNat_natCast]
            have e:({mkC (AJ2 p sx m b q) with Amounts:=List.set (mkC (AJ2 p sx m b q)).Amounts m (cl p sx b m).2}:E0)=mkC (AJ2 p sx (m+1) b q):=by
              unfold mkC AJ2
              simp only
              congr 1
              exact EA5 hfb
            rw [e,w3]; exact hk
          · rw [haq,decide_eq_true (by omega)]; exact hk2
        · rw [if_neg h0] at haq
          have hno:∀ x∈List.range b.Cells.length,0<=gi b.Cells x->fB p sx b x m=false:=fun x _ hx0=>decide_eq_false (by
            rw [h1]; intro e
            have:q=x:=by omega
            subst this; exact h0 hx0)
          rw [AJ4,AT5 hno,← AJ4] at hk
          refine D3 false (G9 rfl hk) fun k2 hk2=>BZ2 (by omega) (C4 hq ?_)
          rw [haq,decide_eq_false (by omega)]; exact hk2
    · rintro _ m hm rfl
      have e:m=nT p sx:=by omega
      subst e
      rw [hnext]; exact hx _ rfl
end
end Go.Proofs.YtbgnaamdlcggjaaGreat
