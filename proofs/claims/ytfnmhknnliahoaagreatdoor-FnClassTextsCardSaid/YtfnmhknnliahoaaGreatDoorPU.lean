/- Plain facts about tables: which are valid, how many cells they have. -/
import Derived.Test.YtfnmhknnliahoaaGreatDoorPT
set_option linter.unusedVariables false
set_option autoImplicit false
namespace Go.Proofs.YtfnmhknnliahoaaGreatDoor
open Go Go.RowKit Go.Gv
def risOk (n:Nat) (l:List Int):Bool:=(List.range l.length).all fun i=>inb 0 ((n:Int)-1) (gi l i)&&(decide (i=0) || decide (gi l (i-1)<gi l i))
theorem rising_ok {n:Nat} {l:List Int} {Q:Bool→Prop} (hl:l.length≤1048576) (hn:n≤1048576) (hq:Q (risOk n l)):spec_l1Rising l 0 (wr ((n:Int)-1)) Q:=by
  unfold spec_l1Rising
  rw [wr_in (by omega) (by omega)]
  refine loop1_list (by omega) (fun i=>(List.range i).all (fun i=>inb 0 ((n:Int)-1) (gi l i)&&(decide (i=0) || decide (gi l (i-1)<gi l i)))=true) (by simp) (fun i nx hi hj hx=>idx_at hi ?_) (fun hj=>?_)
  · refine jn_bool (!(inb 0 ((n:Int)-1) (gi l i)&&(decide (i=0) || decide (gi l (i-1)<gi l i)))) ?_ fun k hk=>l1In_ok (br_nb (fun g=>?_) (fun g=>br_dec (fun g2=>?_) (fun g2=>?_)))
    · refine br_nb (fun g=>?_) (fun g=>hx (range_all_succ hj g))
      have:risOk n l=false:=range_all_no hi g
      rw [this] at hq; exact hq
    · have:inb 0 ((n:Int)-1) (gi l i)=false:=by rw [gi_at hi]; exact g
      rw [this] at hk; exact hk
    · have:inb 0 ((n:Int)-1) (gi l i)=true:=by rw [gi_at hi]; exact g
      rw [this,decide_eq_false (by omega:¬ i=0),Bool.true_and,Bool.false_or] at hk
      rw [wr_in (by omega) (by omega),show (i:Int)-1=((i-1:Nat):Int) by omega]
      refine idx_at (by omega) ?_
      rw [gi_at hi,gi_at (show i-1<l.length by omega),← decide_not] at hk
      have e:decide (l[i-1]≥l[i])=decide (¬ l[i-1]<l[i]):=by congr 1; simp
      rw [e]; exact hk
    · have:inb 0 ((n:Int)-1) (gi l i)=true:=by rw [gi_at hi]; exact g
      have e:i=0:=by omega
      rw [this,decide_eq_true e] at hk; exact hk
  · have:risOk n l=true:=hj
    rw [this] at hq; exact hq
theorem areVars_ok {sx:List Variable} {l:List Int} {Q:Bool→Prop} (hl:l.length≤1048576) (hn:sx.length≤1048576) (hq:Q (risOk sx.length l)):impl_areVars sx l Q:=by
  unfold impl_areVars
  refine loop2_list (by omega) (fun last i=>(List.range i).all (fun i=>inb 0 ((sx.length:Int)-1) (gi l i)&&(decide (i=0) || decide (gi l (i-1)<gi l i)))=true∧last=if i=0 then -1 else gi l (i-1)) ⟨by simp,by simp⟩ (fun last i nx hi ⟨hj,hj2⟩ hx=>idx_at hi ?_) (fun last ⟨hj,_⟩=>?_)
  · refine jn_bool (!(inb 0 ((sx.length:Int)-1) (gi l i)&&(decide (i=0) || decide (gi l (i-1)<gi l i)))) ?_ fun k hk=>?_
    · refine br_nb (fun g=>?_) (fun g=>hx _ ⟨range_all_succ hj g,by rw [if_neg (by omega),Nat.add_sub_cancel,gi_at hi]⟩)
      have:risOk sx.length l=false:=range_all_no hi g
      rw [this] at hq; exact hq
    · have key:(inb 0 ((sx.length:Int)-1) (gi l i)&&(decide (i=0) || decide (gi l (i-1)<gi l i)))=(!decide (l[i]≤last)&&!decide (l[i]≥ln sx)):=by
        rw [gi_at hi,hj2]
        by_cases e:i=0
        · subst e
          rw [if_pos rfl]; unfold inb ln
          rw [Bool.eq_iff_iff]; simp; omega
        · rw [if_neg e,decide_eq_false e]
          have hb:=range_all_at hj (show i-1<i by omega)
          rw [gi_at (show i-1<l.length by omega)] at hb ⊢
          simp only [Bool.and_eq_true,inb_iff'] at hb
          unfold inb ln
          rw [Bool.eq_iff_iff]; simp; omega
      rw [key] at hk
      refine br_dec (fun g=>?_) (fun g=>?_)
      · rw [decide_eq_true g] at hk; exact hk
      · rw [decide_eq_false g,Bool.not_false,Bool.true_and,Bool.not_not] at hk; exact hk
  · have:risOk sx.length l=true:=hj
    rw [this] at hq; exact hq
def whOk (sx:List Variable) (w:List Int):Bool:=decide (w.length=sx.length)&&(List.range sx.length).all fun i=>inb 0 (full (vAt sx i)) (gi w i)
theorem uWhere_ok {sx:List Variable} {w:List Int} {Q:Bool→Prop} (h:Lok sx) (hq:Q (whOk sx w)):spec_uWhere sx w Q:=by
  have h0:=h.1
  unfold spec_uWhere
  refine br_ne (fun g=>?_) (fun g=>?_)
  · have:whOk sx w=false:=by unfold whOk; rw [decide_eq_false (by unfold ln at g; omega)]; rfl
    rw [this] at hq; exact hq
  · have g':w.length=sx.length:=by unfold ln at g; omega
    refine loop1_list (by omega) (fun i=>(List.range i).all (fun i=>inb 0 (full (vAt sx i)) (gi w i))=true) (by simp) (fun i nx hi hj hx=>idx_at hi (idx_at (by omega) ?_)) (fun hj=>?_)
    · have ⟨e,h1,h2⟩:=lv_at h hi
      rw [wrap_u64 (by omega) (by omega),full_eq h hi]
      have e1:inb 0 (full (vAt sx i)) (gi w i)=inb 0 (full sx[i]) (w[i]'(by omega)):=by rw [gi_at (by omega),vAt_at hi]
      refine ⟨by omega,inb 0 (full sx[i]) (w[i]'(by omega)),l1In_ok rfl,?_⟩
      rw [← e1]
      refine br_nb (fun g1=>?_) (fun g1=>hx (range_all_succ hj g1))
      have:whOk sx w=false:=by unfold whOk; rw [range_all_no hi g1,Bool.and_false]
      rw [this] at hq; exact hq
    · have:whOk sx w=true:=by unfold whOk; rw [hj,decide_eq_true g']; rfl
      rw [this] at hq; exact hq
theorem isWhere_ok {sx:List Variable} {w:List Int} {Q:Bool→Prop} (h:Lok sx) (hq:Q (whOk sx w)):impl_isWhere sx w Q:=by
  have h0:=h.1
  unfold impl_isWhere
  refine br_ne (fun g=>?_) (fun g=>?_)
  · have:whOk sx w=false:=by unfold whOk; rw [decide_eq_false (by unfold ln at g; omega)]; rfl
    rw [this] at hq; exact hq
  · have g':w.length=sx.length:=by unfold ln at g; omega
    refine loop1_list (by omega) (fun i=>(List.range i).all (fun i=>inb 0 (full (vAt sx i)) (gi w i))=true) (by simp) (fun i nx hi hj hx=>idx_at hi ?_) (fun hj=>?_)
    · have hi':i<sx.length:=by omega
      have e1:inb 0 (full (vAt sx i)) (gi w i)=(!decide (w[i]<0)&&!decide (w[i]>full sx[i])):=by
        rw [gi_at hi,vAt_at hi']; unfold inb; rw [Bool.eq_iff_iff]; simp
      refine jn_bool (!inb 0 (full (vAt sx i)) (gi w i)) ?_ fun k hk=>br_dec (fun g1=>?_) (fun g1=>idx_at hi' (fullSet_ok h hi' ?_))
      · refine br_nb (fun g1=>?_) (fun g1=>hx (range_all_succ hj g1))
        have:whOk sx w=false:=by unfold whOk; rw [range_all_no hi' g1,Bool.and_false]
        rw [this] at hq; exact hq
      · rw [e1,decide_eq_true g1] at hk; exact hk
      · rw [e1,decide_eq_false g1,Bool.not_false,Bool.true_and,Bool.not_not] at hk; exact hk
    · have:whOk sx w=true:=by unfold whOk; rw [← g',hj,decide_eq_true (by omega)]; rfl
      rw [this] at hq; exact hq
def part (sx:List Variable) (vars:List Int):List Variable:=vars.map fun v=>vAt sx v.toNat
def Vin (n:Nat) (vars:List Int):Prop:=vars.length≤n∧∀ v∈vars,0≤v∧v<n
theorem ris_in {n:Nat} {l:List Int} (h:risOk n l=true):∀ v∈l,0≤v∧v<n:=fun v hv=>by
  obtain ⟨i,hi,rfl⟩:=List.mem_iff_getElem.1 hv
  have:=range_all_at h hi
  simp only [Bool.and_eq_true] at this
  have:=inb_iff'.1 this.1
  rw [gi_at hi] at this; omega
theorem ris_at {n:Nat} {l:List Int} (h:risOk n l=true):∀ i (hi:i<l.length),(i:Int)≤l[i]:=by
  intro i
  induction i with
  | zero=>intro hi; exact (ris_in h _ (List.getElem_mem hi)).1
  | succ i ih =>
    intro hi
    have h1:=ih (by omega)
    have:=range_all_at h hi
    simp only [Bool.and_eq_true,Bool.or_eq_true,decide_eq_true_eq] at this
    rcases this.2 with e | e
    · omega
    · rw [gi_at hi,gi_at (show i+1-1<l.length by omega)] at e
      have e2:l[i+1-1]'(by omega)=l[i]:=rfl
      rw [e2] at e; omega
theorem Vin_of {n:Nat} {l:List Int} (h:risOk n l=true):Vin n l:=by
  refine ⟨?_,ris_in h⟩
  cases hl:l.length with
  | zero=>omega
  | succ m =>
    have h1:=ris_at h m (by omega)
    have h2:=ris_in h _ (List.getElem_mem (show m<l.length by omega))
    omega
theorem part_Lok {sx:List Variable} {vars:List Int} (h:Lok sx) (hv:Vin sx.length vars):Lok (part sx vars):=by
  refine ⟨by unfold part; rw [List.length_map]; have:=h.1; have:=hv.1; omega,fun x hx=>?_⟩
  obtain ⟨v,hv',rfl⟩:=List.mem_map.1 hx
  have:=hv.2 v hv'
  rw [vAt_at (show v.toNat<sx.length by omega)]
  exact h.2 _ (List.getElem_mem _)
theorem sPart_ok {sx:List Variable} {vars:List Int} {Q:List Variable→Prop} (h:Lok sx) (hv:Vin sx.length vars) (hq:Q (part sx vars)):spec_sPart sx vars Q:=by
  have h0:=h.1; have h1:=hv.1
  unfold spec_sPart
  refine loop2_list (by omega) (fun o i=>o=(vars.take i).map fun v=>vAt sx v.toNat) rfl (fun o i nx hi ho hx=>?_) (fun o ho=>by rw [List.take_length] at ho; rw [ho]; exact hq)
  subst ho
  have hv':=hv.2 _ (List.getElem_mem hi)
  refine idx_at hi (idx_of hv'.1 (by omega) ⟨?_,hx _ ?_⟩)
  · unfold ln; rw [List.length_map,List.length_take]; simp only [List.length_singleton]; omega
  · rw [List.take_succ_eq_append_getElem hi,List.map_append]
    simp only [List.map_cons,List.map_nil]
    rw [vAt_at (show (vars[i]).toNat<sx.length by omega)]
theorem crossed_ok {sx:List Variable} {t:Table} {Q:List Variable→Prop} (h:Lok sx) (hv:Vin sx.length t.Vars) (hq:Q (part sx t.Vars)):impl_crossed sx t Q:=by
  have h0:=h.1; have h1:=hv.1
  unfold impl_crossed
  refine ⟨by unfold ln; omega,by unfold ln; omega,?_⟩
  have hpl:(part sx t.Vars).length=t.Vars.length:=by simp [part]
  refine loop2_list (by omega) (fun o i=>o.length=t.Vars.length∧o.take i=(part sx t.Vars).take i) ⟨by simp,by simp⟩ (fun o i nx hi ⟨h2,h3⟩ hx=>?_) (fun o ⟨h2,h3⟩=>?_)
  · have hv':=hv.2 _ (List.getElem_mem hi)
    refine idx_at hi (idx_of hv'.1 (by omega) ⟨by omega,by omega,hx _ ⟨by simpa using h2,?_⟩⟩)
    have:=set_done (xs:=o) (ys:=part sx t.Vars) (i:=i) (by omega) (by omega) h3
    have e:(part sx t.Vars)[i]'(by omega)=sx[(t.Vars[i]).toNat]'(by omega):=by simp only [part,List.getElem_map]; exact vAt_at _
    rw [e] at this
    rw [Int.toNat_natCast]; exact this
  · have:o=part sx t.Vars:=eq_of_take (n:=t.Vars.length) h3 h2 hpl
    rw [this]; exact hq
def cellN (p:List Int) (sx:List Variable) (t:Table):Nat:=(lev p t.Level).length * cnt (part sx t.Vars)
theorem cellN_b {p:List Int} {sx:List Variable} {t:Table} (hg:gOk p=true) (h:Lok sx) (hv:Vin sx.length t.Vars):cellN p sx t≤30 * 262144:=by
  have h1:=pick_len (f:=fun i=>decide ((dep p i:Int)=t.Level)) (n:=p.length)
  have h2:=(gOk_of hg).1
  have h3:=cnt_small' (part_Lok h hv)
  exact Nat.mul_le_mul (show (lev p t.Level).length≤30 by unfold lev; omega) h3.2
theorem uCount_ok {p:List Int} {sx:List Variable} {t:Table} {Q:Int→Prop} (hg:gOk p=true) (h:Lok sx) (hv:Vin sx.length t.Vars) (hq:Q (cellN p sx t:Int)):spec_uCount ⟨p⟩ sx t Q:=by
  unfold spec_uCount
  refine gLevel_ok hg (sPart_ok h hv ⟨(cnt (part sx t.Vars):Int),sCount_ok (part_Lok h hv) rfl,?_⟩)
  have e:ln (lev p t.Level) * (cnt (part sx t.Vars):Int)=(cellN p sx t:Int):=by unfold ln cellN; rw [Int.natCast_mul]
  have:=cellN_b hg h hv (t:=t)
  show Q (wr (ln (lev p t.Level) * (cnt (part sx t.Vars):Int)))
  rw [e,wr_in (by omega) (by omega)]; exact hq
theorem cellCount_ok {p:List Int} {sx:List Variable} {t:Table} {Q:Int→Prop} (hg:gOk p=true) (h:Lok sx) (hv:Vin sx.length t.Vars) (hq:Q (cellN p sx t:Int)):impl_cellCount ⟨p⟩ sx t Q:=by
  unfold impl_cellCount
  refine areasAt_ok hg (crossed_ok h hv ⟨(cnt (part sx t.Vars):Int),combinations_ok (part_Lok h hv) rfl,?_⟩)
  have e:ln (lev p t.Level) * (cnt (part sx t.Vars):Int)=(cellN p sx t:Int):=by unfold ln cellN; rw [Int.natCast_mul]
  have:=cellN_b hg h hv (t:=t)
  show Q (wr (ln (lev p t.Level) * (cnt (part sx t.Vars):Int)))
  rw [e,wr_in (by omega) (by omega)]; exact hq
def tOk (p:List Int) (sx:List Variable) (t:Table):Bool:=((risOk sx.length t.Vars&&whOk sx t.Where)&&inb (-1) ((sx.length:Int)-1) t.Sum)&&(decide (0<cellN p sx t)&&decide (cellN p sx t≤600))
theorem isTable_ok {p:List Int} {sx:List Variable} {t:Table} {Q:Bool→Prop} (hg:gOk p=true) (h:Lok sx) (hv:t.Vars.length≤1048576) (hq:Q (tOk p sx t)):impl_isTable ⟨p⟩ sx t Q:=by
  have h0:=h.1
  unfold impl_isTable
  refine jn_bool (!((risOk sx.length t.Vars&&whOk sx t.Where)&&inb (-1) ((sx.length:Int)-1) t.Sum)) ?_ fun k hk=>areVars_ok hv (by omega) (br_nb (fun g=>?_) (fun g=>isWhere_ok h (br_nb (fun g1=>?_) (fun g1=>br_dec (fun g2=>?_) (fun g2=>?_)))))
  · refine br_nb (fun g=>?_) (fun g=>?_)
    · have:tOk p sx t=false:=by unfold tOk; rw [g]; rfl
      rw [this] at hq; exact hq
    · have g':=g
      simp only [Bool.and_eq_true] at g'
      refine cellCount_ok (p:=p) (t:=t) hg h (Vin_of g'.1.1) (jn_bool (tOk p sx t) hq fun k hk=>br_dec (fun g1=>?_) (fun g1=>?_))
      · have e:tOk p sx t=decide ((cellN p sx t:Int)≤600):=by unfold tOk; rw [g,decide_eq_true (by omega:0<cellN p sx t),Bool.true_and,Bool.true_and]; congr 1; simp; omega
        rw [e] at hk; exact hk
      · have e:tOk p sx t=false:=by unfold tOk; rw [decide_eq_false (by omega:¬ 0<cellN p sx t)]; simp
        rw [e] at hk; exact hk
  · rw [g] at hk; simpa using hk
  · rw [g1] at hk; simpa using hk
  · have:inb (-1) ((sx.length:Int)-1) t.Sum=false:=by unfold inb; rw [decide_eq_false (by omega)]; rfl
    rw [this] at hk; simpa using hk
  · have:(!((risOk sx.length t.Vars&&whOk sx t.Where)&&inb (-1) ((sx.length:Int)-1) t.Sum))=decide (t.Sum≥ln sx):=by
      rw [g,g1,Bool.true_and,Bool.true_and]; unfold inb ln; rw [Bool.eq_iff_iff]; simp; omega
    rw [this] at hk; exact hk
theorem uGood_ok {p:List Int} {sx:List Variable} {t:Table} {Q:Bool→Prop} (hp:p.length≤1048576) (hl:sx.length≤1048576) (hs:∀ x∈sx,x.Name.size≤1048576) (hv:t.Vars.length≤1048576)
    (hq:Q ((gOk p&&schOk sx)&&tOk p sx t)):spec_uGood ⟨p⟩ sx t Q:=by
  unfold spec_uGood
  refine jn_bool (!((gOk p&&schOk sx)&&(!decide ((lev p t.Level).length=0)&&((risOk sx.length t.Vars&&whOk sx t.Where)&&inb (-1) ((sx.length:Int)-1) t.Sum)))) ?_ fun k hk =>
    gGood_ok hp (br_nb (fun g=>?_) (fun g=>sGood_ok hl hs (br_nb (fun g1=>?_) (fun g1=>gLevel_ok (p:=p) g (br_eq (fun g2=>?_) (fun g2=>rising_ok hv hl (br_nb (fun g3=>?_) (fun g3=>uWhere_ok (Lok_of g1) (br_nb (fun g4=>?_) (fun g4=>l1In_ok ?_))))))))))
  · have zero:(lev p t.Level).length=0→decide (0<cellN p sx t)=false:=fun e=>decide_eq_false (by unfold cellN; rw [e]; simp)
    refine br_nb (fun g=>?_) (fun g=>?_)
    · have:((gOk p&&schOk sx)&&tOk p sx t)=false:=by
        unfold tOk
        cases hz:decide ((lev p t.Level).length=0) with
        | true=>rw [zero (of_decide_eq_true hz)]; simp
        | false =>
          rw [hz,Bool.not_false,Bool.true_and] at g
          rw [← Bool.and_assoc,g]; rfl
      rw [this] at hq; exact hq
    · have g':=g
      simp only [Bool.and_eq_true,Bool.not_eq_true',decide_eq_false_iff_not] at g'
      have hL:=Lok_of g'.1.2
      have hV:=Vin_of g'.2.2.1.1
      refine uCount_ok (p:=p) (t:=t) g'.1.1 hL hV ?_
      have hpos:0<cellN p sx t:=Nat.mul_pos (by omega) (cnt_small' (part_Lok hL hV)).1
      have e:((gOk p&&schOk sx)&&tOk p sx t)=decide ((cellN p sx t:Int)≤600):=by
        unfold tOk
        rw [g'.1.1,g'.1.2,g'.2.2.1.1,g'.2.2.1.2,g'.2.2.2,decide_eq_true hpos]
        simp only [Bool.true_and]
        congr 1; simp; omega
      rw [e] at hq; exact hq
  · rw [g] at hk; exact hk
  · rw [g,g1] at hk; exact hk
  · rw [g,g1,decide_eq_true (by unfold ln at g2; omega:(lev p t.Level).length=0)] at hk; exact hk
  · rw [g3] at hk; simpa using hk
  · rw [g4] at hk; simpa using hk
  · have e:(lev p t.Level).length≠0:=by unfold ln at g2; omega
    rw [g,g1,g3,g4,decide_eq_false e] at hk
    rw [wr_in (by unfold ln; omega) (by unfold ln; omega)]
    simpa [inb] using hk
end Go.Proofs.YtfnmhknnliahoaaGreatDoor
