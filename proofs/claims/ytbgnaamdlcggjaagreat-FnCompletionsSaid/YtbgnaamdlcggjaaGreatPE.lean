/- Plain facts: what is valid, how many lists of values there are, which they are, which edits they fail. -/
import Derived.Test.YtbgnaamdlcggjaaGreatPS
set_option linter.unusedVariables false
set_option autoImplicit false
namespace Go.Proofs.YtbgnaamdlcggjaaGreat
open Go Go.RowKit Go.Gv
theorem IsSchema_ok {sx:List Variable} {Q:Bool→Prop} (hl:sx.length≤1048576) (h:Q (schOk sx)):impl_IsSchema sx Q:=by
  unfold impl_IsSchema
  refine jn_bool (!(decide (1≤sx.length)&&decide (sx.length≤6))) ?_ fun k hk=>br_dec (fun g=>?_) (fun g=>?_)
  · refine br_nb (fun g=>?_) (fun g=>?_)
    · have:schOk sx=false:=by unfold schOk; rw [g]; rfl
      rw [this] at h; exact h
    · have g':1≤sx.length∧sx.length≤6:=by simpa using g
      refine loop1_list (by omega) (fun i=>(List.range i).all (varOk sx)=true) (by simp) (fun i nx hi hj hx=>idx_at hi ?_) (fun hj=>?_)
      · refine jn_bool (!(nameOk sx[i].Name&&lvOk sx[i])) ?_ fun k hk=>isWord_ok (br_nb (fun g1=>?_) (fun g1=>br_dec (fun g2=>?_) (fun g2=>?_)))
        · refine br_nb (fun g1=>?_) (fun g1=>⟨by omega,by omega,by unfold ln; omega,?_⟩)
          · have:varOk sx i=false:=by unfold varOk; rw [vAt_at hi,g1]; rfl
            have:schOk sx=false:=by unfold schOk; rw [range_all_no hi this,Bool.and_false]
            rw [this] at h; exact h
          · have hd:List.take ((i:Int).toNat-(0:Int).toNat) (List.drop (0:Int).toNat sx)=sx.take i:=by simp
            rw [hd]
            have hv:∀ j,j<i→vAt (sx.take i) j=vAt sx j:=fun j hj=>by
              unfold vAt; simp [List.getD_eq_getElem?_getD,hj]
            have hlt:(sx.take i).length=i:=by rw [List.length_take]; omega
            refine loop1_list (xs:=sx.take i) (by omega) (fun j=>∀ m,m<j→(vAt sx m).Name≠sx[i].Name) (fun m hm=>by omega) (fun j nx2 hj2 hjj hx2=>idx_at hj2 ?_) (fun hjj=>hx (range_all_succ hj ?_))
            · rw [streq_eq]
              have e:(sx.take i)[j]=vAt sx j:=by rw [← hv j (by omega),vAt_at hj2]
              rw [e]
              refine br_dec (fun g2=>?_) (fun g2=>hx2 fun m hm=>?_)
              · have:newName sx i=false:=range_all_no (show j<i by omega) (by rw [vAt_at hi,decide_eq_true g2]; rfl)
                have:varOk sx i=false:=by unfold varOk; rw [this,Bool.and_false]
                have:schOk sx=false:=by unfold schOk; rw [range_all_no hi this,Bool.and_false]
                rw [this] at h; exact h
              · by_cases em:m=j
                · subst em; exact g2
                · exact hjj m (by omega)
            · unfold varOk
              rw [vAt_at hi,g1,Bool.true_and]
              refine List.all_eq_true.2 fun m hm=>?_
              have:=hjj m (by rw [hlt]; exact List.mem_range.1 hm)
              rw [vAt_at hi,decide_eq_false this]; rfl
        · rw [g1] at hk; simpa using hk
        · have:lvOk sx[i]=false:=by unfold lvOk; rw [decide_eq_false (by omega)]; rfl
          rw [this,Bool.and_false] at hk; exact hk
        · have:(!(nameOk sx[i].Name&&lvOk sx[i]))=decide (sx[i].Levels>8):=by
            unfold lvOk; rw [g1,decide_eq_true (by omega:2≤sx[i].Levels),Bool.true_and,Bool.true_and,← decide_not]; congr 1; simp
          rw [this] at hk; exact hk
      · have:schOk sx=true:=by unfold schOk; rw [g,hj]; rfl
        rw [this] at h; exact h
  · have:decide (1≤sx.length)=false:=decide_eq_false (by unfold ln at g; omega)
    rw [this] at hk; simpa using hk
  · have:(!(decide (1≤sx.length)&&decide (sx.length≤6)))=decide (ln sx>6):=by
      rw [decide_eq_true (show 1≤sx.length by unfold ln at g; omega),Bool.true_and,← decide_not]; congr 1; unfold ln; simp; omega
    rw [this] at hk; exact hk
def lv (v:Variable):Nat:=v.Levels.toNat
def cnt:List Variable→Nat
  | []=>1
  | x :: r=>lv x * cnt r
theorem cnt_append:∀ a b,cnt (a++b)=cnt a * cnt b
  | [],b=>by simp [cnt]
  | x :: r,b=>by simp only [List.cons_append,cnt,cnt_append r b,Nat.mul_assoc]
def Lok (sx:List Variable):Prop:=sx.length≤6∧∀ x∈sx,2≤x.Levels∧x.Levels≤8
theorem Lok_of {sx:List Variable} (h:schOk sx=true):Lok sx:=⟨(schOk_of h).1.2,fun x hx=>by
  obtain ⟨i,hi,rfl⟩:=List.mem_iff_getElem.1 hx
  exact schOk_lv h hi⟩
theorem cnt_le:∀ {sx:List Variable},(∀ x∈sx,2≤x.Levels∧x.Levels≤8)→1≤cnt sx∧cnt sx≤8 ^ sx.length
  | [],_=>by simp [cnt]
  | x :: r,h=>by
    have ⟨h1,h2⟩:=cnt_le (sx:=r) fun y hy=>h y (List.mem_cons_of_mem _ hy)
    have ⟨h3,h4⟩:=h x (List.mem_cons_self ..)
    have h5:1≤lv x∧lv x≤8:=by unfold lv; omega
    simp only [cnt,List.length_cons]
    refine ⟨Nat.mul_pos h5.1 h1,?_⟩
    rw [Nat.pow_succ,Nat.mul_comm (8 ^ _)]
    exact Nat.mul_le_mul h5.2 h2
theorem cnt_small {sx:List Variable} (h:Lok sx) (i:Nat):1≤cnt (sx.take i)∧cnt (sx.take i)≤262144:=by
  have ⟨h1,h2⟩:=cnt_le (sx:=sx.take i) fun y hy=>h.2 y (List.mem_of_mem_take hy)
  have h0:=h.1
  have h3:(8:Nat) ^ (sx.take i).length≤8 ^ 6:=Nat.pow_le_pow_right (by decide) (by rw [List.length_take]; omega)
  have:(8:Nat) ^ 6=262144:=by decide
  omega
theorem cnt_small' {sx:List Variable} (h:Lok sx):1≤cnt sx∧cnt sx≤262144:=by
  have:=cnt_small h sx.length; rw [List.take_length] at this; exact this
theorem lv_at {sx:List Variable} (h:Lok sx) {i:Nat} (hi:i<sx.length):(lv sx[i]:Int)=sx[i].Levels∧2≤lv sx[i]∧lv sx[i]≤8:=by
  have:=h.2 _ (List.getElem_mem hi)
  unfold lv; omega
theorem cnt_take_succ {sx:List Variable} {i:Nat} (hi:i<sx.length):cnt (sx.take (i+1))=cnt (sx.take i) * lv sx[i]:=by
  rw [List.take_succ_eq_append_getElem hi,cnt_append]; simp [cnt]
theorem cnt_step {sx:List Variable} (h:Lok sx) {i:Nat} (hi:i<sx.length):wr ((cnt (sx.take i):Int) * sx[i].Levels)=(cnt (sx.take (i+1)):Int):=by
  have e:=cnt_take_succ hi
  have e2:=(lv_at h hi).1
  have h1:=cnt_small h (i+1)
  have e3:(cnt (sx.take i):Int) * sx[i].Levels=(cnt (sx.take (i+1)):Int):=by rw [e,← e2,Int.natCast_mul]
  rw [e3]; exact wr_in (by omega) (by omega)
theorem sCount_ok {sx:List Variable} {Q:Int→Prop} (h:Lok sx) (hq:Q (cnt sx:Int)):spec_sCount sx Q:=by
  have h0:=h.1
  unfold spec_sCount
  refine loop2_list (by omega) (fun n i=>n=(cnt (sx.take i):Int)) (by simp [cnt]) (fun n i nx hi hn hx=>idx_at hi ?_) (fun n hn=>?_)
  · rw [hn,cnt_step h hi]; exact hx _ rfl
  · rw [List.take_length] at hn; rw [hn]; exact hq
theorem combinations_ok {sx:List Variable} {Q:Int→Prop} (h:Lok sx) (hq:Q (cnt sx:Int)):impl_combinations sx Q:=by
  have h0:=h.1
  unfold impl_combinations
  refine loop2_list (by omega) (fun n i=>n=(cnt (sx.take i):Int)) (by simp [cnt]) (fun n i nx hi hn hx=>idx_at hi ?_) (fun n hn=>?_)
  · rw [hn,cnt_step h hi]; exact hx _ rfl
  · rw [List.take_length] at hn; rw [hn]; exact hq
def full (v:Variable):Int:=((2 ^ lv v:Nat):Int)-1
theorem pow8 {n:Nat} (h:n≤8):2 ^ n≤256:=by
  have:=Nat.pow_le_pow_right (n:=2) (by decide) h
  have e:(2:Nat) ^ 8=256:=by decide
  omega
theorem pow2 {n:Nat} (h:2≤n):4≤2 ^ n:=by
  have:=Nat.pow_le_pow_right (n:=2) (by decide) h
  have e:(2:Nat) ^ 2=4:=by decide
  omega
theorem full_at {sx:List Variable} (h:Lok sx) {i:Nat} (hi:i<sx.length):3≤full sx[i]∧full sx[i]≤255:=by
  have ⟨_,h1,h2⟩:=lv_at h hi
  have:=pow8 h2; have:=pow2 h1
  unfold full; omega
theorem full_eq {sx:List Variable} (h:Lok sx) {i:Nat} (hi:i<sx.length):wr (shl .i64 1 sx[i].Levels-1)=full sx[i]:=by
  have ⟨e,h1,h2⟩:=lv_at h hi
  have:=full_at h hi
  rw [shl1 (by omega) (by omega)]
  exact wr_in (by unfold full at this; unfold lv at this; omega) (by unfold full at this; unfold lv at this; omega)
theorem eFull_ok {sx:List Variable} {i:Nat} {Q:Int→Prop} (h:Lok sx) (hi:i<sx.length) (hq:Q (full sx[i])):spec_eFull sx (i:Int) Q:=by
  unfold spec_eFull
  have ⟨e,h1,h2⟩:=lv_at h hi
  refine idx_at hi ?_
  rw [wrap_u64 (by omega) (by omega),full_eq h hi]
  exact ⟨by omega,hq⟩
theorem fullSet_ok {sx:List Variable} {i:Nat} {Q:Int→Prop} (h:Lok sx) (hi:i<sx.length) (hq:Q (full sx[i])):impl_fullSet sx[i] Q:=by
  unfold impl_fullSet
  have ⟨e,h1,h2⟩:=lv_at h hi
  rw [full_eq h hi]
  exact ⟨by omega,hq⟩
def gi (l:List Int) (i:Nat):Int:=l.getD i 0
theorem gi_at {l:List Int} {i:Nat} (h:i<l.length):gi l i=l[i]:=by unfold gi; simp [List.getD_eq_getElem?_getD,h]
def eOk (sx:List Variable) (e:Edit):Bool:=decide (e.Sets.length=sx.length)&&(List.range sx.length).all fun i=>inb 1 (full (vAt sx i)) (gi e.Sets i)
def lOk (sx:List Variable) (l:List Edit):Bool:=decide (l.length≤40)&&l.all (eOk sx)
theorem eOk_of {sx:List Variable} {e:Edit} (h:eOk sx e=true):e.Sets.length=sx.length∧∀ i,i<sx.length→1≤gi e.Sets i∧gi e.Sets i≤full (vAt sx i):=by
  unfold eOk at h
  simp only [Bool.and_eq_true,decide_eq_true_eq] at h
  exact ⟨h.1,fun i hi=>inb_iff'.1 (range_all_at h.2 hi)⟩
theorem eGood_ok {sx:List Variable} {e:Edit} {Q:Bool→Prop} (h:Lok sx) (hl:e.Sets.length≤1048576) (hq:Q (eOk sx e)):spec_eGood sx e Q:=by
  unfold spec_eGood
  refine br_ne (fun g=>?_) (fun g=>?_)
  · have:eOk sx e=false:=by unfold eOk; rw [decide_eq_false (by unfold ln at g; omega)]; rfl
    rw [this] at hq; exact hq
  · have g':e.Sets.length=sx.length:=by unfold ln at g; omega
    refine loop1_list (by omega) (fun i=>(List.range i).all (fun i=>inb 1 (full (vAt sx i)) (gi e.Sets i))=true) (by simp) (fun i nx hi hj hx=>idx_at hi (eFull_ok h (by omega) (l1In_ok ?_))) (fun hj=>?_)
    · have e1:(decide (1≤e.Sets[i])&&decide (e.Sets[i]≤full (sx[i]'(by omega))))=inb 1 (full (vAt sx i)) (gi e.Sets i):=by rw [gi_at hi,vAt_at (by omega)]; rfl
      rw [e1]
      refine br_nb (fun g1=>?_) (fun g1=>hx (range_all_succ hj g1))
      have:eOk sx e=false:=by unfold eOk; rw [range_all_no (show i<sx.length by omega) g1,Bool.and_false]
      rw [this] at hq; exact hq
    · have:eOk sx e=true:=by unfold eOk; rw [← g',hj,decide_eq_true (by omega)]; rfl
      rw [this] at hq; exact hq
theorem isEdit_ok {sx:List Variable} {e:Edit} {Q:Bool→Prop} (h:Lok sx) (hl:e.Sets.length≤1048576) (hq:Q (eOk sx e)):impl_isEdit sx e Q:=by
  unfold impl_isEdit
  refine br_ne (fun g=>?_) (fun g=>?_)
  · have:eOk sx e=false:=by unfold eOk; rw [decide_eq_false (by unfold ln at g; omega)]; rfl
    rw [this] at hq; exact hq
  · have g':e.Sets.length=sx.length:=by unfold ln at g; omega
    refine loop1_list (by omega) (fun i=>(List.range i).all (fun i=>inb 1 (full (vAt sx i)) (gi e.Sets i))=true) (by simp) (fun i nx hi hj hx=>idx_at hi ?_) (fun hj=>?_)
    · have hi':i<sx.length:=by omega
      refine jn_bool (!inb 1 (full (vAt sx i)) (gi e.Sets i)) ?_ fun k hk=>br_dec (fun g1=>?_) (fun g1=>idx_at hi' (fullSet_ok h hi' ?_))
      · refine br_nb (fun g1=>?_) (fun g1=>hx (range_all_succ hj g1))
        have:eOk sx e=false:=by unfold eOk; rw [range_all_no hi' g1,Bool.and_false]
        rw [this] at hq; exact hq
      · have:inb 1 (full (vAt sx i)) (gi e.Sets i)=false:=by rw [gi_at hi]; unfold inb; rw [decide_eq_false (by omega)]; rfl
        rw [this] at hk; exact hk
      · have:(!inb 1 (full (vAt sx i)) (gi e.Sets i))=decide (e.Sets[i]>full sx[i]):=by
          rw [gi_at hi,vAt_at hi']; unfold inb
          rw [decide_eq_true (by omega:1≤e.Sets[i]),Bool.true_and,← decide_not]; congr 1; simp
        rw [this] at hk; exact hk
    · have:eOk sx e=true:=by unfold eOk; rw [← g',hj,decide_eq_true (by omega)]; rfl
      rw [this] at hq; exact hq
theorem lall_succ {α:Type} {p:α→Bool} {l:List α} {i:Nat} (hi:i<l.length) (h:(l.take i).all p=true) (hp:p l[i]=true):(l.take (i+1)).all p=true:=by
  rw [List.take_succ_eq_append_getElem hi,List.all_append,h]; simp [hp]
theorem lall_no {α:Type} {p:α→Bool} {l:List α} {i:Nat} (hi:i<l.length) (hp:p l[i]=false):l.all p=false:=by
  rw [List.all_eq_false]; exact ⟨l[i],List.getElem_mem hi,by simp [hp]⟩
theorem eList_ok {sx:List Variable} {l:List Edit} {Q:Bool→Prop} (hl:sx.length≤1048576) (hs:∀ x∈sx,x.Name.size≤1048576) (hel:l.length≤1048576) (he:∀ e∈l,e.Sets.length≤1048576)
    (hq:Q (schOk sx&&lOk sx l)):spec_eList sx l Q:=by
  unfold spec_eList
  refine jn_bool (!(schOk sx&&decide (l.length≤40))) ?_ fun k hk=>sGood_ok hl hs (br_nb (fun g=>?_) (fun g=>?_))
  · refine br_nb (fun g=>?_) (fun g=>?_)
    · have:(schOk sx&&lOk sx l)=false:=by unfold lOk; rw [← Bool.and_assoc,g]; rfl
      rw [this] at hq; exact hq
    · simp only [Bool.and_eq_true,decide_eq_true_eq] at g
      have hL:=Lok_of g.1
      refine loop1_list (by omega) (fun i=>(l.take i).all (eOk sx)=true) (by simp) (fun i nx hi hj hx=>idx_at hi (eGood_ok hL (he _ (List.getElem_mem hi)) ?_)) (fun hj=>?_)
      · refine br_nb (fun g1=>?_) (fun g1=>hx (lall_succ hi hj g1))
        have:(schOk sx&&lOk sx l)=false:=by unfold lOk; rw [lall_no hi g1]; simp
        rw [this] at hq; exact hq
      · rw [List.take_length] at hj
        have:(schOk sx&&lOk sx l)=true:=by unfold lOk; rw [hj,g.1,decide_eq_true g.2]; rfl
        rw [this] at hq; exact hq
  · rw [g] at hk; simpa using hk
  · have:(!(schOk sx&&decide (l.length≤40)))=decide (ln l>40):=by rw [g,Bool.true_and,← decide_not]; congr 1; unfold ln; simp; omega
    rw [this] at hk; exact hk
theorem areEdits_ok {sx:List Variable} {l:List Edit} {Q:Bool→Prop} (h:Lok sx) (he:∀ e∈l,e.Sets.length≤1048576)
    (hq:Q (lOk sx l)):impl_areEdits sx l Q:=by
  unfold impl_areEdits
  refine br_dec (fun g=>?_) (fun g=>?_)
  · have:lOk sx l=false:=by unfold lOk; rw [decide_eq_false (by unfold ln at g; omega)]; rfl
    rw [this] at hq; exact hq
  · refine loop1_list (by unfold ln at g; omega) (fun i=>(l.take i).all (eOk sx)=true) (by simp) (fun i nx hi hj hx=>idx_at hi (isEdit_ok h (he _ (List.getElem_mem hi)) ?_)) (fun hj=>?_)
    · refine br_nb (fun g1=>?_) (fun g1=>hx (lall_succ hi hj g1))
      have:lOk sx l=false:=by unfold lOk; rw [lall_no hi g1,Bool.and_false]
      rw [this] at hq; exact hq
    · rw [List.take_length] at hj
      have:lOk sx l=true:=by unfold lOk; rw [hj,decide_eq_true (by unfold ln at g; omega)]; rfl
      rw [this] at hq; exact hq
def smOk (sx:List Variable):Bool:=schOk sx&&decide (cnt sx≤100)
theorem isSmall_ok {sx:List Variable} {Q:Bool→Prop} (hl:sx.length≤1048576) (hq:Q (smOk sx)):impl_isSmall sx Q:=by
  unfold impl_isSmall
  refine jn_bool (smOk sx) hq fun k hk=>IsSchema_ok hl (br_bo (fun g=>combinations_ok (Lok_of g) ?_) (fun g=>?_))
  · have:smOk sx=decide ((cnt sx:Int)≤100):=by unfold smOk; rw [g,Bool.true_and]; congr 1; simp; omega
    rw [this] at hk; exact hk
  · have:smOk sx=false:=by unfold smOk; rw [g]; rfl
    rw [this] at hk; exact hk
theorem eSmall_ok {sx:List Variable} {l:List Edit} {Q:Bool→Prop} (hl:sx.length≤1048576) (hs:∀ x∈sx,x.Name.size≤1048576) (hel:l.length≤1048576) (he:∀ e∈l,e.Sets.length≤1048576)
    (hq:Q (smOk sx&&lOk sx l)):spec_eSmall sx l Q:=by
  unfold spec_eSmall
  refine jn_bool (smOk sx&&lOk sx l) hq fun k hk=>eList_ok hl hs hel he (br_bo (fun g=>?_) (fun g=>?_))
  · simp only [Bool.and_eq_true] at g
    refine sCount_ok (Lok_of g.1) ?_
    have:(smOk sx&&lOk sx l)=decide ((cnt sx:Int)≤100):=by unfold smOk; rw [g.1,g.2,Bool.true_and,Bool.and_true]; congr 1; simp; omega
    rw [this] at hk; exact hk
  · have:(smOk sx&&lOk sx l)=false:=by
      unfold smOk; rw [Bool.and_comm (schOk sx),Bool.and_assoc,g,Bool.and_false]
    rw [this] at hk; exact hk
def vals:List Variable→Nat→List Int
  | [],_=>[]
  | x :: r,i=>((i / cnt r % lv x:Nat):Int) :: vals r i
theorem vals_length:∀ (sx:List Variable) (i:Nat),(vals sx i).length=sx.length
  | [],_=>rfl
  | x :: r,i=>by simp only [vals,List.length_cons,vals_length r i]
theorem vals_add:∀ (sx:List Variable) (m i:Nat),(∀ x∈sx,1≤lv x)→vals sx (m * cnt sx+i)=vals sx i
  | [],_,_,_=>rfl
  | x :: r,m,i,h=>by
    have hr:∀ y∈r,1≤lv y:=fun y hy=>h y (List.mem_cons_of_mem _ hy)
    have hc:∀ (r:List Variable),(∀ y∈r,1≤lv y)→0<cnt r:=fun r=>by
      induction r with
      | nil=>intro _; exact Nat.one_pos
      | cons z r ih=>intro hz; exact Nat.mul_pos (hz z (List.mem_cons_self ..)) (ih fun y hy=>hz y (List.mem_cons_of_mem _ hy))
    have hc:=hc r hr
    simp only [vals,cnt]
    have e1:m * (lv x * cnt r)+i=(m * lv x) * cnt r+i:=by rw [Nat.mul_assoc]
    rw [e1,vals_add r _ _ hr]
    congr 2
    rw [Nat.add_comm,Nat.add_mul_div_right _ _ hc,Nat.add_mul_mod_self_right]
theorem cnt_drop {sx:List Variable} {k:Nat} (hk:k<sx.length):cnt (sx.drop k)=lv sx[k] * cnt (sx.drop (k+1)):=by
  rw [List.drop_eq_getElem_cons hk]; rfl
theorem vals_drop {sx:List Variable} {k i:Nat} (hk:k<sx.length):vals (sx.drop k) i=((i / cnt (sx.drop (k+1)) % lv sx[k]:Nat):Int) :: vals (sx.drop (k+1)) i:=by
  rw [List.drop_eq_getElem_cons hk]; rfl
theorem sAt_ok {sx:List Variable} {i:Nat} {Q:List Int→Prop} (h:Lok sx) (hi:i≤1000000) (hq:Q (vals sx i)):spec_sAt sx (i:Int) Q:=by
  have h0:=h.1
  unfold spec_sAt
  refine ⟨by unfold ln; omega,by unfold ln; omega,?_⟩
  rw [wr_in (x:=ln sx-1) (by unfold ln; omega) (by unfold ln; omega)]
  refine ⟨fun a o k=>∃ n:Nat,k=(n:Int)-1∧n≤sx.length∧a=((i / cnt (sx.drop n):Nat):Int)∧o=List.replicate n 0++vals (sx.drop n) i,fun _ _ k=>(k+1).toNat,⟨sx.length,rfl,Nat.le_refl _,by simp [cnt],by simp [vals,ln]⟩,?_⟩
  rintro a o k ⟨n,rfl,hn,rfl,rfl⟩
  refine br_dec (fun g=>?_) (fun g=>?_)
  · obtain ⟨m,rfl⟩:∃ m,n=m+1:=⟨n-1,by omega⟩
    have ek:((m+1:Nat):Int)-1=(m:Int):=by omega
    rw [ek]
    have hm:m<sx.length:=hn
    have ⟨e,h1,h2⟩:=lv_at h hm
    refine idx_at hm ⟨by omega,by omega,by simp; omega,idx_at hm ⟨by omega,?_⟩⟩
    have hd:i / cnt (sx.drop (m+1))≤i:=Nat.div_le_self _ _
    have e1:Int.tdiv ((i / cnt (sx.drop (m+1)):Nat):Int) sx[m].Levels=((i / cnt (sx.drop m):Nat):Int):=by
      rw [← e,← Int.ofNat_tdiv,cnt_drop hm,Nat.div_div_eq_div_mul,Nat.mul_comm (lv _)]
    have e2:Int.tmod ((i / cnt (sx.drop (m+1)):Nat):Int) sx[m].Levels=((i / cnt (sx.drop (m+1)) % lv sx[m]:Nat):Int):=by
      rw [← e,← Int.ofNat_tmod]
    have hd2:((i / cnt (sx.drop m):Nat):Int)≤(i:Int):=Int.ofNat_le.2 (Nat.div_le_self _ _)
    have hd3:(0:Int)≤((i / cnt (sx.drop m):Nat):Int):=Int.natCast_nonneg _
    rw [e1,e2,wr_in (by omega) (by omega),wr_in (by omega) (by omega)]
    refine ⟨⟨m,rfl,by omega,rfl,?_⟩,?_⟩
    · rw [vals_drop hm,List.replicate_succ',List.append_assoc,Int.toNat_natCast,List.set_append_right _ _ (by simp)]
      simp
    · show ((m:Int)-1+1).toNat<((m:Int)+1).toNat
      omega
  · have:n=0:=by omega
    subst this
    simpa using hq
theorem valuesAt_ok {sx:List Variable} {i:Nat} {Q:List Int→Prop} (h:Lok sx) (hi:i≤1000000) (hq:Q (vals sx i)):impl_valuesAt sx (i:Int) Q:=sAt_ok h hi hq
/-- Whether values are all in sets. -/
def boxIn (t vs:List Int):Bool:=(List.range vs.length).all fun i=>tb (gi t i) (gi vs i)
theorem boxIn_cons {s v:Int} {t vs:List Int}:boxIn (s :: t) (v :: vs)=(tb s v&&boxIn t vs):=by
  unfold boxIn
  rw [List.length_cons,List.range_succ_eq_map,List.all_cons,List.all_map]; rfl
def Sok (t:List Int):Prop:=∀ s∈t,0≤s∧s<4611686018427387904
def Vok (vs:List Int):Prop:=∀ x∈vs,0≤x∧x≤60
theorem vals_ok:∀ {sx:List Variable} (i:Nat),(∀ x∈sx,2≤x.Levels∧x.Levels≤8)→Vok (vals sx i)
  | [],_,_=>fun x hx=>by simp [vals] at hx
  | v :: r,i,h=>fun x hx=>by
    simp only [vals,List.mem_cons] at hx
    rcases hx with rfl | hx
    · have h3:=h v (List.mem_cons_self ..)
      have:i / cnt r % lv v<lv v:=Nat.mod_lt _ (by unfold lv; omega)
      unfold lv at *; omega
    · exact vals_ok (sx:=r) i (fun y hy=>h y (List.mem_cons_of_mem _ hy)) x hx
theorem eFails_ok {e:Edit} {vs:List Int} {Q:Bool→Prop} (hs:Sok e.Sets) (hv:Vok vs) (hl:vs.length≤e.Sets.length) (hl':vs.length≤1048576) (hq:Q (boxIn e.Sets vs)):spec_eFails e vs Q:=by
  unfold spec_eFails
  refine loop1_list (by omega) (fun i=>(List.range i).all (fun i=>tb (gi e.Sets i) (gi vs i))=true) (by simp) (fun i nx hi hj hx=>idx_at hi (idx_at (by omega) ?_)) (fun hj=>?_)
  · have ⟨a1,a2⟩:=hs _ (List.getElem_mem (show i<e.Sets.length by omega))
    have ⟨b1,b2⟩:=hv _ (List.getElem_mem hi)
    rw [wrap_u64 (by omega) (by omega),bit0 a1 a2 b1 (by omega)]
    have e1:tb (gi e.Sets i) (gi vs i)=tb (e.Sets[i]'(by omega)) vs[i]:=by rw [gi_at hi,gi_at (by omega)]
    refine ⟨b1,br_nb (fun g=>?_) (fun g=>hx (range_all_succ hj (by rw [e1]; exact g)))⟩
    have:boxIn e.Sets vs=false:=range_all_no hi (by rw [e1]; exact g)
    rw [this] at hq; exact hq
  · have:boxIn e.Sets vs=true:=hj
    rw [this] at hq; exact hq
theorem fails_ok {e:Edit} {vs:List Int} {Q:Bool→Prop} (hs:Sok e.Sets) (hv:Vok vs) (hl:vs.length≤e.Sets.length) (hl':vs.length≤1048576) (hq:Q (boxIn e.Sets vs)):impl_fails e vs Q:=by
  unfold impl_fails
  refine loop1_list (by omega) (fun i=>(List.range i).all (fun i=>tb (gi e.Sets i) (gi vs i))=true) (by simp) (fun i nx hi hj hx=>idx_at hi (idx_at (by omega) ?_)) (fun hj=>?_)
  · have ⟨a1,a2⟩:=hs _ (List.getElem_mem (show i<e.Sets.length by omega))
    have ⟨b1,b2⟩:=hv _ (List.getElem_mem hi)
    rw [bit0 a1 a2 b1 (by omega)]
    have e1:tb (gi e.Sets i) (gi vs i)=tb (e.Sets[i]'(by omega)) vs[i]:=by rw [gi_at hi,gi_at (by omega)]
    refine ⟨b1,br_nb (fun g=>?_) (fun g=>hx (range_all_succ hj (by rw [e1]; exact g)))⟩
    have:boxIn e.Sets vs=false:=range_all_no hi (by rw [e1]; exact g)
    rw [this] at hq; exact hq
  · have:boxIn e.Sets vs=true:=hj
    rw [this] at hq; exact hq
def failsB (l:List Edit) (vs:List Int):Bool:=l.any fun e=>boxIn e.Sets vs
/-- A list of edits whose sets are sets. -/
def Eok (n:Nat) (l:List Edit):Prop:=l.length≤1048576∧∀ e∈l,Sok e.Sets∧n≤e.Sets.length
theorem lany_succ {α:Type} {p:α→Bool} {l:List α} {i:Nat} (hi:i<l.length):(l.take (i+1)).any p=((l.take i).any p || p l[i]):=by
  rw [List.take_succ_eq_append_getElem hi,List.any_append]; simp
theorem lany_yes {α:Type} {p:α→Bool} {l:List α} {i:Nat} (hi:i<l.length) (hp:p l[i]=true):l.any p=true:=List.any_eq_true.2 ⟨l[i],List.getElem_mem hi,hp⟩
theorem eFailed_ok {l:List Edit} {vs:List Int} {Q:List Int→Prop} (hl:Eok vs.length l) (hv:Vok vs) (hl':vs.length≤1048576) (hq:∀ o:List Int,(o.length=0↔failsB l vs=false)→Q o):spec_eFailed l vs Q:=by
  have hn:=hl.1
  unfold spec_eFailed
  refine loop2_list (by omega) (fun o i=>o.length≤i∧(o.length=0↔(l.take i).any (fun e=>boxIn e.Sets vs)=false)) ⟨by simp,by simp⟩ (fun o i nx hi ⟨hj1,hj2⟩ hx=>?_) (fun o ⟨_,hj⟩=>hq o (by rw [List.take_length] at hj; exact hj))
  refine jn_bool (if boxIn l[i].Sets vs then o++[(i:Int)] else o) (hx _ ⟨?_,?_⟩) fun k hk=>idx_at hi (eFails_ok (hl.2 _ (List.getElem_mem hi)).1 hv (hl.2 _ (List.getElem_mem hi)).2 hl' ?_)
  · split
    · simp; omega
    · omega
  · rw [lany_succ hi]
    cases hb:boxIn l[i].Sets vs with
    | true=>simp
    | false=>simpa using hj2
  · refine br_bo (fun g=>?_) (fun g=>?_)
    · rw [g] at hk; exact ⟨by unfold ln; simp; omega,hk⟩
    · rw [g] at hk; exact hk
theorem failsOne_ok {l:List Edit} {vs:List Int} {Q:Bool→Prop} (hl:Eok vs.length l) (hv:Vok vs) (hl':vs.length≤1048576) (hq:Q (failsB l vs)):impl_failsOne l vs Q:=by
  have hn:=hl.1
  unfold impl_failsOne
  refine loop1_list (by omega) (fun i=>(l.take i).any (fun e=>boxIn e.Sets vs)=false) (by simp) (fun i nx hi hj hx=>idx_at hi (fails_ok (hl.2 _ (List.getElem_mem hi)).1 hv (hl.2 _ (List.getElem_mem hi)).2 hl' (br_bo (fun g=>?_) (fun g=>hx ?_)))) (fun hj=>?_)
  · have:failsB l vs=true:=lany_yes hi g
    rw [this] at hq; exact hq
  · rw [lany_succ hi,hj,g]; rfl
  · rw [List.take_length] at hj
    have:failsB l vs=false:=hj
    rw [this] at hq; exact hq
theorem Eok_of {sx:List Variable} {l:List Edit} (h:Lok sx) (hl:lOk sx l=true):Eok sx.length l:=by
  unfold lOk at hl
  simp only [Bool.and_eq_true,decide_eq_true_eq] at hl
  refine ⟨by omega,fun e he=>?_⟩
  have ⟨h1,h2⟩:=eOk_of (List.all_eq_true.1 hl.2 e he)
  refine ⟨fun s hs=>?_,by omega⟩
  obtain ⟨i,hi,rfl⟩:=List.mem_iff_getElem.1 hs
  have ⟨a,b⟩:=h2 i (by omega)
  rw [gi_at hi] at a b
  rw [vAt_at (by omega)] at b
  have:=full_at h (show i<sx.length by omega)
  omega
end Go.Proofs.YtbgnaamdlcggjaaGreat
