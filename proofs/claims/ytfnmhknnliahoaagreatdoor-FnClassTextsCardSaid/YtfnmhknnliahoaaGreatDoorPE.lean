/- Plain facts: what is valid, how many lists of values there are, which they are, which edits they fail. -/
import Derived.Test.YtfnmhknnliahoaaGreatDoorPS
set_option linter.unusedVariables false
set_option autoImplicit false
namespace Go.Proofs.YtfnmhknnliahoaaGreatDoor
open Go Go.RowKit Go.Gv
theorem IsSchema_ok {sx:List Variable} {Q:Bool→Prop} (hl:sx.length≤1048576) (h:Q (schOk sx)):impl_IsSchema sx Q:=by
  unfold impl_IsSchema
  refine jn_bool (!(decide (1≤sx.length)&&decide (sx.length≤6))) ?_ fun k hk=>br_dec (fun g=>?_) (fun g=>?_)
  · refine br_nb (fun g=>?_) (fun g=>?_)
    · have:schOk sx=false:=by unfold schOk; rw [g]; rfl
      rw [this] at h; exact h
    · have g':1≤sx.length∧sx.length≤6:=by simpa using g
      refine loop1_list (by omega) (fun i=>(List.range i).all (varOk sx)=true) (by simp) (fun i nx hi hj hx=>idx_at hi ?_) (fun hj=>?_)
      · refine jn_bool (!(nameOk sx[i].Name&&lvOk sx[i])) ?_ fun k hk=>isWord_ok (br_nb (fun g1=>?_) (fun g1=>br_dec (fun g2=>?_) (fun g2=>?_)))
        · refine br_nb (fun g1=>?_) (fun g1=>⟨by omega,by omega,by unfold ln; omega,?_⟩)
          · have:varOk sx i=false:=by unfold varOk; rw [vAt_at hi,g1]; rfl
            have:schOk sx=false:=by unfold schOk; rw [range_all_no hi this,Bool.and_false]
            rw [this] at h; exact h
          · have hd:List.take ((i:Int).toNat-(0:Int).toNat) (List.drop (0:Int).toNat sx)=sx.take i:=by simp
            rw [hd]
            have hv:∀ j,j<i→vAt (sx.take i) j=vAt sx j:=fun j hj=>by
              unfold vAt; simp [List.getD_eq_getElem?_getD,hj]
            have hlt:(sx.take i).length=i:=by rw [List.length_take]; omega
            refine loop1_list (xs:=sx.take i) (by omega) (fun j=>∀ m,m<j→(vAt sx m).Name≠sx[i].Name) (fun m hm=>by omega) (fun j nx2 hj2 hjj hx2=>idx_at hj2 ?_) (fun hjj=>hx (range_all_succ hj ?_))
            · rw [streq_eq]
              have e:(sx.take i)[j]=vAt sx j:=by rw [← hv j (by omega),vAt_at hj2]
              rw [e]
              refine br_dec (fun g2=>?_) (fun g2=>hx2 fun m hm=>?_)
              · have:newName sx i=false:=range_all_no (show j<i by omega) (by rw [vAt_at hi,decide_eq_true g2]; rfl)
                have:varOk sx i=false:=by unfold varOk; rw [this,Bool.and_false]
                have:schOk sx=false:=by unfold schOk; rw [range_all_no hi this,Bool.and_false]
                rw [this] at h; exact h
              · by_cases em:m=j
                · subst em; exact g2
                · exact hjj m (by omega)
            · unfold varOk
              rw [vAt_at hi,g1,Bool.true_and]
              refine List.all_eq_true.2 fun m hm=>?_
              have:=hjj m (by rw [hlt]; exact List.mem_range.1 hm)
              rw [vAt_at hi,decide_eq_false this]; rfl
        · rw [g1] at hk; simpa using hk
        · have:lvOk sx[i]=false:=by unfold lvOk; rw [decide_eq_false (by omega)]; rfl
          rw [this,Bool.and_false] at hk; exact hk
        · have:(!(nameOk sx[i].Name&&lvOk sx[i]))=decide (sx[i].Levels>8):=by
            unfold lvOk; rw [g1,decide_eq_true (by omega:2≤sx[i].Levels),Bool.true_and,Bool.true_and,← decide_not]; congr 1; simp
          rw [this] at hk; exact hk
      · have:schOk sx=true:=by unfold schOk; rw [g,hj]; rfl
        rw [this] at h; exact h
  · have:decide (1≤sx.length)=false:=decide_eq_false (by unfold ln at g; omega)
    rw [this] at hk; simpa using hk
  · have:(!(decide (1≤sx.length)&&decide (sx.length≤6)))=decide (ln sx>6):=by
      rw [decide_eq_true (show 1≤sx.length by unfold ln at g; omega),Bool.true_and,← decide_not]; congr 1; unfold ln; simp; omega
    rw [this] at hk; exact hk
def lv (v:Variable):Nat:=v.Levels.toNat
def cnt:List Variable→Nat
  | []=>1
  | x :: r=>lv x * cnt r
theorem cnt_append:∀ a b,cnt (a++b)=cnt a * cnt b
  | [],b=>by simp [cnt]
  | x :: r,b=>by simp only [List.cons_append,cnt,cnt_append r b,Nat.mul_assoc]
def Lok (sx:List Variable):Prop:=sx.length≤6∧∀ x∈sx,2≤x.Levels∧x.Levels≤8
theorem Lok_of {sx:List Variable} (h:schOk sx=true):Lok sx:=⟨(schOk_of h).1.2,fun x hx=>by
  obtain ⟨i,hi,rfl⟩:=List.mem_iff_getElem.1 hx
  exact schOk_lv h hi⟩
theorem cnt_le:∀ {sx:List Variable},(∀ x∈sx,2≤x.Levels∧x.Levels≤8)→1≤cnt sx∧cnt sx≤8 ^ sx.length
  | [],_=>by simp [cnt]
  | x :: r,h=>by
    have ⟨h1,h2⟩:=cnt_le (sx:=r) fun y hy=>h y (List.mem_cons_of_mem _ hy)
    have ⟨h3,h4⟩:=h x (List.mem_cons_self ..)
    have h5:1≤lv x∧lv x≤8:=by unfold lv; omega
    simp only [cnt,List.length_cons]
    refine ⟨Nat.mul_pos h5.1 h1,?_⟩
    rw [Nat.pow_succ,Nat.mul_comm (8 ^ _)]
    exact Nat.mul_le_mul h5.2 h2
theorem cnt_small {sx:List Variable} (h:Lok sx) (i:Nat):1≤cnt (sx.take i)∧cnt (sx.take i)≤262144:=by
  have ⟨h1,h2⟩:=cnt_le (sx:=sx.take i) fun y hy=>h.2 y (List.mem_of_mem_take hy)
  have h0:=h.1
  have h3:(8:Nat) ^ (sx.take i).length≤8 ^ 6:=Nat.pow_le_pow_right (by decide) (by rw [List.length_take]; omega)
  have:(8:Nat) ^ 6=262144:=by decide
  omega
theorem cnt_small' {sx:List Variable} (h:Lok sx):1≤cnt sx∧cnt sx≤262144:=by
  have:=cnt_small h sx.length; rw [List.take_length] at this; exact this
theorem lv_at {sx:List Variable} (h:Lok sx) {i:Nat} (hi:i<sx.length):(lv sx[i]:Int)=sx[i].Levels∧2≤lv sx[i]∧lv sx[i]≤8:=by
  have:=h.2 _ (List.getElem_mem hi)
  unfold lv; omega
theorem cnt_take_succ {sx:List Variable} {i:Nat} (hi:i<sx.length):cnt (sx.take (i+1))=cnt (sx.take i) * lv sx[i]:=by
  rw [List.take_succ_eq_append_getElem hi,cnt_append]; simp [cnt]
theorem cnt_step {sx:List Variable} (h:Lok sx) {i:Nat} (hi:i<sx.length):wr ((cnt (sx.take i):Int) * sx[i].Levels)=(cnt (sx.take (i+1)):Int):=by
  have e:=cnt_take_succ hi
  have e2:=(lv_at h hi).1
  have h1:=cnt_small h (i+1)
  have e3:(cnt (sx.take i):Int) * sx[i].Levels=(cnt (sx.take (i+1)):Int):=by rw [e,← e2,Int.natCast_mul]
  rw [e3]; exact wr_in (by omega) (by omega)
theorem sCount_ok {sx:List Variable} {Q:Int→Prop} (h:Lok sx) (hq:Q (cnt sx:Int)):spec_sCount sx Q:=by
  have h0:=h.1
  unfold spec_sCount
  refine loop2_list (by omega) (fun n i=>n=(cnt (sx.take i):Int)) (by simp [cnt]) (fun n i nx hi hn hx=>idx_at hi ?_) (fun n hn=>?_)
  · rw [hn,cnt_step h hi]; exact hx _ rfl
  · rw [List.take_length] at hn; rw [hn]; exact hq
theorem combinations_ok {sx:List Variable} {Q:Int→Prop} (h:Lok sx) (hq:Q (cnt sx:Int)):impl_combinations sx Q:=by
  have h0:=h.1
  unfold impl_combinations
  refine loop2_list (by omega) (fun n i=>n=(cnt (sx.take i):Int)) (by simp [cnt]) (fun n i nx hi hn hx=>idx_at hi ?_) (fun n hn=>?_)
  · rw [hn,cnt_step h hi]; exact hx _ rfl
  · rw [List.take_length] at hn; rw [hn]; exact hq
def full (v:Variable):Int:=((2 ^ lv v:Nat):Int)-1
theorem pow8 {n:Nat} (h:n≤8):2 ^ n≤256:=by
  have:=Nat.pow_le_pow_right (n:=2) (by decide) h
  have e:(2:Nat) ^ 8=256:=by decide
  omega
theorem pow2 {n:Nat} (h:2≤n):4≤2 ^ n:=by
  have:=Nat.pow_le_pow_right (n:=2) (by decide) h
  have e:(2:Nat) ^ 2=4:=by decide
  omega
theorem full_at {sx:List Variable} (h:Lok sx) {i:Nat} (hi:i<sx.length):3≤full sx[i]∧full sx[i]≤255:=by
  have ⟨_,h1,h2⟩:=lv_at h hi
  have:=pow8 h2; have:=pow2 h1
  unfold full; omega
theorem full_eq {sx:List Variable} (h:Lok sx) {i:Nat} (hi:i<sx.length):wr (shl .i64 1 sx[i].Levels-1)=full sx[i]:=by
  have ⟨e,h1,h2⟩:=lv_at h hi
  have:=full_at h hi
  rw [shl1 (by omega) (by omega)]
  exact wr_in (by unfold full at this; unfold lv at this; omega) (by unfold full at this; unfold lv at this; omega)
theorem fullSet_ok {sx:List Variable} {i:Nat} {Q:Int→Prop} (h:Lok sx) (hi:i<sx.length) (hq:Q (full sx[i])):impl_fullSet sx[i] Q:=by
  unfold impl_fullSet
  have ⟨e,h1,h2⟩:=lv_at h hi
  rw [full_eq h hi]
  exact ⟨by omega,hq⟩
def gi (l:List Int) (i:Nat):Int:=l.getD i 0
theorem gi_at {l:List Int} {i:Nat} (h:i<l.length):gi l i=l[i]:=by unfold gi; simp [List.getD_eq_getElem?_getD,h]
def Vok (vs:List Int):Prop:=∀ x∈vs,0≤x∧x≤60
theorem lany_yes {α:Type} {p:α→Bool} {l:List α} {i:Nat} (hi:i<l.length) (hp:p l[i]=true):l.any p=true:=List.any_eq_true.2 ⟨l[i],List.getElem_mem hi,hp⟩
end Go.Proofs.YtfnmhknnliahoaaGreatDoor
