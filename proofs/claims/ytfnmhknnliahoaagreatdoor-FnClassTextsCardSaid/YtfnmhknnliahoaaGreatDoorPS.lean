/- Plain facts about schemas, values and edits: which are valid, what is at an index, which fail. -/
import Derived.Test.YtfnmhknnliahoaaGreatDoorPV
set_option linter.unusedVariables false
set_option autoImplicit false
namespace Go.Proofs.YtfnmhknnliahoaaGreatDoor
open Go Go.RowKit Go.Gv
def tb (s x:Int):Bool:=s.toNat.testBit x.toNat
theorem wrap_i64 {x:Int} (h0 : -9223372036854775808≤x) (h1:x≤9223372036854775807):IntKind.i64.wrap x=x:=wr_in h0 h1
theorem wrap_u64 {x:Int} (h0:0≤x) (h1:x≤9223372036854775807):IntKind.u64.wrap x=x:=IntWalk.u64_in x ⟨h0,by omega⟩
theorem ofInt_nat (n:Nat):BitVec.ofInt 64 (n:Int)=BitVec.ofNat 64 n:=by
  apply BitVec.eq_of_toNat_eq; simp
theorem and_nat {a b:Nat} (ha:a<2 ^ 63):bits .and .i64 (a:Int) (b:Int)=((a &&& b:Nat):Int):=by
  show IntKind.i64.wrap (((BitVec.ofInt 64 (a:Int) &&& BitVec.ofInt 64 (b:Int)).toNat:Nat):Int)=_
  rw [ofInt_nat,ofInt_nat,BitVec.toNat_and,BitVec.toNat_ofNat,BitVec.toNat_ofNat]
  have e:a % 2 ^ 64 &&& b % 2 ^ 64=a &&& b:=by
    apply Nat.eq_of_testBit_eq; intro i
    simp only [Nat.testBit_and,Nat.testBit_mod_two_pow]
    by_cases h:i<64
    · simp [h]
    · have:a.testBit i=false:=Nat.testBit_lt_two_pow (Nat.lt_of_lt_of_le ha (Nat.pow_le_pow_right (by decide) (by omega)))
      simp [this]
  rw [e]
  have:a &&& b≤a:=Nat.and_le_left
  have:(2:Nat) ^ 63=9223372036854775808:=by decide
  exact wrap_i64 (by omega) (by omega)
theorem shr_nat {s x:Nat} (hx:x≤62):shr .i64 (s:Int) (x:Int)=((s >>> x:Nat):Int):=by
  unfold shr
  have e:min (x:Int).toNat IntKind.i64.bits=x:=by show min (x:Int).toNat 64=x; omega
  rw [e,Int.fdiv_eq_ediv_of_nonneg _ (by exact Int.pow_nonneg (by decide)),Nat.shiftRight_eq_div_pow]
  simp
theorem shl_nat {s x:Nat} (hx:s * 2 ^ x<2 ^ 63) (hx':x≤62):shl .i64 (s:Int) (x:Int)=((s * 2 ^ x:Nat):Int):=by
  unfold shl
  have e:min (x:Int).toNat IntKind.i64.bits=x:=by show min (x:Int).toNat 64=x; omega
  rw [e]
  have e2:(2:Nat) ^ 63=9223372036854775808:=by decide
  have e3:(s:Int) * 2 ^ x=((s * 2 ^ x:Nat):Int):=by simp
  rw [e3]
  exact wrap_i64 (by omega) (by omega)
theorem bit_nat {s x:Nat} (hs:s<2 ^ 62) (hx:x≤62):bits .and .i64 (shr .i64 (s:Int) (x:Int)) 1=if s.testBit x then 1 else 0:=by
  rw [shr_nat hx]
  have hp:(2:Nat) ^ 62<2 ^ 63:=by decide
  have h0:s >>> x≤s:=by rw [Nat.shiftRight_eq_div_pow]; exact Nat.div_le_self _ _
  have h1:s >>> x<2 ^ 63:=by omega
  have:=and_nat (b:=1) h1
  rw [show ((1:Nat):Int)=1 from rfl] at this
  rw [this,Nat.and_one_is_mod,Nat.testBit_eq_decide_div_mod_eq,Nat.shiftRight_eq_div_pow]
  by_cases h:s / 2 ^ x % 2=1
  · rw [h]; simp
  · have:s / 2 ^ x % 2=0:=by omega
    rw [this]; simp
theorem bit_ok {s x:Int} (h0:0≤s) (hs:s<4611686018427387904) (hx0:0≤x) (hx:x≤62):bits .and .i64 (shr .i64 s x) 1=if tb s x then 1 else 0:=by
  have e1:((s.toNat:Nat):Int)=s:=by omega
  have e2:((x.toNat:Nat):Int)=x:=by omega
  have e3:(2:Nat) ^ 62=4611686018427387904:=by decide
  have:=bit_nat (s:=s.toNat) (x:=x.toNat) (by omega) (by omega)
  rw [e1,e2] at this; exact this
theorem bit0 {s x:Int} (h0:0≤s) (hs:s<4611686018427387904) (hx0:0≤x) (hx:x≤62):(bits .and .i64 (shr .i64 s x) 1==0)=!tb s x:=by
  rw [bit_ok h0 hs hx0 hx]; cases tb s x <;> rfl
theorem shl1 {x:Int} (h0:0≤x) (h1:x≤61):shl .i64 1 x=((2 ^ x.toNat:Nat):Int):=by
  have e2:((x.toNat:Nat):Int)=x:=by omega
  have hp:2 ^ x.toNat<2 ^ 63:=Nat.pow_lt_pow_right (by decide) (by omega)
  have:=shl_nat (s:=1) (x:=x.toNat) (by omega) (by omega)
  rw [e2] at this
  simpa using this
def chr (s:ByteArray) (i:Nat):Int:=((s[i]?).getD 0).toNat
theorem sidx_at {s:ByteArray} {i:Nat} {K:Int→Prop} (h:i<s.size) (k:K (chr s i)):sidx s (i:Int) K:=by
  refine ⟨s[i],by omega,by simp [h],?_⟩
  unfold chr at k; simpa [h] using k
def low (c:Int):Bool:=decide (97≤c)&&decide (c≤122)
def nameOk (s:ByteArray):Bool:=(List.range s.size).all (fun i=>low (chr s i))&&(decide (1≤s.size)&&decide (s.size≤8))
theorem range_all_succ {p:Nat→Bool} {i:Nat} (h:(List.range i).all p=true) (hp:p i=true):(List.range (i+1)).all p=true:=by
  rw [List.range_succ,List.all_append,h]; simp [hp]
theorem range_all_no {p:Nat→Bool} {i n:Nat} (hi:i<n) (hp:p i=false):(List.range n).all p=false:=by
  rw [List.all_eq_false]; exact ⟨i,List.mem_range.2 hi,by simp [hp]⟩
theorem range_all_at {p:Nat→Bool} {i n:Nat} (h:(List.range n).all p=true) (hi:i<n):p i=true:=List.all_eq_true.1 h i (List.mem_range.2 hi)
theorem sName_ok {s:ByteArray} {Q:Bool→Prop} (hs:s.size≤1048576) (h:Q (nameOk s)):spec_sName s Q:=by
  unfold spec_sName
  refine loop1_to (n:=sln s) (by unfold sln; omega) (fun i=>(List.range i).all (fun i=>low (chr s i))=true) (by simp) (fun i nx hi hj hx=>?_) (fun i hi hj=>?_)
  · have hi':i<s.size:=by unfold sln at hi; omega
    refine jn_bool (!low (chr s i)) ?_ fun k hk=>sidx_at hi' (br_dec (fun g=>?_) (fun g=>sidx_at hi' ?_))
    · cases hl:low (chr s i) with
      | false =>
        refine br_true rfl ?_
        have:nameOk s=false:=by unfold nameOk; rw [range_all_no hi' hl]; rfl
        rw [this] at h; exact h
      | true=>exact br_false rfl (hx (range_all_succ hj hl))
    · have:low (chr s i)=false:=by unfold low; rw [decide_eq_false (by omega)]; rfl
      rw [this] at hk; exact hk
    · have:(!low (chr s i))=decide (chr s i>122):=by
        unfold low; rw [decide_eq_true (by omega:97≤chr s i),Bool.true_and,← decide_not]; congr 1; simp
      rw [this] at hk; exact hk
  · have hn:i=s.size:=by unfold sln at hi; omega
    subst hn
    refine l1In_ok ?_
    have:nameOk s=(decide (1≤sln s)&&decide (sln s≤8)):=by
      unfold nameOk sln; rw [hj,Bool.true_and]; congr 1 <;> simp <;> omega
    rw [this] at h; exact h
theorem isWord_ok {s:ByteArray} {Q:Bool→Prop} (h:Q (nameOk s)):impl_isWord s Q:=by
  unfold impl_isWord
  have len:nameOk s=true→1≤s.size∧s.size≤8:=fun hn=>by
    unfold nameOk at hn; simp only [Bool.and_eq_true,decide_eq_true_eq] at hn; exact hn.2
  refine jn_bool (!(decide (1≤s.size)&&decide (s.size≤8))) ?_ fun k hk=>br_dec (fun g=>?_) (fun g=>?_)
  · refine br_nb (fun g=>?_) (fun g=>?_)
    · have:nameOk s=false:=by unfold nameOk; rw [g,Bool.and_false]
      rw [this] at h; exact h
    · have g':1≤s.size∧s.size≤8:=by simpa using g
      refine loop1_to (n:=sln s) (by unfold sln; omega) (fun i=>(List.range i).all (fun i=>low (chr s i))=true) (by simp) (fun i nx hi hj hx=>?_) (fun i hi hj=>?_)
      · have hi':i<s.size:=by unfold sln at hi; omega
        refine jn_bool (!low (chr s i)) ?_ fun k hk=>sidx_at hi' (br_dec (fun g=>?_) (fun g=>sidx_at hi' ?_))
        · cases hl:low (chr s i) with
          | false =>
            refine br_true rfl ?_
            have:nameOk s=false:=by unfold nameOk; rw [range_all_no hi' hl]; rfl
            rw [this] at h; exact h
          | true=>exact br_false rfl (hx (range_all_succ hj hl))
        · have:low (chr s i)=false:=by unfold low; rw [decide_eq_false (by omega)]; rfl
          rw [this] at hk; exact hk
        · have:(!low (chr s i))=decide (chr s i>122):=by
            unfold low; rw [decide_eq_true (by omega:97≤chr s i),Bool.true_and,← decide_not]; congr 1; simp
          rw [this] at hk; exact hk
      · have hn:i=s.size:=by unfold sln at hi; omega
        subst hn
        have:nameOk s=true:=by unfold nameOk; rw [hj,g]; rfl
        rw [this] at h; exact h
  · have:decide (1≤s.size)=false:=decide_eq_false (by unfold sln at g; omega)
    rw [this] at hk; simpa using hk
  · have:(!(decide (1≤s.size)&&decide (s.size≤8)))=decide (sln s>8):=by
      rw [decide_eq_true (show 1≤s.size by unfold sln at g; omega),Bool.true_and,← decide_not]; congr 1; unfold sln; simp; omega
    rw [this] at hk; exact hk
def lvOk (v:Variable):Bool:=decide (2≤v.Levels)&&decide (v.Levels≤8)
def vAt (sx:List Variable) (i:Nat):Variable:=sx.getD i ⟨⟨#[]⟩,0⟩
theorem vAt_at {sx:List Variable} {i:Nat} (h:i<sx.length):vAt sx i=sx[i]:=by unfold vAt; simp [List.getD_eq_getElem?_getD,h]
def newName (sx:List Variable) (i:Nat):Bool:=(List.range i).all fun j => !decide ((vAt sx j).Name=(vAt sx i).Name)
def varOk (sx:List Variable) (i:Nat):Bool:=(nameOk (vAt sx i).Name&&lvOk (vAt sx i))&&newName sx i
def schOk (sx:List Variable):Bool:=(decide (1≤sx.length)&&decide (sx.length≤6))&&(List.range sx.length).all (varOk sx)
theorem schOk_of {sx:List Variable} (h:schOk sx=true):(1≤sx.length∧sx.length≤6)∧∀ i,i<sx.length→varOk sx i=true:=by
  unfold schOk at h
  simp only [Bool.and_eq_true,decide_eq_true_eq] at h
  exact ⟨h.1,fun i hi=>range_all_at h.2 hi⟩
theorem schOk_lv {sx:List Variable} (h:schOk sx=true) {i:Nat} (hi:i<sx.length):2≤sx[i].Levels∧sx[i].Levels≤8:=by
  have:=(schOk_of h).2 i hi
  unfold varOk lvOk at this
  rw [vAt_at hi] at this
  simp only [Bool.and_eq_true,decide_eq_true_eq] at this
  exact this.1.2
theorem sFind_ok {sx:List Variable} {nm:ByteArray} {Q:Int→Prop} (hl:sx.length≤1048576)
    (hf:∀ i:Nat,i<sx.length→(vAt sx i).Name=nm→(∀ j,j<i→(vAt sx j).Name≠nm)→Q i) (hn:(∀ j,j<sx.length→(vAt sx j).Name≠nm)→Q (-1)):spec_sFind sx nm Q:=by
  unfold spec_sFind
  refine loop1_list (by omega) (fun i=>∀ j,j<i→(vAt sx j).Name≠nm) (fun j hj=>by omega) (fun i nx hi hj hx=>idx_at hi ?_) (fun hj=>hn hj)
  rw [streq_eq]
  refine br_dec (fun g=>hf i hi (by rw [vAt_at hi]; exact g) hj) (fun g=>hx fun j hji=>?_)
  by_cases e:j=i
  · subst e; rw [vAt_at hi]; exact g
  · exact hj j (by omega)
theorem sGood_ok {sx:List Variable} {Q:Bool→Prop} (hl:sx.length≤1048576) (hs:∀ x∈sx,x.Name.size≤1048576) (h:Q (schOk sx)):spec_sGood sx Q:=by
  unfold spec_sGood
  refine l1In_ok ?_
  have e0:(decide (1≤ln sx)&&decide (ln sx≤6))=(decide (1≤sx.length)&&decide (sx.length≤6)):=by unfold ln; congr 1 <;> simp <;> omega
  rw [e0]
  refine br_nb (fun g=>?_) (fun g=>?_)
  · have:schOk sx=false:=by unfold schOk; rw [g]; rfl
    rw [this] at h; exact h
  · have g':1≤sx.length∧sx.length≤6:=by simpa using g
    refine loop1_list (by omega) (fun i=>(List.range i).all (varOk sx)=true) (by simp) (fun i nx hi hj hx=>idx_at hi ?_) (fun hj=>?_)
    · refine jn_bool (!varOk sx i) ?_ fun k hk=>⟨nameOk sx[i].Name,sName_ok (hs _ (List.getElem_mem hi)) rfl,?_⟩
      · cases hv:varOk sx i with
        | false =>
          refine br_true rfl ?_
          have:schOk sx=false:=by unfold schOk; rw [range_all_no hi hv,Bool.and_false]
          rw [this] at h; exact h
        | true=>exact br_false rfl (hx (range_all_succ hj hv))
      · unfold varOk at hk
        rw [vAt_at hi] at hk
        refine br_nb (fun g1=>?_) (fun g1=>⟨lvOk sx[i],l1In_ok rfl,br_nb (fun g2=>?_) (fun g2=>?_)⟩)
        · rw [g1] at hk; simpa using hk
        · rw [g1,g2] at hk; simpa using hk
        · refine ⟨by omega,by omega,by unfold ln; omega,?_⟩
          have hd:List.take ((i:Int).toNat-(0:Int).toNat) (List.drop (0:Int).toNat sx)=sx.take i:=by simp
          rw [hd]
          have hv:∀ j,j<i→vAt (sx.take i) j=vAt sx j:=fun j hj=>by
            unfold vAt; simp [List.getD_eq_getElem?_getD,List.getElem?_take,hj]
          have hlt:(sx.take i).length=i:=by rw [List.length_take]; omega
          rw [g1,g2] at hk
          simp only [Bool.and_true,Bool.true_and] at hk
          by_cases hex:∃ j:Nat,j<i∧(vAt sx j).Name=sx[i].Name∧∀ m,m<j→(vAt sx m).Name≠sx[i].Name
          · obtain ⟨j,hji,hjn,hjm⟩:=hex
            refine ⟨(j:Int),sFind_ok (by omega) (fun m hm hmn hml=>?_) (fun hn=>?_),?_⟩
            · rcases Nat.lt_trichotomy j m with c | c | c
              · exact absurd (by rw [hv j (by omega)]; exact hjn) (hml j c)
              · rw [c]
              · exact absurd (by rw [← hv m (by omega)]; exact hmn) (hjm m c)
            · exact absurd (by rw [hv j hji]; exact hjn) (hn j (by omega))
            · have:newName sx i=false:=range_all_no hji (by rw [vAt_at hi,decide_eq_true hjn]; rfl)
              rw [this] at hk
              have e:decide ((j:Int)≥0)=true:=decide_eq_true (by omega)
              show k (decide ((j:Int)≥0))
              rw [e]; exact hk
          · have hno:∀ j,j<i→(vAt sx j).Name≠sx[i].Name:=by
              intro j
              induction j using Nat.strongRecOn with
              | _ j ih =>
                intro hj hn
                exact hex ⟨j,hj,hn,fun m hm=>ih m hm (by omega)⟩
            refine ⟨-1,sFind_ok (by omega) (fun m hm hmn hml=>?_) (fun hn=>rfl),?_⟩
            · exact absurd (by rw [← hv m (by omega)]; exact hmn) (hno m (by omega))
            · have:newName sx i=true:=List.all_eq_true.2 fun j hj=>by
                have:=hno j (List.mem_range.1 hj)
                rw [vAt_at hi,decide_eq_false this]; rfl
              rw [this] at hk; exact hk
    · have:schOk sx=true:=by unfold schOk; rw [g,hj]; rfl
      rw [this] at h; exact h
end Go.Proofs.YtfnmhknnliahoaaGreatDoor
