import Derived.Test.YtbgnaamdlcggjaaGreatPV
set_option linter.unusedVariables false
set_option autoImplicit false
namespace Go.Proofs.YtbgnaamdlcggjaaGreat
open Go Go.RowKit Go.Gv
def tb(s x:Int):Bool:=s.toNat.testBit x.toNat
theorem CR5{x:Int}(h0 : -9223372036854775808<=x)(h1:x<=9223372036854775807):IntKind.i64.wrap x=x:=E9 h0 h1
theorem CC8{x:Int}(h0:0<=x)(h1:x<=9223372036854775807):IntKind.u64.wrap x=x:=IntWalk.u64_in x ⟨h0,by omega⟩
theorem CJ2(n:Nat):BitVec.ofInt 64 (n:Int)=BitVec.ofNat 64 n:=by
  apply BitVec.eq_of_toNat_eq; simp
theorem EL0{a b:Nat}(ha:a<2 ^ 63):bits .and .i64 (a:Int) (b:Int)=((a &&& b:Nat):Int):=by
  show IntKind.i64.wrap (((BitVec.ofInt 64 (a:Int) &&& BitVec.ofInt 64 (b:Int)).toNat:Nat):Int)=_
  rw [CJ2,CJ2,BitVec.toNat_and,BitVec.toNat_ofNat,BitVec.toNat_ofNat]
  have e:a % 2 ^ 64 &&& b % 2 ^ 64=a &&& b:=by
    apply Nat.eq_of_testBit_eq; intro i
    simp only [Nat.testBit_and,Nat.testBit_mod_two_pow]
    by_cases h:i<64
    · simp [h]
    · have:a.testBit i=false:=Nat.testBit_lt_two_pow (Nat.lt_of_lt_of_le ha (Nat.pow_le_pow_right (by decide) (by omega)))
      simp [this]
  rw [e]
  have:a &&& b<=a:=Nat.and_le_left
  have:(2:Nat) ^ 63=9223372036854775808:=by decide
  exact CR5 (by omega) (by omega)
theorem EE6{s x:Nat}(hx:x<=62):shr .i64 (s:Int) (x:Int)=((s >>> x:Nat):Int):=by
  unfold shr
  have e:min (x:Int).toNat IntKind.i64.bits=x:=by show min (x:Int).toNat 64=x; omega
  rw [e,Int.fdiv_eq_ediv_of_nonneg _ (by exact Int.pow_nonneg (by decide)),Nat.shiftRight_eq_div_pow]
  simp
theorem EG9{s x:Nat}(hx:s * 2 ^ x<2 ^ 63)(hx':x<=62):shl .i64 (s:Int) (x:Int)=((s * 2 ^ x:Nat):Int):=by
  unfold shl
  have e:min (x:Int).toNat IntKind.i64.bits=x:=by show min (x:Int).toNat 64=x; omega
  rw [e]
  have e2:(2:Nat) ^ 63=9223372036854775808:=by decide
  have e3:(s:Int) * 2 ^ x=((s * 2 ^ x:Nat):Int):=by simp
  rw [e3]
  exact CR5 (by omega) (by omega)
theorem EH8{s x:Nat}(hs:s<2 ^ 62)(hx:x<=62):bits .and .i64 (shr .i64 (s:Int) (x:Int)) 1=if s.testBit x then 1 else 0:=by
  rw [EE6 hx]
  have hp:(2:Nat) ^ 62<2 ^ 63:=by decide
  have h0:s >>> x<=s:=by rw [Nat.shiftRight_eq_div_pow]; exact Nat.div_le_self _ _
  have h1:s >>> x<2 ^ 63:=by omega
  have:=EL0 (b:=1) h1
  rw [show ((1:Nat):Int)=1 from rfl] at this
  rw [this,Nat.and_one_is_mod,Nat.testBit_eq_decide_div_mod_eq,Nat.shiftRight_eq_div_pow]
  by_cases h:s / 2 ^ x % 2=1
  · rw [h]; simp
  · have:s / 2 ^ x % 2=0:=by omega
    rw [this]; simp
theorem EN8{s x:Int}(h0:0<=s)(hs:s<4611686018427387904)(hx0:0<=x)(hx:x<=62):bits .and .i64 (shr .i64 s x) 1=if tb s x then 1 else 0:=by
  have e1:((s.toNat:Nat):Int)=s:=by omega
  have e2:((x.toNat:Nat):Int)=x:=by omega
  have e3:(2:Nat) ^ 62=4611686018427387904:=by decide
  have:=EH8 (s:=s.toNat) (x:=x.toNat) (by omega) (by omega)
  rw [e1,e2] at this; exact this
theorem FA2{s x:Int}(h0:0<=s)(hs:s<4611686018427387904)(hx0:0<=x)(hx:x<=62):(bits .and .i64 (shr .i64 s x) 1==0)=!tb s x:=by
  rw [EN8 h0 hs hx0 hx]; cases tb s x <;> rfl
theorem FB1{x:Int}(h0:0<=x)(h1:x<=61):shl .i64 1 x=((2 ^ x.toNat:Nat):Int):=by
  have e2:((x.toNat:Nat):Int)=x:=by omega
  have hp:2 ^ x.toNat<2 ^ 63:=Nat.pow_lt_pow_right (by decide) (by omega)
  have:=EG9 (s:=1) (x:=x.toNat) (by omega) (by omega)
  rw [e2] at this
  simpa using this
def chr(s:ByteArray)(i:Nat):Int:=((s[i]?).getD 0).toNat
theorem BW3{s:ByteArray}{i:Nat}{K:Int->Prop}(h:i<s.size)(k:K (chr s i)):DQ1 s (i:Int) K:=by
  refine ⟨s[i],by omega,by simp [h],?_⟩
  unfold chr at k; simpa [h] using k
def low(c:Int):Bool:=decide (97<=c)&&decide (c<=122)
def Z1(s:ByteArray):Bool:=(List.range s.size).all (fun i=>low (chr s i))&&(decide (1<=s.size)&&decide (s.size<=8))
theorem H2{p:Nat->Bool}{i:Nat}(h:(List.range i).all p=true)(hp:p i=true):(List.range (i+1)).all p=true:=by
  rw [List.range_succ,List.all_append,h]; simp [hp]
theorem H3{p:Nat->Bool}{i n:Nat}(hi:i<n)(hp:p i=false):(List.range n).all p=false:=by
  rw [List.all_eq_false]; exact ⟨i,List.mem_range.2 hi,by simp [hp]⟩
theorem AC1{p:Nat->Bool}{i n:Nat}(h:(List.range n).all p=true)(hi:i<n):p i=true:=List.all_eq_true.1 h i (List.mem_range.2 hi)
theorem DR2{s:ByteArray}{Q:Bool->Prop}(hs:s.size<=1048576)(h:Q (Z1 s)):BB0 s Q:=by
  unfold BB0
  refine CA3 (n:=sln s) (by unfold sln; omega) (fun i=>(List.range i).all (fun i=>low (chr s i))=true) (by simp) (fun i nx hi hj hx=>?_) (fun i hi hj=>?_)
  · have hi':i<s.size:=by unfold sln at hi; omega
    refine D3 (!low (chr s i)) ?_ fun k hk=>BW3 hi' (E1 (fun g=>?_) (fun g=>BW3 hi' ?_))
    · cases hl:low (chr s i) with
      | false =>
        refine S1 rfl ?_
        have:Z1 s=false:=by unfold Z1; rw [H3 hi' hl]; rfl
        rw [this] at h; exact h
      | true=>exact G9 rfl (hx (H2 hj hl))
    · have:low (chr s i)=false:=by unfold low; rw [decide_eq_false (by omega)]; rfl
      rw [this] at hk; exact hk
    · have:(!low (chr s i))=decide (chr s i>122):=by
        unfold low; rw [decide_eq_true (by omega:97<=chr s i),Bool.true_and,← decide_not]; congr 1; simp
      rw [this] at hk; exact hk
  · have hn:i=s.size:=by unfold sln at hi; omega
    subst hn
    refine T6 ?_
    have:Z1 s=(decide (1<=sln s)&&decide (sln s<=8)):=by
      unfold Z1 sln; rw [hj,Bool.true_and]; congr 1 <;> simp <;> omega
    rw [this] at h; exact h
theorem DN7{s:ByteArray}{Q:Bool->Prop}(h:Q (Z1 s)):AT7 s Q:=by
  unfold AT7
  have len:Z1 s=true->1<=s.size/\s.size<=8:=fun hn=>by
    unfold Z1 at hn; simp only [Bool.and_eq_true,decide_eq_true_eq] at hn; exact hn.2
  refine D3 (!(decide (1<=s.size)&&decide (s.size<=8))) ?_ fun k hk=>E1 (fun g=>?_) (fun g=>?_)
  · refine F8 (fun g=>?_) (fun g=>?_)
    · have:Z1 s=false:=by unfold Z1; rw [g,Bool.and_false]
      rw [this] at h; exact h
    · have g':1<=s.size/\s.size<=8:=by simpa using g
      refine CA3 (n:=sln s) (by unfold sln; omega) (fun i=>(List.range i).all (fun i=>low (chr s i))=true) (by simp) (fun i nx hi hj hx=>?_) (fun i hi hj=>?_)
      · have hi':i<s.size:=by unfold sln at hi; omega
        refine D3 (!low (chr s i)) ?_ fun k hk=>BW3 hi' (E1 (fun g=>?_) (fun g=>BW3 hi' ?_))
        · cases hl:low (chr s i) with
          | false =>
            refine S1 rfl ?_
            have:Z1 s=false:=by unfold Z1; rw [H3 hi' hl]; rfl
            rw [this] at h; exact h
          | true=>exact G9 rfl (hx (H2 hj hl))
        · have:low (chr s i)=false:=by unfold low; rw [decide_eq_false (by omega)]; rfl
          rw [this] at hk; exact hk
        · have:(!low (chr s i))=decide (chr s i>122):=by
            unfold low; rw [decide_eq_true (by omega:97<=chr s i),Bool.true_and,← decide_not]; congr 1; simp
          rw [this] at hk; exact hk
      · have hn:i=s.size:=by unfold sln at hi; omega
        subst hn
        have:Z1 s=true:=by unfold Z1; rw [hj,g]; rfl
        rw [this] at h; exact h
  · have:decide (1<=s.size)=false:=decide_eq_false (by unfold sln at g; omega)
    rw [this] at hk; simpa using hk
  · have:(!(decide (1<=s.size)&&decide (s.size<=8)))=decide (sln s>8):=by
      rw [decide_eq_true (show 1<=s.size by unfold sln at g; omega),Bool.true_and,← decide_not]; congr 1; unfold sln; simp; omega
    rw [this] at hk; exact hk
def CW2(v:A0):Bool:=decide (2<=v.Levels)&&decide (v.Levels<=8)
def vAt(sx:List A0)(i:Nat):A0:=sx.getD i ⟨⟨#[]⟩,0⟩
theorem R2{sx:List A0}{i:Nat}(h:i<sx.length):vAt sx i=sx[i]:=by unfold vAt; simp [List.getD_eq_getElem?_getD,h]
def BW4(sx:List A0)(i:Nat):Bool:=(List.range i).all fun j => !decide ((vAt sx j).Name=(vAt sx i).Name)
def AZ5(sx:List A0)(i:Nat):Bool:=(Z1 (vAt sx i).Name&&CW2 (vAt sx i))&&BW4 sx i
def L7(sx:List A0):Bool:=(decide (1<=sx.length)&&decide (sx.length<=6))&&(List.range sx.length).all (AZ5 sx)
theorem CR4{sx:List A0}(h:L7 sx=true):(1<=sx.length/\sx.length<=6)/\∀ i,i<sx.length->AZ5 sx i=true:=by
  unfold L7 at h
  simp only [Bool.and_eq_true,decide_eq_true_eq] at h
  exact ⟨h.1,fun i hi=>AC1 h.2 hi⟩
theorem DT8{sx:List A0}(h:L7 sx=true){i:Nat}(hi:i<sx.length):2<=sx[i].Levels/\sx[i].Levels<=8:=by
  have:=(CR4 h).2 i hi
  unfold AZ5 CW2 at this
  rw [R2 hi] at this
  simp only [Bool.and_eq_true,decide_eq_true_eq] at this
  exact this.1.2
theorem CS4{sx:List A0}{nm:ByteArray}{Q:Int->Prop}(hl:sx.length<=1048576)
    (hf:∀ i:Nat,i<sx.length->(vAt sx i).Name=nm->(∀ j,j<i->(vAt sx j).Name≠nm)->Q i) (hn:(∀ j,j<sx.length->(vAt sx j).Name≠nm)->Q (-1)):BA2 sx nm Q:=by
  unfold BA2
  refine F2 (by omega) (fun i=>∀ j,j<i->(vAt sx j).Name≠nm) (fun j hj=>by omega) (fun i nx hi hj hx=>C4 hi ?_) (fun hj=>hn hj)
  rw [CT5]
  refine E1 (fun g=>hf i hi (by rw [R2 hi]; exact g) hj) (fun g=>hx fun j hji=>?_)
  by_cases e:j=i
  · subst e; rw [R2 hi]; exact g
  · exact hj j (by omega)
theorem CD5{sx:List A0}{Q:Bool->Prop}(hl:sx.length<=1048576)(hs:∀ x∈sx,x.Name.size<=1048576)(h:Q (L7 sx)):AJ8 sx Q:=by
  unfold AJ8
  refine T6 ?_
  have e0:(decide (1<=ln sx)&&decide (ln sx<=6))=(decide (1<=sx.length)&&decide (sx.length<=6)):=by unfold ln; congr 1 <;> simp <;> omega
  rw [e0]
  refine F8 (fun g=>?_) (fun g=>?_)
  · have:L7 sx=false:=by unfold L7; rw [g]; rfl
    rw [this] at h; exact h
  · have g':1<=sx.length/\sx.length<=6:=by simpa using g
    refine F2 (by omega) (fun i=>(List.range i).all (AZ5 sx)=true) (by simp) (fun i nx hi hj hx=>C4 hi ?_) (fun hj=>?_)
    · refine D3 (!AZ5 sx i) ?_ fun k hk=>⟨Z1 sx[i].Name,DR2 (hs _ (List.getElem_mem hi)) rfl,?_⟩
      · cases hv:AZ5 sx i with
        | false =>
          refine S1 rfl ?_
          have:L7 sx=false:=by unfold L7; rw [H3 hi hv,Bool.and_false]
          rw [this] at h; exact h
        | true=>exact G9 rfl (hx (H2 hj hv))
      · unfold AZ5 at hk
        rw [R2 hi] at hk
        refine F8 (fun g1=>?_) (fun g1=>⟨CW2 sx[i],T6 rfl,F8 (fun g2=>?_) (fun g2=>?_)⟩)
        · rw [g1] at hk; simpa using hk
        · rw [g1,g2] at hk; simpa using hk
        · refine ⟨by omega,by omega,by unfold ln; omega,?_⟩
          have hd:List.take ((i:Int).toNat-(0:Int).toNat) (List.drop (0:Int).toNat sx)=sx.take i:=by simp
          rw [hd]
          have hv:∀ j,j<i->vAt (sx.take i) j=vAt sx j:=fun j hj=>by
            unfold vAt; simp [List.getD_eq_getElem?_getD,List.getElem?_take,hj]
          have hlt:(sx.take i).length=i:=by rw [List.length_take]; omega
          rw [g1,g2] at hk
          simp only [Bool.and_true,Bool.true_and] at hk
          by_cases hex:∃ j:Nat,j<i/\(vAt sx j).Name=sx[i].Name/\∀ m,m<j->(vAt sx m).Name≠sx[i].Name
          · obtain ⟨j,hji,hjn,hjm⟩:=hex
            refine ⟨(j:Int),CS4 (by omega) (fun m hm hmn hml=>?_) (fun hn=>?_),?_⟩
            · rcases Nat.lt_trichotomy j m with c | c | c
              · exact absurd (by rw [hv j (by omega)]; exact hjn) (hml j c)
              · rw [c]
              · exact absurd (by rw [← hv m (by omega)]; exact hmn) (hjm m c)
            · exact absurd (by rw [hv j hji]; exact hjn) (hn j (by omega))
            · have:BW4 sx i=false:=H3 hji (by rw [R2 hi,decide_eq_true hjn]; rfl)
              rw [this] at hk
              have e:decide ((j:Int)>=0)=true:=decide_eq_true (by omega)
              show k (decide ((j:Int)>=0))
              rw [e]; exact hk
          · have hno:∀ j,j<i->(vAt sx j).Name≠sx[i].Name:=by
              intro j
              induction j using Nat.strongRecOn with
              | _ j ih =>
                intro hj hn
                exact hex ⟨j,hj,hn,fun m hm=>ih m hm (by omega)⟩
            refine ⟨-1,CS4 (by omega) (fun m hm hmn hml=>?_) (fun hn=>rfl),?_⟩
            · exact absurd (by rw [← hv m (by omega)]; exact hmn) (hno m (by omega))
            · have:BW4 sx i=true:=List.all_eq_true.2 fun j hj=>by
                have:=hno j (List.mem_range.1 hj)
                rw [R2 hi,decide_eq_false this]; rfl
              rw [this] at hk; exact hk
    · have:L7 sx=true:=by unfold L7; rw [g,hj]; rfl
      rw [this] at h; exact h
end Go.Proofs.YtbgnaamdlcggjaaGreat
