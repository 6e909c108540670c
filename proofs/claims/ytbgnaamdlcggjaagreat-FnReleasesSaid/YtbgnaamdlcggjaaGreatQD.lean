import Derived.Test.YtbgnaamdlcggjaaGreatQC
set_option linter.unusedVariables false
set_option autoImplicit false
namespace Go.Proofs.YtbgnaamdlcggjaaGreat
open Go Go.RowKit Go.Gv
def L6(R:List (List Int×Int))(pre:List Int):List Int:=R.map fun r=>dot r.1 pre
def P6(T:Nat)(pre:List Int):List Int:=pre++List.replicate (T-pre.length) 0
theorem AQ2{T:Nat}{pre:List Int}(h:pre.length<=T):(P6 T pre).length=T:=by unfold P6; rw [List.length_append,List.length_replicate]; omega
theorem AH7{am pre:List Int}{n:Int}(h:pre.length<am.length):dot am (pre++[n])=dot am pre+am[pre.length] * n:=by
  rw [BK1 (by omega),List.drop_eq_getElem_cons h]
  simp only [dot,BF0]; omega
theorem BR4{T:Nat}{pre:List Int}{n:Int}(h:pre.length<T):(P6 T pre).set pre.length n=P6 T (pre++[n]):=by
  unfold P6
  obtain ⟨m,hm⟩:∃ m,T-pre.length=m+1:=⟨T-pre.length-1,by omega⟩
  rw [hm,List.replicate_succ,List.set_append_right _ _ (Nat.le_refl _),Nat.sub_self,List.set_cons_zero,List.append_assoc]
  congr 2
  simp; omega
theorem CC4{T:Nat}{pre:List Int}{n:Int}(h:pre.length<T):(P6 T (pre++[n])).set pre.length 0=P6 T pre:=by
  rw [← BR4 h,List.set_set]
  unfold P6
  obtain ⟨m,hm⟩:∃ m,T-pre.length=m+1:=⟨T-pre.length-1,by omega⟩
  rw [hm,List.replicate_succ,List.set_append_right _ _ (Nat.le_refl _),Nat.sub_self,List.set_cons_zero]
theorem BK8{T:Nat}{pre:List Int}(h:pre.length<T):(P6 T pre)[pre.length]'(by rw [AQ2 (by omega)]; exact h)=0:=by
  unfold P6
  rw [List.getElem_append_right (Nat.le_refl _)]
  simp
theorem BF9{T:Nat}{pre:List Int}{n:Int}(h:pre.length<T):(P6 T (pre++[n]))[pre.length]'(by rw [AQ2 (by simp; omega)]; exact h)=n:=by
  unfold P6
  rw [List.getElem_append_left (by simp)]
  simp
theorem DW8{R:List (List Int×Int)}{T:Nat}{cs ss:List Int}{c13 c17 n:Int}{k:Nat}{Q:List Int->List Int->Prop}(hR:∀ r∈R,Ab r.1/\r.1.length=T)(hRl:R.length<=12000)(hk:k<T)(hcl:cs.length=T)(hn : -8<=n/\n<=8)
    (hcb:∀ h:k<cs.length,0<=cs[k]/\cs[k]<=8) (hss:ss.length=R.length) (hsb:∀ s∈ss,0<=s/\s<=100000)
    (hq:∀ ss':List Int,ss'.length=R.length->(∀ j (h1:j<R.length) (h2:j<ss'.length) (h3:j<ss.length) (h4:k<R[j].1.length),ss'[j]=ss[j]+n * R[j].1[k])->∀ h:k<cs.length,Q (cs.set k (cs[k]+n)) ss') :
    E4 ⟨R.map mkC,cs,ss⟩ c13 c17 (k:Int) n Q:=by
  have hk':k<cs.length:=by omega
  have hc:=hcb hk'
  have hml:(R.map mkC).length=R.length:=by simp
  unfold E4
  dsimp only
  refine C4 hk' ⟨by omega,by omega,?_⟩
  rw [E9 (x:=cs[k]+n) (by omega) (by omega)]
  refine AM3 (by omega) (fun s i=>s.length=R.length/\∀ j (h1:j<R.length) (h2:j<s.length) (h3:j<ss.length) (h4:k<R[j].1.length),s[j]=if j<i then ss[j]+n * R[j].1[k] else ss[j]) ⟨hss,fun j h1 h2 h3 h4=>by simp⟩ ?_ ?_
  · rintro s i nx hi ⟨h1,h2⟩ hx
    have hi':i<R.length:=by omega
    have ⟨r1,r2⟩:=hR _ (List.getElem_mem hi')
    have em:(R.map mkC)[i]=mkC R[i]:=by simp
    refine C4 hi (C4 (by omega) ?_)
    rw [em]
    have h4:k<R[i].1.length:=by omega
    refine C4 (xs:=R[i].1) h4 ⟨by omega,by omega,?_⟩
    have hs:=h2 i hi' (by omega) (by omega) h4
    rw [if_neg (by omega)] at hs
    have hb:=hsb _ (List.getElem_mem (show i<ss.length by omega))
    have ha:=r1 _ (List.getElem_mem h4)
    have hm : -480<=n * R[i].1[k]/\n * R[i].1[k]<=480:=by
      by_cases c:0<=n
      · have:=BT1 ha ⟨c,hn.2⟩; rw [Int.mul_comm]; omega
      · have:=BT1 ha (c := -n) (by omega)
        have e:R[i].1[k] * -n = -(n * R[i].1[k]):=by rw [Int.mul_neg,Int.mul_comm]
        rw [e] at this; omega
    rw [hs]
    generalize hqq:n * R[i].1[k]=q at hm
    rw [E9 (x:=q) (by omega) (by omega),E9 (x:=ss[i]+q) (by omega) (by omega)]
    refine hx _ ⟨by simpa using h1,fun j g1 g2 g3 g4=>?_⟩
    rw [List.getElem_set]
    split
    · rename_i e
      have e:i=j:=by omega
      subst e; rw [if_pos (by omega),hqq]
    · rename_i e
      have:=h2 j g1 (by simpa using g2) g3 g4
      rw [this]
      by_cases c:j<i
      · rw [if_pos c,if_pos (by omega)]
      · rw [if_neg c,if_neg (by omega)]
  · rintro s ⟨h1,h2⟩
    rw [Int.toNat_natCast]
    refine hq s h1 (fun j g1 g2 g3 g4=>?_) hk'
    rw [h2 j g1 g2 g3 g4,if_pos (by omega)]
end Go.Proofs.YtbgnaamdlcggjaaGreat
