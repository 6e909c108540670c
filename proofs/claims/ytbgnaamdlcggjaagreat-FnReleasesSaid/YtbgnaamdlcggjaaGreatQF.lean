import Derived.Test.YtbgnaamdlcggjaaGreatQE
set_option linter.unusedVariables false
set_option autoImplicit false
namespace Go.Proofs.YtbgnaamdlcggjaaGreat
open Go Go.RowKit Go.Gv
theorem EZ6{f:Nat->Bool}{g:Nat->Int}{T x:Nat}(h:∀ k,k<T->f k=true->0<=g k/\g k<=60):Ab (mv f g T x):=fun a ha=>by
  obtain ⟨k,hk,rfl⟩:=List.mem_iff_getElem.1 ha
  rw [BZ5] at hk
  rw [BE0]
  split
  · rename_i c
    simp only [Bool.and_eq_true] at c
    exact h k hk c.2
  · omega
theorem BL6{p:List Int}{sx:List A0}{l:List B0}(hg:gOk p=true)(hL:Lok sx)(hl:S2 p sx l=true):∀ r∈L1 p sx l,Ab r.1/\r.1.length=nT p sx:=fun r hr=>by
  unfold S2 at hl
  simp only [Bool.and_eq_true,decide_eq_true_eq] at hl
  have hall:=List.all_eq_true.1 hl.1
  obtain ⟨b,hb,hr⟩:=List.mem_flatMap.1 hr
  have ⟨ht,_,_⟩:=BM9 (hall b hb)
  obtain ⟨c,_,rfl⟩:=List.mem_map.1 hr
  refine ⟨EZ6 fun k hk _=>?_,BZ5⟩
  have ⟨ci,_⟩:=cin hg hL ht hk
  unfold gB cl cell
  split
  · exact ⟨Int.le_refl _,by omega⟩
  · show 0<=amt _ _/\amt _ _<=60
    unfold amt
    split
    · omega
    · rename_i h2
      have t3:=ci.tf.2.2.1
      have hlen:b.Table.Sum.toNat<(AG0 p sx k).Values.length:=by rw [ci.v.1]; omega
      rw [H9 hlen]
      exact BW0 hL ci.v _ (List.getElem_mem hlen)
def AA9(p:List Int)(sx:List A0)(l:List B0)(n:Nat):List (List Int):=L8 (L1 p sx l) [] (nT p sx) n
theorem CA4{p:List Int}{sx:List A0}{l:List B0}(h:AN3 p sx l=true):gOk p=true/\Lok sx/\nT p sx<=12/\S2 p sx l=true/\(L1 p sx l).length<=12000:=by
  unfold AN3 at h
  simp only [Bool.and_eq_true] at h
  have ⟨a,b,c,d⟩:=BF3 h.1
  refine ⟨a,c,d,h.2,?_⟩
  have hl:=h.2
  unfold S2 at hl
  simp only [Bool.and_eq_true,decide_eq_true_eq] at hl
  have h1:=BQ2 (p:=p) (sx:=sx) (List.all_eq_true.1 hl.1)
  have:l.length * 600<=20 * 600:=Nat.mul_le_mul_right _ hl.2
  omega
theorem DP8{p:List Int}{sx:List A0}{l:List B0}{n M:Nat}{Q:List (List Int)->Prop}(h:AN3 p sx l=true)(hn:n<=8)(hM:M<=20000)(hq:Q ((AA9 p sx l n).take (M+1))):AM6 ⟨p⟩ sx l (n:Int) (M:Int) Q:=by
  have ⟨a,b,c,d,e⟩:=CA4 h
  unfold AM6
  refine DM4 (p:=p) a b c d ⟨(nT p sx:Int),BQ4 (p:=p) a b rfl,?_⟩
  exact EK0 (R:=L1 p sx l) (T:=nT p sx) (M:=M) (x:=⟨(L1 p sx l).map mkR,(nT p sx:Int),(M:Int),[]⟩) (pre:=[]) (BL6 a b d) c hM e ⟨rfl,rfl,rfl⟩ (Nat.zero_le _) (fun x hx=>by cases hx) hn (Nat.zero_le _) hq
theorem CP4{p:List Int}{sx:List A0}{l:List B0}{n M:Nat}{Q:Int->Prop}(h:AN3 p sx l=true)(hn:n<=8)(hM:M<=20001)(h0:0<M)(hq:Q ((min M (AA9 p sx l n).length:Nat):Int)):G6 ⟨p⟩ sx l (n:Int) (M:Int) Q:=by
  have ⟨a,b,c,d,e⟩:=CA4 h
  have key:∀ (Q2:Bool->List Int->List Int->Int->Prop),(∀ x y z,Q2 x y z ((min M (AA9 p sx l n).length:Nat):Int)) ->
      E3 ⟨(L1 p sx l).map mkC,List.replicate (Int.toNat (nT p sx:Int)) 0,List.replicate (Int.toNat (ln ((L1 p sx l).map mkC))) 0⟩ 0 (M:Int) 0 (n:Int) Q2:=fun Q2 h2=>by
    have e1:List.replicate (Int.toNat (nT p sx:Int)) (0:Int)=P6 (nT p sx) []:=by unfold P6; simp
    have e2:List.replicate (Int.toNat (ln ((L1 p sx l).map mkC))) (0:Int)=L6 (L1 p sx l) []:=by
      refine List.ext_getElem (by unfold L6 ln; simp) fun j h1 h2=>?_
      rw [P5,BF0]; simp
    rw [e1,e2]
    refine EC9 (R:=L1 p sx l) (T:=nT p sx) (M:=M) (pre:=[]) (found:=0) (BL6 a b d) c hM e (Nat.zero_le _) (fun x hx=>by cases hx) hn h0 ?_
    have:=h2 (decide (0+(AA9 p sx l n).length<M)) (P6 (nT p sx) []) (L6 (L1 p sx l) [])
    simp only [Nat.zero_add] at this ⊢
    exact this
  have hb:=DP6 a b
  have hml:ln ((L1 p sx l).map mkC)=((L1 p sx l).length:Int):=by unfold ln; simp
  unfold G6
  refine AM8 (p:=p) a b c d ⟨(nT p sx:Int),AC2 (p:=p) a b rfl,?_⟩
  have k2:=key (fun _ _ _ r=>Q r) fun _ _ _=>hq
  first | exact ⟨by omega,by omega,by omega,by omega,k2⟩ | exact ⟨⟨by omega,by omega,by omega,by omega,k2⟩,⟨by omega,by omega,by omega,by omega,k2⟩,⟨by omega,by omega,by omega,by omega,k2⟩,⟨by omega,by omega,by omega,by omega,k2⟩⟩
end Go.Proofs.YtbgnaamdlcggjaaGreat
