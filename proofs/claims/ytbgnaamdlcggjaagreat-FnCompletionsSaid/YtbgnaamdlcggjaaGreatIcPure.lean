/- The plain law of IsCover: some completion passes exactly if every maximal edit that the values fail involves a variable that may be changed. -/
import Derived.Test.YtbgnaamdlcggjaaGreatEoPure
set_option linter.unusedVariables false
set_option autoImplicit false
namespace Go.Proofs.YtbgnaamdlcggjaaGreat
open Go Go.RowKit Go.Gv
def one (v:Int):Int:=((2 ^ v.toNat:Nat):Int)
theorem sOr_gt {s:Int} {y:Nat} (h:0≤s) (hb:tb s (y:Int)=false):s<sOr s (y:Int):=by
  have h1:=sOr_ge (y:=y) h
  have h2:sOr s (y:Int)≠s:=fun e=>by
    have:=tb_sOr (s:=s) (x:=(y:Int)) (y:=(y:Int))
    rw [e,hb] at this; simp at this
  omega
def wt:List Int→Nat
  | []=>0
  | s :: t=>(256-s.toNat)+wt t
theorem wt_set:∀ {t:List Int} {k:Nat} {s:Int},Sb t→(hk:k<t.length)→t[k]<s→s<256→wt (t.set k s)<wt t
  | u :: t,0,s,hs,_,h,h2=>by
    have h1:u<s:=h
    have:=hs u (List.mem_cons_self ..)
    simp only [List.set_cons_zero,wt]; omega
  | u :: t,k+1,s,hs,hk,h,h2=>by
    have:=wt_set (t:=t) (k:=k) (s:=s) (fun a ha=>hs a (List.mem_cons_of_mem _ ha)) (by simpa using hk) (by simpa using h) h2
    simp only [List.set_cons_succ,wt]; omega
theorem gi_set {t:List Int} {k j:Nat} {s:Int} (hk:k<t.length):gi (t.set k s) j=if k=j then s else gi t j:=by
  unfold gi
  by_cases e:k=j
  · subst e; simp [List.getD_eq_getElem?_getD,hk]
  · simp [List.getD_eq_getElem?_getD,e]
theorem wt_at:∀ {t:List Int} {k:Nat} (hk:k<t.length),256-t[k].toNat≤wt t
  | u :: t,0,_=>by simp only [List.getElem_cons_zero,wt]; omega
  | u :: t,k+1,hk=>by
    have:=wt_at (t:=t) (k:=k) (by simpa using hk)
    simp only [List.getElem_cons_succ,wt]; omega
theorem range_any_of {n:Nat} {p:Nat→Bool} (h:(List.range n).any p=true):∃ i,i<n∧p i=true:=by
  obtain ⟨i,hi,hp⟩:=List.any_eq_true.1 h
  exact ⟨i,List.mem_range.1 hi,hp⟩
theorem grow {sx:List Variable} {M:List Int→Bool} (hL:Lok sx):∀ (n:Nat) (t:List Int),wt t≤n→inE (-1) 0 sx t→M t=true →
    ∃ t',inE (-1) 0 sx t'∧keep sx M t'=true∧∀ j (y:Int),tb (gi t j) y=true→tb (gi t' j) y=true:=by
  intro n
  induction n with
  | zero =>
    intro t hn ht hM
    by_cases hg:grw sx M t=true
    · exfalso
      unfold grw at hg
      obtain ⟨k,hk,hg⟩:=range_any_of hg
      have hB:=inE_B hL.2 ht
      have hsb:=inB_Sb hL hB
      have:=hsb _ (List.getElem_mem hk)
      have h1:=wt_at hk
      omega
    · exact ⟨t,ht,by unfold keep; rw [hM]; simp only [Bool.not_eq_true] at hg; rw [hg]; rfl,fun _ _ h=>h⟩
  | succ n ih =>
    intro t hn ht hM
    by_cases hg:grw sx M t=true
    · have hg':=hg
      unfold grw at hg'
      obtain ⟨k,hk,hg'⟩:=range_any_of hg'
      obtain ⟨y,hy,hg'⟩:=range_any_of hg'
      simp only [Bool.and_eq_true,Bool.not_eq_true'] at hg'
      have hB:=inE_B hL.2 ht
      have hl:=inB_length hB
      have hsb:=inB_Sb hL hB
      have hb:=hsb _ (List.getElem_mem hk)
      have ⟨_,_,hlv⟩:=lv_at hL (show k<sx.length by omega)
      rw [vAt_at (by omega)] at hy
      have hin:=inE_set (k:=k) (y:=y) hL.2 ht (by omega) (by rw [vAt_at (by omega)]; exact hy)
      have hb2:=sOr_b (y:=y) hb (by omega)
      have hlt:=sOr_gt (s:=t[k]) (y:=y) hb.1 (by rw [← gi_at hk]; exact hg'.1)
      have hwt:=wt_set hsb hk hlt hb2.2
      rw [gi_at hk] at hin hg'
      obtain ⟨t',h1,h2,h3⟩:=ih _ (by omega) hin hg'.2
      refine ⟨t',h1,h2,fun j z hz=>h3 j z ?_⟩
      rw [gi_set hk]
      split
      · rename_i e; subst e
        rw [gi_at hk] at hz
        rw [tb_sOr,hz]; rfl
      · exact hz
    · exact ⟨t,ht,by unfold keep; rw [hM]; simp only [Bool.not_eq_true] at hg; rw [hg]; rfl,fun _ _ h=>h⟩
def fitOk (sx:List Variable) (vs:List Int):Bool:=decide (vs.length=sx.length)&&(List.range sx.length).all fun i=>inb 0 ((vAt sx i).Levels-1) (gi vs i)
def oth (sx:List Variable) (vars:List Int):List Int:=((List.range sx.length).filter fun (i:Nat) => !hasB vars (i:Int)).map fun (i:Nat)=>(i:Int)
def agree (sx:List Variable) (vars vs c:List Int):Bool:=(oth sx vars).all fun v=>gi c v.toNat==gi vs v.toNat
def compl (sx:List Variable) (l:List Edit) (vs vars:List Int):Bool:=(pass sx l).any (agree sx vars vs)
theorem vals_fit {sx:List Variable} (hL:Lok sx) (i:Nat):∀ (j:Nat),j<sx.length→0≤gi (vals sx i) j∧gi (vals sx i) j<(lv (vAt sx j):Int):=by
  have key:∀ (r:List Variable) (j:Nat),(∀ x∈r,2≤x.Levels∧x.Levels≤8)→j<r.length→0≤gi (vals r i) j∧gi (vals r i) j<(lv (vAt r j):Int):=by
    intro r
    induction r with
    | nil=>intro j _ hj; simp at hj
    | cons x r ih =>
      intro j h hj
      cases j with
      | zero =>
        have h3:=h x (List.mem_cons_self ..)
        have hlt:i / cnt r % lv x<lv x:=Nat.mod_lt _ (by unfold lv; omega)
        show 0≤((i / cnt r % lv x:Nat):Int)∧((i / cnt r % lv x:Nat):Int)<(lv x:Int)
        generalize i / cnt r % lv x=q at hlt
        omega
      | succ j=>exact ih j (fun y hy=>h y (List.mem_cons_of_mem _ hy)) (by simpa using hj)
  exact fun j hj=>key sx j hL.2 hj
end Go.Proofs.YtbgnaamdlcggjaaGreat
