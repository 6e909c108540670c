/- Plain facts about the small functions that the laws use: equality of lists, marks, loops. -/
import Derived.Test.YtfnmhknnliahoaaDoorPDefs
import Derived.Test.YtfnmhknnliahoaaDoorPL
set_option linter.unusedVariables false
set_option autoImplicit false
namespace Go.Proofs.YtfnmhknnliahoaaDoor
open Go Go.RowKit Go.Gv
theorem eqIntS_ok {a b:List Int} {Q:Bool→Prop} (hl:a.length≤4611686018427387904) (h:Q (decide (a=b))):laws_eqIntS a b Q:=by
  unfold laws_eqIntS
  refine br_of ?_
  split
  · rename_i hne
    have:decide (a=b)=false:=by
      rw [decide_eq_false_iff_not]; rintro rfl; simp at hne
    rw [this] at h; exact h
  · rename_i he
    have hlen:a.length=b.length:=by
      have he':¬ ((a.length:Int)!=(b.length:Int))=true:=he
      simp at he'; omega
    refine ⟨fun i=>0≤i∧i≤a.length∧a.take i.toNat=b.take i.toNat,fun i=>((a.length:Int)-i).toNat,⟨by omega,by omega,by simp⟩,fun i ⟨h0,h1,h2⟩=>?_⟩
    refine br_of ?_
    split
    · rename_i hi
      have hi:i<(a.length:Int):=of_decide_eq_true hi
      have hia:i.toNat<a.length:=by omega
      refine idx_of h0 hia (idx_of h0 (by omega) (br_of ?_))
      split
      · rename_i hx
        have:decide (a=b)=false:=by
          rw [decide_eq_false_iff_not]; rintro rfl; simp at hx
        rw [this] at h; exact h
      · rename_i hx
        have hx:a[i.toNat]=b[i.toNat]:=by simpa using hx
        have hw:wr (i+1)=i+1:=wr_in (by omega) (by omega)
        rw [hw]
        refine ⟨⟨by omega,by omega,?_⟩,?_⟩
        · rw [show (i+1).toNat=i.toNat+1 from by omega,List.take_succ_eq_append_getElem hia,List.take_succ_eq_append_getElem (by omega:i.toNat<b.length),h2,hx]
        · show ((a.length:Int)-(i+1)).toNat<((a.length:Int)-i).toNat
          omega
    · rename_i hi
      have hi:¬ i<(a.length:Int):=fun c=>hi (decide_eq_true c)
      have e:i.toNat=a.length:=by omega
      rw [e,List.take_length,hlen,List.take_length] at h2
      rw [h2] at h; simpa using h
theorem l1In_ok {n lo hi:Int} {Q:Bool→Prop} (h:Q (decide (lo≤n)&&decide (n≤hi))):spec_l1In n lo hi Q:=by
  unfold spec_l1In
  refine br_of ?_
  split
  · rename_i h1
    have h1:lo≤n:=of_decide_eq_true h1
    simpa [h1] using h
  · rename_i h1
    have h1:¬ lo≤n:=fun c=>h1 (decide_eq_true c)
    simpa [h1] using h
theorem jn_bool {A:Type} {f:(A→Prop)→Prop} {k:A→Prop} (b:A) (h:k b) (hf:∀ k':A→Prop,k' b→f k'):jn f k:=hf k h
theorem det1_of {A:Type} {f:(A→Prop)→Prop} {k:A→Prop} (a:A) (h:f (fun x=>x=a)) (hk:k a):det1 f k:=⟨a,h,hk⟩
theorem det2_of {A B:Type} {f:(A→B→Prop)→Prop} {k:A→B→Prop} (a:A) (b:B) (h:f (fun x y=>x=a∧y=b)) (hk:k a b):det2 f k:=⟨a,b,h,hk⟩
/-- A list filled from the front: the first i are done. -/
theorem set_done {α:Type} {xs ys:List α} {i:Nat} (hl:xs.length=ys.length) (hi:i<xs.length) (h:xs.take i=ys.take i):(xs.set i (ys[i]'(hl ▸ hi))).take (i+1)=ys.take (i+1):=by
  have hy:i<ys.length:=hl ▸ hi
  rw [List.take_succ_eq_append_getElem (by simpa using hi),List.take_succ_eq_append_getElem hy]
  simp only [List.getElem_set_self]
  congr 1
  rw [List.take_set,List.set_eq_of_length_le (by rw [List.length_take]; omega),h]
theorem eq_of_take {α:Type} {a b:List α} {n:Nat} (h:a.take n=b.take n) (ha:a.length=n) (hb:b.length=n):a=b:=by
  rw [← List.take_length (l:=a),← List.take_length (l:=b),ha,hb]; exact h
theorem toIntS_ok {a:List Int} {Q:List Int→Prop} (hl:a.length≤1048576) (h:Q a):laws_toIntS a Q:=by
  unfold laws_toIntS
  refine ⟨by unfold ln; omega,by unfold ln; omega,?_⟩
  refine loop2_list (by omega) (fun out i=>out.length=a.length∧out.take i=a.take i) ⟨by simp,by simp⟩ (fun out i nx hi ⟨h1,h2⟩ hx=>idx_at hi ⟨by omega,by omega,?_⟩) (fun out ⟨h1,h2⟩=>?_)
  · refine hx _ ⟨by simpa using h1,?_⟩
    exact set_done h1 (by omega) h2
  · have:out=a:=by rw [← List.take_length (l:=out),h1,h2,List.take_length]
    rw [this]; exact h
def inb (lo hi x:Int):Bool:=decide (lo≤x)&&decide (x≤hi)
theorem inb_iff' {lo hi x:Int}:inb lo hi x=true↔lo≤x∧x≤hi:=by simp [inb]
theorem all_take_succ {p:Int→Bool} {l:List Int} {i:Nat} (hi:i<l.length) (h:(l.take i).all p=true) (hp:p l[i]=true):(l.take (i+1)).all p=true:=by
  rw [List.take_succ_eq_append_getElem hi,List.all_append,h]; simp [hp]
theorem all_false {p:Int→Bool} {l:List Int} {i:Nat} (hi:i<l.length) (hp:p l[i]=false):l.all p=false:=by
  rw [List.all_eq_false]; exact ⟨l[i],List.getElem_mem hi,by simp [hp]⟩
theorem l1All_ok {l:List Int} {lo hi:Int} {Q:Bool→Prop} (hl:l.length≤1048576) (h:Q (l.all (inb lo hi))):spec_l1All l lo hi Q:=by
  unfold spec_l1All
  refine loop1_list (by omega) (fun i=>(l.take i).all (inb lo hi)=true) (by simp) (fun i nx hi' hj hx=>idx_at hi' (l1In_ok (br_nb (fun hb=>?_) (fun hb=>hx (all_take_succ hi' hj hb))))) (fun hj=>?_)
  · rw [all_false hi' hb] at h; exact h
  · rw [List.take_length] at hj; rw [hj] at h; exact h
theorem inb_all {l:List Int} {lo hi:Int} (h:l.all (inb lo hi)=true):∀ x∈l,lo≤x∧x≤hi:=fun x hx=>by
  have:=List.all_eq_true.1 h x hx
  simpa [inb] using this
end Go.Proofs.YtfnmhknnliahoaaDoor
