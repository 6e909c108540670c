/- Plain facts about the small functions that the laws use: equality of lists, marks, loops. -/
import Derived.Test.YtfkblhplgnbppaaGreatUDefs
import Derived.Test.YtfkblhplgnbppaaGreatPL
set_option linter.unusedVariables false
set_option autoImplicit false
namespace Go.Proofs.YtfkblhplgnbppaaGreat
open Go Go.RowKit Go.Gv
theorem eqIntS_ok {a b:List Int} {Q:Bool→Prop} (hl:a.length≤4611686018427387904) (h:Q (decide (a=b))):laws_eqIntS a b Q:=by
  unfold laws_eqIntS
  refine br_of ?_
  split
  · rename_i hne
    have:decide (a=b)=false:=by
      rw [decide_eq_false_iff_not]; rintro rfl; simp at hne
    rw [this] at h; exact h
  · rename_i he
    have hlen:a.length=b.length:=by
      have he':¬ ((a.length:Int)!=(b.length:Int))=true:=he
      simp at he'; omega
    refine ⟨fun i=>0≤i∧i≤a.length∧a.take i.toNat=b.take i.toNat,fun i=>((a.length:Int)-i).toNat,⟨by omega,by omega,by simp⟩,fun i ⟨h0,h1,h2⟩=>?_⟩
    refine br_of ?_
    split
    · rename_i hi
      have hi:i<(a.length:Int):=of_decide_eq_true hi
      have hia:i.toNat<a.length:=by omega
      refine idx_of h0 hia (idx_of h0 (by omega) (br_of ?_))
      split
      · rename_i hx
        have:decide (a=b)=false:=by
          rw [decide_eq_false_iff_not]; rintro rfl; simp at hx
        rw [this] at h; exact h
      · rename_i hx
        have hx:a[i.toNat]=b[i.toNat]:=by simpa using hx
        have hw:wr (i+1)=i+1:=wr_in (by omega) (by omega)
        rw [hw]
        refine ⟨⟨by omega,by omega,?_⟩,?_⟩
        · rw [show (i+1).toNat=i.toNat+1 from by omega,List.take_succ_eq_append_getElem hia,List.take_succ_eq_append_getElem (by omega:i.toNat<b.length),h2,hx]
        · show ((a.length:Int)-(i+1)).toNat<((a.length:Int)-i).toNat
          omega
    · rename_i hi
      have hi:¬ i<(a.length:Int):=fun c=>hi (decide_eq_true c)
      have e:i.toNat=a.length:=by omega
      rw [e,List.take_length,hlen,List.take_length] at h2
      rw [h2] at h; simpa using h
def marks (k:Int) (n:Nat):List Int:=(List.range n).map fun (i:Nat)=>k+(i:Int)
theorem marks_length (k:Int) (n:Nat):(marks k n).length=n:=by simp [marks]
theorem marks_get (k:Int) (n i:Nat) (h:i<(marks k n).length):(marks k n)[i]=k+(i:Int):=by simp [marks]
theorem markIntS_ok {a:List Int} {k:Int} {Q:Int→List Int→Prop} (hl:a.length≤4611686018427387904) (hk : -4611686018427387904≤k) (hk':k≤4611686018427387903)
    (h:Q (k+(a.length:Int)) (marks k a.length)):laws_markIntS a k Q:=by
  unfold laws_markIntS
  refine ⟨fun a2 k2 i=>0≤i∧i≤a.length∧k2=k+i∧a2.length=a.length∧∀ j:Nat,(hj:j<a2.length)→j<i.toNat→a2[j]=k+j,fun _ _ i=>((a.length:Int)-i).toNat,
    ⟨by omega,by omega,by omega,rfl,fun j hj h=>by simp at h⟩,fun a2 k2 i ⟨h0,h1,h2,h3,h4⟩=>?_⟩
  refine br_of ?_
  split
  · rename_i hi
    have hi:i<(a.length:Int):=of_decide_eq_true hi
    refine ⟨h0,by omega,?_⟩
    rw [wr_in (by omega) (by omega),wr_in (by omega) (by omega)]
    refine ⟨⟨by omega,by omega,by omega,by simpa using h3,fun j hj hji=>?_⟩,?_⟩
    · by_cases e:i.toNat=j
      · subst e; simp; omega
      · rw [List.getElem_set_ne e]; exact h4 j (by simpa using hj) (by omega)
    · show ((a.length:Int)-(i+1)).toNat<((a.length:Int)-i).toNat
      omega
  · rename_i hi
    have hi:¬ i<(a.length:Int):=fun c=>hi (decide_eq_true c)
    have e1:k2=k+a.length:=by omega
    have e2:a2=marks k a.length:=by
      refine List.ext_getElem (by rw [marks_length,h3]) fun j hj hj'=>?_
      rw [h4 j hj (by omega),marks_get]
    rw [e1,e2]; exact h
theorem heldIntS_ok {k:Int} {n:Nat} {Q:Int→Prop} (hl:n≤4611686018427387904) (hk : -4611686018427387904≤k) (hk':k≤4611686018427387903)
    (h:Q (k+(n:Int))):laws_heldIntS (marks k n) k Q:=by
  unfold laws_heldIntS
  refine ⟨fun k2 i=>0≤i∧i≤n∧k2=k+i,fun _ i=>((n:Int)-i).toNat,⟨by omega,by omega,by omega⟩,fun k2 i ⟨h0,h1,h2⟩=>?_⟩
  refine br_of ?_
  have hm:(marks k n).length=n:=marks_length k n
  split
  · rename_i hi
    have hi:i<((marks k n).length:Int):=of_decide_eq_true hi
    refine idx_of h0 (by omega) (br_of ?_)
    rw [marks_get,if_neg (by simp; omega),wr_in (by omega) (by omega),wr_in (by omega) (by omega)]
    refine ⟨⟨by omega,by omega,by omega⟩,?_⟩
    show ((n:Int)-(i+1)).toNat<((n:Int)-i).toNat
    omega
  · rename_i hi
    have hi:¬ i<((marks k n).length:Int):=fun c=>hi (decide_eq_true c)
    have e1:k2=k+n:=by omega
    rw [e1]; exact h
theorem l1In_ok {n lo hi:Int} {Q:Bool→Prop} (h:Q (decide (lo≤n)&&decide (n≤hi))):spec_l1In n lo hi Q:=by
  unfold spec_l1In
  refine br_of ?_
  split
  · rename_i h1
    have h1:lo≤n:=of_decide_eq_true h1
    simpa [h1] using h
  · rename_i h1
    have h1:¬ lo≤n:=fun c=>h1 (decide_eq_true c)
    simpa [h1] using h
theorem jn_bool {A:Type} {f:(A→Prop)→Prop} {k:A→Prop} (b:A) (h:k b) (hf:∀ k':A→Prop,k' b→f k'):jn f k:=hf k h
theorem det1_of {A:Type} {f:(A→Prop)→Prop} {k:A→Prop} (a:A) (h:f (fun x=>x=a)) (hk:k a):det1 f k:=⟨a,h,hk⟩
/-- A list filled from the front: the first i are done. -/
theorem set_done {α:Type} {xs ys:List α} {i:Nat} (hl:xs.length=ys.length) (hi:i<xs.length) (h:xs.take i=ys.take i):(xs.set i (ys[i]'(hl ▸ hi))).take (i+1)=ys.take (i+1):=by
  have hy:i<ys.length:=hl ▸ hi
  rw [List.take_succ_eq_append_getElem (by simpa using hi),List.take_succ_eq_append_getElem hy]
  simp only [List.getElem_set_self]
  congr 1
  rw [List.take_set,List.set_eq_of_length_le (by rw [List.length_take]; omega),h]
theorem eq_of_take {α:Type} {a b:List α} {n:Nat} (h:a.take n=b.take n) (ha:a.length=n) (hb:b.length=n):a=b:=by
  rw [← List.take_length (l:=a),← List.take_length (l:=b),ha,hb]; exact h
theorem toIntS_ok {a:List Int} {Q:List Int→Prop} (hl:a.length≤1048576) (h:Q a):laws_toIntS a Q:=by
  unfold laws_toIntS
  refine ⟨by unfold ln; omega,by unfold ln; omega,?_⟩
  refine loop2_list (by omega) (fun out i=>out.length=a.length∧out.take i=a.take i) ⟨by simp,by simp⟩ (fun out i nx hi ⟨h1,h2⟩ hx=>idx_at hi ⟨by omega,by omega,?_⟩) (fun out ⟨h1,h2⟩=>?_)
  · refine hx _ ⟨by simpa using h1,?_⟩
    exact set_done h1 (by omega) h2
  · have:out=a:=by rw [← List.take_length (l:=out),h1,h2,List.take_length]
    rw [this]; exact h
def inb (lo hi x:Int):Bool:=decide (lo≤x)&&decide (x≤hi)
theorem inb_iff' {lo hi x:Int}:inb lo hi x=true↔lo≤x∧x≤hi:=by simp [inb]
end Go.Proofs.YtfkblhplgnbppaaGreat
