import Derived.Test.YtbgnaamdlcggjaaGreatRDefs
import Derived.Test.YtbgnaamdlcggjaaGreatPL
set_option linter.unusedVariables false
set_option autoImplicit false
namespace Go.Proofs.YtbgnaamdlcggjaaGreat
open Go Go.RowKit Go.Gv
theorem T6{n lo hi:Int}{Q:Bool->Prop}(h:Q (decide (lo<=n)&&decide (n<=hi))):K2 n lo hi Q:=by
  unfold K2
  refine FA6 ?_
  split
  · rename_i h1
    have h1:lo<=n:=of_decide_eq_true h1
    simpa [h1] using h
  · rename_i h1
    have h1:¬ lo<=n:=fun c=>h1 (decide_eq_true c)
    simpa [h1] using h
theorem D3{A:Type}{f:(A->Prop)->Prop}{k:A->Prop}(b:A)(h:k b)(hf:∀ k':A->Prop,k' b->f k'):jn f k:=hf k h
theorem DD9{A:Type}{f:(A->Prop)->Prop}{k:A->Prop}(a:A)(h:f (fun x=>x=a))(hk:k a):AS2 f k:=⟨a,h,hk⟩
theorem CU6{α:Type}{xs ys:List α}{i:Nat}(hl:xs.length=ys.length)(hi:i<xs.length)(h:xs.take i=ys.take i):(xs.set i (ys[i]'(hl ▸ hi))).take (i+1)=ys.take (i+1):=by
  have hy:i<ys.length:=hl ▸ hi
  rw [List.take_succ_eq_append_getElem (by simpa using hi),List.take_succ_eq_append_getElem hy]
  simp only [List.getElem_set_self]
  congr 1
  rw [List.take_set,List.set_eq_of_length_le (by rw [List.length_take]; omega),h]
theorem CB6{α:Type}{a b:List α}{n:Nat}(h:a.take n=b.take n)(ha:a.length=n)(hb:b.length=n):a=b:=by
  rw [← List.take_length (l:=a),← List.take_length (l:=b),ha,hb]; exact h
def inb(lo hi x:Int):Bool:=decide (lo<=x)&&decide (x<=hi)
theorem U2{lo hi x:Int}:inb lo hi x=true↔lo<=x/\x<=hi:=by simp [inb]
theorem BJ2{p:Int->Bool}{l:List Int}{i:Nat}(hi:i<l.length)(h:(l.take i).all p=true)(hp:p l[i]=true):(l.take (i+1)).all p=true:=by
  rw [List.take_succ_eq_append_getElem hi,List.all_append,h]; simp [hp]
theorem CJ3{p:Int->Bool}{l:List Int}{i:Nat}(hi:i<l.length)(hp:p l[i]=false):l.all p=false:=by
  rw [List.all_eq_false]; exact ⟨l[i],List.getElem_mem hi,by simp [hp]⟩
theorem CP9{l:List Int}{lo hi:Int}{Q:Bool->Prop}(hl:l.length<=1048576)(h:Q (l.all (inb lo hi))):AE7 l lo hi Q:=by
  unfold AE7
  refine F2 (by omega) (fun i=>(l.take i).all (inb lo hi)=true) (by simp) (fun i nx hi' hj hx=>C4 hi' (T6 (F8 (fun hb=>?_) (fun hb=>hx (BJ2 hi' hj hb))))) (fun hj=>?_)
  · rw [CJ3 hi' hb] at h; exact h
  · rw [List.take_length] at hj; rw [hj] at h; exact h
end Go.Proofs.YtbgnaamdlcggjaaGreat
