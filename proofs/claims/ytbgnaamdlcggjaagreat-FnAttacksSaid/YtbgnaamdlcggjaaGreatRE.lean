/- Plain facts about ranges: least and greatest numbers of lists, place by place. -/
import Derived.Test.YtbgnaamdlcggjaaGreatRDPure
set_option linter.unusedVariables false
set_option autoImplicit false
namespace Go.Proofs.YtbgnaamdlcggjaaGreat
open Go Go.RowKit Go.Gv
theorem l1Least_ok {a b:Int} {Q:Int→Prop} (h:Q (mn a b)):spec_l1Least a b Q:=by
  unfold spec_l1Least
  refine br_dec (fun g=>?_) (fun g=>?_)
  · have e:mn a b=a:=if_neg (by omega)
    rw [← e]; exact h
  · by_cases c:b<a
    · have e:mn a b=b:=if_pos c
      rw [← e]; exact h
    · have e:mn a b=b:=by show (if b<a then b else a)=b; rw [if_neg c]; omega
      rw [← e]; exact h
theorem l1Most_ok {a b:Int} {Q:Int→Prop} (h:Q (mx a b)):spec_l1Most a b Q:=by
  unfold spec_l1Most
  refine br_dec (fun g=>?_) (fun g=>?_)
  · have e:mx a b=a:=if_neg (by omega)
    rw [← e]; exact h
  · by_cases c:b>a
    · have e:mx a b=b:=if_pos c
      rw [← e]; exact h
    · have e:mx a b=b:=by show (if b>a then b else a)=b; rw [if_neg c]; omega
      rw [← e]; exact h
theorem l1Own_ok {l:List Int} {Q:List Int→Prop} (hl:l.length≤1048576) (hq:Q l):spec_l1Own l Q:=⟨by unfold ln; simp; omega,by simpa using hq⟩
def zmn (lo v:List Int):List Int:=List.zipWith (fun a b=>mn a b) lo v
def zmx (hi v:List Int):List Int:=List.zipWith (fun a b=>mx a b) hi v
theorem zmn_len {lo v:List Int} (h:lo.length=v.length):(zmn lo v).length=v.length:=by unfold zmn; rw [List.length_zipWith]; omega
theorem zmx_len {lo v:List Int} (h:lo.length=v.length):(zmx lo v).length=v.length:=by unfold zmx; rw [List.length_zipWith]; omega
/-- The first i are turned, the others not yet. -/
def upTo (A B:List Int) (i:Nat):List Int:=A.take i++B.drop i
theorem upTo_len {A B:List Int} {i:Nat} (h:A.length=B.length) (hi:i≤B.length):(upTo A B i).length=B.length:=by unfold upTo; rw [List.length_append,List.length_take,List.length_drop]; omega
theorem upTo_zero {A B:List Int}:upTo A B 0=B:=by unfold upTo; simp
theorem upTo_all {A B:List Int} {i:Nat} (h:A.length=B.length) (hi:i=B.length):upTo A B i=A:=by unfold upTo; rw [List.take_of_length_le (by omega),List.drop_eq_nil_of_le (by omega),List.append_nil]
theorem upTo_at {A B:List Int} {i:Nat} (h:A.length=B.length) (hi:i<B.length) (h2:i<(upTo A B i).length):(upTo A B i)[i]=B[i]:=by
  have h3:i<(A.take i++B.drop i).length:=h2
  have h4:(upTo A B i)[i]=(A.take i++B.drop i)[i]'h3:=rfl
  refine h4.trans ?_
  rw [List.getElem_append_right (by rw [List.length_take]; omega)]
  simp only [List.getElem_drop,List.length_take]
  congr 1; omega
theorem upTo_set {A B:List Int} {i:Nat} (h:A.length=B.length) (hi:i<B.length):(upTo A B i).set i (A[i]'(by omega))=upTo A B (i+1):=by
  unfold upTo
  rw [List.drop_eq_getElem_cons hi,List.set_append_right _ _ (by rw [List.length_take]; omega)]
  have e:i-(A.take i).length=0:=by rw [List.length_take]; omega
  have e3:A.take (i+1)=A.take i++[A[i]'(by omega)]:=by
    rw [List.take_add_one,List.getElem?_eq_getElem (by omega:i<A.length)]; rfl
  rw [e,List.set_cons_zero,e3,List.append_assoc]
  rfl
abbrev St:=List Int×List Int
def stp2 (s:St) (v:List Int):St:=(zmn s.1 v,zmx s.2 v)
def stp (s:St) (v:List Int):St:=if s.1=[] then stp2 (v,v) v else stp2 s v
def rg:List (List Int)→St
  | []=>([],[])
  | t :: r=>(t :: r).foldl stp2 (t,t)
theorem stp_len {s:St} {v:List Int} {T:Nat} (hv:v.length=T) (h:s.1=[]∨(s.1.length=T∧s.2.length=T)):(stp s v).1.length=T∧(stp s v).2.length=T:=by
  unfold stp stp2
  split
  · exact ⟨by show (zmn v v).length=T; rw [zmn_len rfl,hv],by show (zmx v v).length=T; rw [zmx_len rfl,hv]⟩
  · rename_i c
    rcases h with h | ⟨h1,h2⟩
    · exact absurd h c
    · exact ⟨by show (zmn s.1 v).length=T; rw [zmn_len (by omega),hv],by show (zmx s.2 v).length=T; rw [zmx_len (by omega),hv]⟩
theorem stp2_fold {T:Nat} (hT:0<T):∀ (L:List (List Int)) (s:St),(∀ t∈L,t.length=T)→s.1.length=T→s.2.length=T→L.foldl stp s=L.foldl stp2 s∧(L.foldl stp2 s).1.length=T∧(L.foldl stp2 s).2.length=T
  | [],s,_,h1,h2=>⟨rfl,h1,h2⟩
  | t :: L,s,h,h1,h2=>by
    have ht:=h t (List.mem_cons_self ..)
    have e:stp s t=stp2 s t:=by
      unfold stp; rw [if_neg]; intro c; rw [c] at h1; simp at h1; omega
    simp only [List.foldl_cons]
    rw [e]
    exact stp2_fold hT L (stp2 s t) (fun x hx=>h x (List.mem_cons_of_mem _ hx)) (by show (zmn s.1 t).length=T; rw [zmn_len (by omega),ht]) (by show (zmx s.2 t).length=T; rw [zmx_len (by omega),ht])
theorem rg_fold {T:Nat} (hT:0<T) {L:List (List Int)} (h:∀ t∈L,t.length=T):L.foldl stp ([],[])=rg L∧(L≠[]→(rg L).1.length=T∧(rg L).2.length=T):=by
  cases L with
  | nil=>exact ⟨rfl,fun c=>absurd rfl c⟩
  | cons t L =>
    have ht:=h t (List.mem_cons_self ..)
    have e:stp ([],[]) t=stp2 (t,t) t:=by unfold stp; rw [if_pos rfl]
    have hl:=stp2_fold hT L (stp2 (t,t) t) (fun x hx=>h x (List.mem_cons_of_mem _ hx)) (by show (zmn t t).length=T; rw [zmn_len rfl,ht]) (by show (zmx t t).length=T; rw [zmx_len rfl,ht])
    refine ⟨?_,fun _=>hl.2⟩
    simp only [List.foldl_cons,rg]
    rw [e]; exact hl.1
/-- The loop that takes one more list in. -/
theorem takeIn_ok {v lo hi:List Int} {Q:List Int→List Int→Prop} (h1:lo.length=v.length) (h2:hi.length=v.length) (hv:v.length≤1048576) (hq:Q (zmn lo v) (zmx hi v)) :
    Loop3 (fun (x:Int) (a b:List Int) nx =>
      br (decide (x<ln v)) (idx v x fun y=>idx a x fun z=>idx b x fun z'=>(0:Int)≤x∧Int.toNat x<List.length a∧((0:Int)≤x∧Int.toNat x<List.length b ∧
        nx (wr (x+1)) (List.set a (Int.toNat x) (mn z y)) (List.set b (Int.toNat x) (mx z' y)))) (Q a b)) 0 lo hi:=by
  have l1:=zmn_len h1
  have l2:=zmx_len h2
  refine loop3_listF (by omega) (fun a b i=>a=upTo (zmn lo v) lo i∧b=upTo (zmx hi v) hi i) ⟨upTo_zero.symm,upTo_zero.symm⟩ ?_ ?_
  · rintro a b i nx hi' ⟨rfl,rfl⟩ hx
    have n1:(upTo (zmn lo v) lo i).length=lo.length:=upTo_len (by omega) (by omega)
    have n2:(upTo (zmx hi v) hi i).length=hi.length:=upTo_len (by omega) (by omega)
    refine idx_at hi' (idx_at (by omega) (idx_at (by omega) ⟨by omega,by omega,by omega,by omega,?_⟩))
    rw [upTo_at (by omega) (by omega) (by omega),upTo_at (by omega) (by omega) (by omega),Int.toNat_natCast]
    refine hx _ _ ⟨?_,?_⟩
    · rw [← upTo_set (by omega) (by omega)]; congr 1; unfold zmn; rw [List.getElem_zipWith]
    · rw [← upTo_set (by omega) (by omega)]; congr 1; unfold zmx; rw [List.getElem_zipWith]
  · rintro a b ⟨rfl,rfl⟩
    rw [upTo_all (by omega) (by omega),upTo_all (by omega) (by omega)]; exact hq
end Go.Proofs.YtbgnaamdlcggjaaGreat
