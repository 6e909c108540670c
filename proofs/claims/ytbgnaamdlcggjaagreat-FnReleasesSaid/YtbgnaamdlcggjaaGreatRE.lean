import Derived.Test.YtbgnaamdlcggjaaGreatRDPure
set_option linter.unusedVariables false
set_option autoImplicit false
namespace Go.Proofs.YtbgnaamdlcggjaaGreat
open Go Go.RowKit Go.Gv
theorem CZ4{a b:Int}{Q:Int->Prop}(h:Q (mn a b)):AQ0 a b Q:=by
  unfold AQ0
  refine E1 (fun g=>?_) (fun g=>?_)
  · have e:mn a b=a:=if_neg (by omega)
    rw [← e]; exact h
  · by_cases c:b<a
    · have e:mn a b=b:=if_pos c
      rw [← e]; exact h
    · have e:mn a b=b:=by show (if b<a then b else a)=b; rw [if_neg c]; omega
      rw [← e]; exact h
theorem DP1{a b:Int}{Q:Int->Prop}(h:Q (mx a b)):AU1 a b Q:=by
  unfold AU1
  refine E1 (fun g=>?_) (fun g=>?_)
  · have e:mx a b=a:=if_neg (by omega)
    rw [← e]; exact h
  · by_cases c:b>a
    · have e:mx a b=b:=if_pos c
      rw [← e]; exact h
    · have e:mx a b=b:=by show (if b>a then b else a)=b; rw [if_neg c]; omega
      rw [← e]; exact h
theorem AL9{l:List Int}{Q:List Int->Prop}(hl:l.length<=1048576)(hq:Q l):N4 l Q:=⟨by unfold ln; simp; omega,by simpa using hq⟩
def zmn(lo v:List Int):List Int:=List.zipWith (fun a b=>mn a b) lo v
def zmx(hi v:List Int):List Int:=List.zipWith (fun a b=>mx a b) hi v
theorem BA1{lo v:List Int}(h:lo.length=v.length):(zmn lo v).length=v.length:=by unfold zmn; rw [List.length_zipWith]; omega
theorem BC1{lo v:List Int}(h:lo.length=v.length):(zmx lo v).length=v.length:=by unfold zmx; rw [List.length_zipWith]; omega
def AZ0(A B:List Int)(i:Nat):List Int:=A.take i++B.drop i
theorem BN9{A B:List Int}{i:Nat}(h:A.length=B.length)(hi:i<=B.length):(AZ0 A B i).length=B.length:=by unfold AZ0; rw [List.length_append,List.length_take,List.length_drop]; omega
theorem BG6{A B:List Int}:AZ0 A B 0=B:=by unfold AZ0; simp
theorem BN2{A B:List Int}{i:Nat}(h:A.length=B.length)(hi:i=B.length):AZ0 A B i=A:=by unfold AZ0; rw [List.take_of_length_le (by omega),List.drop_eq_nil_of_le (by omega),List.append_nil]
theorem BW1{A B:List Int}{i:Nat}(h:A.length=B.length)(hi:i<B.length)(h2:i<(AZ0 A B i).length):(AZ0 A B i)[i]=B[i]:=by
  have h3:i<(A.take i++B.drop i).length:=h2
  have h4:(AZ0 A B i)[i]=(A.take i++B.drop i)[i]'h3:=rfl
  refine h4.trans ?_
  rw [List.getElem_append_right (by rw [List.length_take]; omega)]
  simp only [List.getElem_drop,List.length_take]
  congr 1; omega
theorem BN1{A B:List Int}{i:Nat}(h:A.length=B.length)(hi:i<B.length):(AZ0 A B i).set i (A[i]'(by omega))=AZ0 A B (i+1):=by
  unfold AZ0
  rw [List.drop_eq_getElem_cons hi,List.set_append_right _ _ (by rw [List.length_take]; omega)]
  have e:i-(A.take i).length=0:=by rw [List.length_take]; omega
  have e3:A.take (i+1)=A.take i++[A[i]'(by omega)]:=by
    rw [List.take_add_one,List.getElem?_eq_getElem (by omega:i<A.length)]; rfl
  rw [e,List.set_cons_zero,e3,List.append_assoc]
  rfl
abbrev St:=List Int×List Int
def BR8(s:St)(v:List Int):St:=(zmn s.1 v,zmx s.2 v)
def stp(s:St)(v:List Int):St:=if s.1=[] then BR8 (v,v) v else BR8 s v
def rg:List (List Int)->St
  | []=>([],[])
  | t :: r=>(t :: r).foldl BR8 (t,t)
theorem EL3{s:St}{v:List Int}{T:Nat}(hv:v.length=T)(h:s.1=[]∨(s.1.length=T/\s.2.length=T)):(stp s v).1.length=T/\(stp s v).2.length=T:=by
  unfold stp BR8
  split
  · exact ⟨by show (zmn v v).length=T; rw [BA1 rfl,hv],by show (zmx v v).length=T; rw [BC1 rfl,hv]⟩
  · rename_i c
    rcases h with h | ⟨h1,h2⟩
    · exact absurd h c
    · exact ⟨by show (zmn s.1 v).length=T; rw [BA1 (by omega),hv],by show (zmx s.2 v).length=T; rw [BC1 (by omega),hv]⟩
theorem CH7{T:Nat}(hT:0<T):∀ (L:List (List Int)) (s:St),(∀ t∈L,t.length=T)->s.1.length=T->s.2.length=T->L.foldl stp s=L.foldl BR8 s/\(L.foldl BR8 s).1.length=T/\(L.foldl BR8 s).2.length=T
  | [],s,_,h1,h2=>⟨rfl,h1,h2⟩
  | t :: L,s,h,h1,h2=>by
    have ht:=h t (List.mem_cons_self ..)
    have e:stp s t=BR8 s t:=by
      unfold stp; rw [if_neg]; intro c; rw [c] at h1; simp at h1; omega
    simp only [List.foldl_cons]
    rw [e]
    exact CH7 hT L (BR8 s t) (fun x hx=>h x (List.mem_cons_of_mem _ hx)) (by show (zmn s.1 t).length=T; rw [BA1 (by omega),ht]) (by show (zmx s.2 t).length=T; rw [BC1 (by omega),ht])
theorem DD1{T:Nat}(hT:0<T){L:List (List Int)}(h:∀ t∈L,t.length=T):L.foldl stp ([],[])=rg L/\(L≠[]->(rg L).1.length=T/\(rg L).2.length=T):=by
  cases L with
  | nil=>exact ⟨rfl,fun c=>absurd rfl c⟩
  | cons t L =>
    have ht:=h t (List.mem_cons_self ..)
    have e:stp ([],[]) t=BR8 (t,t) t:=by unfold stp; rw [if_pos rfl]
    have hl:=CH7 hT L (BR8 (t,t) t) (fun x hx=>h x (List.mem_cons_of_mem _ hx)) (by show (zmn t t).length=T; rw [BA1 rfl,ht]) (by show (zmx t t).length=T; rw [BC1 rfl,ht])
    refine ⟨?_,fun _=>hl.2⟩
    simp only [List.foldl_cons,rg]
    rw [e]; exact hl.1
theorem CJ9{v lo hi:List Int}{Q:List Int->List Int->Prop}(h1:lo.length=v.length)(h2:hi.length=v.length)(hv:v.length<=1048576)(hq:Q (zmn lo v) (zmx hi v)) :
    BC8 (fun (x:Int) (a b:List Int) nx =>
      br (decide (x<ln v)) (idx v x fun y=>idx a x fun z=>idx b x fun z'=>(0:Int)<=x/\Int.toNat x<List.length a/\((0:Int)<=x/\Int.toNat x<List.length b /\
        nx (wr (x+1)) (List.set a (Int.toNat x) (mn z y)) (List.set b (Int.toNat x) (mx z' y)))) (Q a b)) 0 lo hi:=by
  have l1:=BA1 h1
  have l2:=BC1 h2
  refine CS0 (by omega) (fun a b i=>a=AZ0 (zmn lo v) lo i/\b=AZ0 (zmx hi v) hi i) ⟨BG6.symm,BG6.symm⟩ ?_ ?_
  · rintro a b i nx hi' ⟨rfl,rfl⟩ hx
    have n1:(AZ0 (zmn lo v) lo i).length=lo.length:=BN9 (by omega) (by omega)
    have n2:(AZ0 (zmx hi v) hi i).length=hi.length:=BN9 (by omega) (by omega)
    refine C4 hi' (C4 (by omega) (C4 (by omega) ⟨by omega,by omega,by omega,by omega,?_⟩))
    rw [BW1 (by omega) (by omega) (by omega),BW1 (by omega) (by omega) (by omega),Int.toNat_natCast]
    refine hx _ _ ⟨?_,?_⟩
    · rw [← BN1 (by omega) (by omega)]; congr 1; unfold zmn; rw [List.getElem_zipWith]
    · rw [← BN1 (by omega) (by omega)]; congr 1; unfold zmx; rw [List.getElem_zipWith]
  · rintro a b ⟨rfl,rfl⟩
    rw [BN2 (by omega) (by omega),BN2 (by omega) (by omega)]; exact hq
end Go.Proofs.YtbgnaamdlcggjaaGreat
