import Derived.Test.YtbgnaamdlcggjaaGreatLib
import Derived.IntWalk
set_option linter.unusedVariables false
set_option autoImplicit false
namespace Go.Gv
open Go Go.RowKit
theorem E9{x:Int}(h0 : -9223372036854775808<=x)(h1:x<=9223372036854775807):wr x=x:=IntWalk.i64_in x ⟨h0,h1⟩
theorem FA6{b:Bool}{A B:Prop}(h:if b=true then A else B):br b A B:=by
  cases b with
  | false=>exact ⟨(fun k=>by cases k),fun _=>by simpa using h⟩
  | true=>exact ⟨fun _=>by simpa using h,(fun k=>by cases k)⟩
theorem S1{b:Bool}{A B:Prop}(hb:b=true)(h:A):br b A B:=by subst hb; exact ⟨fun _=>h,(fun k=>by cases k)⟩
theorem G9{b:Bool}{A B:Prop}(hb:b=false)(h:B):br b A B:=by subst hb; exact ⟨(fun k=>by cases k),fun _=>h⟩
theorem E1{p:Prop}[Decidable p]{A B:Prop}(ht:p->A)(hf:¬ p->B):br (decide p) A B :=
  ⟨fun h=>ht (of_decide_eq_true h),fun h=>hf (of_decide_eq_false h)⟩
theorem BZ2{p:Prop}[Decidable p]{A B:Prop}(h:p)(ht:A):br (decide p) A B:=S1 (decide_eq_true h) ht
theorem DG5{p:Prop}[Decidable p]{A B:Prop}(h:¬ p)(hf:B):br (decide p) A B:=G9 (decide_eq_false h) hf
theorem P8{a b:Int}{A B:Prop}(ht:a=b->A)(hf:a≠b->B):br (a==b) A B :=
  ⟨fun h=>ht (by simpa using h),fun h=>hf (by simpa using h)⟩
theorem AT1{a b:Int}{A B:Prop}(ht:a≠b->A)(hf:a=b->B):br (a != b) A B :=
  ⟨fun h=>ht (by simpa using h),fun h=>hf (by simpa using h)⟩
theorem F8{b:Bool}{A B:Prop}(ht:b=false->A)(hf:b=true->B):br (!b) A B :=
  ⟨fun h=>ht (by simpa using h),fun h=>hf (by simpa using h)⟩
theorem K0{b:Bool}{A B:Prop}(ht:b=true->A)(hf:b=false->B):br b A B:=⟨ht,hf⟩
theorem AE3{α:Type}{xs:List α}{i:Int}{K:α->Prop}(h0:0<=i)(h:i.toNat<xs.length)(k:K xs[i.toNat]):idx xs i K:=⟨_,h0,by simp [h],k⟩
theorem C4{α:Type}{xs:List α}{i:Nat}{K:α->Prop}(h:i<xs.length)(k:K xs[i]):idx xs (i:Int) K:=⟨_,by omega,by simp [h],k⟩
theorem AW6{κ:Type}{f:κ->Prop}{k:κ}(h:f k):jn f k:=h
theorem AR0{α:Type}{xs:List α}{i:Nat}:((i:Int)<ln xs)↔i<xs.length:=by unfold ln; omega
theorem EB3{F:Int->(Int->Prop)->Prop}(n:Nat)(J:Nat->Prop)(h0:J 0)
    (hs:∀ (i:Nat) (nx:Int->Prop),i<=n->J i->(i<n->J (i+1)->nx ((i:Int)+1))->F (i:Int) nx):N5 F (0:Int):=by
  refine ⟨fun x=>∃ i:Nat,x=(i:Int)/\i<=n/\J i,fun x=>n-x.toNat,⟨0,rfl,Nat.zero_le _,h0⟩,?_⟩
  rintro _ ⟨i,rfl,hi,hj⟩
  refine hs i _ hi hj fun hn hj'=>⟨⟨i+1,by omega,by omega,hj'⟩,?_⟩
  show n-((i:Int)+1).toNat<n-(i:Int).toNat
  omega
theorem CA3{B:Int->(Int->Prop)->Prop}{E:Int->Prop}{n:Int}(hn:n<=4611686018427387904)(J:Nat->Prop)(h0:J 0)
    (hs:∀ (i:Nat) (nx:Int->Prop),(i:Int)<n->J i->(J (i+1)->nx (wr ((i:Int)+1)))->B (i:Int) nx)
    (he:∀ (i:Nat),i=n.toNat->J i->E (i:Int)):N5 (fun x nx=>br (decide (x<n)) (B x nx) (E x)) (0:Int):=by
  refine EB3 n.toNat J h0 fun i nx hi hj hx=>E1 (fun h=>hs i nx h hj fun hj'=>?_) (fun h=>he i (by omega) hj)
  rw [E9 (by omega) (by omega)]; exact hx (by omega) hj'
theorem F2{X:Type}{B:Int->(Int->Prop)->Prop}{E:Int->Prop}{xs:List X}(hn:xs.length<=4611686018427387904)(J:Nat->Prop)(h0:J 0)
    (hs:∀ (i:Nat) (nx:Int->Prop) (hi:i<xs.length),J i->(J (i+1)->nx (wr ((i:Int)+1)))->B (i:Int) nx)
    (he:J xs.length->E (xs.length:Int)):N5 (fun x nx=>br (decide (x<ln xs)) (B x nx) (E x)) (0:Int) :=
  CA3 (n:=ln xs) (by unfold ln; omega) J h0 (fun i nx hi hj hx=>hs i nx (AR0.1 hi) hj hx) (fun i hi hj=>by
    have:i=xs.length:=by unfold ln at hi; omega
    subst this; exact he hj)
theorem DW4{T1:Type}{a0:T1}{F:T1->Int->(T1->Int->Prop)->Prop}(n:Nat)(J:T1->Nat->Prop)(h0:J a0 0)
    (hs:∀ a (i:Nat) (nx:T1->Int->Prop),i<=n->J a i->(∀ a',i<n->J a' (i+1)->nx a' ((i:Int)+1))->F a (i:Int) nx):J6 F a0 (0:Int):=by
  refine ⟨fun a x=>∃ i:Nat,x=(i:Int)/\i<=n/\J a i,fun _ x=>n-x.toNat,⟨0,rfl,Nat.zero_le _,h0⟩,?_⟩
  rintro a _ ⟨i,rfl,hi,hj⟩
  refine hs a i _ hi hj fun a' hn hj'=>⟨⟨i+1,by omega,by omega,hj'⟩,?_⟩
  show n-((i:Int)+1).toNat<n-(i:Int).toNat
  omega
theorem CS7{T1:Type}{a0:T1}{B:T1->Int->(T1->Int->Prop)->Prop}{E:T1->Int->Prop}{n:Int}(hn:n<=4611686018427387904)(J:T1->Nat->Prop)(h0:J a0 0)
    (hs:∀ a (i:Nat) (nx:T1->Int->Prop),(i:Int)<n->J a i->(∀ a',J a' (i+1)->nx a' (wr ((i:Int)+1)))->B a (i:Int) nx)
    (he:∀ a (i:Nat),i=n.toNat->J a i->E a (i:Int)):J6 (fun a x nx=>br (decide (x<n)) (B a x nx) (E a x)) a0 (0:Int):=by
  refine DW4 n.toNat J h0 fun a i nx hi hj hx=>E1 (fun h=>hs a i nx h hj fun a' hj'=>?_) (fun h=>he a i (by omega) hj)
  rw [E9 (by omega) (by omega)]; exact hx a' (by omega) hj'
theorem F4{T1:Type}{X:Type}{a0:T1}{B:T1->Int->(T1->Int->Prop)->Prop}{E:T1->Int->Prop}{xs:List X}(hn:xs.length<=4611686018427387904)(J:T1->Nat->Prop)(h0:J a0 0)
    (hs:∀ a (i:Nat) (nx:T1->Int->Prop) (hi:i<xs.length),J a i->(∀ a',J a' (i+1)->nx a' (wr ((i:Int)+1)))->B a (i:Int) nx)
    (he:∀ a,J a xs.length->E a (xs.length:Int)):J6 (fun a x nx=>br (decide (x<ln xs)) (B a x nx) (E a x)) a0 (0:Int) :=
  CS7 (n:=ln xs) (by unfold ln; omega) J h0 (fun a i nx hi hj hx=>hs a i nx (AR0.1 hi) hj hx) (fun a i hi hj=>by
    have:i=xs.length:=by unfold ln at hi; omega
    subst this; exact he a hj)
theorem EA6{T1 T2:Type}{a0:T1}{b0:T2}{F:T1->T2->Int->(T1->T2->Int->Prop)->Prop}(n:Nat)(J:T1->T2->Nat->Prop)(h0:J a0 b0 0)
    (hs:∀ a b (i:Nat) (nx:T1->T2->Int->Prop),i<=n->J a b i->(∀ a' b',i<n->J a' b' (i+1)->nx a' b' ((i:Int)+1))->F a b (i:Int) nx):BC8 F a0 b0 (0:Int):=by
  refine ⟨fun a b x=>∃ i:Nat,x=(i:Int)/\i<=n/\J a b i,fun _ _ x=>n-x.toNat,⟨0,rfl,Nat.zero_le _,h0⟩,?_⟩
  rintro a b _ ⟨i,rfl,hi,hj⟩
  refine hs a b i _ hi hj fun a' b' hn hj'=>⟨⟨i+1,by omega,by omega,hj'⟩,?_⟩
  show n-((i:Int)+1).toNat<n-(i:Int).toNat
  omega
theorem EB7{T1 T2:Type}{a0:T1}{b0:T2}{B:T1->T2->Int->(T1->T2->Int->Prop)->Prop}{E:T1->T2->Int->Prop}{n:Int}(hn:n<=4611686018427387904)(J:T1->T2->Nat->Prop)(h0:J a0 b0 0)
    (hs:∀ a b (i:Nat) (nx:T1->T2->Int->Prop),(i:Int)<n->J a b i->(∀ a' b',J a' b' (i+1)->nx a' b' (wr ((i:Int)+1)))->B a b (i:Int) nx)
    (he:∀ a b (i:Nat),i=n.toNat->J a b i->E a b (i:Int)):BC8 (fun a b x nx=>br (decide (x<n)) (B a b x nx) (E a b x)) a0 b0 (0:Int):=by
  refine EA6 n.toNat J h0 fun a b i nx hi hj hx=>E1 (fun h=>hs a b i nx h hj fun a' b' hj'=>?_) (fun h=>he a b i (by omega) hj)
  rw [E9 (by omega) (by omega)]; exact hx a' b' (by omega) hj'
theorem BK3{T1 T2:Type}{X:Type}{a0:T1}{b0:T2}{B:T1->T2->Int->(T1->T2->Int->Prop)->Prop}{E:T1->T2->Int->Prop}{xs:List X}(hn:xs.length<=4611686018427387904)(J:T1->T2->Nat->Prop)(h0:J a0 b0 0)
    (hs:∀ a b (i:Nat) (nx:T1->T2->Int->Prop) (hi:i<xs.length),J a b i->(∀ a' b',J a' b' (i+1)->nx a' b' (wr ((i:Int)+1)))->B a b (i:Int) nx)
    (he:∀ a b,J a b xs.length->E a b (xs.length:Int)):BC8 (fun a b x nx=>br (decide (x<ln xs)) (B a b x nx) (E a b x)) a0 b0 (0:Int) :=
  EB7 (n:=ln xs) (by unfold ln; omega) J h0 (fun a b i nx hi hj hx=>hs a b i nx (AR0.1 hi) hj hx) (fun a b i hi hj=>by
    have:i=xs.length:=by unfold ln at hi; omega
    subst this; exact he a b hj)
theorem AM3{X:Type}{T1:Type}{a0:T1}{B:Int->T1->(Int->T1->Prop)->Prop}{E:Int->T1->Prop}{xs:List X}(hn:xs.length<=4611686018427387904)(J:T1->Nat->Prop)(h0:J a0 0)
    (hs:∀ a (i:Nat) (nx:Int->T1->Prop) (hi:i<xs.length),J a i->(∀ a',J a' (i+1)->nx (wr ((i:Int)+1)) a')->B (i:Int) a nx)
    (he:∀ a,J a xs.length->E (xs.length:Int) a):J6 (fun x a nx=>br (decide (x<ln xs)) (B x a nx) (E x a)) (0:Int) a0:=by
  refine ⟨fun x a=>∃ i:Nat,x=(i:Int)/\i<=xs.length/\J a i,fun x _=>xs.length-x.toNat,⟨0,rfl,Nat.zero_le _,h0⟩,?_⟩
  rintro _ a ⟨i,rfl,hi,hj⟩
  refine E1 (fun h=>hs a i _ (AR0.1 h) hj fun a' hj'=>⟨⟨i+1,?_,?_,hj'⟩,?_⟩) (fun h=>?_)
  · rw [E9 (by omega) (by omega)]; rfl
  · have:=AR0.1 h; omega
  · have h1:=AR0.1 h
    have h2:wr ((i:Int)+1)=i+1:=E9 (by omega) (by omega)
    show xs.length-(wr ((i:Int)+1)).toNat<xs.length-(i:Int).toNat
    rw [h2]; omega
  · have:i=xs.length:=by
      have:¬ i<xs.length:=fun c=>h (AR0.2 c)
      omega
    subst this; exact he a hj
theorem CS0{X:Type}{T1 T2:Type}{a0:T1}{b0:T2}{B:Int->T1->T2->(Int->T1->T2->Prop)->Prop}{E:Int->T1->T2->Prop}{xs:List X}(hn:xs.length<=4611686018427387904)(J:T1->T2->Nat->Prop)(h0:J a0 b0 0)
    (hs:∀ a b (i:Nat) (nx:Int->T1->T2->Prop) (hi:i<xs.length),J a b i->(∀ a' b',J a' b' (i+1)->nx (wr ((i:Int)+1)) a' b')->B (i:Int) a b nx)
    (he:∀ a b,J a b xs.length->E (xs.length:Int) a b):BC8 (fun x a b nx=>br (decide (x<ln xs)) (B x a b nx) (E x a b)) (0:Int) a0 b0:=by
  refine ⟨fun x a b=>∃ i:Nat,x=(i:Int)/\i<=xs.length/\J a b i,fun x _ _=>xs.length-x.toNat,⟨0,rfl,Nat.zero_le _,h0⟩,?_⟩
  rintro _ a b ⟨i,rfl,hi,hj⟩
  refine E1 (fun h=>hs a b i _ (AR0.1 h) hj fun a' b' hj'=>⟨⟨i+1,?_,?_,hj'⟩,?_⟩) (fun h=>?_)
  · rw [E9 (by omega) (by omega)]; rfl
  · have:=AR0.1 h; omega
  · have h1:=AR0.1 h
    have h2:wr ((i:Int)+1)=i+1:=E9 (by omega) (by omega)
    show xs.length-(wr ((i:Int)+1)).toNat<xs.length-(i:Int).toNat
    rw [h2]; omega
  · have:i=xs.length:=by
      have:¬ i<xs.length:=fun c=>h (AR0.2 c)
      omega
    subst this; exact he a b hj
end Go.Gv
