/- Plain rules: branches, indices, words, and loops that count up. -/
import Derived.Test.YtfnmhknnliahoaaGreatDoorLib
import Derived.IntWalk
set_option linter.unusedVariables false
set_option autoImplicit false
namespace Go.Gv
open Go Go.RowKit
theorem wr_in {x:Int} (h0 : -9223372036854775808≤x) (h1:x≤9223372036854775807):wr x=x:=IntWalk.i64_in x ⟨h0,h1⟩
theorem br_of {b:Bool} {A B:Prop} (h:if b=true then A else B):br b A B:=by
  cases b with
  | false=>exact ⟨(fun k=>by cases k),fun _=>by simpa using h⟩
  | true=>exact ⟨fun _=>by simpa using h,(fun k=>by cases k)⟩
theorem br_true {b:Bool} {A B:Prop} (hb:b=true) (h:A):br b A B:=by subst hb; exact ⟨fun _=>h,(fun k=>by cases k)⟩
theorem br_false {b:Bool} {A B:Prop} (hb:b=false) (h:B):br b A B:=by subst hb; exact ⟨(fun k=>by cases k),fun _=>h⟩
theorem br_dec {p:Prop} [Decidable p] {A B:Prop} (ht:p→A) (hf:¬ p→B):br (decide p) A B :=
  ⟨fun h=>ht (of_decide_eq_true h),fun h=>hf (of_decide_eq_false h)⟩
theorem br_yes {p:Prop} [Decidable p] {A B:Prop} (h:p) (ht:A):br (decide p) A B:=br_true (decide_eq_true h) ht
theorem br_no {p:Prop} [Decidable p] {A B:Prop} (h:¬ p) (hf:B):br (decide p) A B:=br_false (decide_eq_false h) hf
theorem br_eq {a b:Int} {A B:Prop} (ht:a=b→A) (hf:a≠b→B):br (a==b) A B :=
  ⟨fun h=>ht (by simpa using h),fun h=>hf (by simpa using h)⟩
theorem br_ne {a b:Int} {A B:Prop} (ht:a≠b→A) (hf:a=b→B):br (a != b) A B :=
  ⟨fun h=>ht (by simpa using h),fun h=>hf (by simpa using h)⟩
theorem br_nb {b:Bool} {A B:Prop} (ht:b=false→A) (hf:b=true→B):br (!b) A B :=
  ⟨fun h=>ht (by simpa using h),fun h=>hf (by simpa using h)⟩
theorem br_bo {b:Bool} {A B:Prop} (ht:b=true→A) (hf:b=false→B):br b A B:=⟨ht,hf⟩
theorem idx_of {α:Type} {xs:List α} {i:Int} {K:α→Prop} (h0:0≤i) (h:i.toNat<xs.length) (k:K xs[i.toNat]):idx xs i K:=⟨_,h0,by simp [h],k⟩
theorem idx_at {α:Type} {xs:List α} {i:Nat} {K:α→Prop} (h:i<xs.length) (k:K xs[i]):idx xs (i:Int) K:=⟨_,by omega,by simp [h],k⟩
theorem jn_of {κ:Type} {f:κ→Prop} {k:κ} (h:f k):jn f k:=h
theorem ln_nat {α:Type} {xs:List α} {i:Nat}:((i:Int)<ln xs)↔i<xs.length:=by unfold ln; omega
theorem loop1_up {F:Int→(Int→Prop)→Prop} (n:Nat) (J:Nat→Prop) (h0:J 0)
    (hs:∀ (i:Nat) (nx:Int→Prop),i≤n→J i→(i<n→J (i+1)→nx ((i:Int)+1))→F (i:Int) nx):Loop1 F (0:Int):=by
  refine ⟨fun x=>∃ i:Nat,x=(i:Int)∧i≤n∧J i,fun x=>n-x.toNat,⟨0,rfl,Nat.zero_le _,h0⟩,?_⟩
  rintro _ ⟨i,rfl,hi,hj⟩
  refine hs i _ hi hj fun hn hj'=>⟨⟨i+1,by omega,by omega,hj'⟩,?_⟩
  show n-((i:Int)+1).toNat<n-(i:Int).toNat
  omega
theorem loop1_to {B:Int→(Int→Prop)→Prop} {E:Int→Prop} {n:Int} (hn:n≤4611686018427387904) (J:Nat→Prop) (h0:J 0)
    (hs:∀ (i:Nat) (nx:Int→Prop),(i:Int)<n→J i→(J (i+1)→nx (wr ((i:Int)+1)))→B (i:Int) nx)
    (he:∀ (i:Nat),i=n.toNat→J i→E (i:Int)):Loop1 (fun x nx=>br (decide (x<n)) (B x nx) (E x)) (0:Int):=by
  refine loop1_up n.toNat J h0 fun i nx hi hj hx=>br_dec (fun h=>hs i nx h hj fun hj'=>?_) (fun h=>he i (by omega) hj)
  rw [wr_in (by omega) (by omega)]; exact hx (by omega) hj'
theorem loop1_list {X:Type} {B:Int→(Int→Prop)→Prop} {E:Int→Prop} {xs:List X} (hn:xs.length≤4611686018427387904) (J:Nat→Prop) (h0:J 0)
    (hs:∀ (i:Nat) (nx:Int→Prop) (hi:i<xs.length),J i→(J (i+1)→nx (wr ((i:Int)+1)))→B (i:Int) nx)
    (he:J xs.length→E (xs.length:Int)):Loop1 (fun x nx=>br (decide (x<ln xs)) (B x nx) (E x)) (0:Int) :=
  loop1_to (n:=ln xs) (by unfold ln; omega) J h0 (fun i nx hi hj hx=>hs i nx (ln_nat.1 hi) hj hx) (fun i hi hj=>by
    have:i=xs.length:=by unfold ln at hi; omega
    subst this; exact he hj)
theorem loop2_up {T1:Type} {a0:T1} {F:T1→Int→(T1→Int→Prop)→Prop} (n:Nat) (J:T1→Nat→Prop) (h0:J a0 0)
    (hs:∀ a (i:Nat) (nx:T1→Int→Prop),i≤n→J a i→(∀ a',i<n→J a' (i+1)→nx a' ((i:Int)+1))→F a (i:Int) nx):Loop2 F a0 (0:Int):=by
  refine ⟨fun a x=>∃ i:Nat,x=(i:Int)∧i≤n∧J a i,fun _ x=>n-x.toNat,⟨0,rfl,Nat.zero_le _,h0⟩,?_⟩
  rintro a _ ⟨i,rfl,hi,hj⟩
  refine hs a i _ hi hj fun a' hn hj'=>⟨⟨i+1,by omega,by omega,hj'⟩,?_⟩
  show n-((i:Int)+1).toNat<n-(i:Int).toNat
  omega
theorem loop2_to {T1:Type} {a0:T1} {B:T1→Int→(T1→Int→Prop)→Prop} {E:T1→Int→Prop} {n:Int} (hn:n≤4611686018427387904) (J:T1→Nat→Prop) (h0:J a0 0)
    (hs:∀ a (i:Nat) (nx:T1→Int→Prop),(i:Int)<n→J a i→(∀ a',J a' (i+1)→nx a' (wr ((i:Int)+1)))→B a (i:Int) nx)
    (he:∀ a (i:Nat),i=n.toNat→J a i→E a (i:Int)):Loop2 (fun a x nx=>br (decide (x<n)) (B a x nx) (E a x)) a0 (0:Int):=by
  refine loop2_up n.toNat J h0 fun a i nx hi hj hx=>br_dec (fun h=>hs a i nx h hj fun a' hj'=>?_) (fun h=>he a i (by omega) hj)
  rw [wr_in (by omega) (by omega)]; exact hx a' (by omega) hj'
theorem loop2_list {T1:Type} {X:Type} {a0:T1} {B:T1→Int→(T1→Int→Prop)→Prop} {E:T1→Int→Prop} {xs:List X} (hn:xs.length≤4611686018427387904) (J:T1→Nat→Prop) (h0:J a0 0)
    (hs:∀ a (i:Nat) (nx:T1→Int→Prop) (hi:i<xs.length),J a i→(∀ a',J a' (i+1)→nx a' (wr ((i:Int)+1)))→B a (i:Int) nx)
    (he:∀ a,J a xs.length→E a (xs.length:Int)):Loop2 (fun a x nx=>br (decide (x<ln xs)) (B a x nx) (E a x)) a0 (0:Int) :=
  loop2_to (n:=ln xs) (by unfold ln; omega) J h0 (fun a i nx hi hj hx=>hs a i nx (ln_nat.1 hi) hj hx) (fun a i hi hj=>by
    have:i=xs.length:=by unfold ln at hi; omega
    subst this; exact he a hj)
end Go.Gv
