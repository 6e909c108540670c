/- Plain facts about texts: bytes, numbers in decimal, copies of a string, fractions; and what texts of maps and profiles rest on. -/
import Derived.Test.YtfnmhknnliahoaaGreatDoorSB
set_option linter.unusedVariables false
set_option autoImplicit false
namespace Go.Proofs.YtfnmhknnliahoaaGreatDoor
open Go Go.RowKit Go.Gv
def mb (l:List UInt8):ByteArray:=⟨l.toArray⟩
theorem mb_app (a b:List UInt8):mb a++mb b=mb (a++b):=by
  unfold mb
  have:((⟨a.toArray⟩:ByteArray)++(⟨b.toArray⟩:ByteArray)).data=a.toArray++b.toArray:=ByteArray.data_append
  cases h:(⟨a.toArray⟩:ByteArray)++(⟨b.toArray⟩:ByteArray) with
  | mk d=>rw [h] at this; simp only at this; rw [this]; simp
theorem sln_mb (l:List UInt8):sln (mb l)=(l.length:Int):=by
  unfold sln mb; simp [ByteArray.size]
theorem b1_eq {n:Nat} (h:n<10):b2s [B8.mk (IntKind.u8.wrap (wr (48+(n:Int))))]=mb [UInt8.ofNat (48+n)]:=by
  rw [wr_in (by omega) (by omega)]
  have e:IntKind.u8.wrap (48+(n:Int))=((48+n:Nat):Int):=by
    show (48+(n:Int)) % 256=_
    omega
  rw [e]; rfl
def dd (n:Nat):List UInt8:=Lib.decDigits n
theorem dd_small {n:Nat} (h:n<10):dd n=[UInt8.ofNat (48+n)]:=Lib.decDigits_one h
theorem dd_big {n:Nat} (h:¬ n<10):dd n=dd (n / 10)++[UInt8.ofNat (48+n % 10)]:=by
  unfold dd; rw [Lib.decDigits,dif_neg h]
theorem dd_lenk:∀ (k n:Nat),n<10 ^ (k+1)→(dd n).length≤k+1
  | 0,n,h=>by rw [dd_small (by simpa using h)]; simp
  | k+1,n,h=>by
    by_cases g:n<10
    · rw [dd_small g]; simp
    · rw [dd_big g,List.length_append]
      have:=dd_lenk k (n / 10) (by rw [Nat.div_lt_iff_lt_mul (by omega)]; rw [Nat.pow_succ] at h; exact h)
      simp only [List.length_singleton]; omega
theorem dd_len (n:Nat) (h:n≤9223372036854775807):(dd n).length≤19:=dd_lenk 18 n (by omega)
theorem l1Num_ok {n:Nat} {Q:ByteArray→Prop} (hn:n≤9223372036854775000) (h:Q (mb (dd n))):spec_l1Num (n:Int) Q:=by
  unfold spec_l1Num
  refine ⟨fun x Q=>∃ m:Nat,x=(m:Int)∧m≤9223372036854775000∧Q (mb (dd m)),fun x=>x.toNat,⟨n,rfl,hn,h⟩,?_⟩
  rintro _ Q ⟨m,rfl,hm,hq⟩
  refine br_dec (fun g=>?_) (fun g=>?_)
  · rw [b1_eq (by omega)]; rw [dd_small (by omega)] at hq; exact hq
  · have e1:Int.tdiv (m:Int) 10=((m / 10:Nat):Int):=by rw [Int.tdiv_eq_ediv_of_nonneg (by omega)]; omega
    have e2:Int.tmod (m:Int) 10=((m % 10:Nat):Int):=by rw [Int.tmod_eq_emod_of_nonneg (by omega)]; omega
    rw [e1,e2,wr_in (x:=((m / 10:Nat):Int)) (by omega) (by omega)]
    refine det1_of (mb (dd (m / 10))) ⟨⟨m / 10,rfl,by omega,rfl⟩,?_⟩ ?_
    · show ((m / 10:Nat):Int).toNat<((m:Nat):Int).toNat
      omega
    · have:=dd_len (m / 10) (by omega)
      rw [b1_eq (Nat.mod_lt _ (by omega))]
      refine ⟨by rw [sln_mb,sln_mb]; simp only [List.length_singleton]; omega,?_⟩
      rw [mb_app,← dd_big (by omega)]; exact hq
theorem Itoa_ok {n:Nat} {Q:ByteArray→Prop} (hn:n≤9223372036854775000) (h:Q (mb (dd n))):strconv_Itoa (n:Int) Q:=by
  refine ⟨by omega,by omega,?_⟩
  have e:itoaB (n:Int)=mb (dd n):=by unfold itoaB mb dd; rw [Lib.itoa_nonneg]
  rw [e]; exact h
theorem Repeat_ok {l:List UInt8} {n:Nat} {Q:ByteArray→Prop} (hl:l.length≤100) (hn:n≤1000000) (h:Q (mb (Lib.repeatL l n))):strings_Repeat (mb l) (n:Int) Q:=by
  refine ⟨by omega,?_,by omega,?_⟩
  · rw [sln_mb]
    have:(l.length:Int) * (n:Int)≤100 * 1000000:=Int.mul_le_mul (by omega) (by omega) (by omega) (by omega)
    omega
  · have e:rpt (mb l) (n:Int)=mb (Lib.repeatL l n):=by unfold rpt mb; simp
    rw [e]; exact h
theorem rep_succ (l:List UInt8) (n:Nat):Lib.repeatL l (n+1)=Lib.repeatL l n++l:=by rw [Lib.repeatL_add,Lib.repeatL_one]
theorem awithin_ok {l:List Int} {lo hi:Int} {Q:Bool→Prop} (hl:l.length≤1048576) (h:Q (l.all (inb lo hi))):impl_areWithin l lo hi Q:=by
  unfold impl_areWithin
  refine loop1_list (by omega) (fun i=>(l.take i).all (inb lo hi)=true) (by simp) (fun i nx hi' hj hx=>idx_at hi' ?_) (fun hj=>by rw [List.take_length] at hj; rw [hj] at h; exact h)
  refine jn_bool (!inb lo hi l[i]) ?_ fun k hk=>br_dec (fun g=>?_) (fun g=>?_)
  · refine br_nb (fun g=>?_) (fun g=>hx (by rw [List.take_add_one,List.getElem?_eq_getElem hi',List.all_append,hj]; simpa using g))
    have:l.all (inb lo hi)=false:=by rw [Bool.eq_false_iff]; intro c; rw [List.all_eq_true.1 c _ (List.getElem_mem hi')] at g; cases g
    rw [this] at h; exact h
  · have:inb lo hi l[i]=false:=by unfold inb; rw [decide_eq_false (by omega:¬ lo≤l[i])]; rfl
    rw [this] at hk; exact hk
  · have:(!inb lo hi l[i])=decide (l[i]>hi):=by unfold inb; rw [decide_eq_true (by omega:lo≤l[i]),Bool.true_and,← decide_not]; congr 1; simp
    rw [this] at hk; exact hk
theorem sum_in {l:List Int} {n:Nat} (hl:l.length≤n) (hx:∀ x∈l,0≤x∧x≤10000):0≤l.sum∧l.sum≤10000 * n:=by
  induction l generalizing n with
  | nil=>simp; omega
  | cons a l ih =>
    obtain ⟨m,rfl⟩:∃ m,n=m+1:=⟨n-1,by simp at hl; omega⟩
    have h1:=ih (n:=m) (by simpa using hl) fun x h=>hx x (List.mem_cons_of_mem _ h)
    have h2:=hx a (List.mem_cons_self ..)
    rw [List.sum_cons]; omega
theorem sum_tk {l:List Int} (hl:l.length≤1000) (hx:∀ x∈l,0≤x∧x≤10000) (i:Nat):0≤(l.take i).sum∧(l.take i).sum≤10000000:=by
  have:=sum_in (l:=l.take i) (n:=1000) (by rw [List.length_take]; omega) fun x h=>hx x (List.mem_of_mem_take h)
  omega
theorem tSum_okT {l:List Int} {Q:Int→Prop} (hl:l.length≤1000) (hx:∀ x∈l,0≤x∧x≤10000) (h:Q l.sum):spec_tSum l Q:=by
  unfold spec_tSum
  refine loop2_list (by omega) (fun s i=>s=(l.take i).sum) (by simp) (fun s i nx hi hs hn=>idx_at hi ?_) (fun s hs=>?_)
  · have h1:=sum_tk hl hx i
    have h2:=hx _ (List.getElem_mem hi)
    rw [hs,wr_in (by omega) (by omega)]
    exact hn _ (by rw [List.take_add_one,List.getElem?_eq_getElem hi,List.sum_append]; simp)
  · rw [List.take_length] at hs; rw [hs]; exact h
theorem total_okT {l:List Int} {Q:Int→Prop} (hl:l.length≤1000) (hx:∀ x∈l,0≤x∧x≤10000) (h:Q l.sum):impl_total l Q:=by
  unfold impl_total
  refine loop2_list (by omega) (fun s i=>s=(l.take i).sum) (by simp) (fun s i nx hi hs hn=>idx_at hi ?_) (fun s hs=>?_)
  · have h1:=sum_tk hl hx i
    have h2:=hx _ (List.getElem_mem hi)
    rw [hs,wr_in (by omega) (by omega)]
    exact hn _ (by rw [List.take_add_one,List.getElem?_eq_getElem hi,List.sum_append]; simp)
  · rw [List.take_length] at hs; rw [hs]; exact h
end Go.Proofs.YtfnmhknnliahoaaGreatDoor
