/- Plain facts: lists of sets in order; which are free, which grow; both searches give the same edits. -/
import Derived.Test.YtbgnaamdlcggjaaGreatPE
set_option linter.unusedVariables false
set_option autoImplicit false
namespace Go.Proofs.YtbgnaamdlcggjaaGreat
open Go Go.RowKit Go.Gv
def frs (v:Int) (n:Nat) (x:Variable):Int:=if (n:Int)=v then full x else 1
def chs (v:Int) (n:Nat) (x:Variable):List Int:=(List.range ((full x+1-frs v n x).toNat)).map fun (i:Nat)=>frs v n x+(i:Int)
def enum (v:Int):Nat→List Variable→List (List Int)
  | _,[]=>[[]]
  | n,x :: r=>(chs v n x).flatMap fun s=>(enum v (n+1) r).map (s :: ·)
def Rok (r:List Variable):Prop:=∀ x∈r,2≤x.Levels∧x.Levels≤8
theorem Rok.tail {x:Variable} {r:List Variable} (h:Rok (x :: r)):Rok r:=fun y hy=>h y (List.mem_cons_of_mem _ hy)
theorem Rok.head {x:Variable} {r:List Variable} (h:Rok (x :: r)):(2≤lv x∧lv x≤8)∧3≤full x∧full x≤255∧((2 ^ lv x:Nat):Int)=full x+1:=by
  have:=h x (List.mem_cons_self ..)
  have h1:2≤lv x∧lv x≤8:=by unfold lv; omega
  have:=pow8 h1.2; have:=pow2 h1.1
  exact ⟨h1,by unfold full; omega,by unfold full; omega,by unfold full; omega⟩
theorem frs_at {v:Int} {n:Nat} {x:Variable} (h:3≤full x):1≤frs v n x∧frs v n x≤full x:=by unfold frs; split <;> omega
theorem chs_length {v:Int} {n:Nat} {x:Variable}:(chs v n x).length=(full x+1-frs v n x).toNat:=by simp [chs]
theorem chs_get {v:Int} {n:Nat} {x:Variable} {i:Nat} (h:i<(chs v n x).length):(chs v n x)[i]=frs v n x+(i:Int):=by simp [chs]
theorem mem_chs {v:Int} {n:Nat} {x:Variable} {s:Int}:s∈chs v n x↔frs v n x≤s∧s≤full x:=by
  unfold chs
  rw [List.mem_map]
  constructor
  · rintro ⟨i,hi,rfl⟩; have:=List.mem_range.1 hi; omega
  · intro ⟨h1,h2⟩; exact ⟨(s-frs v n x).toNat,List.mem_range.2 (by omega),by omega⟩
theorem flat_len {α β:Type} {f:α→List β} {c:Nat}:∀ (l:List α),(∀ x∈l,(f x).length≤c)→(l.flatMap f).length≤l.length * c
  | [],_=>by simp
  | x :: l,h=>by
    have h1:=flat_len l fun y hy=>h y (List.mem_cons_of_mem _ hy)
    have h2:=h x (List.mem_cons_self ..)
    rw [List.flatMap_cons,List.length_append,List.length_cons,Nat.add_mul,Nat.one_mul]; omega
theorem pow_cube {L:Nat} (h1:2≤L) (h2:L≤8):2 ^ L≤L * L * L:=by
  have:L=2∨L=3∨L=4∨L=5∨L=6∨L=7∨L=8:=by omega
  rcases this with rfl | rfl | rfl | rfl | rfl | rfl | rfl <;> decide
theorem chs_cube {v:Int} {n:Nat} {x:Variable} {r:List Variable} (h:Rok (x :: r)):(chs v n x).length≤lv x * lv x * lv x:=by
  have ⟨⟨h1,h2⟩,h3,h4,h5⟩:=h.head
  have:=pow_cube h1 h2
  have:=frs_at (v:=v) (n:=n) h3
  rw [chs_length]; omega
theorem enum_length {v:Int}:∀ {r:List Variable} (n:Nat),Rok r→(enum v n r).length≤cnt r * cnt r * cnt r
  | [],n,_=>by simp [enum,cnt]
  | x :: r,n,h=>by
    have ih:=enum_length (v:=v) (r:=r) (n+1) h.tail
    have hc:=chs_cube (v:=v) (n:=n) h
    have:=flat_len (f:=fun s=>(enum v (n+1) r).map (s :: ·)) (c:=(enum v (n+1) r).length) (chs v n x) (fun s _=>by simp)
    simp only [enum,cnt]
    refine Nat.le_trans this (Nat.le_trans (Nat.mul_le_mul hc ih) (Nat.le_of_eq ?_))
    simp only [Nat.mul_assoc,Nat.mul_left_comm]
/-- What sets are taken. -/
def inE (v:Int):Nat→List Variable→List Int→Prop
  | _,[],[]=>True
  | n,x :: r,s :: t=>(frs v n x≤s∧s≤full x)∧inE v (n+1) r t
  | _,_,_=>False
theorem mem_enum {v:Int}:∀ {r:List Variable} {n:Nat} {t:List Int},t∈enum v n r↔inE v n r t
  | [],n,t=>by
    cases t with
    | nil=>simp [enum,inE]
    | cons s t=>simp [enum,inE]
  | x :: r,n,t=>by
    simp only [enum,List.mem_flatMap,List.mem_map,mem_chs]
    constructor
    · rintro ⟨s,hs,t',ht,rfl⟩; exact ⟨hs,mem_enum.1 ht⟩
    · intro h
      cases t with
      | nil=>exact h.elim
      | cons s t=>exact ⟨s,h.1,t,mem_enum.2 h.2,rfl⟩
def res (v:Int) (K:List Int→Bool) (n:Nat) (r:List Variable) (sets:List Int):List Edit:=((enum v n r).filter fun t=>K (sets++t)).map fun t=>⟨sets++t⟩
theorem res_nil {v:Int} {K:List Int→Bool} {n:Nat} {sets:List Int}:res v K n [] sets=if K sets then [⟨sets⟩] else []:=by
  unfold res enum
  cases h:K sets <;> simp [h]
theorem res_cons {v:Int} {K:List Int→Bool} {n:Nat} {x:Variable} {r:List Variable} {sets:List Int}:res v K n (x :: r) sets=(chs v n x).flatMap fun s=>res v K (n+1) r (sets++[s]):=by
  unfold res
  simp only [enum,List.filter_flatMap,List.map_flatMap,List.filter_map,List.map_map]
  congr 1; funext s
  simp only [Function.comp_def,List.append_assoc,List.singleton_append]
theorem res_length {v:Int} {K:List Int→Bool} {n:Nat} {r:List Variable} {sets:List Int}:(res v K n r sets).length≤(enum v n r).length:=by
  unfold res; rw [List.length_map]; exact List.length_filter_le ..
/-- Whether a level can be added such that what comes is free. -/
def grw (sx:List Variable) (M:List Int→Bool) (sets:List Int):Bool :=
  (List.range sets.length).any fun k=>(List.range (lv (vAt sx k))).any fun (y:Nat) => !tb (gi sets k) (y:Int)&&M (sets.set k (sOr (gi sets k) (y:Int)))
def freeP (P:List (List Int)) (t:List Int):Bool:=P.all fun vs => !boxIn t vs
theorem range_any_succ {p:Nat→Bool} {i:Nat}:(List.range (i+1)).any p=((List.range i).any p || p i):=by
  rw [List.range_succ,List.any_append]; simp
theorem range_any_yes {p:Nat→Bool} {i n:Nat} (hi:i<n) (hp:p i=true):(List.range n).any p=true:=List.any_eq_true.2 ⟨i,List.mem_range.2 hi,hp⟩
def Sb (t:List Int):Prop:=∀ s∈t,0≤s∧s<256
theorem Sb.ok {t:List Int} (h:Sb t):Sok t:=fun s hs=>by have:=h s hs; omega
theorem sOr_b {s:Int} {y:Nat} (h:0≤s∧s<256) (hy:y<8):0≤sOr s (y:Int)∧sOr s (y:Int)<256 :=
  sOr_lt (L:=8) h.1 (by have:(2:Int) ^ 8=256:=(by decide); omega) (by omega) (by omega)
theorem Sb.set {t:List Int} (h:Sb t) {k y:Nat} (hk:k<t.length) (hy:y<8):Sb (t.set k (sOr (gi t k) (y:Int))):=fun s hs=>by
  rcases List.mem_or_eq_of_mem_set hs with hs | rfl
  · exact h s hs
  · rw [gi_at hk]; exact sOr_b (h _ (List.getElem_mem hk)) hy
theorem Sb.snoc {t:List Int} (h:Sb t) {s:Int} (hs:0≤s∧s<256):Sb (t++[s]):=fun a ha=>by
  rcases List.mem_append.1 ha with ha | ha
  · exact h a ha
  · rw [List.mem_singleton.1 ha]; exact hs
theorem l1Own_ok {l:List Int} {Q:List Int→Prop} (hl:l.length≤1048576) (hq:Q l):spec_l1Own l Q:=⟨by unfold ln; simp; omega,by simpa using hq⟩
/-- Lists of values of n variables. -/
def Pok (n:Nat) (P:List (List Int)):Prop:=P.length≤1048576∧∀ vs∈P,Vok vs∧vs.length=n
theorem free_ok {x:ESearch} {sets:List Int} {n:Nat} {Q:Bool→Prop} (hP:Pok n x.Passing) (hn:n≤1048576) (hs:Sok sets) (hl:n≤sets.length) (hq:Q (freeP x.Passing sets)):spec_eSearch_free x sets Q:=by
  have h0:=hP.1
  unfold spec_eSearch_free
  refine loop1_list (by omega) (fun i=>(x.Passing.take i).all (fun vs => !boxIn sets vs)=true) (by simp) (fun i nx hi hj hx=>idx_at hi ?_) (fun hj=>?_)
  · have ⟨h1,h2⟩:=hP.2 _ (List.getElem_mem hi)
    refine eFails_ok hs h1 (show _≤sets.length by omega) (by omega) (br_bo (fun g=>?_) (fun g=>hx (lall_succ hi hj (by rw [show boxIn sets x.Passing[i]=false from g]; rfl))))
    have:freeP x.Passing sets=false:=lall_no hi (by rw [show boxIn sets x.Passing[i]=true from g]; rfl)
    rw [this] at hq; exact hq
  · rw [List.take_length] at hj
    have:freeP x.Passing sets=true:=hj
    rw [this] at hq; exact hq
theorem grows_ok {x:ESearch} {sx:List Variable} {sets:List Int} {Q:Bool→Prop} (hL:Lok sx) (hx:x.S=sx) (hP:Pok sx.length x.Passing) (hs:Sb sets) (hl:sets.length=sx.length) (hq:Q (grw sx (freeP x.Passing) sets)):spec_eSearch_grows x sets Q:=by
  subst hx
  have h0:=hL.1
  unfold spec_eSearch_grows
  refine loop1_list (by omega) (fun i=>(List.range i).any (fun k=>(List.range (lv (vAt x.S k))).any fun (y:Nat) => !tb (gi sets k) (y:Int)&&freeP x.Passing (sets.set k (sOr (gi sets k) (y:Int))))=false) (by simp) (fun i nx hi hj hx=>?_) (fun hj=>?_)
  · have hi':i<x.S.length:=by omega
    have ⟨e,h1,h2⟩:=lv_at hL hi'
    refine loop1_up (lv x.S[i]) (fun m=>(List.range m).any (fun (y:Nat) => !tb (gi sets i) (y:Int)&&freeP x.Passing (sets.set i (sOr (gi sets i) (y:Int))))=false) (by simp) fun y nx2 hy hj2 hx2=>idx_at hi' (br_dec (fun g=>?_) (fun g=>hx ?_))
    · have hy':y<lv x.S[i]:=by omega
      have hb:=hs _ (List.getElem_mem hi)
      refine jn_of (idx_at hi ?_)
      rw [wrap_u64 (by omega) (by omega),bit1 hb.1 (by omega) (by omega) (by omega),wr_in (by omega) (by omega)]
      refine ⟨by omega,br_bo (fun g1=>hx2 hy' ?_) (fun g1=>l1Own_ok (by omega) (idx_at hi ⟨by omega,by omega,by simpa using hi,?_⟩))⟩
      · rw [range_any_succ,hj2,gi_at hi,g1]; rfl
      · rw [or_ok hb.1 (by omega) (by omega) (by omega),Int.toNat_natCast]
        have hset:=hs.set hi (show y<8 by omega)
        rw [gi_at hi] at hset
        refine free_ok (x:=ESearch.mk x.S x.Passing x.V x.Out) hP (by omega) hset.ok (by simp; omega) (br_bo (fun g2=>?_) (fun g2=>hx2 hy' ?_))
        · have:grw x.S (freeP x.Passing) sets=true:=range_any_yes hi (range_any_yes (i:=y) (by rw [vAt_at hi']; exact hy') (by rw [gi_at hi,g1]; exact g2))
          rw [this] at hq; exact hq
        · rw [range_any_succ,hj2,gi_at hi,g1,Bool.false_or,Bool.not_false,Bool.true_and]; exact g2
    · have:y=lv x.S[i]:=by omega
      subst this
      rw [range_any_succ,hj,vAt_at hi',hj2]; rfl
  · have:grw x.S (freeP x.Passing) sets=false:=hj
    rw [this] at hq; exact hq
def keep (sx:List Variable) (M:List Int→Bool) (t:List Int):Bool:=M t&&!grw sx M t
theorem drop_at {sx:List Variable} {n:Nat} (h:n<sx.length):sx.drop n=sx[n] :: sx.drop (n+1):=List.drop_eq_getElem_cons h
theorem Rok_drop {sx:List Variable} (h:Lok sx) (n:Nat):Rok (sx.drop n):=fun x hx=>h.2 x (List.mem_of_mem_drop hx)
theorem chs_take {α:Type} {v:Int} {n m:Nat} {x:Variable} {f:Int→List α} (h:m<(chs v n x).length):((chs v n x).take (m+1)).flatMap f=((chs v n x).take m).flatMap f++f (frs v n x+(m:Int)):=by
  rw [List.take_succ_eq_append_getElem h,List.flatMap_append,chs_get h]; simp
theorem run_ok {sx:List Variable} {P:List (List Int)} {v:Int} (hL:Lok sx) (hP:Pok sx.length P) {x:ESearch} {n:Nat} {sets:List Int} {Q:List Edit→Int→Prop}
    (hx:x.S=sx∧x.Passing=P∧x.V=v) (hn:n≤sx.length) (hl:sets.length=n) (hs:Sb sets) (hc:x.Out.length+(enum v n (sx.drop n)).length≤1000000)
    (hq:Q (x.Out++res v (keep sx (freeP P)) n (sx.drop n) sets) v):spec_eSearch_run x (n:Int) sets Q:=by
  have h0:=hL.1
  unfold spec_eSearch_run
  refine ⟨fun x k sets Q=>∃ n:Nat,k=(n:Int)∧(x.S=sx∧x.Passing=P∧x.V=v)∧n≤sx.length∧sets.length=n∧Sb sets∧x.Out.length+(enum v n (sx.drop n)).length≤1000000∧Q (x.Out++res v (keep sx (freeP P)) n (sx.drop n) sets) v,fun _ k _=>sx.length-k.toNat,⟨n,rfl,hx,hn,hl,hs,hc,hq⟩,?_⟩
  clear hx hn hl hs hc hq
  rintro ⟨S,P',V,Out⟩ k sets Q ⟨n,rfl,⟨hS,hP',hV⟩,hn,hl,hs,hc,hq⟩
  dsimp only at hS hP' hV hc hq ⊢
  subst hS hP' hV
  refine br_eq (fun g=>?_) (fun g=>?_)
  · have hn':n=S.length:=by unfold ln at g; omega
    rw [List.drop_eq_nil_of_le (by omega),res_nil] at hq
    refine jn_bool _ hq fun k hk=>jn_bool (keep S (freeP P') sets) ?_ fun k2 hk2=>free_ok (x:=ESearch.mk S P' V Out) hP (by omega) hs.ok (by omega) (br_bo (fun g1=>grows_ok (x:=ESearch.mk S P' V Out) hL rfl hP hs (by omega) ?_) (fun g1=>?_))
    · refine br_bo (fun g1=>l1Own_ok (by omega) ?_) (fun g1=>?_)
      · rw [g1,if_pos rfl] at hk
        exact ⟨by unfold ln; simp; omega,hk⟩
      · rw [g1,if_neg (by decide),List.append_nil] at hk; exact hk
    · have:keep S (freeP P') sets=!grw S (freeP P') sets:=by unfold keep; rw [show freeP P' sets=true from g1,Bool.true_and]
      rw [this] at hk2; exact hk2
    · have:keep S (freeP P') sets=false:=by unfold keep; rw [show freeP P' sets=false from g1,Bool.false_and]
      rw [this] at hk2; exact hk2
  · have hn':n<S.length:=by unfold ln at g; omega
    have hf:=full_at hL hn'
    have hfr:=frs_at (v:=V) (n:=n) hf.1
    have hcl:=chs_length (v:=V) (n:=n) (x:=S[n])
    rw [drop_at hn'] at hq hc
    refine jn_bool (frs V n S[n]) ?_ fun k hk=>br_eq (fun g1=>eFull_ok hL hn' ?_) (fun g1=>?_)
    · refine ⟨fun s vx out=>vx=V∧∃ m:Nat,s=frs V n S[n]+(m:Int)∧m≤(chs V n S[n]).length∧out=Out++((chs V n S[n]).take m).flatMap (fun s=>res V (keep S (freeP P')) (n+1) (S.drop (n+1)) (sets++[s])),fun s _ _=>(full S[n]+1-s).toNat,⟨rfl,0,by omega,Nat.zero_le _,by simp⟩,?_⟩
      rintro s vx out ⟨rfl,m,rfl,hm,rfl⟩
      refine eFull_ok hL hn' (br_dec (fun g2=>l1Own_ok (by omega) ?_) (fun g2=>?_))
      · have hm':m<(chs vx n S[n]).length:=by omega
        rw [wr_in (x:=(n:Int)+1) (by omega) (by omega),wr_in (by omega) (by omega)]
        refine ⟨by unfold ln; simp; omega,⟨n+1,by omega,⟨rfl,rfl,rfl⟩,hn',by simp; omega,hs.snoc (by omega),?_,⟨⟨rfl,m+1,by omega,hm',?_⟩,?_⟩⟩,?_⟩
        · have h1:=flat_len (f:=fun s=>res vx (keep S (freeP P')) (n+1) (S.drop (n+1)) (sets++[s])) (c:=(enum vx (n+1) (S.drop (n+1))).length) ((chs vx n S[n]).take m) (fun s _=>res_length)
          have h2:(enum vx n (S[n] :: S.drop (n+1))).length=(chs vx n S[n]).length * (enum vx (n+1) (S.drop (n+1))).length:=by
            simp only [enum]
            induction chs vx n S[n] with
            | nil=>simp
            | cons a l ih=>rw [List.flatMap_cons,List.length_append,ih,List.length_map,List.length_cons,Nat.add_mul,Nat.one_mul,Nat.add_comm]
          have h3:(m+1) * (enum vx (n+1) (S.drop (n+1))).length≤(chs vx n S[n]).length * (enum vx (n+1) (S.drop (n+1))).length:=Nat.mul_le_mul_right _ hm'
          rw [List.length_take,Nat.min_eq_left hm] at h1
          rw [Nat.add_mul,Nat.one_mul] at h3
          show (Out++_).length+_≤1000000
          rw [List.length_append]; omega
        · rw [chs_take hm',List.append_assoc]
        · show (full S[n]+1-(frs vx n S[n]+(m:Int)+1)).toNat<(full S[n]+1-(frs vx n S[n]+(m:Int))).toNat
          omega
        · show S.length-((n:Int)+1).toNat<S.length-(n:Int).toNat
          omega
      · have:m=(chs vx n S[n]).length:=by omega
        subst this
        rw [List.take_length,← res_cons]; exact hq
    · have:frs V n S[n]=full S[n]:=by unfold frs; rw [if_pos g1]
      rw [this] at hk; exact hk
    · have:frs V n S[n]=1:=by unfold frs; rw [if_neg g1]
      rw [this] at hk; exact hk
end Go.Proofs.YtbgnaamdlcggjaaGreat
