/- Seeds of pairs of sites that are drawn; masks cancel. -/
import Derived.Test.YtbgnaamdlcggjaaGreatFC
set_option linter.unusedVariables false
set_option autoImplicit false
namespace Go.Proofs.YtbgnaamdlcggjaaGreat
open Go Go.RowKit Go.Gv
theorem jn_bool3 {A B C:Type} {f:(A→B→C→Prop)→Prop} {k:A→B→C→Prop} (J:A→B→C→Prop) (h:∀ a b c,J a b c→k a b c) (hf:∀ k':A→B→C→Prop,(∀ a b c,J a b c→k' a b c)→f k'):jn f k:=hf k h
theorem jn_ok1 {A:Type} {f:(A→Prop)→Prop} {k:A→Prop} (J:A→Prop) (h:∀ a,J a→k a) (hf:∀ k':A→Prop,(∀ a,J a→k' a)→f k'):jn f k:=hf k h
theorem seed0_ok {code:List B8} {a s:Int} {Q:Int→Int→Int→Prop} (hc:bytesOk code) (ha:atOk a) (hb:a≤999999999000) (h:∀ r a' s',0≤a'→a'≤a+4→Q r a' s'):spec_l1Cur_seed0 ⟨code,a,s⟩ Q:=by
  unfold spec_l1Cur_seed0
  dsimp only
  refine pick_ok hc ha fun r a1 s1 h0 h1 _ h2 h3=>br_eq (fun _=>h _ _ _ h2 (by omega)) (fun _=>br_eq (fun _=>?_) (fun _=>?_))
  · exact among_ok hc (by unfold atOk; omega) (by simp) fun r2 _ a2 s2 k0 k1=>h _ _ _ k0 (by omega)
  · exact pick_ok hc (by unfold atOk; omega) fun r2 a2 s2 _ _ _ k0 k1=>h _ _ _ k0 (by omega)
theorem modulus_ok {code:List B8} {a s:Int} {Q:Int→Int→Int→Prop} (hc:bytesOk code) (ha:atOk a) (h:∀ r a' s',1≤r→r≤1000000008→0≤a'→a'≤a+2→Q r a' s'):spec_l1Cur_modulus ⟨code,a,s⟩ Q :=
  among_ok hc ha (by simp) fun r hr a' s' h0 h1=>by
    refine h r a' s' ?_ ?_ h0 h1 <;> simp at hr <;> omega
theorem siteCount_ok {code:List B8} {a s:Int} {Q:Int→Int→Int→Prop} (hc:bytesOk code) (ha:atOk a) (h:∀ r a' s',1≤r→r≤9→0≤a'→a'≤a+2→Q r a' s'):spec_l1Cur_siteCount ⟨code,a,s⟩ Q :=
  among_ok hc ha (by simp) fun r hr a' s' h0 h1=>by
    refine h r a' s' ?_ ?_ h0 h1 <;> simp at hr <;> omega
def shp (n:Nat) (out:List (List Int)) (i:Nat):Prop:=out.length=n∧∀ j (hj:j<out.length),j<i→out[j].length=n
theorem shp_set {n i k:Nat} {out:List (List Int)} {r:List Int} (h:shp n out i) (hr:r.length=n):shp n (out.set k r) i:=by
  refine ⟨by simpa using h.1,fun j hj hji=>?_⟩
  have hj':j<out.length:=by simpa using hj
  by_cases e:k=j
  · subst e; simpa using hr
  · rw [List.getElem_set_ne e]; exact h.2 j hj' hji
theorem shp_next {n i:Nat} {out:List (List Int)} {r:List Int} (h:shp n out i) (hi:i<n) (hr:r.length=n):shp n (out.set i r) (i+1):=by
  refine ⟨by simpa using h.1,fun j hj hji=>?_⟩
  have hj':j<out.length:=by simpa using hj
  by_cases e:i=j
  · subst e; simpa using hr
  · rw [List.getElem_set_ne e]; exact h.2 j hj' (by omega)
theorem shp_all {n:Nat} {out:List (List Int)} (h:shp n out n):∀ r∈out,r.length=n:=fun r hr=>by
  obtain ⟨j,hj,rfl⟩:=List.mem_iff_getElem.1 hr
  exact h.2 j hj (by have:=h.1; omega)
theorem pairSeeds_ok {code:List B8} {a s n:Int} {Q:List (List Int)→Int→Int→Prop} (hc:bytesOk code) (hn:1≤n∧n≤10) (ha:0≤a∧a≤999999990000)
    (h:∀ out a' s',out.length≤10→(∀ r∈out,r.length≤10)→0≤a'→a'≤a+1000→Q out a' s'):spec_l1Cur_pairSeeds ⟨code,a,s⟩ n Q:=by
  unfold spec_l1Cur_pairSeeds
  dsimp only
  refine ⟨by omega,by omega,?_⟩
  refine ⟨fun out x a1 s1=>∃ i:Nat,x=(i:Int)∧i≤n.toNat∧shp n.toNat out i∧0≤a1∧a1≤a+36 * (i:Int),fun _ x _ _=>n.toNat-x.toNat,⟨0,rfl,Nat.zero_le _,⟨by simp,fun j _ hj=>by omega⟩,by omega,by omega⟩,?_⟩
  rintro out x a1 s1 ⟨i,rfl,hi,hs,h0,h1⟩
  refine br_dec (fun g=>?_) (fun g=>?_)
  · have gi:i<n.toNat:=by have:=ln_nat.1 g; simpa using this
    refine ⟨by omega,by omega,by omega,by rw [hs.1]; simpa using gi,?_⟩
    refine ⟨fun o2 k a2 s2=>∃ j:Nat,k=(j:Int)∧j≤i∧shp n.toNat o2 (i+1)∧0≤a2∧a2≤a+36 * (i:Int)+4 * (j:Int),fun _ k _ _=>i-k.toNat,
      ⟨0,rfl,Nat.zero_le _,shp_next hs gi (by simp),by omega,by omega⟩,?_⟩
    rintro o2 k a2 s2 ⟨j,rfl,hj,hs2,k0,k1⟩
    refine br_dec (fun g2=>?_) (fun g2=>?_)
    · have hji:j<i:=by omega
      have hio:i<o2.length:=by rw [hs2.1]; exact gi
      have hri:=hs2.2 i hio (by omega)
      refine idx_at hio (seed0_ok hc (by unfold atOk; omega) (by omega) fun r a3 s3 l0 l1=>⟨by omega,by rw [hri]; omega,?_⟩)
      simp only [Int.toNat_natCast]
      have hs3:shp n.toNat (o2.set i (o2[i].set j r)) (i+1):=shp_set hs2 (by simpa using hri)
      have hjo:j<(o2.set i (o2[i].set j r)).length:=by rw [hs3.1]; omega
      have hio3:i<(o2.set i (o2[i].set j r)).length:=by rw [hs3.1]; omega
      have hrj:=hs3.2 j hjo (by omega)
      have hri3:=hs3.2 i hio3 (by omega)
      refine idx_at hjo (idx_at hio3 (idx_at (by rw [hri3]; omega) ⟨by omega,by rw [hrj]; exact gi,?_⟩))
      rw [wr_in (by omega) (by omega)]
      refine ⟨⟨j+1,by omega,by omega,shp_set hs3 (by simpa using hrj),l0,by omega⟩,?_⟩
      show i-((j:Int)+1).toNat<i-(j:Int).toNat
      omega
    · rw [wr_in (by omega) (by omega)]
      refine ⟨⟨i+1,by omega,by omega,hs2,k0,by omega⟩,?_⟩
      show n.toNat-((i:Int)+1).toNat<n.toNat-(i:Int).toNat
      omega
  · have gi:i=n.toNat:=by
      have:¬ i<n.toNat:=fun c=>g (ln_nat.2 (by simpa using c))
      omega
    subst gi
    have hall:=shp_all hs
    have hl:=hs.1
    refine jn_bool3 (fun o a' s'=>o.length≤10∧(∀ r∈o,r.length≤10)∧0≤a'∧a'≤a+1000) (fun o a' s' ⟨p1,p2,p3,p4⟩=>h o a' s' p1 p2 p3 p4) fun k hk=>?_
    refine pick_ok hc (by unfold atOk; omega) fun r a2 s2 r0 r1 _ l0 l1=>br_eq (fun _=>br_dec (fun g1=>?_) (fun g1=>?_)) (fun _=>br_eq (fun _=>?_) (fun _=>?_))
    · have h1o:1<out.length:=by omega
      have hr1:=hall _ (List.getElem_mem h1o)
      refine idx_of (by omega) h1o (idx_of (by omega) (by show 0<(out[1]).length; omega) ⟨by omega,by show 0<(out[1]).length; omega,hk _ _ _ ⟨by simp; omega,fun r hr=>?_,l0,by omega⟩⟩)
      rcases List.mem_or_eq_of_mem_set hr with q | q
      · have:=hall r q; omega
      · rw [q,List.length_set]; show (out[1]).length≤10; omega
    · exact hk _ _ _ ⟨by omega,fun r hr=>by have:=hall r hr; omega,l0,by omega⟩
    · refine ⟨by omega,by omega,by unfold ln; omega,h _ _ _ ?_ (fun r hr=>?_) l0 (by omega)⟩
      · rw [List.length_take,List.length_drop]; omega
      · have:=hall r (List.mem_of_mem_drop (List.mem_of_mem_take hr)); omega
    · exact hk _ _ _ ⟨by omega,fun r hr=>by have:=hall r hr; omega,l0,by omega⟩
/-- What DrawMaskOf draws. -/
def dmOk (s:List (List Int)):Prop:=s.length≤10∧∀ r∈s,r.length≤10
theorem dmOk.small {s:List (List Int)} (h:dmOk s):small s:=⟨by have:=h.1; omega,fun r hr=>by have:=h.2 r hr; omega⟩
theorem drawMaskOf_ok {code:List B8} {Q:List (List Int)→Int→Int→Int→Int→Prop} (hc:bytesOk code) (h:∀ s i round n m,dmOk s→0≤n→n≤4→1≤m→m≤1000000008→Q s i round n m):spec_DrawMaskOf code Q:=by
  unfold spec_DrawMaskOf
  refine siteCount_ok hc (by unfold atOk; omega) fun r a s r0 r1 a0 a1=>pairSeeds_ok hc ⟨r0,by omega⟩ (by omega) fun o a2 s2 o1 o2 b0 b1=>?_
  rw [wr_in (by omega) (by omega)]
  refine pick_ok hc (by unfold atOk; omega) fun i a3 s3 _ _ _ c0 c1=>among_ok hc (by unfold atOk; omega) (by simp) fun rd _ a4 s4 d0 d1=>pick_ok hc (by unfold atOk; omega) fun n a5 s5 n0 n1 _ e0 e1=>modulus_ok hc (by unfold atOk; omega) fun m a6 s6 m0 m1 _ _=>?_
  exact h _ _ _ _ _ ⟨o1,o2⟩ n0 (by omega) m0 m1
theorem valuesBelow_ok {code:List B8} {a s m n:Int} {Q:List Int→Int→Int→Prop} (hc:bytesOk code) (hn:0≤n∧n≤4) (ha:0≤a∧a≤999999990000) (h:∀ out a' s',out.length≤4→0≤a'→a'≤a+8→Q out a' s'):spec_l1Cur_valuesBelow ⟨code,a,s⟩ m n Q:=by
  unfold spec_l1Cur_valuesBelow
  dsimp only
  refine ⟨fun n3 l a1 s1=>0≤n3∧n3≤n∧(l.length:Int)=n-n3∧0≤a1∧a1≤a+2 * (n-n3),fun n3 _ _ _=>n3.toNat,⟨by omega,by omega,by simp,by omega,by omega⟩,?_⟩
  rintro n3 l a1 s1 ⟨h0,h1,h2,h3,h4⟩
  refine br_dec (fun g=>?_) (fun g=>h _ _ _ (by omega) h3 (by omega))
  have go:∀ q:Int,spec_l1Cur_pick ⟨code,a1,s1⟩ q (fun r20 r21 r22=>(ln l+ln ([r20])) * 8≤140737488355328∧((0≤wr (n3-1)∧wr (n3-1)≤n∧((l++[r20]).length:Int)=n-wr (n3-1)∧0≤r21∧r21≤a+2 * (n-wr (n3-1)))∧(wr (n3-1)).toNat<n3.toNat)):=fun q =>
    pick_ok hc (by unfold atOk; omega) fun r a2 s2 _ _ _ l0 l1=>by
      rw [wr_in (by omega) (by omega)]
      refine ⟨by unfold ln; simp; omega,⟨by omega,by omega,by simp; omega,l0,by omega⟩,by omega⟩
  unfold spec_l1Least spec_l1Most
  exact br_dec (fun _=>br_dec (fun _=>go _) (fun _=>go _)) (fun _=>br_dec (fun _=>go _) (fun _=>go _))
def sumN (f:Nat→Int):Nat→Int
  | 0=>0
  | n+1=>sumN f n+f n
theorem sumN_congr {f g:Nat→Int}:∀ {n:Nat},(∀ i,i<n→f i=g i)→sumN f n=sumN g n
  | 0,_=>rfl
  | n+1,h=>by rw [sumN,sumN,sumN_congr fun i hi=>h i (by omega),h n (by omega)]
theorem sumN_zero (n:Nat):sumN (fun _=>0) n=0:=by induction n with | zero=>rfl | succ n ih=>rw [sumN,ih]; rfl
theorem sumN_add (f g:Nat→Int) (n:Nat):sumN (fun i=>f i+g i) n=sumN f n+sumN g n:=by
  induction n with
  | zero=>rfl
  | succ n ih=>rw [sumN,sumN,sumN,ih]; omega
theorem sumN_neg (f:Nat→Int) (n:Nat):sumN (fun i => -f i) n = -sumN f n:=by
  induction n with
  | zero=>rfl
  | succ n ih=>rw [sumN,sumN,ih]; omega
theorem sumN_swap (f:Nat→Nat→Int) (m:Nat):∀ n,sumN (fun i=>sumN (f i) m) n=sumN (fun k=>sumN (fun i=>f i k) n) m
  | 0=>by simp only [sumN]; rw [sumN_zero]
  | n+1=>by
    rw [sumN,sumN_swap f m n,← sumN_add]
    rfl
theorem sumN_anti {f:Nat→Nat→Int} {n:Nat} (h:∀ i k,i<n→k<n→f i k = -f k i):sumN (fun i=>sumN (f i) n) n=0:=by
  have h1:sumN (fun i=>sumN (f i) n) n=sumN (fun i=>sumN (fun k => -f k i) n) n:=sumN_congr fun i hi=>sumN_congr fun k hk=>h i k hi hk
  have h2:sumN (fun i=>sumN (fun k => -f k i) n) n = -sumN (fun i=>sumN (fun k=>f k i) n) n:=by
    rw [← sumN_neg]; exact sumN_congr fun i _=>sumN_neg _ n
  have h3:=sumN_swap f n n
  omega
theorem emod_step (a b m:Int):(a % m+b) % m=(a+b) % m:=by rw [Int.add_emod,Int.emod_emod_of_dvd _ (Int.dvd_refl _),← Int.add_emod]
def el (l:List Int) (t:Nat):Int:=l.getD t 0
theorem el_at {l:List Int} {t:Nat} (h:t<l.length):el l t=l[t]:=getD_at h
theorem el_cmb {s m:Int} {a b:List Int} {t:Nat} (ha:t<a.length) (hb:t<b.length):el (cmb s m a b) t=(el a t+s * el b t) % m:=by
  rw [el_at (by simp [cmb]; omega),cmb_get (by simp [cmb]; omega) ha hb,el_at ha,el_at hb]
def ctr (s:List (List Int)) (round m:Int) (t i k:Nat):Int :=
  if (k:Int)>i then pm1 (sg s i k) i k round m t else if (k:Int)<i then -pm1 (sg s i k) k i round m t else 0
theorem el_pm {seed i k round n m:Int} {t:Nat} (ht:t<n.toNat):el (pmOf seed i k round n m) t=pm1 seed i k round m t:=by
  rw [el_at (by rw [pmOf_length]; exact ht)]; simp [pmOf]
theorem el_mkGo {s:List (List Int)} {round n m:Int} {t i:Nat} (ht:t<n.toNat):∀ k,el (mkGo s (i:Int) round n m k) t=sumN (ctr s round m t i) k % m
  | 0=>by simp [mkGo,sumN,el,List.getD_eq_getElem?_getD,ht]
  | k+1=>by
    have ih:=el_mkGo (s:=s) (round:=round) (n:=n) (m:=m) (i:=i) ht k
    have hl:=mkGo_length (s:=s) (i:=(i:Int)) (round:=round) (n:=n) (m:=m) k
    rw [mkGo,sumN]
    unfold ctr
    rw [Int.toNat_natCast]
    split
    · rw [el_cmb (by omega) (by rw [pmOf_length]; exact ht),ih,el_pm ht,Int.one_mul,emod_step]; rfl
    · split
      · rw [el_cmb (by omega) (by rw [pmOf_length]; exact ht),ih,el_pm ht,Int.neg_one_mul,emod_step]; rfl
      · rw [ih,Int.add_zero]; rfl
theorem sg_sym {s:List (List Int)} (h:seedsIn s=true) {i k:Nat} (hi:i<s.length) (hk:k<s.length):sg s i k=sg s k i:=by
  unfold seedsIn at h
  simp only [Bool.and_eq_true] at h
  have key:∀ i k,i<s.length→k<i→sg s i k=sg s k i:=fun i k hi hk=>by
    have:=range_all_of h.2 hi
    unfold rowIn at this
    simp only [Bool.and_eq_true] at this
    have:=range_all_of this.2 hk
    simpa using this
  rcases Nat.lt_trichotomy i k with e | e | e
  · exact (key k i hk e).symm
  · rw [e]
  · exact key i k hi e
theorem ctr_anti {s:List (List Int)} (h:seedsIn s=true) {round m:Int} {t i k:Nat} (hi:i<s.length) (hk:k<s.length):ctr s round m t i k = -ctr s round m t k i:=by
  unfold ctr
  rw [sg_sym h hk hi]
  by_cases e1:(k:Int)>i
  · rw [if_pos e1,if_neg (show ¬ (i:Int)>k by omega),if_pos (show (i:Int)<k by omega)]; omega
  · by_cases e2:(k:Int)<i
    · rw [if_neg e1,if_pos e2,if_pos (show (i:Int)>k by omega)]
    · rw [if_neg e1,if_neg e2,if_neg (show ¬ (i:Int)>k by omega),if_neg (show ¬ (i:Int)<k by omega)]; rfl
theorem sameInts_same {a:List Int} {Q:Bool→Prop} (hl:a.length≤1048576) (h:Q true):laws_sameInts a a Q:=by
  unfold laws_sameInts
  refine br_false (by simp) ?_
  exact loop1_list (by omega) (fun _=>True) trivial (fun i nx hi _ hn=>idx_at hi (idx_at hi (br_false (by simp) (hn trivial)))) (fun _=>h)
theorem big_ok {a b:List B8} {Q:Bool→Prop} (h:∀ r,(r=false→a.length≤1048576∧b.length≤1048576)→Q r):laws_big a b Q:=by
  unfold laws_big
  refine jn_ok1 (fun r=>r=false→a.length≤1048576∧b.length≤1048576) h fun k hk=>br_dec (fun g=>hk _ (fun c=>by cases c)) (fun g=>hk _ fun c=>?_)
  have:=of_decide_eq_false c
  rw [wr_in (by unfold ln at *; omega) (by unfold ln at *; omega)] at this
  unfold ln at *; omega
end Go.Proofs.YtbgnaamdlcggjaaGreat
