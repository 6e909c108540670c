import Derived.Test.YtbgnaamdlcggjaaGreatRR
set_option linter.unusedVariables false
set_option autoImplicit false
namespace Go.Proofs.YtbgnaamdlcggjaaGreat
open Go Go.RowKit Go.Gv
theorem BZ7:∀ {r:List A0} {t:List Int} (a:Nat),t.length=r.length->ixN a r t=a * cnt r+ixN 0 r t
  | [],[],a,_=>by simp [ixN,cnt]
  | [],v :: t,a,h=>by simp at h
  | x :: r,[],a,h=>by simp at h
  | x :: r,v :: t,a,h=>by
    have h':t.length=r.length:=by simpa using h
    show ixN (a * lv x+v.toNat) r t=a * (lv x * cnt r)+ixN (0 * lv x+v.toNat) r t
    rw [BZ7 _ h',BZ7 (0 * lv x+v.toNat) h',Nat.add_mul,Nat.zero_mul,Nat.zero_add,Nat.mul_assoc,Nat.add_assoc]
theorem DG1:∀ {r:List A0} {t:List Int},(∀ x∈r,1<=lv x)->BN5 r t->N2 r (ixN 0 r t)=t
  | [],[],_,_=>rfl
  | [],v :: t,_,h=>by have:=h.1; simp at this
  | x :: r,[],_,h=>by have:=h.1; simp at this
  | x :: r,v :: t,hl,h=>by
    have ⟨h1,h2⟩:=CJ8 h
    have hr:∀ y∈r,1<=lv y:=fun y hy=>hl y (List.mem_cons_of_mem _ hy)
    have ih:=DG1 hr h2
    have hlt:=CN4 0 h2
    rw [Nat.zero_add,Nat.one_mul] at hlt
    have e:ixN 0 (x :: r) (v :: t)=v.toNat * cnt r+ixN 0 r t:=by
      show ixN (0 * lv x+v.toNat) r t=_
      rw [BZ7 _ h2.1,Nat.zero_mul,Nat.zero_add]
    rw [e]
    show (((v.toNat * cnt r+ixN 0 r t) / cnt r % lv x:Nat):Int) :: N2 r (v.toNat * cnt r+ixN 0 r t)=v :: t
    rw [CT6 r _ _ hr,ih,Nat.add_comm,Nat.add_mul_div_right _ _ (by omega),Nat.div_eq_of_lt hlt,Nat.zero_add,Nat.mod_eq_of_lt (by omega)]
    congr 1; omega
def EF1(p:List Int)(sx:List A0)(r:Record)(k:Nat):Prop:=k<nT p sx/\gi (lvs p) (k / cnt sx)=r.Area/\k % cnt sx=ixN 0 sx r.Values
open Classical in
noncomputable def tyK(p:List Int)(sx:List A0)(r:Record):Nat:=if h:∃ k,EF1 p sx r k then Classical.choose h else 0
def inS(p:List Int)(sx:List A0)(r:Record):Prop:=AR7 sx r=true/\AE8 (lvs p) r.Area=true
theorem CM6{p:List Int}{sx:List A0}{r:Record}(hL:Lok sx)(h:inS p sx r):BN5 sx r.Values:=by
  have h:=h.1
  unfold AR7 at h
  simp only [Bool.and_eq_true] at h
  exact DH9 hL h.2.2
theorem CL2{p:List Int}{sx:List A0}{r:Record}(hL:Lok sx)(h:inS p sx r):EF1 p sx r (tyK p sx r):=by
  have hf:=CM6 hL h
  have hlt:=CN4 0 hf
  rw [Nat.zero_add,Nat.one_mul] at hlt
  have ha:=h.2
  unfold AE8 at ha
  obtain ⟨x,hx,e⟩:=List.any_eq_true.1 ha
  have e:x=r.Area:=by simpa using e
  obtain ⟨i,hi,rfl⟩:=List.mem_iff_getElem.1 hx
  have hex:∃ k,EF1 p sx r k:=by
    refine ⟨i * cnt sx+ixN 0 sx r.Values,?_,?_,?_⟩
    · unfold nT
      have:(i+1) * cnt sx<=(lvs p).length * cnt sx:=Nat.mul_le_mul_right _ (by omega)
      rw [Nat.add_mul,Nat.one_mul] at this; omega
    · rw [Nat.add_comm,Nat.add_mul_div_right _ _ (by omega),Nat.div_eq_of_lt hlt,Nat.zero_add,H9 hi,e]
    · rw [Nat.add_comm,Nat.add_mul_mod_self_right,Nat.mod_eq_of_lt hlt]
  unfold tyK
  rw [dif_pos hex]
  exact Classical.choose_spec hex
theorem ES7{sx:List A0}(hL:Lok sx):∀ x∈sx,1<=lv x:=fun x hx=>by
  have:=hL.2 x hx
  unfold lv; omega
theorem DZ9{p:List Int}{sx:List A0}{r:Record}{k:Nat}(hL:Lok sx)(h:inS p sx r)(hk:EF1 p sx r k):(AG0 p sx k).Area=r.Area/\(AG0 p sx k).Values=r.Values:=by
  refine ⟨hk.2.1,?_⟩
  show N2 sx (k % cnt sx)=r.Values
  rw [hk.2.2]; exact DG1 (ES7 hL) (CM6 hL h)
noncomputable def BP1(p:List Int)(sx:List A0)(cs:List Int)(r:Record):List Int:=cs.set (tyK p sx r) (gi cs (tyK p sx r)+1)
noncomputable def CC0(p:List Int)(sx:List A0)(l:List Record):List Int:=l.foldl (BP1 p sx) (List.replicate (nT p sx) 0)
def cB(n:Nat)(b:Int)(cs:List Int):Prop:=cs.length=n/\∀ x∈cs,0<=x/\x<=b
theorem EW1{p:List Int}{sx:List A0}{cs:List Int}{r:Record}{b:Int}(hL:Lok sx)(hr:inS p sx r)(hb:0<=b)(h:cB (nT p sx) b cs):cB (nT p sx) (b+1) (BP1 p sx cs r):=by
  have hk:=(CL2 hL hr).1
  refine ⟨by unfold BP1; rw [List.length_set]; exact h.1,fun x hx=>?_⟩
  rcases List.mem_or_eq_of_mem_set hx with e | e
  · have:=h.2 x e; omega
  · have h1:tyK p sx r<cs.length:=by rw [h.1]; exact hk
    have:=h.2 _ (List.getElem_mem h1)
    rw [e,H9 h1]; omega
theorem CZ6{p:List Int}{sx:List A0}{l:List Record}(hL:Lok sx)(h:∀ r∈l,inS p sx r):cB (nT p sx) (l.length:Int) (CC0 p sx l):=by
  have key:∀ (m:List Record) (cs:List Int) (b:Int),0<=b->(∀ r∈m,inS p sx r)->cB (nT p sx) b cs->cB (nT p sx) (b+(m.length:Int)) (m.foldl (BP1 p sx) cs):=by
    intro m
    induction m with
    | nil=>intro cs b _ _ h; simpa using h
    | cons r m ih =>
      intro cs b hb hm h
      have:=ih _ (b+1) (by omega) (fun x hx=>hm x (List.mem_cons_of_mem _ hx)) (EW1 hL (hm r (List.mem_cons_self ..)) hb h)
      rw [List.length_cons,show b+((m.length+1:Nat):Int)=b+1+(m.length:Int) by omega]
      exact this
  have:=key l (List.replicate (nT p sx) 0) 0 (Int.le_refl _) h ⟨by simp,fun x hx=>by have:=List.eq_of_mem_replicate hx; omega⟩
  rw [Int.zero_add] at this; exact this
theorem DE5:∀ {cs:List Int} {k:Nat} (h:k<cs.length) (v:Int),(cs.set k v).sum=cs.sum+(v-cs[k])
  | c :: cs,0,_,v=>by simp only [List.set_cons_zero,List.sum_cons,List.getElem_cons_zero]; omega
  | c :: cs,k+1,h,v=>by
    have:=DE5 (cs:=cs) (k:=k) (by simpa using h) v
    simp only [List.set_cons_succ,List.sum_cons,List.getElem_cons_succ]; omega
theorem DR9{p:List Int}{sx:List A0}{l:List Record}(hL:Lok sx)(h:∀ r∈l,inS p sx r):(CC0 p sx l).sum=(l.length:Int):=by
  have key:∀ (m:List Record) (cs:List Int),cs.length=nT p sx->(∀ r∈m,inS p sx r)->(m.foldl (BP1 p sx) cs).sum=cs.sum+(m.length:Int):=by
    intro m
    induction m with
    | nil=>intro cs _ _; simp
    | cons r m ih =>
      intro cs hc hm
      have hk:=(CL2 hL (hm r (List.mem_cons_self ..))).1
      have h1:tyK p sx r<cs.length:=by rw [hc]; exact hk
      rw [List.foldl_cons,ih _ (by unfold BP1; rw [List.length_set]; exact hc) fun x hx=>hm x (List.mem_cons_of_mem _ hx)]
      unfold BP1
      rw [DE5 h1,H9 h1,List.length_cons]; omega
  have e:=key l (List.replicate (nT p sx) 0) (by simp) h
  have z:(List.replicate (nT p sx) (0:Int)).sum=0:=by simp
  rw [z,Int.zero_add] at e; exact e
theorem DJ7:∀ {am cs:List Int} {k:Nat} (h:k<cs.length) (ha:k<am.length) (v:Int),dot am (cs.set k v)=dot am cs+am[k] * (v-cs[k])
  | a :: am,c :: cs,0,_,_,v=>by
    simp only [List.set_cons_zero,dot,List.getElem_cons_zero]
    rw [Int.mul_sub]; omega
  | a :: am,c :: cs,k+1,h,ha,v=>by
    have:=DJ7 (am:=am) (cs:=cs) (k:=k) (by simpa using h) (by simpa using ha) v
    simp only [List.set_cons_succ,dot,List.getElem_cons_succ]; omega
  | [],_,_,_,ha,_=>by simp at ha
  | _ :: _,[],_,h,_,_=>by simp at h
theorem CQ5:∀ (am:List Int) (n:Nat),dot am (List.replicate n 0)=0
  | [],n=>by cases n <;> rfl
  | a :: am,0=>rfl
  | a :: am,n+1=>by rw [List.replicate_succ]; simp only [dot]; rw [CQ5 am n]; simp
theorem EN3{p:List Int}{sx:List A0}{t:Table}{out:List Int}{r:Record}{c:Nat}(hc:c<out.length)(h1:(cell p sx t r.Area.toNat r.Values).1<(out.length:Int)) :
    gi (BC3 p sx t out r) c=gi out c+if (cell p sx t r.Area.toNat r.Values).1=(c:Int) then (cell p sx t r.Area.toNat r.Values).2 else 0:=by
  unfold BC3
  split
  · rename_i h0
    rw [H9 (by rw [List.length_set]; exact hc),List.getElem_set]
    split
    · rename_i e
      rw [if_pos (by omega),e]
    · rename_i e
      rw [if_neg (by omega),H9 hc]; omega
  · rw [if_neg (by omega)]; omega
theorem DZ8{p:List Int}{sx:List A0}{t:Table}{l:List Record}{cells:List Int}(hg:gOk p=true)(hL:Lok sx)(ht:tOk p sx t=true)(hl:∀ r∈l,inS p sx r)(hs:∀ r∈l,0<=r.Area/\r.Area<(p.length:Int)){c:Nat}(hc:c<L3 p sx t) :
    dot (mv (fB p sx ⟨t,cells⟩ c) (gB p sx ⟨t,cells⟩) (nT p sx) (nT p sx)) (CC0 p sx l)=gi (BU1 p sx t l) c:=by
  have key:∀ (m:List Record) (cs out:List Int),cs.length=nT p sx->out.length=L3 p sx t->(∀ r∈m,inS p sx r/\(0<=r.Area/\r.Area<(p.length:Int))) ->
      dot (mv (fB p sx ⟨t,cells⟩ c) (gB p sx ⟨t,cells⟩) (nT p sx) (nT p sx)) cs=gi out c ->
      dot (mv (fB p sx ⟨t,cells⟩ c) (gB p sx ⟨t,cells⟩) (nT p sx) (nT p sx)) (m.foldl (BP1 p sx) cs)=gi (m.foldl (BC3 p sx t) out) c:=by
    intro m
    induction m with
    | nil=>intro cs out _ _ _ h; exact h
    | cons r m ih =>
      intro cs out h1 h2 hm h
      have ⟨hr,hA⟩:=hm r (List.mem_cons_self ..)
      have hk:=CL2 hL hr
      have ⟨cin,_⟩:=CL5 (t:=t) hg hL ht ⟨hr.1,hA⟩
      have cb:=DA2 cin
      have ⟨e1,e2⟩:=DZ9 hL hr hk
      refine ih _ _ (by unfold BP1; rw [List.length_set]; exact h1) (by unfold BC3;split <;> simp [h2]) (fun x hx=>hm x (List.mem_cons_of_mem _ hx)) ?_
      have k1:tyK p sx r<cs.length:=by rw [h1]; exact hk.1
      have k2:tyK p sx r<(mv (fB p sx ⟨t,cells⟩ c) (gB p sx ⟨t,cells⟩) (nT p sx) (nT p sx)).length:=by rw [BZ5]; exact hk.1
      unfold BP1
      rw [DJ7 k1 k2,h,H9 k1,BE0 k2,decide_eq_true hk.1,Bool.true_and,EN3 (by rw [h2]; exact hc) (by rw [h2]; exact cb.2)]
      have ec:cl p sx ⟨t,cells⟩ (tyK p sx r)=cell p sx t r.Area.toNat r.Values:=by unfold cl; rw [e1,e2]
      unfold fB gB
      rw [ec]
      by_cases e:(cell p sx t r.Area.toNat r.Values).1=(c:Int)
      · rw [if_pos e,if_pos (decide_eq_true e)]
        rw [show cs[tyK p sx r]+1-cs[tyK p sx r]=1 by omega,Int.mul_one]
      · rw [if_neg e,if_neg (by simpa using e),Int.zero_mul]
  refine key l (List.replicate (nT p sx) 0) (List.replicate (L3 p sx t) 0) (by simp) (by simp) (fun r hr=>⟨hl r hr,hs r hr⟩) ?_
  rw [CQ5,H9 (by simp; exact hc),List.getElem_replicate]
theorem CK6{p:List Int}{sx:List A0}{l:List Record}(h:AD2 p sx l=true):∀ r∈l,inS p sx r:=fun r hr=>by
  unfold AD2 dOk at h
  simp only [Bool.and_eq_true] at h
  exact ⟨List.all_eq_true.1 h.1.1 r hr,List.all_eq_true.1 h.2 r hr⟩
theorem EL5{p:List Int}{sx:List A0}{l:List Record}{ts:List Table}(hg:gOk p=true)(hL:Lok sx)(hs:AD2 p sx l=true)(ht:∀ t∈ts,tOk p sx t=true):okR (L1 p sx (ts.map (CT9 p sx l))) (CC0 p sx l)=true:=by
  unfold okR L1
  refine List.all_eq_true.2 fun r hr=>?_
  obtain ⟨b,hb,hr⟩:=List.mem_flatMap.1 hr
  obtain ⟨t,htm,rfl⟩:=List.mem_map.1 hb
  have htk:=ht t htm
  unfold BP3 J0 at hr
  obtain ⟨c,hc,rfl⟩:=List.mem_map.1 hr
  have hc:=List.mem_range.1 (List.mem_filter.1 hc).1
  have e:=(BU8 hg hL htk hs).1
  have hc':c<L3 p sx t:=by rw [← e]; exact hc
  exact decide_eq_true (DZ8 (cells:=BU1 p sx t l) hg hL htk (CK6 hs) (fun r hr=>((BN6 hs).2 r hr).2) hc')
end Go.Proofs.YtbgnaamdlcggjaaGreat
