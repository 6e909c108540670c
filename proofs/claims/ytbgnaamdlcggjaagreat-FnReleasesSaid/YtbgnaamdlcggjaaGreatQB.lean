import Derived.Test.YtbgnaamdlcggjaaGreatQL
set_option linter.unusedVariables false
set_option autoImplicit false
namespace Go.Proofs.YtbgnaamdlcggjaaGreat
open Go Go.RowKit Go.Gv
def dot:List Int->List Int->Int
  | a :: as,c :: cs=>a * c+dot as cs
  | _,_=>0
def Ab(am:List Int):Prop:=∀ a∈am,0<=a/\a<=60
def Cb(cs:List Int):Prop:=∀ c∈cs,0<=c/\c<=8
theorem BT1{a c:Int}(ha:0<=a/\a<=60)(hc:0<=c/\c<=8):0<=a * c/\a * c<=480:=by
  refine ⟨Int.mul_nonneg ha.1 hc.1,?_⟩
  have h1:a * c<=60 * c:=Int.mul_le_mul_of_nonneg_right ha.2 hc.1
  omega
theorem BF0(am:List Int):dot am []=0:=by cases am <;> rfl
theorem DG0:∀ {am cs:List Int},Ab am->Cb cs->0<=dot am cs/\dot am cs<=480 * (cs.length:Int)
  | [],[],_,_=>⟨Int.le_refl _,by simp [dot]⟩
  | [],_ :: cs,_,_=>⟨Int.le_refl _,by simp only [dot,List.length_cons]; omega⟩
  | _ :: _,[],_,_=>⟨Int.le_refl _,by simp [dot]⟩
  | a :: as,c :: cs,ha,hc=>by
    have h1:=BT1 (ha a (List.mem_cons_self ..)) (hc c (List.mem_cons_self ..))
    have h2:=DG0 (am:=as) (cs:=cs) (fun x hx=>ha x (List.mem_cons_of_mem _ hx)) (fun x hx=>hc x (List.mem_cons_of_mem _ hx))
    simp only [dot,List.length_cons]
    generalize a * c=q at h1
    omega
theorem EJ5{am cs:List Int}{Q:Int->Prop}(hl:cs.length<=am.length)(h12:cs.length<=100)(ha:Ab am)(hc:Cb cs)(hq:Q (dot am cs)):BF4 am cs Q:=by
  unfold BF4
  refine F4 (by omega) (fun n i=>(0<=n/\n<=480 * (i:Int))/\n+dot (am.drop i) (cs.drop i)=dot am cs) ⟨by omega,by simp⟩ (fun n i nx hi ⟨hb,hs⟩ hx=>?_) (fun n ⟨_,hs⟩=>?_)
  · have hi':i<am.length:=by omega
    refine C4 hi (C4 hi' ?_)
    have h1:=BT1 (ha _ (List.getElem_mem hi')) (hc _ (List.getElem_mem hi))
    rw [List.drop_eq_getElem_cons hi,List.drop_eq_getElem_cons hi'] at hs
    simp only [dot] at hs
    generalize am[i] * cs[i]=q at h1 hs
    rw [E9 (x:=q) (by omega) (by omega),E9 (by omega) (by omega)]
    exact hx _ ⟨by omega,by omega⟩
  · rw [List.drop_eq_nil_of_le (Nat.le_refl cs.length),BF0] at hs
    have:n=dot am cs:=by omega
    rw [this]; exact hq
theorem BK1:∀ {am pre t:List Int},pre.length<=am.length->dot am (pre++t)=dot am pre+dot (am.drop pre.length) t
  | am,[],t,_=>by simp [BF0]
  | [],_ :: _,t,h=>by simp at h
  | a :: as,c :: pre,t,h=>by
    have:=BK1 (am:=as) (pre:=pre) (t:=t) (by simpa using h)
    simp only [List.cons_append,dot,List.length_cons,List.drop_succ_cons]
    rw [this,Int.add_assoc]
def CA2:Nat->Nat->List (List Int)
  | 0,l=>if l=0 then [[]] else []
  | m+1,l=>(List.range (l+1)).flatMap fun c=>(CA2 m (l-c)).map ((c:Int) :: ·)
def okR(R:List (List Int×Int))(cs:List Int):Bool:=R.all fun r=>decide (dot r.1 cs=r.2)
def L8(R:List (List Int×Int))(pre:List Int)(m l:Nat):List (List Int):=((CA2 m l).filter fun t=>okR R (pre++t)).map fun t=>pre++t
theorem AB7{R:List (List Int×Int)}{pre:List Int}{l:Nat}:L8 R pre 0 l=if l=0/\okR R pre=true then [pre] else []:=by
  unfold L8 CA2
  by_cases h:l=0
  · subst h
    cases h2:okR R pre <;> simp [h2]
  · simp [h]
theorem BS5{R:List (List Int×Int)}{pre:List Int}{m l:Nat}:L8 R pre (m+1) l=(List.range (l+1)).flatMap fun (c:Nat)=>L8 R (pre++[(c:Int)]) m (l-c):=by
  unfold L8
  simp only [CA2,List.filter_flatMap,List.map_flatMap,List.filter_map,List.map_map]
  congr 1; funext c
  simp only [Function.comp_def,List.append_assoc,List.singleton_append]
theorem BP7:∀ {m l:Nat} {t:List Int},t∈CA2 m l->t.length=m/\∀ c∈t,0<=c/\c<=(l:Int)
  | 0,l,t,h=>by
    unfold CA2 at h
    split at h
    · rw [List.mem_singleton.1 h]; simp
    · cases h
  | m+1,l,t,h=>by
    unfold CA2 at h
    obtain ⟨c,hc,ht⟩:=List.mem_flatMap.1 h
    obtain ⟨t',ht',rfl⟩:=List.mem_map.1 ht
    have hc:=List.mem_range.1 hc
    have ⟨h1,h2⟩:=BP7 ht'
    refine ⟨by simp [h1],fun x hx=>?_⟩
    rcases List.mem_cons.1 hx with rfl | hx
    · omega
    · have:=h2 x hx; omega
theorem BP6{R:List (List Int×Int)}{pre:List Int}{m l:Nat}(hR:∀ r∈R,Ab r.1/\pre.length<=r.1.length)(hl:l<=8)(h:∃ r∈R,r.2<dot r.1 pre):L8 R pre m l=[]:=by
  obtain ⟨r,hr,hlt⟩:=h
  unfold L8
  rw [List.map_eq_nil_iff,List.filter_eq_nil_iff]
  intro t ht hok
  have:=of_decide_eq_true (List.all_eq_true.1 hok r hr)
  have ⟨h1,h2⟩:=hR r hr
  rw [BK1 h2] at this
  have hc:Cb t:=fun x hx=>by have:=(BP7 ht).2 x hx; omega
  have:=(DG0 (am:=r.1.drop pre.length) (cs:=t) (fun x hx=>h1 x (List.mem_of_mem_drop hx)) hc).1
  omega
end Go.Proofs.YtbgnaamdlcggjaaGreat
