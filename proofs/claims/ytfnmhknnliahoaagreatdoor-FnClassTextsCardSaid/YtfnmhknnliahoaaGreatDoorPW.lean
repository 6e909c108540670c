/- Plain facts about cells: where a record of a survey counts, and how much. -/
import Derived.Test.YtfnmhknnliahoaaGreatDoorPU
set_option linter.unusedVariables false
set_option autoImplicit false
namespace Go.Proofs.YtfnmhknnliahoaaGreatDoor
open Go Go.RowKit Go.Gv
def metW (w vs:List Int):Bool:=(List.range w.length).all fun i=>decide (gi w i=0) || tb (gi w i) (gi vs i)
def Win8 (w:List Int):Prop:=∀ x∈w,0≤x∧x≤255
theorem uMeets_ok {t:Table} {vs:List Int} {Q:Bool→Prop} (hw:Win8 t.Where) (hv:Vok vs) (hl:t.Where.length≤vs.length) (hl':t.Where.length≤1048576) (hq:Q (metW t.Where vs)):spec_uMeets t vs Q:=by
  unfold spec_uMeets
  refine loop1_list (by omega) (fun i=>(List.range i).all (fun i=>decide (gi t.Where i=0) || tb (gi t.Where i) (gi vs i))=true) (by simp) (fun i nx hi hj hx=>idx_at hi ?_) (fun hj=>?_)
  · have hi':i<vs.length:=by omega
    have a:=hw _ (List.getElem_mem hi)
    have b:=hv _ (List.getElem_mem hi')
    have e:(decide (gi t.Where i=0) || tb (gi t.Where i) (gi vs i))=(decide (t.Where[i]=0) || tb t.Where[i] vs[i]):=by rw [gi_at hi,gi_at hi']
    refine jn_bool (!(decide (t.Where[i]=0) || tb t.Where[i] vs[i])) ?_ fun k hk=>br_ne (fun g=>idx_at hi' ?_) (fun g=>?_)
    · refine br_nb (fun g=>?_) (fun g=>hx (range_all_succ hj (by rw [e]; exact g)))
      have:metW t.Where vs=false:=range_all_no hi (by rw [e]; exact g)
      rw [this] at hq; exact hq
    · rw [wrap_u64 (by omega) (by omega),bit0 a.1 (by omega) b.1 (by omega)]
      rw [decide_eq_false g,Bool.false_or] at hk
      exact ⟨b.1,hk⟩
    · rw [decide_eq_true g] at hk; exact hk
  · have:metW t.Where vs=true:=hj
    rw [this] at hq; exact hq
def ixN:Nat→List Variable→List Int→Nat
  | a,x :: r,v :: t=>ixN (a * lv x+v.toNat) r t
  | a,_,_=>a
def fitV (sx:List Variable) (vs:List Int):Prop:=vs.length=sx.length∧∀ i,i<sx.length→0≤gi vs i∧gi vs i<(lv (vAt sx i):Int)
theorem fitV_tail {x:Variable} {r:List Variable} {v:Int} {t:List Int} (h:fitV (x :: r) (v :: t)):(0≤v∧v<(lv x:Int))∧fitV r t:=by
  refine ⟨h.2 0 (by simp),by have:=h.1; simpa using this,fun i hi=>?_⟩
  have:=h.2 (i+1) (by simpa using hi)
  simpa [gi,vAt] using this
theorem ixN_lt:∀ {r:List Variable} {t:List Int} (a:Nat),fitV r t→ixN a r t<(a+1) * cnt r
  | [],[],a,_=>by simp [ixN,cnt]
  | [],v :: t,a,h=>by have:=h.1; simp at this
  | x :: r,[],a,h=>by have:=h.1; simp at this
  | x :: r,v :: t,a,h=>by
    have ⟨h1,h2⟩:=fitV_tail h
    have h3:=ixN_lt (r:=r) (t:=t) (a * lv x+v.toNat) h2
    simp only [ixN,cnt]
    refine Nat.lt_of_lt_of_le h3 ?_
    rw [← Nat.mul_assoc]
    refine Nat.mul_le_mul_right _ ?_
    rw [Nat.add_mul,Nat.one_mul]; omega
theorem ix_step {sx:List Variable} {vs:List Int} (h:Lok sx) (hf:fitV sx vs) {i a:Nat} (hi:i<sx.length) (ha:a<8 ^ i) :
    wr (wr ((a:Int) * sx[i].Levels)+vs[i]'(by rw [hf.1]; exact hi))=((a * lv sx[i]+(vs[i]'(by rw [hf.1]; exact hi)).toNat:Nat):Int)∧a * lv sx[i]+(vs[i]'(by rw [hf.1]; exact hi)).toNat<8 ^ (i+1):=by
  have hi2:i<vs.length:=by rw [hf.1]; exact hi
  have ⟨e,h1,h2⟩:=lv_at h hi
  have hv:=hf.2 i hi
  rw [gi_at hi2,vAt_at hi] at hv
  have h6:=h.1
  have hp:8 ^ (i+1)≤8 ^ 6:=Nat.pow_le_pow_right (by decide) (by omega)
  have e6:(8:Nat) ^ 6=262144:=by decide
  have hlt:a * lv sx[i]+(vs[i]).toNat<8 ^ (i+1):=by
    have h3:(a+1) * lv sx[i]≤8 ^ i * 8:=Nat.mul_le_mul ha h2
    rw [Nat.add_mul,Nat.one_mul] at h3
    rw [Nat.pow_succ]; omega
  refine ⟨?_,hlt⟩
  rw [← e]
  have e2:(a:Int) * (lv sx[i]:Int)=((a * lv sx[i]:Nat):Int):=by rw [Int.natCast_mul]
  rw [e2]
  generalize a * lv sx[i]=q at hlt ⊢
  rw [wr_in (x:=(q:Int)) (by omega) (by omega),wr_in (by omega) (by omega)]; omega
theorem sIndex_ok {sx:List Variable} {vs:List Int} {Q:Int→Prop} (h:Lok sx) (hf:fitV sx vs) (hq:Q (ixN 0 sx vs:Int)):spec_sIndex sx vs Q:=by
  have h0:=h.1; have hl:=hf.1
  unfold spec_sIndex
  refine loop2_list (by omega) (fun n i=>∃ a:Nat,n=(a:Int)∧a<8 ^ i∧ixN a (sx.drop i) (vs.drop i)=ixN 0 sx vs) ⟨0,rfl,by simp,rfl⟩ ?_ ?_
  · rintro _ i nx hi ⟨a,rfl,ha,hk⟩ hx
    have hi2:i<vs.length:=by omega
    have ⟨e1,e2⟩:=ix_step h hf hi ha
    refine idx_at hi (idx_at hi2 ?_)
    rw [e1]
    refine hx _ ⟨_,rfl,e2,?_⟩
    rw [List.drop_eq_getElem_cons hi,List.drop_eq_getElem_cons hi2] at hk
    exact hk
  · rintro _ ⟨a,rfl,ha,hk⟩
    rw [List.drop_eq_nil_of_le (Nat.le_refl sx.length)] at hk
    have:a=ixN 0 sx vs:=hk
    rw [this]; exact hq
def Srt (l:List Int):Prop:=∀ i j (hj:j<l.length) (hij:i<j),l[i]'(by omega)<l[j]
theorem pick_srt {f:Nat→Bool}:∀ n,Srt (pick f n)
  | 0=>fun i j hj _=>by simp [pick] at hj
  | n+1=>by
    have ih:=pick_srt (f:=f) n
    rw [pick_succ]
    split
    · intro i j hj hij
      rw [List.length_append,List.length_singleton] at hj
      by_cases e:j<(pick f n).length
      · rw [List.getElem_append_left e,List.getElem_append_left (by omega)]
        exact ih i j e hij
      · have ej:j=(pick f n).length:=by omega
        subst ej
        rw [List.getElem_append_left hij,List.getElem_append_right (Nat.le_refl _)]
        obtain ⟨m,hm,hmn,_⟩:=mem_pick.1 (List.getElem_mem hij)
        simp only [Nat.sub_self,List.getElem_cons_zero]
        rw [hm]; omega
    · rw [List.append_nil]; exact ih
def posN:List Int→Int→Nat
  | [],_=>0
  | x :: l,n=>if x=n then 0 else posN l n+1
theorem posN_ok:∀ {l:List Int} {n:Int},n∈l→∃ h:posN l n<l.length,l[posN l n]=n
  | [],n,h=>by cases h
  | x :: l,n,h=>by
    unfold posN
    by_cases e:x=n
    · exact ⟨by rw [if_pos e]; simp,by simp [e]⟩
    · have h':n∈l:=by
        rcases List.mem_cons.1 h with e' | h'
        · exact absurd e'.symm e
        · exact h'
      obtain ⟨h1,h2⟩:=posN_ok h'
      exact ⟨by rw [if_neg e]; simpa using h1,by simp only [if_neg e,List.getElem_cons_succ]; exact h2⟩
theorem Srt.uniq {l:List Int} (h:Srt l) {i j:Nat} (hi:i<l.length) (hj:j<l.length) (e:l[i]=l[j]):i=j:=by
  rcases Nat.lt_trichotomy i j with c | c | c
  · have:=h i j hj c; omega
  · exact c
  · have:=h j i hi c; omega
theorem l1Find_ok {l:List Int} {n:Int} {Q:Int→Prop} (hl:l.length≤1048576) (hs:Srt l) (hn:n∈l) (hq:Q (posN l n:Int)):spec_l1Find l n Q:=by
  obtain ⟨h1,h2⟩:=posN_ok hn
  unfold spec_l1Find
  refine loop1_list (by omega) (fun i=>i≤posN l n) (Nat.zero_le _) (fun i nx hi hj hx=>idx_at hi (br_eq (fun g=>?_) (fun g=>hx ?_))) (fun hj=>by omega)
  · have:=hs.uniq hi h1 (by rw [g,h2])
    rw [this]; exact hq
  · apply Nat.lt_of_le_of_ne hj
    intro e; subst e; exact g h2
end Go.Proofs.YtfnmhknnliahoaaGreatDoor
