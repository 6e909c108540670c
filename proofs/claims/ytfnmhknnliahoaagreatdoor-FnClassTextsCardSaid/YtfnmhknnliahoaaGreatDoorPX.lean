/- Plain facts about cells: both programs put a record into the same cell, with the same amount. -/
import Derived.Test.YtfnmhknnliahoaaGreatDoorPW
set_option linter.unusedVariables false
set_option autoImplicit false
namespace Go.Proofs.YtfnmhknnliahoaaGreatDoor
open Go Go.RowKit Go.Gv
theorem fitV_ok {sx:List Variable} {vs:List Int} (h:Lok sx) (hf:fitV sx vs):Vok vs:=fun x hx=>by
  obtain ⟨i,hi,rfl⟩:=List.mem_iff_getElem.1 hx
  have h1:i<sx.length:=by rw [← hf.1]; exact hi
  have h2:=hf.2 i h1
  have h3:=lv_at h h1
  rw [gi_at hi,vAt_at h1] at h2
  omega
theorem whOk_in {sx:List Variable} {w:List Int} (h:Lok sx) (hw:whOk sx w=true):w.length=sx.length∧Win8 w:=by
  unfold whOk at hw
  simp only [Bool.and_eq_true,decide_eq_true_eq] at hw
  refine ⟨hw.1,fun x hx=>?_⟩
  obtain ⟨i,hi,rfl⟩:=List.mem_iff_getElem.1 hx
  have h1:=inb_iff'.1 (range_all_at hw.2 (show i<sx.length by omega))
  have h2:=full_at h (show i<sx.length by omega)
  rw [gi_at hi,vAt_at (by omega)] at h1
  omega
def pickV (vs vars:List Int):List Int:=vars.map fun v=>gi vs v.toNat
theorem pickV_fit {sx:List Variable} {vs vars:List Int} (hf:fitV sx vs) (hv:Vin sx.length vars):fitV (part sx vars) (pickV vs vars):=by
  refine ⟨by simp [pickV,part],fun i hi=>?_⟩
  have hi':i<vars.length:=by simpa [part] using hi
  have h1:=hv.2 _ (List.getElem_mem hi')
  have h2:=hf.2 (vars[i]).toNat (by omega)
  have e1:gi (pickV vs vars) i=gi vs (vars[i]).toNat:=by rw [gi_at (by simpa [pickV] using hi')]; simp [pickV]
  have e2:vAt (part sx vars) i=vAt sx (vars[i]).toNat:=by rw [vAt_at hi]; simp [part]
  rw [e1,e2]; exact h2
theorem sPick_ok {n:Nat} {vs vars:List Int} {Q:List Int→Prop} (hn:vs.length=n) (h6:n≤6) (hv:Vin n vars) (hq:Q (pickV vs vars)):spec_sPick vs vars Q:=by
  have h1:=hv.1
  unfold spec_sPick
  refine loop2_list (by omega) (fun o i=>o=(vars.take i).map fun v=>gi vs v.toNat) rfl (fun o i nx hi ho hx=>?_) (fun o ho=>by rw [List.take_length] at ho; rw [ho]; exact hq)
  subst ho
  have hv':=hv.2 _ (List.getElem_mem hi)
  refine idx_at hi (idx_of hv'.1 (by omega) ⟨?_,hx _ ?_⟩)
  · unfold ln; rw [List.length_map,List.length_take]; simp only [List.length_singleton]; omega
  · rw [List.take_succ_eq_append_getElem hi,List.map_append]
    simp only [List.map_cons,List.map_nil]
    rw [gi_at (show (vars[i]).toNat<vs.length by omega)]
def amt (t:Table) (vs:List Int):Int:=if t.Sum<0 then 1 else gi vs t.Sum.toNat
def cel (p:List Int) (sx:List Variable) (t:Table) (a:Int) (vs:List Int):Nat:=posN (lev p t.Level) a * cnt (part sx t.Vars)+ixN 0 (part sx t.Vars) (pickV vs t.Vars)
def cell (p:List Int) (sx:List Variable) (t:Table) (i:Nat) (vs:List Int):Int×Int :=
  if up p i t.Level<0∨metW t.Where vs=false then (-1,0) else ((cel p sx t (up p i t.Level) vs:Int),amt t vs)
structure CIn (p:List Int) (sx:List Variable) (t:Table) (i:Nat) (vs:List Int):Prop where
  g:gOk p=true
  l:Lok sx
  t:tOk p sx t=true
  i:i<p.length
  v:fitV sx vs
section
variable {p:List Int} {sx:List Variable} {t:Table} {i:Nat} {vs:List Int}
theorem CIn.tf (c:CIn p sx t i vs):risOk sx.length t.Vars=true∧whOk sx t.Where=true∧(-1≤t.Sum∧t.Sum<sx.length)∧0<cellN p sx t∧cellN p sx t≤600:=by
  have h:=c.t
  unfold tOk at h
  simp only [Bool.and_eq_true,decide_eq_true_eq] at h
  have:=inb_iff'.1 h.1.2
  exact ⟨h.1.1.1,h.1.1.2,by omega,h.2.1,h.2.2⟩
theorem CIn.mem (c:CIn p sx t i vs) (h:¬ up p i t.Level<0):up p i t.Level∈lev p t.Level:=by
  unfold up at h ⊢
  by_cases e:t.Level<0∨(dep p i:Int)<t.Level
  · rw [if_pos e] at h; omega
  · rw [if_neg e]
    have ⟨h1,h2⟩:=upN_ok c.g (dep p i-t.Level.toNat) i c.i (by omega)
    exact mem_pick.2 ⟨_,rfl,h1,by rw [h2]; exact decide_eq_true (by omega)⟩
theorem CIn.lt (c:CIn p sx t i vs) (h:¬ up p i t.Level<0):posN (lev p t.Level) (up p i t.Level)<(lev p t.Level).length∧ixN 0 (part sx t.Vars) (pickV vs t.Vars)<cnt (part sx t.Vars)∧cel p sx t (up p i t.Level) vs<cellN p sx t:=by
  obtain ⟨h1,_⟩:=posN_ok (c.mem h)
  have h2:=ixN_lt 0 (pickV_fit c.v (Vin_of c.tf.1))
  rw [Nat.zero_add,Nat.one_mul] at h2
  refine ⟨h1,h2,?_⟩
  unfold cel cellN
  have:(posN (lev p t.Level) (up p i t.Level)+1) * cnt (part sx t.Vars)≤(lev p t.Level).length * cnt (part sx t.Vars):=Nat.mul_le_mul_right _ h1
  rw [Nat.add_mul,Nat.one_mul] at this
  omega
theorem cel_wr {a b c n:Nat} (h:a * b+c<n) (hn:n≤600):wr (wr ((a:Int) * (b:Int))+(c:Int))=((a * b+c:Nat):Int):=by
  have e:(a:Int) * (b:Int)=((a * b:Nat):Int):=by rw [Int.natCast_mul]
  rw [e]
  generalize a * b=q at h ⊢
  rw [wr_in (x:=(q:Int)) (by omega) (by omega),wr_in (by omega) (by omega)]; omega
theorem lev_len (h:gOk p=true) (l:Int):(lev p l).length≤30:=by
  have h1:=pick_len (f:=fun i=>decide ((dep p i:Int)=l)) (n:=p.length)
  have h2:=(gOk_of h).1
  unfold lev; omega
theorem uCell_ok {r:Record} {Q:Int→Int→Prop} (c:CIn p sx t i r.Values) (ha:r.Area=(i:Int)) (hq:Q (cell p sx t i r.Values).1 (cell p sx t i r.Values).2):spec_uCell ⟨p⟩ sx t r Q:=by
  obtain ⟨t1,t2,t3,t4,t5⟩:=c.tf
  have hV:=Vin_of t1
  have ⟨w1,w2⟩:=whOk_in c.l t2
  have hvl:=c.v.1
  have h6:=c.l.1
  have hll:=lev_len c.g t.Level
  unfold spec_uCell
  rw [ha]
  refine gUp_ok (p:=p) c.g c.i (jn_bool (decide (up p i t.Level<0) || !metW t.Where r.Values) ?_ fun k hk=>br_dec (fun g=>?_) (fun g=>?_))
  · refine br_bo (fun g=>?_) (fun g=>?_)
    · have:up p i t.Level<0∨metW t.Where r.Values=false:=by
        simp only [Bool.or_eq_true,decide_eq_true_eq,Bool.not_eq_true'] at g; exact g
      unfold cell at hq; rw [if_pos this] at hq; exact hq
    · have g':¬ (up p i t.Level<0∨metW t.Where r.Values=false):=by
        simp only [Bool.or_eq_false_iff,decide_eq_false_iff_not,Bool.not_eq_false'] at g
        rintro (x | x)
        · exact g.1 x
        · rw [g.2] at x; cases x
      have gu:¬ up p i t.Level<0:=fun x=>g' (.inl x)
      have ⟨l1,l2,l3⟩:=c.lt gu
      unfold cell at hq; rw [if_neg g'] at hq
      refine sPart_ok c.l hV (gLevel_ok (p:=p) c.g ⟨(posN (lev p t.Level) (up p i t.Level):Int),l1Find_ok (by omega) (pick_srt _) (c.mem gu) rfl,(cnt (part sx t.Vars):Int),sCount_ok (part_Lok c.l hV) rfl,sPick_ok hvl h6 hV ⟨(ixN 0 (part sx t.Vars) (pickV r.Values t.Vars):Int),sIndex_ok (part_Lok c.l hV) (pickV_fit c.v hV) rfl,?_⟩⟩)
      unfold cel at l3
      have ew:=cel_wr l3 t5
      refine br_dec (fun g2=>?_) (fun g2=>idx_of (by omega) (by omega) ?_)
      · show Q (wr (wr (_ * _)+_)) 1
        rw [ew]
        unfold amt at hq; rw [if_pos g2] at hq; exact hq
      · show Q (wr (wr (_ * _)+_)) _
        rw [ew]
        unfold amt at hq; rw [if_neg g2,gi_at (by omega)] at hq; exact hq
  · rw [decide_eq_true g] at hk; exact hk
  · rw [decide_eq_false g,Bool.false_or] at hk
    exact uMeets_ok (t:=t) w2 (fitV_ok c.l c.v) (by omega) (by omega) hk
end
end Go.Proofs.YtfnmhknnliahoaaGreatDoor
