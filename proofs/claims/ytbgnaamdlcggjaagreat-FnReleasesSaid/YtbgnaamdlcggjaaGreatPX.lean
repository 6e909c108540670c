import Derived.Test.YtbgnaamdlcggjaaGreatPW
set_option linter.unusedVariables false
set_option autoImplicit false
namespace Go.Proofs.YtbgnaamdlcggjaaGreat
open Go Go.RowKit Go.Gv
theorem BW0{sx:List A0}{vs:List Int}(h:Lok sx)(hf:BN5 sx vs):Vok vs:=fun x hx=>by
  obtain ⟨i,hi,rfl⟩:=List.mem_iff_getElem.1 hx
  have h1:i<sx.length:=by rw [← hf.1]; exact hi
  have h2:=hf.2 i h1
  have h3:=BD5 h h1
  rw [H9 hi,R2 h1] at h2
  omega
theorem DK2{sx:List A0}{w:List Int}(h:Lok sx)(hw:AU7 sx w=true):w.length=sx.length/\ER8 w:=by
  unfold AU7 at hw
  simp only [Bool.and_eq_true,decide_eq_true_eq] at hw
  refine ⟨hw.1,fun x hx=>?_⟩
  obtain ⟨i,hi,rfl⟩:=List.mem_iff_getElem.1 hx
  have h1:=U2.1 (AC1 hw.2 (show i<sx.length by omega))
  have h2:=DF5 h (show i<sx.length by omega)
  rw [H9 hi,R2 (by omega)] at h1
  omega
def AN4(vs vars:List Int):List Int:=vars.map fun v=>gi vs v.toNat
theorem BQ1{sx:List A0}{vs vars:List Int}(hf:BN5 sx vs)(hv:Vin sx.length vars):BN5 (AE4 sx vars) (AN4 vs vars):=by
  refine ⟨by simp [AN4,AE4],fun i hi=>?_⟩
  have hi':i<vars.length:=by simpa [AE4] using hi
  have h1:=hv.2 _ (List.getElem_mem hi')
  have h2:=hf.2 (vars[i]).toNat (by omega)
  have e1:gi (AN4 vs vars) i=gi vs (vars[i]).toNat:=by rw [H9 (by simpa [AN4] using hi')]; simp [AN4]
  have e2:vAt (AE4 sx vars) i=vAt sx (vars[i]).toNat:=by rw [R2 hi]; simp [AE4]
  rw [e1,e2]; exact h2
theorem DS5{n:Nat}{vs vars:List Int}{Q:List Int->Prop}(hn:vs.length=n)(h6:n<=6)(hv:Vin n vars)(hq:Q (AN4 vs vars)):BA3 vs vars Q:=by
  have h1:=hv.1
  unfold BA3
  refine F4 (by omega) (fun o i=>o=(vars.take i).map fun v=>gi vs v.toNat) rfl (fun o i nx hi ho hx=>?_) (fun o ho=>by rw [List.take_length] at ho; rw [ho]; exact hq)
  subst ho
  have hv':=hv.2 _ (List.getElem_mem hi)
  refine C4 hi (AE3 hv'.1 (by omega) ⟨?_,hx _ ?_⟩)
  · unfold ln; rw [List.length_map,List.length_take]; simp only [List.length_singleton]; omega
  · rw [List.take_succ_eq_append_getElem hi,List.map_append]
    simp only [List.map_cons,List.map_nil]
    rw [H9 (show (vars[i]).toNat<vs.length by omega)]
def amt(t:Table)(vs:List Int):Int:=if t.Sum<0 then 1 else gi vs t.Sum.toNat
def cel(p:List Int)(sx:List A0)(t:Table)(a:Int)(vs:List Int):Nat:=BD8 (lev p t.Level) a * cnt (AE4 sx t.Vars)+ixN 0 (AE4 sx t.Vars) (AN4 vs t.Vars)
def cell(p:List Int)(sx:List A0)(t:Table)(i:Nat)(vs:List Int):Int×Int :=
  if up p i t.Level<0∨BN3 t.Where vs=false then (-1,0) else ((cel p sx t (up p i t.Level) vs:Int),amt t vs)
structure CIn (p:List Int) (sx:List A0) (t:Table) (i:Nat) (vs:List Int):Prop where
  g:gOk p=true
  l:Lok sx
  t:tOk p sx t=true
  i:i<p.length
  v:BN5 sx vs
section
variable {p:List Int} {sx:List A0} {t:Table} {i:Nat} {vs:List Int}
theorem CIn.tf(c:CIn p sx t i vs):AQ7 sx.length t.Vars=true/\AU7 sx t.Where=true/\(-1<=t.Sum/\t.Sum<sx.length)/\0<L3 p sx t/\L3 p sx t<=600:=by
  have h:=c.t
  unfold tOk at h
  simp only [Bool.and_eq_true,decide_eq_true_eq] at h
  have:=U2.1 h.1.2
  exact ⟨h.1.1.1,h.1.1.2,by omega,h.2.1,h.2.2⟩
theorem CIn.mem(c:CIn p sx t i vs)(h:¬ up p i t.Level<0):up p i t.Level∈lev p t.Level:=by
  unfold up at h ⊢
  by_cases e:t.Level<0∨(dep p i:Int)<t.Level
  · rw [if_pos e] at h; omega
  · rw [if_neg e]
    have ⟨h1,h2⟩:=EN5 c.g (dep p i-t.Level.toNat) i c.i (by omega)
    exact BP2.2 ⟨_,rfl,h1,by rw [h2]; exact decide_eq_true (by omega)⟩
theorem CIn.lt(c:CIn p sx t i vs)(h:¬ up p i t.Level<0):BD8 (lev p t.Level) (up p i t.Level)<(lev p t.Level).length/\ixN 0 (AE4 sx t.Vars) (AN4 vs t.Vars)<cnt (AE4 sx t.Vars)/\cel p sx t (up p i t.Level) vs<L3 p sx t:=by
  obtain ⟨h1,_⟩:=BW2 (c.mem h)
  have h2:=CN4 0 (BQ1 c.v (BD3 c.tf.1))
  rw [Nat.zero_add,Nat.one_mul] at h2
  refine ⟨h1,h2,?_⟩
  unfold cel L3
  have:(BD8 (lev p t.Level) (up p i t.Level)+1) * cnt (AE4 sx t.Vars)<=(lev p t.Level).length * cnt (AE4 sx t.Vars):=Nat.mul_le_mul_right _ h1
  rw [Nat.add_mul,Nat.one_mul] at this
  omega
theorem CW5{a b c n:Nat}(h:a * b+c<n)(hn:n<=600):wr (wr ((a:Int) * (b:Int))+(c:Int))=((a * b+c:Nat):Int):=by
  have e:(a:Int) * (b:Int)=((a * b:Nat):Int):=by rw [Int.natCast_mul]
  rw [e]
  generalize a * b=q at h ⊢
  rw [E9 (x:=(q:Int)) (by omega) (by omega),E9 (by omega) (by omega)]; omega
theorem DH1(h:gOk p=true)(l:Int):(lev p l).length<=30:=by
  have h1:=AM2 (f:=fun i=>decide ((dep p i:Int)=l)) (n:=p.length)
  have h2:=(Z2 h).1
  unfold lev; omega
theorem CR1{r:Record}{Q:Int->Int->Prop}(c:CIn p sx t i r.Values)(ha:r.Area=(i:Int))(hq:Q (cell p sx t i r.Values).1 (cell p sx t i r.Values).2):AK0 ⟨p⟩ sx t r Q:=by
  obtain ⟨t1,t2,t3,t4,t5⟩:=c.tf
  have hV:=BD3 t1
  have ⟨w1,w2⟩:=DK2 c.l t2
  have hvl:=c.v.1
  have h6:=c.l.1
  have hll:=DH1 c.g t.Level
  unfold AK0
  rw [ha]
  refine EN6 (p:=p) c.g c.i (D3 (decide (up p i t.Level<0) || !BN3 t.Where r.Values) ?_ fun k hk=>E1 (fun g=>?_) (fun g=>?_))
  · refine K0 (fun g=>?_) (fun g=>?_)
    · have:up p i t.Level<0∨BN3 t.Where r.Values=false:=by
        simp only [Bool.or_eq_true,decide_eq_true_eq,Bool.not_eq_true'] at g; exact g
      unfold cell at hq; rw [if_pos this] at hq; exact hq
    · have g':¬ (up p i t.Level<0∨BN3 t.Where r.Values=false):=by
        simp only [Bool.or_eq_false_iff,decide_eq_false_iff_not,Bool.not_eq_false'] at g
        rintro (x | x)
        · exact g.1 x
        · rw [g.2] at x; cases x
      have gu:¬ up p i t.Level<0:=fun x=>g' (.inl x)
      have ⟨l1,l2,l3⟩:=c.lt gu
      unfold cell at hq; rw [if_neg g'] at hq
      refine CR2 c.l hV (BG2 (p:=p) c.g ⟨(BD8 (lev p t.Level) (up p i t.Level):Int),DP9 (by omega) (BM2 _) (c.mem gu) rfl,(cnt (AE4 sx t.Vars):Int),BF8 (AL4 c.l hV) rfl,DS5 hvl h6 hV ⟨(ixN 0 (AE4 sx t.Vars) (AN4 r.Values t.Vars):Int),DP5 (AL4 c.l hV) (BQ1 c.v hV) rfl,?_⟩⟩)
      unfold cel at l3
      have ew:=CW5 l3 t5
      refine E1 (fun g2=>?_) (fun g2=>AE3 (by omega) (by omega) ?_)
      · show Q (wr (wr (_ * _)+_)) 1
        rw [ew]
        unfold amt at hq; rw [if_pos g2] at hq; exact hq
      · show Q (wr (wr (_ * _)+_)) _
        rw [ew]
        unfold amt at hq; rw [if_neg g2,H9 (by omega)] at hq; exact hq
  · rw [decide_eq_true g] at hk; exact hk
  · rw [decide_eq_false g,Bool.false_or] at hk
    exact DL2 (t:=t) w2 (BW0 c.l c.v) (by omega) (by omega) hk
theorem BC7{r:Record}{Q:Int->Int->Prop}(c:CIn p sx t i r.Values)(ha:r.Area=(i:Int))(hq:Q (cell p sx t i r.Values).1 (cell p sx t i r.Values).2):P4 ⟨p⟩ sx t r Q:=by
  obtain ⟨t1,t2,t3,t4,t5⟩:=c.tf
  have hV:=BD3 t1
  have ⟨w1,w2⟩:=DK2 c.l t2
  have hvl:=c.v.1
  have h6:=c.l.1
  have hll:=DH1 c.g t.Level
  have hV1:=hV.1
  unfold P4
  rw [ha]
  refine CG9 (p:=p) c.g c.i (D3 (decide (up p i t.Level<0) || !BN3 t.Where r.Values) ?_ fun k hk=>E1 (fun g=>?_) (fun g=>?_))
  · refine K0 (fun g=>?_) (fun g=>⟨by unfold ln; omega,by unfold ln; omega,?_⟩)
    · have:up p i t.Level<0∨BN3 t.Where r.Values=false:=by
        simp only [Bool.or_eq_true,decide_eq_true_eq,Bool.not_eq_true'] at g; exact g
      unfold cell at hq; rw [if_pos this] at hq; exact hq
    · have g':¬ (up p i t.Level<0∨BN3 t.Where r.Values=false):=by
        simp only [Bool.or_eq_false_iff,decide_eq_false_iff_not,Bool.not_eq_false'] at g
        rintro (x | x)
        · exact g.1 x
        · rw [g.2] at x; cases x
      have gu:¬ up p i t.Level<0:=fun x=>g' (.inl x)
      have ⟨l1,l2,l3⟩:=c.lt gu
      unfold cell at hq; rw [if_neg g'] at hq
      have hpl:(AN4 r.Values t.Vars).length=t.Vars.length:=by simp [AN4]
      refine F4 (by omega) (fun o j=>o.length=t.Vars.length/\o.take j=(AN4 r.Values t.Vars).take j) ⟨by simp,by simp⟩ (fun o j nx hj ⟨h2,h3⟩ hx=>?_) (fun o ⟨h2,h3⟩=>?_)
      · have hv':=hV.2 _ (List.getElem_mem hj)
        refine C4 hj (AE3 hv'.1 (by omega) ⟨by omega,by omega,hx _ ⟨by simpa using h2,?_⟩⟩)
        have:=CU6 (xs:=o) (ys:=AN4 r.Values t.Vars) (i:=j) (by omega) (by omega) h3
        have e:(AN4 r.Values t.Vars)[j]'(by omega)=r.Values[(t.Vars[j]).toNat]'(by omega):=by simp only [AN4,List.getElem_map]; exact H9 _
        rw [e] at this
        rw [Int.toNat_natCast]; exact this
      · have eo:o=AN4 r.Values t.Vars:=CB6 (n:=t.Vars.length) h3 h2 hpl
        subst eo
        refine D3 (amt t r.Values) ?_ fun k hk=>E1 (fun g2=>AE3 (by omega) (by omega) ?_) (fun g2=>?_)
        · unfold AS0
          refine CB9 (p:=p) c.g (BU3 (l:=lev p t.Level) (by omega) (BM2 _) (c.mem gu) (G9 rfl (CC1 (t:=t) c.l hV (W7 (AL4 c.l hV) (AW3 (AL4 c.l hV) (BQ1 c.v hV) ?_)))))
          unfold cel at l3
          have ew:=CW5 l3 t5
          show Q (wr (wr (_ * _)+_)) _
          rw [ew]; exact hq
        · unfold amt at hk; rw [if_neg (by omega),H9 (by omega)] at hk; exact hk
        · unfold amt at hk; rw [if_pos (by omega)] at hk; exact hk
  · rw [decide_eq_true g] at hk; exact hk
  · rw [decide_eq_false g,Bool.false_or] at hk
    refine CF9 (t:=t) (r:=⟨(i:Int),r.House,r.Values⟩) w2 (BW0 c.l c.v) (show t.Where.length<=r.Values.length by omega) (show t.Where.length<=_ by omega) ?_
    exact hk
end
end Go.Proofs.YtbgnaamdlcggjaaGreat
