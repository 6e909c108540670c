import Derived.Test.YtbgnaamdlcggjaaGreatPU
set_option linter.unusedVariables false
set_option autoImplicit false
namespace Go.Proofs.YtbgnaamdlcggjaaGreat
open Go Go.RowKit Go.Gv
theorem CR8{A B:Type}{f:(A->B->Prop)->Prop}{k:A->B->Prop}(a:A)(b:B)(h:k a b)(hf:∀ k':A->B->Prop,k' a b->f k'):jn f k:=hf k h
def BN3(w vs:List Int):Bool:=(List.range w.length).all fun i=>decide (gi w i=0) || tb (gi w i) (gi vs i)
def ER8(w:List Int):Prop:=∀ x∈w,0<=x/\x<=255
theorem DL2{t:Table}{vs:List Int}{Q:Bool->Prop}(hw:ER8 t.Where)(hv:Vok vs)(hl:t.Where.length<=vs.length)(hl':t.Where.length<=1048576)(hq:Q (BN3 t.Where vs)):AU0 t vs Q:=by
  unfold AU0
  refine F2 (by omega) (fun i=>(List.range i).all (fun i=>decide (gi t.Where i=0) || tb (gi t.Where i) (gi vs i))=true) (by simp) (fun i nx hi hj hx=>C4 hi ?_) (fun hj=>?_)
  · have hi':i<vs.length:=by omega
    have a:=hw _ (List.getElem_mem hi)
    have b:=hv _ (List.getElem_mem hi')
    have e:(decide (gi t.Where i=0) || tb (gi t.Where i) (gi vs i))=(decide (t.Where[i]=0) || tb t.Where[i] vs[i]):=by rw [H9 hi,H9 hi']
    refine D3 (!(decide (t.Where[i]=0) || tb t.Where[i] vs[i])) ?_ fun k hk=>AT1 (fun g=>C4 hi' ?_) (fun g=>?_)
    · refine F8 (fun g=>?_) (fun g=>hx (H2 hj (by rw [e]; exact g)))
      have:BN3 t.Where vs=false:=H3 hi (by rw [e]; exact g)
      rw [this] at hq; exact hq
    · rw [CC8 (by omega) (by omega),FA2 a.1 (by omega) b.1 (by omega)]
      rw [decide_eq_false g,Bool.false_or] at hk
      exact ⟨b.1,hk⟩
    · rw [decide_eq_true g] at hk; exact hk
  · have:BN3 t.Where vs=true:=hj
    rw [this] at hq; exact hq
theorem CF9{t:Table}{r:Record}{Q:Bool->Prop}(hw:ER8 t.Where)(hv:Vok r.Values)(hl:t.Where.length<=r.Values.length)(hl':t.Where.length<=1048576)(hq:Q (BN3 t.Where r.Values)):AD9 t r Q:=by
  unfold AD9
  refine F2 (by omega) (fun i=>(List.range i).all (fun i=>decide (gi t.Where i=0) || tb (gi t.Where i) (gi r.Values i))=true) (by simp) (fun i nx hi hj hx=>C4 hi ?_) (fun hj=>?_)
  · have hi':i<r.Values.length:=by omega
    have a:=hw _ (List.getElem_mem hi)
    have b:=hv _ (List.getElem_mem hi')
    have e:(decide (gi t.Where i=0) || tb (gi t.Where i) (gi r.Values i))=(decide (t.Where[i]=0) || tb t.Where[i] r.Values[i]):=by rw [H9 hi,H9 hi']
    refine D3 (!(decide (t.Where[i]=0) || tb t.Where[i] r.Values[i])) ?_ fun k hk=>AT1 (fun g=>C4 hi' ?_) (fun g=>?_)
    · refine F8 (fun g=>?_) (fun g=>hx (H2 hj (by rw [e]; exact g)))
      have:BN3 t.Where r.Values=false:=H3 hi (by rw [e]; exact g)
      rw [this] at hq; exact hq
    · rw [FA2 a.1 (by omega) b.1 (by omega)]
      rw [decide_eq_false g,Bool.false_or] at hk
      exact ⟨b.1,hk⟩
    · rw [decide_eq_true g] at hk; exact hk
  · have:BN3 t.Where r.Values=true:=hj
    rw [this] at hq; exact hq
def ixN:Nat->List A0->List Int->Nat
  | a,x :: r,v :: t=>ixN (a * lv x+v.toNat) r t
  | a,_,_=>a
def BN5(sx:List A0)(vs:List Int):Prop:=vs.length=sx.length/\∀ i,i<sx.length->0<=gi vs i/\gi vs i<(lv (vAt sx i):Int)
theorem CJ8{x:A0}{r:List A0}{v:Int}{t:List Int}(h:BN5 (x :: r) (v :: t)):(0<=v/\v<(lv x:Int))/\BN5 r t:=by
  refine ⟨h.2 0 (by simp),by have:=h.1; simpa using this,fun i hi=>?_⟩
  have:=h.2 (i+1) (by simpa using hi)
  simpa [gi,vAt] using this
theorem CN4:∀ {r:List A0} {t:List Int} (a:Nat),BN5 r t->ixN a r t<(a+1) * cnt r
  | [],[],a,_=>by simp [ixN,cnt]
  | [],v :: t,a,h=>by have:=h.1; simp at this
  | x :: r,[],a,h=>by have:=h.1; simp at this
  | x :: r,v :: t,a,h=>by
    have ⟨h1,h2⟩:=CJ8 h
    have h3:=CN4 (r:=r) (t:=t) (a * lv x+v.toNat) h2
    simp only [ixN,cnt]
    refine Nat.lt_of_lt_of_le h3 ?_
    rw [← Nat.mul_assoc]
    refine Nat.mul_le_mul_right _ ?_
    rw [Nat.add_mul,Nat.one_mul]; omega
theorem DK6{sx:List A0}{vs:List Int}(h:Lok sx)(hf:BN5 sx vs){i a:Nat}(hi:i<sx.length)(ha:a<8 ^ i) :
    wr (wr ((a:Int) * sx[i].Levels)+vs[i]'(by rw [hf.1]; exact hi))=((a * lv sx[i]+(vs[i]'(by rw [hf.1]; exact hi)).toNat:Nat):Int)/\a * lv sx[i]+(vs[i]'(by rw [hf.1]; exact hi)).toNat<8 ^ (i+1):=by
  have hi2:i<vs.length:=by rw [hf.1]; exact hi
  have ⟨e,h1,h2⟩:=BD5 h hi
  have hv:=hf.2 i hi
  rw [H9 hi2,R2 hi] at hv
  have h6:=h.1
  have hp:8 ^ (i+1)<=8 ^ 6:=Nat.pow_le_pow_right (by decide) (by omega)
  have e6:(8:Nat) ^ 6=262144:=by decide
  have hlt:a * lv sx[i]+(vs[i]).toNat<8 ^ (i+1):=by
    have h3:(a+1) * lv sx[i]<=8 ^ i * 8:=Nat.mul_le_mul ha h2
    rw [Nat.add_mul,Nat.one_mul] at h3
    rw [Nat.pow_succ]; omega
  refine ⟨?_,hlt⟩
  rw [← e]
  have e2:(a:Int) * (lv sx[i]:Int)=((a * lv sx[i]:Nat):Int):=by rw [Int.natCast_mul]
  rw [e2]
  generalize a * lv sx[i]=q at hlt ⊢
  rw [E9 (x:=(q:Int)) (by omega) (by omega),E9 (by omega) (by omega)]; omega
theorem DP5{sx:List A0}{vs:List Int}{Q:Int->Prop}(h:Lok sx)(hf:BN5 sx vs)(hq:Q (ixN 0 sx vs:Int)):AS6 sx vs Q:=by
  have h0:=h.1; have hl:=hf.1
  unfold AS6
  refine F4 (by omega) (fun n i=>∃ a:Nat,n=(a:Int)/\a<8 ^ i/\ixN a (sx.drop i) (vs.drop i)=ixN 0 sx vs) ⟨0,rfl,by simp,rfl⟩ ?_ ?_
  · rintro _ i nx hi ⟨a,rfl,ha,hk⟩ hx
    have hi2:i<vs.length:=by omega
    have ⟨e1,e2⟩:=DK6 h hf hi ha
    refine C4 hi (C4 hi2 ?_)
    rw [e1]
    refine hx _ ⟨_,rfl,e2,?_⟩
    rw [List.drop_eq_getElem_cons hi,List.drop_eq_getElem_cons hi2] at hk
    exact hk
  · rintro _ ⟨a,rfl,ha,hk⟩
    rw [List.drop_eq_nil_of_le (Nat.le_refl sx.length)] at hk
    have:a=ixN 0 sx vs:=hk
    rw [this]; exact hq
theorem AW3{sx:List A0}{vs:List Int}{Q:Int->Prop}(h:Lok sx)(hf:BN5 sx vs)(hq:Q (ixN 0 sx vs:Int)):R8 sx vs Q:=by
  have h0:=h.1; have hl:=hf.1
  unfold R8
  refine F4 (by omega) (fun n i=>∃ a:Nat,n=(a:Int)/\a<8 ^ i/\ixN a (sx.drop i) (vs.drop i)=ixN 0 sx vs) ⟨0,rfl,by simp,rfl⟩ ?_ ?_
  · rintro _ i nx hi ⟨a,rfl,ha,hk⟩ hx
    have hi2:i<sx.length:=by omega
    have ⟨e1,e2⟩:=DK6 h hf hi2 ha
    refine C4 hi (C4 hi2 ?_)
    rw [e1]
    refine hx _ ⟨_,rfl,e2,?_⟩
    rw [List.drop_eq_getElem_cons hi,List.drop_eq_getElem_cons hi2] at hk
    exact hk
  · rintro _ ⟨a,rfl,ha,hk⟩
    rw [List.drop_eq_nil_of_le (show sx.length<=vs.length by omega)] at hk
    have:a=ixN 0 sx vs:=hk
    rw [this]; exact hq
def Srt(l:List Int):Prop:=∀ i j (hj:j<l.length) (hij:i<j),l[i]'(by omega)<l[j]
theorem BM2{f:Nat->Bool}:∀ n,Srt (pick f n)
  | 0=>fun i j hj _=>by simp [pick] at hj
  | n+1=>by
    have ih:=BM2 (f:=f) n
    rw [AW4]
    split
    · intro i j hj hij
      rw [List.length_append,List.length_singleton] at hj
      by_cases e:j<(pick f n).length
      · rw [List.getElem_append_left e,List.getElem_append_left (by omega)]
        exact ih i j e hij
      · have ej:j=(pick f n).length:=by omega
        subst ej
        rw [List.getElem_append_left hij,List.getElem_append_right (Nat.le_refl _)]
        obtain ⟨m,hm,hmn,_⟩:=BP2.1 (List.getElem_mem hij)
        simp only [Nat.sub_self,List.getElem_cons_zero]
        rw [hm]; omega
    · rw [List.append_nil]; exact ih
def BD8:List Int->Int->Nat
  | [],_=>0
  | x :: l,n=>if x=n then 0 else BD8 l n+1
theorem BW2:∀ {l:List Int} {n:Int},n∈l->∃ h:BD8 l n<l.length,l[BD8 l n]=n
  | [],n,h=>by cases h
  | x :: l,n,h=>by
    unfold BD8
    by_cases e:x=n
    · exact ⟨by rw [if_pos e]; simp,by simp [e]⟩
    · have h':n∈l:=by
        rcases List.mem_cons.1 h with e' | h'
        · exact absurd e'.symm e
        · exact h'
      obtain ⟨h1,h2⟩:=BW2 h'
      exact ⟨by rw [if_neg e]; simpa using h1,by simp only [if_neg e,List.getElem_cons_succ]; exact h2⟩
theorem Srt.uniq{l:List Int}(h:Srt l){i j:Nat}(hi:i<l.length)(hj:j<l.length)(e:l[i]=l[j]):i=j:=by
  rcases Nat.lt_trichotomy i j with c | c | c
  · have:=h i j hj c; omega
  · exact c
  · have:=h j i hi c; omega
theorem DP9{l:List Int}{n:Int}{Q:Int->Prop}(hl:l.length<=1048576)(hs:Srt l)(hn:n∈l)(hq:Q (BD8 l n:Int)):AS7 l n Q:=by
  obtain ⟨h1,h2⟩:=BW2 hn
  unfold AS7
  refine F2 (by omega) (fun i=>i<=BD8 l n) (Nat.zero_le _) (fun i nx hi hj hx=>C4 hi (P8 (fun g=>?_) (fun g=>hx ?_))) (fun hj=>by omega)
  · have:=hs.uniq hi h1 (by rw [g,h2])
    rw [this]; exact hq
  · apply Nat.lt_of_le_of_ne hj
    intro e; subst e; exact g h2
theorem DC4{x y:Int}{Q:Bool->Prop}(hq:Q (decide (x<y))):AQ1 x y Q:=by
  unfold AQ1 AK5
  exact D3 _ hq fun k hk=>G9 (by simp) hk
theorem BU3{l:List Int}{n:Int}{Q:Int->Bool->Prop}(hl:l.length<=1048576)(hs:Srt l)(hn:n∈l)(hq:Q (BD8 l n:Int) true):M0 l n Q:=by
  obtain ⟨h1,h2⟩:=BW2 hn
  unfold M0
  refine ⟨fun i j=>∃ a b:Nat,i=(a:Int)/\j=(b:Int)/\a<=BD8 l n/\BD8 l n<=b/\b<=l.length,fun i j=>(j-i).toNat,⟨0,l.length,rfl,rfl,Nat.zero_le _,by omega,Nat.le_refl _⟩,?_⟩
  rintro _ _ ⟨a,b,rfl,rfl,ha,hb,hbl⟩
  refine E1 (fun g=>?_) (fun g=>?_)
  · have e:wr (Int.fdiv (IntKind.u64.wrap (wr ((a:Int)+(b:Int)))) (2 ^ 1))=(((a+b) / 2:Nat):Int):=by
      rw [E9 (x:=(a:Int)+(b:Int)) (by omega) (by omega),CC8 (by omega) (by omega),Int.fdiv_eq_ediv_of_nonneg _ (by decide)]
      have:((a:Int)+(b:Int)) / 2 ^ 1=(((a+b) / 2:Nat):Int):=by
        have e2:(2:Int) ^ 1=2:=by decide
        rw [e2]; omega
      rw [this,E9 (by omega) (by omega)]
    rw [e]
    have hm:(a+b) / 2<b:=by omega
    have hm2:a<=(a+b) / 2:=by omega
    generalize (a+b) / 2=m at hm hm2
    have hml:m<l.length:=by omega
    refine C4 hml (DC4 (E1 (fun g2=>?_) (fun g2=>?_)))
    · rw [E9 (by omega) (by omega)]
      have:m<BD8 l n:=by
        apply Nat.lt_of_not_le; intro c
        rcases Nat.lt_or_eq_of_le c with c | c
        · have:=hs _ _ hml c; omega
        · subst c; omega
      refine ⟨⟨m+1,b,by omega,rfl,by omega,hb,hbl⟩,?_⟩
      show ((b:Int)-((m:Int)+1)).toNat<((b:Int)-(a:Int)).toNat
      omega
    · have:BD8 l n<=m:=by
        apply Nat.le_of_not_lt; intro c
        have:=hs _ _ h1 c; omega
      refine ⟨⟨a,m,rfl,rfl,ha,this,by omega⟩,?_⟩
      show ((m:Int)-(a:Int)).toNat<((b:Int)-(a:Int)).toNat
      omega
  · have ea:a=BD8 l n:=by omega
    subst ea
    refine CR8 (BD8 l n:Int) true hq fun k hk=>BZ2 (by unfold ln; omega) (C4 h1 (S1 (by simp [h2]) hk))
end Go.Proofs.YtbgnaamdlcggjaaGreat
