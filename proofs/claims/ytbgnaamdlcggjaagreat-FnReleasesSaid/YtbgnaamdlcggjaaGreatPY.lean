import Derived.Test.YtbgnaamdlcggjaaGreatPX
set_option linter.unusedVariables false
set_option autoImplicit false
namespace Go.Proofs.YtbgnaamdlcggjaaGreat
open Go Go.RowKit Go.Gv
def nT(p:List Int)(sx:List A0):Nat:=(lvs p).length * cnt sx
theorem BW5{p:List Int}(h:gOk p=true):(lvs p).length<=30:=by
  have h1:=AM2 (f:=fun i => !AE8 p (i:Int)) (n:=p.length)
  have h2:=(Z2 h).1
  unfold lvs; omega
theorem DP6{p:List Int}{sx:List A0}(h:gOk p=true)(hL:Lok sx):nT p sx<=30 * 262144:=Nat.mul_le_mul (BW5 h) (AB0 hL).2
theorem BQ4{p:List Int}{sx:List A0}{Q:Int->Prop}(h:gOk p=true)(hL:Lok sx)(hq:Q (nT p sx:Int)):U7 ⟨p⟩ sx Q:=by
  unfold U7
  refine AF0 (p:=p) h (BF8 hL ?_)
  have e:ln (lvs p) * (cnt sx:Int)=(nT p sx:Int):=by unfold ln nT; rw [Int.natCast_mul]
  have:=DP6 h hL
  show Q (wr (ln (lvs p) * (cnt sx:Int)))
  rw [e,E9 (by omega) (by omega)]; exact hq
theorem AC2{p:List Int}{sx:List A0}{Q:Int->Prop}(h:gOk p=true)(hL:Lok sx)(hq:Q (nT p sx:Int)):M5 ⟨p⟩ sx Q:=by
  unfold M5
  refine BD4 (p:=p) h (W7 hL ?_)
  have e:ln (lvs p) * (cnt sx:Int)=(nT p sx:Int):=by unfold ln nT; rw [Int.natCast_mul]
  have:=DP6 h hL
  show Q (wr (ln (lvs p) * (cnt sx:Int)))
  rw [e,E9 (by omega) (by omega)]; exact hq
def AP1(p:List Int)(sx:List A0):Bool:=(gOk p&&L7 sx)&&decide (nT p sx<=12)
theorem EA7{p:List Int}{sx:List A0}{Q:Bool->Prop}(hp:p.length<=1048576)(hl:sx.length<=1048576)(hs:∀ x∈sx,x.Name.size<=1048576)(hq:Q (AP1 p sx)):BA9 ⟨p⟩ sx Q:=by
  unfold BA9
  refine D3 (AP1 p sx) hq fun k hk=>BE5 (p:=p) hp (K0 (fun g=>CD5 hl hs (K0 (fun g1=>BQ4 (p:=p) g (AE2 g1) ?_) (fun g1=>?_))) (fun g=>?_))
  · have:AP1 p sx=decide ((nT p sx:Int)<=12):=by unfold AP1; rw [g,g1,Bool.true_and,Bool.true_and]; congr 1; simp; omega
    rw [this] at hk; exact hk
  · have:AP1 p sx=false:=by unfold AP1; rw [g1]; simp
    rw [this] at hk; exact hk
  · have:AP1 p sx=false:=by unfold AP1; rw [g]; rfl
    rw [this] at hk; exact hk
theorem BS9{p:List Int}{sx:List A0}{Q:Bool->Prop}(hp:p.length<=1048576)(hl:sx.length<=1048576)(hq:Q (AP1 p sx)):AD1 ⟨p⟩ sx Q:=by
  unfold AD1
  refine D3 (AP1 p sx) hq fun k hk=>CU0 (p:=p) hp (K0 (fun g=>BS7 hl (K0 (fun g1=>AC2 (p:=p) g (AE2 g1) ?_) (fun g1=>?_))) (fun g=>?_))
  · have:AP1 p sx=decide ((nT p sx:Int)<=12):=by unfold AP1; rw [g,g1,Bool.true_and,Bool.true_and]; congr 1; simp; omega
    rw [this] at hk; exact hk
  · have:AP1 p sx=false:=by unfold AP1; rw [g1]; simp
    rw [this] at hk; exact hk
  · have:AP1 p sx=false:=by unfold AP1; rw [g]; rfl
    rw [this] at hk; exact hk
theorem BF3{p:List Int}{sx:List A0}(h:AP1 p sx=true):gOk p=true/\L7 sx=true/\Lok sx/\nT p sx<=12:=by
  unfold AP1 at h
  simp only [Bool.and_eq_true,decide_eq_true_eq] at h
  exact ⟨h.1.1,h.1.2,AE2 h.1.2,h.2⟩
def AG0(p:List Int)(sx:List A0)(k:Nat):Record:=⟨gi (lvs p) (k / cnt sx),0,N2 sx (k % cnt sx)⟩
theorem BG7{p:List Int}{sx:List A0}(hL:Lok sx){k:Nat}(hk:k<nT p sx):k / cnt sx<(lvs p).length/\k % cnt sx<cnt sx:=by
  have:=(AB0 hL).1
  exact ⟨Nat.div_lt_of_lt_mul (by unfold nT at hk; rw [Nat.mul_comm]; exact hk),Nat.mod_lt _ this⟩
theorem DC1{p:List Int}{sx:List A0}(hL:Lok sx){k:Nat}(hk:k<nT p sx):∃ i:Nat,(AG0 p sx k).Area=(i:Int)/\i<p.length:=by
  have ⟨h1,_⟩:=BG7 hL hk
  obtain ⟨i,e,hi,_⟩:=BP2.1 (List.getElem_mem h1)
  exact ⟨i,by unfold AG0; rw [H9 h1]; exact e,hi⟩
theorem DZ7{sx:List A0}(hL:Lok sx)(i:Nat):BN5 sx (N2 sx i):=by
  refine ⟨BS8 ..,?_⟩
  have key:∀ (r:List A0) (j:Nat),(∀ x∈r,2<=x.Levels/\x.Levels<=8)->j<r.length->0<=gi (N2 r i) j/\gi (N2 r i) j<(lv (vAt r j):Int):=by
    intro r
    induction r with
    | nil=>intro j _ hj; simp at hj
    | cons x r ih =>
      intro j h hj
      cases j with
      | zero =>
        have h3:=h x (List.mem_cons_self ..)
        have hlt:i / cnt r % lv x<lv x:=Nat.mod_lt _ (by unfold lv; omega)
        show 0<=((i / cnt r % lv x:Nat):Int)/\((i / cnt r % lv x:Nat):Int)<(lv x:Int)
        generalize i / cnt r % lv x=q at hlt
        omega
      | succ j=>exact ih j (fun y hy=>h y (List.mem_cons_of_mem _ hy)) (by simpa using hj)
  exact fun j hj=>key sx j hL.2 hj
theorem DB5{p:List Int}{sx:List A0}{k:Nat}{Q:Record->Prop}(h:gOk p=true)(hL:Lok sx)(hk:k<nT p sx)(hq:Q (AG0 p sx k)):AP9 ⟨p⟩ sx (k:Int) Q:=by
  have hc:=AB0 hL
  have hb:=DP6 h hL
  have ⟨h1,h2⟩:=BG7 hL hk
  unfold AP9
  refine BF8 hL ⟨by omega,by omega,AF0 (p:=p) h ?_⟩
  have e1:Int.tdiv (k:Int) (cnt sx:Int)=((k / cnt sx:Nat):Int):=by rw [Int.ofNat_tdiv]
  have e2:Int.tmod (k:Int) (cnt sx:Int)=((k % cnt sx:Nat):Int):=by rw [Int.ofNat_tmod]
  have hll:=BW5 h
  show idx (lvs p) (wr (Int.tdiv (k:Int) (cnt sx:Int))) _
  rw [e1]
  have e3:wr ((k / cnt sx:Nat):Int)=((k / cnt sx:Nat):Int):=by
    generalize k / cnt sx=q at h1
    exact E9 (by omega) (by omega)
  rw [e3]
  refine C4 h1 ?_
  rw [e2]
  refine DQ4 hL (by omega) ?_
  unfold AG0 at hq; rw [H9 h1] at hq; exact hq
theorem DP3{p:List Int}{sx:List A0}{k:Nat}{Q:Record->Prop}(h:gOk p=true)(hL:Lok sx)(hk:k<nT p sx)(hq:Q (AG0 p sx k)):AT2 ⟨p⟩ sx (k:Int) Q:=by
  have hc:=AB0 hL
  have hb:=DP6 h hL
  have ⟨h1,h2⟩:=BG7 hL hk
  unfold AT2
  refine W7 hL ⟨by omega,by omega,BD4 (p:=p) h ?_⟩
  have e1:Int.tdiv (k:Int) (cnt sx:Int)=((k / cnt sx:Nat):Int):=by rw [Int.ofNat_tdiv]
  have e2:Int.tmod (k:Int) (cnt sx:Int)=((k % cnt sx:Nat):Int):=by rw [Int.ofNat_tmod]
  have hll:=BW5 h
  show idx (lvs p) (wr (Int.tdiv (k:Int) (cnt sx:Int))) _
  rw [e1]
  have e3:wr ((k / cnt sx:Nat):Int)=((k / cnt sx:Nat):Int):=by
    generalize k / cnt sx=q at h1
    exact E9 (by omega) (by omega)
  rw [e3]
  refine C4 h1 ?_
  rw [e2]
  refine CS8 hL (by omega) ?_
  unfold AG0 at hq; rw [H9 h1] at hq; exact hq
theorem BC0{l:List Int}{lo hi:Int}{Q:Bool->Prop}(hl:l.length<=1048576)(h:Q (l.all (inb lo hi))):U6 l lo hi Q:=by
  unfold U6
  refine F2 (by omega) (fun i=>(l.take i).all (inb lo hi)=true) (by simp) (fun i nx hi' hj hx=>C4 hi' ?_) (fun hj=>?_)
  · have e:inb lo hi l[i]=(!decide (l[i]<lo)&&!decide (l[i]>hi)):=by unfold inb; rw [Bool.eq_iff_iff]; simp
    refine D3 (!inb lo hi l[i]) ?_ fun k hk=>E1 (fun g=>?_) (fun g=>?_)
    · refine F8 (fun hb=>?_) (fun hb=>hx (BJ2 hi' hj hb))
      rw [CJ3 hi' hb] at h; exact h
    · rw [e,decide_eq_true g] at hk; exact hk
    · rw [e,decide_eq_false g,Bool.not_false,Bool.true_and,Bool.not_not] at hk; exact hk
  · rw [List.take_length] at hj; rw [hj] at h; exact h
def AR2(p:List Int)(sx:List A0)(b:B0):Bool:=(tOk p sx b.Table&&decide (b.Cells.length=L3 p sx b.Table))&&b.Cells.all (inb (-1) 1000000)
def S2(p:List Int)(sx:List A0)(l:List B0):Bool:=l.all (AR2 p sx)&&decide (l.length<=20)
def Wp(l:List B0):Prop:=l.length<=1048576/\∀ b∈l,(b.Table.Vars.length<=1048576/\b.Table.Where.length<=1048576)/\b.Cells.length<=1048576
theorem DK7{p:List Int}{sx:List A0}{t:Table}(h:tOk p sx t=true):Vin sx.length t.Vars:=by
  unfold tOk at h
  simp only [Bool.and_eq_true] at h
  exact BD3 h.1.1.1
theorem CE9{p:List Int}{sx:List A0}{l:List B0}{Q:Bool->Prop}(hg:gOk p=true)(hsc:L7 sx=true)(hp:p.length<=1048576)(hl:sx.length<=1048576)(hs:∀ x∈sx,x.Name.size<=1048576)(hw:Wp l)(hq:Q (S2 p sx l)):AD6 ⟨p⟩ sx l Q:=by
  have hw1:=hw.1
  have hL:=AE2 hsc
  unfold AD6
  refine F2 (by omega) (fun i=>(l.take i).all (AR2 p sx)=true) (by simp) (fun i nx hi hj hx=>C4 hi ?_) (fun hj=>?_)
  · have hwi:=hw.2 _ (List.getElem_mem hi)
    refine D3 (!AR2 p sx l[i]) ?_ fun k hk=>⟨tOk p sx l[i].Table,CC3 (p:=p) (t:=l[i].Table) hp hl hs hwi.1.1 (by rw [hg,hsc]; rfl),F8 (fun g=>?_) (fun g=>⟨(L3 p sx l[i].Table:Int),BP8 (p:=p) (t:=l[i].Table) hg hL (DK7 g) rfl,AT1 (fun g1=>?_) (fun g1=>⟨l[i].Cells.all (inb (-1) 1000000),CP9 hwi.2 rfl,?_⟩)⟩)⟩
    · refine F8 (fun g=>?_) (fun g=>hx (CH4 hi hj g))
      have:S2 p sx l=false:=by unfold S2; rw [DJ8 hi g]; rfl
      rw [this] at hq; exact hq
    · unfold AR2 at hk; rw [g] at hk; exact hk
    · unfold AR2 at hk; rw [decide_eq_false (by unfold ln at g1; omega)] at hk; simpa using hk
    · unfold AR2 at hk; rw [g,decide_eq_true (by unfold ln at g1; omega),Bool.true_and,Bool.true_and] at hk; exact hk
  · rw [List.take_length] at hj
    have:S2 p sx l=decide (ln l<=20):=by unfold S2; rw [hj,Bool.true_and]; congr 1; unfold ln; simp; omega
    rw [this] at hq; exact hq
theorem BT9{p:List Int}{sx:List A0}{l:List B0}{Q:Bool->Prop}(hg:gOk p=true)(hL:Lok sx)(hw:Wp l)(hq:Q (S2 p sx l)):Z4 ⟨p⟩ sx l Q:=by
  have hw1:=hw.1
  unfold Z4
  refine E1 (fun g=>?_) (fun g=>?_)
  · have:S2 p sx l=false:=by unfold S2; rw [decide_eq_false (by unfold ln at g; omega),Bool.and_false]
    rw [this] at hq; exact hq
  · refine F2 (by omega) (fun i=>(l.take i).all (AR2 p sx)=true) (by simp) (fun i nx hi hj hx=>C4 hi ?_) (fun hj=>?_)
    · have hwi:=hw.2 _ (List.getElem_mem hi)
      refine D3 (!AR2 p sx l[i]) ?_ fun k hk=>⟨tOk p sx l[i].Table,CD2 (p:=p) (t:=l[i].Table) hg hL hwi.1.1 rfl,F8 (fun g=>?_) (fun g=>⟨(L3 p sx l[i].Table:Int),BA4 (p:=p) (t:=l[i].Table) hg hL (DK7 g) rfl,AT1 (fun g1=>?_) (fun g1=>⟨l[i].Cells.all (inb (-1) 1000000),BC0 hwi.2 rfl,?_⟩)⟩)⟩
      · refine F8 (fun g=>?_) (fun g=>hx (CH4 hi hj g))
        have:S2 p sx l=false:=by unfold S2; rw [DJ8 hi g]; rfl
        rw [this] at hq; exact hq
      · unfold AR2 at hk; rw [g] at hk; exact hk
      · unfold AR2 at hk; rw [decide_eq_false (by unfold ln at g1; omega)] at hk; simpa using hk
      · unfold AR2 at hk; rw [g,decide_eq_true (by unfold ln at g1; omega),Bool.true_and,Bool.true_and] at hk; exact hk
    · rw [List.take_length] at hj
      have:S2 p sx l=true:=by unfold S2; rw [hj,decide_eq_true (by unfold ln at g; omega)]; rfl
      rw [this] at hq; exact hq
def AN3(p:List Int)(sx:List A0)(l:List B0):Bool:=AP1 p sx&&S2 p sx l
theorem DL1{p:List Int}{sx:List A0}{l:List B0}{n:Int}{Q:Bool->Prop}(hp:p.length<=1048576)(hl:sx.length<=1048576)(hs:∀ x∈sx,x.Name.size<=1048576)(hw:Wp l)(hq:Q (AN3 p sx l&&inb 0 8 n)):AT3 ⟨p⟩ sx l n Q:=by
  unfold AT3
  refine D3 _ hq fun k hk=>EA7 (p:=p) hp hl hs (K0 (fun g=>?_) (fun g=>?_))
  · have ⟨g1,g2,g3,_⟩:=BF3 g
    refine CE9 (p:=p) g1 g2 hp hl hs hw (K0 (fun g4=>T6 ?_) (fun g4=>?_))
    · unfold AN3 at hk; rw [g,g4] at hk; exact hk
    · unfold AN3 at hk; rw [g4,Bool.and_false] at hk; exact hk
  · unfold AN3 at hk; rw [g] at hk; exact hk
theorem AQ4{p:List Int}{sx:List A0}{l:List B0}{Q:Bool->Prop}(hp:p.length<=1048576)(hl:sx.length<=1048576)(hw:Wp l)(hq:Q (AN3 p sx l)):R0 ⟨p⟩ sx l Q:=by
  unfold R0
  refine D3 _ hq fun k hk=>BS9 (p:=p) hp hl (K0 (fun g=>?_) (fun g=>?_))
  · have ⟨g1,g2,g3,_⟩:=BF3 g
    refine BT9 (p:=p) g1 g3 hw ?_
    unfold AN3 at hk; rw [g] at hk; exact hk
  · unfold AN3 at hk; rw [g] at hk; exact hk
theorem BM1{n:Int}{Q:Bool->Prop}(hq:Q (inb 0 8 n)):AB2 n Q:=by
  unfold AB2
  refine D3 _ hq fun k hk=>E1 (fun g=>?_) (fun g=>?_)
  · unfold inb at hk; rw [decide_eq_true (by omega:0<=n)] at hk; exact hk
  · unfold inb at hk; rw [decide_eq_false (by omega:¬ 0<=n)] at hk; exact hk
end Go.Proofs.YtbgnaamdlcggjaaGreat
