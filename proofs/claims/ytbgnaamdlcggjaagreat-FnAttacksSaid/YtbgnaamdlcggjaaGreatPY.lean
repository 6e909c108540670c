/- Plain facts about attacks: what is asked for, the types of records. -/
import Derived.Test.YtbgnaamdlcggjaaGreatPX
set_option linter.unusedVariables false
set_option autoImplicit false
namespace Go.Proofs.YtbgnaamdlcggjaaGreat
open Go Go.RowKit Go.Gv
def nT (p:List Int) (sx:List Variable):Nat:=(lvs p).length * cnt sx
theorem lvs_len {p:List Int} (h:gOk p=true):(lvs p).length≤30:=by
  have h1:=pick_len (f:=fun i => !hasB p (i:Int)) (n:=p.length)
  have h2:=(gOk_of h).1
  unfold lvs; omega
theorem nT_b {p:List Int} {sx:List Variable} (h:gOk p=true) (hL:Lok sx):nT p sx≤30 * 262144:=Nat.mul_le_mul (lvs_len h) (cnt_small' hL).2
theorem aTypes_ok {p:List Int} {sx:List Variable} {Q:Int→Prop} (h:gOk p=true) (hL:Lok sx) (hq:Q (nT p sx:Int)):spec_aTypes ⟨p⟩ sx Q:=by
  unfold spec_aTypes
  refine gLeaves_ok (p:=p) h (sCount_ok hL ?_)
  have e:ln (lvs p) * (cnt sx:Int)=(nT p sx:Int):=by unfold ln nT; rw [Int.natCast_mul]
  have:=nT_b h hL
  show Q (wr (ln (lvs p) * (cnt sx:Int)))
  rw [e,wr_in (by omega) (by omega)]; exact hq
theorem typeCount_ok {p:List Int} {sx:List Variable} {Q:Int→Prop} (h:gOk p=true) (hL:Lok sx) (hq:Q (nT p sx:Int)):impl_typeCount ⟨p⟩ sx Q:=by
  unfold impl_typeCount
  refine leavesOf_ok (p:=p) h (combinations_ok hL ?_)
  have e:ln (lvs p) * (cnt sx:Int)=(nT p sx:Int):=by unfold ln nT; rw [Int.natCast_mul]
  have:=nT_b h hL
  show Q (wr (ln (lvs p) * (cnt sx:Int)))
  rw [e,wr_in (by omega) (by omega)]; exact hq
def tyOk (p:List Int) (sx:List Variable):Bool:=(gOk p&&schOk sx)&&decide (nT p sx≤12)
theorem aGood_ok {p:List Int} {sx:List Variable} {Q:Bool→Prop} (hp:p.length≤1048576) (hl:sx.length≤1048576) (hs:∀ x∈sx,x.Name.size≤1048576) (hq:Q (tyOk p sx)):spec_aGood ⟨p⟩ sx Q:=by
  unfold spec_aGood
  refine jn_bool (tyOk p sx) hq fun k hk=>gGood_ok (p:=p) hp (br_bo (fun g=>sGood_ok hl hs (br_bo (fun g1=>aTypes_ok (p:=p) g (Lok_of g1) ?_) (fun g1=>?_))) (fun g=>?_))
  · have:tyOk p sx=decide ((nT p sx:Int)≤12):=by unfold tyOk; rw [g,g1,Bool.true_and,Bool.true_and]; congr 1; simp; omega
    rw [this] at hk; exact hk
  · have:tyOk p sx=false:=by unfold tyOk; rw [g1]; simp
    rw [this] at hk; exact hk
  · have:tyOk p sx=false:=by unfold tyOk; rw [g]; rfl
    rw [this] at hk; exact hk
theorem areTyped_ok {p:List Int} {sx:List Variable} {Q:Bool→Prop} (hp:p.length≤1048576) (hl:sx.length≤1048576) (hq:Q (tyOk p sx)):impl_areTyped ⟨p⟩ sx Q:=by
  unfold impl_areTyped
  refine jn_bool (tyOk p sx) hq fun k hk=>IsGeo_ok (p:=p) hp (br_bo (fun g=>IsSchema_ok hl (br_bo (fun g1=>typeCount_ok (p:=p) g (Lok_of g1) ?_) (fun g1=>?_))) (fun g=>?_))
  · have:tyOk p sx=decide ((nT p sx:Int)≤12):=by unfold tyOk; rw [g,g1,Bool.true_and,Bool.true_and]; congr 1; simp; omega
    rw [this] at hk; exact hk
  · have:tyOk p sx=false:=by unfold tyOk; rw [g1]; simp
    rw [this] at hk; exact hk
  · have:tyOk p sx=false:=by unfold tyOk; rw [g]; rfl
    rw [this] at hk; exact hk
theorem tyOk_of {p:List Int} {sx:List Variable} (h:tyOk p sx=true):gOk p=true∧schOk sx=true∧Lok sx∧nT p sx≤12:=by
  unfold tyOk at h
  simp only [Bool.and_eq_true,decide_eq_true_eq] at h
  exact ⟨h.1.1,h.1.2,Lok_of h.1.2,h.2⟩
def recAt (p:List Int) (sx:List Variable) (k:Nat):Record:=⟨gi (lvs p) (k / cnt sx),0,vals sx (k % cnt sx)⟩
theorem recAt_div {p:List Int} {sx:List Variable} (hL:Lok sx) {k:Nat} (hk:k<nT p sx):k / cnt sx<(lvs p).length∧k % cnt sx<cnt sx:=by
  have:=(cnt_small' hL).1
  exact ⟨Nat.div_lt_of_lt_mul (by unfold nT at hk; rw [Nat.mul_comm]; exact hk),Nat.mod_lt _ this⟩
theorem recAt_area {p:List Int} {sx:List Variable} (hL:Lok sx) {k:Nat} (hk:k<nT p sx):∃ i:Nat,(recAt p sx k).Area=(i:Int)∧i<p.length:=by
  have ⟨h1,_⟩:=recAt_div hL hk
  obtain ⟨i,e,hi,_⟩:=mem_pick.1 (List.getElem_mem h1)
  exact ⟨i,by unfold recAt; rw [gi_at h1]; exact e,hi⟩
theorem vals_fit {sx:List Variable} (hL:Lok sx) (i:Nat):fitV sx (vals sx i):=by
  refine ⟨vals_length ..,?_⟩
  have key:∀ (r:List Variable) (j:Nat),(∀ x∈r,2≤x.Levels∧x.Levels≤8)→j<r.length→0≤gi (vals r i) j∧gi (vals r i) j<(lv (vAt r j):Int):=by
    intro r
    induction r with
    | nil=>intro j _ hj; simp at hj
    | cons x r ih =>
      intro j h hj
      cases j with
      | zero =>
        have h3:=h x (List.mem_cons_self ..)
        have hlt:i / cnt r % lv x<lv x:=Nat.mod_lt _ (by unfold lv; omega)
        show 0≤((i / cnt r % lv x:Nat):Int)∧((i / cnt r % lv x:Nat):Int)<(lv x:Int)
        generalize i / cnt r % lv x=q at hlt
        omega
      | succ j=>exact ih j (fun y hy=>h y (List.mem_cons_of_mem _ hy)) (by simpa using hj)
  exact fun j hj=>key sx j hL.2 hj
theorem aRecord_ok {p:List Int} {sx:List Variable} {k:Nat} {Q:Record→Prop} (h:gOk p=true) (hL:Lok sx) (hk:k<nT p sx) (hq:Q (recAt p sx k)):spec_aRecord ⟨p⟩ sx (k:Int) Q:=by
  have hc:=cnt_small' hL
  have hb:=nT_b h hL
  have ⟨h1,h2⟩:=recAt_div hL hk
  unfold spec_aRecord
  refine sCount_ok hL ⟨by omega,by omega,gLeaves_ok (p:=p) h ?_⟩
  have e1:Int.tdiv (k:Int) (cnt sx:Int)=((k / cnt sx:Nat):Int):=by rw [Int.ofNat_tdiv]
  have e2:Int.tmod (k:Int) (cnt sx:Int)=((k % cnt sx:Nat):Int):=by rw [Int.ofNat_tmod]
  have hll:=lvs_len h
  show idx (lvs p) (wr (Int.tdiv (k:Int) (cnt sx:Int))) _
  rw [e1]
  have e3:wr ((k / cnt sx:Nat):Int)=((k / cnt sx:Nat):Int):=by
    generalize k / cnt sx=q at h1
    exact wr_in (by omega) (by omega)
  rw [e3]
  refine idx_at h1 ?_
  rw [e2]
  refine sAt_ok hL (by omega) ?_
  unfold recAt at hq; rw [gi_at h1] at hq; exact hq
theorem typeAt_ok {p:List Int} {sx:List Variable} {k:Nat} {Q:Record→Prop} (h:gOk p=true) (hL:Lok sx) (hk:k<nT p sx) (hq:Q (recAt p sx k)):impl_typeAt ⟨p⟩ sx (k:Int) Q:=by
  have hc:=cnt_small' hL
  have hb:=nT_b h hL
  have ⟨h1,h2⟩:=recAt_div hL hk
  unfold impl_typeAt
  refine combinations_ok hL ⟨by omega,by omega,leavesOf_ok (p:=p) h ?_⟩
  have e1:Int.tdiv (k:Int) (cnt sx:Int)=((k / cnt sx:Nat):Int):=by rw [Int.ofNat_tdiv]
  have e2:Int.tmod (k:Int) (cnt sx:Int)=((k % cnt sx:Nat):Int):=by rw [Int.ofNat_tmod]
  have hll:=lvs_len h
  show idx (lvs p) (wr (Int.tdiv (k:Int) (cnt sx:Int))) _
  rw [e1]
  have e3:wr ((k / cnt sx:Nat):Int)=((k / cnt sx:Nat):Int):=by
    generalize k / cnt sx=q at h1
    exact wr_in (by omega) (by omega)
  rw [e3]
  refine idx_at h1 ?_
  rw [e2]
  refine valuesAt_ok hL (by omega) ?_
  unfold recAt at hq; rw [gi_at h1] at hq; exact hq
theorem areWithin_ok {l:List Int} {lo hi:Int} {Q:Bool→Prop} (hl:l.length≤1048576) (h:Q (l.all (inb lo hi))):impl_areWithin l lo hi Q:=by
  unfold impl_areWithin
  refine loop1_list (by omega) (fun i=>(l.take i).all (inb lo hi)=true) (by simp) (fun i nx hi' hj hx=>idx_at hi' ?_) (fun hj=>?_)
  · have e:inb lo hi l[i]=(!decide (l[i]<lo)&&!decide (l[i]>hi)):=by unfold inb; rw [Bool.eq_iff_iff]; simp
    refine jn_bool (!inb lo hi l[i]) ?_ fun k hk=>br_dec (fun g=>?_) (fun g=>?_)
    · refine br_nb (fun hb=>?_) (fun hb=>hx (all_take_succ hi' hj hb))
      rw [all_false hi' hb] at h; exact h
    · rw [e,decide_eq_true g] at hk; exact hk
    · rw [e,decide_eq_false g,Bool.not_false,Bool.true_and,Bool.not_not] at hk; exact hk
  · rw [List.take_length] at hj; rw [hj] at h; exact h
def pubOk (p:List Int) (sx:List Variable) (b:Published):Bool:=(tOk p sx b.Table&&decide (b.Cells.length=cellN p sx b.Table))&&b.Cells.all (inb (-1) 1000000)
def pubsOk (p:List Int) (sx:List Variable) (l:List Published):Bool:=l.all (pubOk p sx)&&decide (l.length≤20)
def Wp (l:List Published):Prop:=l.length≤1048576∧∀ b∈l,(b.Table.Vars.length≤1048576∧b.Table.Where.length≤1048576)∧b.Cells.length≤1048576
theorem tOk_vin {p:List Int} {sx:List Variable} {t:Table} (h:tOk p sx t=true):Vin sx.length t.Vars:=by
  unfold tOk at h
  simp only [Bool.and_eq_true] at h
  exact Vin_of h.1.1.1
theorem aPublished_ok {p:List Int} {sx:List Variable} {l:List Published} {Q:Bool→Prop} (hg:gOk p=true) (hsc:schOk sx=true) (hp:p.length≤1048576) (hl:sx.length≤1048576) (hs:∀ x∈sx,x.Name.size≤1048576) (hw:Wp l) (hq:Q (pubsOk p sx l)):spec_aPublished ⟨p⟩ sx l Q:=by
  have hw1:=hw.1
  have hL:=Lok_of hsc
  unfold spec_aPublished
  refine loop1_list (by omega) (fun i=>(l.take i).all (pubOk p sx)=true) (by simp) (fun i nx hi hj hx=>idx_at hi ?_) (fun hj=>?_)
  · have hwi:=hw.2 _ (List.getElem_mem hi)
    refine jn_bool (!pubOk p sx l[i]) ?_ fun k hk=>⟨tOk p sx l[i].Table,uGood_ok (p:=p) (t:=l[i].Table) hp hl hs hwi.1.1 (by rw [hg,hsc]; rfl),br_nb (fun g=>?_) (fun g=>⟨(cellN p sx l[i].Table:Int),uCount_ok (p:=p) (t:=l[i].Table) hg hL (tOk_vin g) rfl,br_ne (fun g1=>?_) (fun g1=>⟨l[i].Cells.all (inb (-1) 1000000),l1All_ok hwi.2 rfl,?_⟩)⟩)⟩
    · refine br_nb (fun g=>?_) (fun g=>hx (lall_succ hi hj g))
      have:pubsOk p sx l=false:=by unfold pubsOk; rw [lall_no hi g]; rfl
      rw [this] at hq; exact hq
    · unfold pubOk at hk; rw [g] at hk; exact hk
    · unfold pubOk at hk; rw [decide_eq_false (by unfold ln at g1; omega)] at hk; simpa using hk
    · unfold pubOk at hk; rw [g,decide_eq_true (by unfold ln at g1; omega),Bool.true_and,Bool.true_and] at hk; exact hk
  · rw [List.take_length] at hj
    have:pubsOk p sx l=decide (ln l≤20):=by unfold pubsOk; rw [hj,Bool.true_and]; congr 1; unfold ln; simp; omega
    rw [this] at hq; exact hq
theorem arePublished_ok {p:List Int} {sx:List Variable} {l:List Published} {Q:Bool→Prop} (hg:gOk p=true) (hL:Lok sx) (hw:Wp l) (hq:Q (pubsOk p sx l)):impl_arePublished ⟨p⟩ sx l Q:=by
  have hw1:=hw.1
  unfold impl_arePublished
  refine br_dec (fun g=>?_) (fun g=>?_)
  · have:pubsOk p sx l=false:=by unfold pubsOk; rw [decide_eq_false (by unfold ln at g; omega),Bool.and_false]
    rw [this] at hq; exact hq
  · refine loop1_list (by omega) (fun i=>(l.take i).all (pubOk p sx)=true) (by simp) (fun i nx hi hj hx=>idx_at hi ?_) (fun hj=>?_)
    · have hwi:=hw.2 _ (List.getElem_mem hi)
      refine jn_bool (!pubOk p sx l[i]) ?_ fun k hk=>⟨tOk p sx l[i].Table,isTable_ok (p:=p) (t:=l[i].Table) hg hL hwi.1.1 rfl,br_nb (fun g=>?_) (fun g=>⟨(cellN p sx l[i].Table:Int),cellCount_ok (p:=p) (t:=l[i].Table) hg hL (tOk_vin g) rfl,br_ne (fun g1=>?_) (fun g1=>⟨l[i].Cells.all (inb (-1) 1000000),areWithin_ok hwi.2 rfl,?_⟩)⟩)⟩
      · refine br_nb (fun g=>?_) (fun g=>hx (lall_succ hi hj g))
        have:pubsOk p sx l=false:=by unfold pubsOk; rw [lall_no hi g]; rfl
        rw [this] at hq; exact hq
      · unfold pubOk at hk; rw [g] at hk; exact hk
      · unfold pubOk at hk; rw [decide_eq_false (by unfold ln at g1; omega)] at hk; simpa using hk
      · unfold pubOk at hk; rw [g,decide_eq_true (by unfold ln at g1; omega),Bool.true_and,Bool.true_and] at hk; exact hk
    · rw [List.take_length] at hj
      have:pubsOk p sx l=true:=by unfold pubsOk; rw [hj,decide_eq_true (by unfold ln at g; omega)]; rfl
      rw [this] at hq; exact hq
def attOk (p:List Int) (sx:List Variable) (l:List Published):Bool:=tyOk p sx&&pubsOk p sx l
theorem aAsked_ok {p:List Int} {sx:List Variable} {l:List Published} {n:Int} {Q:Bool→Prop} (hp:p.length≤1048576) (hl:sx.length≤1048576) (hs:∀ x∈sx,x.Name.size≤1048576) (hw:Wp l) (hq:Q (attOk p sx l&&inb 0 8 n)):spec_aAsked ⟨p⟩ sx l n Q:=by
  unfold spec_aAsked
  refine jn_bool _ hq fun k hk=>aGood_ok (p:=p) hp hl hs (br_bo (fun g=>?_) (fun g=>?_))
  · have ⟨g1,g2,g3,_⟩:=tyOk_of g
    refine aPublished_ok (p:=p) g1 g2 hp hl hs hw (br_bo (fun g4=>l1In_ok ?_) (fun g4=>?_))
    · unfold attOk at hk; rw [g,g4] at hk; exact hk
    · unfold attOk at hk; rw [g4,Bool.and_false] at hk; exact hk
  · unfold attOk at hk; rw [g] at hk; exact hk
theorem areAttacked_ok {p:List Int} {sx:List Variable} {l:List Published} {Q:Bool→Prop} (hp:p.length≤1048576) (hl:sx.length≤1048576) (hw:Wp l) (hq:Q (attOk p sx l)):impl_areAttacked ⟨p⟩ sx l Q:=by
  unfold impl_areAttacked
  refine jn_bool _ hq fun k hk=>areTyped_ok (p:=p) hp hl (br_bo (fun g=>?_) (fun g=>?_))
  · have ⟨g1,g2,g3,_⟩:=tyOk_of g
    refine arePublished_ok (p:=p) g1 g3 hw ?_
    unfold attOk at hk; rw [g] at hk; exact hk
  · unfold attOk at hk; rw [g] at hk; exact hk
theorem isPersons_ok {n:Int} {Q:Bool→Prop} (hq:Q (inb 0 8 n)):impl_isPersons n Q:=by
  unfold impl_isPersons
  refine jn_bool _ hq fun k hk=>br_dec (fun g=>?_) (fun g=>?_)
  · unfold inb at hk; rw [decide_eq_true (by omega:0≤n)] at hk; exact hk
  · unfold inb at hk; rw [decide_eq_false (by omega:¬ 0≤n)] at hk; exact hk
end Go.Proofs.YtbgnaamdlcggjaaGreat
