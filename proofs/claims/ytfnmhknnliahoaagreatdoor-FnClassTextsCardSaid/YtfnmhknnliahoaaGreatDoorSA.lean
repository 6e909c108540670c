/- Plain facts about surveys, and about the cells of tables. -/
import Derived.Test.YtfnmhknnliahoaaGreatDoorPX
set_option linter.unusedVariables false
set_option autoImplicit false
namespace Go.Proofs.YtfnmhknnliahoaaGreatDoor
open Go Go.RowKit Go.Gv
theorem lanyNo {α:Type} {p:α→Bool} {l:List α} {i:Nat} (hi:i<l.length) (h:(l.take i).any p=false) (hp:p l[i]=false):(l.take (i+1)).any p=false:=by
  rw [List.take_add_one,List.getElem?_eq_getElem hi,List.any_append,h]; simpa using hp
theorem lallS {α:Type} {p:α→Bool} {l:List α} {i:Nat} (hi:i<l.length) (h:(l.take i).all p=true) (hp:p l[i]=true):(l.take (i+1)).all p=true:=by
  rw [List.take_add_one,List.getElem?_eq_getElem hi,List.all_append,h]; simpa using hp
theorem lvsLen {p:List Int} (h:gOk p=true):(lvs p).length≤30:=by
  have h1:=pick_len (f:=fun i => !hasB p (i:Int)) (n:=p.length)
  have h2:=(gOk_of h).1
  unfold lvs; omega
def fitOk (sx:List Variable) (vs:List Int):Bool:=decide (vs.length=sx.length)&&(List.range sx.length).all fun i=>inb 0 ((vAt sx i).Levels-1) (gi vs i)
theorem fitV_of {sx:List Variable} {vs:List Int} (hL:Lok sx) (h:fitOk sx vs=true):fitV sx vs:=by
  unfold fitOk at h
  simp only [Bool.and_eq_true,decide_eq_true_eq] at h
  refine ⟨h.1,fun i hi=>?_⟩
  have h1:=inb_iff'.1 (List.all_eq_true.1 h.2 i (List.mem_range.2 hi))
  have ⟨e,h2,h3⟩:=lv_at hL hi
  rw [vAt_at hi] at h1 ⊢
  omega
theorem sFits_ok {sx:List Variable} {vs:List Int} {Q:Bool→Prop} (hL:Lok sx) (hq:Q (fitOk sx vs)):spec_sFits sx vs Q:=by
  have h0:=hL.1
  unfold spec_sFits
  refine br_ne (fun g=>?_) (fun g=>?_)
  · have:fitOk sx vs=false:=by unfold fitOk; rw [decide_eq_false (by unfold ln at g; omega)]; rfl
    rw [this] at hq; exact hq
  · have g':vs.length=sx.length:=by unfold ln at g; omega
    refine loop1_list (by omega) (fun i=>(List.range i).all (fun i=>inb 0 ((vAt sx i).Levels-1) (gi vs i))=true) (by simp) (fun i nx hi hj hx=>idx_at hi (idx_at (by omega) ?_)) (fun hj=>?_)
    · have ⟨e,h1,h2⟩:=lv_at hL hi
      refine ⟨inb 0 (sx[i].Levels-1) (vs[i]'(by omega)),l1In_ok (by rw [wr_in (by omega) (by omega)]; rfl),?_⟩
      have e1:inb 0 ((vAt sx i).Levels-1) (gi vs i)=inb 0 (sx[i].Levels-1) (vs[i]'(by omega)):=by rw [gi_at (by omega),vAt_at hi]
      rw [← e1]
      refine br_nb (fun g1=>?_) (fun g1=>hx (range_all_succ hj g1))
      have:fitOk sx vs=false:=by unfold fitOk; rw [range_all_no hi g1,Bool.and_false]
      rw [this] at hq; exact hq
    · have:fitOk sx vs=true:=by unfold fitOk; rw [hj,decide_eq_true g']; rfl
      rw [this] at hq; exact hq
theorem l1Has_ok {l:List Int} {n:Int} {Q:Bool→Prop} (hl:l.length≤1048576) (hq:Q (hasB l n)):spec_l1Has l n Q:=by
  unfold spec_l1Has
  refine loop1_list (by omega) (fun i=>(l.take i).any (fun x=>x==n)=false) (by simp) (fun i nx hi hj hx=>idx_at hi (br_bo (fun g=>?_) (fun g=>hx (lanyNo hi hj g)))) (fun hj=>?_)
  · have:hasB l n=true:=lany_yes hi g
    rw [this] at hq; exact hq
  · rw [List.take_length] at hj
    have:hasB l n=false:=hj
    rw [this] at hq; exact hq
def recOk (sx:List Variable) (r:Record):Bool:=inb 0 29 r.Area&&(inb 0 999 r.House&&fitOk sx r.Values)
def dOk (sx:List Variable) (l:List Record):Bool:=l.all (recOk sx)&&decide (l.length≤40)
def svOk (p:List Int) (sx:List Variable) (l:List Record):Bool:=dOk sx l&&l.all fun r=>hasB (lvs p) r.Area
theorem all_no {α:Type} {p:α→Bool} {l:List α} {i:Nat} (hi:i<l.length) (h:p l[i]=false):l.all p=false:=by
  rw [Bool.eq_false_iff]; intro c
  have:=List.all_eq_true.1 c _ (List.getElem_mem hi)
  rw [h] at this; cases this
theorem rGood_ok {sx:List Variable} {r:Record} {Q:Bool→Prop} (hL:Lok sx) (hq:Q (recOk sx r)):spec_rGood sx r Q:=by
  unfold spec_rGood
  refine jn_bool _ hq fun k hk=>l1In_ok (br_bo (fun g=>l1In_ok (br_bo (fun g1=>sFits_ok hL ?_) (fun g1=>?_))) (fun g=>?_))
  · unfold recOk at hk; rw [show inb 0 29 r.Area=true from g,show inb 0 999 r.House=true from g1] at hk; exact hk
  · unfold recOk at hk; rw [show inb 0 29 r.Area=true from g,show inb 0 999 r.House=false from g1] at hk; exact hk
  · unfold recOk at hk; rw [show inb 0 29 r.Area=false from g] at hk; exact hk
theorem dGood_ok {sx:List Variable} {l:List Record} {Q:Bool→Prop} (hL:Lok sx) (hl:l.length≤1048576) (hq:Q (dOk sx l)):spec_dGood sx l Q:=by
  unfold spec_dGood
  refine loop1_list (by omega) (fun i=>(l.take i).all (recOk sx)=true) (by simp) (fun i nx hi hj hx=>idx_at hi (rGood_ok hL (br_nb (fun g=>?_) (fun g=>hx (lallS hi hj g))))) (fun hj=>?_)
  · have:dOk sx l=false:=by unfold dOk; rw [all_no hi g,Bool.false_and]
    rw [this] at hq; exact hq
  · rw [List.take_length] at hj
    have e:decide (ln l≤40)=decide (l.length≤40):=by rw [Bool.eq_iff_iff]; unfold ln; simp only [decide_eq_true_eq]; omega
    unfold dOk at hq; rw [hj,Bool.true_and] at hq
    rw [e]; exact hq
theorem dInput_ok {sx:List Variable} {l:List Record} {Q:Bool→Prop} (hs:sx.length≤1048576) (hn:∀ x∈sx,x.Name.size≤1048576) (hl:l.length≤1048576) (hq:Q (schOk sx&&dOk sx l)):spec_dInput sx l Q:=by
  unfold spec_dInput
  refine jn_bool _ hq fun k hk=>sGood_ok hs hn (br_bo (fun g=>dGood_ok (Lok_of g) hl ?_) (fun g=>?_))
  · rw [g,Bool.true_and] at hk; exact hk
  · rw [g] at hk; exact hk
theorem leaf_iff {p:List Int} {a:Int}:hasB (lvs p) a=true↔(0≤a∧a<(p.length:Int))∧hasB p a=false:=by
  have h1:hasB (lvs p) a=true↔a∈lvs p:=by
    unfold hasB; rw [List.any_eq_true]
    constructor
    · rintro ⟨x,hx,e⟩; have e:x=a:=by simpa using e
      rw [← e]; exact hx
    · intro h; exact ⟨a,h,by simp⟩
  rw [h1]
  unfold lvs
  rw [mem_pick]
  constructor
  · rintro ⟨i,rfl,hi,h⟩
    exact ⟨⟨by omega,by omega⟩,by simpa using h⟩
  · rintro ⟨⟨h2,h3⟩,h4⟩
    refine ⟨a.toNat,by omega,by omega,?_⟩
    rw [show ((a.toNat:Nat):Int)=a by omega,h4]; rfl
theorem uSurvey_ok {p:List Int} {sx:List Variable} {l:List Record} {Q:Bool→Prop} (hp:p.length≤1048576) (hs:sx.length≤1048576) (hn:∀ x∈sx,x.Name.size≤1048576) (hl:l.length≤1048576) (hq:Q ((gOk p&&schOk sx)&&svOk p sx l)):spec_uSurvey ⟨p⟩ sx l Q:=by
  unfold spec_uSurvey
  refine jn_bool (!(gOk p&&(schOk sx&&dOk sx l))) ?_ fun k hk=>gGood_ok (p:=p) hp (br_nb (fun g=>?_) (fun g=>dInput_ok hs hn hl ?_))
  · refine br_nb (fun g=>?_) (fun g=>?_)
    · have:((gOk p&&schOk sx)&&svOk p sx l)=false:=by
        unfold svOk
        rw [Bool.eq_false_iff]; intro c
        simp only [Bool.and_eq_true] at c
        rw [c.1.1,c.1.2,c.2.1] at g; cases g
      rw [this] at hq; exact hq
    · simp only [Bool.and_eq_true] at g
      have hlv:=lvsLen g.1
      refine gLeaves_ok (p:=p) g.1 (loop1_list (by omega) (fun i=>(l.take i).all (fun r=>hasB (lvs p) r.Area)=true) (by simp) (fun i nx hi hj hx=>idx_at hi (l1Has_ok (by omega) (br_nb (fun g2=>?_) (fun g2=>hx (lallS hi hj g2))))) (fun hj=>?_))
      · have:((gOk p&&schOk sx)&&svOk p sx l)=false:=by unfold svOk; rw [all_no hi g2,Bool.and_false,Bool.and_false]
        rw [this] at hq; exact hq
      · rw [List.take_length] at hj
        have:((gOk p&&schOk sx)&&svOk p sx l)=true:=by unfold svOk; rw [hj,g.1,g.2.1,g.2.2]; rfl
        rw [this] at hq; exact hq
  · rw [g,Bool.false_and] at hk; exact hk
  · rw [g,Bool.true_and] at hk; exact hk
theorem svOk_of {p:List Int} {sx:List Variable} {l:List Record} (h:svOk p sx l=true):l.length≤40∧∀ r∈l,recOk sx r=true∧(0≤r.Area∧r.Area<(p.length:Int)):=by
  unfold svOk dOk at h
  simp only [Bool.and_eq_true,decide_eq_true_eq] at h
  exact ⟨h.1.2,fun r hr=>⟨List.all_eq_true.1 h.1.1 r hr,(leaf_iff.1 (List.all_eq_true.1 h.2 r hr)).1⟩⟩
theorem rec_cin {p:List Int} {sx:List Variable} {t:Table} {r:Record} (hg:gOk p=true) (hL:Lok sx) (ht:tOk p sx t=true) (hr:recOk sx r=true∧(0≤r.Area∧r.Area<(p.length:Int))) :
    CIn p sx t r.Area.toNat r.Values∧r.Area=((r.Area.toNat:Nat):Int):=by
  have h:=hr.1
  unfold recOk at h
  simp only [Bool.and_eq_true] at h
  exact ⟨⟨hg,hL,ht,by omega,fitV_of hL h.2.2⟩,by omega⟩
theorem cell_b {p:List Int} {sx:List Variable} {t:Table} {i:Nat} {vs:List Int} (c:CIn p sx t i vs):(0≤(cell p sx t i vs).2∧(cell p sx t i vs).2≤60)∧((cell p sx t i vs).1<(cellN p sx t:Int)):=by
  have ct:=c.tf
  unfold cell
  split
  · exact ⟨⟨Int.le_refl _,by omega⟩,by omega⟩
  · rename_i h
    refine ⟨?_,?_⟩
    · show 0≤amt _ _∧amt _ _≤60
      unfold amt
      split
      · omega
      · have t3:=ct.2.2.1
        have hlen:t.Sum.toNat<vs.length:=by rw [c.v.1]; omega
        rw [gi_at hlen]
        exact fitV_ok c.l c.v _ (List.getElem_mem hlen)
    · have:=(c.lt fun e=>h (.inl e)).2.2
      show ((cel p sx t (up p i t.Level) vs:Nat):Int)<_
      omega
def addTo (p:List Int) (sx:List Variable) (t:Table) (out:List Int) (r:Record):List Int :=
  if 0≤(cell p sx t r.Area.toNat r.Values).1 then out.set (cell p sx t r.Area.toNat r.Values).1.toNat (gi out (cell p sx t r.Area.toNat r.Values).1.toNat+(cell p sx t r.Area.toNat r.Values).2) else out
/-- The cells of a table. -/
def tabF (p:List Int) (sx:List Variable) (t:Table) (l:List Record):List Int:=l.foldl (addTo p sx t) (List.replicate (cellN p sx t) 0)
def inT (n:Nat) (b:Int) (out:List Int):Prop:=out.length=n∧∀ x∈out,0≤x∧x≤b
theorem addTo_in {p:List Int} {sx:List Variable} {t:Table} {out:List Int} {r:Record} {b:Int} (c:CIn p sx t r.Area.toNat r.Values) (h:inT (cellN p sx t) b out):inT (cellN p sx t) (b+60) (addTo p sx t out r):=by
  have ⟨c1,c2⟩:=cell_b c
  unfold addTo
  split
  · rename_i h0
    refine ⟨by rw [List.length_set]; exact h.1,fun x hx=>?_⟩
    obtain ⟨j,hj,rfl⟩:=List.mem_iff_getElem.1 hx
    rw [List.length_set] at hj
    rw [List.getElem_set]
    split
    · have hlt:(cell p sx t r.Area.toNat r.Values).1.toNat<out.length:=by rw [h.1]; omega
      rw [gi_at hlt]
      have:=h.2 _ (List.getElem_mem hlt)
      omega
    · have:=h.2 _ (List.getElem_mem hj); omega
  · exact ⟨h.1,fun x hx=>by have:=h.2 x hx; omega⟩
theorem tab_loop {p:List Int} {sx:List Variable} {t:Table} {l:List Record} {Q:List Int→Prop} {C:Record→(Int→Int→Prop)→Prop} (hg:gOk p=true) (hL:Lok sx) (ht:tOk p sx t=true) (hs:svOk p sx l=true)
    (hC:∀ r,CIn p sx t r.Area.toNat r.Values→r.Area=((r.Area.toNat:Nat):Int)→∀ Q:Int→Int→Prop,Q (cell p sx t r.Area.toNat r.Values).1 (cell p sx t r.Area.toNat r.Values).2→C r Q) (hq:Q (tabF p sx t l)) :
    Loop2 (fun (out:List Int) (x52:Int) nx=>br (decide (x52<(ln l))) (jn (fun (k:(List Int)→Prop)=>idx l x52 fun x107=>C ((Record.mk x107.Area x107.House x107.Values)) fun r131 r132 =>
      br (decide (r131≥0)) (idx out r131 fun x141=>(0:Int)≤r131∧Int.toNat r131<List.length out∧(k (List.set out (Int.toNat r131) (wr (x141+r132)))))<|k out)<|fun (out85:List Int)=>nx out85 (wr (x52+1)))<|Q out) (List.replicate (cellN p sx t) ((0:Int))) 0:=by
  have ⟨h40,hr⟩:=svOk_of hs
  refine loop2_list (by omega) (fun out i=>out=(l.take i).foldl (addTo p sx t) (List.replicate (cellN p sx t) 0)∧inT (cellN p sx t) (60 * (i:Int)) out) ⟨rfl,by simp,fun x hx=>by have:=List.eq_of_mem_replicate hx; omega⟩ ?_ ?_
  · rintro out i nx hi ⟨e,hin⟩ hx
    have ⟨c,ea⟩:=rec_cin hg hL ht (hr _ (List.getElem_mem hi))
    have e2:addTo p sx t out l[i]=(l.take (i+1)).foldl (addTo p sx t) (List.replicate (cellN p sx t) 0):=by
      rw [List.take_add_one,List.getElem?_eq_getElem hi,List.foldl_append,← e]; rfl
    have hx:=hx _ ⟨e2,by have:=addTo_in c hin; rw [show 60 * ((i+1:Nat):Int)=60 * (i:Int)+60 by omega]; exact this⟩
    refine jn_of (idx_at hi ?_)
    generalize l[i]=r at c ea hx
    refine hC r c ea _ ?_
    have ⟨c1,c2⟩:=cell_b c
    unfold addTo at hx
    refine br_dec (fun g=>?_) (fun g=>?_)
    · rw [if_pos g] at hx
      have hlt:(cell p sx t r.Area.toNat r.Values).1.toNat<out.length:=by rw [hin.1]; omega
      refine idx_of g hlt ⟨g,hlt,?_⟩
      rw [gi_at hlt] at hx
      have:=hin.2 _ (List.getElem_mem hlt)
      have e3:wr (out[(cell p sx t r.Area.toNat r.Values).1.toNat]+(cell p sx t r.Area.toNat r.Values).2)=out[(cell p sx t r.Area.toNat r.Values).1.toNat]+(cell p sx t r.Area.toNat r.Values).2:=wr_in (by omega) (by omega)
      rw [e3]
      exact hx
    · rw [if_neg (by omega)] at hx; exact hx
  · rintro out ⟨e,_⟩
    rw [List.take_of_length_le (Nat.le_refl _)] at e
    rw [e]; exact hq
theorem tabF_in {p:List Int} {sx:List Variable} {t:Table} {l:List Record} (hg:gOk p=true) (hL:Lok sx) (ht:tOk p sx t=true) (hs:svOk p sx l=true):inT (cellN p sx t) 2400 (tabF p sx t l):=by
  have ⟨h40,hr⟩:=svOk_of hs
  have key:∀ (m:List Record) (out:List Int) (b:Int),(∀ r∈m,recOk sx r=true∧(0≤r.Area∧r.Area<(p.length:Int)))→inT (cellN p sx t) b out→inT (cellN p sx t) (b+60 * (m.length:Int)) (m.foldl (addTo p sx t) out):=by
    intro m
    induction m with
    | nil=>intro out b _ h; simpa using h
    | cons r m ih =>
      intro out b hm h
      have:=ih _ (b+60) (fun x hx=>hm x (List.mem_cons_of_mem _ hx)) (addTo_in (rec_cin hg hL ht (hm r (List.mem_cons_self ..))).1 h)
      rw [List.length_cons,show b+60 * ((m.length+1:Nat):Int)=b+60+60 * (m.length:Int) by omega]
      exact this
  have:=key l (List.replicate (cellN p sx t) 0) 0 hr ⟨by simp,fun x hx=>by have:=List.eq_of_mem_replicate hx; omega⟩
  exact ⟨this.1,fun x hx=>by have:=this.2 x hx; omega⟩
theorem tOk_b {p:List Int} {sx:List Variable} {t:Table} (ht:tOk p sx t=true):risOk sx.length t.Vars=true∧cellN p sx t≤600:=by
  unfold tOk at ht
  simp only [Bool.and_eq_true,decide_eq_true_eq] at ht
  exact ⟨ht.1.1.1,ht.2.2⟩
theorem uTable_ok {p:List Int} {sx:List Variable} {t:Table} {l:List Record} {Q:List Int→Prop} (hg:gOk p=true) (hL:Lok sx) (ht:tOk p sx t=true) (hs:svOk p sx l=true) (hq:Q (tabF p sx t l)):spec_uTable ⟨p⟩ sx t l Q:=by
  have ⟨h1,h2⟩:=tOk_b ht
  unfold spec_uTable
  refine uCount_ok (p:=p) (t:=t) hg hL (Vin_of h1) ⟨by omega,by omega,?_⟩
  rw [Int.toNat_natCast]
  exact tab_loop (p:=p) (C:=fun r=>spec_uCell ⟨p⟩ sx t r) hg hL ht hs (fun r c ea Q h=>uCell_ok (p:=p) c ea h) hq
end Go.Proofs.YtfnmhknnliahoaaGreatDoor
