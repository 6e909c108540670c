/- The plain law of ClassTexts. -/
import Derived.Test.YtfnmhknnliahoaaGreatDoorTE
import Derived.Test.YtfnmhknnliahoaaGreatDoorTBPure
set_option linter.unusedVariables false
set_option autoImplicit false
namespace Go.Proofs.YtfnmhknnliahoaaGreatDoor
open Go Go.RowKit Go.Gv
theorem frac_ok {code:List B8} {a s:Int} {Q:Frac→Int→Int→Prop} (hc:bytesOk code) (ha:0≤a∧a≤900000000000) (h:∀ f a' s',0≤a'→a'≤a+4→Q f a' s'):spec_l1Cur_frac ⟨code,a,s⟩ Q:=by
  unfold spec_l1Cur_frac
  dsimp only
  refine pick_ok hc (by unfold atOk; omega) fun r a1 s1 p0 p1 p2 p3 p4=>pick_ok hc (by unfold atOk; omega) fun r2 a2 s2 q0 q1 q2 q3 q4=>?_
  rw [wr_in (x:=r-20) (by omega) (by omega),wr_in (x:=1+r2) (by omega) (by omega)]
  exact fMake_ok (by unfold sml; omega) (by unfold sml; omega) (h _ _ _ q3 (by omega))
theorem anyFrac_ok {code:List B8} {a s:Int} {Q:Frac→Int→Int→Prop} (hc:bytesOk code) (ha:0≤a∧a≤800000000000) (h:∀ f a' s',0≤a'→a'≤a+10→Q f a' s'):spec_l1Cur_anyFrac ⟨code,a,s⟩ Q:=by
  unfold spec_l1Cur_anyFrac
  dsimp only
  refine pick_ok hc (by unfold atOk; omega) fun r a1 s1 p0 p1 p2 p3 p4=>?_
  refine br_eq (fun _=>?_) (fun _=>br_eq (fun _=>?_) (fun _=>br_eq (fun _=>?_) (fun _=>?_)))
  · exact among_ok hc (by unfold atOk; omega) (by simp) fun v hv a2 s2 q0 q1=>among_ok hc (by unfold atOk; omega) (by simp) fun v2 hv2 a3 s3 u0 u1=>h _ _ _ u0 (by omega)
  · exact pick_ok hc (by unfold atOk; omega) fun v a2 s2 _ _ _ q0 q1=>pick_ok hc (by unfold atOk; omega) fun v2 a3 s3 _ _ _ u0 u1=>h _ _ _ u0 (by omega)
  · exact pick_ok hc (by unfold atOk; omega) fun v a2 s2 _ _ _ q0 q1=>among_ok hc (by unfold atOk; omega) (by simp) fun v2 hv2 a3 s3 u0 u1=>h _ _ _ u0 (by omega)
  · exact frac_ok hc (by omega) fun f a2 s2 q0 q1=>h _ _ _ q0 (by omega)
theorem fracs_ok {code:List B8} {a s:Int} {Q:List Frac→Int→Int→Prop} (hc:bytesOk code) (ha:0≤a∧a≤700000000000) (h:∀ l a' s',l.length≤110→0≤a'→a'≤a+2000→Q l a' s'):spec_l1Cur_fracs ⟨code,a,s⟩ Q:=by
  unfold spec_l1Cur_fracs
  dsimp only
  refine pick_ok hc (by unfold atOk; omega) fun r a1 s1 p0 p1 p2 p3 p4=>?_
  refine ⟨fun l k at1 _=>∃ n:Nat,k=(n:Int)∧n≤7∧l.length+n≤7∧0≤at1∧at1+4 * (n:Int)≤a1+28,fun _ k _ _=>k.toNat,⟨r.toNat,by omega,by omega,by simp; omega,p3,by omega⟩,?_⟩
  rintro l k at1 s2 ⟨n,rfl,hn,hl,g0,g1⟩
  refine br_dec (fun c=>?_) (fun c=>?_)
  · refine frac_ok hc (by omega) fun f a2 s3 q0 q1=>⟨by unfold ln; simp only [List.length_singleton]; omega,?_⟩
    rw [wr_in (by omega) (by omega)]
    exact ⟨⟨n-1,by omega,by omega,by simp; omega,q0,by omega⟩,by show ((n:Int)-1).toNat<(n:Int).toNat; omega⟩
  · refine jn_ok3 (fun (o:List Frac) a' s'=>o.length≤110∧0≤a'∧a'≤a+2000) (fun o a' s' ⟨h1,h2,h3⟩=>h _ _ _ h1 h2 h3) fun k hk=>?_
    refine pick_ok hc (by unfold atOk; omega) fun r2 a2 s3 _ _ _ q0 q1=>?_
    refine br_eq (fun _=>?_) (fun _=>br_eq (fun _=>?_) (fun _=>hk _ _ _ ⟨by omega,q0,by omega⟩))
    · exact anyFrac_ok hc (by omega) fun f a3 s4 u0 u1=>⟨by unfold ln; simp only [List.length_singleton]; omega,hk _ _ _ ⟨by simp; omega,u0,by omega⟩⟩
    · refine ⟨fun l1 at2 _=>l1.length≤101∧0≤at2∧at2≤a2+4 * (l1.length:Int),fun l1 _ _=>200-l1.length,⟨by omega,q0,by omega⟩,?_⟩
      rintro l1 at2 s4 ⟨b1,b2,b3⟩
      refine pick_ok hc (by unfold atOk; omega) fun r3 a3 s5 v0 v1 v2 v3 v4=>?_
      refine br_dec (fun c2=>?_) (fun c2=>hk _ _ _ ⟨by omega,v3,by omega⟩)
      rw [wr_in (by omega) (by omega)] at c2
      unfold ln at c2
      refine pick_ok hc (by unfold atOk; omega) fun r4 a4 s6 _ _ _ w3 w4=>⟨by unfold ln; simp only [List.length_singleton]; omega,⟨by simp; omega,w3,by simp; omega⟩,?_⟩
      show 200-(l1++[_]).length<200-l1.length
      simp; omega
theorem drawEB_ok {code:List B8} {Q:List Frac→Int→Prop} (hc:bytesOk code) (h:∀ l k,l.length≤110→Q l k):spec_DrawEqualBreaks code Q:=by
  unfold spec_DrawEqualBreaks
  exact fracs_ok hc (by omega) fun l a1 s1 hl p0 p1=>among_ok hc (by unfold atOk; omega) (by simp) fun v hv a2 s2 q0 q1=>h _ _ hl
theorem drawCl_ok {code:List B8} {Q:List Frac→Frac→Prop} (hc:bytesOk code) (h:∀ l v,l.length≤110→Q l v):spec_DrawClassOf code Q:=by
  unfold spec_DrawClassOf
  refine fracs_ok hc (by omega) fun l a1 s1 hl p0 p1=>?_
  refine jn_ok3 (fun (o:List Frac) a' s'=>o.length≤110∧0≤a'∧a'≤10000) (fun o a' s' ⟨h1,h2,h3⟩=>?_) fun k hk=>?_
  · refine jn_ok3 (fun (b:Bool) a2 s2=>(b=true→0<o.length)∧0≤a2∧a2≤20000) (fun b a2 s2 ⟨g1,g2,g3⟩=>?_) fun k hk=>?_
    · refine br_bo (fun gb=>?_) (fun gb=>?_)
      · have:=g1 gb
        exact pick_ok hc (by unfold atOk; omega) fun r a3 s3 u0 u1 u2 u3 u4=>idx_of u0 (by unfold ln at u1; omega) (h _ _ h1)
      · exact anyFrac_ok hc (by omega) fun f a3 s3 u0 u1=>h _ _ h1
    · refine one_ok hc (by unfold atOk; omega) fun b a2 s2 q0 q1=>br_bo (fun _=>hk _ _ _ ⟨fun g=>?_,q0,by omega⟩) (fun _=>hk _ _ _ ⟨(fun g=>by cases g),q0,by omega⟩)
      have:=of_decide_eq_true g
      unfold ln at this; omega
  · refine jn_ok3 (fun (b:Bool) a2 s2=>(b=true→allF l=true)∧0≤a2∧a2≤10000) (fun b a2 s2 ⟨g1,g2,g3⟩=>?_) fun k2 hk2=>?_
    · refine br_bo (fun gb=>?_) (fun gb=>hk _ _ _ ⟨hl,g2,g3⟩)
      exact oSorted_ok (by omega) (allF_of (g1 gb)) fun o hp hs=>hk _ _ _ ⟨by have:=hp.length_eq; omega,g2,g3⟩
    · refine one_ok hc (by unfold atOk; omega) fun b a2 s2 q0 q1=>br_nb (fun _=>oFracs_ok (by omega) (hk2 _ _ _ ⟨fun g=>?_,q0,by omega⟩)) (fun _=>hk2 _ _ _ ⟨(fun g=>by cases g),q0,by omega⟩)
      simp only [Bool.and_eq_true] at g
      exact g.1
theorem tableOfS_ok {p:List Int} {sx:List Variable} {t:Table} {l:List Record} {Q:List Int→Bool→Prop} (hp:p.length≤1048576) (hs:sx.length≤1048576∧∀ x∈sx,x.Name.size≤1048576) (hv:t.Vars.length≤1048576) (hl:l.length≤1048576)
    (h:∀ o b,o.length≤600→Q o b):spec_TableOf ⟨p⟩ sx t l Q:=by
  unfold spec_TableOf
  refine jn_bool (!(((gOk p&&schOk sx)&&tOk p sx t)&&((gOk p&&schOk sx)&&svOk p sx l))) ?_ fun k hk=>uGood_ok (p:=p) (t:=t) hp hs.1 hs.2 hv (br_nb (fun g=>?_) (fun g=>uSurvey_ok (p:=p) hp hs.1 hs.2 hl ?_))
  · refine br_nb (fun g=>h _ _ (by simp)) (fun g=>?_)
    simp only [Bool.and_eq_true] at g
    have ht:=g.1.2
    refine uTable_ok (p:=p) (t:=t) g.1.1.1 (Lok_of g.1.1.2) ht g.2.2 (h _ _ ?_)
    rw [(tabF_in g.1.1.1 (Lok_of g.1.1.2) ht g.2.2).1]
    exact (tOk_b ht).2
  · rw [g,Bool.false_and] at hk; exact hk
  · rw [g,Bool.true_and] at hk; exact hk
theorem drawPro_ok {code:List B8} {Q:Geo→List Variable→Table→List Int→Prop} (hc:bytesOk code) (h:∀ p sx t cs,p.length≤40→sdOk sx→tdOk t→cs.length≤700→Q ⟨p⟩ sx t cs):spec_DrawProfileText code Q:=by
  unfold spec_DrawProfileText spec_DrawTableOf
  refine anySurvey_ok hc (by omega) fun p sx l a1 s1 hp hs hl p0 p1=>anyTable_ok hc (p:=p) (by omega) hs (by omega) fun t a2 s2 ht q0 q1=>?_
  refine tableOfS_ok (p:=p) (t:=t) (by omega) hs.wide (by have:=ht.1; omega) (by have:=hl.1; omega) fun o b ho=>?_
  refine jn_ok3 (fun (cs:List Int) a' s'=>cs.length≤601∧0≤a'∧a'≤100) (fun cs a' s' ⟨h1,h2,h3⟩=>?_) fun k hk=>?_
  · refine jn_ok (fun k=>∀ c:List Int,c.length≤601→k c) (fun c hcl=>h p sx t c hp hs ht (by omega)) fun k hk=>?_
    refine jn_ok3 (fun (b:Bool) a3 s3=>(b=true→0<cs.length)∧0≤a3∧a3≤200) (fun b a3 s3 ⟨g1,g2,g3⟩=>?_) fun k2 hk2=>?_
    · refine br_bo (fun gb=>?_) (fun gb=>hk _ h1)
      have:=g1 gb
      exact among_ok hc (by unfold atOk; omega) (by simp) fun v hv a4 s4 u0 u1=>⟨by omega,by show 0<_; omega,hk _ (by simpa using h1)⟩
    · refine br_dec (fun g=>?_) (fun g=>hk2 _ _ _ ⟨(fun c=>by cases c),h2,by omega⟩)
      exact one_ok hc (by unfold atOk; omega) fun b2 a3 s3 u0 u1=>hk2 _ _ _ ⟨fun _=>by unfold ln at g; omega,u0,by omega⟩
  · refine jn_ok3 (fun (b:Bool) a3 s3=>0≤a3∧a3≤100) (fun b a3 s3 ⟨g2,g3⟩=>?_) fun k2 hk2=>?_
    · exact br_bo (fun gb=>⟨by unfold ln; simp only [List.length_singleton]; omega,hk _ _ _ ⟨by simp; omega,g2,g3⟩⟩) (fun gb=>hk _ _ _ ⟨by omega,g2,g3⟩)
    · exact br_bo (fun gb=>one_ok hc (by unfold atOk; omega) fun b2 a3 s3 u0 u1=>hk2 _ _ _ ⟨u0,by omega⟩) (fun gb=>hk2 _ _ _ ⟨by omega,by omega⟩)
theorem drawMap_ok {code:List B8} {Q:Geo→List Int→Prop} (hc:bytesOk code) (h:∀ p l,p.length≤40→l.length≤41→Q ⟨p⟩ l):spec_DrawMapText code Q:=by
  unfold spec_DrawMapText
  refine anyGeo_ok hc (by omega) fun p a1 s1 hp p0 p1=>?_
  refine ⟨fun l x at1 _=>∃ i:Nat,x=(i:Int)∧i≤p.length∧l.length=i∧0≤at1∧at1≤a1+2 * (i:Int),fun _ x _ _=>p.length-x.toNat,⟨0,rfl,by omega,by simp,p0,by omega⟩,?_⟩
  rintro l _ at1 s2 ⟨i,rfl,hi,hl,g0,g1⟩
  refine br_dec (fun c=>?_) (fun c=>?_)
  · have c':i<p.length:=by unfold ln at c; dsimp only at c; omega
    refine pick_ok hc (by unfold atOk; omega) fun r a2 s3 _ _ _ q0 q1=>⟨by unfold ln; simp only [List.length_singleton]; omega,?_⟩
    rw [wr_in (by omega) (by omega)]
    refine ⟨⟨i+1,by omega,by omega,by simp; omega,q0,by omega⟩,?_⟩
    show p.length-((i:Int)+1).toNat<p.length-(i:Int).toNat
    omega
  · refine jn_ok (fun k=>∀ c:List Int,c.length≤41→k c) (fun c hcl=>h p c hp hcl) fun k hk=>?_
    refine pick_ok hc (by unfold atOk; omega) fun r a2 s3 _ _ _ q0 q1=>?_
    refine br_eq (fun _=>⟨by unfold ln; simp only [List.length_singleton]; omega,hk _ (by simp; omega)⟩) (fun _=>br_eq (fun _=>br_dec (fun c2=>?_) (fun _=>hk _ (by omega))) (fun _=>hk _ (by omega)))
    refine among_ok hc (by unfold atOk; omega) (by simp) fun v hv a3 s4 u0 u1=>⟨by omega,?_,hk _ (by simp; omega)⟩
    unfold ln at c2
    show 0<l.length
    omega
theorem qFracs_same {a:List Frac} {Q:Bool→Prop} (hl:a.length≤1048576) (h:Q true):laws_qFracs a a Q:=by
  unfold laws_qFracs
  exact br_false (by simp) (loop1_list (by omega) (fun _=>True) trivial (fun i nx hi _ hx=>idx_at hi (idx_at hi (br_false (by simp) (hx trivial)))) (fun _=>h))
theorem qInts_same {a:List Int} {Q:Bool→Prop} (hl:a.length≤1048576) (h:Q true):laws_qInts a a Q:=by
  unfold laws_qInts
  exact br_false (by simp) (loop1_list (by omega) (fun _=>True) trivial (fun i nx hi _ hx=>idx_at hi (idx_at hi (br_false (by simp) (hx trivial)))) (fun _=>h))
theorem leF_iff {v w:Frac}:leF v w=true↔fle w v:=by
  rw [fle_iff]; unfold leF cmpF
  rw [decide_eq_true_iff]
  split
  · omega
  · split <;> omega
theorem gtF_iff {v w:Frac}:gtF v w=true↔¬ fle w v:=by
  rw [fle_iff]; unfold gtF cmpF
  rw [decide_eq_true_iff]
  split
  · omega
  · split <;> omega
theorem fle_total {a b:Frac} (h:¬ fle a b):fle b a:=by rw [fle_iff] at *; omega
theorem fle_refl (a:Frac):fle a a:=by rw [fle_iff]; omega
theorem cntF_mono {p q:Frac→Bool} {l:List Frac} (h:∀ w∈l,p w=true→q w=true):cntF p l l.length≤cntF q l l.length:=by
  unfold cntF
  rw [List.take_length]
  exact_mod_cast List.countP_mono_left h
theorem rank_le {l:List Frac} {f g:Frac} (hl:∀ w∈l,fOk w) (hf:fOk f) (hg:fOk g) (h:rk1 l f<rk1 l g):fle g f:=by
  refine Classical.byContradiction fun c=>?_
  have h1:=fle_total c
  have:rk1 l g≤rk1 l f:=by
    unfold rk1
    have:=cntF_mono (p:=gtF g) (q:=gtF f) (l:=l) fun w hw h2=>by
      rw [gtF_iff] at *
      exact fun h3=>h2 (fle_trans (hl w hw) hf hg h3 h1)
    omega
  omega
theorem class_le {x:List Frac} {f g:Frac} (hx:∀ w∈x,fOk w) (hf:fOk f) (hg:fOk g) (h:fle g f):cntF (leF g) x x.length≤cntF (leF f) x x.length :=
  cntF_mono fun w hw h2=>by
    rw [leF_iff] at *
    exact fle_trans (hx w hw) hg hf h2 h
theorem pw_at {o:List Frac} (h:o.Pairwise fle) {p q:Nat} (hpq:p≤q) (hq:q<o.length):fle (fAt o p) (fAt o q):=by
  rcases Nat.lt_or_ge p q with h1 | h1
  · rw [fAt_at (by omega),fAt_at hq]
    exact List.pairwise_iff_getElem.1 h p q (by omega) hq h1
  · have:p=q:=by omega
    subst this; exact fle_refl _
structure EbOk (l x:List Frac) (k:Int):Prop where
  len:(x.length:Int)=k-1
  all:allF x=true
  srt:srt x=true
theorem eb_ok {l o:List Frac} {k:Int} (hin:ebIn l k=true) (hp:o.Perm l) (hs:o.Pairwise fle):EbOk l (ebOf o k) k:=by
  have gg:=hin
  unfold ebIn at gg
  simp only [Bool.and_eq_true,decide_eq_true_eq] at gg
  have hf:=allF_of gg.1.1
  have hn:=hp.length_eq
  have hlen:(ebOf o k).length=k.toNat-1:=by unfold ebOf; simp
  have hix:∀ j:Nat,(j:Int)+1<k→((((j:Int)+1) * o.length / k).toNat)<o.length:=fun j hj=>(eb_ix (n:=o.length) (k:=k) (i:=(j:Int)+1) (by omega) gg.2.2 (by omega) hj (by omega)).2.1
  have hat:∀ j:Nat,j<k.toNat-1→fAt (ebOf o k) j=fAt o (((j:Int)+1) * o.length / k).toNat:=fun j hj=>by
    rw [fAt_at (by rw [hlen]; exact hj)]
    unfold ebOf
    rw [List.getElem_map,List.getElem_range]; rfl
  refine ⟨by rw [hlen]; omega,?_,?_⟩
  · refine List.all_eq_true.2 fun f hfm=>decide_eq_true ?_
    unfold ebOf at hfm
    obtain ⟨j,hj,rfl⟩:=List.mem_map.1 hfm
    have hj':=List.mem_range.1 hj
    unfold ebAt
    rw [fAt_at (hix j (by omega))]
    exact hf _ (hp.subset (List.getElem_mem _))
  · refine List.all_eq_true.2 fun i hi=>?_
    have hi':=List.mem_range.1 hi
    rw [hlen] at hi'
    unfold srtAt
    by_cases e:i=0
    · rw [decide_eq_true e]; rfl
    · rw [decide_eq_false e,Bool.false_or,hat (i-1) (by omega),hat i hi']
      have h1:=hix i (by omega)
      have hle:((((i-1:Nat):Int)+1) * o.length / k).toNat≤(((i:Int)+1) * o.length / k).toNat:=by
        have h2:(((i-1:Nat):Int)+1) * (o.length:Int)≤((i:Int)+1) * o.length:=Int.mul_le_mul_of_nonneg_right (by omega) (by omega)
        have h3:=Int.ediv_le_ediv (c:=k) (by omega) h2
        omega
      have h4:=pw_at hs hle h1
      rw [Bool.not_eq_true',decide_eq_false_iff_not]
      have h5:=leF_iff.2 h4
      have h6:=of_decide_eq_true h5
      omega
theorem lawClassTexts (code more:List B8) (w0:Wf.wf code) (w1:Wf.wf more):laws_FnClassTexts code more (fun r=>r=true):=by
  have hc:bytesOk code:=fun x hx=>w0.2 x hx
  have hm:bytesOk more:=fun x hx=>w1.2 x hx
  unfold laws_FnClassTexts
  refine br_dec (fun _=>rfl) (fun g0=>drawEB_ok hc fun l k hl=>iEb_ok (by omega) fun o ho=>sEb_ok (by omega) fun o1 ho1=>?_)
  rw [eb_same ho ho1]
  refine implRk_ok (by omega) (specRk_ok (by omega) (drawPro_ok hm fun p sx t cs b1 b2 b3 b4=>?_))
  refine iPro_ok (p:=p) (t:=t) (by omega) b2.wide.1 (by have:=b3.1; omega) (by omega) (sPro_ok (p:=p) (t:=t) (by omega) b2.wide (by have:=b3.1; omega) (by omega) (drawMap_ok hm fun p2 cl c1 c2=>?_))
  refine iMap_ok (p:=p2) (by omega) (by omega) (sMap_ok (p:=p2) (by omega) (by omega) (drawCl_ok hm fun bs v d1=>implCl_ok (v:=v) (by omega) (specCl_ok (v:=v) (by omega) ?_)))
  have hE:(if ebIn l k then ebOf o k else []).length≤100:=by
    split
    · rename_i c
      unfold ebIn at c
      simp only [Bool.and_eq_true,decide_eq_true_eq] at c
      unfold ebOf; simp; omega
    · simp
  have hR:=rkOf_length l
  refine jn_bool false ?_ fun kk hk=>br_false (by simp) (qFracs_same (by omega) (br_false rfl (br_false (by simp) (qInts_same (by omega) (br_false rfl (br_false (by simp) (br_false (by rw [streq_eq]; simp) (br_false (by simp) (br_false (by rw [streq_eq]; simp) (br_false (by simp) (by simpa using hk)))))))))))
  refine br_false rfl (br_nb (fun g=>rfl) (fun g=>?_))
  have ⟨hp,hs⟩:=ho g
  have gg:=g
  unfold ebIn at gg
  simp only [Bool.and_eq_true,decide_eq_true_eq] at gg
  have hf:=allF_of gg.1.1
  have eo:=eb_ok g hp hs
  rw [g,if_pos rfl]
  generalize ebOf o k=x at *
  have hxf:=allF_of eo.all
  have hxl:=eo.len
  have hrk:rkOf l=l.map (rk1 l):=by
    unfold rkOf
    rw [if_pos (by unfold rkIn; rw [gg.1.1,decide_eq_true (by omega:(l.length:Int)≤100)]; rfl)]
  have hcl:∀ f∈l,clIn x f=true:=fun f hfm=>by
    unfold clIn clIn0
    rw [eo.all,eo.srt,decide_eq_true (by omega:(x.length:Int)≤7),decide_eq_true (hf f hfm)]; rfl
  have hco:∀ f∈l,clOf x f=cntF (leF f) x x.length:=fun f hfm=>by unfold clOf; rw [if_pos (hcl f hfm)]
  rw [hrk]
  refine loop1_list (by omega) (fun _=>True) trivial (fun i nx hi _ hx=>idx_at hi ?_) (fun _=>?_)
  · have hfi:=List.getElem_mem hi
    refine implCl_ok (v:=l[i]) (by omega) ?_
    rw [hcl _ hfi,hco _ hfi]
    have hb:=cntF_le (p:=leF l[i]) (l:=x) (j:=x.length)
    refine jn_bool false (br_false rfl ?_) fun kk hk=>br_false rfl (br_no (by omega) (by rw [decide_eq_false (by omega)]; exact hk))
    refine loop1_list (by omega) (fun _=>True) trivial (fun j nx2 hj _ hx2=>idx_at hj ?_) (fun _=>hx trivial)
    have hfj:=List.getElem_mem hj
    refine implCl_ok (v:=l[j]) (by omega) ?_
    rw [hcl _ hfj,hco _ hfj]
    refine jn_bool false (br_false rfl (hx2 trivial)) fun kk hk=>br_false rfl (idx_at (by simpa using hi) (idx_at (by simpa using hj) (br_dec (fun c=>?_) (fun _=>hk))))
    rw [List.getElem_map,List.getElem_map] at c
    have h1:=rank_le hf (hf _ hfi) (hf _ hfj) c
    have h2:=class_le hxf (hf _ hfi) (hf _ hfj) h1
    rw [decide_eq_false (by omega)]; exact hk
  · rw [wr_in (by omega) (by omega)]
    show (ln x==k-1)=true
    unfold ln; rw [hxl]; simp
end Go.Proofs.YtfnmhknnliahoaaGreatDoor
