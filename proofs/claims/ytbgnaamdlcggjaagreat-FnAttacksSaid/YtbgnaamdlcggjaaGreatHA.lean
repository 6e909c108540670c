/- Attacks that are drawn: geographies, surveys, tables, published tables. -/
import Derived.Test.YtbgnaamdlcggjaaGreatKA
set_option linter.unusedVariables false
set_option autoImplicit false
namespace Go.Proofs.YtbgnaamdlcggjaaGreat
open Go Go.RowKit Go.Gv
theorem u64_nn (x:Int):0≤IntKind.u64.wrap x:=by
  simp only [IntKind.wrap,IntKind.bits,IntKind.signed]; simp; omega
theorem l1len {α:Type} (v:α):ln [v]=1:=rfl
/-- A drawn geography. -/
def gdOk (p:List Int):Prop:=gOk p=true∧0<(lvs p).length
theorem geos_ok:∀ x∈([[(-1)],[(-1),0,0],[(-1),0,0,0],[(-1),0,0,1,1]]:List (List Int)),gdOk x:=by
  intro x hx
  simp only [List.mem_cons,List.not_mem_nil,or_false] at hx
  rcases hx with rfl | rfl | rfl | rfl <;> exact ⟨by decide +kernel,by decide +kernel⟩
theorem gOk_len {p:List Int} (h:gOk p=true):p.length≤30:=(gOk_of h).1.2
theorem attacked_ok {code:List B8} {a s:Int} {Q:Geo→List Variable→List Record→Int→Int→Prop} (hc:bytesOk code) (ha:0≤a∧a≤600000000000)
    (h:∀ p sx l a' s',gdOk p→sdOk sx→l.length≤6→0≤a'→a'≤a+300→Q ⟨p⟩ sx l a' s'):spec_l1Cur_attacked ⟨code,a,s⟩ Q:=by
  unfold spec_l1Cur_attacked
  dsimp only
  refine pick_ok hc (by unfold atOk; omega) fun r a1 s1 p0 p1 _ p2 p3=>idx_all gdOk geos_ok p0 (by simp; omega) fun p hp=>?_
  have n1:((ByteArray.mk #[115,101,120]).size≤100):=by decide
  have n2:((ByteArray.mk #[97,103,101]).size≤100):=by decide
  refine jn_ok (fun k=>∀ sx a' s',sdOk sx→0≤a'→a'≤a+10→k sx a' s') (fun sx a2 s2 hs h0 h1=>?_) fun k hk=>?_
  · refine jn_ok (fun k=>∀ sx a' s',sdOk sx→0≤a'→a'≤a+80→k sx a' s') (fun sx a3 s3 hs g0 g1=>?_) fun k hk=>?_
    · refine pick_ok hc (by unfold atOk; omega) fun r2 a4 s4 q0 q1 _ q2 q3=>?_
      refine ⟨fun l k at1 _=>∃ n:Nat,k=(n:Int)∧n≤6∧l.length+n≤6∧0≤at1∧at1+20 * (n:Int)≤a4+120,fun _ k _ _=>k.toNat,⟨r2.toNat,by omega,by omega,by simp; omega,q2,by omega⟩,?_⟩
      rintro l k at1 s5 ⟨n,rfl,hn,hl,g2,g3⟩
      refine br_dec (fun c=>gLeaves_ok (p:=p) hp.1 (record_ok hc hs.1 hp.2 (by omega) fun rc a5 s6 _ u0 u1=>⟨by unfold ln; simp only [List.length_singleton]; omega,?_⟩)) (fun c=>h _ _ _ _ _ hp hs (by omega) g2 (by omega))
      rw [wr_in (by omega) (by omega)]
      exact ⟨⟨n-1,by omega,by omega,by simp; omega,u0,by omega⟩,by show ((n:Int)-1).toNat<(n:Int).toNat; omega⟩
    · refine one_ok hc (by unfold atOk; omega) fun b a3 s3 q0 q1=>br_bo (fun _=>anySchema_ok hc (by omega) fun sx2 a4 s4 hs2 u0 u1=>hk _ _ _ hs2 u0 (by omega)) (fun _=>hk _ _ _ hs q0 (by omega))
  · refine jn_ok (fun k=>∀ b a' s',0≤a'→a'≤a+6→k b a' s') (fun b a2 s2 h0 h1=>br_bo (fun _=>?_) (fun _=>hk _ _ _ ⟨by simp,fun x hx=>by simp only [List.mem_singleton] at hx; rw [hx]; exact n1⟩ h0 (by omega))) fun k2 hk2=>?_
    · refine pick_ok hc (by unfold atOk; omega) fun r2 a4 s4 q0 q1 _ q2 q3=>⟨by unfold ln; simp,hk _ _ _ ⟨by simp,fun x hx=>?_⟩ q2 (by omega)⟩
      simp only [List.cons_append,List.nil_append,List.mem_cons,List.not_mem_nil,or_false] at hx
      rcases hx with rfl | rfl
      · exact n1
      · exact n2
    · refine gLeaves_ok (p:=p) hp.1 (br_dec (fun _=>one_ok hc (by unfold atOk; omega) fun b a2 s2 q0 q1=>hk2 _ _ _ q0 (by omega)) (fun _=>hk2 _ _ _ p2 (by omega)))
theorem where_ok {code:List B8} {sx:List Variable} {a s:Int} {Q:List Int→Int→Int→Prop} (hc:bytesOk code) (hs:sdOk sx) (ha:0≤a∧a≤700000000000) (h:∀ w a' s',w.length=sx.length→0≤a'→a'≤a+40→Q w a' s'):spec_l1Cur_where ⟨code,a,s⟩ sx Q:=by
  unfold spec_l1Cur_where
  dsimp only
  have h7:=hs.1
  refine ⟨fun o x at1 _=>∃ n:Nat,x=(n:Int)∧n≤sx.length∧o.length=n∧0≤at1∧at1≤a+4 * (n:Int),fun _ x _ _=>((sx.length:Int)-x).toNat,⟨0,rfl,Nat.zero_le _,rfl,ha.1,by omega⟩,?_⟩
  rintro o _ at1 s1 ⟨n,rfl,hn,hlo,h0,h1⟩
  refine br_dec (fun g=>?_) (fun g=>h _ _ _ (by unfold ln at g; omega) h0 (by omega))
  unfold ln at g
  refine idx_at (by omega) (jn_ok (fun k=>∀ v a' s',0≤a'→a'≤at1+4→k v a' s') (fun v a2 s2 p0 p1=>⟨by unfold ln; simp only [List.length_singleton]; omega,?_⟩) fun k hk=>?_)
  · rw [wr_in (by omega) (by omega)]
    exact ⟨⟨n+1,by omega,by omega,by simp; omega,p0,by omega⟩,by show ((sx.length:Int)-((n:Int)+1)).toNat<((sx.length:Int)-(n:Int)).toNat; omega⟩
  · refine one_ok hc (by unfold atOk; omega) fun b a2 s2 p0 p1=>br_bo (fun _=>⟨?_,pick_ok hc (by unfold atOk; omega) fun r a3 s3 _ _ _ q0 q1=>hk _ _ _ q0 (by omega)⟩) (fun _=>hk _ _ _ p0 (by omega))
    exact u64_nn _
def tdOk (t:Table):Prop:=t.Vars.length≤8∧t.Where.length≤8
theorem gLevel_or {p:List Int} {l:Int} {Q:List Int→Prop} (h:gOk p=true) (hq:∀ o,Q o):spec_gLevel ⟨p⟩ l Q:=gLevel_ok h (hq _)
theorem table_ok {code:List B8} {p:List Int} {sx:List Variable} {a s:Int} {Q:Table→Int→Int→Prop} (hc:bytesOk code) (hg:gdOk p) (hs:sdOk sx) (ha:0≤a∧a≤700000000000)
    (h:∀ t a' s',t.Vars.length≤7→t.Where.length≤7→0≤a'→a'≤a+70→Q t a' s'):spec_l1Cur_table ⟨code,a,s⟩ ⟨p⟩ sx Q:=by
  unfold spec_l1Cur_table
  dsimp only
  have h7:=hs.1
  refine where_ok hc hs (by omega) fun w a1 s1 hw p0 p1=>?_
  refine ⟨fun x at1 _ vars=>∃ n:Nat,x=(n:Int)∧n≤sx.length∧vars.length≤n∧0≤at1∧at1≤a1+2 * (n:Int),fun x _ _ _=>((sx.length:Int)-x).toNat,⟨0,rfl,Nat.zero_le _,Nat.le_refl _,p0,by omega⟩,?_⟩
  rintro _ at1 s2 vars ⟨n,rfl,hn,hv,h0,h1⟩
  refine br_dec (fun g=>?_) (fun g=>?_)
  · unfold ln at g
    refine jn_ok (fun k=>∀ a' s' v,0≤a'→a'≤at1+2→v.length≤n+1→k a' s' v) (fun a2 s3 v q0 q1 q2=>?_) fun k hk=>one_ok hc (by unfold atOk; omega) fun b a2 s3 q0 q1=>br_bo (fun _=>⟨by unfold ln; simp only [List.length_singleton]; omega,hk _ _ _ q0 q1 (by simp; omega)⟩) (fun _=>hk _ _ _ q0 q1 (by omega))
    rw [wr_in (by omega) (by omega)]
    exact ⟨⟨n+1,by omega,by omega,q2,q0,by omega⟩,by show ((sx.length:Int)-((n:Int)+1)).toNat<((sx.length:Int)-(n:Int)).toNat; omega⟩
  · refine jn_ok (fun k=>∀ a' s' l,0≤a'→a'≤at1+2→k a' s' l) (fun a2 s3 lvl q0 q1=>?_) fun k hk=>?_
    · refine jn_ok (fun k=>∀ a' s' l,0≤a'→a'≤at1+8→k a' s' l) (fun a3 s4 sm u0 u1=>h _ _ _ (by show vars.length≤7; omega) (by show w.length≤7; omega) u0 (by omega)) fun k hk=>?_
      refine jn_ok (fun k=>∀ b a' s',0≤a'→a'≤at1+6→k b a' s') (fun b a3 s4 u0 u1=>br_bo (fun _=>pick_ok hc (by unfold atOk; omega) fun r a4 s5 _ _ _ v0 v1=>hk _ _ _ v0 (by omega)) (fun _=>hk _ _ _ u0 (by omega))) fun k2 hk2=>?_
      exact one_ok hc (by unfold atOk; omega) fun b a3 s4 u0 u1=>br_bo (fun _=>hk2 _ _ _ u0 (by omega)) (fun _=>hk2 _ _ _ u0 (by omega))
    · have hpl:=gOk_len hg.1
      refine gGood_ok (p:=p) (by omega) (br_true hg.1 (pick_ok hc (by unfold atOk; omega) fun r a2 s3 _ _ _ q0 q1=>gLevel_or (p:=p) hg.1 fun o=>br_bo (fun _=>hk _ _ _ q0 q1) (fun _=>hk _ _ _ q0 q1)))
def pbOk (x:Published):Prop:=tdOk x.Table∧0<x.Cells.length∧x.Cells.length≤700
theorem hide_ok {b:Published} {t:Int} {Q:Published→Bool→Prop} (h1:tdOk b.Table) (h2:inT b.Cells.length 2400 b.Cells) (h3:0<b.Cells.length∧b.Cells.length≤600) (ht:0≤t∧t≤10) (h:∀ x,pbOk x→Q x true):spec_HideCells b t Q:=by
  unfold spec_HideCells
  have ha:b.Cells.all (inb (-1) 1000000)=true:=List.all_eq_true.2 fun x hx=>by have:=h2.2 x hx; exact inb_iff'.2 (by omega)
  refine jn_bool false (br_false rfl ?_) fun k hk=>br_no (by unfold ln; omega) (l1All_ok (by omega) (br_false (by rw [ha]; rfl) (l1In_ok (by rw [decide_eq_true (by omega),decide_eq_true (by omega)]; exact hk))))
  have fin:∀ (lv:Int) (v w:List Int) (sm:Int),v.length≤8→w.length≤8→Loop2 (fun (x291:Int) (cells:List Int) nx =>
      br (decide (x291<(ln b.Cells))) (idx b.Cells x291 fun x304=>jn (fun (k334:Int→Prop)=>jn (fun (k338:Bool→Prop)=>br (decide (x304>0)) (k338 (decide (x304<t)))<|k338 false)<|fun (x336:Bool)=>br (x336) (k334 ((-1)))<|k334 x304)<|fun (n:Int) =>
      (ln cells+ln ([n])) * 8≤140737488355328∧(nx (wr (x291+1)) (cells++([n]))))<|Q ((Published.mk ((Table.mk lv v w sm)) cells)) true) 0 ([]):=fun lv v w sm g1 g2=>by
    refine loop2_listF (by omega) (fun cells i=>cells.length=i) rfl (fun cells i nx hi e hn=>idx_at hi ?_) (fun cells e=>h _ ⟨⟨g1,g2⟩,by show 0<cells.length; omega,by show cells.length≤700; omega⟩)
    refine jn_ok (fun k=>∀ v,k v) (fun v=>⟨by unfold ln; simp only [List.length_singleton]; omega,hn _ (by simp; omega)⟩) fun k hk=>?_
    exact jn_ok (fun k=>∀ b,k b) (fun b=>br_bo (fun _=>hk _) (fun _=>hk _)) fun k2 hk2=>br_dec (fun _=>hk2 _) (fun _=>hk2 _)
  have o1:=h1.1; have o2:=h1.2
  refine jn_ok (fun k=>∀ lv (v w:List Int) sm,v.length≤8→w.length≤8→k lv v w sm) (fun lv v w sm g1 g2=>fin lv v w sm g1 g2) fun k hk=>?_
  refine ⟨l1Own_ok (by omega) ⟨l1Own_ok (by omega) (hk _ _ _ _ o1 o2),l1Own_ok (by omega) (hk _ _ _ _ o1 o2)⟩,l1Own_ok (by omega) (l1Own_ok (by omega) (hk _ _ _ _ o1 o2))⟩
theorem publish_ok {p:List Int} {sx:List Variable} {l:List Record} {t:Table} {Q:List Published→Bool→Prop} (hg:gdOk p) (hs:sdOk sx) (hl:l.length≤6) (ht:t.Vars.length≤7∧t.Where.length≤7) (h0:Q [] false)
    (h1:∀ b,tdOk b.Table→inT b.Cells.length 2400 b.Cells→0<b.Cells.length∧b.Cells.length≤600→Q [b] true):spec_PublishTables ⟨p⟩ sx l [t] Q:=by
  unfold spec_PublishTables
  have hpl:=gOk_len hg.1
  have ⟨w1,w2⟩:=hs.wide
  refine jn_bool (!((gOk p&&schOk sx)&&svOk p sx l)) ?_ fun k hk=>uSurvey_ok (p:=p) (by omega) w1 w2 (by omega) (br_nb (fun g=>by rw [g] at hk; exact hk) (fun g=>by rw [g] at hk; rw [decide_eq_false (by rw [l1len]; omega)]; exact hk))
  refine br_nb (fun _=>h0) fun g=>?_
  simp only [Bool.and_eq_true] at g
  obtain ⟨⟨g1,g2⟩,g3⟩:=g
  have hL:=Lok_of g2
  refine loop2_list (xs:=[t]) (by simp) (fun out i=>(i=0∧out=[])∨(i=1∧∃ b,out=[b]∧tdOk b.Table∧inT b.Cells.length 2400 b.Cells∧0<b.Cells.length∧b.Cells.length≤600)) (.inl ⟨rfl,rfl⟩) (fun out i nx hi e hn=>?_) (fun out e=>?_)
  · have hi0:i=0:=by simp at hi; omega
    subst hi0
    rcases e with ⟨_,rfl⟩ | ⟨c,_⟩
    · refine idx_at (by simp) (uGood_ok (p:=p) (t:=t) (by omega) w1 w2 (by omega) (br_nb (fun g=>h0) fun g=>?_))
      have hok:tOk p sx t=true:=by
        have:((gOk p&&schOk sx)&&tOk p sx t)=true:=g
        simp only [Bool.and_eq_true] at this; exact this.2
      have hin:=tabF_in g1 hL hok g3
      have ⟨_,hb⟩:=tOk_b hok
      have hpos:0<cellN p sx t:=by
        unfold tOk at hok; simp only [Bool.and_eq_true,decide_eq_true_eq] at hok; exact hok.2.1
      refine jn_ok (fun k=>∀ lv (v w:List Int) sm,v.length≤8→w.length≤8→k lv v w sm) (fun lv v w sm q1 q2=>uTable_ok (p:=p) (t:=t) g1 hL hok g3 ⟨by unfold ln; simp,hn _ (.inr ⟨rfl,_,rfl,⟨q1,q2⟩,?_,?_,?_⟩)⟩) fun k hk=>?_
      · show inT (tabF p sx t l).length 2400 (tabF p sx t l); rw [hin.1]; exact hin
      · show 0<(tabF p sx t l).length; rw [hin.1]; exact hpos
      · show (tabF p sx t l).length≤600; rw [hin.1]; exact hb
      · exact ⟨l1Own_ok (by show t.Vars.length≤_; omega) ⟨l1Own_ok (by show t.Where.length≤_; omega) (hk _ _ _ _ (by show t.Vars.length≤_; omega) (by show t.Where.length≤_; omega)),l1Own_ok (by show t.Where.length≤_; omega) (hk _ _ _ _ (by show t.Vars.length≤_; omega) (by show t.Where.length≤_; omega))⟩,l1Own_ok (by show t.Vars.length≤_; omega) (l1Own_ok (by show t.Where.length≤_; omega) (hk _ _ _ _ (by show t.Vars.length≤_; omega) (by show t.Where.length≤_; omega)))⟩
    · omega
  · rcases e with ⟨c,_⟩ | ⟨_,b,rfl,b1,b2,b3,b4⟩
    · simp at c
    · exact h1 b b1 b2 ⟨b3,b4⟩
theorem published_ok {code:List B8} {p:List Int} {sx:List Variable} {l:List Record} {a s:Int} {Q:List Published→Int→Int→Prop} (hc:bytesOk code) (hg:gdOk p) (hs:sdOk sx) (hl:l.length≤6) (ha:0≤a∧a≤600000000000)
    (h:∀ b a' s',b.length≤3→(∀ x∈b,tdOk x.Table∧x.Cells.length≤701)→0≤a'→a'≤a+300→Q b a' s'):spec_l1Cur_published ⟨code,a,s⟩ ⟨p⟩ sx l Q:=by
  unfold spec_l1Cur_published
  dsimp only
  refine pick_ok hc (by unfold atOk; omega) fun r a1 s1 p0 p1 _ p2 p3=>?_
  refine ⟨fun out k at1 _=>∃ n:Nat,k=(n:Int)∧n≤3∧out.length+n≤3∧(∀ x∈out,pbOk x)∧0≤at1∧at1+80 * (n:Int)≤a1+240,fun _ k _ _=>k.toNat,⟨r.toNat,by omega,by omega,by simp; omega,(fun x hx=>by cases hx),p2,by omega⟩,?_⟩
  rintro out k at1 s2 ⟨n,rfl,hn,hol,hob,g0,g1⟩
  refine br_dec (fun c=>?_) (fun c=>?_)
  · refine jn_ok (fun k=>∀ (o:List Published) a' s',o.length+(n-1)≤3→(∀ x∈o,pbOk x)→0≤a'→a'≤at1+80→k o a' s') (fun o a2 s3 u1 u2 u3 u4=>?_) fun k hk=>?_
    · rw [wr_in (by omega) (by omega)]
      exact ⟨⟨n-1,by omega,by omega,u1,u2,u3,by omega⟩,by show ((n:Int)-1).toNat<(n:Int).toNat; omega⟩
    · refine table_ok hc hg hs (by omega) fun t a2 s3 t1 t2 q0 q1=>publish_ok (t:=t) hg hs hl ⟨t1,t2⟩ (br_true rfl (hk _ _ _ (by omega) hob q0 (by omega))) fun b b1 b2 b3=>br_false rfl ?_
      refine jn_ok (fun k=>∀ lv (v w:List Int) sm (cs:List Int) a' s',pbOk ⟨⟨lv,v,w,sm⟩,cs⟩→0≤a'→a'≤at1+80→k lv v w sm cs a' s') (fun lv v w sm cs a3 s4 q q2 q3=>⟨by unfold ln; simp only [List.length_singleton]; omega,hk _ _ _ (by simp; omega) (mem_snoc hob q) q2 q3⟩) fun k2 hk2=>?_
      refine idx_at (i:=0) (by simp) ?_
      show _∧_
      have one:∀ (K:Prop→Prop),True:=fun _=>trivial
      refine ⟨pick_ok hc (by unfold atOk; omega) fun r a3 s4 v0 v1 _ v2 v3=>⟨hide_ok b1 b2 b3 (by omega) fun x hx=>hk2 _ _ _ _ _ _ _ hx v2 (by omega),hide_ok b1 b2 b3 (by omega) fun x hx=>hk2 _ _ _ _ _ _ _ hx v2 (by omega)⟩,pick_ok hc (by unfold atOk; omega) fun r a3 s4 v0 v1 _ v2 v3=>hide_ok b1 b2 b3 (by omega) fun x hx=>hk2 _ _ _ _ _ _ _ hx v2 (by omega)⟩
  · have fin:∀ (o:List Published) a' s',o.length≤3→(∀ x∈o,tdOk x.Table∧x.Cells.length≤701)→0≤a'→a'≤a+300→Q o a' s':=h
    have hob':∀ x∈out,tdOk x.Table∧x.Cells.length≤701:=fun x hx=>⟨(hob x hx).1,by have:=(hob x hx).2.2; omega⟩
    have setp:∀ (i:Nat) (y:Published),tdOk y.Table∧y.Cells.length≤701→∀ x∈out.set i y,tdOk x.Table∧x.Cells.length≤701:=fun i y hy x hx=>by
      rcases List.mem_or_eq_of_mem_set hx with hx | hx
      · exact hob' x hx
      · rw [hx]; exact hy
    refine jn_ok (fun k=>∀ (o:List Published) a' s',o.length≤3→(∀ x∈o,tdOk x.Table∧x.Cells.length≤701)→0≤a'→a'≤a+300→k o a' s') fin fun k hk=>?_
    refine jn_ok (fun k=>((0<out.length→∀ a' s',0≤a'→a'≤at1+2→k true a' s')∧∀ a' s',0≤a'→a'≤at1+2→k false a' s')) ⟨fun hp a2 s3 q0 q1=>br_true rfl ?_,fun a2 s3 q0 q1=>br_false rfl (hk _ _ _ (by omega) hob' q0 (by omega))⟩ fun k2 hk2=>?_
    · refine pick_ok hc (by unfold atOk; omega) fun r a3 s4 v0 v1 _ v2 v3=>pick_ok hc (by unfold atOk; omega) fun r2 a4 s5 w0 w1 _ w2 w3=>?_
      have hr:r.toNat<out.length:=by unfold ln at v1; omega
      have mem:=hob _ (List.getElem_mem hr)
      refine br_eq (fun _=>?_) (fun _=>br_eq (fun _=>?_) (fun _=>?_))
      · refine idx_of v0 hr ⟨by have:=mem.2.2; unfold ln; simp only [List.length_singleton]; omega,hk _ _ _ (by simp; omega) (setp _ _ ⟨mem.1,by have:=mem.2.2; simp; omega⟩) w2 (by omega)⟩
      · refine idx_of v0 hr (among_ok hc (by unfold atOk; omega) (by simp) fun v hv a5 s6 z0 z1=>⟨by omega,mem.2.1,hk _ _ _ (by simp; omega) (setp _ _ ⟨mem.1,by have:=mem.2.2; simp; omega⟩) z0 (by omega)⟩)
      · exact idx_of v0 hr (hk _ _ _ (by simp; omega) (setp _ _ ⟨mem.1,by have:=mem.2.2; show (out[r.toNat]).Cells.length≤701; omega⟩) w2 (by omega))
    · refine br_dec (fun c2=>one_ok hc (by unfold atOk; omega) fun b a2 s3 q0 q1=>?_) (fun _=>hk2.2 _ _ g0 (by omega))
      cases b with
      | true=>exact hk2.1 (by unfold ln at c2; omega) _ _ q0 q1
      | false=>exact hk2.2 _ _ q0 q1
theorem sCount_any {sx:List Variable} {Q:Int→Prop} (hl:sx.length≤1048576) (h:∀ v,Q v):spec_sCount sx Q:=by
  unfold spec_sCount
  exact loop2_list (by omega) (fun _ _=>True) trivial (fun n i nx hi _ hn=>idx_at hi (hn _ trivial)) (fun n _=>h _)
theorem attack_ok {code:List B8} {a s:Int} {Q:Geo→List Variable→List Published→Int→Int→Int→Prop} (hc:bytesOk code) (ha:0≤a∧a≤500000000000)
    (h:∀ p sx l n a' s',gdOk p→WD p sx l→sdOk sx→0≤a'→a'≤a+700→Q ⟨p⟩ sx l n a' s'):spec_l1Cur_attack ⟨code,a,s⟩ Q:=by
  unfold spec_l1Cur_attack
  dsimp only
  refine attacked_ok hc (by omega) fun p sx l a1 s1 hp hs hl p0 p1=>published_ok hc hp hs hl (by omega) fun b a2 s2 b1 b2 q0 q1=>?_
  have hpl:=gOk_len hp.1
  have w:WD p sx b:=⟨by omega,hs.wide,⟨by omega,fun x hx=>by have ⟨⟨o1,o2⟩,o3⟩:=b2 x hx; exact ⟨⟨by omega,by omega⟩,by omega⟩⟩⟩
  refine jn_ok (fun k=>∀ n a' s',0≤a'→a'≤a+700→k n a' s') (fun n a3 s3 u0 u1=>?_) fun k hk=>?_
  · refine jn_ok (fun k=>∀ n,k n) (fun n=>h _ _ _ _ _ _ hp w hs u0 u1) fun k hk=>?_
    refine jn_ok (fun k=>∀ b,k b) (fun b=>br_bo (fun _=>hk _) (fun _=>hk _)) fun k2 hk2=>?_
    unfold spec_aTypes
    exact gLeaves_ok (p:=p) hp.1 (sCount_any hs.wide.1 fun v=>br_bo (fun _=>br_bo (fun _=>hk2 _) (fun _=>hk2 _)) (fun _=>hk2 _))
  · exact one_ok hc (by unfold atOk; omega) fun b a3 s3 u0 u1=>br_bo (fun _=>among_ok hc (by unfold atOk; omega) (by simp) fun v hv a4 s4 v0 v1=>hk _ _ _ v0 (by omega)) (fun _=>hk _ _ _ u0 (by omega))
end Go.Proofs.YtbgnaamdlcggjaaGreat
