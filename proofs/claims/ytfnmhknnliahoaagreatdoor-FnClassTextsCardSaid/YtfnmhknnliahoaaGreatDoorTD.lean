/- Surveys, tables and sites that are drawn. -/
import Derived.Test.YtfnmhknnliahoaaGreatDoorTCPure
set_option linter.unusedVariables false
set_option autoImplicit false
namespace Go.Proofs.YtfnmhknnliahoaaGreatDoor
open Go Go.RowKit Go.Gv
theorem u64_nn (x:Int):0≤IntKind.u64.wrap x:=by
  simp only [IntKind.wrap,IntKind.bits,IntKind.signed]; simp; omega
/-- What is asked of the bytes, and of the place that has been come to. -/
def bytesOk (code:List B8):Prop:=∀ x∈code,0≤x.v∧x.v≤255
def atOk (a:Int):Prop:=0≤a∧a≤1000000000000
theorem u64_in {x:Int} (h0:0≤x) (h1:x≤18446744073709551615):IntKind.u64.wrap x=x:=IntWalk.u64_in x ⟨h0,h1⟩
theorem bits_255 (x:Int):0≤bits .and .u64 x 255∧bits .and .u64 x 255≤255:=by
  have h:((BitVec.ofInt 64 x) &&& (BitVec.ofInt 64 255)).toNat≤255:=by
    rw [BitVec.toNat_and]; exact Nat.le_trans Nat.and_le_right (by decide)
  have e:bits .and .u64 x 255=IntKind.u64.wrap ((((BitVec.ofInt 64 x) &&& (BitVec.ofInt 64 255)).toNat:Nat):Int):=rfl
  rw [e,u64_in (by omega) (by omega)]; omega
theorem next_ok {code:List B8} {a s:Int} {Q:Int→Int→Int→Prop} (hc:bytesOk code) (ha:0≤a∧a≤2000000000000) (h:∀ r a' s',0≤r→r≤255→0≤a'→a'≤a+1→Q r a' s'):spec_l1Cur_next ⟨code,a,s⟩ Q:=by
  unfold spec_l1Cur_next
  dsimp only
  have key:∀ b:Int,0≤b→b≤255→br (decide ((wr (a+1))≤(ln code))) (Q b (wr (a+1)) (IntKind.u64.wrap ((IntKind.u64.wrap ((IntKind.u64.wrap (s * 6364136223846793005))+(IntKind.u64.wrap b)))+1442695040888963407)))
      (Q (wr (bits .and .u64 (Int.fdiv (IntKind.u64.wrap ((IntKind.u64.wrap ((IntKind.u64.wrap (s * 6364136223846793005))+(IntKind.u64.wrap b)))+1442695040888963407)) (2 ^ 40)) 255)) (wr (a+1)) (IntKind.u64.wrap ((IntKind.u64.wrap ((IntKind.u64.wrap (s * 6364136223846793005))+(IntKind.u64.wrap b)))+1442695040888963407))):=by
    intro b hb0 hb1
    rw [wr_in (x:=a+1) (by omega) (by omega)]
    refine br_dec (fun _=>h _ _ _ hb0 hb1 (by omega) (by omega)) (fun _=>?_)
    have hb:=bits_255 (Int.fdiv (IntKind.u64.wrap ((IntKind.u64.wrap ((IntKind.u64.wrap (s * 6364136223846793005))+(IntKind.u64.wrap b)))+1442695040888963407)) (2 ^ 40))
    rw [wr_in (by omega) (by omega)]
    exact h _ _ _ hb.1 hb.2 (by omega) (by omega)
  by_cases g:a<ln code
  · have hi:a.toNat<code.length:=by unfold ln at g; omega
    have hv:=hc _ (List.getElem_mem hi)
    refine jn_of (br_yes g (idx_of ha.1 hi ?_))
    rw [wr_in (x:=code[a.toNat].v) (by omega) (by omega)]
    exact key _ hv.1 hv.2
  · exact jn_of (br_no g (key 0 (by omega) (by omega)))
theorem pick_ok {code:List B8} {a s n:Int} {Q:Int→Int→Int→Prop} (hc:bytesOk code) (ha:atOk a) (h:∀ r a' s',0≤r→(r<n∨r=0∧n≤1)→r≤65535→0≤a'→a'≤a+2→Q r a' s'):spec_l1Cur_pick ⟨code,a,s⟩ n Q:=by
  unfold spec_l1Cur_pick
  dsimp only
  have ha':=ha
  unfold atOk at ha'
  refine br_dec (fun g=>h _ _ _ (by omega) (by omega) (by omega) (by omega) (by omega)) (fun g=>next_ok hc (by omega) fun r a1 s1 h0 h1 h2 h3=>?_)
  have fin:∀ x a' s':Int,0≤x→x≤65535→0≤a'→a'≤a+2→n≠0∧Q (x.tmod n) a' s':=fun x a' s' x0 x1 y0 y1=>by
    have l:=Int.tmod_lt_of_pos x (show 0<n by omega)
    have p:=Int.tmod_nonneg n x0
    have q:x.tmod n≤x:=by
      rw [Int.tmod_eq_emod_of_nonneg x0]
      have e:=Int.emod_def x n
      have m:=Int.mul_nonneg (show 0≤n by omega) (Int.ediv_nonneg x0 (show 0≤n by omega))
      omega
    exact ⟨by omega,h _ _ _ p (.inl l) (by omega) y0 y1⟩
  by_cases g2:n>200
  · refine jn_of (br_yes g2 (next_ok hc (by omega) fun r2 a2 s2 k0 k1 k2 k3=>?_))
    show n≠0∧_
    rw [wr_in (x:=r * 256) (by omega) (by omega),wr_in (by omega) (by omega)]
    exact fin _ _ _ (by omega) (by omega) k2 (by omega)
  · exact jn_of (br_no g2 (fin _ _ _ h0 (by omega) h2 (by omega)))
theorem among_ok {code:List B8} {a s:Int} {l:List Int} {Q:Int→Int→Int→Prop} (hc:bytesOk code) (ha:atOk a) (hl:0<l.length) (h:∀ r∈l,∀ a' s',0≤a'→a'≤a+2→Q r a' s'):spec_l1Cur_among ⟨code,a,s⟩ l Q:=by
  unfold spec_l1Cur_among
  dsimp only
  refine pick_ok hc ha fun r a1 s1 h0 h1 _ h2 h3=>?_
  have hi:r.toNat<l.length:=by unfold ln at h1; omega
  exact idx_of h0 hi (h _ (List.getElem_mem hi) _ _ h2 h3)
theorem of_ok {code:List B8} {a s:Int} {l:List ByteArray} {p:ByteArray→Prop} {Q:ByteArray→Int→Int→Prop} (hc:bytesOk code) (ha:atOk a) (hl:0<l.length) (hp:∀ r∈l,p r) (h:∀ r,p r→∀ a' s',0≤a'→a'≤a+2→Q r a' s'):spec_l1Cur_of ⟨code,a,s⟩ l Q:=by
  unfold spec_l1Cur_of
  dsimp only
  refine pick_ok hc ha fun r a1 s1 h0 h1 _ h2 h3=>?_
  have hi:r.toNat<l.length:=by unfold ln at h1; omega
  exact idx_of h0 hi (h _ (hp _ (List.getElem_mem hi)) _ _ h2 h3)
theorem one_ok {code:List B8} {a s n:Int} {Q:Bool→Int→Int→Prop} (hc:bytesOk code) (ha:atOk a) (h:∀ b a' s',0≤a'→a'≤a+2→Q b a' s'):spec_l1Cur_one ⟨code,a,s⟩ n Q:=by
  unfold spec_l1Cur_one
  dsimp only
  exact pick_ok hc ha fun r a1 s1 h0 h1 _ h2 h3=>h _ _ _ h2 h3
def sdOk (sx:List Variable):Prop:=sx.length≤7∧∀ x∈sx,x.Name.size≤100
theorem sdOk.wide {sx:List Variable} (h:sdOk sx):sx.length≤1048576∧∀ x∈sx,x.Name.size≤1048576:=⟨by have:=h.1; omega,fun x hx=>by have:=h.2 x hx; omega⟩
theorem idx_all {α:Type} {xs:List α} {i:Int} {K:α→Prop} (p:α→Prop) (hp:∀ x∈xs,p x) (h0:0≤i) (h:i.toNat<xs.length) (k:∀ x,p x→K x):idx xs i K:=idx_of h0 h (k _ (hp _ (List.getElem_mem h)))
theorem schema_ok {code:List B8} {a s:Int} {Q:List Variable→Int→Int→Prop} (hc:bytesOk code) (ha:0≤a∧a≤900000000000) (h:∀ sx a' s',sdOk sx→1≤sx.length→0≤a'→a'≤a+20→Q sx a' s'):spec_l1Cur_schema ⟨code,a,s⟩ Q:=by
  unfold spec_l1Cur_schema
  dsimp only
  refine ⟨fun out k at1 _=>∃ n:Nat,k=(n:Int)∧n≤3∧out.length=n∧(∀ x∈out,x.Name.size≤100)∧0≤at1∧at1≤a+4 * (n:Int),fun _ k _ _=>(3-k).toNat,⟨0,rfl,by omega,rfl,by simp,ha.1,by omega⟩,?_⟩
  rintro out k at1 s1 ⟨n,rfl,hn,hlo,hs,h0,h1⟩
  refine pick_ok hc (by unfold atOk; omega) fun r a1 s2 g0 g1 _ g2 g3=>?_
  rw [wr_in (by omega) (by omega)]
  refine br_dec (fun g=>?_) (fun g=>h _ _ _ ⟨by omega,hs⟩ (by omega) g2 (by omega))
  refine idx_all (fun y=>y.size≤100) (by decide) (by omega) (by simp; omega) fun y hy=>?_
  refine pick_ok hc (by unfold atOk; omega) fun r2 a2 s3 k0 k1 _ k2 k3=>?_
  refine ⟨by unfold ln; simp only [List.length_singleton]; omega,?_⟩
  rw [wr_in (x:=(n:Int)+1) (by omega) (by omega)]
  refine ⟨⟨n+1,by omega,by omega,by simp; omega,fun x hx=>?_,k2,by omega⟩,by dsimp only; omega⟩
  rcases List.mem_append.1 hx with hx | hx
  · exact hs x hx
  · rw [List.mem_singleton.1 hx]; exact hy
theorem sdOk.set {sx:List Variable} (h:sdOk sx) {i:Nat} {x:Variable} (hx:x.Name.size≤100):sdOk (sx.set i x) :=
  ⟨by rw [List.length_set]; exact h.1,fun y hy=>by
    rcases List.mem_or_eq_of_mem_set hy with hy | rfl
    · exact h.2 y hy
    · exact hx⟩
theorem anySchema_ok {code:List B8} {a s:Int} {Q:List Variable→Int→Int→Prop} (hc:bytesOk code) (ha:0≤a∧a≤800000000000) (h:∀ sx a' s',sdOk sx→0≤a'→a'≤a+60→Q sx a' s'):spec_l1Cur_anySchema ⟨code,a,s⟩ Q:=by
  unfold spec_l1Cur_anySchema
  dsimp only
  refine schema_ok hc (by omega) fun sx a1 s1 hs h1 g0 g1=>?_
  refine jn_of (pick_ok hc (by unfold atOk; omega) fun r a2 s2 k0 k1 _ k2 k3=>?_)
  refine br_eq (fun _=>?_) (fun _=>br_eq (fun _=>?_) (fun _=>br_eq (fun _=>h _ _ _ ⟨by simp,fun x hx=>by simp at hx⟩ k2 (by omega)) (fun _=>br_eq (fun _=>?_) (fun _=>h _ _ _ hs k2 (by omega)))))
  · refine among_ok hc (by unfold atOk; omega) (by simp) fun v hv a3 s3 q0 q1=>?_
    exact idx_all (fun y:Variable=>y.Name.size≤100) hs.2 (by omega) (by show 0<sx.length; omega) fun y hy=>h _ _ _ (hs.set hy) q0 (by omega)
  · refine of_ok (p:=fun y=>y.size≤100) hc (by unfold atOk; omega) (by simp) (by decide) fun v hv a3 s3 q0 q1=>?_
    exact idx_all (fun y:Variable=>y.Name.size≤100) hs.2 (by omega) (by show 0<sx.length; omega) fun y hy=>h _ _ _ (hs.set hv) q0 (by omega)
  · refine ⟨fun t at1 _=>sdOk t∧0≤at1∧at1≤a2+2 * (t.length:Int),fun t _ _=>8-t.length,⟨hs,k2,by omega⟩,?_⟩
    rintro t at1 s3 ⟨ht,q0,q1⟩
    have htl:=ht.1
    refine pick_ok hc (by unfold atOk; omega) fun r2 a3 s4 p0 p1 _ p2 p3=>?_
    rw [wr_in (x:=6+r2) (by omega) (by omega)]
    refine br_dec (fun g=>?_) (fun g=>h _ _ _ ht p2 (by omega))
    have hb:∀ y:B8,(b2s [y]).size=1:=fun y=>rfl
    unfold ln at g
    refine ⟨by unfold sln; rw [hb]; decide,by unfold ln; simp only [List.length_singleton]; omega,⟨⟨by simp; omega,fun x hx=>?_⟩,p2,by simp only [List.length_append,List.length_singleton]; omega⟩,by simp only [List.length_append,List.length_singleton]; omega⟩
    rcases List.mem_append.1 hx with hx | hx
    · exact ht.2 x hx
    · rw [List.mem_singleton.1 hx]
      dsimp only
      rw [ByteArray.size_append,hb]; decide
theorem values_ok {code:List B8} {sx:List Variable} {a s:Int} {Q:List Int→Int→Int→Prop} (hc:bytesOk code) (hl:sx.length≤7) (ha:0≤a∧a≤900000000000) (h:∀ l a' s',l.length=sx.length→0≤a'→a'≤a+14→Q l a' s'):spec_l1Cur_values ⟨code,a,s⟩ sx Q:=by
  unfold spec_l1Cur_values
  dsimp only
  refine ⟨fun o x at1 _=>∃ n:Nat,x=(n:Int)∧n≤sx.length∧o.length=n∧0≤at1∧at1≤a+2 * (n:Int),fun _ x _ _=>((sx.length:Int)-x).toNat,⟨0,rfl,Nat.zero_le _,rfl,ha.1,by omega⟩,?_⟩
  rintro o _ at1 s1 ⟨n,rfl,hn,hlo,h0,h1⟩
  refine br_dec (fun g=>?_) (fun g=>h _ _ _ (by unfold ln at g; omega) h0 (by omega))
  unfold ln at g
  refine idx_at (by omega) (pick_ok hc (by unfold atOk; omega) fun r a1 s2 _ _ _ k2 k3=>⟨by unfold ln; simp only [List.length_singleton]; omega,?_⟩)
  rw [wr_in (by omega) (by omega)]
  exact ⟨⟨n+1,by omega,by omega,by simp; omega,k2,by omega⟩,by dsimp only; omega⟩
theorem mem_snoc {α:Type} {p:α→Prop} {l:List α} {x:α} (h:∀ y∈l,p y) (hx:p x):∀ y∈l++[x],p y:=fun y hy=>by
  rcases List.mem_append.1 hy with hy | hy
  · exact h y hy
  · rw [List.mem_singleton.1 hy]; exact hx
theorem record_ok {code:List B8} {sx:List Variable} {a s:Int} {areas:List Int} {Q:Record→Int→Int→Prop} (hc:bytesOk code) (hl:sx.length≤7) (hA:0<areas.length) (ha:0≤a∧a≤800000000000) (h:∀ r a' s',r.Values.length≤8→0≤a'→a'≤a+20→Q r a' s'):spec_l1Cur_record ⟨code,a,s⟩ sx areas Q:=by
  unfold spec_l1Cur_record
  dsimp only
  refine among_ok hc (by unfold atOk; omega) hA fun v hv a1 s1 h0 h1=>pick_ok hc (by unfold atOk; omega) fun r a2 s2 _ _ _ q0 q1=>values_ok hc hl (by omega) fun vs a3 s3 hv3 p0 p1=>h _ _ _ (by show vs.length≤8; omega) p0 (by omega)
theorem lvs_pos {p:List Int} (h:gOk p=true):0<(lvs p).length:=by
  unfold gOk at h
  simp only [Bool.and_eq_true,decide_eq_true_eq] at h
  obtain ⟨⟨⟨h1,h2⟩,h3⟩,h4⟩:=h
  have h4:=List.all_eq_true.1 h4
  have hb:hasB p ((p.length-1:Nat):Int)=false:=by
    unfold hasB
    rw [List.any_eq_false]
    intro x hx he
    have he:x=((p.length-1:Nat):Int):=by simpa using he
    obtain ⟨j,hj,rfl⟩:=List.mem_iff_getElem.1 hx
    have hg:gi p j=p[j]:=by unfold gi; simp [hj]
    have:=h4 j (List.mem_range.2 hj)
    by_cases e:j=0
    · subst e; rw [hg] at h3; omega
    · simp only [e,decide_false,Bool.false_or] at this
      have:=inb_iff'.1 this
      rw [hg] at this; omega
  unfold lvs pick
  rw [List.length_map]
  refine List.length_pos_of_mem (a:=p.length-1) (List.mem_filter.2 ⟨List.mem_range.2 (by omega),by simpa using hb⟩)
theorem where_ok {code:List B8} {sx:List Variable} {a s:Int} {Q:List Int→Int→Int→Prop} (hc:bytesOk code) (hs:sdOk sx) (ha:0≤a∧a≤700000000000) (h:∀ w a' s',w.length=sx.length→0≤a'→a'≤a+40→Q w a' s'):spec_l1Cur_where ⟨code,a,s⟩ sx Q:=by
  unfold spec_l1Cur_where
  dsimp only
  have h7:=hs.1
  refine ⟨fun o x at1 _=>∃ n:Nat,x=(n:Int)∧n≤sx.length∧o.length=n∧0≤at1∧at1≤a+4 * (n:Int),fun _ x _ _=>((sx.length:Int)-x).toNat,⟨0,rfl,Nat.zero_le _,rfl,ha.1,by omega⟩,?_⟩
  rintro o _ at1 s1 ⟨n,rfl,hn,hlo,h0,h1⟩
  refine br_dec (fun g=>?_) (fun g=>h _ _ _ (by unfold ln at g; omega) h0 (by omega))
  unfold ln at g
  refine idx_at (by omega) (jn_ok (fun k=>∀ v a' s',0≤a'→a'≤at1+4→k v a' s') (fun v a2 s2 p0 p1=>⟨by unfold ln; simp only [List.length_singleton]; omega,?_⟩) fun k hk=>?_)
  · rw [wr_in (by omega) (by omega)]
    exact ⟨⟨n+1,by omega,by omega,by simp; omega,p0,by omega⟩,by show ((sx.length:Int)-((n:Int)+1)).toNat<((sx.length:Int)-(n:Int)).toNat; omega⟩
  · refine one_ok hc (by unfold atOk; omega) fun b a2 s2 p0 p1=>br_bo (fun _=>⟨?_,pick_ok hc (by unfold atOk; omega) fun r a3 s3 _ _ _ q0 q1=>hk _ _ _ q0 (by omega)⟩) (fun _=>hk _ _ _ p0 (by omega))
    exact u64_nn _
def tdOk (t:Table):Prop:=t.Vars.length≤8∧t.Where.length≤8
theorem gLevel_or {p:List Int} {l:Int} {Q:List Int→Prop} (h:gOk p=true) (hq:∀ o,Q o):spec_gLevel ⟨p⟩ l Q:=gLevel_ok h (hq _)
theorem table_ok {code:List B8} {p:List Int} {sx:List Variable} {a s:Int} {Q:Table→Int→Int→Prop} (hc:bytesOk code) (hp:p.length≤100) (hs:sdOk sx) (ha:0≤a∧a≤700000000000)
    (h:∀ t a' s',t.Vars.length≤7→t.Where.length≤7→0≤a'→a'≤a+70→Q t a' s'):spec_l1Cur_table ⟨code,a,s⟩ ⟨p⟩ sx Q:=by
  unfold spec_l1Cur_table
  dsimp only
  have h7:=hs.1
  refine where_ok hc hs (by omega) fun w a1 s1 hw p0 p1=>?_
  refine ⟨fun x at1 _ vars=>∃ n:Nat,x=(n:Int)∧n≤sx.length∧vars.length≤n∧0≤at1∧at1≤a1+2 * (n:Int),fun x _ _ _=>((sx.length:Int)-x).toNat,⟨0,rfl,Nat.zero_le _,Nat.le_refl _,p0,by omega⟩,?_⟩
  rintro _ at1 s2 vars ⟨n,rfl,hn,hv,h0,h1⟩
  refine br_dec (fun g=>?_) (fun g=>?_)
  · unfold ln at g
    refine jn_ok (fun k=>∀ a' s' v,0≤a'→a'≤at1+2→v.length≤n+1→k a' s' v) (fun a2 s3 v q0 q1 q2=>?_) fun k hk=>one_ok hc (by unfold atOk; omega) fun b a2 s3 q0 q1=>br_bo (fun _=>⟨by unfold ln; simp only [List.length_singleton]; omega,hk _ _ _ q0 q1 (by simp; omega)⟩) (fun _=>hk _ _ _ q0 q1 (by omega))
    rw [wr_in (by omega) (by omega)]
    exact ⟨⟨n+1,by omega,by omega,q2,q0,by omega⟩,by show ((sx.length:Int)-((n:Int)+1)).toNat<((sx.length:Int)-(n:Int)).toNat; omega⟩
  · refine jn_ok (fun k=>∀ a' s' l,0≤a'→a'≤at1+2→k a' s' l) (fun a2 s3 lvl q0 q1=>?_) fun k hk=>?_
    · refine jn_ok (fun k=>∀ a' s' l,0≤a'→a'≤at1+8→k a' s' l) (fun a3 s4 sm u0 u1=>h _ _ _ (by show vars.length≤7; omega) (by show w.length≤7; omega) u0 (by omega)) fun k hk=>?_
      refine jn_ok (fun k=>∀ b a' s',0≤a'→a'≤at1+6→k b a' s') (fun b a3 s4 u0 u1=>br_bo (fun _=>pick_ok hc (by unfold atOk; omega) fun r a4 s5 _ _ _ v0 v1=>hk _ _ _ v0 (by omega)) (fun _=>hk _ _ _ u0 (by omega))) fun k2 hk2=>?_
      exact one_ok hc (by unfold atOk; omega) fun b a3 s4 u0 u1=>br_bo (fun _=>hk2 _ _ _ u0 (by omega)) (fun _=>hk2 _ _ _ u0 (by omega))
    · refine gGood_ok (p:=p) (by omega) (br_bo (fun hg=>(pick_ok hc (by unfold atOk; omega) fun r a2 s3 _ _ _ q0 q1=>gLevel_or (p:=p) hg fun o=>br_bo (fun _=>hk _ _ _ q0 q1) (fun _=>hk _ _ _ q0 q1))) (fun _=>hk _ _ _ h0 (by omega)))
theorem anyTable_ok {code:List B8} {p:List Int} {sx:List Variable} {a s:Int} {Q:Table→Int→Int→Prop} (hc:bytesOk code) (hp:p.length≤100) (hs:sdOk sx) (ha:0≤a∧a≤600000000000)
    (h:∀ t a' s',tdOk t→0≤a'→a'≤a+80→Q t a' s'):spec_l1Cur_anyTable ⟨code,a,s⟩ ⟨p⟩ sx Q:=by
  unfold spec_l1Cur_anyTable
  dsimp only
  refine table_ok hc hp hs (by omega) fun t a1 s1 h1 h2 p0 p1=>?_
  refine jn_ok (fun k=>∀ a' s' lv (v w:List Int) sm,v.length≤8→w.length≤8→0≤a'→a'≤a+80→k a' s' lv v w sm) (fun a2 s2 lv v w sm g1 g2 g3 g4=>h _ _ _ ⟨g1,g2⟩ g3 g4) fun k hk=>?_
  refine pick_ok hc (by unfold atOk; omega) fun r a2 s2 _ _ _ q0 q1=>?_
  refine br_eq (fun _=>?_) (fun _=>br_eq (fun _=>?_) (fun _=>br_eq (fun _=>?_) (fun _=>br_eq (fun _=>?_) (fun _=>br_eq (fun _=>br_dec (fun c=>?_) (fun c=>?_)) (fun _=>?_)))))
  · exact among_ok hc (by unfold atOk; omega) (by simp) fun v hv a3 s3 u0 u1=>hk _ _ _ _ _ _ (by omega) (by omega) u0 (by omega)
  · exact among_ok hc (by unfold atOk; omega) (by simp) fun v hv a3 s3 u0 u1=>⟨by unfold ln; simp only [List.length_singleton]; omega,hk _ _ _ _ _ _ (by simp; omega) (by omega) u0 (by omega)⟩
  · exact ⟨by unfold ln; simp only [List.length_singleton]; omega,hk _ _ _ _ _ _ (by omega) (by simp; omega) q0 (by omega)⟩
  · exact among_ok hc (by unfold atOk; omega) (by simp) fun v hv a3 s3 u0 u1=>hk _ _ _ _ _ _ (by omega) (by omega) u0 (by omega)
  · exact among_ok hc (by unfold atOk; omega) (by simp) fun v hv a3 s3 u0 u1=>⟨by omega,by unfold ln at c; show 0<_; omega,hk _ _ _ _ _ _ (by omega) (by simp; omega) u0 (by omega)⟩
  · exact hk _ _ _ _ _ _ (by omega) (by omega) q0 (by omega)
  · exact hk _ _ _ _ _ _ (by omega) (by omega) q0 (by omega)
theorem jn_ok3 {A B C:Type} {f:(A→B→C→Prop)→Prop} {k:A→B→C→Prop} (P:A→B→C→Prop) (h:∀ a b c,P a b c→k a b c) (hf:∀ k':A→B→C→Prop,(∀ a b c,P a b c→k' a b c)→f k'):jn f k:=hf k h
theorem geos_ok:∀ x∈([[(-1),0,0],[(-1),0,0,1,1,2,2],[(-1),0,0,0,1,1,2,3],[(-1),0,0,1,1],[(-1)],[(-1),0,1,2]]:List (List Int)),gOk x=true∧x.length≤8:=by
  intro x hx
  simp only [List.mem_cons,List.not_mem_nil,or_false] at hx
  rcases hx with rfl | rfl | rfl | rfl | rfl | rfl <;> exact ⟨by decide +kernel,by decide⟩
theorem gi_app {p:List Int} {r:Int} {i:Nat} (h:i<p.length):gi (p++[r]) i=gi p i:=by unfold gi; rw [List.getD_eq_getElem?_getD,List.getD_eq_getElem?_getD,List.getElem?_append_left h]
theorem gOk_snoc {p:List Int} {r:Int} (h:gOk p=true) (hl:p.length<30) (h0:0≤r) (h1:r<(p.length:Int)):gOk (p++[r])=true:=by
  unfold gOk at h ⊢
  simp only [Bool.and_eq_true,decide_eq_true_eq,List.length_append,List.length_singleton] at h ⊢
  obtain ⟨⟨⟨a,b⟩,c⟩,d⟩:=h
  refine ⟨⟨⟨by omega,by omega⟩,by rw [gi_app (by omega)]; exact c⟩,?_⟩
  rw [List.range_succ,List.all_append,Bool.and_eq_true]
  refine ⟨List.all_eq_true.2 fun j hj=>?_,?_⟩
  · have hj':=List.mem_range.1 hj
    have:=List.all_eq_true.1 d j hj
    rw [gi_app hj']; exact this
  · have e:gi (p++[r]) p.length=r:=by unfold gi; simp
    simp only [List.all_cons,List.all_nil,Bool.and_true,e]
    rw [show decide (p.length=0)=false from decide_eq_false (by omega),Bool.false_or]
    exact inb_iff'.2 (by omega)
theorem l1Own_ok {l:List Int} {Q:List Int→Prop} (hl:l.length≤1048576) (hq:Q l):spec_l1Own l Q:=⟨by unfold ln; simp; omega,by simpa using hq⟩
theorem geo_ok {code:List B8} {a s:Int} {Q:Geo→Int→Int→Prop} (hc:bytesOk code) (ha:0≤a∧a≤900000000000) (h:∀ p a' s',gOk p=true→p.length≤11→0≤a'→a'≤a+20→Q ⟨p⟩ a' s'):spec_l1Cur_geo ⟨code,a,s⟩ Q:=by
  unfold spec_l1Cur_geo
  dsimp only
  refine pick_ok hc (by unfold atOk; omega) fun r a1 s1 p0 p1 _ p2 p3=>idx_all (fun x=>gOk x=true∧x.length≤8) geos_ok p0 (by simp; unfold ln at p1; simp at p1; omega) fun p hp=>l1Own_ok (by omega) ?_
  refine pick_ok hc (by unfold atOk; omega) fun r2 a2 s2 q0 q1 _ q2 q3=>?_
  refine ⟨fun k at1 _ o=>∃ n:Nat,k=(n:Int)∧n≤3∧gOk o=true∧o.length+n≤11∧0≤at1∧at1+2 * (n:Int)≤a2+6,fun k _ _ _=>k.toNat,⟨r2.toNat,by omega,by omega,hp.1,by omega,q2,by omega⟩,?_⟩
  rintro k at1 s3 o ⟨n,rfl,hn,ho,hl,g0,g1⟩
  refine br_dec (fun c=>?_) (fun c=>h _ _ _ ho (by omega) g0 (by omega))
  refine pick_ok hc (by unfold atOk; omega) fun r3 a3 s4 u0 u1 _ u2 u3=>⟨by unfold ln; simp only [List.length_singleton]; omega,?_⟩
  have hpos:0<o.length:=by
    have:=ho; unfold gOk at this; simp only [Bool.and_eq_true,decide_eq_true_eq] at this; omega
  rw [wr_in (by omega) (by omega)]
  exact ⟨⟨n-1,by omega,by omega,gOk_snoc ho (by omega) u0 (by unfold ln at u1; omega),by simp; omega,u2,by omega⟩,by show ((n:Int)-1).toNat<(n:Int).toNat; omega⟩
theorem anyGeo_ok {code:List B8} {a s:Int} {Q:Geo→Int→Int→Prop} (hc:bytesOk code) (ha:0≤a∧a≤900000000000) (h:∀ p a' s',p.length≤40→0≤a'→a'≤a+30→Q ⟨p⟩ a' s'):spec_l1Cur_anyGeo ⟨code,a,s⟩ Q:=by
  unfold spec_l1Cur_anyGeo
  dsimp only
  refine geo_ok hc (by omega) fun p a1 s1 hp hl p0 p1=>?_
  have hpos:0<p.length:=by
    have:=hp; unfold gOk at this; simp only [Bool.and_eq_true,decide_eq_true_eq] at this; omega
  dsimp only
  refine jn_ok3 (fun a' s' (o:List Int)=>o.length≤40∧0≤a'∧a'≤a+30) (fun a' s' o ⟨h1,h2,h3⟩=>h _ _ _ h1 h2 h3) fun k hk=>?_
  refine pick_ok hc (by unfold atOk; omega) fun r a2 s2 q0 q1 _ q2 q3=>?_
  refine br_eq (fun _=>?_) (fun _=>br_eq (fun _=>?_) (fun _=>br_eq (fun _=>h _ _ _ (by simp) q2 (by omega)) (fun _=>br_eq (fun _=>?_) (fun _=>hk _ _ _ ⟨by omega,q2,by omega⟩))))
  · exact ⟨by omega,by show 0<p.length; omega,hk _ _ _ ⟨by simp; omega,q2,by omega⟩⟩
  · exact among_ok hc (by unfold atOk; omega) (by simp) fun v hv a3 s3 u0 u1=>⟨by unfold ln; simp only [List.length_singleton]; omega,hk _ _ _ ⟨by simp; omega,u0,by omega⟩⟩
  · refine pick_ok hc (by unfold atOk; omega) fun r2 a3 s3 u0 u1 _ u2 u3=>?_
    have e1:wr (30-ln p)=30-ln p:=wr_in (by unfold ln; omega) (by unfold ln; omega)
    rw [e1,wr_in (by unfold ln; omega) (by unfold ln; omega)]
    exact ⟨by unfold ln; omega,by unfold ln; omega,hk _ _ _ ⟨by rw [List.length_append,List.length_replicate]; unfold ln; omega,u2,by omega⟩⟩
def rvOk (l:List Record):Prop:=l.length≤40∧∀ r∈l,r.Values.length≤8
theorem rOwn_ok {r:Record} {Q:Record→Prop} (h:r.Values.length≤8) (hq:Q ⟨r.Area,r.House,r.Values⟩):spec_rOwn r Q:=by
  unfold spec_rOwn
  exact l1Own_ok (by omega) hq
theorem dataD_ok {code:List B8} {sx:List Variable} {areas:List Int} {a s:Int} {Q:List Record→Int→Int→Prop} (hc:bytesOk code) (hl:sx.length≤7) (hA:0<areas.length) (ha:0≤a∧a≤700000000000)
    (h:∀ l a' s',l.length≤24→(∀ r∈l,r.Values.length≤8)→0≤a'→a'≤a+300→Q l a' s'):spec_l1Cur_data ⟨code,a,s⟩ sx areas Q:=by
  unfold spec_l1Cur_data
  dsimp only
  refine pick_ok hc (by unfold atOk; omega) fun r a1 s1 p0 p1 _ p2 p3=>?_
  refine ⟨fun l k at1 _=>∃ n:Nat,k=(n:Int)∧n≤12∧l.length+2 * n≤24∧(∀ r∈l,r.Values.length≤8)∧0≤at1∧at1+22 * (n:Int)≤a1+264,fun _ k _ _=>k.toNat,⟨r.toNat,by omega,by omega,by simp; omega,(fun x hx=>by cases hx),p2,by omega⟩,?_⟩
  rintro l k at1 s2 ⟨n,rfl,hn,hll,hlb,g0,g1⟩
  refine br_dec (fun c=>?_) (fun c=>h _ _ _ (by omega) hlb g0 (by omega))
  refine jn_ok3 (fun (o:List Record) a' s'=>o.length≤l.length+2∧(∀ r∈o,r.Values.length≤8)∧0≤a'∧a'≤at1+22) (fun o a' s' ⟨h1,h2,h3,h4⟩=>?_) fun k2 hk2=>?_
  · rw [wr_in (by omega) (by omega)]
    exact ⟨⟨n-1,by omega,by omega,by omega,h2,h3,by omega⟩,by show ((n:Int)-1).toNat<(n:Int).toNat; omega⟩
  · refine record_ok hc hl hA (by omega) fun rc a2 s3 r1 u0 u1=>⟨by unfold ln; simp only [List.length_singleton]; omega,one_ok hc (by unfold atOk; omega) fun b a3 s4 v0 v1=>br_bo (fun _=>rOwn_ok (r:=⟨rc.Area,rc.House,rc.Values⟩) r1 ⟨by unfold ln; simp; omega,hk2 _ _ _ ⟨by simp,mem_snoc (mem_snoc hlb r1) r1,v0,by omega⟩⟩) (fun _=>hk2 _ _ _ ⟨by simp,mem_snoc hlb r1,v0,by omega⟩)⟩
theorem survey_ok {code:List B8} {a s:Int} {Q:Geo→List Variable→List Record→Int→Int→Prop} (hc:bytesOk code) (ha:0≤a∧a≤600000000000)
    (h:∀ p sx l a' s',gOk p=true→p.length≤11→sdOk sx→l.length≤24→(∀ r∈l,r.Values.length≤8)→0≤a'→a'≤a+400→Q ⟨p⟩ sx l a' s'):spec_l1Cur_survey ⟨code,a,s⟩ Q:=by
  unfold spec_l1Cur_survey
  dsimp only
  exact geo_ok hc (by omega) fun p a1 s1 hp hl p0 p1=>schema_ok hc (by omega) fun sx a2 s2 hs _ q0 q1=>gLeaves_ok (p:=p) hp (dataD_ok hc hs.1 (lvs_pos hp) (by omega) fun l a3 s3 l1 l2 u0 u1=>h _ _ _ _ _ hp hl hs l1 l2 u0 (by omega))
theorem anySurvey_ok {code:List B8} {a s:Int} {Q:Geo→List Variable→List Record→Int→Int→Prop} (hc:bytesOk code) (ha:0≤a∧a≤500000000000)
    (h:∀ p sx l a' s',p.length≤40→sdOk sx→rvOk l→0≤a'→a'≤a+500→Q ⟨p⟩ sx l a' s'):spec_l1Cur_anySurvey ⟨code,a,s⟩ Q:=by
  unfold spec_l1Cur_anySurvey
  dsimp only
  refine survey_ok hc (by omega) fun p sx l a1 s1 hp hl hs l1 l2 p0 p1=>?_
  dsimp only
  refine jn_ok3 (fun (o:List Record) a' s'=>rvOk o∧0≤a'∧a'≤a+500) (fun o a' s' ⟨h1,h2,h3⟩=>h p _ _ _ _ (by omega) hs h1 h2 h3) fun k hk=>?_
  refine pick_ok hc (by unfold atOk; omega) fun r a2 s2 q0 q1 _ q2 q3=>?_
  refine br_eq (fun _=>?_) (fun _=>br_eq (fun _=>?_) (fun _=>br_eq (fun _=>?_) (fun _=>hk _ _ _ ⟨⟨by omega,l2⟩,q2,by omega⟩)))
  · exact anyGeo_ok hc (by omega) fun p2 a3 s3 h1 u0 u1=>h _ _ _ _ _ h1 hs ⟨by omega,l2⟩ u0 (by omega)
  · exact anySchema_ok hc (by omega) fun sx2 a3 s3 h1 u0 u1=>h p _ _ _ _ (by omega) h1 ⟨by omega,l2⟩ u0 (by omega)
  · exact among_ok hc (by unfold atOk; omega) (by simp) fun v hv a3 s3 u0 u1=>values_ok hc hs.1 (by omega) fun vs a4 s4 hv4 v0 v1=>⟨by unfold ln; simp only [List.length_singleton]; omega,hk _ _ _ ⟨⟨by simp; omega,mem_snoc l2 (by show vs.length≤8; have:=hs.1; omega)⟩,v0,by omega⟩⟩
end Go.Proofs.YtfnmhknnliahoaaGreatDoor
