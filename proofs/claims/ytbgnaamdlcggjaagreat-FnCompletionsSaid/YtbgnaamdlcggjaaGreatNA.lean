/- Plain facts about what is drawn from bytes: numbers, schemas, edits. -/
import Derived.Test.YtbgnaamdlcggjaaGreatPG
set_option linter.unusedVariables false
set_option autoImplicit false
namespace Go.Proofs.YtbgnaamdlcggjaaGreat
open Go Go.RowKit Go.Gv
/-- What is asked of the bytes, and of the place that has been come to. -/
def bytesOk (code:List B8):Prop:=∀ x∈code,0≤x.v∧x.v≤255
def atOk (a:Int):Prop:=0≤a∧a≤1000000000000
theorem u64_in {x:Int} (h0:0≤x) (h1:x≤18446744073709551615):IntKind.u64.wrap x=x:=IntWalk.u64_in x ⟨h0,h1⟩
theorem bits_255 (x:Int):0≤bits .and .u64 x 255∧bits .and .u64 x 255≤255:=by
  have h:((BitVec.ofInt 64 x) &&& (BitVec.ofInt 64 255)).toNat≤255:=by
    rw [BitVec.toNat_and]; exact Nat.le_trans Nat.and_le_right (by decide)
  have e:bits .and .u64 x 255=IntKind.u64.wrap ((((BitVec.ofInt 64 x) &&& (BitVec.ofInt 64 255)).toNat:Nat):Int):=rfl
  rw [e,u64_in (by omega) (by omega)]; omega
theorem next_ok {code:List B8} {a s:Int} {Q:Int→Int→Int→Prop} (hc:bytesOk code) (ha:0≤a∧a≤2000000000000) (h:∀ r a' s',0≤r→r≤255→0≤a'→a'≤a+1→Q r a' s'):spec_l1Cur_next ⟨code,a,s⟩ Q:=by
  unfold spec_l1Cur_next
  dsimp only
  have key:∀ b:Int,0≤b→b≤255→br (decide ((wr (a+1))≤(ln code))) (Q b (wr (a+1)) (IntKind.u64.wrap ((IntKind.u64.wrap ((IntKind.u64.wrap (s * 6364136223846793005))+(IntKind.u64.wrap b)))+1442695040888963407)))
      (Q (wr (bits .and .u64 (Int.fdiv (IntKind.u64.wrap ((IntKind.u64.wrap ((IntKind.u64.wrap (s * 6364136223846793005))+(IntKind.u64.wrap b)))+1442695040888963407)) (2 ^ 40)) 255)) (wr (a+1)) (IntKind.u64.wrap ((IntKind.u64.wrap ((IntKind.u64.wrap (s * 6364136223846793005))+(IntKind.u64.wrap b)))+1442695040888963407))):=by
    intro b hb0 hb1
    rw [wr_in (x:=a+1) (by omega) (by omega)]
    refine br_dec (fun _=>h _ _ _ hb0 hb1 (by omega) (by omega)) (fun _=>?_)
    have hb:=bits_255 (Int.fdiv (IntKind.u64.wrap ((IntKind.u64.wrap ((IntKind.u64.wrap (s * 6364136223846793005))+(IntKind.u64.wrap b)))+1442695040888963407)) (2 ^ 40))
    rw [wr_in (by omega) (by omega)]
    exact h _ _ _ hb.1 hb.2 (by omega) (by omega)
  by_cases g:a<ln code
  · have hi:a.toNat<code.length:=by unfold ln at g; omega
    have hv:=hc _ (List.getElem_mem hi)
    refine jn_of (br_yes g (idx_of ha.1 hi ?_))
    rw [wr_in (x:=code[a.toNat].v) (by omega) (by omega)]
    exact key _ hv.1 hv.2
  · exact jn_of (br_no g (key 0 (by omega) (by omega)))
theorem pick_ok {code:List B8} {a s n:Int} {Q:Int→Int→Int→Prop} (hc:bytesOk code) (ha:atOk a) (h:∀ r a' s',0≤r→(r<n∨r=0∧n≤1)→r≤65535→0≤a'→a'≤a+2→Q r a' s'):spec_l1Cur_pick ⟨code,a,s⟩ n Q:=by
  unfold spec_l1Cur_pick
  dsimp only
  have ha':=ha
  unfold atOk at ha'
  refine br_dec (fun g=>h _ _ _ (by omega) (by omega) (by omega) (by omega) (by omega)) (fun g=>next_ok hc (by omega) fun r a1 s1 h0 h1 h2 h3=>?_)
  have fin:∀ x a' s':Int,0≤x→x≤65535→0≤a'→a'≤a+2→n≠0∧Q (x.tmod n) a' s':=fun x a' s' x0 x1 y0 y1=>by
    have l:=Int.tmod_lt_of_pos x (show 0<n by omega)
    have p:=Int.tmod_nonneg n x0
    have q:x.tmod n≤x:=by
      rw [Int.tmod_eq_emod_of_nonneg x0]
      have e:=Int.emod_def x n
      have m:=Int.mul_nonneg (show 0≤n by omega) (Int.ediv_nonneg x0 (show 0≤n by omega))
      omega
    exact ⟨by omega,h _ _ _ p (.inl l) (by omega) y0 y1⟩
  by_cases g2:n>200
  · refine jn_of (br_yes g2 (next_ok hc (by omega) fun r2 a2 s2 k0 k1 k2 k3=>?_))
    show n≠0∧_
    rw [wr_in (x:=r * 256) (by omega) (by omega),wr_in (by omega) (by omega)]
    exact fin _ _ _ (by omega) (by omega) k2 (by omega)
  · exact jn_of (br_no g2 (fin _ _ _ h0 (by omega) h2 (by omega)))
theorem among_ok {code:List B8} {a s:Int} {l:List Int} {Q:Int→Int→Int→Prop} (hc:bytesOk code) (ha:atOk a) (hl:0<l.length) (h:∀ r∈l,∀ a' s',0≤a'→a'≤a+2→Q r a' s'):spec_l1Cur_among ⟨code,a,s⟩ l Q:=by
  unfold spec_l1Cur_among
  dsimp only
  refine pick_ok hc ha fun r a1 s1 h0 h1 _ h2 h3=>?_
  have hi:r.toNat<l.length:=by unfold ln at h1; omega
  exact idx_of h0 hi (h _ (List.getElem_mem hi) _ _ h2 h3)
theorem of_ok {code:List B8} {a s:Int} {l:List ByteArray} {p:ByteArray→Prop} {Q:ByteArray→Int→Int→Prop} (hc:bytesOk code) (ha:atOk a) (hl:0<l.length) (hp:∀ r∈l,p r) (h:∀ r,p r→∀ a' s',0≤a'→a'≤a+2→Q r a' s'):spec_l1Cur_of ⟨code,a,s⟩ l Q:=by
  unfold spec_l1Cur_of
  dsimp only
  refine pick_ok hc ha fun r a1 s1 h0 h1 _ h2 h3=>?_
  have hi:r.toNat<l.length:=by unfold ln at h1; omega
  exact idx_of h0 hi (h _ (hp _ (List.getElem_mem hi)) _ _ h2 h3)
theorem one_ok {code:List B8} {a s n:Int} {Q:Bool→Int→Int→Prop} (hc:bytesOk code) (ha:atOk a) (h:∀ b a' s',0≤a'→a'≤a+2→Q b a' s'):spec_l1Cur_one ⟨code,a,s⟩ n Q:=by
  unfold spec_l1Cur_one
  dsimp only
  exact pick_ok hc ha fun r a1 s1 h0 h1 _ h2 h3=>h _ _ _ h2 h3
def sdOk (sx:List Variable):Prop:=sx.length≤7∧∀ x∈sx,x.Name.size≤100
theorem sdOk.wide {sx:List Variable} (h:sdOk sx):sx.length≤1048576∧∀ x∈sx,x.Name.size≤1048576:=⟨by have:=h.1; omega,fun x hx=>by have:=h.2 x hx; omega⟩
theorem idx_all {α:Type} {xs:List α} {i:Int} {K:α→Prop} (p:α→Prop) (hp:∀ x∈xs,p x) (h0:0≤i) (h:i.toNat<xs.length) (k:∀ x,p x→K x):idx xs i K:=idx_of h0 h (k _ (hp _ (List.getElem_mem h)))
theorem schema_ok {code:List B8} {a s:Int} {Q:List Variable→Int→Int→Prop} (hc:bytesOk code) (ha:0≤a∧a≤900000000000) (h:∀ sx a' s',sdOk sx→1≤sx.length→0≤a'→a'≤a+20→Q sx a' s'):spec_l1Cur_schema ⟨code,a,s⟩ Q:=by
  unfold spec_l1Cur_schema
  dsimp only
  refine ⟨fun out k at1 _=>∃ n:Nat,k=(n:Int)∧n≤3∧out.length=n∧(∀ x∈out,x.Name.size≤100)∧0≤at1∧at1≤a+4 * (n:Int),fun _ k _ _=>(3-k).toNat,⟨0,rfl,by omega,rfl,by simp,ha.1,by omega⟩,?_⟩
  rintro out k at1 s1 ⟨n,rfl,hn,hlo,hs,h0,h1⟩
  refine pick_ok hc (by unfold atOk; omega) fun r a1 s2 g0 g1 _ g2 g3=>?_
  rw [wr_in (by omega) (by omega)]
  refine br_dec (fun g=>?_) (fun g=>h _ _ _ ⟨by omega,hs⟩ (by omega) g2 (by omega))
  refine idx_all (fun y=>y.size≤100) (by decide) (by omega) (by simp; omega) fun y hy=>?_
  refine pick_ok hc (by unfold atOk; omega) fun r2 a2 s3 k0 k1 _ k2 k3=>?_
  refine ⟨by unfold ln; simp only [List.length_singleton]; omega,?_⟩
  rw [wr_in (x:=(n:Int)+1) (by omega) (by omega)]
  refine ⟨⟨n+1,by omega,by omega,by simp; omega,fun x hx=>?_,k2,by omega⟩,by dsimp only; omega⟩
  rcases List.mem_append.1 hx with hx | hx
  · exact hs x hx
  · rw [List.mem_singleton.1 hx]; exact hy
theorem sdOk.set {sx:List Variable} (h:sdOk sx) {i:Nat} {x:Variable} (hx:x.Name.size≤100):sdOk (sx.set i x) :=
  ⟨by rw [List.length_set]; exact h.1,fun y hy=>by
    rcases List.mem_or_eq_of_mem_set hy with hy | rfl
    · exact h.2 y hy
    · exact hx⟩
theorem anySchema_ok {code:List B8} {a s:Int} {Q:List Variable→Int→Int→Prop} (hc:bytesOk code) (ha:0≤a∧a≤800000000000) (h:∀ sx a' s',sdOk sx→0≤a'→a'≤a+60→Q sx a' s'):spec_l1Cur_anySchema ⟨code,a,s⟩ Q:=by
  unfold spec_l1Cur_anySchema
  dsimp only
  refine schema_ok hc (by omega) fun sx a1 s1 hs h1 g0 g1=>?_
  refine jn_of (pick_ok hc (by unfold atOk; omega) fun r a2 s2 k0 k1 _ k2 k3=>?_)
  refine br_eq (fun _=>?_) (fun _=>br_eq (fun _=>?_) (fun _=>br_eq (fun _=>h _ _ _ ⟨by simp,fun x hx=>by simp at hx⟩ k2 (by omega)) (fun _=>br_eq (fun _=>?_) (fun _=>h _ _ _ hs k2 (by omega)))))
  · refine among_ok hc (by unfold atOk; omega) (by simp) fun v hv a3 s3 q0 q1=>?_
    exact idx_all (fun y:Variable=>y.Name.size≤100) hs.2 (by omega) (by show 0<sx.length; omega) fun y hy=>h _ _ _ (hs.set hy) q0 (by omega)
  · refine of_ok (p:=fun y=>y.size≤100) hc (by unfold atOk; omega) (by simp) (by decide) fun v hv a3 s3 q0 q1=>?_
    exact idx_all (fun y:Variable=>y.Name.size≤100) hs.2 (by omega) (by show 0<sx.length; omega) fun y hy=>h _ _ _ (hs.set hv) q0 (by omega)
  · refine ⟨fun t at1 _=>sdOk t∧0≤at1∧at1≤a2+2 * (t.length:Int),fun t _ _=>8-t.length,⟨hs,k2,by omega⟩,?_⟩
    rintro t at1 s3 ⟨ht,q0,q1⟩
    have htl:=ht.1
    refine pick_ok hc (by unfold atOk; omega) fun r2 a3 s4 p0 p1 _ p2 p3=>?_
    rw [wr_in (x:=6+r2) (by omega) (by omega)]
    refine br_dec (fun g=>?_) (fun g=>h _ _ _ ht p2 (by omega))
    have hb:∀ y:B8,(b2s [y]).size=1:=fun y=>rfl
    unfold ln at g
    refine ⟨by unfold sln; rw [hb]; decide,by unfold ln; simp only [List.length_singleton]; omega,⟨⟨by simp; omega,fun x hx=>?_⟩,p2,by simp only [List.length_append,List.length_singleton]; omega⟩,by simp only [List.length_append,List.length_singleton]; omega⟩
    rcases List.mem_append.1 hx with hx | hx
    · exact ht.2 x hx
    · rw [List.mem_singleton.1 hx]
      dsimp only
      rw [ByteArray.size_append,hb]; decide
def edOk (l:List Edit):Prop:=l.length≤100∧∀ e∈l,e.Sets.length≤100
theorem edit_ok {code:List B8} {sx:List Variable} {a s:Int} {Q:Edit→Int→Int→Prop} (hc:bytesOk code) (hL:Lok sx) (ha:0≤a∧a≤900000000000) (h:∀ e a' s',e.Sets.length=sx.length→0≤a'→a'≤a+24→Q e a' s'):spec_l1Cur_edit ⟨code,a,s⟩ sx Q:=by
  have h6:=hL.1
  unfold spec_l1Cur_edit
  dsimp only
  refine ⟨fun k at1 _ o=>∃ n:Nat,k=(n:Int)∧n≤sx.length∧o.length=n∧0≤at1∧at1≤a+4 * (n:Int),fun k _ _ _=>((sx.length:Int)-k).toNat,⟨0,rfl,by omega,rfl,ha.1,by omega⟩,?_⟩
  rintro k at1 s1 o ⟨n,rfl,hn,hlo,h0,h1⟩
  refine br_dec (fun g=>?_) (fun g=>h _ _ _ (by unfold ln at g; dsimp only; omega) h0 (by omega))
  unfold ln at g
  refine eFull_ok hL (show n<sx.length by omega) ?_
  have hf:=full_at hL (show n<sx.length by omega)
  have key:∀ x a1,0≤a1→a1≤at1+4→(ln o+ln [x]) * 8≤140737488355328∧((∃ m:Nat,wr ((n:Int)+1)=(m:Int)∧m≤sx.length∧(o++[x]).length=m∧0≤a1∧a1≤a+4 * (m:Int))∧((sx.length:Int)-wr ((n:Int)+1)).toNat<((sx.length:Int)-(n:Int)).toNat):=fun x a1 j0 j1=>by
    rw [wr_in (by omega) (by omega)]
    exact ⟨by unfold ln; simp only [List.length_singleton]; omega,⟨n+1,by omega,by omega,by simp; omega,j0,by omega⟩,by omega⟩
  refine jn_of (one_ok hc (by unfold atOk; omega) fun b a1 s2 j0 j1=>br_nb (fun _=>?_) (fun _=>key _ _ j0 (by omega)))
  exact pick_ok hc (by unfold atOk; omega) fun r a2 s3 q0 q1 _ q2 q3=>key _ _ q2 (by omega)
theorem anyEdit_ok {code:List B8} {sx:List Variable} {a s:Int} {Q:Edit→Int→Int→Prop} (hc:bytesOk code) (hs:sdOk sx) (ha:0≤a∧a≤800000000000) (h:∀ e a' s',e.Sets.length≤8→0≤a'→a'≤a+30→Q e a' s'):spec_l1Cur_anyEdit ⟨code,a,s⟩ sx Q:=by
  unfold spec_l1Cur_anyEdit
  dsimp only
  refine sGood_ok hs.wide.1 hs.wide.2 (br_nb (fun _=>h _ _ _ (by simp) ha.1 (by omega)) (fun g=>?_))
  have hL:=Lok_of g
  have h6:=(schOk_of g).1
  refine edit_ok hc hL (by omega) fun e a1 s1 he h0 h1=>?_
  have fin:∀ (l:List Int) a2 s2,l.length≤8→0≤a2→a2≤a1+6→Q ⟨l⟩ a2 s2:=fun l a2 s2 j1 j2 j3=>h _ _ _ j1 j2 (by omega)
  refine jn_of (pick_ok hc (by unfold atOk; omega) fun r a2 s2 q0 q1 _ q2 q3=>?_)
  have one:spec_l1Cur_pick ⟨code,a2,s2⟩ (ln e.Sets) fun r109 r110 r111 =>
      spec_l1Cur_among ((L1Cur.mk code r110 r111)) ([0,(-1),256,4]) fun r135 r136 r137 =>
      (0:Int)≤r109∧Int.toNat r109<List.length e.Sets∧Q ⟨List.set e.Sets (Int.toNat r109) r135⟩ r136 r137:=by
    refine pick_ok hc (by unfold atOk; omega) fun r3 a3 s3 p0 p1 _ p2 p3=>?_
    refine among_ok hc (by unfold atOk; omega) (by simp) fun v hv a4 s4 u0 u1=>?_
    exact ⟨p0,by unfold ln at p1; omega,fin _ _ _ (by rw [List.length_set]; omega) u0 (by omega)⟩
  refine br_eq (fun _=>⟨one,one⟩) (fun _=>br_eq (fun _=>⟨by unfold ln; simp only [List.length_singleton]; omega,fin _ _ _ (by simp; omega) q2 (by omega)⟩) (fun _=>fin _ _ _ (by omega) q2 (by omega)))
theorem edits_ok {code:List B8} {sx:List Variable} {a s:Int} {Q:List Edit→Int→Int→Prop} (hc:bytesOk code) (hs:sdOk sx) (ha:0≤a∧a≤700000000000) (h:∀ l a' s',edOk l→0≤a'→a'≤a+400→Q l a' s'):spec_l1Cur_edits ⟨code,a,s⟩ sx Q:=by
  unfold spec_l1Cur_edits
  dsimp only
  refine pick_ok hc (by unfold atOk; omega) fun r a1 s1 h0 h1 _ h2 h3=>?_
  refine ⟨fun l k at1 _=>∃ n:Nat,k=(n:Int)∧l.length+n≤5∧(∀ e∈l,e.Sets.length≤8)∧0≤at1∧at1≤a1+30 * (l.length:Int),fun _ k _ _=>k.toNat,⟨r.toNat,by omega,by simp; omega,by simp,h2,by simp⟩,?_⟩
  rintro l k at1 s2 ⟨n,rfl,hn,hl,g0,g1⟩
  refine br_dec (fun g=>?_) (fun g=>?_)
  · refine anyEdit_ok hc hs (by omega) fun e a2 s3 he q0 q1=>?_
    refine ⟨by unfold ln; simp only [List.length_singleton]; omega,?_⟩
    rw [wr_in (by omega) (by omega)]
    refine ⟨⟨n-1,by omega,by simp; omega,fun x hx=>?_,q0,by simp only [List.length_append,List.length_singleton]; omega⟩,by dsimp only; omega⟩
    rcases List.mem_append.1 hx with hx | hx
    · exact hl x hx
    · rw [List.mem_singleton.1 hx]; exact he
  · have fin:∀ (t:List Edit) a2 s2,t.length≤100→(∀ e∈t,e.Sets.length≤8)→0≤a2→a2≤a1+200→Q t a2 s2:=fun t a2 s2 j1 j2 j3 j4=>h _ _ _ ⟨j1,fun e he=>by have:=j2 e he; omega⟩ j3 (by omega)
    refine jn_of (one_ok hc (by unfold atOk; omega) fun b a2 s3 q0 q1=>br_bo (fun _=>?_) (fun _=>fin _ _ _ (by omega) hl q0 (by omega)))
    refine anyEdit_ok hc hs (by omega) fun e a3 s4 he p0 p1=>?_
    refine pick_ok hc (by unfold atOk; omega) fun r2 a4 s5 u0 u1 _ u2 u3=>?_
    rw [wr_in (by omega) (by omega)]
    refine ⟨fun t=>t.length≤50∧∀ e∈t,e.Sets.length≤8,fun t=>60-t.length,⟨by omega,hl⟩,?_⟩
    rintro t ⟨ht,ht2⟩
    refine br_dec (fun g=>?_) (fun g=>fin _ _ _ (by omega) ht2 u2 (by omega))
    unfold ln at g
    refine l1Own_ok (by omega) ⟨by unfold ln; simp only [List.length_singleton]; omega,⟨by simp; omega,fun x hx=>?_⟩,by simp only [List.length_append,List.length_singleton]; omega⟩
    rcases List.mem_append.1 hx with hx | hx
    · exact ht2 x hx
    · rw [List.mem_singleton.1 hx]; exact he
theorem countPassing_ok {code:List B8} {Q:List Variable→List Edit→Prop} (hc:bytesOk code) (h:∀ sx l,sdOk sx→edOk l→Q sx l):spec_DrawCountPassing code Q:=by
  unfold spec_DrawCountPassing
  exact anySchema_ok hc (by omega) fun sx a1 s1 hs h0 h1=>edits_ok hc hs (by omega) fun l a2 s2 hl _ _=>h _ _ hs hl
end Go.Proofs.YtbgnaamdlcggjaaGreat
