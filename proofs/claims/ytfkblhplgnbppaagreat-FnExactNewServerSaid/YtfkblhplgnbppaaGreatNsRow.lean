/- The statement 'FnExactNewServerSaid': the walk of the law and its plain law, joined at the row. -/
import Derived.Test.YtfkblhplgnbppaaGreatRows
import Derived.Test.YtfkblhplgnbppaaGreatSeat
import Derived.Test.YtfkblhplgnbppaaGreatNWalk3
import Derived.Test.YtfkblhplgnbppaaGreatSWPure
namespace Go.Proofs.YtfkblhplgnbppaaGreat.fnExactNewServer
open Go Go.Gv Go.ChangeShapes Go.WideShapes Go.ChangeAt Go.RowKit
set_option linter.unusedVariables false
set_option maxRecDepth 100000
theorem vf:Rows.fnExactNewServerRow.veiledFits Tryz.prog [24,25,26,27,31,31,3] [24,25,26,27,31,31,3,4]=true:=by
  unfold OpenClaim.veiledFits
  rw [List.all_append]
  simp only [List.all_cons,List.all_nil,v24,v3,v25,v26,v27,v31,v4,Bool.and_true,Bool.true_and]
  kernel_rfl
set_option maxHeartbeats 4000000 in
theorem closed:joinedFacts Tryz.pinned.checked.prog 3 Tryz.f3 Rows.fnExactNewServerSpec Rows.fnExactNewServerRow=true:=by
  show joinedFacts Tryz.prog 3 Tryz.f3 Rows.fnExactNewServerSpec Rows.fnExactNewServerRow=true
  have hp:Tryz.f3.params=[24,25,26,27,31,31,3].toArray:=Tryz.params3
  have hr:Tryz.f3.resultTypes=[4].toArray:=by kernel_rfl
  have hv:Rows.fnExactNewServerSpec.plain.varTypes Tryz.prog=[]:=by kernel_rfl
  unfold joinedFacts
  rw [hp,hr,hv]
  simp only [List.all_toArray,List.append_nil,List.cons_append,List.nil_append,List.any_cons,List.any_nil,List.all_cons,List.all_nil,Program.readableRec,Program.mapsRec,Program.ifacesRec,Program.loopsFrom,Program.wideKeysFrom,Program.veiledRec,g24,p24,g22,p22,g3,p3,g25,p25,g84,p84,g9,p9,g26,p26,g87,p87,g27,p27,g66,p66,g31,p31,g29,p29,g4,p4,vf,c1,c2,c3]
  simp only [Bool.and_eq_true]
  repeat' with_reducible apply And.intro
  all_goals first | exact True.intro | (as_aux_lemma=>kernel_rfl)
theorem lifted (os:Os) (started:os.Started) (H:Type) (enc:TypeId×Value→H) :
    ReturnsInHanded {} Tryz.checked os 3 .any (Rows.fnExactNewServerSpec.pre6 enc Tryz.prog Tryz.f3 Rows.fnExactNewServerRow.domain false) (Rows.fnExactNewServerSpec.post enc Tryz.prog Tryz.f3 false true false false):=by
  refine returnsInHanded_of_change (C:=Tryz.checked) own started (by kernel_rfl) Tryz.func3
    (ChangeSpec.witness6 (enc:=enc) (C:=Tryz.checked) false ⟨#[],#[.agg #[.slice none 0 0],.slice none 0 0,.slice none 0 0,.slice none 0 0,.agg #[.int .i64 0,.int .i64 0,.int .i64 0,.int .i64 0],.agg #[.int .i64 0,.int .i64 0,.int .i64 0,.int .i64 0],.int .i64 0],[]⟩ 8 (by kernel_rfl) (by kernel_rfl) (by kernel_rfl) (by kernel_rfl)) ?_
  intro W base args ds gs before hval0 hW hcnd _
  have hval:∀ (j:Nat) t v,Tryz.f3.params[j]?=some t→args[j]?=some v→Value.okWide Tryz.prog W .any base t v:=hval0
  have hW':=hW
  obtain ⟨p,q,hA0,hV,rfl,hfz,hnd⟩:=hW
  have hA:DataW.TrodAll enc Tryz.prog W 0 (fun _=>true) true Tryz.f3.params.toList args.toList ds p:=hA0
  rw [Tryz.params3] at hA hval
  obtain ⟨v0,vs0,d0,ds0,p0,q0,hargs,rfl,rfl,h0,r0⟩:=trodAll_cons hA
  obtain ⟨v1,vs1,d1,ds1,p1,q1,rfl,rfl,rfl,h1,r1⟩:=trodAll_cons r0
  obtain ⟨v2,vs2,d2,ds2,p2,q2,rfl,rfl,rfl,h2,r2⟩:=trodAll_cons r1
  obtain ⟨v3,vs3,d3,ds3,p3,q3,rfl,rfl,rfl,h3,r3⟩:=trodAll_cons r2
  obtain ⟨v4,vs4,d4,ds4,p4,q4,rfl,rfl,rfl,h4,r4⟩:=trodAll_cons r3
  obtain ⟨v5,vs5,d5,ds5,p5,q5,rfl,rfl,rfl,h5,r5⟩:=trodAll_cons r4
  obtain ⟨v6,vs6,d6,ds6,p6,q6,rfl,rfl,rfl,h6,r6⟩:=trodAll_cons r5
  obtain ⟨rfl,rfl,rfl⟩:=trodAll_nil r6
  obtain rfl:args=#[v0,v1,v2,v3,v4,v5,v6]:=by cases args; simp_all
  obtain ⟨rfl,rfl⟩:=trodVars_none hV
  obtain ⟨a0,rv0,wf0⟩:=opn24.open (hval 0 24 v0 rfl rfl) h0
  obtain ⟨z0_0,rfl,y0_0⟩:=Geo_rv rv0
  obtain ⟨a1,rv1,wf1⟩:=opn25.open (hval 1 25 v1 rfl rfl) h1
  obtain ⟨a2,rv2,wf2⟩:=opn26.open (hval 2 26 v2 rfl rfl) h2
  obtain ⟨a3,rv3,wf3⟩:=opn27.open (hval 3 27 v3 rfl rfl) h3
  obtain ⟨a4,rv4,wf4⟩:=opn31.open (hval 4 31 v4 rfl rfl) h4
  obtain rfl:=Loss_rv rv4
  obtain ⟨a5,rv5,wf5⟩:=opn31.open (hval 5 31 v5 rfl rfl) h5
  obtain rfl:=Loss_rv rv5
  obtain ⟨a6,rv6,wf6⟩:=opn3.open (hval 6 3 v6 rfl rfl) h6
  obtain rfl:=rv6.int
  clear hA0 hval0
  refine Calls.mono (laws_FnExactNewServer_w a0 a1 a2 a3 a4 a5 a6 _ (lawNew a0 a1 a2 a3 a4 a5 a6 wf0 wf1 wf2 wf3 wf4 wf5 wf6) W y0_0 (pw_sub W) rv1.slice (pw_sub W) rv2.slice (pw_sub W) rv3.slice (pw_sub W)) fun e W' h=>?_
  cases e with
  | returned v =>
    obtain ⟨r,hr,rfl,bel0⟩:=h
    have bel:=bel0.below
    subst hr
    exact ⟨_,rfl,_,_,_,[],_,[],hW',trodAll_mk1 (shut_bool Tryz.underlying4 _),(trodAll_cons_mk (Below.trod laidOut rr24 hr24 h0 bel (trod_lt' h0)) (trodAll_cons_mk (Below.trod laidOut rr25 hr25 h1 bel (trod_lt' h1)) (trodAll_cons_mk (Below.trod laidOut rr26 hr26 h2 bel (trod_lt' h2)) (trodAll_cons_mk (Below.trod laidOut rr27 hr27 h3 bel (trod_lt' h3)) (trodAll_cons_mk (Below.trod laidOut rr31 hr31 h4 bel (trod_lt' h4)) (trodAll_cons_mk (Below.trod laidOut rr31 hr31 h5 bel (trod_lt' h5)) (trodAll_cons_mk (Below.trod laidOut rr3 hr3 h6 bel (trod_lt' h6)) trodAll_mk0))))))),rfl,bel.frame _,fun h=>by cases h⟩
  | _=>exact h.elim
theorem over:Rows.fnExactNewServerRow.holds Tryz.pinned (OpenSpec.ofChange Rows.fnExactNewServerSpec) :=
  OpenClaim.holds_of_wide 3 Tryz.f3 rfl rfl rfl rfl rfl rfl rfl ⟨rfl,rfl,rfl,rfl,rfl⟩ rfl rfl rfl rfl rfl (by kernel_rfl) Tryz.func3 closed
    (of_decide_eq_true (by kernel_rfl)) (by unfold Func.isWrapper; first | (rw [if_pos (by decide +kernel)]; kernel_rfl) | (rw [if_neg (by decide +kernel)]; exact ⟨rfl,rfl⟩))
    (fun os started H enc _=>lifted os started H enc)
/-- The statement. -/
theorem proved:Rows.FnExactNewServerSaid :=
  over
#print axioms proved
end Go.Proofs.YtfkblhplgnbppaaGreat.fnExactNewServer
