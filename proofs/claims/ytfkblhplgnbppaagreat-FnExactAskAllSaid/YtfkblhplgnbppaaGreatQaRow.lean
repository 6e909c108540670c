/- The statement 'FnExactAskAllSaid': the walk of the law and its plain law, joined at the row. -/
import Derived.Test.YtfkblhplgnbppaaGreatRows
import Derived.Test.YtfkblhplgnbppaaGreatSeat
import Derived.Test.YtfkblhplgnbppaaGreatUWalk4
import Derived.Test.YtfkblhplgnbppaaGreatSZPure
namespace Go.Proofs.YtfkblhplgnbppaaGreat.fnExactAskAll
open Go Go.Gv Go.ChangeShapes Go.WideShapes Go.ChangeAt Go.RowKit
set_option linter.unusedVariables false
set_option maxRecDepth 100000
theorem vf:Rows.fnExactAskAllRow.veiledFits Tryz.prog [64,27] [64,27,4]=true:=by
  unfold OpenClaim.veiledFits
  rw [List.all_append]
  simp only [List.all_cons,List.all_nil,v64,v27,v4,Bool.and_true,Bool.true_and]
  kernel_rfl
set_option maxHeartbeats 4000000 in
theorem closed:joinedFacts Tryz.pinned.checked.prog 5 Tryz.f5 Rows.fnExactAskAllSpec Rows.fnExactAskAllRow=true:=by
  show joinedFacts Tryz.prog 5 Tryz.f5 Rows.fnExactAskAllSpec Rows.fnExactAskAllRow=true
  have hp:Tryz.f5.params=[64,27].toArray:=Tryz.params5
  have hr:Tryz.f5.resultTypes=[4].toArray:=by kernel_rfl
  have hv:Rows.fnExactAskAllSpec.plain.varTypes Tryz.prog=[]:=by kernel_rfl
  unfold joinedFacts
  rw [hp,hr,hv]
  simp only [List.all_toArray,List.append_nil,List.cons_append,List.nil_append,List.any_cons,List.any_nil,List.all_cons,List.all_nil,Program.readableRec,Program.mapsRec,Program.ifacesRec,Program.loopsFrom,Program.wideKeysFrom,Program.veiledRec,g64,p64,g24,p24,g25,p25,g26,p26,g27,p27,g31,p31,g3,p3,g22,p22,g84,p84,g87,p87,g66,p66,g29,p29,g9,p9,g4,p4,vf,c1,c2,c3]
  simp only [Bool.and_eq_true]
  repeat' with_reducible apply And.intro
  all_goals first | exact True.intro | (as_aux_lemma=>kernel_rfl)
theorem lifted (os:Os) (started:os.Started) (H:Type) (enc:TypeId×Value→H) :
    ReturnsInHanded {} Tryz.checked os 5 .any (Rows.fnExactAskAllSpec.pre6 enc Tryz.prog Tryz.f5 Rows.fnExactAskAllRow.domain false) (Rows.fnExactAskAllSpec.post enc Tryz.prog Tryz.f5 false true false false):=by
  refine returnsInHanded_of_change (C:=Tryz.checked) own started (by kernel_rfl) Tryz.func5
    (ChangeSpec.witness6 (enc:=enc) (C:=Tryz.checked) false ⟨#[],#[.agg #[.slice none 0 0,.slice none 0 0,.slice none 0 0,.slice none 0 0,.int .i64 0,.int .i64 0,.int .i64 0,.int .i64 0,.int .i64 0,.int .i64 0,.int .i64 0,.int .i64 0,.int .i64 0,.slice none 0 0],.slice none 0 0],[]⟩ 8 (by kernel_rfl) (by kernel_rfl) (by kernel_rfl) (by kernel_rfl)) ?_
  intro W base args ds gs before hval0 hW hcnd _
  have hval:∀ (j:Nat) t v,Tryz.f5.params[j]?=some t→args[j]?=some v→Value.okWide Tryz.prog W .any base t v:=hval0
  have hW':=hW
  obtain ⟨p,q,hA0,hV,rfl,hfz,hnd⟩:=hW
  have hA:DataW.TrodAll enc Tryz.prog W 0 (fun _=>true) true Tryz.f5.params.toList args.toList ds p:=hA0
  rw [Tryz.params5] at hA hval
  obtain ⟨v0,vs0,d0,ds0,p0,q0,hargs,rfl,rfl,h0,r0⟩:=trodAll_cons hA
  obtain ⟨v1,vs1,d1,ds1,p1,q1,rfl,rfl,rfl,h1,r1⟩:=trodAll_cons r0
  obtain ⟨rfl,rfl,rfl⟩:=trodAll_nil r1
  obtain rfl:args=#[v0,v1]:=by cases args; simp_all
  obtain ⟨rfl,rfl⟩:=trodVars_none hV
  obtain ⟨a0,rv0,wf0⟩:=opn64.open (hval 0 64 v0 rfl rfl) h0
  obtain ⟨z0_0,z0_1,z0_2,z0_3,z0_4,rfl,y0_0,y0_1,y0_2,y0_3,y0_4⟩:=Server_rv rv0
  obtain ⟨a1,rv1,wf1⟩:=opn27.open (hval 1 27 v1 rfl rfl) h1
  clear hA0 hval0
  refine Calls.mono (laws_FnExactAskAll_w a0 a1 _ (lawAskAll a0 a1 wf0 wf1) W y0_0 (pw_sub W) y0_1 (pw_sub W) y0_2 (pw_sub W) y0_3 (pw_sub W) y0_4 (pw_sub W) rv1.slice (pw_sub W)) fun e W' h=>?_
  cases e with
  | returned v =>
    obtain ⟨r,hr,rfl,bel0⟩:=h
    have bel:=bel0.below
    subst hr
    exact ⟨_,rfl,_,_,_,[],_,[],hW',trodAll_mk1 (shut_bool Tryz.underlying4 _),(trodAll_cons_mk (Below.trod laidOut rr64 hr64 h0 bel (trod_lt' h0)) (trodAll_cons_mk (Below.trod laidOut rr27 hr27 h1 bel (trod_lt' h1)) trodAll_mk0)),rfl,bel.frame _,fun h=>by cases h⟩
  | _=>exact h.elim
theorem over:Rows.fnExactAskAllRow.holds Tryz.pinned (OpenSpec.ofChange Rows.fnExactAskAllSpec) :=
  OpenClaim.holds_of_wide 5 Tryz.f5 rfl rfl rfl rfl rfl rfl rfl ⟨rfl,rfl,rfl,rfl,rfl⟩ rfl rfl rfl rfl rfl (by kernel_rfl) Tryz.func5 closed
    (of_decide_eq_true (by kernel_rfl)) (by unfold Func.isWrapper; first | (rw [if_pos (by decide +kernel)]; kernel_rfl) | (rw [if_neg (by decide +kernel)]; exact ⟨rfl,rfl⟩))
    (fun os started H enc _=>lifted os started H enc)
/-- The statement. -/
theorem proved:Rows.FnExactAskAllSaid :=
  over
#print axioms proved
end Go.Proofs.YtfkblhplgnbppaaGreat.fnExactAskAll
