import Derived.Test.YtbgnaamdlcggjaaGreatRows
import Derived.Test.YtbgnaamdlcggjaaGreatSeat
import Derived.Test.YtbgnaamdlcggjaaGreatRWalk4
import Derived.Test.YtbgnaamdlcggjaaGreatRUPure
namespace Go.Proofs.YtbgnaamdlcggjaaGreat.fnReleases
open Go Go.Gv Go.ChangeShapes Go.WideShapes Go.ChangeAt Go.RowKit
set_option linter.unusedVariables false
set_option maxRecDepth 100000
theorem vf:Rows.fnReleasesRow.veiledFits Tryz.prog [22,22] [22,22,4]=true:=by
  unfold OpenClaim.veiledFits
  rw [List.all_append]
  simp only [List.all_cons,List.all_nil,v22,v4,Bool.and_true,Bool.true_and]
  kernel_rfl
set_option maxHeartbeats 4000000 in
theorem closed:joinedFacts Tryz.pinned.checked.prog 7 Tryz.f7 Rows.fnReleasesSpec Rows.fnReleasesRow=true:=by
  show joinedFacts Tryz.prog 7 Tryz.f7 Rows.fnReleasesSpec Rows.fnReleasesRow=true
  have hp:Tryz.f7.params=[22,22].toArray:=Tryz.params7
  have hr:Tryz.f7.resultTypes=[4].toArray:=by kernel_rfl
  have hv:Rows.fnReleasesSpec.plain.varTypes Tryz.prog=[]:=by kernel_rfl
  unfold joinedFacts
  rw [hp,hr,hv]
  simp only [List.all_toArray,List.append_nil,List.cons_append,List.nil_append,List.any_cons,List.any_nil,List.all_cons,List.all_nil,Program.readableRec,Program.mapsRec,Program.ifacesRec,Program.loopsFrom,Program.wideKeysFrom,Program.veiledRec,g22,p22,g5,p5,g4,p4,vf,c1,c2,c3]
  simp only [Bool.and_eq_true]
  repeat' with_reducible apply And.intro
  all_goals first | exact True.intro | (as_aux_lemma=>kernel_rfl)
theorem lifted(os:Os)(started:os.Started)(H:Type)(enc:TypeId×Value->H) :
    ReturnsInHanded {} Tryz.checked os 7 .any (Rows.fnReleasesSpec.pre6 enc Tryz.prog Tryz.f7 Rows.fnReleasesRow.domain false) (Rows.fnReleasesSpec.post enc Tryz.prog Tryz.f7 false true false false):=by
  refine returnsInHanded_of_change (C:=Tryz.checked) own started (by kernel_rfl) Tryz.func7
    (ChangeSpec.witness6 (enc:=enc) (C:=Tryz.checked) false ⟨#[],#[.slice none 0 0,.slice none 0 0],[]⟩ 8 (by kernel_rfl) (by kernel_rfl) (by kernel_rfl) (by kernel_rfl)) ?_
  intro W base args ds gs before hval0 hW hcnd _
  have hval:∀ (j:Nat) t v,Tryz.f7.params[j]?=some t->args[j]?=some v->Value.okWide Tryz.prog W .any base t v:=hval0
  have hW':=hW
  obtain ⟨p,q,hA0,hV,rfl,hfz,hnd⟩:=hW
  have hA:DataW.TrodAll enc Tryz.prog W 0 (fun _=>true) true Tryz.f7.params.toList args.toList ds p:=hA0
  rw [Tryz.params7] at hA hval
  obtain ⟨v0,vs0,d0,ds0,p0,q0,hargs,rfl,rfl,h0,r0⟩:=trodAll_cons hA
  obtain ⟨v1,vs1,d1,ds1,p1,q1,rfl,rfl,rfl,h1,r1⟩:=trodAll_cons r0
  obtain ⟨rfl,rfl,rfl⟩:=trodAll_nil r1
  obtain rfl:args=#[v0,v1]:=by cases args; simp_all
  obtain ⟨rfl,rfl⟩:=trodVars_none hV
  obtain ⟨a0,rv0,wf0⟩:=EN2.open (hval 0 22 v0 rfl rfl) h0
  obtain ⟨a1,rv1,wf1⟩:=EN2.open (hval 1 22 v1 rfl rfl) h1
  clear hA0 hval0
  refine Calls.mono (BL4 a0 a1 _ (CU7 a0 a1 wf0 wf1) W rv0.slice (CZ5 W) rv1.slice (CZ5 W)) fun e W' h=>?_
  cases e with
  | returned v =>
    obtain ⟨r,hr,rfl,bel0⟩:=h
    have bel:=bel0.below
    subst hr
    exact ⟨_,rfl,_,_,_,[],_,[],hW',trodAll_mk1 (shut_bool Tryz.underlying4 _),(trodAll_cons_mk (Below.trod DF1 EZ2 EZ5 h0 bel (CU1 h0)) (trodAll_cons_mk (Below.trod DF1 EZ2 EZ5 h1 bel (CU1 h1)) trodAll_mk0)),rfl,bel.frame _,fun h=>by cases h⟩
  | _=>exact h.elim
theorem over:Rows.fnReleasesRow.holds Tryz.pinned (OpenSpec.ofChange Rows.fnReleasesSpec) :=
  OpenClaim.holds_of_wide 7 Tryz.f7 rfl rfl rfl rfl rfl rfl rfl ⟨rfl,rfl,rfl,rfl,rfl⟩ rfl rfl rfl rfl rfl (by kernel_rfl) Tryz.func7 closed
    (of_decide_eq_true (by kernel_rfl)) (by unfold Func.isWrapper; first | (rw [if_pos (by decide +kernel)]; kernel_rfl) | (rw [if_neg (by decide +kernel)]; exact ⟨rfl,rfl⟩))
    (fun os started H enc _=>lifted os started H enc)
theorem proved:Rows.FnReleasesSaid :=
  over
#print axioms proved
end Go.Proofs.YtbgnaamdlcggjaaGreat.fnReleases
