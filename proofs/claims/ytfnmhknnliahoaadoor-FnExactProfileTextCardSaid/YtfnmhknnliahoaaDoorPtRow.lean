/- The statement 'FnExactProfileTextSaid': the walk of the law and its plain law, joined at the row. -/
import Derived.Test.YtfnmhknnliahoaaDoorRows
import Derived.Test.YtfnmhknnliahoaaDoorSeat
import Derived.Test.YtfnmhknnliahoaaDoorPWalk
import Derived.Test.YtfnmhknnliahoaaDoorTCPure
import Derived.Test.YtfnmhknnliahoaaDoorTie
import Derived.Test.YtfnmhknnliahoaaDoorCards
import Derived.LaidMore
import Derived.LaidHandle
import Derived.Stop.LaidErr
import Derived.Lib.LaidTab
import Derived.MakeChecks
import Derived.SevenTiedAt
namespace Go.Proofs.YtfnmhknnliahoaaDoor.fnExactProfileText
open Go Go.Gv Go.ChangeShapes Go.WideShapes Go.ChangeAt Go.RowKit
set_option linter.unusedVariables false
set_option maxRecDepth 100000
theorem vf:Rows.fnExactProfileTextRow.veiledFits Tryd.prog [24,34,36,22] [24,34,36,22,4]=true:=by
  unfold OpenClaim.veiledFits
  rw [List.all_append]
  simp only [List.all_cons,List.all_nil,v24,v22,v34,v36,v4,Bool.and_true,Bool.true_and]
  kernel_rfl
set_option maxHeartbeats 4000000 in
theorem closed:joinedFacts Tryd.pinned.checked.prog 4 Tryd.f4 Rows.fnExactProfileTextSpec Rows.fnExactProfileTextRow=true:=by
  show joinedFacts Tryd.prog 4 Tryd.f4 Rows.fnExactProfileTextSpec Rows.fnExactProfileTextRow=true
  have hp:Tryd.f4.params=[24,34,36,22].toArray:=Tryd.params4
  have hr:Tryd.f4.resultTypes=[4].toArray:=by kernel_rfl
  have hv:Rows.fnExactProfileTextSpec.plain.varTypes Tryd.prog=[]:=by kernel_rfl
  unfold joinedFacts
  rw [hp,hr,hv]
  simp only [List.all_toArray,List.append_nil,List.cons_append,List.nil_append,List.any_cons,List.any_nil,List.all_cons,List.all_nil,Program.readableRec,Program.mapsRec,Program.ifacesRec,Program.loopsFrom,Program.wideKeysFrom,Program.veiledRec,g24,p24,g22,p22,g3,p3,g34,p34,g65,p65,g9,p9,g36,p36,g4,p4,vf,c1,c2,c3]
  simp only [Bool.and_eq_true]
  repeat' with_reducible apply And.intro
  all_goals first | exact True.intro | (as_aux_lemma=>kernel_rfl)
abbrev laid:List (String×DataW Unit):=Rows.fnExactProfileTextRow.laid
theorem door_met (os:Os) (args:Array Value):laidMetH Tryd.prog laid ((World.doorLaid Tryd.prog 400 os).forCall (fun _ _=>0) ⟨#[],args,[]⟩).memory :=
  laidMetH_of_parts3 (fuel:=8) (laidMet_of_run' 8 (by kernel_rfl) (by kernel_rfl)) (by kernel_rfl) (by kernel_rfl)
theorem tab_of {W:World} (h:laidMetH Tryd.prog laid W):TabH Tryd.prog (pw W):=by
  have hL:laidMet Tryd.prog laid W:=by
    rw [MakeChecks.laidMetH_plain _ _ _ (by kernel_rfl)] at h; exact h
  have hg':Tryd.prog.globalNamed "internal/strconv.uint64pow10" = some 1:=by kernel_rfl
  exact TabH.of (Lib.tabIs_of_head (rest:=laid.drop 3) (n:=20) hg' (by kernel_rfl:(Tryd.prog.globals[1]?).map (·.type)=some 114) Tryd.underlying114 Tryd.underlying99 (by kernel_rfl) (by kernel_rfl) (laidMet.tail (laidMet.tail hL)))
theorem lifted (os:Os) (started:os.Started) (H:Type) (enc:TypeId×Value→H) :
    ReturnsInHanded {} Tryd.checked os 4 .any (fun w args=>(Rows.fnExactProfileTextSpec.pre enc Tryd.prog Tryd.f4 Rows.fnExactProfileTextRow.domain false w args∧laidMetH Tryd.prog laid w)∧sizedMet enc Tryd.prog Tryd.f4 (OpenSpec.ofChange Rows.fnExactProfileTextSpec) false w args) (Rows.fnExactProfileTextSpec.post enc Tryd.prog Tryd.f4 false true false false):=by
  refine returnsInHanded_of_change_and (C:=Tryd.checked) (X:=fun w _=>laidMetH Tryd.prog laid w) (fun _ _ _ hh h=>h.of_heap hh) own started (by kernel_rfl) Tryd.func4
    (ChangeSpec.witness_shaped (enc:=enc) (C:=Tryd.checked) (os:=os) (X:=fun w _=>laidMetH Tryd.prog laid w) false (World.doorLaid Tryd.prog 400 os) #[.agg #[.slice none 0 0],.slice none 0 0,.agg #[.int .i64 0,.slice none 0 0,.slice none 0 0,.int .i64 0],.slice none 0 0] 8 rfl (World.shaped_of_RefB (by kernel_rfl) (by kernel_rfl)) (by kernel_rfl) (by kernel_rfl) (by kernel_rfl) (door_met os _)) ?_
  intro W base args ds gs before hval0 hW hcnd _ hL _
  have hval:∀ (j:Nat) t v,Tryd.f4.params[j]?=some t→args[j]?=some v→Value.okWide Tryd.prog W .any base t v:=hval0
  have hW':=hW
  obtain ⟨p,q,hA0,hV,rfl,hfz,hnd⟩:=hW
  have hA:DataW.TrodAll enc Tryd.prog W 0 (fun _=>true) true Tryd.f4.params.toList args.toList ds p:=hA0
  rw [Tryd.params4] at hA hval
  obtain ⟨v0,vs0,d0,ds0,p0,q0,hargs,rfl,rfl,h0,r0⟩:=trodAll_cons hA
  obtain ⟨v1,vs1,d1,ds1,p1,q1,rfl,rfl,rfl,h1,r1⟩:=trodAll_cons r0
  obtain ⟨v2,vs2,d2,ds2,p2,q2,rfl,rfl,rfl,h2,r2⟩:=trodAll_cons r1
  obtain ⟨v3,vs3,d3,ds3,p3,q3,rfl,rfl,rfl,h3,r3⟩:=trodAll_cons r2
  obtain ⟨rfl,rfl,rfl⟩:=trodAll_nil r3
  obtain rfl:args=#[v0,v1,v2,v3]:=by cases args; simp_all
  obtain ⟨rfl,rfl⟩:=trodVars_none hV
  obtain ⟨a0,rv0,wf0⟩:=opn24.open (hval 0 24 v0 rfl rfl) h0
  obtain ⟨z0_0,rfl,y0_0⟩:=Geo_rv rv0
  obtain ⟨a1,rv1,wf1⟩:=opn34.open (hval 1 34 v1 rfl rfl) h1
  obtain ⟨a2,rv2,wf2⟩:=opn36.open (hval 2 36 v2 rfl rfl) h2
  obtain ⟨z2_0,z2_1,rfl,y2_0,y2_1⟩:=Table_rv rv2
  obtain ⟨a3,rv3,wf3⟩:=opn22.open (hval 3 22 v3 rfl rfl) h3
  clear hA0 hval0
  refine Calls.mono (laws_FnExactProfileText_w a0 a1 a2 a3 _ (lawProfileText a0 a1 a2 a3 wf0 wf1 wf2 wf3) W y0_0 (pw_sub W) rv1.slice (pw_sub W) y2_0 (pw_sub W) y2_1 (pw_sub W) rv3.slice (pw_sub W) (tab_of hL) (pw_sub W)) fun e W' h=>?_
  cases e with
  | returned v =>
    obtain ⟨r,hr,rfl,bel0⟩:=h
    have bel:=bel0.below
    subst hr
    exact ⟨_,rfl,_,_,_,[],_,[],hW',trodAll_mk1 (shut_bool Tryd.underlying4 _),(trodAll_cons_mk (Below.trod laidOut rr24 hr24 h0 bel (trod_lt' h0)) (trodAll_cons_mk (Below.trod laidOut rr34 hr34 h1 bel (trod_lt' h1)) (trodAll_cons_mk (Below.trod laidOut rr36 hr36 h2 bel (trod_lt' h2)) (trodAll_cons_mk (Below.trod laidOut rr22 hr22 h3 bel (trod_lt' h3)) trodAll_mk0)))),rfl,bel.frame _,fun h=>by cases h⟩
  | _=>exact h.elim
theorem over:Rows.fnExactProfileTextRow.holds Tryd.pinned (OpenSpec.ofChange Rows.fnExactProfileTextSpec) :=
  OpenClaim.holds_of_wide 4 Tryd.f4 rfl rfl rfl rfl rfl rfl rfl ⟨rfl,rfl,rfl,rfl,rfl⟩ rfl rfl rfl rfl rfl (by kernel_rfl) Tryd.func4 closed
    (of_decide_eq_true (by kernel_rfl)) (by unfold Func.isWrapper; first | (rw [if_pos (by decide +kernel)]; kernel_rfl) | (rw [if_neg (by decide +kernel)]; exact ⟨rfl,rfl⟩))
    (fun os started H enc _=>lifted os started H enc)
/-- The statement: the tied card. -/
theorem proved:Rows.FnExactProfileTextCardSaid :=
  Claim7.holds_tied_plain_at .later [] [.data,.data,.data] true (true, "c50bb2bb9ba751fd97b701af393ce7222fcc9d9106ad3a870b9db3c041b3824a") false over (fun _ h=>by cases h) (by kernel_rfl) (fun _ h=>by cases h) fnExactProfileText_row_tie rfl ⟨rfl,rfl⟩ (by kernel_rfl) rfl
    (fun f fn hf hfn=>by
      obtain rfl:f=4:=Option.some.inj ((show Tryd.prog.funcNamed Rows.fnExactProfileTextRow.func=some 4 by kernel_rfl).symm.trans hf) |>.symm
      obtain rfl:fn=Tryd.f4:=(Option.some.inj (Tryd.func4.symm.trans hfn)).symm
      exact ⟨by kernel_rfl,fun j t ht=>by
        rw [Tryd.params4] at ht
        have hm:t∈[24,34,36,22]:=by simpa using Array.mem_of_getElem? ht
        have hall:([24,34,36,22].all fun u => !Tryd.prog.wantsStandIn u)=true:=by kernel_rfl
        exact (show Tryd.prog.wantsStandIn t=false by simpa using List.all_eq_true.1 hall t hm)⟩)
    (by kernel_rfl)
#print axioms proved
end Go.Proofs.YtfnmhknnliahoaaDoor.fnExactProfileText
