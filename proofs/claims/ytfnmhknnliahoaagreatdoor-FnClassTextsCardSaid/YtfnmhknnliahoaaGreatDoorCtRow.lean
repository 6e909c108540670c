/- The statement 'FnClassTextsSaid': the walk of the law and its plain law, joined at the row. -/
import Derived.Test.YtfnmhknnliahoaaGreatDoorRows
import Derived.Test.YtfnmhknnliahoaaGreatDoorSeat
import Derived.Test.YtfnmhknnliahoaaGreatDoorCWalk3
import Derived.Test.YtfnmhknnliahoaaGreatDoorTFPure
import Derived.Test.YtfnmhknnliahoaaGreatDoorTie
import Derived.Test.YtfnmhknnliahoaaGreatDoorCards
import Derived.LaidMore
import Derived.LaidHandle
import Derived.Stop.LaidErr
import Derived.Lib.LaidTab
import Derived.MakeChecks
import Derived.SevenTiedAt
namespace Go.Proofs.YtfnmhknnliahoaaGreatDoor.fnClassTexts
open Go Go.Gv Go.ChangeShapes Go.WideShapes Go.ChangeAt Go.RowKit
set_option linter.unusedVariables false
set_option maxRecDepth 100000
theorem vf:Rows.fnClassTextsRow.veiledFits Tryz.prog [22,22] [22,22,4]=true:=by
  unfold OpenClaim.veiledFits
  rw [List.all_append]
  simp only [List.all_cons,List.all_nil,v22,v4,Bool.and_true,Bool.true_and]
  kernel_rfl
set_option maxHeartbeats 4000000 in
theorem closed:joinedFacts Tryz.pinned.checked.prog 3 Tryz.f3 Rows.fnClassTextsSpec Rows.fnClassTextsRow=true:=by
  show joinedFacts Tryz.prog 3 Tryz.f3 Rows.fnClassTextsSpec Rows.fnClassTextsRow=true
  have hp:Tryz.f3.params=[22,22].toArray:=Tryz.params3
  have hr:Tryz.f3.resultTypes=[4].toArray:=by kernel_rfl
  have hv:Rows.fnClassTextsSpec.plain.varTypes Tryz.prog=[]:=by kernel_rfl
  unfold joinedFacts
  rw [hp,hr,hv]
  simp only [List.all_toArray,List.append_nil,List.cons_append,List.nil_append,List.any_cons,List.any_nil,List.all_cons,List.all_nil,Program.readableRec,Program.mapsRec,Program.ifacesRec,Program.loopsFrom,Program.wideKeysFrom,Program.veiledRec,g22,p22,g5,p5,g4,p4,vf,c1,c2,c3]
  simp only [Bool.and_eq_true]
  repeat' with_reducible apply And.intro
  all_goals first | exact True.intro | (as_aux_lemma=>kernel_rfl)
abbrev laid:List (String×DataW Unit):=Rows.fnClassTextsRow.laid
theorem door_met (os:Os) (args:Array Value):laidMetH Tryz.prog laid ((World.doorLaid Tryz.prog 400 os).forCall (fun _ _=>0) ⟨#[],args,[]⟩).memory :=
  laidMetH_of_parts3 (fuel:=8) (laidMet_of_run' 8 (by kernel_rfl) (by kernel_rfl)) (by kernel_rfl) (by kernel_rfl)
theorem tab_of {W:World} (h:laidMetH Tryz.prog laid W):TabH Tryz.prog (pw W):=by
  have hL:laidMet Tryz.prog laid W:=by
    rw [MakeChecks.laidMetH_plain _ _ _ (by kernel_rfl)] at h; exact h
  have hg':Tryz.prog.globalNamed "internal/strconv.uint64pow10" = some 0:=by kernel_rfl
  exact TabH.of (Lib.tabIs_of_head (rest:=laid.drop 3) (n:=20) hg' (by kernel_rfl:(Tryz.prog.globals[0]?).map (·.type)=some 174) Tryz.underlying174 Tryz.underlying53 (by kernel_rfl) (by kernel_rfl) (laidMet.tail (laidMet.tail hL)))
theorem lifted (os:Os) (started:os.Started) (H:Type) (enc:TypeId×Value→H) :
    ReturnsInHanded {} Tryz.checked os 3 .any (fun w args=>(Rows.fnClassTextsSpec.pre enc Tryz.prog Tryz.f3 Rows.fnClassTextsRow.domain false w args∧laidMetH Tryz.prog laid w)∧sizedMet enc Tryz.prog Tryz.f3 (OpenSpec.ofChange Rows.fnClassTextsSpec) false w args) (Rows.fnClassTextsSpec.post enc Tryz.prog Tryz.f3 false true false false):=by
  refine returnsInHanded_of_change_and (C:=Tryz.checked) (X:=fun w _=>laidMetH Tryz.prog laid w) (fun _ _ _ hh h=>h.of_heap hh) own started (by kernel_rfl) Tryz.func3
    (ChangeSpec.witness_shaped (enc:=enc) (C:=Tryz.checked) (os:=os) (X:=fun w _=>laidMetH Tryz.prog laid w) false (World.doorLaid Tryz.prog 400 os) #[.slice none 0 0,.slice none 0 0] 8 rfl (World.shaped_of_RefB (by kernel_rfl) (by kernel_rfl)) (by kernel_rfl) (by kernel_rfl) (by kernel_rfl) (door_met os _)) ?_
  intro W base args ds gs before hval0 hW hcnd _ hL _
  have hval:∀ (j:Nat) t v,Tryz.f3.params[j]?=some t→args[j]?=some v→Value.okWide Tryz.prog W .any base t v:=hval0
  have hW':=hW
  obtain ⟨p,q,hA0,hV,rfl,hfz,hnd⟩:=hW
  have hA:DataW.TrodAll enc Tryz.prog W 0 (fun _=>true) true Tryz.f3.params.toList args.toList ds p:=hA0
  rw [Tryz.params3] at hA hval
  obtain ⟨v0,vs0,d0,ds0,p0,q0,hargs,rfl,rfl,h0,r0⟩:=trodAll_cons hA
  obtain ⟨v1,vs1,d1,ds1,p1,q1,rfl,rfl,rfl,h1,r1⟩:=trodAll_cons r0
  obtain ⟨rfl,rfl,rfl⟩:=trodAll_nil r1
  obtain rfl:args=#[v0,v1]:=by cases args; simp_all
  obtain ⟨rfl,rfl⟩:=trodVars_none hV
  obtain ⟨a0,rv0,wf0⟩:=opn22.open (hval 0 22 v0 rfl rfl) h0
  obtain ⟨a1,rv1,wf1⟩:=opn22.open (hval 1 22 v1 rfl rfl) h1
  clear hA0 hval0
  refine Calls.mono (laws_FnClassTexts_w a0 a1 _ (lawClassTexts a0 a1 wf0 wf1) W rv0.slice (pw_sub W) rv1.slice (pw_sub W) (tab_of hL) (pw_sub W)) fun e W' h=>?_
  cases e with
  | returned v =>
    obtain ⟨r,hr,rfl,bel0⟩:=h
    have bel:=bel0.below
    subst hr
    exact ⟨_,rfl,_,_,_,[],_,[],hW',trodAll_mk1 (shut_bool Tryz.underlying4 _),(trodAll_cons_mk (Below.trod laidOut rr22 hr22 h0 bel (trod_lt' h0)) (trodAll_cons_mk (Below.trod laidOut rr22 hr22 h1 bel (trod_lt' h1)) trodAll_mk0)),rfl,bel.frame _,fun h=>by cases h⟩
  | _=>exact h.elim
theorem over:Rows.fnClassTextsRow.holds Tryz.pinned (OpenSpec.ofChange Rows.fnClassTextsSpec) :=
  OpenClaim.holds_of_wide 3 Tryz.f3 rfl rfl rfl rfl rfl rfl rfl ⟨rfl,rfl,rfl,rfl,rfl⟩ rfl rfl rfl rfl rfl (by kernel_rfl) Tryz.func3 closed
    (of_decide_eq_true (by kernel_rfl)) (by unfold Func.isWrapper; first | (rw [if_pos (by decide +kernel)]; kernel_rfl) | (rw [if_neg (by decide +kernel)]; exact ⟨rfl,rfl⟩))
    (fun os started H enc _=>lifted os started H enc)
/-- The statement: the tied card. -/
theorem proved:Rows.FnClassTextsCardSaid :=
  Claim7.holds_tied_plain_at .later [] [.data,.data,.data] true (true, "1ee795813b9cb1706cbe447102390b691aad9b1b2f357eb072573df8042afcdf") false over (fun _ h=>by cases h) (by kernel_rfl) (fun _ h=>by cases h) fnClassTexts_row_tie rfl ⟨rfl,rfl⟩ (by kernel_rfl) rfl
    (fun f fn hf hfn=>by
      obtain rfl:f=3:=Option.some.inj ((show Tryz.prog.funcNamed Rows.fnClassTextsRow.func=some 3 by kernel_rfl).symm.trans hf) |>.symm
      obtain rfl:fn=Tryz.f3:=(Option.some.inj (Tryz.func3.symm.trans hfn)).symm
      exact ⟨by kernel_rfl,fun j t ht=>by
        rw [Tryz.params3] at ht
        have hm:t∈[22,22]:=by simpa using Array.mem_of_getElem? ht
        have hall:([22,22].all fun u => !Tryz.prog.wantsStandIn u)=true:=by kernel_rfl
        exact (show Tryz.prog.wantsStandIn t=false by simpa using List.all_eq_true.1 hall t hm)⟩)
    (by kernel_rfl)
#print axioms proved
end Go.Proofs.YtfnmhknnliahoaaGreatDoor.fnClassTexts
