/- The walks, further. -/
import Derived.Test.YtbegmfmabcpofaaAWalk
set_option linter.unusedVariables false
set_option autoImplicit false
namespace Go.Proofs.Ytbegmfmabcpofaa
open Go Go.RowKit Go.Gv

open Go.Proofs
set_option maxRecDepth 8000 in
set_option maxHeartbeats 4000000 in
theorem impl_maskOf_w (seeds : List (List Int)) (i : Int) (round : Int) (n : Int) (m : Int) (Q : (List Int) → Prop) (H : impl_maskOf seeds i round n m Q) (w : World) {vx : Value} {hx : PH} (r : RS hx vx seeds) (ex : Sub hx w) :
    CallsTo Try.prog 121 #[vx, I i, I round, I n, I m] w fun v w' => ∃ r0 u0 g0, Q r0 ∧ v = u0 ∧ Ext w w' ∧ OS 3 g0 emp u0 r0 ∧ Sub g0 w' ∧ Fresh w.heap.size g0 := by
  obtain ⟨a, c, rfl⟩ := r.shape
  refine enter (args := [.slice a (List.length seeds) c, I i, I round, I n, I m]) 62 Try.func121 rfl rfl rfl ?_
  refine W_forget [(0, .slice a (List.length seeds) c), (1, I i), (2, I round), (3, I n), (4, I m)] ⟨rfl, rfl, rfl, rfl, rfl, trivial⟩ fun ρ => ?_
  have X := But.refl emp w
  refine W_seq ?_
  refine W_region ?_
  refine LP_ev ok 0 [(10, .slice none 0 0)] 1 rfl rfl ?_
  refine LP_end _ rfl ?_
  refine W_seq ?_
  refine W_region ?_
  refine LP_ev ok 0 [(13, I n)] 1 rfl rfl ?_
  obtain ⟨hn, hb, H⟩ := H
  refine LP_make (α := Int) 1 rfl rfl rfl Try.underlying22 ti_3 (x0 := (0 : Int)) rfl rfl hn (by first | omega | (simp only [ln] at *; omega)) (by first | omega | (simp only [ln] at *; omega)) fun hx1 vx2 wx x o ex3 f => ?_
  obtain ⟨a4, c5, rfl⟩ := o.shape
  refine LP_ev ok 2 [(11, .slice a4 (List.length (List.replicate (Int.toNat n) ((0 : Int)))) c5)] 3 rfl rfl ?_
  refine LP_end _ rfl ?_
  refine W_seq ?_
  refine W_seq ?_
  refine W_region ?_
  refine LP_ev ok 0 [(15, .slice a (List.length seeds) c), (16, I (ln seeds)), (17, I 0)] 3 rfl rfl ?_
  refine LP_end _ rfl ?_
  refine W_block ?_
  obtain ⟨J, m15, Hx, H⟩ := H
  have X16 := (X.stepx x)
  have f17 := f.mono X.size
  have ex18 := (ex.ext x)
  refine W_loop (S := (List Int) × Int) (fun s ρ' w' => J s.1 s.2 ∧ ∃ (ρ : Env) (hx7 : PH), ρ' = setAll [(0, .slice a (List.length seeds) c), (1, I i), (2, I round), (3, I n), (4, I m), (11, .slice a4 (List.length (List.replicate (Int.toNat n) ((0 : Int)))) c5), (16, I (ln seeds)), (17, I s.2)] ρ ∧ But emp w w' ∧ OS 3 hx7 emp (.slice a4 (List.length (List.replicate (Int.toNat n) ((0 : Int)))) c5) s.1 ∧ Sub hx7 w' ∧ Fresh w.heap.size hx7 ∧ Sub hx w' ∧ Dj hx7 hx) (fun s => m15 s.1 s.2) (List.replicate (Int.toNat n) ((0 : Int)), 0) ⟨Hx, _, hx1, env_eq ⟨rfl, rfl, rfl, rfl, rfl, rfl, rfl, rfl, trivial⟩, X16, o, ex3, f17, ex18, (Dj.of_fresh ex f).symm⟩ ?_
  rintro ⟨out, x11⟩ _ wx12 ⟨Hi, ρ, hx7, rfl, X14, o8, ex9, f10, ex13, d⟩
  have H := H out x11 Hi
  refine W_seq ?_
  refine W_region ?_
  refine LP_ev ok 0 [(18, .bool (decide (x11 < (ln seeds))))] 1 rfl rfl ?_
  refine LP_end _ rfl ?_
  refine W_seq ?_
  refine W_cond (decide (x11 < (ln seeds))) rfl (fun hc => ?_) (fun hc => ?_)
  · have H := H.1 hc
    refine W_skip ?_
    obtain ⟨k, hk, H⟩ := jn_elim H
    refine W_join2 (S := (List Int)) (fun s ρ' w' => k s ∧ ∃ (ρ : Env) (hx21 : PH), ρ' = setAll [(0, .slice a (List.length seeds) c), (1, I i), (2, I round), (3, I n), (4, I m), (11, .slice a4 (List.length (List.replicate (Int.toNat n) ((0 : Int)))) c5), (16, I (ln seeds)), (17, I x11)] ρ ∧ But emp w w' ∧ OS 3 hx21 emp (.slice a4 (List.length (List.replicate (Int.toNat n) ((0 : Int)))) c5) s ∧ Sub hx21 w' ∧ Fresh w.heap.size hx21 ∧ Sub hx w' ∧ Dj hx21 hx) ?_ ?_
    · refine W_block ?_
      refine W_seq ?_
      refine W_region ?_
      refine LP_ev ok 0 [(19, I x11), (12, I x11)] 2 rfl rfl ?_
      refine LP_end _ rfl ?_
      refine W_block ?_
      refine W_seq ?_
      refine W_region ?_
      refine LP_ev ok 0 [(21, I x11), (22, I i), (23, .bool (decide (x11 > i))), (20, .bool (decide (x11 > i)))] 4 rfl rfl ?_
      refine LP_end _ rfl ?_
      refine W_cond (decide (x11 > i)) rfl (fun hc29 => ?_) (fun hc29 => ?_)
      · have H := H.1 hc29
        refine W_region ?_
        refine LP_ev ok 0 [(24, .slice a4 (List.length (List.replicate (Int.toNat n) ((0 : Int)))) c5), (25, .slice a (List.length seeds) c), (26, I i)] 3 rfl rfl ?_
        obtain ⟨x30, hi, hx31, H⟩ := H
        refine LP_index 3 rfl rfl rfl Try.underlying49 ti_22 rfl rfl r hi hx31 fun a32 cs r33 d34 => ?_
        refine LP_load 4 rfl rfl rfl ti_22 ag_22 rfl r33 d34 ex13 fun vx35 r36 => ?_
        have r39 := r36.slice
        obtain ⟨a37, c38, rfl⟩ := r39.shape
        refine LP_ev ok 5 [(29, I x11)] 6 rfl rfl ?_
        obtain ⟨x40, hi41, hx42, H⟩ := H
        refine LP_index 6 rfl rfl rfl Try.underlying22 ti_3 rfl rfl r39 hi41 hx42 fun a43 cs44 r45 d46 => ?_
        refine LP_load 7 rfl rfl rfl ti_3 ag_3 rfl r45 d46 ex13 fun vx47 r48 => ?_
        obtain rfl := r48.int
        refine LP_ev ok 8 [(32, I i), (33, I x11), (34, I round), (35, I n), (36, I m)] 13 rfl rfl ?_
        refine LP_call 13 rfl rfl rfl cal_87 rfl (impl_pairMask_w _ _ _ _ _ _ _ H wx12 ) ?_
        rintro _ wx50 ⟨r49, vx52, hx53, H, rfl, x51, o54, ex55, f56⟩
        obtain ⟨a57, c58, rfl⟩ := o54.shape
        refine LP_ev ok 14 [(38, I m)] 15 rfl rfl ?_
        have ex60 := (ex9.ext x51)
        refine LP_call 15 rfl rfl rfl cal_129 rfl (impl_combine_w _ _ _ _ _ H wx50 o8 ex60 o54.readf ex55 (Dj.of_fresh ex9 f56)) ?_
        rintro _ wx61 ⟨r59, hx63, H, rfl, x62, o64, ex65, dm⟩
        refine LP_end _ rfl ?_
        have X68 := ((X14.stepx x51).step x62 (f10.dom _))
        have X70 := (X14.stepx x51)
        have f69 := (dm _).fresh f10 X70.size
        have ex71 := ((ex13.ext x51).but x62 d)
        have ex72 := (ex13.ext x51)
        exact ⟨r59, H, _, hx63, env_eq ⟨rfl, rfl, rfl, rfl, rfl, rfl, rfl, rfl, trivial⟩, X68, o64, ex65, f69, ex71, (DomLe.dj (dm _) d ex72)⟩
      have H := H.2 hc29
      refine W_seq ?_
      refine W_region ?_
      refine LP_ev ok 0 [(41, I x11), (42, I i), (43, .bool (decide (x11 < i))), (40, .bool (decide (x11 < i)))] 4 rfl rfl ?_
      refine LP_end _ rfl ?_
      refine W_cond (decide (x11 < i)) rfl (fun hc73 => ?_) (fun hc73 => ?_)
      · have H := H.1 hc73
        refine W_region ?_
        refine LP_ev ok 0 [(44, .slice a4 (List.length (List.replicate (Int.toNat n) ((0 : Int)))) c5), (45, .slice a (List.length seeds) c), (46, I i)] 3 rfl rfl ?_
        obtain ⟨x74, hi75, hx76, H⟩ := H
        refine LP_index 3 rfl rfl rfl Try.underlying49 ti_22 rfl rfl r hi75 hx76 fun a77 cs78 r79 d80 => ?_
        refine LP_load 4 rfl rfl rfl ti_22 ag_22 rfl r79 d80 ex13 fun vx81 r82 => ?_
        have r85 := r82.slice
        obtain ⟨a83, c84, rfl⟩ := r85.shape
        refine LP_ev ok 5 [(49, I x11)] 6 rfl rfl ?_
        obtain ⟨x86, hi87, hx88, H⟩ := H
        refine LP_index 6 rfl rfl rfl Try.underlying22 ti_3 rfl rfl r85 hi87 hx88 fun a89 cs90 r91 d92 => ?_
        refine LP_load 7 rfl rfl rfl ti_3 ag_3 rfl r91 d92 ex13 fun vx93 r94 => ?_
        obtain rfl := r94.int
        refine LP_ev ok 8 [(52, I x11), (53, I i), (54, I round), (55, I n), (56, I m)] 13 rfl rfl ?_
        refine LP_call 13 rfl rfl rfl cal_87 rfl (impl_pairMask_w _ _ _ _ _ _ _ H wx12 ) ?_
        rintro _ wx96 ⟨r95, vx98, hx99, H, rfl, x97, o100, ex101, f102⟩
        obtain ⟨a103, c104, rfl⟩ := o100.shape
        refine LP_ev ok 14 [(58, I m)] 15 rfl rfl ?_
        have ex106 := (ex9.ext x97)
        refine LP_call 15 rfl rfl rfl cal_129 rfl (impl_combine_w _ _ _ _ _ H wx96 o8 ex106 o100.readf ex101 (Dj.of_fresh ex9 f102)) ?_
        rintro _ wx107 ⟨r105, hx109, H, rfl, x108, o110, ex111, dm112⟩
        refine LP_end _ rfl ?_
        try refine W_forget [(0, .slice a (List.length seeds) c), (1, I i), (2, I round), (3, I n), (4, I m), (11, .slice a4 (List.length (List.replicate (Int.toNat n) ((0 : Int)))) c5), (16, I (ln seeds)), (17, I x11)] ⟨rfl, rfl, rfl, rfl, rfl, rfl, rfl, rfl, trivial⟩ fun ρ => ?_
        have X116 := ((X14.stepx x97).step x108 (f10.dom _))
        have X118 := (X14.stepx x97)
        have f117 := (dm112 _).fresh f10 X118.size
        have ex119 := ((ex13.ext x97).but x108 d)
        have ex120 := (ex13.ext x97)
        exact ⟨r105, H, _, hx109, env_eq ⟨rfl, rfl, rfl, rfl, rfl, rfl, rfl, rfl, trivial⟩, X116, o110, ex111, f117, ex119, (DomLe.dj (dm112 _) d ex120)⟩
      have H := H.2 hc73
      refine W_skip ?_
      exact ⟨out, H, _, hx7, env_eq ⟨rfl, rfl, rfl, rfl, rfl, rfl, rfl, rfl, trivial⟩, X14, o8, ex9, f10, ex13, d⟩
    rintro out19 _ wx25 ⟨H, ρ, hx21, rfl, X28, o22, ex23, f24, ex26, d27⟩
    subst hk
    refine W_region ?_
    refine LP_ev ok 0 [(60, I (wr (x11 + 1))), (17, I (wr (x11 + 1)))] 2 rfl rfl ?_
    refine LP_end _ rfl ?_
    exact ⟨(out19, wr (x11 + 1)), ⟨H.1, _, hx21, env_eq ⟨rfl, rfl, rfl, rfl, rfl, rfl, rfl, rfl, trivial⟩, X28, o22, ex23, f24, ex26, d27⟩, H.2⟩
  have H := H.2 hc
  refine W_exit ?_
  refine (if_pos rfl).mpr ?_
  refine W_seq ?_
  refine W_region ?_
  refine LP_ev ok 0 [(61, .slice a4 (List.length (List.replicate (Int.toNat n) ((0 : Int)))) c5), (10, .slice a4 (List.length (List.replicate (Int.toNat n) ((0 : Int)))) c5)] 2 rfl rfl ?_
  refine LP_end _ rfl ?_
  refine W_ret ?_
  exact ⟨_, Ret_of [.slice a4 (List.length (List.replicate (Int.toNat n) ((0 : Int)))) c5] ⟨⟨rfl, rfl⟩, trivial⟩, _, _, _, H, rfl, X14.ext, o8, ex9, f10⟩

set_option maxRecDepth 8000 in
set_option maxHeartbeats 4000000 in
theorem impl_MaskOf_w (seeds : List (List Int)) (i : Int) (round : Int) (n : Int) (m : Int) (Q : (List Int) → Bool → Prop) (H : impl_MaskOf seeds i round n m Q) (w : World) {vx : Value} {hx : PH} (r : RS hx vx seeds) (ex : Sub hx w) :
    CallsTo Try.prog 58 #[vx, I i, I round, I n, I m] w fun v w' => ∃ r0 r1 u0 g0, Q r0 r1 ∧ v = .tuple #[u0, .bool r1] ∧ Ext w w' ∧ OS 3 g0 emp u0 r0 ∧ Sub g0 w' ∧ Fresh w.heap.size g0 := by
  obtain ⟨a, c, rfl⟩ := r.shape
  refine enter (args := [.slice a (List.length seeds) c, I i, I round, I n, I m]) 46 Try.func58 rfl rfl rfl ?_
  refine W_forget [(0, .slice a (List.length seeds) c), (1, I i), (2, I round), (3, I n), (4, I m)] ⟨rfl, rfl, rfl, rfl, rfl, trivial⟩ fun ρ => ?_
  have X := But.refl emp w
  refine W_seq ?_
  refine W_region ?_
  refine LP_ev ok 0 [(10, .slice none 0 0), (11, .bool false)] 2 rfl rfl ?_
  refine LP_end _ rfl ?_
  refine W_seq ?_
  obtain ⟨k, hk, H⟩ := jn_elim H
  refine W_join2 (S := Bool) (fun s ρ' w' => k s ∧ ∃ (ρ : Env), ρ' = setAll [(0, .slice a (List.length seeds) c), (1, I i), (2, I round), (3, I n), (4, I m), (39, .bool s)] ρ ∧ But emp w w' ∧ Sub hx w') ?_ ?_
  · refine W_region ?_
    refine LP_ev ok 0 [(12, .slice a (List.length seeds) c)] 1 rfl rfl ?_
    refine LP_call 1 rfl rfl rfl cal_120 rfl (impl_areSeedRows_w _ _ H w r ex) ?_
    rintro _ wx4 ⟨r3, H, rfl, x5⟩
    refine LP_ev ok 2 [(14, .bool (!r3)), (15, .bool (!r3))] 4 rfl rfl ?_
    refine LP_split 15 (!r3) rfl (fun hc => ?_) (fun hc => ?_)
    · have H := H.1 hc
      refine LP_ev ok 4 [(16, undef), (17, undef), (18, .bool true), (19, .bool true), (20, undef), (21, undef), (22, undef), (23, undef), (24, .bool true), (25, .bool true), (26, undef), (27, undef), (28, undef), (29, .bool true), (30, .bool true), (31, undef), (32, undef), (33, undef), (34, .bool true), (35, .bool true), (36, undef), (37, undef), (38, undef), (39, .bool true)] 28 rfl rfl ?_
      refine LP_end _ rfl ?_
      try refine W_forget [(0, .slice a (List.length seeds) c), (1, I i), (2, I round), (3, I n), (4, I m), (39, .bool true)] ⟨rfl, rfl, rfl, rfl, rfl, rfl, trivial⟩ fun ρ => ?_
      have X6 := (X.stepx x5)
      have ex7 := (ex.ext x5)
      exact ⟨true, H, _, env_eq ⟨rfl, rfl, rfl, rfl, rfl, rfl, trivial⟩, X6, ex7⟩
    have H := H.2 hc
    refine LP_ev ok 4 [(16, I i), (17, .bool (decide (i < 0))), (18, .bool (decide (i < 0))), (19, .bool (decide (i < 0)))] 8 rfl rfl ?_
    refine LP_split 19 (decide (i < 0)) rfl (fun hc8 => ?_) (fun hc8 => ?_)
    · have H := H.1 hc8
      refine LP_ev ok 8 [(20, undef), (21, undef), (22, undef), (23, undef), (24, .bool true), (25, .bool true), (26, undef), (27, undef), (28, undef), (29, .bool true), (30, .bool true), (31, undef), (32, undef), (33, undef), (34, .bool true), (35, .bool true), (36, undef), (37, undef), (38, undef), (39, .bool true)] 28 rfl rfl ?_
      refine LP_end _ rfl ?_
      try refine W_forget [(0, .slice a (List.length seeds) c), (1, I i), (2, I round), (3, I n), (4, I m), (39, .bool true)] ⟨rfl, rfl, rfl, rfl, rfl, rfl, trivial⟩ fun ρ => ?_
      have X9 := (X.stepx x5)
      have ex10 := (ex.ext x5)
      exact ⟨true, H, _, env_eq ⟨rfl, rfl, rfl, rfl, rfl, rfl, trivial⟩, X9, ex10⟩
    have H := H.2 hc8
    refine LP_ev ok 8 [(20, I i), (21, .slice a (List.length seeds) c), (22, I (ln seeds)), (23, .bool (decide (i ≥ (ln seeds)))), (24, .bool (decide (i ≥ (ln seeds)))), (25, .bool (decide (i ≥ (ln seeds))))] 14 rfl rfl ?_
    refine LP_split 25 (decide (i ≥ (ln seeds))) rfl (fun hc11 => ?_) (fun hc11 => ?_)
    · have H := H.1 hc11
      refine LP_ev ok 14 [(26, undef), (27, undef), (28, undef), (29, .bool true), (30, .bool true), (31, undef), (32, undef), (33, undef), (34, .bool true), (35, .bool true), (36, undef), (37, undef), (38, undef), (39, .bool true)] 28 rfl rfl ?_
      refine LP_end _ rfl ?_
      try refine W_forget [(0, .slice a (List.length seeds) c), (1, I i), (2, I round), (3, I n), (4, I m), (39, .bool true)] ⟨rfl, rfl, rfl, rfl, rfl, rfl, trivial⟩ fun ρ => ?_
      have X12 := (X.stepx x5)
      have ex13 := (ex.ext x5)
      exact ⟨true, H, _, env_eq ⟨rfl, rfl, rfl, rfl, rfl, rfl, trivial⟩, X12, ex13⟩
    have H := H.2 hc11
    refine LP_ev ok 14 [(26, I round)] 15 rfl rfl ?_
    refine LP_call 15 rfl rfl rfl cal_85 rfl (impl_isRound_w _ _ H wx4 ) ?_
    rintro _ wx15 ⟨r14, H, rfl, x16⟩
    refine LP_ev ok 16 [(28, .bool (!r14)), (29, .bool (!r14)), (30, .bool (!r14))] 19 rfl rfl ?_
    refine LP_split 30 (!r14) rfl (fun hc17 => ?_) (fun hc17 => ?_)
    · have H := H.1 hc17
      refine LP_ev ok 19 [(31, undef), (32, undef), (33, undef), (34, .bool true), (35, .bool true), (36, undef), (37, undef), (38, undef), (39, .bool true)] 28 rfl rfl ?_
      refine LP_end _ rfl ?_
      try refine W_forget [(0, .slice a (List.length seeds) c), (1, I i), (2, I round), (3, I n), (4, I m), (39, .bool true)] ⟨rfl, rfl, rfl, rfl, rfl, rfl, trivial⟩ fun ρ => ?_
      have X18 := ((X.stepx x5).stepx x16)
      have ex19 := ((ex.ext x5).ext x16)
      exact ⟨true, H, _, env_eq ⟨rfl, rfl, rfl, rfl, rfl, rfl, trivial⟩, X18, ex19⟩
    have H := H.2 hc17
    refine LP_ev ok 19 [(31, I n)] 20 rfl rfl ?_
    refine LP_call 20 rfl rfl rfl cal_86 rfl (impl_isLength_w _ _ H wx15 ) ?_
    rintro _ wx21 ⟨r20, H, rfl, x22⟩
    refine LP_ev ok 21 [(33, .bool (!r20)), (34, .bool (!r20)), (35, .bool (!r20))] 24 rfl rfl ?_
    refine LP_split 35 (!r20) rfl (fun hc23 => ?_) (fun hc23 => ?_)
    · have H := H.1 hc23
      refine LP_ev ok 24 [(36, undef), (37, undef), (38, undef), (39, .bool true)] 28 rfl rfl ?_
      refine LP_end _ rfl ?_
      try refine W_forget [(0, .slice a (List.length seeds) c), (1, I i), (2, I round), (3, I n), (4, I m), (39, .bool true)] ⟨rfl, rfl, rfl, rfl, rfl, rfl, trivial⟩ fun ρ => ?_
      have X24 := (((X.stepx x5).stepx x16).stepx x22)
      have ex25 := (((ex.ext x5).ext x16).ext x22)
      exact ⟨true, H, _, env_eq ⟨rfl, rfl, rfl, rfl, rfl, rfl, trivial⟩, X24, ex25⟩
    have H := H.2 hc23
    refine LP_ev ok 24 [(36, I m)] 25 rfl rfl ?_
    refine LP_call 25 rfl rfl rfl cal_79 rfl (impl_isModulus_w _ _ H wx21 ) ?_
    rintro _ wx27 ⟨r26, H, rfl, x28⟩
    refine LP_ev ok 26 [(38, .bool (!r26)), (39, .bool (!r26))] 28 rfl rfl ?_
    refine LP_end _ rfl ?_
    try refine W_forget [(0, .slice a (List.length seeds) c), (1, I i), (2, I round), (3, I n), (4, I m), (39, .bool (!r26))] ⟨rfl, rfl, rfl, rfl, rfl, rfl, trivial⟩ fun ρ => ?_
    have X29 := ((((X.stepx x5).stepx x16).stepx x22).stepx x28)
    have ex30 := ((((ex.ext x5).ext x16).ext x22).ext x28)
    exact ⟨!r26, H, _, env_eq ⟨rfl, rfl, rfl, rfl, rfl, rfl, trivial⟩, X29, ex30⟩
  rintro x _ wx ⟨H, ρ, rfl, X2, ex1⟩
  subst hk
  refine W_cond (x) rfl (fun hc31 => ?_) (fun hc31 => ?_)
  · have H := H.1 hc31
    refine W_seq ?_
    refine W_region ?_
    refine LP_ev ok 0 [(10, .slice none 0 0), (11, .bool false)] 2 rfl rfl ?_
    refine LP_end _ rfl ?_
    refine W_ret ?_
    exact ⟨_, Ret_of [.slice none 0 0, .bool false] ⟨⟨rfl, rfl⟩, ⟨rfl, rfl⟩, trivial⟩, _, _, _, emp, H, rfl, X2.ext, OS.nil, (emp_sub _), (emp_fresh _)⟩
  have H := H.2 hc31
  refine W_skip ?_
  refine W_seq ?_
  refine W_region ?_
  refine LP_ev ok 0 [(40, .slice a (List.length seeds) c), (41, I i), (42, I round), (43, I n), (44, I m)] 5 rfl rfl ?_
  refine LP_call 5 rfl rfl rfl cal_121 rfl (impl_maskOf_w _ _ _ _ _ _ H wx r ex1) ?_
  rintro _ wx33 ⟨r32, vx35, hx36, H, rfl, x34, o, ex37, f⟩
  obtain ⟨a38, c39, rfl⟩ := o.shape
  refine LP_ev ok 6 [(10, .slice a38 (List.length r32) c39), (11, .bool true)] 8 rfl rfl ?_
  refine LP_end _ rfl ?_
  refine W_ret ?_
  have f40 := f.mono X2.size
  have X41 := (X2.stepx x34)
  exact ⟨_, Ret_of [.slice a38 (List.length r32) c39, .bool true] ⟨⟨rfl, rfl⟩, ⟨rfl, rfl⟩, trivial⟩, _, _, _, _, H, rfl, X41.ext, o, ex37, f40⟩

set_option maxRecDepth 8000 in
set_option maxHeartbeats 4000000 in
theorem laws_FnExactMaskOf_w (aSeeds : List (List Int)) (aI : Int) (aRound : Int) (aN : Int) (aM : Int) (Q : Bool → Prop) (H : laws_FnExactMaskOf aSeeds aI aRound aN aM Q) (w : World) {vx : Value} {hx : PH} (r : RS hx vx aSeeds) (ex : Sub hx w) :
    CallsTo Try.prog 14 #[vx, I aI, I aRound, I aN, I aM] w fun v w' => ∃ r0, Q r0 ∧ v = .bool r0 ∧ Ext w w' := by
  obtain ⟨a, c, rfl⟩ := r.shape
  refine enter (args := [.slice a (List.length aSeeds) c, I aI, I aRound, I aN, I aM]) 116 Try.func14 rfl rfl rfl ?_
  refine W_forget [(0, .slice a (List.length aSeeds) c), (1, I aI), (2, I aRound), (3, I aN), (4, I aM)] ⟨rfl, rfl, rfl, rfl, rfl, trivial⟩ fun ρ => ?_
  have X := But.refl emp w
  refine W_seq ?_
  refine W_region ?_
  refine LP_ev ok 0 [(10, .bool false)] 1 rfl rfl ?_
  refine LP_end _ rfl ?_
  refine W_seq ?_
  refine W_region ?_
  refine LP_ev ok 0 [(11, I 1048576)] 1 rfl rfl ?_
  refine LP_end _ rfl ?_
  refine W_seq ?_
  refine W_region ?_
  refine LP_ev ok 0 [(22, .slice a (List.length aSeeds) c), (23, I 1048576)] 2 rfl rfl ?_
  refine LP_call 2 rfl rfl rfl cal_39 rfl (laws_szIntSS_w _ _ _ H w r ex) ?_
  rintro _ wx ⟨r1, H, rfl, x⟩
  refine LP_ev ok 3 [(11, I r1)] 4 rfl rfl ?_
  refine LP_end _ rfl ?_
  refine W_seq ?_
  refine W_seq ?_
  refine W_region ?_
  refine LP_ev ok 0 [(25, I r1), (26, .bool (decide (r1 < 0)))] 2 rfl rfl ?_
  refine LP_end _ rfl ?_
  refine W_cond (decide (r1 < 0)) rfl (fun hc => ?_) (fun hc => ?_)
  · have H := H.1 hc
    refine W_seq ?_
    refine W_region ?_
    refine LP_ev ok 0 [(10, .bool true)] 1 rfl rfl ?_
    refine LP_end _ rfl ?_
    refine W_ret ?_
    have X2 := (X.stepx x)
    exact ⟨_, Ret_of [.bool true] ⟨⟨rfl, rfl⟩, trivial⟩, _, H, rfl, X2.ext⟩
  have H := H.2 hc
  refine W_skip ?_
  refine W_seq ?_
  refine W_region ?_
  refine LP_ev ok 0 [(28, .slice a (List.length aSeeds) c)] 1 rfl rfl ?_
  have ex4 := (ex.ext x)
  refine LP_call 1 rfl rfl rfl cal_41 rfl (laws_toIntSS_w _ _ H wx r ex4) ?_
  rintro _ wx5 ⟨r3, vx7, hx8, H, rfl, x6, o, ex9, f⟩
  obtain ⟨a10, c11, rfl⟩ := o.shape
  refine LP_ev ok 2 [(30, I aI), (31, I aRound), (32, I aN), (33, I aM)] 6 rfl rfl ?_
  refine LP_call 6 rfl rfl rfl cal_57 rfl (spec_MaskOf_w _ _ _ _ _ _ H wx5 o.readf ex9) ?_
  rintro _ wx14 ⟨r12, r13, vx16, hx17, H, rfl, x15, o18, ex19, f20⟩
  obtain ⟨a21, c22, rfl⟩ := o18.shape
  refine LP_ev ok 7 [(27, .tuple #[.slice a21 (List.length r12) c22, .bool r13]), (35, .slice a21 (List.length r12) c22), (36, .bool r13), (12, .slice a21 (List.length r12) c22), (13, .bool r13)] 12 rfl rfl ?_
  refine LP_end _ rfl ?_
  refine W_seq ?_
  refine W_region ?_
  refine LP_ev ok 0 [(37, .slice a (List.length aSeeds) c)] 1 rfl rfl ?_
  have ex24 := ((ex4.ext x6).ext x15)
  refine LP_call 1 rfl rfl rfl cal_41 rfl (laws_toIntSS_w _ _ H wx14 r ex24) ?_
  rintro _ wx25 ⟨r23, vx27, hx28, H, rfl, x26, o29, ex30, f31⟩
  obtain ⟨a32, c33, rfl⟩ := o29.shape
  refine LP_ev ok 2 [(14, .slice a32 (List.length r23) c33)] 3 rfl rfl ?_
  refine LP_end _ rfl ?_
  refine W_seq ?_
  refine W_region ?_
  refine LP_ev ok 0 [(40, .slice a32 (List.length r23) c33), (41, I aI), (42, I aRound), (43, I aN), (44, I aM)] 5 rfl rfl ?_
  refine LP_call 5 rfl rfl rfl cal_58 rfl (impl_MaskOf_w _ _ _ _ _ _ H wx25 o29.readf ex30) ?_
  rintro _ wx36 ⟨r34, r35, vx38, hx39, H, rfl, x37, o40, ex41, f42⟩
  obtain ⟨a43, c44, rfl⟩ := o40.shape
  refine LP_ev ok 6 [(39, .tuple #[.slice a43 (List.length r34) c44, .bool r35]), (46, .slice a43 (List.length r34) c44), (47, .bool r35), (15, .slice a43 (List.length r34) c44), (16, .bool r35)] 11 rfl rfl ?_
  refine LP_end _ rfl ?_
  try refine W_forget [(0, .slice a (List.length aSeeds) c), (1, I aI), (2, I aRound), (3, I aN), (4, I aM), (12, .slice a21 (List.length r12) c22), (13, .bool r13), (14, .slice a32 (List.length r23) c33), (15, .slice a43 (List.length r34) c44), (16, .bool r35)] ⟨rfl, rfl, rfl, rfl, rfl, rfl, rfl, rfl, rfl, rfl, trivial⟩ fun ρ => ?_
  refine W_seq ?_
  obtain ⟨k, hk, H⟩ := jn_elim H
  refine W_join2 (S := Bool) (fun s ρ' w' => k s ∧ ∃ (ρ : Env), ρ' = setAll [(0, .slice a (List.length aSeeds) c), (1, I aI), (2, I aRound), (3, I aN), (4, I aM), (12, .slice a21 (List.length r12) c22), (13, .bool r13), (14, .slice a32 (List.length r23) c33), (15, .slice a43 (List.length r34) c44), (16, .bool r35), (56, .bool s)] ρ ∧ But emp w w' ∧ Sub hx w' ∧ Sub hx17 w' ∧ Sub hx28 w' ∧ Sub hx39 w') ?_ ?_
  · refine W_region ?_
    refine LP_ev ok 0 [(48, .slice a43 (List.length r34) c44), (49, .slice a21 (List.length r12) c22)] 2 rfl rfl ?_
    have ex53 := ((ex19.ext x26).ext x37)
    refine LP_call 2 rfl rfl rfl cal_22 rfl (laws_eqIntS_w _ _ _ H wx36 o40.readf ex41 o18.readf ex53) ?_
    rintro _ wx54 ⟨r52, H, rfl, x55⟩
    refine LP_ev ok 3 [(51, .bool (!r52)), (52, .bool (!r52))] 5 rfl rfl ?_
    refine LP_split 52 (!r52) rfl (fun hc56 => ?_) (fun hc56 => ?_)
    · have H := H.1 hc56
      refine LP_ev ok 5 [(53, undef), (54, undef), (55, undef), (56, .bool true)] 9 rfl rfl ?_
      refine LP_end _ rfl ?_
      have X57 := ((((((X.stepx x).stepx x6).stepx x15).stepx x26).stepx x37).stepx x55)
      have ex58 := (((ex24.ext x26).ext x37).ext x55)
      have ex59 := (ex53.ext x55)
      have ex60 := ((ex30.ext x37).ext x55)
      have ex61 := (ex41.ext x55)
      exact ⟨true, H, _, env_eq ⟨rfl, rfl, rfl, rfl, rfl, rfl, rfl, rfl, rfl, rfl, rfl, trivial⟩, X57, ex58, ex59, ex60, ex61⟩
    have H := H.2 hc56
    refine LP_ev ok 5 [(53, .bool r35), (54, .bool r13), (55, .bool (r35 != r13)), (56, .bool (r35 != r13))] 9 rfl rfl ?_
    refine LP_end _ rfl ?_
    have X62 := ((((((X.stepx x).stepx x6).stepx x15).stepx x26).stepx x37).stepx x55)
    have ex63 := (((ex24.ext x26).ext x37).ext x55)
    have ex64 := (ex53.ext x55)
    have ex65 := ((ex30.ext x37).ext x55)
    have ex66 := (ex41.ext x55)
    exact ⟨r35 != r13, H, _, env_eq ⟨rfl, rfl, rfl, rfl, rfl, rfl, rfl, rfl, rfl, rfl, rfl, trivial⟩, X62, ex63, ex64, ex65, ex66⟩
  rintro x45 _ wx46 ⟨H, ρ, rfl, X51, ex47, ex48, ex49, ex50⟩
  subst hk
  refine W_cond (x45) rfl (fun hc67 => ?_) (fun hc67 => ?_)
  · have H := H.1 hc67
    refine W_seq ?_
    refine W_region ?_
    refine LP_ev ok 0 [(10, .bool false)] 1 rfl rfl ?_
    refine LP_end _ rfl ?_
    refine W_ret ?_
    exact ⟨_, Ret_of [.bool false] ⟨⟨rfl, rfl⟩, trivial⟩, _, H, rfl, X51.ext⟩
  have H := H.2 hc67
  refine W_skip ?_
  refine W_seq ?_
  refine W_seq ?_
  refine W_region ?_
  refine LP_ev ok 0 [(57, .slice a32 (List.length r23) c33), (58, .slice a (List.length aSeeds) c)] 2 rfl rfl ?_
  refine LP_call 2 rfl rfl rfl cal_41 rfl (laws_toIntSS_w _ _ H wx46 r ex47) ?_
  rintro _ wx69 ⟨r68, vx71, hx72, H, rfl, x70, o73, ex74, f75⟩
  obtain ⟨a76, c77, rfl⟩ := o73.shape
  have ex79 := (ex49.ext x70)
  refine LP_call 3 rfl rfl rfl cal_43 rfl (laws_eqIntSS_w _ _ _ H wx69 o29.readf ex79 o73.readf ex74) ?_
  rintro _ wx80 ⟨r78, H, rfl, x81⟩
  refine LP_ev ok 4 [(61, .bool (!r78))] 5 rfl rfl ?_
  refine LP_end _ rfl ?_
  refine W_cond (!r78) rfl (fun hc82 => ?_) (fun hc82 => ?_)
  · have H := H.1 hc82
    refine W_seq ?_
    refine W_region ?_
    refine LP_ev ok 0 [(10, .bool false)] 1 rfl rfl ?_
    refine LP_end _ rfl ?_
    refine W_ret ?_
    have X83 := ((X51.stepx x70).stepx x81)
    exact ⟨_, Ret_of [.bool false] ⟨⟨rfl, rfl⟩, trivial⟩, _, H, rfl, X83.ext⟩
  have H := H.2 hc82
  refine W_skip ?_
  refine W_seq ?_
  refine W_region ?_
  refine LP_ev ok 0 [(17, I 1)] 1 rfl rfl ?_
  refine LP_end _ rfl ?_
  refine W_seq ?_
  refine W_region ?_
  refine LP_ev ok 0 [(62, .slice a32 (List.length r23) c33), (63, I 1)] 2 rfl rfl ?_
  have ex86 := (ex79.ext x81)
  refine LP_call 2 rfl rfl rfl cal_44 rfl (laws_markIntSS_w _ _ _ H wx80 o29 ex86) ?_
  rintro _ wx87 ⟨r84, r85, hx89, H, rfl, x88, o90, ex91, dm⟩
  refine LP_ev ok 3 [(17, I r84)] 4 rfl rfl ?_
  refine LP_end _ rfl ?_
  refine W_seq ?_
  obtain ⟨k100, hk101, H⟩ := jn_elim H
  refine W_join2 (S := Bool) (fun s ρ' w' => k100 s ∧ ∃ (ρ : Env), ρ' = setAll [(0, .slice a (List.length aSeeds) c), (1, I aI), (2, I aRound), (3, I aN), (4, I aM), (12, .slice a21 (List.length r12) c22), (13, .bool r13), (15, .slice a43 (List.length r34) c44), (77, .bool s)] ρ ∧ But emp w w' ∧ Sub hx w' ∧ Sub hx17 w' ∧ Sub hx39 w') ?_ ?_
  · refine W_region ?_
    refine LP_ev ok 0 [(65, I r84), (66, .bool (decide (r84 < 0))), (67, .bool (decide (r84 < 0)))] 3 rfl rfl ?_
    refine LP_split 67 (decide (r84 < 0)) rfl (fun hc102 => ?_) (fun hc102 => ?_)
    · have H := H.1 hc102
      refine LP_ev ok 3 [(68, undef), (69, undef), (70, undef), (71, undef), (72, .bool true), (73, .bool true), (74, undef), (75, undef), (76, undef), (77, .bool true)] 13 rfl rfl ?_
      refine LP_end _ rfl ?_
      have X104 := (((X.stepx x).stepx x6).stepx x15)
      have f103 := f31.mono X104.size
      have X105 := (((X51.stepx x70).stepx x81).step x88 (f103.dom _))
      have ex106 := (((ex47.ext x70).ext x81).but x88 (Dj.of_fresh ex24 f31).symm)
      have ex107 := (((ex48.ext x70).ext x81).but x88 (Dj.of_fresh ex19 f31).symm)
      have ex108 := (((ex50.ext x70).ext x81).but x88 (Dj.of_fresh ex30 f42))
      exact ⟨true, H, _, env_eq ⟨rfl, rfl, rfl, rfl, rfl, rfl, rfl, rfl, rfl, trivial⟩, X105, ex106, ex107, ex108⟩
    have H := H.2 hc102
    refine LP_ev ok 3 [(68, .slice a43 (List.length r34) c44), (69, .slice a21 (List.length r12) c22)] 5 rfl rfl ?_
    have ex110 := (((ex50.ext x70).ext x81).but x88 (Dj.of_fresh ex30 f42))
    have ex111 := (((ex48.ext x70).ext x81).but x88 (Dj.of_fresh ex19 f31).symm)
    refine LP_call 5 rfl rfl rfl cal_22 rfl (laws_eqIntS_w _ _ _ H wx87 o40.readf ex110 o18.readf ex111) ?_
    rintro _ wx112 ⟨r109, H, rfl, x113⟩
    refine LP_ev ok 6 [(71, .bool (!r109)), (72, .bool (!r109)), (73, .bool (!r109))] 9 rfl rfl ?_
    refine LP_split 73 (!r109) rfl (fun hc114 => ?_) (fun hc114 => ?_)
    · have H := H.1 hc114
      refine LP_ev ok 9 [(74, undef), (75, undef), (76, undef), (77, .bool true)] 13 rfl rfl ?_
      refine LP_end _ rfl ?_
      have X116 := (((X.stepx x).stepx x6).stepx x15)
      have f115 := f31.mono X116.size
      have X117 := ((((X51.stepx x70).stepx x81).step x88 (f115.dom _)).stepx x113)
      have ex118 := ((((ex47.ext x70).ext x81).but x88 (Dj.of_fresh ex24 f31).symm).ext x113)
      have ex119 := (ex111.ext x113)
      have ex120 := (ex110.ext x113)
      exact ⟨true, H, _, env_eq ⟨rfl, rfl, rfl, rfl, rfl, rfl, rfl, rfl, rfl, trivial⟩, X117, ex118, ex119, ex120⟩
    have H := H.2 hc114
    refine LP_ev ok 9 [(74, .bool r35), (75, .bool r13), (76, .bool (r35 != r13)), (77, .bool (r35 != r13))] 13 rfl rfl ?_
    refine LP_end _ rfl ?_
    have X122 := (((X.stepx x).stepx x6).stepx x15)
    have f121 := f31.mono X122.size
    have X123 := ((((X51.stepx x70).stepx x81).step x88 (f121.dom _)).stepx x113)
    have ex124 := ((((ex47.ext x70).ext x81).but x88 (Dj.of_fresh ex24 f31).symm).ext x113)
    have ex125 := (ex111.ext x113)
    have ex126 := (ex110.ext x113)
    exact ⟨r35 != r13, H, _, env_eq ⟨rfl, rfl, rfl, rfl, rfl, rfl, rfl, rfl, rfl, trivial⟩, X123, ex124, ex125, ex126⟩
  rintro x94 _ wx95 ⟨H, ρ, rfl, X99, ex96, ex97, ex98⟩
  subst hk101
  refine W_cond (x94) rfl (fun hc127 => ?_) (fun hc127 => ?_)
  · have H := H.1 hc127
    refine W_seq ?_
    refine W_region ?_
    refine LP_ev ok 0 [(10, .bool false)] 1 rfl rfl ?_
    refine LP_end _ rfl ?_
    refine W_ret ?_
    exact ⟨_, Ret_of [.bool false] ⟨⟨rfl, rfl⟩, trivial⟩, _, H, rfl, X99.ext⟩
  have H := H.2 hc127
  refine W_skip ?_
  refine W_seq ?_
  refine W_region ?_
  refine LP_ev ok 0 [(18, I 1)] 1 rfl rfl ?_
  refine LP_end _ rfl ?_
  refine W_seq ?_
  refine W_region ?_
  refine LP_ev ok 0 [(78, .slice a43 (List.length r34) c44), (79, I 1)] 2 rfl rfl ?_
  refine LP_call 2 rfl rfl rfl cal_23 rfl (laws_markIntS_w _ _ _ H wx95 o40 ex98) ?_
  rintro _ wx130 ⟨r128, r129, hx132, H, rfl, x131, o133, ex134, dm135⟩
  refine LP_ev ok 3 [(18, I r128)] 4 rfl rfl ?_
  refine LP_end _ rfl ?_
  refine W_seq ?_
  refine W_region ?_
  refine LP_ev ok 0 [(19, I 1)] 1 rfl rfl ?_
  refine LP_end _ rfl ?_
  refine W_seq ?_
  refine W_region ?_
  refine LP_ev ok 0 [(81, .slice a43 (List.length r34) c44), (82, I 1)] 2 rfl rfl ?_
  refine LP_call 2 rfl rfl rfl cal_24 rfl (laws_heldIntS_w _ _ _ H wx130 o133.readf ex134) ?_
  rintro _ wx140 ⟨r139, H, rfl, x141⟩
  refine LP_ev ok 3 [(19, I r139)] 4 rfl rfl ?_
  refine LP_end _ rfl ?_
  refine W_seq ?_
  refine W_seq ?_
  refine W_region ?_
  refine LP_ev ok 0 [(84, I r139), (85, .bool (decide (r139 < 0)))] 2 rfl rfl ?_
  refine LP_end _ rfl ?_
  refine W_cond (decide (r139 < 0)) rfl (fun hc142 => ?_) (fun hc142 => ?_)
  · have H := H.1 hc142
    refine W_seq ?_
    refine W_region ?_
    refine LP_ev ok 0 [(10, .bool false)] 1 rfl rfl ?_
    refine LP_end _ rfl ?_
    refine W_ret ?_
    have X144 := ((((X.stepx x).stepx x6).stepx x15).stepx x26)
    have f143 := f42.mono X144.size
    have X145 := ((X99.step x131 (f143.dom _)).stepx x141)
    exact ⟨_, Ret_of [.bool false] ⟨⟨rfl, rfl⟩, trivial⟩, _, H, rfl, X145.ext⟩
  have H := H.2 hc142
  refine W_skip ?_
  refine W_seq ?_
  refine W_seq ?_
  refine W_region ?_
  refine LP_ev ok 0 [(86, I r139), (87, I r128), (88, .bool (r139 != r128))] 3 rfl rfl ?_
  refine LP_end _ rfl ?_
  refine W_cond (r139 != r128) rfl (fun hc146 => ?_) (fun hc146 => ?_)
  · have H := H.1 hc146
    refine W_seq ?_
    refine W_region ?_
    refine LP_ev ok 0 [(10, .bool false)] 1 rfl rfl ?_
    refine LP_end _ rfl ?_
    refine W_ret ?_
    have X148 := ((((X.stepx x).stepx x6).stepx x15).stepx x26)
    have f147 := f42.mono X148.size
    have X149 := ((X99.step x131 (f147.dom _)).stepx x141)
    exact ⟨_, Ret_of [.bool false] ⟨⟨rfl, rfl⟩, trivial⟩, _, H, rfl, X149.ext⟩
  have H := H.2 hc146
  refine W_skip ?_
  refine W_seq ?_
  refine W_region ?_
  refine LP_ev ok 0 [(90, .slice a (List.length aSeeds) c)] 1 rfl rfl ?_
  have ex151 := (ex24.ext x26)
  have ex152 := ((ex96.but x131 (Dj.of_fresh ex151 f42).symm).ext x141)
  refine LP_call 1 rfl rfl rfl cal_41 rfl (laws_toIntSS_w _ _ H wx140 r ex152) ?_
  rintro _ wx153 ⟨r150, vx155, hx156, H, rfl, x154, o157, ex158, f159⟩
  obtain ⟨a160, c161, rfl⟩ := o157.shape
  refine LP_ev ok 2 [(92, I aI), (93, I aRound), (94, I aN), (95, I aM)] 6 rfl rfl ?_
  refine LP_call 6 rfl rfl rfl cal_58 rfl (impl_MaskOf_w _ _ _ _ _ _ H wx153 o157.readf ex158) ?_
  rintro _ wx164 ⟨r162, r163, vx166, hx167, H, rfl, x165, o168, ex169, f170⟩
  obtain ⟨a171, c172, rfl⟩ := o168.shape
  refine LP_ev ok 7 [(89, .tuple #[.slice a171 (List.length r162) c172, .bool r163]), (97, .slice a171 (List.length r162) c172), (98, .bool r163), (20, .slice a171 (List.length r162) c172), (21, .bool r163)] 12 rfl rfl ?_
  refine LP_end _ rfl ?_
  try refine W_forget [(12, .slice a21 (List.length r12) c22), (13, .bool r13), (15, .slice a43 (List.length r34) c44), (18, I r128), (20, .slice a171 (List.length r162) c172), (21, .bool r163)] ⟨rfl, rfl, rfl, rfl, rfl, rfl, trivial⟩ fun ρ => ?_
  refine W_seq ?_
  obtain ⟨k177, hk178, H⟩ := jn_elim H
  refine W_join2 (S := Bool) (fun s ρ' w' => k177 s ∧ ∃ (ρ : Env), ρ' = setAll [(15, .slice a43 (List.length r34) c44), (18, I r128), (107, .bool s)] ρ ∧ But emp w w' ∧ Sub hx132 w') ?_ ?_
  · refine W_region ?_
    refine LP_ev ok 0 [(99, .slice a171 (List.length r162) c172), (100, .slice a21 (List.length r12) c22)] 2 rfl rfl ?_
    have ex180 := (ex19.ext x26)
    have ex181 := ((((ex97.but x131 (Dj.of_fresh ex180 f42).symm).ext x141).ext x154).ext x165)
    refine LP_call 2 rfl rfl rfl cal_22 rfl (laws_eqIntS_w _ _ _ H wx164 o168.readf ex169 o18.readf ex181) ?_
    rintro _ wx182 ⟨r179, H, rfl, x183⟩
    refine LP_ev ok 3 [(102, .bool (!r179)), (103, .bool (!r179))] 5 rfl rfl ?_
    refine LP_split 103 (!r179) rfl (fun hc184 => ?_) (fun hc184 => ?_)
    · have H := H.1 hc184
      refine LP_ev ok 5 [(104, undef), (105, undef), (106, undef), (107, .bool true)] 9 rfl rfl ?_
      refine LP_end _ rfl ?_
      have X186 := ((((X.stepx x).stepx x6).stepx x15).stepx x26)
      have f185 := f42.mono X186.size
      have X187 := (((((X99.step x131 (f185.dom _)).stepx x141).stepx x154).stepx x165).stepx x183)
      have ex188 := ((((ex134.ext x141).ext x154).ext x165).ext x183)
      exact ⟨true, H, _, env_eq ⟨rfl, rfl, rfl, trivial⟩, X187, ex188⟩
    have H := H.2 hc184
    refine LP_ev ok 5 [(104, .bool r163), (105, .bool r13), (106, .bool (r163 != r13)), (107, .bool (r163 != r13))] 9 rfl rfl ?_
    refine LP_end _ rfl ?_
    have X190 := ((((X.stepx x).stepx x6).stepx x15).stepx x26)
    have f189 := f42.mono X190.size
    have X191 := (((((X99.step x131 (f189.dom _)).stepx x141).stepx x154).stepx x165).stepx x183)
    have ex192 := ((((ex134.ext x141).ext x154).ext x165).ext x183)
    exact ⟨r163 != r13, H, _, env_eq ⟨rfl, rfl, rfl, trivial⟩, X191, ex192⟩
  rintro x173 _ wx174 ⟨H, ρ, rfl, X176, ex175⟩
  subst hk178
  refine W_cond (x173) rfl (fun hc193 => ?_) (fun hc193 => ?_)
  · have H := H.1 hc193
    refine W_seq ?_
    refine W_region ?_
    refine LP_ev ok 0 [(10, .bool false)] 1 rfl rfl ?_
    refine LP_end _ rfl ?_
    refine W_ret ?_
    exact ⟨_, Ret_of [.bool false] ⟨⟨rfl, rfl⟩, trivial⟩, _, H, rfl, X176.ext⟩
  have H := H.2 hc193
  refine W_skip ?_
  refine W_seq ?_
  refine W_region ?_
  refine LP_ev ok 0 [(19, I 1)] 1 rfl rfl ?_
  refine LP_end _ rfl ?_
  refine W_seq ?_
  refine W_region ?_
  refine LP_ev ok 0 [(108, .slice a43 (List.length r34) c44), (109, I 1)] 2 rfl rfl ?_
  refine LP_call 2 rfl rfl rfl cal_24 rfl (laws_heldIntS_w _ _ _ H wx174 o133.readf ex175) ?_
  rintro _ wx195 ⟨r194, H, rfl, x196⟩
  refine LP_ev ok 3 [(19, I r194)] 4 rfl rfl ?_
  refine LP_end _ rfl ?_
  refine W_seq ?_
  refine W_seq ?_
  refine W_region ?_
  refine LP_ev ok 0 [(111, I r194), (112, .bool (decide (r194 < 0)))] 2 rfl rfl ?_
  refine LP_end _ rfl ?_
  refine W_cond (decide (r194 < 0)) rfl (fun hc197 => ?_) (fun hc197 => ?_)
  · have H := H.1 hc197
    refine W_seq ?_
    refine W_region ?_
    refine LP_ev ok 0 [(10, .bool false)] 1 rfl rfl ?_
    refine LP_end _ rfl ?_
    refine W_ret ?_
    have X198 := (X176.stepx x196)
    exact ⟨_, Ret_of [.bool false] ⟨⟨rfl, rfl⟩, trivial⟩, _, H, rfl, X198.ext⟩
  have H := H.2 hc197
  refine W_skip ?_
  refine W_seq ?_
  refine W_seq ?_
  refine W_region ?_
  refine LP_ev ok 0 [(113, I r194), (114, I r128), (115, .bool (r194 != r128))] 3 rfl rfl ?_
  refine LP_end _ rfl ?_
  refine W_cond (r194 != r128) rfl (fun hc199 => ?_) (fun hc199 => ?_)
  · have H := H.1 hc199
    refine W_seq ?_
    refine W_region ?_
    refine LP_ev ok 0 [(10, .bool false)] 1 rfl rfl ?_
    refine LP_end _ rfl ?_
    refine W_ret ?_
    have X200 := (X176.stepx x196)
    exact ⟨_, Ret_of [.bool false] ⟨⟨rfl, rfl⟩, trivial⟩, _, H, rfl, X200.ext⟩
  have H := H.2 hc199
  refine W_skip ?_
  refine W_seq ?_
  refine W_region ?_
  refine LP_ev ok 0 [(10, .bool true)] 1 rfl rfl ?_
  refine LP_end _ rfl ?_
  refine W_ret ?_
  have X201 := (X176.stepx x196)
  exact ⟨_, Ret_of [.bool true] ⟨⟨rfl, rfl⟩, trivial⟩, _, H, rfl, X201.ext⟩

set_option maxRecDepth 8000 in
set_option maxHeartbeats 4000000 in
theorem spec_zeShare_w (seeds : List (List Int)) (i : Int) (round : Int) (m : Int) (values : List Int) (Q : (List Int) → Prop) (H : spec_zeShare seeds i round m values Q) (w : World) {vx : Value} {hx : PH} (r : RS hx vx seeds) (ex : Sub hx w) {vx1 : Value} {hx2 : PH} (r3 : RS hx2 vx1 values) (ex4 : Sub hx2 w) :
    CallsTo Try.prog 122 #[vx, I i, I round, I m, vx1] w fun v w' => ∃ r0 u0 g0, Q r0 ∧ v = u0 ∧ Ext w w' ∧ OS 3 g0 emp u0 r0 ∧ Sub g0 w' ∧ Fresh w.heap.size g0 := by
  obtain ⟨a, c, rfl⟩ := r.shape
  obtain ⟨a5, c6, rfl⟩ := r3.shape
  refine enter (args := [.slice a (List.length seeds) c, I i, I round, I m, .slice a5 (List.length values) c6]) 21 Try.func122 rfl rfl rfl ?_
  refine W_forget [(0, .slice a (List.length seeds) c), (1, I i), (2, I round), (3, I m), (4, .slice a5 (List.length values) c6)] ⟨rfl, rfl, rfl, rfl, rfl, trivial⟩ fun ρ => ?_
  have X := But.refl emp w
  refine W_seq ?_
  refine W_region ?_
  refine LP_ev ok 0 [(10, .slice none 0 0)] 1 rfl rfl ?_
  refine LP_end _ rfl ?_
  refine W_seq ?_
  refine W_region ?_
  refine LP_ev ok 0 [(11, .slice a5 (List.length values) c6), (12, .slice a (List.length seeds) c), (13, I i), (14, I round), (15, .slice a5 (List.length values) c6), (16, I (ln values)), (17, I m)] 7 rfl rfl ?_
  refine LP_call 7 rfl rfl rfl cal_119 rfl (spec_zeMaskOf_w _ _ _ _ _ _ H w r ex) ?_
  rintro _ wx ⟨r7, vx8, hx9, H, rfl, x, o, ex10, f⟩
  obtain ⟨a11, c12, rfl⟩ := o.shape
  refine LP_ev ok 8 [(19, I m)] 9 rfl rfl ?_
  have ex14 := (ex4.ext x)
  refine LP_call 9 rfl rfl rfl cal_128 rfl (spec_zeAdd_w _ _ _ _ _ H wx r3 ex14 o.readf ex10) ?_
  rintro _ wx15 ⟨r13, vx17, hx18, H, rfl, x16, o19, ex20, f21⟩
  obtain ⟨a22, c23, rfl⟩ := o19.shape
  refine LP_ev ok 10 [(10, .slice a22 (List.length r13) c23)] 11 rfl rfl ?_
  refine LP_end _ rfl ?_
  refine W_ret ?_
  have X25 := (X.stepx x)
  have f24 := f21.mono X25.size
  have X26 := (X25.stepx x16)
  exact ⟨_, Ret_of [.slice a22 (List.length r13) c23] ⟨⟨rfl, rfl⟩, trivial⟩, _, _, _, H, rfl, X26.ext, o19, ex20, f24⟩

set_option maxRecDepth 8000 in
set_option maxHeartbeats 4000000 in
theorem spec_ShareOf_w (seeds : List (List Int)) (i : Int) (round : Int) (m : Int) (values : List Int) (Q : (List Int) → Bool → Prop) (H : spec_ShareOf seeds i round m values Q) (w : World) {vx : Value} {hx : PH} (r : RS hx vx seeds) (ex : Sub hx w) {vx1 : Value} {hx2 : PH} (r3 : RS hx2 vx1 values) (ex4 : Sub hx2 w) :
    CallsTo Try.prog 59 #[vx, I i, I round, I m, vx1] w fun v w' => ∃ r0 r1 u0 g0, Q r0 r1 ∧ v = .tuple #[u0, .bool r1] ∧ Ext w w' ∧ OS 3 g0 emp u0 r0 ∧ Sub g0 w' ∧ Fresh w.heap.size g0 := by
  obtain ⟨a, c, rfl⟩ := r.shape
  obtain ⟨a5, c6, rfl⟩ := r3.shape
  refine enter (args := [.slice a (List.length seeds) c, I i, I round, I m, .slice a5 (List.length values) c6]) 41 Try.func59 rfl rfl rfl ?_
  refine W_forget [(0, .slice a (List.length seeds) c), (1, I i), (2, I round), (3, I m), (4, .slice a5 (List.length values) c6)] ⟨rfl, rfl, rfl, rfl, rfl, trivial⟩ fun ρ => ?_
  have X := But.refl emp w
  refine W_seq ?_
  refine W_region ?_
  refine LP_ev ok 0 [(10, .slice none 0 0), (11, .bool false)] 2 rfl rfl ?_
  refine LP_end _ rfl ?_
  refine W_seq ?_
  obtain ⟨k, hk, H⟩ := jn_elim H
  refine W_join2 (S := Bool) (fun s ρ' w' => k s ∧ ∃ (ρ : Env), ρ' = setAll [(0, .slice a (List.length seeds) c), (1, I i), (2, I round), (3, I m), (4, .slice a5 (List.length values) c6), (34, .bool s)] ρ ∧ But emp w w' ∧ Sub hx w' ∧ Sub hx2 w') ?_ ?_
  · refine W_region ?_
    refine LP_ev ok 0 [(12, .slice a (List.length seeds) c)] 1 rfl rfl ?_
    refine LP_call 1 rfl rfl rfl cal_118 rfl (spec_zeSeeds_w _ _ H w r ex) ?_
    rintro _ wx11 ⟨r10, H, rfl, x12⟩
    refine LP_ev ok 2 [(14, .bool (!r10)), (15, .bool (!r10))] 4 rfl rfl ?_
    refine LP_split 15 (!r10) rfl (fun hc => ?_) (fun hc => ?_)
    · have H := H.1 hc
      refine LP_ev ok 4 [(16, undef), (17, undef), (18, undef), (19, undef), (20, undef), (21, undef), (22, .bool true), (23, .bool true), (24, undef), (25, undef), (26, undef), (27, undef), (28, .bool true), (29, .bool true), (30, undef), (31, undef), (32, undef), (33, undef), (34, .bool true)] 23 rfl rfl ?_
      refine LP_end _ rfl ?_
      try refine W_forget [(0, .slice a (List.length seeds) c), (1, I i), (2, I round), (3, I m), (4, .slice a5 (List.length values) c6), (34, .bool true)] ⟨rfl, rfl, rfl, rfl, rfl, rfl, trivial⟩ fun ρ => ?_
      have X13 := (X.stepx x12)
      have ex14 := (ex.ext x12)
      have ex15 := (ex4.ext x12)
      exact ⟨true, H, _, env_eq ⟨rfl, rfl, rfl, rfl, rfl, rfl, trivial⟩, X13, ex14, ex15⟩
    have H := H.2 hc
    refine LP_ev ok 4 [(16, I i), (17, .slice a (List.length seeds) c), (18, I (ln seeds)), (19, I (wr ((ln seeds) - 1)))] 8 rfl rfl ?_
    refine LP_call 8 rfl rfl rfl cal_76 rfl (spec_l1In_w _ _ _ _ H wx11 ) ?_
    rintro _ wx17 ⟨r16, H, rfl, x18⟩
    refine LP_ev ok 9 [(21, .bool (!r16)), (22, .bool (!r16)), (23, .bool (!r16))] 12 rfl rfl ?_
    refine LP_split 23 (!r16) rfl (fun hc19 => ?_) (fun hc19 => ?_)
    · have H := H.1 hc19
      refine LP_ev ok 12 [(24, undef), (25, undef), (26, undef), (27, undef), (28, .bool true), (29, .bool true), (30, undef), (31, undef), (32, undef), (33, undef), (34, .bool true)] 23 rfl rfl ?_
      refine LP_end _ rfl ?_
      try refine W_forget [(0, .slice a (List.length seeds) c), (1, I i), (2, I round), (3, I m), (4, .slice a5 (List.length values) c6), (34, .bool true)] ⟨rfl, rfl, rfl, rfl, rfl, rfl, trivial⟩ fun ρ => ?_
      have X20 := ((X.stepx x12).stepx x18)
      have ex21 := ((ex.ext x12).ext x18)
      have ex22 := ((ex4.ext x12).ext x18)
      exact ⟨true, H, _, env_eq ⟨rfl, rfl, rfl, rfl, rfl, rfl, trivial⟩, X20, ex21, ex22⟩
    have H := H.2 hc19
    refine LP_ev ok 12 [(24, I round), (25, I m)] 14 rfl rfl ?_
    refine LP_call 14 rfl rfl rfl cal_82 rfl (spec_zeRound_w _ _ _ _ H wx17 ) ?_
    rintro _ wx24 ⟨r23, H, rfl, x25⟩
    refine LP_ev ok 15 [(27, .bool (!r23)), (28, .bool (!r23)), (29, .bool (!r23))] 18 rfl rfl ?_
    refine LP_split 29 (!r23) rfl (fun hc26 => ?_) (fun hc26 => ?_)
    · have H := H.1 hc26
      refine LP_ev ok 18 [(30, undef), (31, undef), (32, undef), (33, undef), (34, .bool true)] 23 rfl rfl ?_
      refine LP_end _ rfl ?_
      try refine W_forget [(0, .slice a (List.length seeds) c), (1, I i), (2, I round), (3, I m), (4, .slice a5 (List.length values) c6), (34, .bool true)] ⟨rfl, rfl, rfl, rfl, rfl, rfl, trivial⟩ fun ρ => ?_
      have X27 := (((X.stepx x12).stepx x18).stepx x25)
      have ex28 := (((ex.ext x12).ext x18).ext x25)
      have ex29 := (((ex4.ext x12).ext x18).ext x25)
      exact ⟨true, H, _, env_eq ⟨rfl, rfl, rfl, rfl, rfl, rfl, trivial⟩, X27, ex28, ex29⟩
    have H := H.2 hc26
    refine LP_ev ok 18 [(30, I m), (31, .slice a5 (List.length values) c6)] 20 rfl rfl ?_
    have ex31 := (((ex4.ext x12).ext x18).ext x25)
    refine LP_call 20 rfl rfl rfl cal_78 rfl (spec_zeValues_w _ _ _ H wx24 r3 ex31) ?_
    rintro _ wx32 ⟨r30, H, rfl, x33⟩
    refine LP_ev ok 21 [(33, .bool (!r30)), (34, .bool (!r30))] 23 rfl rfl ?_
    refine LP_end _ rfl ?_
    try refine W_forget [(0, .slice a (List.length seeds) c), (1, I i), (2, I round), (3, I m), (4, .slice a5 (List.length values) c6), (34, .bool (!r30))] ⟨rfl, rfl, rfl, rfl, rfl, rfl, trivial⟩ fun ρ => ?_
    have X34 := ((((X.stepx x12).stepx x18).stepx x25).stepx x33)
    have ex35 := ((((ex.ext x12).ext x18).ext x25).ext x33)
    have ex36 := (ex31.ext x33)
    exact ⟨!r30, H, _, env_eq ⟨rfl, rfl, rfl, rfl, rfl, rfl, trivial⟩, X34, ex35, ex36⟩
  rintro x _ wx ⟨H, ρ, rfl, X9, ex7, ex8⟩
  subst hk
  refine W_cond (x) rfl (fun hc37 => ?_) (fun hc37 => ?_)
  · have H := H.1 hc37
    refine W_seq ?_
    refine W_region ?_
    refine LP_ev ok 0 [(10, .slice none 0 0), (11, .bool false)] 2 rfl rfl ?_
    refine LP_end _ rfl ?_
    refine W_ret ?_
    exact ⟨_, Ret_of [.slice none 0 0, .bool false] ⟨⟨rfl, rfl⟩, ⟨rfl, rfl⟩, trivial⟩, _, _, _, emp, H, rfl, X9.ext, OS.nil, (emp_sub _), (emp_fresh _)⟩
  have H := H.2 hc37
  refine W_skip ?_
  refine W_seq ?_
  refine W_region ?_
  refine LP_ev ok 0 [(35, .slice a (List.length seeds) c), (36, I i), (37, I round), (38, I m), (39, .slice a5 (List.length values) c6)] 5 rfl rfl ?_
  refine LP_call 5 rfl rfl rfl cal_122 rfl (spec_zeShare_w _ _ _ _ _ _ H wx r ex7 r3 ex8) ?_
  rintro _ wx39 ⟨r38, vx41, hx42, H, rfl, x40, o, ex43, f⟩
  obtain ⟨a44, c45, rfl⟩ := o.shape
  refine LP_ev ok 6 [(10, .slice a44 (List.length r38) c45), (11, .bool true)] 8 rfl rfl ?_
  refine LP_end _ rfl ?_
  refine W_ret ?_
  have f46 := f.mono X9.size
  have X47 := (X9.stepx x40)
  exact ⟨_, Ret_of [.slice a44 (List.length r38) c45, .bool true] ⟨⟨rfl, rfl⟩, ⟨rfl, rfl⟩, trivial⟩, _, _, _, _, H, rfl, X47.ext, o, ex43, f46⟩

set_option maxRecDepth 8000 in
set_option maxHeartbeats 4000000 in
theorem impl_shareOf_w (seeds : List (List Int)) (i : Int) (round : Int) (m : Int) (values : List Int) (Q : (List Int) → Prop) (H : impl_shareOf seeds i round m values Q) (w : World) {vx : Value} {hx : PH} (r : RS hx vx seeds) (ex : Sub hx w) {vx1 : Value} {hx2 : PH} (r3 : RS hx2 vx1 values) (ex4 : Sub hx2 w) :
    CallsTo Try.prog 123 #[vx, I i, I round, I m, vx1] w fun v w' => ∃ r0 u0 g0, Q r0 ∧ v = u0 ∧ Ext w w' ∧ OS 3 g0 emp u0 r0 ∧ Sub g0 w' ∧ Fresh w.heap.size g0 := by
  obtain ⟨a, c, rfl⟩ := r.shape
  obtain ⟨a5, c6, rfl⟩ := r3.shape
  refine enter (args := [.slice a (List.length seeds) c, I i, I round, I m, .slice a5 (List.length values) c6]) 24 Try.func123 rfl rfl rfl ?_
  refine W_forget [(0, .slice a (List.length seeds) c), (1, I i), (2, I round), (3, I m), (4, .slice a5 (List.length values) c6)] ⟨rfl, rfl, rfl, rfl, rfl, trivial⟩ fun ρ => ?_
  have X := But.refl emp w
  refine W_seq ?_
  refine W_region ?_
  refine LP_ev ok 0 [(10, .slice none 0 0)] 1 rfl rfl ?_
  refine LP_end _ rfl ?_
  refine W_seq ?_
  refine W_region ?_
  refine LP_ev ok 0 [(12, .slice a (List.length seeds) c), (13, I i), (14, I round), (15, .slice a5 (List.length values) c6), (16, I (ln values)), (17, I m)] 6 rfl rfl ?_
  refine LP_call 6 rfl rfl rfl cal_121 rfl (impl_maskOf_w _ _ _ _ _ _ H w r ex) ?_
  rintro _ wx ⟨r7, vx8, hx9, H, rfl, x, o, ex10, f⟩
  obtain ⟨a11, c12, rfl⟩ := o.shape
  refine LP_ev ok 7 [(11, .slice a11 (List.length r7) c12)] 8 rfl rfl ?_
  refine LP_end _ rfl ?_
  refine W_seq ?_
  refine W_region ?_
  refine LP_ev ok 0 [(19, .slice a11 (List.length r7) c12), (20, .slice a5 (List.length values) c6), (21, I m)] 3 rfl rfl ?_
  have ex14 := (ex4.ext x)
  refine LP_call 3 rfl rfl rfl cal_129 rfl (impl_combine_w _ _ _ _ _ H wx o ex10 r3 ex14 (Dj.of_fresh ex4 f).symm) ?_
  rintro _ wx15 ⟨r13, hx17, H, rfl, x16, o18, ex19, dm⟩
  refine LP_end _ rfl ?_
  refine W_seq ?_
  refine W_region ?_
  refine LP_ev ok 0 [(23, .slice a11 (List.length r7) c12), (10, .slice a11 (List.length r7) c12)] 2 rfl rfl ?_
  refine LP_end _ rfl ?_
  refine W_ret ?_
  have f23 := f.mono X.size
  have X24 := (X.stepx x)
  have f22 := (dm _).fresh f23 X24.size
  have X25 := (X24.step x16 (f23.dom _))
  exact ⟨_, Ret_of [.slice a11 (List.length r7) c12] ⟨⟨rfl, rfl⟩, trivial⟩, _, _, _, H, rfl, X25.ext, o18, ex19, f22⟩

set_option maxRecDepth 8000 in
set_option maxHeartbeats 4000000 in
theorem impl_ShareOf_w (seeds : List (List Int)) (i : Int) (round : Int) (m : Int) (values : List Int) (Q : (List Int) → Bool → Prop) (H : impl_ShareOf seeds i round m values Q) (w : World) {vx : Value} {hx : PH} (r : RS hx vx seeds) (ex : Sub hx w) {vx1 : Value} {hx2 : PH} (r3 : RS hx2 vx1 values) (ex4 : Sub hx2 w) :
    CallsTo Try.prog 60 #[vx, I i, I round, I m, vx1] w fun v w' => ∃ r0 r1 u0 g0, Q r0 r1 ∧ v = .tuple #[u0, .bool r1] ∧ Ext w w' ∧ OS 3 g0 emp u0 r0 ∧ Sub g0 w' ∧ Fresh w.heap.size g0 := by
  obtain ⟨a, c, rfl⟩ := r.shape
  obtain ⟨a5, c6, rfl⟩ := r3.shape
  refine enter (args := [.slice a (List.length seeds) c, I i, I round, I m, .slice a5 (List.length values) c6]) 47 Try.func60 rfl rfl rfl ?_
  refine W_forget [(0, .slice a (List.length seeds) c), (1, I i), (2, I round), (3, I m), (4, .slice a5 (List.length values) c6)] ⟨rfl, rfl, rfl, rfl, rfl, trivial⟩ fun ρ => ?_
  have X := But.refl emp w
  refine W_seq ?_
  refine W_region ?_
  refine LP_ev ok 0 [(10, .slice none 0 0), (11, .bool false)] 2 rfl rfl ?_
  refine LP_end _ rfl ?_
  refine W_seq ?_
  obtain ⟨k, hk, H⟩ := jn_elim H
  refine W_join2 (S := Bool) (fun s ρ' w' => k s ∧ ∃ (ρ : Env), ρ' = setAll [(0, .slice a (List.length seeds) c), (1, I i), (2, I round), (3, I m), (4, .slice a5 (List.length values) c6), (40, .bool s)] ρ ∧ But emp w w' ∧ Sub hx w' ∧ Sub hx2 w') ?_ ?_
  · refine W_region ?_
    refine LP_ev ok 0 [(12, .slice a (List.length seeds) c)] 1 rfl rfl ?_
    refine LP_call 1 rfl rfl rfl cal_120 rfl (impl_areSeedRows_w _ _ H w r ex) ?_
    rintro _ wx11 ⟨r10, H, rfl, x12⟩
    refine LP_ev ok 2 [(14, .bool (!r10)), (15, .bool (!r10))] 4 rfl rfl ?_
    refine LP_split 15 (!r10) rfl (fun hc => ?_) (fun hc => ?_)
    · have H := H.1 hc
      refine LP_ev ok 4 [(16, undef), (17, undef), (18, .bool true), (19, .bool true), (20, undef), (21, undef), (22, undef), (23, undef), (24, .bool true), (25, .bool true), (26, undef), (27, undef), (28, undef), (29, .bool true), (30, .bool true), (31, undef), (32, undef), (33, undef), (34, .bool true), (35, .bool true), (36, undef), (37, undef), (38, undef), (39, undef), (40, .bool true)] 29 rfl rfl ?_
      refine LP_end _ rfl ?_
      try refine W_forget [(0, .slice a (List.length seeds) c), (1, I i), (2, I round), (3, I m), (4, .slice a5 (List.length values) c6), (40, .bool true)] ⟨rfl, rfl, rfl, rfl, rfl, rfl, trivial⟩ fun ρ => ?_
      have X13 := (X.stepx x12)
      have ex14 := (ex.ext x12)
      have ex15 := (ex4.ext x12)
      exact ⟨true, H, _, env_eq ⟨rfl, rfl, rfl, rfl, rfl, rfl, trivial⟩, X13, ex14, ex15⟩
    have H := H.2 hc
    refine LP_ev ok 4 [(16, I i), (17, .bool (decide (i < 0))), (18, .bool (decide (i < 0))), (19, .bool (decide (i < 0)))] 8 rfl rfl ?_
    refine LP_split 19 (decide (i < 0)) rfl (fun hc16 => ?_) (fun hc16 => ?_)
    · have H := H.1 hc16
      refine LP_ev ok 8 [(20, undef), (21, undef), (22, undef), (23, undef), (24, .bool true), (25, .bool true), (26, undef), (27, undef), (28, undef), (29, .bool true), (30, .bool true), (31, undef), (32, undef), (33, undef), (34, .bool true), (35, .bool true), (36, undef), (37, undef), (38, undef), (39, undef), (40, .bool true)] 29 rfl rfl ?_
      refine LP_end _ rfl ?_
      try refine W_forget [(0, .slice a (List.length seeds) c), (1, I i), (2, I round), (3, I m), (4, .slice a5 (List.length values) c6), (40, .bool true)] ⟨rfl, rfl, rfl, rfl, rfl, rfl, trivial⟩ fun ρ => ?_
      have X17 := (X.stepx x12)
      have ex18 := (ex.ext x12)
      have ex19 := (ex4.ext x12)
      exact ⟨true, H, _, env_eq ⟨rfl, rfl, rfl, rfl, rfl, rfl, trivial⟩, X17, ex18, ex19⟩
    have H := H.2 hc16
    refine LP_ev ok 8 [(20, I i), (21, .slice a (List.length seeds) c), (22, I (ln seeds)), (23, .bool (decide (i ≥ (ln seeds)))), (24, .bool (decide (i ≥ (ln seeds)))), (25, .bool (decide (i ≥ (ln seeds))))] 14 rfl rfl ?_
    refine LP_split 25 (decide (i ≥ (ln seeds))) rfl (fun hc20 => ?_) (fun hc20 => ?_)
    · have H := H.1 hc20
      refine LP_ev ok 14 [(26, undef), (27, undef), (28, undef), (29, .bool true), (30, .bool true), (31, undef), (32, undef), (33, undef), (34, .bool true), (35, .bool true), (36, undef), (37, undef), (38, undef), (39, undef), (40, .bool true)] 29 rfl rfl ?_
      refine LP_end _ rfl ?_
      try refine W_forget [(0, .slice a (List.length seeds) c), (1, I i), (2, I round), (3, I m), (4, .slice a5 (List.length values) c6), (40, .bool true)] ⟨rfl, rfl, rfl, rfl, rfl, rfl, trivial⟩ fun ρ => ?_
      have X21 := (X.stepx x12)
      have ex22 := (ex.ext x12)
      have ex23 := (ex4.ext x12)
      exact ⟨true, H, _, env_eq ⟨rfl, rfl, rfl, rfl, rfl, rfl, trivial⟩, X21, ex22, ex23⟩
    have H := H.2 hc20
    refine LP_ev ok 14 [(26, I round)] 15 rfl rfl ?_
    refine LP_call 15 rfl rfl rfl cal_85 rfl (impl_isRound_w _ _ H wx11 ) ?_
    rintro _ wx25 ⟨r24, H, rfl, x26⟩
    refine LP_ev ok 16 [(28, .bool (!r24)), (29, .bool (!r24)), (30, .bool (!r24))] 19 rfl rfl ?_
    refine LP_split 30 (!r24) rfl (fun hc27 => ?_) (fun hc27 => ?_)
    · have H := H.1 hc27
      refine LP_ev ok 19 [(31, undef), (32, undef), (33, undef), (34, .bool true), (35, .bool true), (36, undef), (37, undef), (38, undef), (39, undef), (40, .bool true)] 29 rfl rfl ?_
      refine LP_end _ rfl ?_
      try refine W_forget [(0, .slice a (List.length seeds) c), (1, I i), (2, I round), (3, I m), (4, .slice a5 (List.length values) c6), (40, .bool true)] ⟨rfl, rfl, rfl, rfl, rfl, rfl, trivial⟩ fun ρ => ?_
      have X28 := ((X.stepx x12).stepx x26)
      have ex29 := ((ex.ext x12).ext x26)
      have ex30 := ((ex4.ext x12).ext x26)
      exact ⟨true, H, _, env_eq ⟨rfl, rfl, rfl, rfl, rfl, rfl, trivial⟩, X28, ex29, ex30⟩
    have H := H.2 hc27
    refine LP_ev ok 19 [(31, I m)] 20 rfl rfl ?_
    refine LP_call 20 rfl rfl rfl cal_79 rfl (impl_isModulus_w _ _ H wx25 ) ?_
    rintro _ wx32 ⟨r31, H, rfl, x33⟩
    refine LP_ev ok 21 [(33, .bool (!r31)), (34, .bool (!r31)), (35, .bool (!r31))] 24 rfl rfl ?_
    refine LP_split 35 (!r31) rfl (fun hc34 => ?_) (fun hc34 => ?_)
    · have H := H.1 hc34
      refine LP_ev ok 24 [(36, undef), (37, undef), (38, undef), (39, undef), (40, .bool true)] 29 rfl rfl ?_
      refine LP_end _ rfl ?_
      try refine W_forget [(0, .slice a (List.length seeds) c), (1, I i), (2, I round), (3, I m), (4, .slice a5 (List.length values) c6), (40, .bool true)] ⟨rfl, rfl, rfl, rfl, rfl, rfl, trivial⟩ fun ρ => ?_
      have X35 := (((X.stepx x12).stepx x26).stepx x33)
      have ex36 := (((ex.ext x12).ext x26).ext x33)
      have ex37 := (((ex4.ext x12).ext x26).ext x33)
      exact ⟨true, H, _, env_eq ⟨rfl, rfl, rfl, rfl, rfl, rfl, trivial⟩, X35, ex36, ex37⟩
    have H := H.2 hc34
    refine LP_ev ok 24 [(36, .slice a5 (List.length values) c6), (37, I m)] 26 rfl rfl ?_
    have ex39 := (((ex4.ext x12).ext x26).ext x33)
    refine LP_call 26 rfl rfl rfl cal_80 rfl (impl_areResidues_w _ _ _ H wx32 r3 ex39) ?_
    rintro _ wx40 ⟨r38, H, rfl, x41⟩
    refine LP_ev ok 27 [(39, .bool (!r38)), (40, .bool (!r38))] 29 rfl rfl ?_
    refine LP_end _ rfl ?_
    try refine W_forget [(0, .slice a (List.length seeds) c), (1, I i), (2, I round), (3, I m), (4, .slice a5 (List.length values) c6), (40, .bool (!r38))] ⟨rfl, rfl, rfl, rfl, rfl, rfl, trivial⟩ fun ρ => ?_
    have X42 := ((((X.stepx x12).stepx x26).stepx x33).stepx x41)
    have ex43 := ((((ex.ext x12).ext x26).ext x33).ext x41)
    have ex44 := (ex39.ext x41)
    exact ⟨!r38, H, _, env_eq ⟨rfl, rfl, rfl, rfl, rfl, rfl, trivial⟩, X42, ex43, ex44⟩
  rintro x _ wx ⟨H, ρ, rfl, X9, ex7, ex8⟩
  subst hk
  refine W_cond (x) rfl (fun hc45 => ?_) (fun hc45 => ?_)
  · have H := H.1 hc45
    refine W_seq ?_
    refine W_region ?_
    refine LP_ev ok 0 [(10, .slice none 0 0), (11, .bool false)] 2 rfl rfl ?_
    refine LP_end _ rfl ?_
    refine W_ret ?_
    exact ⟨_, Ret_of [.slice none 0 0, .bool false] ⟨⟨rfl, rfl⟩, ⟨rfl, rfl⟩, trivial⟩, _, _, _, emp, H, rfl, X9.ext, OS.nil, (emp_sub _), (emp_fresh _)⟩
  have H := H.2 hc45
  refine W_skip ?_
  refine W_seq ?_
  refine W_region ?_
  refine LP_ev ok 0 [(41, .slice a (List.length seeds) c), (42, I i), (43, I round), (44, I m), (45, .slice a5 (List.length values) c6)] 5 rfl rfl ?_
  refine LP_call 5 rfl rfl rfl cal_123 rfl (impl_shareOf_w _ _ _ _ _ _ H wx r ex7 r3 ex8) ?_
  rintro _ wx47 ⟨r46, vx49, hx50, H, rfl, x48, o, ex51, f⟩
  obtain ⟨a52, c53, rfl⟩ := o.shape
  refine LP_ev ok 6 [(10, .slice a52 (List.length r46) c53), (11, .bool true)] 8 rfl rfl ?_
  refine LP_end _ rfl ?_
  refine W_ret ?_
  have f54 := f.mono X9.size
  have X55 := (X9.stepx x48)
  exact ⟨_, Ret_of [.slice a52 (List.length r46) c53, .bool true] ⟨⟨rfl, rfl⟩, ⟨rfl, rfl⟩, trivial⟩, _, _, _, _, H, rfl, X55.ext, o, ex51, f54⟩

set_option maxRecDepth 8000 in
set_option maxHeartbeats 4000000 in
theorem laws_FnExactShareOf_w (aSeeds : List (List Int)) (aI : Int) (aRound : Int) (aM : Int) (aValues : List Int) (Q : Bool → Prop) (H : laws_FnExactShareOf aSeeds aI aRound aM aValues Q) (w : World) {vx : Value} {hx : PH} (r : RS hx vx aSeeds) (ex : Sub hx w) {vx1 : Value} {hx2 : PH} (r3 : RS hx2 vx1 aValues) (ex4 : Sub hx2 w) :
    CallsTo Try.prog 15 #[vx, I aI, I aRound, I aM, vx1] w fun v w' => ∃ r0, Q r0 ∧ v = .bool r0 ∧ Ext w w' := by
  obtain ⟨a, c, rfl⟩ := r.shape
  obtain ⟨a5, c6, rfl⟩ := r3.shape
  refine enter (args := [.slice a (List.length aSeeds) c, I aI, I aRound, I aM, .slice a5 (List.length aValues) c6]) 132 Try.func15 rfl rfl rfl ?_
  refine W_forget [(0, .slice a (List.length aSeeds) c), (1, I aI), (2, I aRound), (3, I aM), (4, .slice a5 (List.length aValues) c6)] ⟨rfl, rfl, rfl, rfl, rfl, trivial⟩ fun ρ => ?_
  have X := But.refl emp w
  refine W_seq ?_
  refine W_region ?_
  refine LP_ev ok 0 [(10, .bool false)] 1 rfl rfl ?_
  refine LP_end _ rfl ?_
  refine W_seq ?_
  refine W_seq ?_
  refine W_region ?_
  refine LP_ev ok 0 [(23, .slice a5 (List.length aValues) c6), (24, I (ln aValues)), (25, .bool (decide ((ln aValues) > 1048576)))] 3 rfl rfl ?_
  refine LP_end _ rfl ?_
  refine W_cond (decide ((ln aValues) > 1048576)) rfl (fun hc => ?_) (fun hc => ?_)
  · have H := H.1 hc
    refine W_seq ?_
    refine W_region ?_
    refine LP_ev ok 0 [(10, .bool true)] 1 rfl rfl ?_
    refine LP_end _ rfl ?_
    refine W_ret ?_
    exact ⟨_, Ret_of [.bool true] ⟨⟨rfl, rfl⟩, trivial⟩, _, H, rfl, X.ext⟩
  have H := H.2 hc
  refine W_skip ?_
  refine W_seq ?_
  refine W_region ?_
  refine LP_ev ok 0 [(11, I 1048576)] 1 rfl rfl ?_
  refine LP_end _ rfl ?_
  refine W_seq ?_
  refine W_region ?_
  refine LP_ev ok 0 [(26, .slice a (List.length aSeeds) c), (27, I 1048576)] 2 rfl rfl ?_
  refine LP_call 2 rfl rfl rfl cal_39 rfl (laws_szIntSS_w _ _ _ H w r ex) ?_
  rintro _ wx ⟨r7, H, rfl, x⟩
  refine LP_ev ok 3 [(11, I r7)] 4 rfl rfl ?_
  refine LP_end _ rfl ?_
  refine W_seq ?_
  refine W_seq ?_
  refine W_region ?_
  refine LP_ev ok 0 [(29, I r7), (30, .bool (decide (r7 < 0)))] 2 rfl rfl ?_
  refine LP_end _ rfl ?_
  refine W_cond (decide (r7 < 0)) rfl (fun hc8 => ?_) (fun hc8 => ?_)
  · have H := H.1 hc8
    refine W_seq ?_
    refine W_region ?_
    refine LP_ev ok 0 [(10, .bool true)] 1 rfl rfl ?_
    refine LP_end _ rfl ?_
    refine W_ret ?_
    have X9 := (X.stepx x)
    exact ⟨_, Ret_of [.bool true] ⟨⟨rfl, rfl⟩, trivial⟩, _, H, rfl, X9.ext⟩
  have H := H.2 hc8
  refine W_skip ?_
  refine W_seq ?_
  refine W_region ?_
  refine LP_ev ok 0 [(32, .slice a (List.length aSeeds) c)] 1 rfl rfl ?_
  have ex11 := (ex.ext x)
  refine LP_call 1 rfl rfl rfl cal_41 rfl (laws_toIntSS_w _ _ H wx r ex11) ?_
  rintro _ wx12 ⟨r10, vx14, hx15, H, rfl, x13, o, ex16, f⟩
  obtain ⟨a17, c18, rfl⟩ := o.shape
  refine LP_ev ok 2 [(34, I aI), (35, I aRound), (36, I aM), (37, .slice a5 (List.length aValues) c6)] 6 rfl rfl ?_
  have ex20 := ((ex4.ext x).ext x13)
  refine LP_call 6 rfl rfl rfl cal_26 rfl (laws_toIntS_w _ _ H wx12 r3 ex20) ?_
  rintro _ wx21 ⟨r19, vx23, hx24, H, rfl, x22, o25, ex26, f27⟩
  obtain ⟨a28, c29, rfl⟩ := o25.shape
  have ex32 := (ex16.ext x22)
  refine LP_call 7 rfl rfl rfl cal_59 rfl (spec_ShareOf_w _ _ _ _ _ _ H wx21 o.readf ex32 o25.readf ex26) ?_
  rintro _ wx33 ⟨r30, r31, vx35, hx36, H, rfl, x34, o37, ex38, f39⟩
  obtain ⟨a40, c41, rfl⟩ := o37.shape
  refine LP_ev ok 8 [(31, .tuple #[.slice a40 (List.length r30) c41, .bool r31]), (40, .slice a40 (List.length r30) c41), (41, .bool r31), (12, .slice a40 (List.length r30) c41), (13, .bool r31)] 13 rfl rfl ?_
  refine LP_end _ rfl ?_
  refine W_seq ?_
  refine W_region ?_
  refine LP_ev ok 0 [(42, .slice a (List.length aSeeds) c)] 1 rfl rfl ?_
  have ex43 := (((ex11.ext x13).ext x22).ext x34)
  refine LP_call 1 rfl rfl rfl cal_41 rfl (laws_toIntSS_w _ _ H wx33 r ex43) ?_
  rintro _ wx44 ⟨r42, vx46, hx47, H, rfl, x45, o48, ex49, f50⟩
  obtain ⟨a51, c52, rfl⟩ := o48.shape
  refine LP_ev ok 2 [(14, .slice a51 (List.length r42) c52)] 3 rfl rfl ?_
  refine LP_end _ rfl ?_
  try refine W_forget [(0, .slice a (List.length aSeeds) c), (1, I aI), (2, I aRound), (3, I aM), (4, .slice a5 (List.length aValues) c6), (12, .slice a40 (List.length r30) c41), (13, .bool r31), (14, .slice a51 (List.length r42) c52)] ⟨rfl, rfl, rfl, rfl, rfl, rfl, rfl, rfl, trivial⟩ fun ρ => ?_
  refine W_seq ?_
  refine W_region ?_
  refine LP_ev ok 0 [(44, .slice a5 (List.length aValues) c6)] 1 rfl rfl ?_
  have ex54 := (((ex20.ext x22).ext x34).ext x45)
  refine LP_call 1 rfl rfl rfl cal_26 rfl (laws_toIntS_w _ _ H wx44 r3 ex54) ?_
  rintro _ wx55 ⟨r53, vx57, hx58, H, rfl, x56, o59, ex60, f61⟩
  obtain ⟨a62, c63, rfl⟩ := o59.shape
  refine LP_ev ok 2 [(15, .slice a62 (List.length r53) c63)] 3 rfl rfl ?_
  refine LP_end _ rfl ?_
  refine W_seq ?_
  refine W_region ?_
  refine LP_ev ok 0 [(47, .slice a51 (List.length r42) c52), (48, I aI), (49, I aRound), (50, I aM), (51, .slice a62 (List.length r53) c63)] 5 rfl rfl ?_
  have ex66 := (ex49.ext x56)
  refine LP_call 5 rfl rfl rfl cal_60 rfl (impl_ShareOf_w _ _ _ _ _ _ H wx55 o48.readf ex66 o59.readf ex60) ?_
  rintro _ wx67 ⟨r64, r65, vx69, hx70, H, rfl, x68, o71, ex72, f73⟩
  obtain ⟨a74, c75, rfl⟩ := o71.shape
  refine LP_ev ok 6 [(46, .tuple #[.slice a74 (List.length r64) c75, .bool r65]), (53, .slice a74 (List.length r64) c75), (54, .bool r65), (16, .slice a74 (List.length r64) c75), (17, .bool r65)] 11 rfl rfl ?_
  refine LP_end _ rfl ?_
  refine W_seq ?_
  obtain ⟨k, hk, H⟩ := jn_elim H
  refine W_join2 (S := Bool) (fun s ρ' w' => k s ∧ ∃ (ρ : Env), ρ' = setAll [(0, .slice a (List.length aSeeds) c), (1, I aI), (2, I aRound), (3, I aM), (4, .slice a5 (List.length aValues) c6), (12, .slice a40 (List.length r30) c41), (13, .bool r31), (14, .slice a51 (List.length r42) c52), (15, .slice a62 (List.length r53) c63), (16, .slice a74 (List.length r64) c75), (17, .bool r65), (63, .bool s)] ρ ∧ But emp w w' ∧ Sub hx w' ∧ Sub hx2 w' ∧ Sub hx36 w' ∧ Sub hx47 w' ∧ Sub hx58 w' ∧ Sub hx70 w') ?_ ?_
  · refine W_region ?_
    refine LP_ev ok 0 [(55, .slice a74 (List.length r64) c75), (56, .slice a40 (List.length r30) c41)] 2 rfl rfl ?_
    have ex86 := (((ex38.ext x45).ext x56).ext x68)
    refine LP_call 2 rfl rfl rfl cal_22 rfl (laws_eqIntS_w _ _ _ H wx67 o71.readf ex72 o37.readf ex86) ?_
    rintro _ wx87 ⟨r85, H, rfl, x88⟩
    refine LP_ev ok 3 [(58, .bool (!r85)), (59, .bool (!r85))] 5 rfl rfl ?_
    refine LP_split 59 (!r85) rfl (fun hc89 => ?_) (fun hc89 => ?_)
    · have H := H.1 hc89
      refine LP_ev ok 5 [(60, undef), (61, undef), (62, undef), (63, .bool true)] 9 rfl rfl ?_
      refine LP_end _ rfl ?_
      have X90 := ((((((((X.stepx x).stepx x13).stepx x22).stepx x34).stepx x45).stepx x56).stepx x68).stepx x88)
      have ex91 := ((((ex43.ext x45).ext x56).ext x68).ext x88)
      have ex92 := (((ex54.ext x56).ext x68).ext x88)
      have ex93 := (ex86.ext x88)
      have ex94 := ((ex66.ext x68).ext x88)
      have ex95 := ((ex60.ext x68).ext x88)
      have ex96 := (ex72.ext x88)
      exact ⟨true, H, _, env_eq ⟨rfl, rfl, rfl, rfl, rfl, rfl, rfl, rfl, rfl, rfl, rfl, rfl, trivial⟩, X90, ex91, ex92, ex93, ex94, ex95, ex96⟩
    have H := H.2 hc89
    refine LP_ev ok 5 [(60, .bool r65), (61, .bool r31), (62, .bool (r65 != r31)), (63, .bool (r65 != r31))] 9 rfl rfl ?_
    refine LP_end _ rfl ?_
    have X97 := ((((((((X.stepx x).stepx x13).stepx x22).stepx x34).stepx x45).stepx x56).stepx x68).stepx x88)
    have ex98 := ((((ex43.ext x45).ext x56).ext x68).ext x88)
    have ex99 := (((ex54.ext x56).ext x68).ext x88)
    have ex100 := (ex86.ext x88)
    have ex101 := ((ex66.ext x68).ext x88)
    have ex102 := ((ex60.ext x68).ext x88)
    have ex103 := (ex72.ext x88)
    exact ⟨r65 != r31, H, _, env_eq ⟨rfl, rfl, rfl, rfl, rfl, rfl, rfl, rfl, rfl, rfl, rfl, rfl, trivial⟩, X97, ex98, ex99, ex100, ex101, ex102, ex103⟩
  rintro x76 _ wx77 ⟨H, ρ, rfl, X84, ex78, ex79, ex80, ex81, ex82, ex83⟩
  subst hk
  refine W_cond (x76) rfl (fun hc104 => ?_) (fun hc104 => ?_)
  · have H := H.1 hc104
    refine W_seq ?_
    refine W_region ?_
    refine LP_ev ok 0 [(10, .bool false)] 1 rfl rfl ?_
    refine LP_end _ rfl ?_
    refine W_ret ?_
    exact ⟨_, Ret_of [.bool false] ⟨⟨rfl, rfl⟩, trivial⟩, _, H, rfl, X84.ext⟩
  have H := H.2 hc104
  refine W_skip ?_
  refine W_seq ?_
  refine W_seq ?_
  refine W_region ?_
  refine LP_ev ok 0 [(64, .slice a51 (List.length r42) c52), (65, .slice a (List.length aSeeds) c)] 2 rfl rfl ?_
  refine LP_call 2 rfl rfl rfl cal_41 rfl (laws_toIntSS_w _ _ H wx77 r ex78) ?_
  rintro _ wx106 ⟨r105, vx108, hx109, H, rfl, x107, o110, ex111, f112⟩
  obtain ⟨a113, c114, rfl⟩ := o110.shape
  have ex116 := (ex81.ext x107)
  refine LP_call 3 rfl rfl rfl cal_43 rfl (laws_eqIntSS_w _ _ _ H wx106 o48.readf ex116 o110.readf ex111) ?_
  rintro _ wx117 ⟨r115, H, rfl, x118⟩
  refine LP_ev ok 4 [(68, .bool (!r115))] 5 rfl rfl ?_
  refine LP_end _ rfl ?_
  refine W_cond (!r115) rfl (fun hc119 => ?_) (fun hc119 => ?_)
  · have H := H.1 hc119
    refine W_seq ?_
    refine W_region ?_
    refine LP_ev ok 0 [(10, .bool false)] 1 rfl rfl ?_
    refine LP_end _ rfl ?_
    refine W_ret ?_
    have X120 := ((X84.stepx x107).stepx x118)
    exact ⟨_, Ret_of [.bool false] ⟨⟨rfl, rfl⟩, trivial⟩, _, H, rfl, X120.ext⟩
  have H := H.2 hc119
  refine W_skip ?_
  refine W_seq ?_
  refine W_seq ?_
  refine W_region ?_
  refine LP_ev ok 0 [(69, .slice a62 (List.length r53) c63), (70, .slice a5 (List.length aValues) c6)] 2 rfl rfl ?_
  have ex122 := ((ex79.ext x107).ext x118)
  refine LP_call 2 rfl rfl rfl cal_26 rfl (laws_toIntS_w _ _ H wx117 r3 ex122) ?_
  rintro _ wx123 ⟨r121, vx125, hx126, H, rfl, x124, o127, ex128, f129⟩
  obtain ⟨a130, c131, rfl⟩ := o127.shape
  have ex133 := (((ex82.ext x107).ext x118).ext x124)
  refine LP_call 3 rfl rfl rfl cal_22 rfl (laws_eqIntS_w _ _ _ H wx123 o59.readf ex133 o127.readf ex128) ?_
  rintro _ wx134 ⟨r132, H, rfl, x135⟩
  refine LP_ev ok 4 [(73, .bool (!r132))] 5 rfl rfl ?_
  refine LP_end _ rfl ?_
  refine W_cond (!r132) rfl (fun hc136 => ?_) (fun hc136 => ?_)
  · have H := H.1 hc136
    refine W_seq ?_
    refine W_region ?_
    refine LP_ev ok 0 [(10, .bool false)] 1 rfl rfl ?_
    refine LP_end _ rfl ?_
    refine W_ret ?_
    have X137 := ((((X84.stepx x107).stepx x118).stepx x124).stepx x135)
    exact ⟨_, Ret_of [.bool false] ⟨⟨rfl, rfl⟩, trivial⟩, _, H, rfl, X137.ext⟩
  have H := H.2 hc136
  refine W_skip ?_
  refine W_seq ?_
  refine W_region ?_
  refine LP_ev ok 0 [(18, I 1)] 1 rfl rfl ?_
  refine LP_end _ rfl ?_
  refine W_seq ?_
  refine W_region ?_
  refine LP_ev ok 0 [(74, .slice a51 (List.length r42) c52), (75, I 1)] 2 rfl rfl ?_
  have ex140 := (((ex116.ext x118).ext x124).ext x135)
  refine LP_call 2 rfl rfl rfl cal_44 rfl (laws_markIntSS_w _ _ _ H wx134 o48 ex140) ?_
  rintro _ wx141 ⟨r138, r139, hx143, H, rfl, x142, o144, ex145, dm⟩
  refine LP_ev ok 3 [(18, I r138)] 4 rfl rfl ?_
  refine LP_end _ rfl ?_
  refine W_seq ?_
  refine W_region ?_
  refine LP_ev ok 0 [(77, .slice a62 (List.length r53) c63), (78, I r138)] 2 rfl rfl ?_
  have ex150 := ((ex133.ext x135).but x142 (Dj.of_fresh ex49 f61))
  refine LP_call 2 rfl rfl rfl cal_23 rfl (laws_markIntS_w _ _ _ H wx141 o59 ex150) ?_
  rintro _ wx151 ⟨r148, r149, hx153, H, rfl, x152, o154, ex155, dm156⟩
  refine LP_ev ok 3 [(18, I r148)] 4 rfl rfl ?_
  refine LP_end _ rfl ?_
  refine W_seq ?_
  obtain ⟨k167, hk168, H⟩ := jn_elim H
  refine W_join2 (S := Bool) (fun s ρ' w' => k167 s ∧ ∃ (ρ : Env), ρ' = setAll [(0, .slice a (List.length aSeeds) c), (1, I aI), (2, I aRound), (3, I aM), (4, .slice a5 (List.length aValues) c6), (12, .slice a40 (List.length r30) c41), (13, .bool r31), (16, .slice a74 (List.length r64) c75), (92, .bool s)] ρ ∧ But emp w w' ∧ Sub hx w' ∧ Sub hx2 w' ∧ Sub hx36 w' ∧ Sub hx70 w') ?_ ?_
  · refine W_region ?_
    refine LP_ev ok 0 [(80, I r148), (81, .bool (decide (r148 < 0))), (82, .bool (decide (r148 < 0)))] 3 rfl rfl ?_
    refine LP_split 82 (decide (r148 < 0)) rfl (fun hc169 => ?_) (fun hc169 => ?_)
    · have H := H.1 hc169
      refine LP_ev ok 3 [(83, undef), (84, undef), (85, undef), (86, undef), (87, .bool true), (88, .bool true), (89, undef), (90, undef), (91, undef), (92, .bool true)] 13 rfl rfl ?_
      refine LP_end _ rfl ?_
      try refine W_forget [(0, .slice a (List.length aSeeds) c), (1, I aI), (2, I aRound), (3, I aM), (4, .slice a5 (List.length aValues) c6), (12, .slice a40 (List.length r30) c41), (13, .bool r31), (16, .slice a74 (List.length r64) c75), (92, .bool true)] ⟨rfl, rfl, rfl, rfl, rfl, rfl, rfl, rfl, rfl, trivial⟩ fun ρ => ?_
      have X171 := ((((X.stepx x).stepx x13).stepx x22).stepx x34)
      have f170 := f50.mono X171.size
      have X173 := (X171.stepx x45)
      have f172 := f61.mono X173.size
      have X174 := ((((((X84.stepx x107).stepx x118).stepx x124).stepx x135).step x142 (f170.dom _)).step x152 (f172.dom _))
      have ex175 := (ex43.ext x45)
      have ex176 := ((((((ex78.ext x107).ext x118).ext x124).ext x135).but x142 (Dj.of_fresh ex43 f50).symm).but x152 (Dj.of_fresh ex175 f61).symm)
      have ex177 := ((ex20.ext x22).ext x34)
      have ex178 := ((((ex122.ext x124).ext x135).but x142 (Dj.of_fresh ex177 f50).symm).but x152 (Dj.of_fresh ex54 f61).symm)
      have ex179 := (ex38.ext x45)
      have ex180 := ((((((ex80.ext x107).ext x118).ext x124).ext x135).but x142 (Dj.of_fresh ex38 f50).symm).but x152 (Dj.of_fresh ex179 f61).symm)
      have ex181 := ((((((ex83.ext x107).ext x118).ext x124).ext x135).but x142 (Dj.of_fresh ex66 f73)).but x152 (Dj.of_fresh ex60 f73))
      exact ⟨true, H, _, env_eq ⟨rfl, rfl, rfl, rfl, rfl, rfl, rfl, rfl, rfl, trivial⟩, X174, ex176, ex178, ex180, ex181⟩
    have H := H.2 hc169
    refine LP_ev ok 3 [(83, .slice a74 (List.length r64) c75), (84, .slice a40 (List.length r30) c41)] 5 rfl rfl ?_
    have ex183 := ((((((ex83.ext x107).ext x118).ext x124).ext x135).but x142 (Dj.of_fresh ex66 f73)).but x152 (Dj.of_fresh ex60 f73))
    have ex184 := (ex38.ext x45)
    have ex185 := ((((((ex80.ext x107).ext x118).ext x124).ext x135).but x142 (Dj.of_fresh ex38 f50).symm).but x152 (Dj.of_fresh ex184 f61).symm)
    refine LP_call 5 rfl rfl rfl cal_22 rfl (laws_eqIntS_w _ _ _ H wx151 o71.readf ex183 o37.readf ex185) ?_
    rintro _ wx186 ⟨r182, H, rfl, x187⟩
    refine LP_ev ok 6 [(86, .bool (!r182)), (87, .bool (!r182)), (88, .bool (!r182))] 9 rfl rfl ?_
    refine LP_split 88 (!r182) rfl (fun hc188 => ?_) (fun hc188 => ?_)
    · have H := H.1 hc188
      refine LP_ev ok 9 [(89, undef), (90, undef), (91, undef), (92, .bool true)] 13 rfl rfl ?_
      refine LP_end _ rfl ?_
      try refine W_forget [(0, .slice a (List.length aSeeds) c), (1, I aI), (2, I aRound), (3, I aM), (4, .slice a5 (List.length aValues) c6), (12, .slice a40 (List.length r30) c41), (13, .bool r31), (16, .slice a74 (List.length r64) c75), (92, .bool true)] ⟨rfl, rfl, rfl, rfl, rfl, rfl, rfl, rfl, rfl, trivial⟩ fun ρ => ?_
      have X190 := ((((X.stepx x).stepx x13).stepx x22).stepx x34)
      have f189 := f50.mono X190.size
      have X192 := (X190.stepx x45)
      have f191 := f61.mono X192.size
      have X193 := (((((((X84.stepx x107).stepx x118).stepx x124).stepx x135).step x142 (f189.dom _)).step x152 (f191.dom _)).stepx x187)
      have ex194 := (ex43.ext x45)
      have ex195 := (((((((ex78.ext x107).ext x118).ext x124).ext x135).but x142 (Dj.of_fresh ex43 f50).symm).but x152 (Dj.of_fresh ex194 f61).symm).ext x187)
      have ex196 := ((ex20.ext x22).ext x34)
      have ex197 := (((((ex122.ext x124).ext x135).but x142 (Dj.of_fresh ex196 f50).symm).but x152 (Dj.of_fresh ex54 f61).symm).ext x187)
      have ex198 := (ex185.ext x187)
      have ex199 := (ex183.ext x187)
      exact ⟨true, H, _, env_eq ⟨rfl, rfl, rfl, rfl, rfl, rfl, rfl, rfl, rfl, trivial⟩, X193, ex195, ex197, ex198, ex199⟩
    have H := H.2 hc188
    refine LP_ev ok 9 [(89, .bool r65), (90, .bool r31), (91, .bool (r65 != r31)), (92, .bool (r65 != r31))] 13 rfl rfl ?_
    refine LP_end _ rfl ?_
    try refine W_forget [(0, .slice a (List.length aSeeds) c), (1, I aI), (2, I aRound), (3, I aM), (4, .slice a5 (List.length aValues) c6), (12, .slice a40 (List.length r30) c41), (13, .bool r31), (16, .slice a74 (List.length r64) c75), (92, .bool (r65 != r31))] ⟨rfl, rfl, rfl, rfl, rfl, rfl, rfl, rfl, rfl, trivial⟩ fun ρ => ?_
    have X201 := ((((X.stepx x).stepx x13).stepx x22).stepx x34)
    have f200 := f50.mono X201.size
    have X203 := (X201.stepx x45)
    have f202 := f61.mono X203.size
    have X204 := (((((((X84.stepx x107).stepx x118).stepx x124).stepx x135).step x142 (f200.dom _)).step x152 (f202.dom _)).stepx x187)
    have ex205 := (ex43.ext x45)
    have ex206 := (((((((ex78.ext x107).ext x118).ext x124).ext x135).but x142 (Dj.of_fresh ex43 f50).symm).but x152 (Dj.of_fresh ex205 f61).symm).ext x187)
    have ex207 := ((ex20.ext x22).ext x34)
    have ex208 := (((((ex122.ext x124).ext x135).but x142 (Dj.of_fresh ex207 f50).symm).but x152 (Dj.of_fresh ex54 f61).symm).ext x187)
    have ex209 := (ex185.ext x187)
    have ex210 := (ex183.ext x187)
    exact ⟨r65 != r31, H, _, env_eq ⟨rfl, rfl, rfl, rfl, rfl, rfl, rfl, rfl, rfl, trivial⟩, X204, ex206, ex208, ex209, ex210⟩
  rintro x160 _ wx161 ⟨H, ρ, rfl, X166, ex162, ex163, ex164, ex165⟩
  subst hk168
  refine W_cond (x160) rfl (fun hc211 => ?_) (fun hc211 => ?_)
  · have H := H.1 hc211
    refine W_seq ?_
    refine W_region ?_
    refine LP_ev ok 0 [(10, .bool false)] 1 rfl rfl ?_
    refine LP_end _ rfl ?_
    refine W_ret ?_
    exact ⟨_, Ret_of [.bool false] ⟨⟨rfl, rfl⟩, trivial⟩, _, H, rfl, X166.ext⟩
  have H := H.2 hc211
  refine W_skip ?_
  refine W_seq ?_
  refine W_region ?_
  refine LP_ev ok 0 [(19, I 1)] 1 rfl rfl ?_
  refine LP_end _ rfl ?_
  refine W_seq ?_
  refine W_region ?_
  refine LP_ev ok 0 [(93, .slice a74 (List.length r64) c75), (94, I 1)] 2 rfl rfl ?_
  refine LP_call 2 rfl rfl rfl cal_23 rfl (laws_markIntS_w _ _ _ H wx161 o71 ex165) ?_
  rintro _ wx214 ⟨r212, r213, hx216, H, rfl, x215, o217, ex218, dm219⟩
  refine LP_ev ok 3 [(19, I r212)] 4 rfl rfl ?_
  refine LP_end _ rfl ?_
  refine W_seq ?_
  refine W_region ?_
  refine LP_ev ok 0 [(20, I 1)] 1 rfl rfl ?_
  refine LP_end _ rfl ?_
  refine W_seq ?_
  refine W_region ?_
  refine LP_ev ok 0 [(96, .slice a74 (List.length r64) c75), (97, I 1)] 2 rfl rfl ?_
  refine LP_call 2 rfl rfl rfl cal_24 rfl (laws_heldIntS_w _ _ _ H wx214 o217.readf ex218) ?_
  rintro _ wx224 ⟨r223, H, rfl, x225⟩
  refine LP_ev ok 3 [(20, I r223)] 4 rfl rfl ?_
  refine LP_end _ rfl ?_
  refine W_seq ?_
  refine W_seq ?_
  refine W_region ?_
  refine LP_ev ok 0 [(99, I r223), (100, .bool (decide (r223 < 0)))] 2 rfl rfl ?_
  refine LP_end _ rfl ?_
  refine W_cond (decide (r223 < 0)) rfl (fun hc226 => ?_) (fun hc226 => ?_)
  · have H := H.1 hc226
    refine W_seq ?_
    refine W_region ?_
    refine LP_ev ok 0 [(10, .bool false)] 1 rfl rfl ?_
    refine LP_end _ rfl ?_
    refine W_ret ?_
    have X228 := ((((((X.stepx x).stepx x13).stepx x22).stepx x34).stepx x45).stepx x56)
    have f227 := f73.mono X228.size
    have X229 := ((X166.step x215 (f227.dom _)).stepx x225)
    exact ⟨_, Ret_of [.bool false] ⟨⟨rfl, rfl⟩, trivial⟩, _, H, rfl, X229.ext⟩
  have H := H.2 hc226
  refine W_skip ?_
  refine W_seq ?_
  refine W_seq ?_
  refine W_region ?_
  refine LP_ev ok 0 [(101, I r223), (102, I r212), (103, .bool (r223 != r212))] 3 rfl rfl ?_
  refine LP_end _ rfl ?_
  refine W_cond (r223 != r212) rfl (fun hc230 => ?_) (fun hc230 => ?_)
  · have H := H.1 hc230
    refine W_seq ?_
    refine W_region ?_
    refine LP_ev ok 0 [(10, .bool false)] 1 rfl rfl ?_
    refine LP_end _ rfl ?_
    refine W_ret ?_
    have X232 := ((((((X.stepx x).stepx x13).stepx x22).stepx x34).stepx x45).stepx x56)
    have f231 := f73.mono X232.size
    have X233 := ((X166.step x215 (f231.dom _)).stepx x225)
    exact ⟨_, Ret_of [.bool false] ⟨⟨rfl, rfl⟩, trivial⟩, _, H, rfl, X233.ext⟩
  have H := H.2 hc230
  refine W_skip ?_
  refine W_seq ?_
  refine W_region ?_
  refine LP_ev ok 0 [(105, .slice a (List.length aSeeds) c)] 1 rfl rfl ?_
  have ex235 := ((ex43.ext x45).ext x56)
  have ex236 := ((ex162.but x215 (Dj.of_fresh ex235 f73).symm).ext x225)
  refine LP_call 1 rfl rfl rfl cal_41 rfl (laws_toIntSS_w _ _ H wx224 r ex236) ?_
  rintro _ wx237 ⟨r234, vx239, hx240, H, rfl, x238, o241, ex242, f243⟩
  obtain ⟨a244, c245, rfl⟩ := o241.shape
  refine LP_ev ok 2 [(107, I aI), (108, I aRound), (109, I aM), (110, .slice a5 (List.length aValues) c6)] 6 rfl rfl ?_
  have ex247 := (ex54.ext x56)
  have ex248 := (((ex163.but x215 (Dj.of_fresh ex247 f73).symm).ext x225).ext x238)
  refine LP_call 6 rfl rfl rfl cal_26 rfl (laws_toIntS_w _ _ H wx237 r3 ex248) ?_
  rintro _ wx249 ⟨r246, vx251, hx252, H, rfl, x250, o253, ex254, f255⟩
  obtain ⟨a256, c257, rfl⟩ := o253.shape
  have ex260 := (ex242.ext x250)
  refine LP_call 7 rfl rfl rfl cal_60 rfl (impl_ShareOf_w _ _ _ _ _ _ H wx249 o241.readf ex260 o253.readf ex254) ?_
  rintro _ wx261 ⟨r258, r259, vx263, hx264, H, rfl, x262, o265, ex266, f267⟩
  obtain ⟨a268, c269, rfl⟩ := o265.shape
  refine LP_ev ok 8 [(104, .tuple #[.slice a268 (List.length r258) c269, .bool r259]), (113, .slice a268 (List.length r258) c269), (114, .bool r259), (21, .slice a268 (List.length r258) c269), (22, .bool r259)] 13 rfl rfl ?_
  refine LP_end _ rfl ?_
  try refine W_forget [(12, .slice a40 (List.length r30) c41), (13, .bool r31), (16, .slice a74 (List.length r64) c75), (19, I r212), (21, .slice a268 (List.length r258) c269), (22, .bool r259)] ⟨rfl, rfl, rfl, rfl, rfl, rfl, trivial⟩ fun ρ => ?_
  refine W_seq ?_
  obtain ⟨k274, hk275, H⟩ := jn_elim H
  refine W_join2 (S := Bool) (fun s ρ' w' => k274 s ∧ ∃ (ρ : Env), ρ' = setAll [(16, .slice a74 (List.length r64) c75), (19, I r212), (123, .bool s)] ρ ∧ But emp w w' ∧ Sub hx216 w') ?_ ?_
  · refine W_region ?_
    refine LP_ev ok 0 [(115, .slice a268 (List.length r258) c269), (116, .slice a40 (List.length r30) c41)] 2 rfl rfl ?_
    have ex277 := ((ex38.ext x45).ext x56)
    have ex278 := (((((ex164.but x215 (Dj.of_fresh ex277 f73).symm).ext x225).ext x238).ext x250).ext x262)
    refine LP_call 2 rfl rfl rfl cal_22 rfl (laws_eqIntS_w _ _ _ H wx261 o265.readf ex266 o37.readf ex278) ?_
    rintro _ wx279 ⟨r276, H, rfl, x280⟩
    refine LP_ev ok 3 [(118, .bool (!r276)), (119, .bool (!r276))] 5 rfl rfl ?_
    refine LP_split 119 (!r276) rfl (fun hc281 => ?_) (fun hc281 => ?_)
    · have H := H.1 hc281
      refine LP_ev ok 5 [(120, undef), (121, undef), (122, undef), (123, .bool true)] 9 rfl rfl ?_
      refine LP_end _ rfl ?_
      have X283 := ((((((X.stepx x).stepx x13).stepx x22).stepx x34).stepx x45).stepx x56)
      have f282 := f73.mono X283.size
      have X284 := ((((((X166.step x215 (f282.dom _)).stepx x225).stepx x238).stepx x250).stepx x262).stepx x280)
      have ex285 := (((((ex218.ext x225).ext x238).ext x250).ext x262).ext x280)
      exact ⟨true, H, _, env_eq ⟨rfl, rfl, rfl, trivial⟩, X284, ex285⟩
    have H := H.2 hc281
    refine LP_ev ok 5 [(120, .bool r259), (121, .bool r31), (122, .bool (r259 != r31)), (123, .bool (r259 != r31))] 9 rfl rfl ?_
    refine LP_end _ rfl ?_
    have X287 := ((((((X.stepx x).stepx x13).stepx x22).stepx x34).stepx x45).stepx x56)
    have f286 := f73.mono X287.size
    have X288 := ((((((X166.step x215 (f286.dom _)).stepx x225).stepx x238).stepx x250).stepx x262).stepx x280)
    have ex289 := (((((ex218.ext x225).ext x238).ext x250).ext x262).ext x280)
    exact ⟨r259 != r31, H, _, env_eq ⟨rfl, rfl, rfl, trivial⟩, X288, ex289⟩
  rintro x270 _ wx271 ⟨H, ρ, rfl, X273, ex272⟩
  subst hk275
  refine W_cond (x270) rfl (fun hc290 => ?_) (fun hc290 => ?_)
  · have H := H.1 hc290
    refine W_seq ?_
    refine W_region ?_
    refine LP_ev ok 0 [(10, .bool false)] 1 rfl rfl ?_
    refine LP_end _ rfl ?_
    refine W_ret ?_
    exact ⟨_, Ret_of [.bool false] ⟨⟨rfl, rfl⟩, trivial⟩, _, H, rfl, X273.ext⟩
  have H := H.2 hc290
  refine W_skip ?_
  refine W_seq ?_
  refine W_region ?_
  refine LP_ev ok 0 [(20, I 1)] 1 rfl rfl ?_
  refine LP_end _ rfl ?_
  refine W_seq ?_
  refine W_region ?_
  refine LP_ev ok 0 [(124, .slice a74 (List.length r64) c75), (125, I 1)] 2 rfl rfl ?_
  refine LP_call 2 rfl rfl rfl cal_24 rfl (laws_heldIntS_w _ _ _ H wx271 o217.readf ex272) ?_
  rintro _ wx292 ⟨r291, H, rfl, x293⟩
  refine LP_ev ok 3 [(20, I r291)] 4 rfl rfl ?_
  refine LP_end _ rfl ?_
  refine W_seq ?_
  refine W_seq ?_
  refine W_region ?_
  refine LP_ev ok 0 [(127, I r291), (128, .bool (decide (r291 < 0)))] 2 rfl rfl ?_
  refine LP_end _ rfl ?_
  refine W_cond (decide (r291 < 0)) rfl (fun hc294 => ?_) (fun hc294 => ?_)
  · have H := H.1 hc294
    refine W_seq ?_
    refine W_region ?_
    refine LP_ev ok 0 [(10, .bool false)] 1 rfl rfl ?_
    refine LP_end _ rfl ?_
    refine W_ret ?_
    have X295 := (X273.stepx x293)
    exact ⟨_, Ret_of [.bool false] ⟨⟨rfl, rfl⟩, trivial⟩, _, H, rfl, X295.ext⟩
  have H := H.2 hc294
  refine W_skip ?_
  refine W_seq ?_
  refine W_seq ?_
  refine W_region ?_
  refine LP_ev ok 0 [(129, I r291), (130, I r212), (131, .bool (r291 != r212))] 3 rfl rfl ?_
  refine LP_end _ rfl ?_
  refine W_cond (r291 != r212) rfl (fun hc296 => ?_) (fun hc296 => ?_)
  · have H := H.1 hc296
    refine W_seq ?_
    refine W_region ?_
    refine LP_ev ok 0 [(10, .bool false)] 1 rfl rfl ?_
    refine LP_end _ rfl ?_
    refine W_ret ?_
    have X297 := (X273.stepx x293)
    exact ⟨_, Ret_of [.bool false] ⟨⟨rfl, rfl⟩, trivial⟩, _, H, rfl, X297.ext⟩
  have H := H.2 hc296
  refine W_skip ?_
  refine W_seq ?_
  refine W_region ?_
  refine LP_ev ok 0 [(10, .bool true)] 1 rfl rfl ?_
  refine LP_end _ rfl ?_
  refine W_ret ?_
  have X298 := (X273.stepx x293)
  exact ⟨_, Ret_of [.bool true] ⟨⟨rfl, rfl⟩, trivial⟩, _, H, rfl, X298.ext⟩

set_option maxRecDepth 8000 in
set_option maxHeartbeats 4000000 in
theorem spec_l1Rising_w (l : List Int) (lo : Int) (hi : Int) (Q : Bool → Prop) (H : spec_l1Rising l lo hi Q) (w : World) {vx : Value} {hx : PH} (r : RS hx vx l) (ex : Sub hx w) :
    CallsTo Try.prog 150 #[vx, I lo, I hi] w fun v w' => ∃ r0, Q r0 ∧ v = .bool r0 ∧ Ext w w' := by
  obtain ⟨a, c, rfl⟩ := r.shape
  refine enter (args := [.slice a (List.length l) c, I lo, I hi]) 35 Try.func150 rfl rfl rfl ?_
  refine W_forget [(0, .slice a (List.length l) c), (1, I lo), (2, I hi)] ⟨rfl, rfl, rfl, trivial⟩ fun ρ => ?_
  have X := But.refl emp w
  refine W_seq ?_
  refine W_region ?_
  refine LP_ev ok 0 [(6, .bool false)] 1 rfl rfl ?_
  refine LP_end _ rfl ?_
  refine W_seq ?_
  refine W_seq ?_
  refine W_region ?_
  refine LP_ev ok 0 [(9, .slice a (List.length l) c), (10, I (ln l)), (11, I 0)] 3 rfl rfl ?_
  refine LP_end _ rfl ?_
  refine W_block ?_
  obtain ⟨J, m, Hx, H⟩ := H
  refine W_loop (S := Int) (fun s ρ' w' => J s ∧ ∃ (ρ : Env), ρ' = setAll [(0, .slice a (List.length l) c), (1, I lo), (2, I hi), (9, .slice a (List.length l) c), (10, I (ln l)), (11, I s)] ρ ∧ But emp w w' ∧ Sub hx w') (fun s => m s) 0 ⟨Hx, _, env_eq ⟨rfl, rfl, rfl, rfl, rfl, rfl, trivial⟩, X, ex⟩ ?_
  rintro x _ wx ⟨Hi, ρ, rfl, X2, ex1⟩
  have H := H x Hi
  refine W_seq ?_
  refine W_region ?_
  refine LP_ev ok 0 [(12, .bool (decide (x < (ln l))))] 1 rfl rfl ?_
  refine LP_end _ rfl ?_
  refine W_seq ?_
  refine W_cond (decide (x < (ln l))) rfl (fun hc => ?_) (fun hc => ?_)
  · have H := H.1 hc
    refine W_skip ?_
    refine W_seq ?_
    refine W_block ?_
    refine W_seq ?_
    refine W_region ?_
    refine LP_ev ok 0 [(13, I x)] 1 rfl rfl ?_
    obtain ⟨x3, hi4, hx5, H⟩ := H
    refine LP_index 1 rfl rfl rfl Try.underlying22 ti_3 rfl rfl r hi4 hx5 fun a6 cs r7 d => ?_
    refine LP_load 2 rfl rfl rfl ti_3 ag_3 rfl r7 d ex1 fun vx8 r9 => ?_
    obtain rfl := r9.int
    refine LP_ev ok 3 [(7, I x), (8, I x3)] 5 rfl rfl ?_
    refine LP_end _ rfl ?_
    obtain ⟨k, hk, H⟩ := jn_elim H
    refine W_join2 (S := Bool) (fun s ρ' w' => k s ∧ ∃ (ρ : Env), ρ' = setAll [(0, .slice a (List.length l) c), (1, I lo), (2, I hi), (9, .slice a (List.length l) c), (10, I (ln l)), (11, I x), (33, .bool s)] ρ ∧ But emp w w' ∧ Sub hx w') ?_ ?_
    · refine W_region ?_
      refine LP_ev ok 0 [(16, I x3), (17, I lo), (18, I hi)] 3 rfl rfl ?_
      refine LP_call 3 rfl rfl rfl cal_76 rfl (spec_l1In_w _ _ _ _ H wx ) ?_
      rintro _ wx15 ⟨r14, H, rfl, x16⟩
      refine LP_ev ok 4 [(20, .bool (!r14)), (21, .bool (!r14))] 6 rfl rfl ?_
      refine LP_split 21 (!r14) rfl (fun hc17 => ?_) (fun hc17 => ?_)
      · have H := H.1 hc17
        refine LP_ev ok 6 [(22, undef), (23, undef), (24, undef), (25, undef), (26, undef), (27, undef), (28, undef), (29, undef), (30, undef), (31, undef), (32, undef), (33, .bool true)] 18 rfl rfl ?_
        refine LP_end _ rfl ?_
        have X18 := (X2.stepx x16)
        have ex19 := (ex1.ext x16)
        exact ⟨true, H, _, env_eq ⟨rfl, rfl, rfl, rfl, rfl, rfl, rfl, trivial⟩, X18, ex19⟩
      have H := H.2 hc17
      refine LP_ev ok 6 [(22, I x), (23, .bool (decide (x > 0))), (24, .bool (decide (x > 0)))] 9 rfl rfl ?_
      refine LP_split 24 (decide (x > 0)) rfl (fun hc20 => ?_) (fun hc20 => ?_)
      · have H := H.1 hc20
        refine LP_ev ok 9 [(25, .slice a (List.length l) c), (26, I x), (27, I (wr (x - 1)))] 12 rfl rfl ?_
        obtain ⟨x21, hi22, hx23, H⟩ := H
        refine LP_index 12 rfl rfl rfl Try.underlying22 ti_3 rfl rfl r hi22 hx23 fun a24 cs25 r26 d27 => ?_
        have ex28 := (ex1.ext x16)
        refine LP_load 13 rfl rfl rfl ti_3 ag_3 rfl r26 d27 ex28 fun vx29 r30 => ?_
        obtain rfl := r30.int
        refine LP_ev ok 14 [(30, I x3), (31, .bool (decide (x21 ≥ x3))), (32, .bool (decide (x21 ≥ x3))), (33, .bool (decide (x21 ≥ x3)))] 18 rfl rfl ?_
        refine LP_end _ rfl ?_
        have X31 := (X2.stepx x16)
        exact ⟨decide (x21 ≥ x3), H, _, env_eq ⟨rfl, rfl, rfl, rfl, rfl, rfl, rfl, trivial⟩, X31, ex28⟩
      have H := H.2 hc20
      refine LP_ev ok 9 [(25, undef), (26, undef), (27, undef), (28, undef), (29, undef), (30, undef), (31, undef), (32, .bool false), (33, .bool false)] 18 rfl rfl ?_
      refine LP_end _ rfl ?_
      have X32 := (X2.stepx x16)
      have ex33 := (ex1.ext x16)
      exact ⟨false, H, _, env_eq ⟨rfl, rfl, rfl, rfl, rfl, rfl, rfl, trivial⟩, X32, ex33⟩
    rintro x10 _ wx11 ⟨H, ρ, rfl, X13, ex12⟩
    subst hk
    refine W_cond (x10) rfl (fun hc34 => ?_) (fun hc34 => ?_)
    · have H := H.1 hc34
      refine W_seq ?_
      refine W_region ?_
      refine LP_ev ok 0 [(6, .bool false)] 1 rfl rfl ?_
      refine LP_end _ rfl ?_
      refine W_ret ?_
      exact ⟨_, Ret_of [.bool false] ⟨⟨rfl, rfl⟩, trivial⟩, _, H, rfl, X13.ext⟩
    have H := H.2 hc34
    refine W_skip ?_
    refine W_region ?_
    refine LP_ev ok 0 [(34, I (wr (x + 1))), (11, I (wr (x + 1)))] 2 rfl rfl ?_
    refine LP_end _ rfl ?_
    exact ⟨wr (x + 1), ⟨H.1, _, env_eq ⟨rfl, rfl, rfl, rfl, rfl, rfl, trivial⟩, X13, ex12⟩, H.2⟩
  have H := H.2 hc
  refine W_exit ?_
  refine (if_pos rfl).mpr ?_
  refine W_seq ?_
  refine W_region ?_
  refine LP_ev ok 0 [(6, .bool true)] 1 rfl rfl ?_
  refine LP_end _ rfl ?_
  refine W_ret ?_
  exact ⟨_, Ret_of [.bool true] ⟨⟨rfl, rfl⟩, trivial⟩, _, H, rfl, X2.ext⟩

set_option maxRecDepth 8000 in
set_option maxHeartbeats 4000000 in
theorem spec_zePresent_w (seeds : List (List Int)) (present : List Int) (Q : Bool → Prop) (H : spec_zePresent seeds present Q) (w : World) {vx : Value} {hx : PH} (r : RS hx vx seeds) (ex : Sub hx w) {vx1 : Value} {hx2 : PH} (r3 : RS hx2 vx1 present) (ex4 : Sub hx2 w) :
    CallsTo Try.prog 124 #[vx, vx1] w fun v w' => ∃ r0, Q r0 ∧ v = .bool r0 ∧ Ext w w' := by
  obtain ⟨a, c, rfl⟩ := r.shape
  obtain ⟨a5, c6, rfl⟩ := r3.shape
  refine enter (args := [.slice a (List.length seeds) c, .slice a5 (List.length present) c6]) 19 Try.func124 rfl rfl rfl ?_
  refine W_forget [(0, .slice a (List.length seeds) c), (1, .slice a5 (List.length present) c6)] ⟨rfl, rfl, trivial⟩ fun ρ => ?_
  have X := But.refl emp w
  refine W_seq ?_
  refine W_region ?_
  refine LP_ev ok 0 [(4, .bool false)] 1 rfl rfl ?_
  refine LP_end _ rfl ?_
  obtain ⟨k, hk, H⟩ := jn_elim H
  refine W_join2 (S := Bool) (fun s ρ' w' => k s ∧ ∃ (ρ : Env), ρ' = setAll [(4, .bool s)] ρ ∧ But emp w w') ?_ ?_
  · refine W_region ?_
    refine LP_ev ok 0 [(5, .slice a (List.length seeds) c)] 1 rfl rfl ?_
    refine LP_call 1 rfl rfl rfl cal_118 rfl (spec_zeSeeds_w _ _ H w r ex) ?_
    rintro _ wx9 ⟨r8, H, rfl, x10⟩
    refine LP_ev ok 2 [(7, .bool r8)] 3 rfl rfl ?_
    refine LP_split 7 (r8) rfl (fun hc => ?_) (fun hc => ?_)
    · have H := H.1 hc
      refine LP_ev ok 3 [(8, .slice a5 (List.length present) c6), (9, I (ln present)), (10, .bool (decide ((ln present) > 0))), (11, .bool (decide ((ln present) > 0))), (12, .bool (decide ((ln present) > 0)))] 8 rfl rfl ?_
      refine LP_split 12 (decide ((ln present) > 0)) rfl (fun hc11 => ?_) (fun hc11 => ?_)
      · have H := H.1 hc11
        refine LP_ev ok 8 [(13, .slice a5 (List.length present) c6), (14, .slice a (List.length seeds) c), (15, I (ln seeds)), (16, I (wr ((ln seeds) - 1)))] 12 rfl rfl ?_
        have ex13 := (ex4.ext x10)
        refine LP_call 12 rfl rfl rfl cal_150 rfl (spec_l1Rising_w _ _ _ _ H wx9 r3 ex13) ?_
        rintro _ wx14 ⟨r12, H, rfl, x15⟩
        refine LP_ev ok 13 [(18, .bool r12), (4, .bool r12)] 15 rfl rfl ?_
        refine LP_end _ rfl ?_
        have X16 := ((X.stepx x10).stepx x15)
        exact ⟨r12, H, _, env_eq ⟨rfl, trivial⟩, X16⟩
      have H := H.2 hc11
      refine LP_ev ok 8 [(13, undef), (14, undef), (15, undef), (16, undef), (17, undef), (18, .bool false), (4, .bool false)] 15 rfl rfl ?_
      refine LP_end _ rfl ?_
      have X17 := (X.stepx x10)
      exact ⟨false, H, _, env_eq ⟨rfl, trivial⟩, X17⟩
    have H := H.2 hc
    refine LP_ev ok 3 [(8, undef), (9, undef), (10, undef), (11, .bool false), (12, .bool false), (13, undef), (14, undef), (15, undef), (16, undef), (17, undef), (18, .bool false), (4, .bool false)] 15 rfl rfl ?_
    refine LP_end _ rfl ?_
    have X18 := (X.stepx x10)
    exact ⟨false, H, _, env_eq ⟨rfl, trivial⟩, X18⟩
  rintro x _ wx ⟨H, ρ, rfl, X7⟩
  subst hk
  refine W_ret ?_
  exact ⟨_, Ret_of [.bool x] ⟨⟨rfl, rfl⟩, trivial⟩, _, H, rfl, X7.ext⟩

set_option maxRecDepth 8000 in
set_option maxHeartbeats 4000000 in
theorem spec_zeRepair_w (seeds : List (List Int)) (present : List Int) (round : Int) (n : Int) (m : Int) (Q : (List Int) → Prop) (H : spec_zeRepair seeds present round n m Q) (w : World) {vx : Value} {hx : PH} (r : RS hx vx seeds) (ex : Sub hx w) {vx1 : Value} {hx2 : PH} (r3 : RS hx2 vx1 present) (ex4 : Sub hx2 w) :
    CallsTo Try.prog 125 #[vx, vx1, I round, I n, I m] w fun v w' => ∃ r0 u0 g0, Q r0 ∧ v = u0 ∧ Ext w w' ∧ OS 3 g0 emp u0 r0 ∧ Sub g0 w' ∧ Fresh w.heap.size g0 := by
  obtain ⟨a, c, rfl⟩ := r.shape
  obtain ⟨a5, c6, rfl⟩ := r3.shape
  refine enter (args := [.slice a (List.length seeds) c, .slice a5 (List.length present) c6, I round, I n, I m]) 33 Try.func125 rfl rfl rfl ?_
  refine W_forget [(0, .slice a (List.length seeds) c), (1, .slice a5 (List.length present) c6), (2, I round), (3, I n), (4, I m)] ⟨rfl, rfl, rfl, rfl, rfl, trivial⟩ fun ρ => ?_
  have X := But.refl emp w
  refine W_seq ?_
  refine W_region ?_
  refine LP_ev ok 0 [(10, .slice none 0 0)] 1 rfl rfl ?_
  refine LP_end _ rfl ?_
  refine W_seq ?_
  refine W_region ?_
  refine LP_ev ok 0 [(14, I n)] 1 rfl rfl ?_
  obtain ⟨hn, hb, H⟩ := H
  refine LP_make (α := Int) 1 rfl rfl rfl Try.underlying22 ti_3 (x0 := (0 : Int)) rfl rfl hn (by first | omega | (simp only [ln] at *; omega)) (by first | omega | (simp only [ln] at *; omega)) fun hx7 vx8 wx x o ex9 f => ?_
  obtain ⟨a10, c11, rfl⟩ := o.shape
  refine LP_ev ok 2 [(11, .slice a10 (List.length (List.replicate (Int.toNat n) ((0 : Int)))) c11)] 3 rfl rfl ?_
  refine LP_end _ rfl ?_
  refine W_seq ?_
  refine W_seq ?_
  refine W_region ?_
  refine LP_ev ok 0 [(16, .slice a5 (List.length present) c6), (17, I (ln present)), (18, I 0)] 3 rfl rfl ?_
  refine LP_end _ rfl ?_
  refine W_block ?_
  obtain ⟨J, m25, Hx, H⟩ := H
  have X26 := (X.stepx x)
  have f27 := f.mono X.size
  have ex28 := (ex.ext x)
  have ex29 := (ex4.ext x)
  refine W_loop (S := (List Int) × Int) (fun s ρ' w' => J s.1 s.2 ∧ ∃ (ρ : Env) (vx12 : Value) (hx13 : PH), ρ' = setAll [(0, .slice a (List.length seeds) c), (2, I round), (3, I n), (4, I m), (11, vx12), (16, .slice a5 (List.length present) c6), (17, I (ln present)), (18, I s.2)] ρ ∧ But emp w w' ∧ OS 3 hx13 emp vx12 s.1 ∧ Sub hx13 w' ∧ Fresh w.heap.size hx13 ∧ Sub hx w' ∧ Sub hx2 w' ∧ Dj hx13 hx ∧ Dj hx13 hx2) (fun s => m25 s.1 s.2) (List.replicate (Int.toNat n) ((0 : Int)), 0) ⟨Hx, _, .slice a10 (List.length (List.replicate (Int.toNat n) ((0 : Int)))) c11, hx7, env_eq ⟨rfl, rfl, rfl, rfl, rfl, rfl, rfl, rfl, trivial⟩, X26, o, ex9, f27, ex28, ex29, (Dj.of_fresh ex f).symm, (Dj.of_fresh ex4 f).symm⟩ ?_
  rintro ⟨out, x17⟩ _ wx18 ⟨Hi, ρ, vx12, hx13, rfl, X24, o14, ex15, f16, ex19, ex20, d, d23⟩
  have H := H out x17 Hi
  obtain ⟨a21, c22, rfl⟩ := o14.shape
  refine W_seq ?_
  refine W_region ?_
  refine LP_ev ok 0 [(19, .bool (decide (x17 < (ln present))))] 1 rfl rfl ?_
  refine LP_end _ rfl ?_
  refine W_seq ?_
  refine W_cond (decide (x17 < (ln present))) rfl (fun hc => ?_) (fun hc => ?_)
  · have H := H.1 hc
    refine W_skip ?_
    refine W_seq ?_
    refine W_block ?_
    refine W_seq ?_
    refine W_region ?_
    obtain ⟨x30, hi, hx31, H⟩ := H
    refine LP_index 0 rfl rfl rfl Try.underlying22 ti_3 rfl rfl r3 hi hx31 fun a32 cs r33 d34 => ?_
    refine LP_load 1 rfl rfl rfl ti_3 ag_3 rfl r33 d34 ex20 fun vx35 r36 => ?_
    obtain rfl := r36.int
    refine LP_ev ok 2 [(13, I x30)] 3 rfl rfl ?_
    refine LP_end _ rfl ?_
    refine W_region ?_
    refine LP_ev ok 0 [(22, .slice a21 (List.length out) c22), (23, .slice a (List.length seeds) c), (24, I x30), (25, I round), (26, I n), (27, I m)] 6 rfl rfl ?_
    refine LP_call 6 rfl rfl rfl cal_119 rfl (spec_zeMaskOf_w _ _ _ _ _ _ H wx18 r ex19) ?_
    rintro _ wx38 ⟨r37, vx40, hx41, H, rfl, x39, o42, ex43, f44⟩
    obtain ⟨a45, c46, rfl⟩ := o42.shape
    refine LP_ev ok 7 [(29, I m)] 8 rfl rfl ?_
    have ex48 := (ex15.ext x39)
    refine LP_call 8 rfl rfl rfl cal_128 rfl (spec_zeAdd_w _ _ _ _ _ H wx38 o14.readf ex48 o42.readf ex43) ?_
    rintro _ wx49 ⟨r47, vx51, hx52, H, rfl, x50, o53, ex54, f55⟩
    obtain ⟨a56, c57, rfl⟩ := o53.shape
    refine LP_ev ok 9 [(11, .slice a56 (List.length r47) c57)] 10 rfl rfl ?_
    refine LP_end _ rfl ?_
    refine W_region ?_
    refine LP_ev ok 0 [(31, I (wr (x17 + 1))), (18, I (wr (x17 + 1)))] 2 rfl rfl ?_
    refine LP_end _ rfl ?_
    have X58 := ((X24.stepx x39).stepx x50)
    have X60 := (X24.stepx x39)
    have f59 := f55.mono X60.size
    have ex61 := ((ex19.ext x39).ext x50)
    have ex62 := ((ex20.ext x39).ext x50)
    have ex63 := (ex19.ext x39)
    have ex64 := (ex20.ext x39)
    exact ⟨(r47, wr (x17 + 1)), ⟨H.1, _, .slice a56 (List.length r47) c57, hx52, env_eq ⟨rfl, rfl, rfl, rfl, rfl, rfl, rfl, rfl, trivial⟩, X58, o53, ex54, f59, ex61, ex62, (Dj.of_fresh ex63 f55).symm, (Dj.of_fresh ex64 f55).symm⟩, H.2⟩
  have H := H.2 hc
  refine W_exit ?_
  refine (if_pos rfl).mpr ?_
  refine W_seq ?_
  refine W_region ?_
  refine LP_ev ok 0 [(32, .slice a21 (List.length out) c22), (10, .slice a21 (List.length out) c22)] 2 rfl rfl ?_
  refine LP_end _ rfl ?_
  refine W_ret ?_
  exact ⟨_, Ret_of [.slice a21 (List.length out) c22] ⟨⟨rfl, rfl⟩, trivial⟩, _, _, _, H, rfl, X24.ext, o14, ex15, f16⟩

set_option maxRecDepth 8000 in
set_option maxHeartbeats 4000000 in
theorem spec_MaskRepair_w (seeds : List (List Int)) (present : List Int) (round : Int) (n : Int) (m : Int) (Q : (List Int) → Bool → Prop) (H : spec_MaskRepair seeds present round n m Q) (w : World) {vx : Value} {hx : PH} (r : RS hx vx seeds) (ex : Sub hx w) {vx1 : Value} {hx2 : PH} (r3 : RS hx2 vx1 present) (ex4 : Sub hx2 w) :
    CallsTo Try.prog 61 #[vx, vx1, I round, I n, I m] w fun v w' => ∃ r0 r1 u0 g0, Q r0 r1 ∧ v = .tuple #[u0, .bool r1] ∧ Ext w w' ∧ OS 3 g0 emp u0 r0 ∧ Sub g0 w' ∧ Fresh w.heap.size g0 := by
  obtain ⟨a, c, rfl⟩ := r.shape
  obtain ⟨a5, c6, rfl⟩ := r3.shape
  refine enter (args := [.slice a (List.length seeds) c, .slice a5 (List.length present) c6, I round, I n, I m]) 29 Try.func61 rfl rfl rfl ?_
  refine W_forget [(0, .slice a (List.length seeds) c), (1, .slice a5 (List.length present) c6), (2, I round), (3, I n), (4, I m)] ⟨rfl, rfl, rfl, rfl, rfl, trivial⟩ fun ρ => ?_
  have X := But.refl emp w
  refine W_seq ?_
  refine W_region ?_
  refine LP_ev ok 0 [(10, .slice none 0 0), (11, .bool false)] 2 rfl rfl ?_
  refine LP_end _ rfl ?_
  refine W_seq ?_
  obtain ⟨k, hk, H⟩ := jn_elim H
  refine W_join2 (S := Bool) (fun s ρ' w' => k s ∧ ∃ (ρ : Env), ρ' = setAll [(0, .slice a (List.length seeds) c), (1, .slice a5 (List.length present) c6), (2, I round), (3, I n), (4, I m), (22, .bool s)] ρ ∧ But emp w w' ∧ Sub hx w' ∧ Sub hx2 w') ?_ ?_
  · refine W_region ?_
    refine LP_ev ok 0 [(12, .slice a (List.length seeds) c), (13, .slice a5 (List.length present) c6)] 2 rfl rfl ?_
    refine LP_call 2 rfl rfl rfl cal_124 rfl (spec_zePresent_w _ _ _ H w r ex r3 ex4) ?_
    rintro _ wx11 ⟨r10, H, rfl, x12⟩
    refine LP_ev ok 3 [(15, .bool (!r10)), (16, .bool (!r10))] 5 rfl rfl ?_
    refine LP_split 16 (!r10) rfl (fun hc => ?_) (fun hc => ?_)
    · have H := H.1 hc
      refine LP_ev ok 5 [(17, undef), (18, undef), (19, undef), (20, undef), (21, undef), (22, .bool true)] 11 rfl rfl ?_
      refine LP_end _ rfl ?_
      have X13 := (X.stepx x12)
      have ex14 := (ex.ext x12)
      have ex15 := (ex4.ext x12)
      exact ⟨true, H, _, env_eq ⟨rfl, rfl, rfl, rfl, rfl, rfl, trivial⟩, X13, ex14, ex15⟩
    have H := H.2 hc
    refine LP_ev ok 5 [(17, I round), (18, I n), (19, I m)] 8 rfl rfl ?_
    refine LP_call 8 rfl rfl rfl cal_82 rfl (spec_zeRound_w _ _ _ _ H wx11 ) ?_
    rintro _ wx17 ⟨r16, H, rfl, x18⟩
    refine LP_ev ok 9 [(21, .bool (!r16)), (22, .bool (!r16))] 11 rfl rfl ?_
    refine LP_end _ rfl ?_
    have X19 := ((X.stepx x12).stepx x18)
    have ex20 := ((ex.ext x12).ext x18)
    have ex21 := ((ex4.ext x12).ext x18)
    exact ⟨!r16, H, _, env_eq ⟨rfl, rfl, rfl, rfl, rfl, rfl, trivial⟩, X19, ex20, ex21⟩
  rintro x _ wx ⟨H, ρ, rfl, X9, ex7, ex8⟩
  subst hk
  refine W_cond (x) rfl (fun hc22 => ?_) (fun hc22 => ?_)
  · have H := H.1 hc22
    refine W_seq ?_
    refine W_region ?_
    refine LP_ev ok 0 [(10, .slice none 0 0), (11, .bool false)] 2 rfl rfl ?_
    refine LP_end _ rfl ?_
    refine W_ret ?_
    exact ⟨_, Ret_of [.slice none 0 0, .bool false] ⟨⟨rfl, rfl⟩, ⟨rfl, rfl⟩, trivial⟩, _, _, _, emp, H, rfl, X9.ext, OS.nil, (emp_sub _), (emp_fresh _)⟩
  have H := H.2 hc22
  refine W_skip ?_
  refine W_seq ?_
  refine W_region ?_
  refine LP_ev ok 0 [(23, .slice a (List.length seeds) c), (24, .slice a5 (List.length present) c6), (25, I round), (26, I n), (27, I m)] 5 rfl rfl ?_
  refine LP_call 5 rfl rfl rfl cal_125 rfl (spec_zeRepair_w _ _ _ _ _ _ H wx r ex7 r3 ex8) ?_
  rintro _ wx24 ⟨r23, vx26, hx27, H, rfl, x25, o, ex28, f⟩
  obtain ⟨a29, c30, rfl⟩ := o.shape
  refine LP_ev ok 6 [(10, .slice a29 (List.length r23) c30), (11, .bool true)] 8 rfl rfl ?_
  refine LP_end _ rfl ?_
  refine W_ret ?_
  have f31 := f.mono X9.size
  have X32 := (X9.stepx x25)
  exact ⟨_, Ret_of [.slice a29 (List.length r23) c30, .bool true] ⟨⟨rfl, rfl⟩, ⟨rfl, rfl⟩, trivial⟩, _, _, _, _, H, rfl, X32.ext, o, ex28, f31⟩

set_option maxRecDepth 8000 in
set_option maxHeartbeats 4000000 in
theorem impl_areIndices_w (l : List Int) (n : Int) (Q : Bool → Prop) (H : impl_areIndices l n Q) (w : World) {vx : Value} {hx : PH} (r : RS hx vx l) (ex : Sub hx w) :
    CallsTo Try.prog 151 #[vx, I n] w fun v w' => ∃ r0, Q r0 ∧ v = .bool r0 ∧ Ext w w' := by
  obtain ⟨a, c, rfl⟩ := r.shape
  refine enter (args := [.slice a (List.length l) c, I n]) 24 Try.func151 rfl rfl rfl ?_
  refine W_forget [(0, .slice a (List.length l) c), (1, I n)] ⟨rfl, rfl, trivial⟩ fun ρ => ?_
  have X := But.refl emp w
  refine W_seq ?_
  refine W_region ?_
  refine LP_ev ok 0 [(4, .bool false)] 1 rfl rfl ?_
  refine LP_end _ rfl ?_
  refine W_seq ?_
  refine W_region ?_
  refine LP_ev ok 0 [(5, I ((-1)))] 1 rfl rfl ?_
  refine LP_end _ rfl ?_
  refine W_seq ?_
  refine W_seq ?_
  refine W_region ?_
  refine LP_ev ok 0 [(8, .slice a (List.length l) c), (9, I (ln l)), (10, I 0)] 3 rfl rfl ?_
  refine LP_end _ rfl ?_
  refine W_block ?_
  obtain ⟨J, m, Hx, H⟩ := H
  refine W_loop (S := Int × Int) (fun s ρ' w' => J s.1 s.2 ∧ ∃ (ρ : Env), ρ' = setAll [(1, I n), (5, I s.1), (8, .slice a (List.length l) c), (9, I (ln l)), (10, I s.2)] ρ ∧ w = w') (fun s => m s.1 s.2) ((-1), 0) ⟨Hx, _, env_eq ⟨rfl, rfl, rfl, rfl, rfl, trivial⟩, rfl⟩ ?_
  rintro ⟨last, x⟩ _ _ ⟨Hi, ρ, rfl, rfl⟩
  have H := H last x Hi
  refine W_seq ?_
  refine W_region ?_
  refine LP_ev ok 0 [(11, .bool (decide (x < (ln l))))] 1 rfl rfl ?_
  refine LP_end _ rfl ?_
  refine W_seq ?_
  refine W_cond (decide (x < (ln l))) rfl (fun hc => ?_) (fun hc => ?_)
  · have H := H.1 hc
    refine W_skip ?_
    refine W_seq ?_
    refine W_block ?_
    refine W_seq ?_
    refine W_region ?_
    obtain ⟨x1, hi, hx2, H⟩ := H
    refine LP_index 0 rfl rfl rfl Try.underlying22 ti_3 rfl rfl r hi hx2 fun a3 cs r4 d => ?_
    refine LP_load 1 rfl rfl rfl ti_3 ag_3 rfl r4 d ex fun vx5 r6 => ?_
    obtain rfl := r6.int
    refine LP_ev ok 2 [(7, I x1)] 3 rfl rfl ?_
    refine LP_end _ rfl ?_
    refine W_seq ?_
    obtain ⟨k, hk, H⟩ := jn_elim H
    refine W_join2 (S := Bool) (fun s ρ' w' => k s ∧ ∃ (ρ : Env), ρ' = setAll [(1, I n), (7, I x1), (8, .slice a (List.length l) c), (9, I (ln l)), (10, I x), (21, .bool s)] ρ ∧ w = w') ?_ ?_
    · refine W_region ?_
      refine LP_ev ok 0 [(14, I x1), (15, I last), (16, .bool (decide (x1 ≤ last))), (17, .bool (decide (x1 ≤ last)))] 4 rfl rfl ?_
      refine LP_split 17 (decide (x1 ≤ last)) rfl (fun hc9 => ?_) (fun hc9 => ?_)
      · have H := H.1 hc9
        refine LP_ev ok 4 [(18, undef), (19, undef), (20, undef), (21, .bool true)] 8 rfl rfl ?_
        refine LP_end _ rfl ?_
        exact ⟨true, H, _, env_eq ⟨rfl, rfl, rfl, rfl, rfl, rfl, trivial⟩, rfl⟩
      have H := H.2 hc9
      refine LP_ev ok 4 [(18, I x1), (19, I n), (20, .bool (decide (x1 ≥ n))), (21, .bool (decide (x1 ≥ n)))] 8 rfl rfl ?_
      refine LP_end _ rfl ?_
      exact ⟨decide (x1 ≥ n), H, _, env_eq ⟨rfl, rfl, rfl, rfl, rfl, rfl, trivial⟩, rfl⟩
    rintro x7 _ _ ⟨H, ρ, rfl, rfl⟩
    subst hk
    refine W_cond (x7) rfl (fun hc10 => ?_) (fun hc10 => ?_)
    · have H := H.1 hc10
      refine W_seq ?_
      refine W_region ?_
      refine LP_ev ok 0 [(4, .bool false)] 1 rfl rfl ?_
      refine LP_end _ rfl ?_
      refine W_ret ?_
      exact ⟨_, Ret_of [.bool false] ⟨⟨rfl, rfl⟩, trivial⟩, _, H, rfl, X.ext⟩
    have H := H.2 hc10
    refine W_skip ?_
    refine W_region ?_
    refine LP_ev ok 0 [(22, I x1), (5, I x1)] 2 rfl rfl ?_
    refine LP_end _ rfl ?_
    refine W_region ?_
    refine LP_ev ok 0 [(23, I (wr (x + 1))), (10, I (wr (x + 1)))] 2 rfl rfl ?_
    refine LP_end _ rfl ?_
    exact ⟨(x1, wr (x + 1)), ⟨H.1, _, env_eq ⟨rfl, rfl, rfl, rfl, rfl, trivial⟩, rfl⟩, H.2⟩
  have H := H.2 hc
  refine W_exit ?_
  refine (if_pos rfl).mpr ?_
  refine W_seq ?_
  refine W_region ?_
  refine LP_ev ok 0 [(4, .bool true)] 1 rfl rfl ?_
  refine LP_end _ rfl ?_
  refine W_ret ?_
  exact ⟨_, Ret_of [.bool true] ⟨⟨rfl, rfl⟩, trivial⟩, _, H, rfl, X.ext⟩

set_option maxRecDepth 8000 in
set_option maxHeartbeats 4000000 in
theorem impl_arePresent_w (seeds : List (List Int)) (present : List Int) (Q : Bool → Prop) (H : impl_arePresent seeds present Q) (w : World) {vx : Value} {hx : PH} (r : RS hx vx seeds) (ex : Sub hx w) {vx1 : Value} {hx2 : PH} (r3 : RS hx2 vx1 present) (ex4 : Sub hx2 w) :
    CallsTo Try.prog 126 #[vx, vx1] w fun v w' => ∃ r0, Q r0 ∧ v = .bool r0 ∧ Ext w w' := by
  obtain ⟨a, c, rfl⟩ := r.shape
  obtain ⟨a5, c6, rfl⟩ := r3.shape
  refine enter (args := [.slice a (List.length seeds) c, .slice a5 (List.length present) c6]) 14 Try.func126 rfl rfl rfl ?_
  refine W_forget [(0, .slice a (List.length seeds) c), (1, .slice a5 (List.length present) c6)] ⟨rfl, rfl, trivial⟩ fun ρ => ?_
  have X := But.refl emp w
  refine W_seq ?_
  refine W_region ?_
  refine LP_ev ok 0 [(4, .bool false)] 1 rfl rfl ?_
  refine LP_end _ rfl ?_
  obtain ⟨k, hk, H⟩ := jn_elim H
  refine W_join2 (S := Bool) (fun s ρ' w' => k s ∧ ∃ (ρ : Env), ρ' = setAll [(4, .bool s)] ρ ∧ But emp w w') ?_ ?_
  · refine W_region ?_
    refine LP_ev ok 0 [(5, .slice a5 (List.length present) c6), (6, I (ln present)), (7, .bool (decide ((ln present) > 0))), (8, .bool (decide ((ln present) > 0)))] 4 rfl rfl ?_
    refine LP_split 8 (decide ((ln present) > 0)) rfl (fun hc => ?_) (fun hc => ?_)
    · have H := H.1 hc
      refine LP_ev ok 4 [(9, .slice a5 (List.length present) c6), (10, .slice a (List.length seeds) c), (11, I (ln seeds))] 7 rfl rfl ?_
      refine LP_call 7 rfl rfl rfl cal_151 rfl (impl_areIndices_w _ _ _ H w r3 ex4) ?_
      rintro _ wx9 ⟨r8, H, rfl, x10⟩
      refine LP_ev ok 8 [(13, .bool r8), (4, .bool r8)] 10 rfl rfl ?_
      refine LP_end _ rfl ?_
      have X11 := (X.stepx x10)
      exact ⟨r8, H, _, env_eq ⟨rfl, trivial⟩, X11⟩
    have H := H.2 hc
    refine LP_ev ok 4 [(9, undef), (10, undef), (11, undef), (12, undef), (13, .bool false), (4, .bool false)] 10 rfl rfl ?_
    refine LP_end _ rfl ?_
    exact ⟨false, H, _, env_eq ⟨rfl, trivial⟩, X⟩
  rintro x _ wx ⟨H, ρ, rfl, X7⟩
  subst hk
  refine W_ret ?_
  exact ⟨_, Ret_of [.bool x] ⟨⟨rfl, rfl⟩, trivial⟩, _, H, rfl, X7.ext⟩

set_option maxRecDepth 8000 in
set_option maxHeartbeats 4000000 in
theorem impl_maskRepair_w (seeds : List (List Int)) (present : List Int) (round : Int) (n : Int) (m : Int) (Q : (List Int) → Prop) (H : impl_maskRepair seeds present round n m Q) (w : World) {vx : Value} {hx : PH} (r : RS hx vx seeds) (ex : Sub hx w) {vx1 : Value} {hx2 : PH} (r3 : RS hx2 vx1 present) (ex4 : Sub hx2 w) :
    CallsTo Try.prog 127 #[vx, vx1, I round, I n, I m] w fun v w' => ∃ r0 u0 g0, Q r0 ∧ v = u0 ∧ Ext w w' ∧ OS 3 g0 emp u0 r0 ∧ Sub g0 w' ∧ Fresh w.heap.size g0 := by
  obtain ⟨a, c, rfl⟩ := r.shape
  obtain ⟨a5, c6, rfl⟩ := r3.shape
  refine enter (args := [.slice a (List.length seeds) c, .slice a5 (List.length present) c6, I round, I n, I m]) 33 Try.func127 rfl rfl rfl ?_
  refine W_forget [(0, .slice a (List.length seeds) c), (1, .slice a5 (List.length present) c6), (2, I round), (3, I n), (4, I m)] ⟨rfl, rfl, rfl, rfl, rfl, trivial⟩ fun ρ => ?_
  have X := But.refl emp w
  refine W_seq ?_
  refine W_region ?_
  refine LP_ev ok 0 [(10, .slice none 0 0)] 1 rfl rfl ?_
  refine LP_end _ rfl ?_
  refine W_seq ?_
  refine W_region ?_
  refine LP_ev ok 0 [(14, I n)] 1 rfl rfl ?_
  obtain ⟨hn, hb, H⟩ := H
  refine LP_make (α := Int) 1 rfl rfl rfl Try.underlying22 ti_3 (x0 := (0 : Int)) rfl rfl hn (by first | omega | (simp only [ln] at *; omega)) (by first | omega | (simp only [ln] at *; omega)) fun hx7 vx8 wx x o ex9 f => ?_
  obtain ⟨a10, c11, rfl⟩ := o.shape
  refine LP_ev ok 2 [(11, .slice a10 (List.length (List.replicate (Int.toNat n) ((0 : Int)))) c11)] 3 rfl rfl ?_
  refine LP_end _ rfl ?_
  refine W_seq ?_
  refine W_seq ?_
  refine W_region ?_
  refine LP_ev ok 0 [(16, .slice a5 (List.length present) c6), (17, I (ln present)), (18, I 0)] 3 rfl rfl ?_
  refine LP_end _ rfl ?_
  refine W_block ?_
  obtain ⟨J, m23, Hx, H⟩ := H
  have X24 := (X.stepx x)
  have f25 := f.mono X.size
  have ex26 := (ex.ext x)
  have ex27 := (ex4.ext x)
  refine W_loop (S := (List Int) × Int) (fun s ρ' w' => J s.1 s.2 ∧ ∃ (ρ : Env) (hx13 : PH), ρ' = setAll [(0, .slice a (List.length seeds) c), (2, I round), (3, I n), (4, I m), (11, .slice a10 (List.length (List.replicate (Int.toNat n) ((0 : Int)))) c11), (16, .slice a5 (List.length present) c6), (17, I (ln present)), (18, I s.2)] ρ ∧ But emp w w' ∧ OS 3 hx13 emp (.slice a10 (List.length (List.replicate (Int.toNat n) ((0 : Int)))) c11) s.1 ∧ Sub hx13 w' ∧ Fresh w.heap.size hx13 ∧ Sub hx w' ∧ Sub hx2 w' ∧ Dj hx13 hx ∧ Dj hx13 hx2) (fun s => m23 s.1 s.2) (List.replicate (Int.toNat n) ((0 : Int)), 0) ⟨Hx, _, hx7, env_eq ⟨rfl, rfl, rfl, rfl, rfl, rfl, rfl, rfl, trivial⟩, X24, o, ex9, f25, ex26, ex27, (Dj.of_fresh ex f).symm, (Dj.of_fresh ex4 f).symm⟩ ?_
  rintro ⟨out, x17⟩ _ wx18 ⟨Hi, ρ, hx13, rfl, X22, o14, ex15, f16, ex19, ex20, d, d21⟩
  have H := H out x17 Hi
  refine W_seq ?_
  refine W_region ?_
  refine LP_ev ok 0 [(19, .bool (decide (x17 < (ln present))))] 1 rfl rfl ?_
  refine LP_end _ rfl ?_
  refine W_seq ?_
  refine W_cond (decide (x17 < (ln present))) rfl (fun hc => ?_) (fun hc => ?_)
  · have H := H.1 hc
    refine W_skip ?_
    refine W_seq ?_
    refine W_block ?_
    refine W_seq ?_
    refine W_region ?_
    obtain ⟨x28, hi, hx29, H⟩ := H
    refine LP_index 0 rfl rfl rfl Try.underlying22 ti_3 rfl rfl r3 hi hx29 fun a30 cs r31 d32 => ?_
    refine LP_load 1 rfl rfl rfl ti_3 ag_3 rfl r31 d32 ex20 fun vx33 r34 => ?_
    obtain rfl := r34.int
    refine LP_ev ok 2 [(13, I x28)] 3 rfl rfl ?_
    refine LP_end _ rfl ?_
    refine W_region ?_
    refine LP_ev ok 0 [(22, .slice a10 (List.length (List.replicate (Int.toNat n) ((0 : Int)))) c11), (23, .slice a (List.length seeds) c), (24, I x28), (25, I round), (26, I n), (27, I m)] 6 rfl rfl ?_
    refine LP_call 6 rfl rfl rfl cal_121 rfl (impl_maskOf_w _ _ _ _ _ _ H wx18 r ex19) ?_
    rintro _ wx36 ⟨r35, vx38, hx39, H, rfl, x37, o40, ex41, f42⟩
    obtain ⟨a43, c44, rfl⟩ := o40.shape
    refine LP_ev ok 7 [(29, I m)] 8 rfl rfl ?_
    have ex46 := (ex15.ext x37)
    refine LP_call 8 rfl rfl rfl cal_129 rfl (impl_combine_w _ _ _ _ _ H wx36 o14 ex46 o40.readf ex41 (Dj.of_fresh ex15 f42)) ?_
    rintro _ wx47 ⟨r45, hx49, H, rfl, x48, o50, ex51, dm⟩
    refine LP_end _ rfl ?_
    refine W_region ?_
    refine LP_ev ok 0 [(31, I (wr (x17 + 1))), (18, I (wr (x17 + 1)))] 2 rfl rfl ?_
    refine LP_end _ rfl ?_
    have X54 := ((X22.stepx x37).step x48 (f16.dom _))
    have X56 := (X22.stepx x37)
    have f55 := (dm _).fresh f16 X56.size
    have ex57 := ((ex19.ext x37).but x48 d)
    have ex58 := ((ex20.ext x37).but x48 d21)
    have ex59 := (ex19.ext x37)
    have ex60 := (ex20.ext x37)
    exact ⟨(r45, wr (x17 + 1)), ⟨H.1, _, hx49, env_eq ⟨rfl, rfl, rfl, rfl, rfl, rfl, rfl, rfl, trivial⟩, X54, o50, ex51, f55, ex57, ex58, (DomLe.dj (dm _) d ex59), (DomLe.dj (dm _) d21 ex60)⟩, H.2⟩
  have H := H.2 hc
  refine W_exit ?_
  refine (if_pos rfl).mpr ?_
  refine W_seq ?_
  refine W_region ?_
  refine LP_ev ok 0 [(32, .slice a10 (List.length (List.replicate (Int.toNat n) ((0 : Int)))) c11), (10, .slice a10 (List.length (List.replicate (Int.toNat n) ((0 : Int)))) c11)] 2 rfl rfl ?_
  refine LP_end _ rfl ?_
  refine W_ret ?_
  exact ⟨_, Ret_of [.slice a10 (List.length (List.replicate (Int.toNat n) ((0 : Int)))) c11] ⟨⟨rfl, rfl⟩, trivial⟩, _, _, _, H, rfl, X22.ext, o14, ex15, f16⟩

set_option maxRecDepth 8000 in
set_option maxHeartbeats 4000000 in
theorem impl_MaskRepair_w (seeds : List (List Int)) (present : List Int) (round : Int) (n : Int) (m : Int) (Q : (List Int) → Bool → Prop) (H : impl_MaskRepair seeds present round n m Q) (w : World) {vx : Value} {hx : PH} (r : RS hx vx seeds) (ex : Sub hx w) {vx1 : Value} {hx2 : PH} (r3 : RS hx2 vx1 present) (ex4 : Sub hx2 w) :
    CallsTo Try.prog 62 #[vx, vx1, I round, I n, I m] w fun v w' => ∃ r0 r1 u0 g0, Q r0 r1 ∧ v = .tuple #[u0, .bool r1] ∧ Ext w w' ∧ OS 3 g0 emp u0 r0 ∧ Sub g0 w' ∧ Fresh w.heap.size g0 := by
  obtain ⟨a, c, rfl⟩ := r.shape
  obtain ⟨a5, c6, rfl⟩ := r3.shape
  refine enter (args := [.slice a (List.length seeds) c, .slice a5 (List.length present) c6, I round, I n, I m]) 42 Try.func62 rfl rfl rfl ?_
  refine W_forget [(0, .slice a (List.length seeds) c), (1, .slice a5 (List.length present) c6), (2, I round), (3, I n), (4, I m)] ⟨rfl, rfl, rfl, rfl, rfl, trivial⟩ fun ρ => ?_
  have X := But.refl emp w
  refine W_seq ?_
  refine W_region ?_
  refine LP_ev ok 0 [(10, .slice none 0 0), (11, .bool false)] 2 rfl rfl ?_
  refine LP_end _ rfl ?_
  refine W_seq ?_
  obtain ⟨k, hk, H⟩ := jn_elim H
  refine W_join2 (S := Bool) (fun s ρ' w' => k s ∧ ∃ (ρ : Env), ρ' = setAll [(0, .slice a (List.length seeds) c), (1, .slice a5 (List.length present) c6), (2, I round), (3, I n), (4, I m), (35, .bool s)] ρ ∧ But emp w w' ∧ Sub hx w' ∧ Sub hx2 w') ?_ ?_
  · refine W_region ?_
    refine LP_ev ok 0 [(12, .slice a (List.length seeds) c)] 1 rfl rfl ?_
    refine LP_call 1 rfl rfl rfl cal_120 rfl (impl_areSeedRows_w _ _ H w r ex) ?_
    rintro _ wx11 ⟨r10, H, rfl, x12⟩
    refine LP_ev ok 2 [(14, .bool (!r10)), (15, .bool (!r10))] 4 rfl rfl ?_
    refine LP_split 15 (!r10) rfl (fun hc => ?_) (fun hc => ?_)
    · have H := H.1 hc
      refine LP_ev ok 4 [(16, undef), (17, undef), (18, undef), (19, undef), (20, .bool true), (21, .bool true), (22, undef), (23, undef), (24, undef), (25, .bool true), (26, .bool true), (27, undef), (28, undef), (29, undef), (30, .bool true), (31, .bool true), (32, undef), (33, undef), (34, undef), (35, .bool true)] 24 rfl rfl ?_
      refine LP_end _ rfl ?_
      try refine W_forget [(0, .slice a (List.length seeds) c), (1, .slice a5 (List.length present) c6), (2, I round), (3, I n), (4, I m), (35, .bool true)] ⟨rfl, rfl, rfl, rfl, rfl, rfl, trivial⟩ fun ρ => ?_
      have X13 := (X.stepx x12)
      have ex14 := (ex.ext x12)
      have ex15 := (ex4.ext x12)
      exact ⟨true, H, _, env_eq ⟨rfl, rfl, rfl, rfl, rfl, rfl, trivial⟩, X13, ex14, ex15⟩
    have H := H.2 hc
    refine LP_ev ok 4 [(16, .slice a (List.length seeds) c), (17, .slice a5 (List.length present) c6)] 6 rfl rfl ?_
    have ex17 := (ex.ext x12)
    have ex18 := (ex4.ext x12)
    refine LP_call 6 rfl rfl rfl cal_126 rfl (impl_arePresent_w _ _ _ H wx11 r ex17 r3 ex18) ?_
    rintro _ wx19 ⟨r16, H, rfl, x20⟩
    refine LP_ev ok 7 [(19, .bool (!r16)), (20, .bool (!r16)), (21, .bool (!r16))] 10 rfl rfl ?_
    refine LP_split 21 (!r16) rfl (fun hc21 => ?_) (fun hc21 => ?_)
    · have H := H.1 hc21
      refine LP_ev ok 10 [(22, undef), (23, undef), (24, undef), (25, .bool true), (26, .bool true), (27, undef), (28, undef), (29, undef), (30, .bool true), (31, .bool true), (32, undef), (33, undef), (34, undef), (35, .bool true)] 24 rfl rfl ?_
      refine LP_end _ rfl ?_
      try refine W_forget [(0, .slice a (List.length seeds) c), (1, .slice a5 (List.length present) c6), (2, I round), (3, I n), (4, I m), (35, .bool true)] ⟨rfl, rfl, rfl, rfl, rfl, rfl, trivial⟩ fun ρ => ?_
      have X22 := ((X.stepx x12).stepx x20)
      have ex23 := (ex17.ext x20)
      have ex24 := (ex18.ext x20)
      exact ⟨true, H, _, env_eq ⟨rfl, rfl, rfl, rfl, rfl, rfl, trivial⟩, X22, ex23, ex24⟩
    have H := H.2 hc21
    refine LP_ev ok 10 [(22, I round)] 11 rfl rfl ?_
    refine LP_call 11 rfl rfl rfl cal_85 rfl (impl_isRound_w _ _ H wx19 ) ?_
    rintro _ wx26 ⟨r25, H, rfl, x27⟩
    refine LP_ev ok 12 [(24, .bool (!r25)), (25, .bool (!r25)), (26, .bool (!r25))] 15 rfl rfl ?_
    refine LP_split 26 (!r25) rfl (fun hc28 => ?_) (fun hc28 => ?_)
    · have H := H.1 hc28
      refine LP_ev ok 15 [(27, undef), (28, undef), (29, undef), (30, .bool true), (31, .bool true), (32, undef), (33, undef), (34, undef), (35, .bool true)] 24 rfl rfl ?_
      refine LP_end _ rfl ?_
      try refine W_forget [(0, .slice a (List.length seeds) c), (1, .slice a5 (List.length present) c6), (2, I round), (3, I n), (4, I m), (35, .bool true)] ⟨rfl, rfl, rfl, rfl, rfl, rfl, trivial⟩ fun ρ => ?_
      have X29 := (((X.stepx x12).stepx x20).stepx x27)
      have ex30 := ((ex17.ext x20).ext x27)
      have ex31 := ((ex18.ext x20).ext x27)
      exact ⟨true, H, _, env_eq ⟨rfl, rfl, rfl, rfl, rfl, rfl, trivial⟩, X29, ex30, ex31⟩
    have H := H.2 hc28
    refine LP_ev ok 15 [(27, I n)] 16 rfl rfl ?_
    refine LP_call 16 rfl rfl rfl cal_86 rfl (impl_isLength_w _ _ H wx26 ) ?_
    rintro _ wx33 ⟨r32, H, rfl, x34⟩
    refine LP_ev ok 17 [(29, .bool (!r32)), (30, .bool (!r32)), (31, .bool (!r32))] 20 rfl rfl ?_
    refine LP_split 31 (!r32) rfl (fun hc35 => ?_) (fun hc35 => ?_)
    · have H := H.1 hc35
      refine LP_ev ok 20 [(32, undef), (33, undef), (34, undef), (35, .bool true)] 24 rfl rfl ?_
      refine LP_end _ rfl ?_
      try refine W_forget [(0, .slice a (List.length seeds) c), (1, .slice a5 (List.length present) c6), (2, I round), (3, I n), (4, I m), (35, .bool true)] ⟨rfl, rfl, rfl, rfl, rfl, rfl, trivial⟩ fun ρ => ?_
      have X36 := ((((X.stepx x12).stepx x20).stepx x27).stepx x34)
      have ex37 := (((ex17.ext x20).ext x27).ext x34)
      have ex38 := (((ex18.ext x20).ext x27).ext x34)
      exact ⟨true, H, _, env_eq ⟨rfl, rfl, rfl, rfl, rfl, rfl, trivial⟩, X36, ex37, ex38⟩
    have H := H.2 hc35
    refine LP_ev ok 20 [(32, I m)] 21 rfl rfl ?_
    refine LP_call 21 rfl rfl rfl cal_79 rfl (impl_isModulus_w _ _ H wx33 ) ?_
    rintro _ wx40 ⟨r39, H, rfl, x41⟩
    refine LP_ev ok 22 [(34, .bool (!r39)), (35, .bool (!r39))] 24 rfl rfl ?_
    refine LP_end _ rfl ?_
    try refine W_forget [(0, .slice a (List.length seeds) c), (1, .slice a5 (List.length present) c6), (2, I round), (3, I n), (4, I m), (35, .bool (!r39))] ⟨rfl, rfl, rfl, rfl, rfl, rfl, trivial⟩ fun ρ => ?_
    have X42 := (((((X.stepx x12).stepx x20).stepx x27).stepx x34).stepx x41)
    have ex43 := ((((ex17.ext x20).ext x27).ext x34).ext x41)
    have ex44 := ((((ex18.ext x20).ext x27).ext x34).ext x41)
    exact ⟨!r39, H, _, env_eq ⟨rfl, rfl, rfl, rfl, rfl, rfl, trivial⟩, X42, ex43, ex44⟩
  rintro x _ wx ⟨H, ρ, rfl, X9, ex7, ex8⟩
  subst hk
  refine W_cond (x) rfl (fun hc45 => ?_) (fun hc45 => ?_)
  · have H := H.1 hc45
    refine W_seq ?_
    refine W_region ?_
    refine LP_ev ok 0 [(10, .slice none 0 0), (11, .bool false)] 2 rfl rfl ?_
    refine LP_end _ rfl ?_
    refine W_ret ?_
    exact ⟨_, Ret_of [.slice none 0 0, .bool false] ⟨⟨rfl, rfl⟩, ⟨rfl, rfl⟩, trivial⟩, _, _, _, emp, H, rfl, X9.ext, OS.nil, (emp_sub _), (emp_fresh _)⟩
  have H := H.2 hc45
  refine W_skip ?_
  refine W_seq ?_
  refine W_region ?_
  refine LP_ev ok 0 [(36, .slice a (List.length seeds) c), (37, .slice a5 (List.length present) c6), (38, I round), (39, I n), (40, I m)] 5 rfl rfl ?_
  refine LP_call 5 rfl rfl rfl cal_127 rfl (impl_maskRepair_w _ _ _ _ _ _ H wx r ex7 r3 ex8) ?_
  rintro _ wx47 ⟨r46, vx49, hx50, H, rfl, x48, o, ex51, f⟩
  obtain ⟨a52, c53, rfl⟩ := o.shape
  refine LP_ev ok 6 [(10, .slice a52 (List.length r46) c53), (11, .bool true)] 8 rfl rfl ?_
  refine LP_end _ rfl ?_
  refine W_ret ?_
  have f54 := f.mono X9.size
  have X55 := (X9.stepx x48)
  exact ⟨_, Ret_of [.slice a52 (List.length r46) c53, .bool true] ⟨⟨rfl, rfl⟩, ⟨rfl, rfl⟩, trivial⟩, _, _, _, _, H, rfl, X55.ext, o, ex51, f54⟩

set_option maxRecDepth 8000 in
set_option maxHeartbeats 4000000 in
theorem laws_FnExactMaskRepair_w (aSeeds : List (List Int)) (aPresent : List Int) (aRound : Int) (aN : Int) (aM : Int) (Q : Bool → Prop) (H : laws_FnExactMaskRepair aSeeds aPresent aRound aN aM Q) (w : World) {vx : Value} {hx : PH} (r : RS hx vx aSeeds) (ex : Sub hx w) {vx1 : Value} {hx2 : PH} (r3 : RS hx2 vx1 aPresent) (ex4 : Sub hx2 w) :
    CallsTo Try.prog 16 #[vx, vx1, I aRound, I aN, I aM] w fun v w' => ∃ r0, Q r0 ∧ v = .bool r0 ∧ Ext w w' := by
  obtain ⟨a, c, rfl⟩ := r.shape
  obtain ⟨a5, c6, rfl⟩ := r3.shape
  refine enter (args := [.slice a (List.length aSeeds) c, .slice a5 (List.length aPresent) c6, I aRound, I aN, I aM]) 132 Try.func16 rfl rfl rfl ?_
  refine W_forget [(0, .slice a (List.length aSeeds) c), (1, .slice a5 (List.length aPresent) c6), (2, I aRound), (3, I aN), (4, I aM)] ⟨rfl, rfl, rfl, rfl, rfl, trivial⟩ fun ρ => ?_
  have X := But.refl emp w
  refine W_seq ?_
  refine W_region ?_
  refine LP_ev ok 0 [(10, .bool false)] 1 rfl rfl ?_
  refine LP_end _ rfl ?_
  refine W_seq ?_
  refine W_seq ?_
  refine W_region ?_
  refine LP_ev ok 0 [(23, .slice a5 (List.length aPresent) c6), (24, I (ln aPresent)), (25, .bool (decide ((ln aPresent) > 1048576)))] 3 rfl rfl ?_
  refine LP_end _ rfl ?_
  refine W_cond (decide ((ln aPresent) > 1048576)) rfl (fun hc => ?_) (fun hc => ?_)
  · have H := H.1 hc
    refine W_seq ?_
    refine W_region ?_
    refine LP_ev ok 0 [(10, .bool true)] 1 rfl rfl ?_
    refine LP_end _ rfl ?_
    refine W_ret ?_
    exact ⟨_, Ret_of [.bool true] ⟨⟨rfl, rfl⟩, trivial⟩, _, H, rfl, X.ext⟩
  have H := H.2 hc
  refine W_skip ?_
  refine W_seq ?_
  refine W_region ?_
  refine LP_ev ok 0 [(11, I 1048576)] 1 rfl rfl ?_
  refine LP_end _ rfl ?_
  refine W_seq ?_
  refine W_region ?_
  refine LP_ev ok 0 [(26, .slice a (List.length aSeeds) c), (27, I 1048576)] 2 rfl rfl ?_
  refine LP_call 2 rfl rfl rfl cal_39 rfl (laws_szIntSS_w _ _ _ H w r ex) ?_
  rintro _ wx ⟨r7, H, rfl, x⟩
  refine LP_ev ok 3 [(11, I r7)] 4 rfl rfl ?_
  refine LP_end _ rfl ?_
  refine W_seq ?_
  refine W_seq ?_
  refine W_region ?_
  refine LP_ev ok 0 [(29, I r7), (30, .bool (decide (r7 < 0)))] 2 rfl rfl ?_
  refine LP_end _ rfl ?_
  refine W_cond (decide (r7 < 0)) rfl (fun hc8 => ?_) (fun hc8 => ?_)
  · have H := H.1 hc8
    refine W_seq ?_
    refine W_region ?_
    refine LP_ev ok 0 [(10, .bool true)] 1 rfl rfl ?_
    refine LP_end _ rfl ?_
    refine W_ret ?_
    have X9 := (X.stepx x)
    exact ⟨_, Ret_of [.bool true] ⟨⟨rfl, rfl⟩, trivial⟩, _, H, rfl, X9.ext⟩
  have H := H.2 hc8
  refine W_skip ?_
  refine W_seq ?_
  refine W_region ?_
  refine LP_ev ok 0 [(32, .slice a (List.length aSeeds) c)] 1 rfl rfl ?_
  have ex11 := (ex.ext x)
  refine LP_call 1 rfl rfl rfl cal_41 rfl (laws_toIntSS_w _ _ H wx r ex11) ?_
  rintro _ wx12 ⟨r10, vx14, hx15, H, rfl, x13, o, ex16, f⟩
  obtain ⟨a17, c18, rfl⟩ := o.shape
  refine LP_ev ok 2 [(34, .slice a5 (List.length aPresent) c6)] 3 rfl rfl ?_
  have ex20 := ((ex4.ext x).ext x13)
  refine LP_call 3 rfl rfl rfl cal_26 rfl (laws_toIntS_w _ _ H wx12 r3 ex20) ?_
  rintro _ wx21 ⟨r19, vx23, hx24, H, rfl, x22, o25, ex26, f27⟩
  obtain ⟨a28, c29, rfl⟩ := o25.shape
  refine LP_ev ok 4 [(36, I aRound), (37, I aN), (38, I aM)] 7 rfl rfl ?_
  have ex32 := (ex16.ext x22)
  refine LP_call 7 rfl rfl rfl cal_61 rfl (spec_MaskRepair_w _ _ _ _ _ _ H wx21 o.readf ex32 o25.readf ex26) ?_
  rintro _ wx33 ⟨r30, r31, vx35, hx36, H, rfl, x34, o37, ex38, f39⟩
  obtain ⟨a40, c41, rfl⟩ := o37.shape
  refine LP_ev ok 8 [(31, .tuple #[.slice a40 (List.length r30) c41, .bool r31]), (40, .slice a40 (List.length r30) c41), (41, .bool r31), (12, .slice a40 (List.length r30) c41), (13, .bool r31)] 13 rfl rfl ?_
  refine LP_end _ rfl ?_
  refine W_seq ?_
  refine W_region ?_
  refine LP_ev ok 0 [(42, .slice a (List.length aSeeds) c)] 1 rfl rfl ?_
  have ex43 := (((ex11.ext x13).ext x22).ext x34)
  refine LP_call 1 rfl rfl rfl cal_41 rfl (laws_toIntSS_w _ _ H wx33 r ex43) ?_
  rintro _ wx44 ⟨r42, vx46, hx47, H, rfl, x45, o48, ex49, f50⟩
  obtain ⟨a51, c52, rfl⟩ := o48.shape
  refine LP_ev ok 2 [(14, .slice a51 (List.length r42) c52)] 3 rfl rfl ?_
  refine LP_end _ rfl ?_
  try refine W_forget [(0, .slice a (List.length aSeeds) c), (1, .slice a5 (List.length aPresent) c6), (2, I aRound), (3, I aN), (4, I aM), (12, .slice a40 (List.length r30) c41), (13, .bool r31), (14, .slice a51 (List.length r42) c52)] ⟨rfl, rfl, rfl, rfl, rfl, rfl, rfl, rfl, trivial⟩ fun ρ => ?_
  refine W_seq ?_
  refine W_region ?_
  refine LP_ev ok 0 [(44, .slice a5 (List.length aPresent) c6)] 1 rfl rfl ?_
  have ex54 := (((ex20.ext x22).ext x34).ext x45)
  refine LP_call 1 rfl rfl rfl cal_26 rfl (laws_toIntS_w _ _ H wx44 r3 ex54) ?_
  rintro _ wx55 ⟨r53, vx57, hx58, H, rfl, x56, o59, ex60, f61⟩
  obtain ⟨a62, c63, rfl⟩ := o59.shape
  refine LP_ev ok 2 [(15, .slice a62 (List.length r53) c63)] 3 rfl rfl ?_
  refine LP_end _ rfl ?_
  refine W_seq ?_
  refine W_region ?_
  refine LP_ev ok 0 [(47, .slice a51 (List.length r42) c52), (48, .slice a62 (List.length r53) c63), (49, I aRound), (50, I aN), (51, I aM)] 5 rfl rfl ?_
  have ex66 := (ex49.ext x56)
  refine LP_call 5 rfl rfl rfl cal_62 rfl (impl_MaskRepair_w _ _ _ _ _ _ H wx55 o48.readf ex66 o59.readf ex60) ?_
  rintro _ wx67 ⟨r64, r65, vx69, hx70, H, rfl, x68, o71, ex72, f73⟩
  obtain ⟨a74, c75, rfl⟩ := o71.shape
  refine LP_ev ok 6 [(46, .tuple #[.slice a74 (List.length r64) c75, .bool r65]), (53, .slice a74 (List.length r64) c75), (54, .bool r65), (16, .slice a74 (List.length r64) c75), (17, .bool r65)] 11 rfl rfl ?_
  refine LP_end _ rfl ?_
  refine W_seq ?_
  obtain ⟨k, hk, H⟩ := jn_elim H
  refine W_join2 (S := Bool) (fun s ρ' w' => k s ∧ ∃ (ρ : Env), ρ' = setAll [(0, .slice a (List.length aSeeds) c), (1, .slice a5 (List.length aPresent) c6), (2, I aRound), (3, I aN), (4, I aM), (12, .slice a40 (List.length r30) c41), (13, .bool r31), (14, .slice a51 (List.length r42) c52), (15, .slice a62 (List.length r53) c63), (16, .slice a74 (List.length r64) c75), (17, .bool r65), (63, .bool s)] ρ ∧ But emp w w' ∧ Sub hx w' ∧ Sub hx2 w' ∧ Sub hx36 w' ∧ Sub hx47 w' ∧ Sub hx58 w' ∧ Sub hx70 w') ?_ ?_
  · refine W_region ?_
    refine LP_ev ok 0 [(55, .slice a74 (List.length r64) c75), (56, .slice a40 (List.length r30) c41)] 2 rfl rfl ?_
    have ex86 := (((ex38.ext x45).ext x56).ext x68)
    refine LP_call 2 rfl rfl rfl cal_22 rfl (laws_eqIntS_w _ _ _ H wx67 o71.readf ex72 o37.readf ex86) ?_
    rintro _ wx87 ⟨r85, H, rfl, x88⟩
    refine LP_ev ok 3 [(58, .bool (!r85)), (59, .bool (!r85))] 5 rfl rfl ?_
    refine LP_split 59 (!r85) rfl (fun hc89 => ?_) (fun hc89 => ?_)
    · have H := H.1 hc89
      refine LP_ev ok 5 [(60, undef), (61, undef), (62, undef), (63, .bool true)] 9 rfl rfl ?_
      refine LP_end _ rfl ?_
      have X90 := ((((((((X.stepx x).stepx x13).stepx x22).stepx x34).stepx x45).stepx x56).stepx x68).stepx x88)
      have ex91 := ((((ex43.ext x45).ext x56).ext x68).ext x88)
      have ex92 := (((ex54.ext x56).ext x68).ext x88)
      have ex93 := (ex86.ext x88)
      have ex94 := ((ex66.ext x68).ext x88)
      have ex95 := ((ex60.ext x68).ext x88)
      have ex96 := (ex72.ext x88)
      exact ⟨true, H, _, env_eq ⟨rfl, rfl, rfl, rfl, rfl, rfl, rfl, rfl, rfl, rfl, rfl, rfl, trivial⟩, X90, ex91, ex92, ex93, ex94, ex95, ex96⟩
    have H := H.2 hc89
    refine LP_ev ok 5 [(60, .bool r65), (61, .bool r31), (62, .bool (r65 != r31)), (63, .bool (r65 != r31))] 9 rfl rfl ?_
    refine LP_end _ rfl ?_
    have X97 := ((((((((X.stepx x).stepx x13).stepx x22).stepx x34).stepx x45).stepx x56).stepx x68).stepx x88)
    have ex98 := ((((ex43.ext x45).ext x56).ext x68).ext x88)
    have ex99 := (((ex54.ext x56).ext x68).ext x88)
    have ex100 := (ex86.ext x88)
    have ex101 := ((ex66.ext x68).ext x88)
    have ex102 := ((ex60.ext x68).ext x88)
    have ex103 := (ex72.ext x88)
    exact ⟨r65 != r31, H, _, env_eq ⟨rfl, rfl, rfl, rfl, rfl, rfl, rfl, rfl, rfl, rfl, rfl, rfl, trivial⟩, X97, ex98, ex99, ex100, ex101, ex102, ex103⟩
  rintro x76 _ wx77 ⟨H, ρ, rfl, X84, ex78, ex79, ex80, ex81, ex82, ex83⟩
  subst hk
  refine W_cond (x76) rfl (fun hc104 => ?_) (fun hc104 => ?_)
  · have H := H.1 hc104
    refine W_seq ?_
    refine W_region ?_
    refine LP_ev ok 0 [(10, .bool false)] 1 rfl rfl ?_
    refine LP_end _ rfl ?_
    refine W_ret ?_
    exact ⟨_, Ret_of [.bool false] ⟨⟨rfl, rfl⟩, trivial⟩, _, H, rfl, X84.ext⟩
  have H := H.2 hc104
  refine W_skip ?_
  refine W_seq ?_
  refine W_seq ?_
  refine W_region ?_
  refine LP_ev ok 0 [(64, .slice a51 (List.length r42) c52), (65, .slice a (List.length aSeeds) c)] 2 rfl rfl ?_
  refine LP_call 2 rfl rfl rfl cal_41 rfl (laws_toIntSS_w _ _ H wx77 r ex78) ?_
  rintro _ wx106 ⟨r105, vx108, hx109, H, rfl, x107, o110, ex111, f112⟩
  obtain ⟨a113, c114, rfl⟩ := o110.shape
  have ex116 := (ex81.ext x107)
  refine LP_call 3 rfl rfl rfl cal_43 rfl (laws_eqIntSS_w _ _ _ H wx106 o48.readf ex116 o110.readf ex111) ?_
  rintro _ wx117 ⟨r115, H, rfl, x118⟩
  refine LP_ev ok 4 [(68, .bool (!r115))] 5 rfl rfl ?_
  refine LP_end _ rfl ?_
  refine W_cond (!r115) rfl (fun hc119 => ?_) (fun hc119 => ?_)
  · have H := H.1 hc119
    refine W_seq ?_
    refine W_region ?_
    refine LP_ev ok 0 [(10, .bool false)] 1 rfl rfl ?_
    refine LP_end _ rfl ?_
    refine W_ret ?_
    have X120 := ((X84.stepx x107).stepx x118)
    exact ⟨_, Ret_of [.bool false] ⟨⟨rfl, rfl⟩, trivial⟩, _, H, rfl, X120.ext⟩
  have H := H.2 hc119
  refine W_skip ?_
  refine W_seq ?_
  refine W_seq ?_
  refine W_region ?_
  refine LP_ev ok 0 [(69, .slice a62 (List.length r53) c63), (70, .slice a5 (List.length aPresent) c6)] 2 rfl rfl ?_
  have ex122 := ((ex79.ext x107).ext x118)
  refine LP_call 2 rfl rfl rfl cal_26 rfl (laws_toIntS_w _ _ H wx117 r3 ex122) ?_
  rintro _ wx123 ⟨r121, vx125, hx126, H, rfl, x124, o127, ex128, f129⟩
  obtain ⟨a130, c131, rfl⟩ := o127.shape
  have ex133 := (((ex82.ext x107).ext x118).ext x124)
  refine LP_call 3 rfl rfl rfl cal_22 rfl (laws_eqIntS_w _ _ _ H wx123 o59.readf ex133 o127.readf ex128) ?_
  rintro _ wx134 ⟨r132, H, rfl, x135⟩
  refine LP_ev ok 4 [(73, .bool (!r132))] 5 rfl rfl ?_
  refine LP_end _ rfl ?_
  refine W_cond (!r132) rfl (fun hc136 => ?_) (fun hc136 => ?_)
  · have H := H.1 hc136
    refine W_seq ?_
    refine W_region ?_
    refine LP_ev ok 0 [(10, .bool false)] 1 rfl rfl ?_
    refine LP_end _ rfl ?_
    refine W_ret ?_
    have X137 := ((((X84.stepx x107).stepx x118).stepx x124).stepx x135)
    exact ⟨_, Ret_of [.bool false] ⟨⟨rfl, rfl⟩, trivial⟩, _, H, rfl, X137.ext⟩
  have H := H.2 hc136
  refine W_skip ?_
  refine W_seq ?_
  refine W_region ?_
  refine LP_ev ok 0 [(18, I 1)] 1 rfl rfl ?_
  refine LP_end _ rfl ?_
  refine W_seq ?_
  refine W_region ?_
  refine LP_ev ok 0 [(74, .slice a51 (List.length r42) c52), (75, I 1)] 2 rfl rfl ?_
  have ex140 := (((ex116.ext x118).ext x124).ext x135)
  refine LP_call 2 rfl rfl rfl cal_44 rfl (laws_markIntSS_w _ _ _ H wx134 o48 ex140) ?_
  rintro _ wx141 ⟨r138, r139, hx143, H, rfl, x142, o144, ex145, dm⟩
  refine LP_ev ok 3 [(18, I r138)] 4 rfl rfl ?_
  refine LP_end _ rfl ?_
  refine W_seq ?_
  refine W_region ?_
  refine LP_ev ok 0 [(77, .slice a62 (List.length r53) c63), (78, I r138)] 2 rfl rfl ?_
  have ex150 := ((ex133.ext x135).but x142 (Dj.of_fresh ex49 f61))
  refine LP_call 2 rfl rfl rfl cal_23 rfl (laws_markIntS_w _ _ _ H wx141 o59 ex150) ?_
  rintro _ wx151 ⟨r148, r149, hx153, H, rfl, x152, o154, ex155, dm156⟩
  refine LP_ev ok 3 [(18, I r148)] 4 rfl rfl ?_
  refine LP_end _ rfl ?_
  refine W_seq ?_
  obtain ⟨k167, hk168, H⟩ := jn_elim H
  refine W_join2 (S := Bool) (fun s ρ' w' => k167 s ∧ ∃ (ρ : Env), ρ' = setAll [(0, .slice a (List.length aSeeds) c), (1, .slice a5 (List.length aPresent) c6), (2, I aRound), (3, I aN), (4, I aM), (12, .slice a40 (List.length r30) c41), (13, .bool r31), (16, .slice a74 (List.length r64) c75), (92, .bool s)] ρ ∧ But emp w w' ∧ Sub hx w' ∧ Sub hx2 w' ∧ Sub hx36 w' ∧ Sub hx70 w') ?_ ?_
  · refine W_region ?_
    refine LP_ev ok 0 [(80, I r148), (81, .bool (decide (r148 < 0))), (82, .bool (decide (r148 < 0)))] 3 rfl rfl ?_
    refine LP_split 82 (decide (r148 < 0)) rfl (fun hc169 => ?_) (fun hc169 => ?_)
    · have H := H.1 hc169
      refine LP_ev ok 3 [(83, undef), (84, undef), (85, undef), (86, undef), (87, .bool true), (88, .bool true), (89, undef), (90, undef), (91, undef), (92, .bool true)] 13 rfl rfl ?_
      refine LP_end _ rfl ?_
      try refine W_forget [(0, .slice a (List.length aSeeds) c), (1, .slice a5 (List.length aPresent) c6), (2, I aRound), (3, I aN), (4, I aM), (12, .slice a40 (List.length r30) c41), (13, .bool r31), (16, .slice a74 (List.length r64) c75), (92, .bool true)] ⟨rfl, rfl, rfl, rfl, rfl, rfl, rfl, rfl, rfl, trivial⟩ fun ρ => ?_
      have X171 := ((((X.stepx x).stepx x13).stepx x22).stepx x34)
      have f170 := f50.mono X171.size
      have X173 := (X171.stepx x45)
      have f172 := f61.mono X173.size
      have X174 := ((((((X84.stepx x107).stepx x118).stepx x124).stepx x135).step x142 (f170.dom _)).step x152 (f172.dom _))
      have ex175 := (ex43.ext x45)
      have ex176 := ((((((ex78.ext x107).ext x118).ext x124).ext x135).but x142 (Dj.of_fresh ex43 f50).symm).but x152 (Dj.of_fresh ex175 f61).symm)
      have ex177 := ((ex20.ext x22).ext x34)
      have ex178 := ((((ex122.ext x124).ext x135).but x142 (Dj.of_fresh ex177 f50).symm).but x152 (Dj.of_fresh ex54 f61).symm)
      have ex179 := (ex38.ext x45)
      have ex180 := ((((((ex80.ext x107).ext x118).ext x124).ext x135).but x142 (Dj.of_fresh ex38 f50).symm).but x152 (Dj.of_fresh ex179 f61).symm)
      have ex181 := ((((((ex83.ext x107).ext x118).ext x124).ext x135).but x142 (Dj.of_fresh ex66 f73)).but x152 (Dj.of_fresh ex60 f73))
      exact ⟨true, H, _, env_eq ⟨rfl, rfl, rfl, rfl, rfl, rfl, rfl, rfl, rfl, trivial⟩, X174, ex176, ex178, ex180, ex181⟩
    have H := H.2 hc169
    refine LP_ev ok 3 [(83, .slice a74 (List.length r64) c75), (84, .slice a40 (List.length r30) c41)] 5 rfl rfl ?_
    have ex183 := ((((((ex83.ext x107).ext x118).ext x124).ext x135).but x142 (Dj.of_fresh ex66 f73)).but x152 (Dj.of_fresh ex60 f73))
    have ex184 := (ex38.ext x45)
    have ex185 := ((((((ex80.ext x107).ext x118).ext x124).ext x135).but x142 (Dj.of_fresh ex38 f50).symm).but x152 (Dj.of_fresh ex184 f61).symm)
    refine LP_call 5 rfl rfl rfl cal_22 rfl (laws_eqIntS_w _ _ _ H wx151 o71.readf ex183 o37.readf ex185) ?_
    rintro _ wx186 ⟨r182, H, rfl, x187⟩
    refine LP_ev ok 6 [(86, .bool (!r182)), (87, .bool (!r182)), (88, .bool (!r182))] 9 rfl rfl ?_
    refine LP_split 88 (!r182) rfl (fun hc188 => ?_) (fun hc188 => ?_)
    · have H := H.1 hc188
      refine LP_ev ok 9 [(89, undef), (90, undef), (91, undef), (92, .bool true)] 13 rfl rfl ?_
      refine LP_end _ rfl ?_
      try refine W_forget [(0, .slice a (List.length aSeeds) c), (1, .slice a5 (List.length aPresent) c6), (2, I aRound), (3, I aN), (4, I aM), (12, .slice a40 (List.length r30) c41), (13, .bool r31), (16, .slice a74 (List.length r64) c75), (92, .bool true)] ⟨rfl, rfl, rfl, rfl, rfl, rfl, rfl, rfl, rfl, trivial⟩ fun ρ => ?_
      have X190 := ((((X.stepx x).stepx x13).stepx x22).stepx x34)
      have f189 := f50.mono X190.size
      have X192 := (X190.stepx x45)
      have f191 := f61.mono X192.size
      have X193 := (((((((X84.stepx x107).stepx x118).stepx x124).stepx x135).step x142 (f189.dom _)).step x152 (f191.dom _)).stepx x187)
      have ex194 := (ex43.ext x45)
      have ex195 := (((((((ex78.ext x107).ext x118).ext x124).ext x135).but x142 (Dj.of_fresh ex43 f50).symm).but x152 (Dj.of_fresh ex194 f61).symm).ext x187)
      have ex196 := ((ex20.ext x22).ext x34)
      have ex197 := (((((ex122.ext x124).ext x135).but x142 (Dj.of_fresh ex196 f50).symm).but x152 (Dj.of_fresh ex54 f61).symm).ext x187)
      have ex198 := (ex185.ext x187)
      have ex199 := (ex183.ext x187)
      exact ⟨true, H, _, env_eq ⟨rfl, rfl, rfl, rfl, rfl, rfl, rfl, rfl, rfl, trivial⟩, X193, ex195, ex197, ex198, ex199⟩
    have H := H.2 hc188
    refine LP_ev ok 9 [(89, .bool r65), (90, .bool r31), (91, .bool (r65 != r31)), (92, .bool (r65 != r31))] 13 rfl rfl ?_
    refine LP_end _ rfl ?_
    try refine W_forget [(0, .slice a (List.length aSeeds) c), (1, .slice a5 (List.length aPresent) c6), (2, I aRound), (3, I aN), (4, I aM), (12, .slice a40 (List.length r30) c41), (13, .bool r31), (16, .slice a74 (List.length r64) c75), (92, .bool (r65 != r31))] ⟨rfl, rfl, rfl, rfl, rfl, rfl, rfl, rfl, rfl, trivial⟩ fun ρ => ?_
    have X201 := ((((X.stepx x).stepx x13).stepx x22).stepx x34)
    have f200 := f50.mono X201.size
    have X203 := (X201.stepx x45)
    have f202 := f61.mono X203.size
    have X204 := (((((((X84.stepx x107).stepx x118).stepx x124).stepx x135).step x142 (f200.dom _)).step x152 (f202.dom _)).stepx x187)
    have ex205 := (ex43.ext x45)
    have ex206 := (((((((ex78.ext x107).ext x118).ext x124).ext x135).but x142 (Dj.of_fresh ex43 f50).symm).but x152 (Dj.of_fresh ex205 f61).symm).ext x187)
    have ex207 := ((ex20.ext x22).ext x34)
    have ex208 := (((((ex122.ext x124).ext x135).but x142 (Dj.of_fresh ex207 f50).symm).but x152 (Dj.of_fresh ex54 f61).symm).ext x187)
    have ex209 := (ex185.ext x187)
    have ex210 := (ex183.ext x187)
    exact ⟨r65 != r31, H, _, env_eq ⟨rfl, rfl, rfl, rfl, rfl, rfl, rfl, rfl, rfl, trivial⟩, X204, ex206, ex208, ex209, ex210⟩
  rintro x160 _ wx161 ⟨H, ρ, rfl, X166, ex162, ex163, ex164, ex165⟩
  subst hk168
  refine W_cond (x160) rfl (fun hc211 => ?_) (fun hc211 => ?_)
  · have H := H.1 hc211
    refine W_seq ?_
    refine W_region ?_
    refine LP_ev ok 0 [(10, .bool false)] 1 rfl rfl ?_
    refine LP_end _ rfl ?_
    refine W_ret ?_
    exact ⟨_, Ret_of [.bool false] ⟨⟨rfl, rfl⟩, trivial⟩, _, H, rfl, X166.ext⟩
  have H := H.2 hc211
  refine W_skip ?_
  refine W_seq ?_
  refine W_region ?_
  refine LP_ev ok 0 [(19, I 1)] 1 rfl rfl ?_
  refine LP_end _ rfl ?_
  refine W_seq ?_
  refine W_region ?_
  refine LP_ev ok 0 [(93, .slice a74 (List.length r64) c75), (94, I 1)] 2 rfl rfl ?_
  refine LP_call 2 rfl rfl rfl cal_23 rfl (laws_markIntS_w _ _ _ H wx161 o71 ex165) ?_
  rintro _ wx214 ⟨r212, r213, hx216, H, rfl, x215, o217, ex218, dm219⟩
  refine LP_ev ok 3 [(19, I r212)] 4 rfl rfl ?_
  refine LP_end _ rfl ?_
  refine W_seq ?_
  refine W_region ?_
  refine LP_ev ok 0 [(20, I 1)] 1 rfl rfl ?_
  refine LP_end _ rfl ?_
  refine W_seq ?_
  refine W_region ?_
  refine LP_ev ok 0 [(96, .slice a74 (List.length r64) c75), (97, I 1)] 2 rfl rfl ?_
  refine LP_call 2 rfl rfl rfl cal_24 rfl (laws_heldIntS_w _ _ _ H wx214 o217.readf ex218) ?_
  rintro _ wx224 ⟨r223, H, rfl, x225⟩
  refine LP_ev ok 3 [(20, I r223)] 4 rfl rfl ?_
  refine LP_end _ rfl ?_
  refine W_seq ?_
  refine W_seq ?_
  refine W_region ?_
  refine LP_ev ok 0 [(99, I r223), (100, .bool (decide (r223 < 0)))] 2 rfl rfl ?_
  refine LP_end _ rfl ?_
  refine W_cond (decide (r223 < 0)) rfl (fun hc226 => ?_) (fun hc226 => ?_)
  · have H := H.1 hc226
    refine W_seq ?_
    refine W_region ?_
    refine LP_ev ok 0 [(10, .bool false)] 1 rfl rfl ?_
    refine LP_end _ rfl ?_
    refine W_ret ?_
    have X228 := ((((((X.stepx x).stepx x13).stepx x22).stepx x34).stepx x45).stepx x56)
    have f227 := f73.mono X228.size
    have X229 := ((X166.step x215 (f227.dom _)).stepx x225)
    exact ⟨_, Ret_of [.bool false] ⟨⟨rfl, rfl⟩, trivial⟩, _, H, rfl, X229.ext⟩
  have H := H.2 hc226
  refine W_skip ?_
  refine W_seq ?_
  refine W_seq ?_
  refine W_region ?_
  refine LP_ev ok 0 [(101, I r223), (102, I r212), (103, .bool (r223 != r212))] 3 rfl rfl ?_
  refine LP_end _ rfl ?_
  refine W_cond (r223 != r212) rfl (fun hc230 => ?_) (fun hc230 => ?_)
  · have H := H.1 hc230
    refine W_seq ?_
    refine W_region ?_
    refine LP_ev ok 0 [(10, .bool false)] 1 rfl rfl ?_
    refine LP_end _ rfl ?_
    refine W_ret ?_
    have X232 := ((((((X.stepx x).stepx x13).stepx x22).stepx x34).stepx x45).stepx x56)
    have f231 := f73.mono X232.size
    have X233 := ((X166.step x215 (f231.dom _)).stepx x225)
    exact ⟨_, Ret_of [.bool false] ⟨⟨rfl, rfl⟩, trivial⟩, _, H, rfl, X233.ext⟩
  have H := H.2 hc230
  refine W_skip ?_
  refine W_seq ?_
  refine W_region ?_
  refine LP_ev ok 0 [(105, .slice a (List.length aSeeds) c)] 1 rfl rfl ?_
  have ex235 := ((ex43.ext x45).ext x56)
  have ex236 := ((ex162.but x215 (Dj.of_fresh ex235 f73).symm).ext x225)
  refine LP_call 1 rfl rfl rfl cal_41 rfl (laws_toIntSS_w _ _ H wx224 r ex236) ?_
  rintro _ wx237 ⟨r234, vx239, hx240, H, rfl, x238, o241, ex242, f243⟩
  obtain ⟨a244, c245, rfl⟩ := o241.shape
  refine LP_ev ok 2 [(107, .slice a5 (List.length aPresent) c6)] 3 rfl rfl ?_
  have ex247 := (ex54.ext x56)
  have ex248 := (((ex163.but x215 (Dj.of_fresh ex247 f73).symm).ext x225).ext x238)
  refine LP_call 3 rfl rfl rfl cal_26 rfl (laws_toIntS_w _ _ H wx237 r3 ex248) ?_
  rintro _ wx249 ⟨r246, vx251, hx252, H, rfl, x250, o253, ex254, f255⟩
  obtain ⟨a256, c257, rfl⟩ := o253.shape
  refine LP_ev ok 4 [(109, I aRound), (110, I aN), (111, I aM)] 7 rfl rfl ?_
  have ex260 := (ex242.ext x250)
  refine LP_call 7 rfl rfl rfl cal_62 rfl (impl_MaskRepair_w _ _ _ _ _ _ H wx249 o241.readf ex260 o253.readf ex254) ?_
  rintro _ wx261 ⟨r258, r259, vx263, hx264, H, rfl, x262, o265, ex266, f267⟩
  obtain ⟨a268, c269, rfl⟩ := o265.shape
  refine LP_ev ok 8 [(104, .tuple #[.slice a268 (List.length r258) c269, .bool r259]), (113, .slice a268 (List.length r258) c269), (114, .bool r259), (21, .slice a268 (List.length r258) c269), (22, .bool r259)] 13 rfl rfl ?_
  refine LP_end _ rfl ?_
  try refine W_forget [(12, .slice a40 (List.length r30) c41), (13, .bool r31), (16, .slice a74 (List.length r64) c75), (19, I r212), (21, .slice a268 (List.length r258) c269), (22, .bool r259)] ⟨rfl, rfl, rfl, rfl, rfl, rfl, trivial⟩ fun ρ => ?_
  refine W_seq ?_
  obtain ⟨k274, hk275, H⟩ := jn_elim H
  refine W_join2 (S := Bool) (fun s ρ' w' => k274 s ∧ ∃ (ρ : Env), ρ' = setAll [(16, .slice a74 (List.length r64) c75), (19, I r212), (123, .bool s)] ρ ∧ But emp w w' ∧ Sub hx216 w') ?_ ?_
  · refine W_region ?_
    refine LP_ev ok 0 [(115, .slice a268 (List.length r258) c269), (116, .slice a40 (List.length r30) c41)] 2 rfl rfl ?_
    have ex277 := ((ex38.ext x45).ext x56)
    have ex278 := (((((ex164.but x215 (Dj.of_fresh ex277 f73).symm).ext x225).ext x238).ext x250).ext x262)
    refine LP_call 2 rfl rfl rfl cal_22 rfl (laws_eqIntS_w _ _ _ H wx261 o265.readf ex266 o37.readf ex278) ?_
    rintro _ wx279 ⟨r276, H, rfl, x280⟩
    refine LP_ev ok 3 [(118, .bool (!r276)), (119, .bool (!r276))] 5 rfl rfl ?_
    refine LP_split 119 (!r276) rfl (fun hc281 => ?_) (fun hc281 => ?_)
    · have H := H.1 hc281
      refine LP_ev ok 5 [(120, undef), (121, undef), (122, undef), (123, .bool true)] 9 rfl rfl ?_
      refine LP_end _ rfl ?_
      have X283 := ((((((X.stepx x).stepx x13).stepx x22).stepx x34).stepx x45).stepx x56)
      have f282 := f73.mono X283.size
      have X284 := ((((((X166.step x215 (f282.dom _)).stepx x225).stepx x238).stepx x250).stepx x262).stepx x280)
      have ex285 := (((((ex218.ext x225).ext x238).ext x250).ext x262).ext x280)
      exact ⟨true, H, _, env_eq ⟨rfl, rfl, rfl, trivial⟩, X284, ex285⟩
    have H := H.2 hc281
    refine LP_ev ok 5 [(120, .bool r259), (121, .bool r31), (122, .bool (r259 != r31)), (123, .bool (r259 != r31))] 9 rfl rfl ?_
    refine LP_end _ rfl ?_
    have X287 := ((((((X.stepx x).stepx x13).stepx x22).stepx x34).stepx x45).stepx x56)
    have f286 := f73.mono X287.size
    have X288 := ((((((X166.step x215 (f286.dom _)).stepx x225).stepx x238).stepx x250).stepx x262).stepx x280)
    have ex289 := (((((ex218.ext x225).ext x238).ext x250).ext x262).ext x280)
    exact ⟨r259 != r31, H, _, env_eq ⟨rfl, rfl, rfl, trivial⟩, X288, ex289⟩
  rintro x270 _ wx271 ⟨H, ρ, rfl, X273, ex272⟩
  subst hk275
  refine W_cond (x270) rfl (fun hc290 => ?_) (fun hc290 => ?_)
  · have H := H.1 hc290
    refine W_seq ?_
    refine W_region ?_
    refine LP_ev ok 0 [(10, .bool false)] 1 rfl rfl ?_
    refine LP_end _ rfl ?_
    refine W_ret ?_
    exact ⟨_, Ret_of [.bool false] ⟨⟨rfl, rfl⟩, trivial⟩, _, H, rfl, X273.ext⟩
  have H := H.2 hc290
  refine W_skip ?_
  refine W_seq ?_
  refine W_region ?_
  refine LP_ev ok 0 [(20, I 1)] 1 rfl rfl ?_
  refine LP_end _ rfl ?_
  refine W_seq ?_
  refine W_region ?_
  refine LP_ev ok 0 [(124, .slice a74 (List.length r64) c75), (125, I 1)] 2 rfl rfl ?_
  refine LP_call 2 rfl rfl rfl cal_24 rfl (laws_heldIntS_w _ _ _ H wx271 o217.readf ex272) ?_
  rintro _ wx292 ⟨r291, H, rfl, x293⟩
  refine LP_ev ok 3 [(20, I r291)] 4 rfl rfl ?_
  refine LP_end _ rfl ?_
  refine W_seq ?_
  refine W_seq ?_
  refine W_region ?_
  refine LP_ev ok 0 [(127, I r291), (128, .bool (decide (r291 < 0)))] 2 rfl rfl ?_
  refine LP_end _ rfl ?_
  refine W_cond (decide (r291 < 0)) rfl (fun hc294 => ?_) (fun hc294 => ?_)
  · have H := H.1 hc294
    refine W_seq ?_
    refine W_region ?_
    refine LP_ev ok 0 [(10, .bool false)] 1 rfl rfl ?_
    refine LP_end _ rfl ?_
    refine W_ret ?_
    have X295 := (X273.stepx x293)
    exact ⟨_, Ret_of [.bool false] ⟨⟨rfl, rfl⟩, trivial⟩, _, H, rfl, X295.ext⟩
  have H := H.2 hc294
  refine W_skip ?_
  refine W_seq ?_
  refine W_seq ?_
  refine W_region ?_
  refine LP_ev ok 0 [(129, I r291), (130, I r212), (131, .bool (r291 != r212))] 3 rfl rfl ?_
  refine LP_end _ rfl ?_
  refine W_cond (r291 != r212) rfl (fun hc296 => ?_) (fun hc296 => ?_)
  · have H := H.1 hc296
    refine W_seq ?_
    refine W_region ?_
    refine LP_ev ok 0 [(10, .bool false)] 1 rfl rfl ?_
    refine LP_end _ rfl ?_
    refine W_ret ?_
    have X297 := (X273.stepx x293)
    exact ⟨_, Ret_of [.bool false] ⟨⟨rfl, rfl⟩, trivial⟩, _, H, rfl, X297.ext⟩
  have H := H.2 hc296
  refine W_skip ?_
  refine W_seq ?_
  refine W_region ?_
  refine LP_ev ok 0 [(10, .bool true)] 1 rfl rfl ?_
  refine LP_end _ rfl ?_
  refine W_ret ?_
  have X298 := (X273.stepx x293)
  exact ⟨_, Ret_of [.bool true] ⟨⟨rfl, rfl⟩, trivial⟩, _, H, rfl, X298.ext⟩

set_option maxRecDepth 8000 in
set_option maxHeartbeats 4000000 in
theorem spec_SumPresent_w (seeds : List (List Int)) (present : List Int) (round : Int) (m : Int) (shares : List (List Int)) (Q : (List Int) → Bool → Prop) (H : spec_SumPresent seeds present round m shares Q) (w : World) {vx : Value} {hx : PH} (r : RS hx vx seeds) (ex : Sub hx w) {vx1 : Value} {hx2 : PH} (r3 : RS hx2 vx1 present) (ex4 : Sub hx2 w) {vx7 : Value} {hx8 : PH} (r9 : RS hx8 vx7 shares) (ex10 : Sub hx8 w) :
    CallsTo Try.prog 63 #[vx, vx1, I round, I m, vx7] w fun v w' => ∃ r0 r1 u0 g0, Q r0 r1 ∧ v = .tuple #[u0, .bool r1] ∧ Ext w w' ∧ OS 3 g0 emp u0 r0 ∧ Sub g0 w' ∧ Fresh w.heap.size g0 := by
  obtain ⟨a, c, rfl⟩ := r.shape
  obtain ⟨a5, c6, rfl⟩ := r3.shape
  obtain ⟨a11, c12, rfl⟩ := r9.shape
  refine enter (args := [.slice a (List.length seeds) c, .slice a5 (List.length present) c6, I round, I m, .slice a11 (List.length shares) c12]) 49 Try.func63 rfl rfl rfl ?_
  refine W_forget [(0, .slice a (List.length seeds) c), (1, .slice a5 (List.length present) c6), (2, I round), (3, I m), (4, .slice a11 (List.length shares) c12)] ⟨rfl, rfl, rfl, rfl, rfl, trivial⟩ fun ρ => ?_
  have X := But.refl emp w
  refine W_seq ?_
  refine W_region ?_
  refine LP_ev ok 0 [(10, .slice none 0 0), (11, .bool false)] 2 rfl rfl ?_
  refine LP_end _ rfl ?_
  refine W_seq ?_
  obtain ⟨k, hk, H⟩ := jn_elim H
  refine W_join2 (S := Bool) (fun s ρ' w' => k s ∧ ∃ (ρ : Env), ρ' = setAll [(0, .slice a (List.length seeds) c), (1, .slice a5 (List.length present) c6), (2, I round), (3, I m), (4, .slice a11 (List.length shares) c12), (35, .bool s)] ρ ∧ But emp w w' ∧ Sub hx w' ∧ Sub hx2 w' ∧ Sub hx8 w') ?_ ?_
  · refine W_region ?_
    refine LP_ev ok 0 [(13, .slice a (List.length seeds) c), (14, .slice a5 (List.length present) c6)] 2 rfl rfl ?_
    refine LP_call 2 rfl rfl rfl cal_124 rfl (spec_zePresent_w _ _ _ H w r ex r3 ex4) ?_
    rintro _ wx18 ⟨r17, H, rfl, x19⟩
    refine LP_ev ok 3 [(16, .bool (!r17)), (17, .bool (!r17))] 5 rfl rfl ?_
    refine LP_split 17 (!r17) rfl (fun hc => ?_) (fun hc => ?_)
    · have H := H.1 hc
      refine LP_ev ok 5 [(18, undef), (19, undef), (20, undef), (21, undef), (22, .bool true), (23, .bool true), (24, undef), (25, undef), (26, undef), (27, undef), (28, .bool true), (29, .bool true), (30, undef), (31, undef), (32, undef), (33, undef), (34, undef), (35, .bool true)] 23 rfl rfl ?_
      refine LP_end _ rfl ?_
      try refine W_forget [(0, .slice a (List.length seeds) c), (1, .slice a5 (List.length present) c6), (2, I round), (3, I m), (4, .slice a11 (List.length shares) c12), (35, .bool true)] ⟨rfl, rfl, rfl, rfl, rfl, rfl, trivial⟩ fun ρ => ?_
      have X20 := (X.stepx x19)
      have ex21 := (ex.ext x19)
      have ex22 := (ex4.ext x19)
      have ex23 := (ex10.ext x19)
      exact ⟨true, H, _, env_eq ⟨rfl, rfl, rfl, rfl, rfl, rfl, trivial⟩, X20, ex21, ex22, ex23⟩
    have H := H.2 hc
    refine LP_ev ok 5 [(18, I round), (19, I m)] 7 rfl rfl ?_
    refine LP_call 7 rfl rfl rfl cal_82 rfl (spec_zeRound_w _ _ _ _ H wx18 ) ?_
    rintro _ wx25 ⟨r24, H, rfl, x26⟩
    refine LP_ev ok 8 [(21, .bool (!r24)), (22, .bool (!r24)), (23, .bool (!r24))] 11 rfl rfl ?_
    refine LP_split 23 (!r24) rfl (fun hc27 => ?_) (fun hc27 => ?_)
    · have H := H.1 hc27
      refine LP_ev ok 11 [(24, undef), (25, undef), (26, undef), (27, undef), (28, .bool true), (29, .bool true), (30, undef), (31, undef), (32, undef), (33, undef), (34, undef), (35, .bool true)] 23 rfl rfl ?_
      refine LP_end _ rfl ?_
      try refine W_forget [(0, .slice a (List.length seeds) c), (1, .slice a5 (List.length present) c6), (2, I round), (3, I m), (4, .slice a11 (List.length shares) c12), (35, .bool true)] ⟨rfl, rfl, rfl, rfl, rfl, rfl, trivial⟩ fun ρ => ?_
      have X28 := ((X.stepx x19).stepx x26)
      have ex29 := ((ex.ext x19).ext x26)
      have ex30 := ((ex4.ext x19).ext x26)
      have ex31 := ((ex10.ext x19).ext x26)
      exact ⟨true, H, _, env_eq ⟨rfl, rfl, rfl, rfl, rfl, rfl, trivial⟩, X28, ex29, ex30, ex31⟩
    have H := H.2 hc27
    refine LP_ev ok 11 [(24, I m), (25, .slice a11 (List.length shares) c12)] 13 rfl rfl ?_
    have ex33 := ((ex10.ext x19).ext x26)
    refine LP_call 13 rfl rfl rfl cal_103 rfl (spec_zeShares_w _ _ _ H wx25 r9 ex33) ?_
    rintro _ wx34 ⟨r32, H, rfl, x35⟩
    refine LP_ev ok 14 [(27, .bool (!r32)), (28, .bool (!r32)), (29, .bool (!r32))] 17 rfl rfl ?_
    refine LP_split 29 (!r32) rfl (fun hc36 => ?_) (fun hc36 => ?_)
    · have H := H.1 hc36
      refine LP_ev ok 17 [(30, undef), (31, undef), (32, undef), (33, undef), (34, undef), (35, .bool true)] 23 rfl rfl ?_
      refine LP_end _ rfl ?_
      try refine W_forget [(0, .slice a (List.length seeds) c), (1, .slice a5 (List.length present) c6), (2, I round), (3, I m), (4, .slice a11 (List.length shares) c12), (35, .bool true)] ⟨rfl, rfl, rfl, rfl, rfl, rfl, trivial⟩ fun ρ => ?_
      have X37 := (((X.stepx x19).stepx x26).stepx x35)
      have ex38 := (((ex.ext x19).ext x26).ext x35)
      have ex39 := (((ex4.ext x19).ext x26).ext x35)
      have ex40 := (ex33.ext x35)
      exact ⟨true, H, _, env_eq ⟨rfl, rfl, rfl, rfl, rfl, rfl, trivial⟩, X37, ex38, ex39, ex40⟩
    have H := H.2 hc36
    refine LP_ev ok 17 [(30, .slice a11 (List.length shares) c12), (31, I (ln shares)), (32, .slice a5 (List.length present) c6), (33, I (ln present)), (34, .bool ((ln shares) != (ln present))), (35, .bool ((ln shares) != (ln present)))] 23 rfl rfl ?_
    refine LP_end _ rfl ?_
    try refine W_forget [(0, .slice a (List.length seeds) c), (1, .slice a5 (List.length present) c6), (2, I round), (3, I m), (4, .slice a11 (List.length shares) c12), (35, .bool ((ln shares) != (ln present)))] ⟨rfl, rfl, rfl, rfl, rfl, rfl, trivial⟩ fun ρ => ?_
    have X41 := (((X.stepx x19).stepx x26).stepx x35)
    have ex42 := (((ex.ext x19).ext x26).ext x35)
    have ex43 := (((ex4.ext x19).ext x26).ext x35)
    have ex44 := (ex33.ext x35)
    exact ⟨(ln shares) != (ln present), H, _, env_eq ⟨rfl, rfl, rfl, rfl, rfl, rfl, trivial⟩, X41, ex42, ex43, ex44⟩
  rintro x _ wx ⟨H, ρ, rfl, X16, ex13, ex14, ex15⟩
  subst hk
  refine W_cond (x) rfl (fun hc45 => ?_) (fun hc45 => ?_)
  · have H := H.1 hc45
    refine W_seq ?_
    refine W_region ?_
    refine LP_ev ok 0 [(10, .slice none 0 0), (11, .bool false)] 2 rfl rfl ?_
    refine LP_end _ rfl ?_
    refine W_ret ?_
    exact ⟨_, Ret_of [.slice none 0 0, .bool false] ⟨⟨rfl, rfl⟩, ⟨rfl, rfl⟩, trivial⟩, _, _, _, emp, H, rfl, X16.ext, OS.nil, (emp_sub _), (emp_fresh _)⟩
  have H := H.2 hc45
  refine W_skip ?_
  refine W_seq ?_
  refine W_region ?_
  refine LP_ev ok 0 [(36, I m), (37, .slice a11 (List.length shares) c12)] 2 rfl rfl ?_
  refine LP_call 2 rfl rfl rfl cal_104 rfl (spec_zeSum_w _ _ _ H wx r9 ex15) ?_
  rintro _ wx47 ⟨r46, vx49, hx50, H, rfl, x48, o, ex51, f⟩
  obtain ⟨a52, c53, rfl⟩ := o.shape
  refine LP_ev ok 3 [(12, .slice a52 (List.length r46) c53)] 4 rfl rfl ?_
  refine LP_end _ rfl ?_
  refine W_seq ?_
  refine W_region ?_
  refine LP_ev ok 0 [(39, .slice a52 (List.length r46) c53), (40, .slice a (List.length seeds) c), (41, .slice a5 (List.length present) c6), (42, I round), (43, .slice a52 (List.length r46) c53), (44, I (ln r46)), (45, I m)] 7 rfl rfl ?_
  have ex55 := (ex13.ext x48)
  have ex56 := (ex14.ext x48)
  refine LP_call 7 rfl rfl rfl cal_125 rfl (spec_zeRepair_w _ _ _ _ _ _ H wx47 r ex55 r3 ex56) ?_
  rintro _ wx57 ⟨r54, vx59, hx60, H, rfl, x58, o61, ex62, f63⟩
  obtain ⟨a64, c65, rfl⟩ := o61.shape
  refine LP_ev ok 8 [(47, I m)] 9 rfl rfl ?_
  have ex67 := (ex51.ext x58)
  refine LP_call 9 rfl rfl rfl cal_128 rfl (spec_zeAdd_w _ _ _ _ _ H wx57 o.readf ex67 o61.readf ex62) ?_
  rintro _ wx68 ⟨r66, vx70, hx71, H, rfl, x69, o72, ex73, f74⟩
  obtain ⟨a75, c76, rfl⟩ := o72.shape
  refine LP_ev ok 10 [(10, .slice a75 (List.length r66) c76), (11, .bool true)] 12 rfl rfl ?_
  refine LP_end _ rfl ?_
  refine W_ret ?_
  have X78 := ((X16.stepx x48).stepx x58)
  have f77 := f74.mono X78.size
  have X79 := (X78.stepx x69)
  exact ⟨_, Ret_of [.slice a75 (List.length r66) c76, .bool true] ⟨⟨rfl, rfl⟩, ⟨rfl, rfl⟩, trivial⟩, _, _, _, _, H, rfl, X79.ext, o72, ex73, f77⟩

set_option maxRecDepth 8000 in
set_option maxHeartbeats 4000000 in
theorem impl_SumPresent_w (seeds : List (List Int)) (present : List Int) (round : Int) (m : Int) (shares : List (List Int)) (Q : (List Int) → Bool → Prop) (H : impl_SumPresent seeds present round m shares Q) (w : World) {vx : Value} {hx : PH} (r : RS hx vx seeds) (ex : Sub hx w) {vx1 : Value} {hx2 : PH} (r3 : RS hx2 vx1 present) (ex4 : Sub hx2 w) {vx7 : Value} {hx8 : PH} (r9 : RS hx8 vx7 shares) (ex10 : Sub hx8 w) :
    CallsTo Try.prog 64 #[vx, vx1, I round, I m, vx7] w fun v w' => ∃ r0 r1 u0 g0, Q r0 r1 ∧ v = .tuple #[u0, .bool r1] ∧ Ext w w' ∧ OS 3 g0 emp u0 r0 ∧ Sub g0 w' ∧ Fresh w.heap.size g0 := by
  obtain ⟨a, c, rfl⟩ := r.shape
  obtain ⟨a5, c6, rfl⟩ := r3.shape
  obtain ⟨a11, c12, rfl⟩ := r9.shape
  refine enter (args := [.slice a (List.length seeds) c, .slice a5 (List.length present) c6, I round, I m, .slice a11 (List.length shares) c12]) 54 Try.func64 rfl rfl rfl ?_
  refine W_forget [(0, .slice a (List.length seeds) c), (1, .slice a5 (List.length present) c6), (2, I round), (3, I m), (4, .slice a11 (List.length shares) c12)] ⟨rfl, rfl, rfl, rfl, rfl, trivial⟩ fun ρ => ?_
  have X := But.refl emp w
  refine W_seq ?_
  refine W_region ?_
  refine LP_ev ok 0 [(10, .slice none 0 0), (11, .bool false)] 2 rfl rfl ?_
  refine LP_end _ rfl ?_
  refine W_seq ?_
  obtain ⟨k, hk, H⟩ := jn_elim H
  refine W_join2 (S := Bool) (fun s ρ' w' => k s ∧ ∃ (ρ : Env), ρ' = setAll [(0, .slice a (List.length seeds) c), (1, .slice a5 (List.length present) c6), (2, I round), (3, I m), (4, .slice a11 (List.length shares) c12), (39, .bool s)] ρ ∧ But emp w w' ∧ Sub hx w' ∧ Sub hx2 w' ∧ Sub hx8 w') ?_ ?_
  · refine W_region ?_
    refine LP_ev ok 0 [(13, .slice a (List.length seeds) c)] 1 rfl rfl ?_
    refine LP_call 1 rfl rfl rfl cal_120 rfl (impl_areSeedRows_w _ _ H w r ex) ?_
    rintro _ wx18 ⟨r17, H, rfl, x19⟩
    refine LP_ev ok 2 [(15, .bool (!r17)), (16, .bool (!r17))] 4 rfl rfl ?_
    refine LP_split 16 (!r17) rfl (fun hc => ?_) (fun hc => ?_)
    · have H := H.1 hc
      refine LP_ev ok 4 [(17, undef), (18, undef), (19, undef), (20, undef), (21, .bool true), (22, .bool true), (23, undef), (24, undef), (25, undef), (26, .bool true), (27, .bool true), (28, undef), (29, undef), (30, undef), (31, undef), (32, .bool true), (33, .bool true), (34, undef), (35, undef), (36, undef), (37, undef), (38, undef), (39, .bool true)] 27 rfl rfl ?_
      refine LP_end _ rfl ?_
      try refine W_forget [(0, .slice a (List.length seeds) c), (1, .slice a5 (List.length present) c6), (2, I round), (3, I m), (4, .slice a11 (List.length shares) c12), (39, .bool true)] ⟨rfl, rfl, rfl, rfl, rfl, rfl, trivial⟩ fun ρ => ?_
      have X20 := (X.stepx x19)
      have ex21 := (ex.ext x19)
      have ex22 := (ex4.ext x19)
      have ex23 := (ex10.ext x19)
      exact ⟨true, H, _, env_eq ⟨rfl, rfl, rfl, rfl, rfl, rfl, trivial⟩, X20, ex21, ex22, ex23⟩
    have H := H.2 hc
    refine LP_ev ok 4 [(17, .slice a (List.length seeds) c), (18, .slice a5 (List.length present) c6)] 6 rfl rfl ?_
    have ex25 := (ex.ext x19)
    have ex26 := (ex4.ext x19)
    refine LP_call 6 rfl rfl rfl cal_126 rfl (impl_arePresent_w _ _ _ H wx18 r ex25 r3 ex26) ?_
    rintro _ wx27 ⟨r24, H, rfl, x28⟩
    refine LP_ev ok 7 [(20, .bool (!r24)), (21, .bool (!r24)), (22, .bool (!r24))] 10 rfl rfl ?_
    refine LP_split 22 (!r24) rfl (fun hc29 => ?_) (fun hc29 => ?_)
    · have H := H.1 hc29
      refine LP_ev ok 10 [(23, undef), (24, undef), (25, undef), (26, .bool true), (27, .bool true), (28, undef), (29, undef), (30, undef), (31, undef), (32, .bool true), (33, .bool true), (34, undef), (35, undef), (36, undef), (37, undef), (38, undef), (39, .bool true)] 27 rfl rfl ?_
      refine LP_end _ rfl ?_
      try refine W_forget [(0, .slice a (List.length seeds) c), (1, .slice a5 (List.length present) c6), (2, I round), (3, I m), (4, .slice a11 (List.length shares) c12), (39, .bool true)] ⟨rfl, rfl, rfl, rfl, rfl, rfl, trivial⟩ fun ρ => ?_
      have X30 := ((X.stepx x19).stepx x28)
      have ex31 := (ex25.ext x28)
      have ex32 := (ex26.ext x28)
      have ex33 := ((ex10.ext x19).ext x28)
      exact ⟨true, H, _, env_eq ⟨rfl, rfl, rfl, rfl, rfl, rfl, trivial⟩, X30, ex31, ex32, ex33⟩
    have H := H.2 hc29
    refine LP_ev ok 10 [(23, I round)] 11 rfl rfl ?_
    refine LP_call 11 rfl rfl rfl cal_85 rfl (impl_isRound_w _ _ H wx27 ) ?_
    rintro _ wx35 ⟨r34, H, rfl, x36⟩
    refine LP_ev ok 12 [(25, .bool (!r34)), (26, .bool (!r34)), (27, .bool (!r34))] 15 rfl rfl ?_
    refine LP_split 27 (!r34) rfl (fun hc37 => ?_) (fun hc37 => ?_)
    · have H := H.1 hc37
      refine LP_ev ok 15 [(28, undef), (29, undef), (30, undef), (31, undef), (32, .bool true), (33, .bool true), (34, undef), (35, undef), (36, undef), (37, undef), (38, undef), (39, .bool true)] 27 rfl rfl ?_
      refine LP_end _ rfl ?_
      try refine W_forget [(0, .slice a (List.length seeds) c), (1, .slice a5 (List.length present) c6), (2, I round), (3, I m), (4, .slice a11 (List.length shares) c12), (39, .bool true)] ⟨rfl, rfl, rfl, rfl, rfl, rfl, trivial⟩ fun ρ => ?_
      have X38 := (((X.stepx x19).stepx x28).stepx x36)
      have ex39 := ((ex25.ext x28).ext x36)
      have ex40 := ((ex26.ext x28).ext x36)
      have ex41 := (((ex10.ext x19).ext x28).ext x36)
      exact ⟨true, H, _, env_eq ⟨rfl, rfl, rfl, rfl, rfl, rfl, trivial⟩, X38, ex39, ex40, ex41⟩
    have H := H.2 hc37
    refine LP_ev ok 15 [(28, I m), (29, .slice a11 (List.length shares) c12)] 17 rfl rfl ?_
    have ex43 := (((ex10.ext x19).ext x28).ext x36)
    refine LP_call 17 rfl rfl rfl cal_105 rfl (impl_areShares_w _ _ _ H wx35 r9 ex43) ?_
    rintro _ wx44 ⟨r42, H, rfl, x45⟩
    refine LP_ev ok 18 [(31, .bool (!r42)), (32, .bool (!r42)), (33, .bool (!r42))] 21 rfl rfl ?_
    refine LP_split 33 (!r42) rfl (fun hc46 => ?_) (fun hc46 => ?_)
    · have H := H.1 hc46
      refine LP_ev ok 21 [(34, undef), (35, undef), (36, undef), (37, undef), (38, undef), (39, .bool true)] 27 rfl rfl ?_
      refine LP_end _ rfl ?_
      try refine W_forget [(0, .slice a (List.length seeds) c), (1, .slice a5 (List.length present) c6), (2, I round), (3, I m), (4, .slice a11 (List.length shares) c12), (39, .bool true)] ⟨rfl, rfl, rfl, rfl, rfl, rfl, trivial⟩ fun ρ => ?_
      have X47 := ((((X.stepx x19).stepx x28).stepx x36).stepx x45)
      have ex48 := (((ex25.ext x28).ext x36).ext x45)
      have ex49 := (((ex26.ext x28).ext x36).ext x45)
      have ex50 := (ex43.ext x45)
      exact ⟨true, H, _, env_eq ⟨rfl, rfl, rfl, rfl, rfl, rfl, trivial⟩, X47, ex48, ex49, ex50⟩
    have H := H.2 hc46
    refine LP_ev ok 21 [(34, .slice a11 (List.length shares) c12), (35, I (ln shares)), (36, .slice a5 (List.length present) c6), (37, I (ln present)), (38, .bool ((ln shares) != (ln present))), (39, .bool ((ln shares) != (ln present)))] 27 rfl rfl ?_
    refine LP_end _ rfl ?_
    try refine W_forget [(0, .slice a (List.length seeds) c), (1, .slice a5 (List.length present) c6), (2, I round), (3, I m), (4, .slice a11 (List.length shares) c12), (39, .bool ((ln shares) != (ln present)))] ⟨rfl, rfl, rfl, rfl, rfl, rfl, trivial⟩ fun ρ => ?_
    have X51 := ((((X.stepx x19).stepx x28).stepx x36).stepx x45)
    have ex52 := (((ex25.ext x28).ext x36).ext x45)
    have ex53 := (((ex26.ext x28).ext x36).ext x45)
    have ex54 := (ex43.ext x45)
    exact ⟨(ln shares) != (ln present), H, _, env_eq ⟨rfl, rfl, rfl, rfl, rfl, rfl, trivial⟩, X51, ex52, ex53, ex54⟩
  rintro x _ wx ⟨H, ρ, rfl, X16, ex13, ex14, ex15⟩
  subst hk
  refine W_cond (x) rfl (fun hc55 => ?_) (fun hc55 => ?_)
  · have H := H.1 hc55
    refine W_seq ?_
    refine W_region ?_
    refine LP_ev ok 0 [(10, .slice none 0 0), (11, .bool false)] 2 rfl rfl ?_
    refine LP_end _ rfl ?_
    refine W_ret ?_
    exact ⟨_, Ret_of [.slice none 0 0, .bool false] ⟨⟨rfl, rfl⟩, ⟨rfl, rfl⟩, trivial⟩, _, _, _, emp, H, rfl, X16.ext, OS.nil, (emp_sub _), (emp_fresh _)⟩
  have H := H.2 hc55
  refine W_skip ?_
  refine W_seq ?_
  refine W_region ?_
  refine LP_ev ok 0 [(40, I m), (41, .slice a11 (List.length shares) c12)] 2 rfl rfl ?_
  refine LP_call 2 rfl rfl rfl cal_106 rfl (impl_sumOfShares_w _ _ _ H wx r9 ex15) ?_
  rintro _ wx57 ⟨r56, vx59, hx60, H, rfl, x58, o, ex61, f⟩
  obtain ⟨a62, c63, rfl⟩ := o.shape
  refine LP_ev ok 3 [(12, .slice a62 (List.length r56) c63)] 4 rfl rfl ?_
  refine LP_end _ rfl ?_
  refine W_seq ?_
  refine W_region ?_
  refine LP_ev ok 0 [(43, .slice a62 (List.length r56) c63), (44, .slice a (List.length seeds) c), (45, .slice a5 (List.length present) c6), (46, I round), (47, .slice a62 (List.length r56) c63), (48, I (ln r56)), (49, I m)] 7 rfl rfl ?_
  have ex65 := (ex13.ext x58)
  have ex66 := (ex14.ext x58)
  refine LP_call 7 rfl rfl rfl cal_127 rfl (impl_maskRepair_w _ _ _ _ _ _ H wx57 r ex65 r3 ex66) ?_
  rintro _ wx67 ⟨r64, vx69, hx70, H, rfl, x68, o71, ex72, f73⟩
  obtain ⟨a74, c75, rfl⟩ := o71.shape
  refine LP_ev ok 8 [(51, I m)] 9 rfl rfl ?_
  have ex77 := (ex61.ext x68)
  refine LP_call 9 rfl rfl rfl cal_129 rfl (impl_combine_w _ _ _ _ _ H wx67 o ex77 o71.readf ex72 (Dj.of_fresh ex61 f73)) ?_
  rintro _ wx78 ⟨r76, hx80, H, rfl, x79, o81, ex82, dm⟩
  refine LP_end _ rfl ?_
  refine W_seq ?_
  refine W_region ?_
  refine LP_ev ok 0 [(53, .slice a62 (List.length r56) c63), (10, .slice a62 (List.length r56) c63), (11, .bool true)] 3 rfl rfl ?_
  refine LP_end _ rfl ?_
  refine W_ret ?_
  have f86 := f.mono X16.size
  have X87 := ((X16.stepx x58).stepx x68)
  have f85 := (dm _).fresh f86 X87.size
  have X88 := (X87.step x79 (f86.dom _))
  exact ⟨_, Ret_of [.slice a62 (List.length r56) c63, .bool true] ⟨⟨rfl, rfl⟩, ⟨rfl, rfl⟩, trivial⟩, _, _, _, _, H, rfl, X88.ext, o81, ex82, f85⟩

set_option maxRecDepth 8000 in
set_option maxHeartbeats 4000000 in
theorem laws_FnExactSumPresent_w (aSeeds : List (List Int)) (aPresent : List Int) (aRound : Int) (aM : Int) (aShares : List (List Int)) (Q : Bool → Prop) (H : laws_FnExactSumPresent aSeeds aPresent aRound aM aShares Q) (w : World) {vx : Value} {hx : PH} (r : RS hx vx aSeeds) (ex : Sub hx w) {vx1 : Value} {hx2 : PH} (r3 : RS hx2 vx1 aPresent) (ex4 : Sub hx2 w) {vx7 : Value} {hx8 : PH} (r9 : RS hx8 vx7 aShares) (ex10 : Sub hx8 w) :
    CallsTo Try.prog 17 #[vx, vx1, I aRound, I aM, vx7] w fun v w' => ∃ r0, Q r0 ∧ v = .bool r0 ∧ Ext w w' := by
  obtain ⟨a, c, rfl⟩ := r.shape
  obtain ⟨a5, c6, rfl⟩ := r3.shape
  obtain ⟨a11, c12, rfl⟩ := r9.shape
  refine enter (args := [.slice a (List.length aSeeds) c, .slice a5 (List.length aPresent) c6, I aRound, I aM, .slice a11 (List.length aShares) c12]) 150 Try.func17 rfl rfl rfl ?_
  refine W_forget [(0, .slice a (List.length aSeeds) c), (1, .slice a5 (List.length aPresent) c6), (2, I aRound), (3, I aM), (4, .slice a11 (List.length aShares) c12)] ⟨rfl, rfl, rfl, rfl, rfl, trivial⟩ fun ρ => ?_
  have X := But.refl emp w
  refine W_seq ?_
  refine W_region ?_
  refine LP_ev ok 0 [(10, .bool false)] 1 rfl rfl ?_
  refine LP_end _ rfl ?_
  refine W_seq ?_
  refine W_seq ?_
  refine W_region ?_
  refine LP_ev ok 0 [(24, .slice a5 (List.length aPresent) c6), (25, I (ln aPresent)), (26, .bool (decide ((ln aPresent) > 1048576)))] 3 rfl rfl ?_
  refine LP_end _ rfl ?_
  refine W_cond (decide ((ln aPresent) > 1048576)) rfl (fun hc => ?_) (fun hc => ?_)
  · have H := H.1 hc
    refine W_seq ?_
    refine W_region ?_
    refine LP_ev ok 0 [(10, .bool true)] 1 rfl rfl ?_
    refine LP_end _ rfl ?_
    refine W_ret ?_
    exact ⟨_, Ret_of [.bool true] ⟨⟨rfl, rfl⟩, trivial⟩, _, H, rfl, X.ext⟩
  have H := H.2 hc
  refine W_skip ?_
  refine W_seq ?_
  refine W_region ?_
  refine LP_ev ok 0 [(11, I 1048576)] 1 rfl rfl ?_
  refine LP_end _ rfl ?_
  refine W_seq ?_
  refine W_region ?_
  refine LP_ev ok 0 [(27, .slice a (List.length aSeeds) c), (28, I 1048576)] 2 rfl rfl ?_
  refine LP_call 2 rfl rfl rfl cal_39 rfl (laws_szIntSS_w _ _ _ H w r ex) ?_
  rintro _ wx ⟨r13, H, rfl, x⟩
  refine LP_ev ok 3 [(11, I r13)] 4 rfl rfl ?_
  refine LP_end _ rfl ?_
  refine W_seq ?_
  refine W_seq ?_
  refine W_region ?_
  refine LP_ev ok 0 [(30, I r13), (31, .bool (decide (r13 < 0)))] 2 rfl rfl ?_
  refine LP_end _ rfl ?_
  refine W_cond (decide (r13 < 0)) rfl (fun hc14 => ?_) (fun hc14 => ?_)
  · have H := H.1 hc14
    refine W_seq ?_
    refine W_region ?_
    refine LP_ev ok 0 [(10, .bool true)] 1 rfl rfl ?_
    refine LP_end _ rfl ?_
    refine W_ret ?_
    have X15 := (X.stepx x)
    exact ⟨_, Ret_of [.bool true] ⟨⟨rfl, rfl⟩, trivial⟩, _, H, rfl, X15.ext⟩
  have H := H.2 hc14
  refine W_skip ?_
  refine W_seq ?_
  refine W_region ?_
  refine LP_ev ok 0 [(32, .slice a11 (List.length aShares) c12), (33, I r13)] 2 rfl rfl ?_
  have ex17 := (ex10.ext x)
  refine LP_call 2 rfl rfl rfl cal_39 rfl (laws_szIntSS_w _ _ _ H wx r9 ex17) ?_
  rintro _ wx18 ⟨r16, H, rfl, x19⟩
  refine LP_ev ok 3 [(11, I r16)] 4 rfl rfl ?_
  refine LP_end _ rfl ?_
  refine W_seq ?_
  refine W_seq ?_
  refine W_region ?_
  refine LP_ev ok 0 [(35, I r16), (36, .bool (decide (r16 < 0)))] 2 rfl rfl ?_
  refine LP_end _ rfl ?_
  refine W_cond (decide (r16 < 0)) rfl (fun hc20 => ?_) (fun hc20 => ?_)
  · have H := H.1 hc20
    refine W_seq ?_
    refine W_region ?_
    refine LP_ev ok 0 [(10, .bool true)] 1 rfl rfl ?_
    refine LP_end _ rfl ?_
    refine W_ret ?_
    have X21 := ((X.stepx x).stepx x19)
    exact ⟨_, Ret_of [.bool true] ⟨⟨rfl, rfl⟩, trivial⟩, _, H, rfl, X21.ext⟩
  have H := H.2 hc20
  refine W_skip ?_
  refine W_seq ?_
  refine W_region ?_
  refine LP_ev ok 0 [(38, .slice a (List.length aSeeds) c)] 1 rfl rfl ?_
  have ex23 := ((ex.ext x).ext x19)
  refine LP_call 1 rfl rfl rfl cal_41 rfl (laws_toIntSS_w _ _ H wx18 r ex23) ?_
  rintro _ wx24 ⟨r22, vx26, hx27, H, rfl, x25, o, ex28, f⟩
  obtain ⟨a29, c30, rfl⟩ := o.shape
  refine LP_ev ok 2 [(40, .slice a5 (List.length aPresent) c6)] 3 rfl rfl ?_
  have ex32 := (((ex4.ext x).ext x19).ext x25)
  refine LP_call 3 rfl rfl rfl cal_26 rfl (laws_toIntS_w _ _ H wx24 r3 ex32) ?_
  rintro _ wx33 ⟨r31, vx35, hx36, H, rfl, x34, o37, ex38, f39⟩
  obtain ⟨a40, c41, rfl⟩ := o37.shape
  refine LP_ev ok 4 [(42, I aRound), (43, I aM), (44, .slice a11 (List.length aShares) c12)] 7 rfl rfl ?_
  have ex43 := (((ex17.ext x19).ext x25).ext x34)
  refine LP_call 7 rfl rfl rfl cal_41 rfl (laws_toIntSS_w _ _ H wx33 r9 ex43) ?_
  rintro _ wx44 ⟨r42, vx46, hx47, H, rfl, x45, o48, ex49, f50⟩
  obtain ⟨a51, c52, rfl⟩ := o48.shape
  have ex55 := ((ex28.ext x34).ext x45)
  have ex56 := (ex38.ext x45)
  refine LP_call 8 rfl rfl rfl cal_63 rfl (spec_SumPresent_w _ _ _ _ _ _ H wx44 o.readf ex55 o37.readf ex56 o48.readf ex49) ?_
  rintro _ wx57 ⟨r53, r54, vx59, hx60, H, rfl, x58, o61, ex62, f63⟩
  obtain ⟨a64, c65, rfl⟩ := o61.shape
  refine LP_ev ok 9 [(37, .tuple #[.slice a64 (List.length r53) c65, .bool r54]), (47, .slice a64 (List.length r53) c65), (48, .bool r54), (12, .slice a64 (List.length r53) c65), (13, .bool r54)] 14 rfl rfl ?_
  refine LP_end _ rfl ?_
  try refine W_forget [(0, .slice a (List.length aSeeds) c), (1, .slice a5 (List.length aPresent) c6), (2, I aRound), (3, I aM), (4, .slice a11 (List.length aShares) c12), (12, .slice a64 (List.length r53) c65), (13, .bool r54)] ⟨rfl, rfl, rfl, rfl, rfl, rfl, rfl, trivial⟩ fun ρ => ?_
  refine W_seq ?_
  refine W_region ?_
  refine LP_ev ok 0 [(49, .slice a (List.length aSeeds) c)] 1 rfl rfl ?_
  have ex67 := ((((ex23.ext x25).ext x34).ext x45).ext x58)
  refine LP_call 1 rfl rfl rfl cal_41 rfl (laws_toIntSS_w _ _ H wx57 r ex67) ?_
  rintro _ wx68 ⟨r66, vx70, hx71, H, rfl, x69, o72, ex73, f74⟩
  obtain ⟨a75, c76, rfl⟩ := o72.shape
  refine LP_ev ok 2 [(14, .slice a75 (List.length r66) c76)] 3 rfl rfl ?_
  refine LP_end _ rfl ?_
  refine W_seq ?_
  refine W_region ?_
  refine LP_ev ok 0 [(51, .slice a5 (List.length aPresent) c6)] 1 rfl rfl ?_
  have ex78 := ((((ex32.ext x34).ext x45).ext x58).ext x69)
  refine LP_call 1 rfl rfl rfl cal_26 rfl (laws_toIntS_w _ _ H wx68 r3 ex78) ?_
  rintro _ wx79 ⟨r77, vx81, hx82, H, rfl, x80, o83, ex84, f85⟩
  obtain ⟨a86, c87, rfl⟩ := o83.shape
  refine LP_ev ok 2 [(15, .slice a86 (List.length r77) c87)] 3 rfl rfl ?_
  refine LP_end _ rfl ?_
  refine W_seq ?_
  refine W_region ?_
  refine LP_ev ok 0 [(53, .slice a11 (List.length aShares) c12)] 1 rfl rfl ?_
  have ex89 := ((((ex43.ext x45).ext x58).ext x69).ext x80)
  refine LP_call 1 rfl rfl rfl cal_41 rfl (laws_toIntSS_w _ _ H wx79 r9 ex89) ?_
  rintro _ wx90 ⟨r88, vx92, hx93, H, rfl, x91, o94, ex95, f96⟩
  obtain ⟨a97, c98, rfl⟩ := o94.shape
  refine LP_ev ok 2 [(16, .slice a97 (List.length r88) c98)] 3 rfl rfl ?_
  refine LP_end _ rfl ?_
  refine W_seq ?_
  refine W_region ?_
  refine LP_ev ok 0 [(56, .slice a75 (List.length r66) c76), (57, .slice a86 (List.length r77) c87), (58, I aRound), (59, I aM), (60, .slice a97 (List.length r88) c98)] 5 rfl rfl ?_
  have ex101 := ((ex73.ext x80).ext x91)
  have ex102 := (ex84.ext x91)
  refine LP_call 5 rfl rfl rfl cal_64 rfl (impl_SumPresent_w _ _ _ _ _ _ H wx90 o72.readf ex101 o83.readf ex102 o94.readf ex95) ?_
  rintro _ wx103 ⟨r99, r100, vx105, hx106, H, rfl, x104, o107, ex108, f109⟩
  obtain ⟨a110, c111, rfl⟩ := o107.shape
  refine LP_ev ok 6 [(55, .tuple #[.slice a110 (List.length r99) c111, .bool r100]), (62, .slice a110 (List.length r99) c111), (63, .bool r100), (17, .slice a110 (List.length r99) c111), (18, .bool r100)] 11 rfl rfl ?_
  refine LP_end _ rfl ?_
  refine W_seq ?_
  obtain ⟨k, hk, H⟩ := jn_elim H
  refine W_join2 (S := Bool) (fun s ρ' w' => k s ∧ ∃ (ρ : Env), ρ' = setAll [(0, .slice a (List.length aSeeds) c), (1, .slice a5 (List.length aPresent) c6), (2, I aRound), (3, I aM), (4, .slice a11 (List.length aShares) c12), (12, .slice a64 (List.length r53) c65), (13, .bool r54), (14, .slice a75 (List.length r66) c76), (15, .slice a86 (List.length r77) c87), (16, .slice a97 (List.length r88) c98), (17, .slice a110 (List.length r99) c111), (18, .bool r100), (72, .bool s)] ρ ∧ But emp w w' ∧ Sub hx w' ∧ Sub hx2 w' ∧ Sub hx8 w' ∧ Sub hx60 w' ∧ Sub hx71 w' ∧ Sub hx82 w' ∧ Sub hx93 w' ∧ Sub hx106 w') ?_ ?_
  · refine W_region ?_
    refine LP_ev ok 0 [(64, .slice a110 (List.length r99) c111), (65, .slice a64 (List.length r53) c65)] 2 rfl rfl ?_
    have ex124 := ((((ex62.ext x69).ext x80).ext x91).ext x104)
    refine LP_call 2 rfl rfl rfl cal_22 rfl (laws_eqIntS_w _ _ _ H wx103 o107.readf ex108 o61.readf ex124) ?_
    rintro _ wx125 ⟨r123, H, rfl, x126⟩
    refine LP_ev ok 3 [(67, .bool (!r123)), (68, .bool (!r123))] 5 rfl rfl ?_
    refine LP_split 68 (!r123) rfl (fun hc127 => ?_) (fun hc127 => ?_)
    · have H := H.1 hc127
      refine LP_ev ok 5 [(69, undef), (70, undef), (71, undef), (72, .bool true)] 9 rfl rfl ?_
      refine LP_end _ rfl ?_
      try refine W_forget [(0, .slice a (List.length aSeeds) c), (1, .slice a5 (List.length aPresent) c6), (2, I aRound), (3, I aM), (4, .slice a11 (List.length aShares) c12), (12, .slice a64 (List.length r53) c65), (13, .bool r54), (14, .slice a75 (List.length r66) c76), (15, .slice a86 (List.length r77) c87), (16, .slice a97 (List.length r88) c98), (17, .slice a110 (List.length r99) c111), (18, .bool r100), (72, .bool true)] ⟨rfl, rfl, rfl, rfl, rfl, rfl, rfl, rfl, rfl, rfl, rfl, rfl, rfl, trivial⟩ fun ρ => ?_
      have X128 := (((((((((((X.stepx x).stepx x19).stepx x25).stepx x34).stepx x45).stepx x58).stepx x69).stepx x80).stepx x91).stepx x104).stepx x126)
      have ex129 := (((((ex67.ext x69).ext x80).ext x91).ext x104).ext x126)
      have ex130 := ((((ex78.ext x80).ext x91).ext x104).ext x126)
      have ex131 := (((ex89.ext x91).ext x104).ext x126)
      have ex132 := (ex124.ext x126)
      have ex133 := ((ex101.ext x104).ext x126)
      have ex134 := ((ex102.ext x104).ext x126)
      have ex135 := ((ex95.ext x104).ext x126)
      have ex136 := (ex108.ext x126)
      exact ⟨true, H, _, env_eq ⟨rfl, rfl, rfl, rfl, rfl, rfl, rfl, rfl, rfl, rfl, rfl, rfl, rfl, trivial⟩, X128, ex129, ex130, ex131, ex132, ex133, ex134, ex135, ex136⟩
    have H := H.2 hc127
    refine LP_ev ok 5 [(69, .bool r100), (70, .bool r54), (71, .bool (r100 != r54)), (72, .bool (r100 != r54))] 9 rfl rfl ?_
    refine LP_end _ rfl ?_
    try refine W_forget [(0, .slice a (List.length aSeeds) c), (1, .slice a5 (List.length aPresent) c6), (2, I aRound), (3, I aM), (4, .slice a11 (List.length aShares) c12), (12, .slice a64 (List.length r53) c65), (13, .bool r54), (14, .slice a75 (List.length r66) c76), (15, .slice a86 (List.length r77) c87), (16, .slice a97 (List.length r88) c98), (17, .slice a110 (List.length r99) c111), (18, .bool r100), (72, .bool (r100 != r54))] ⟨rfl, rfl, rfl, rfl, rfl, rfl, rfl, rfl, rfl, rfl, rfl, rfl, rfl, trivial⟩ fun ρ => ?_
    have X137 := (((((((((((X.stepx x).stepx x19).stepx x25).stepx x34).stepx x45).stepx x58).stepx x69).stepx x80).stepx x91).stepx x104).stepx x126)
    have ex138 := (((((ex67.ext x69).ext x80).ext x91).ext x104).ext x126)
    have ex139 := ((((ex78.ext x80).ext x91).ext x104).ext x126)
    have ex140 := (((ex89.ext x91).ext x104).ext x126)
    have ex141 := (ex124.ext x126)
    have ex142 := ((ex101.ext x104).ext x126)
    have ex143 := ((ex102.ext x104).ext x126)
    have ex144 := ((ex95.ext x104).ext x126)
    have ex145 := (ex108.ext x126)
    exact ⟨r100 != r54, H, _, env_eq ⟨rfl, rfl, rfl, rfl, rfl, rfl, rfl, rfl, rfl, rfl, rfl, rfl, rfl, trivial⟩, X137, ex138, ex139, ex140, ex141, ex142, ex143, ex144, ex145⟩
  rintro x112 _ wx113 ⟨H, ρ, rfl, X122, ex114, ex115, ex116, ex117, ex118, ex119, ex120, ex121⟩
  subst hk
  refine W_cond (x112) rfl (fun hc146 => ?_) (fun hc146 => ?_)
  · have H := H.1 hc146
    refine W_seq ?_
    refine W_region ?_
    refine LP_ev ok 0 [(10, .bool false)] 1 rfl rfl ?_
    refine LP_end _ rfl ?_
    refine W_ret ?_
    exact ⟨_, Ret_of [.bool false] ⟨⟨rfl, rfl⟩, trivial⟩, _, H, rfl, X122.ext⟩
  have H := H.2 hc146
  refine W_skip ?_
  refine W_seq ?_
  refine W_seq ?_
  refine W_region ?_
  refine LP_ev ok 0 [(73, .slice a75 (List.length r66) c76), (74, .slice a (List.length aSeeds) c)] 2 rfl rfl ?_
  refine LP_call 2 rfl rfl rfl cal_41 rfl (laws_toIntSS_w _ _ H wx113 r ex114) ?_
  rintro _ wx148 ⟨r147, vx150, hx151, H, rfl, x149, o152, ex153, f154⟩
  obtain ⟨a155, c156, rfl⟩ := o152.shape
  have ex158 := (ex118.ext x149)
  refine LP_call 3 rfl rfl rfl cal_43 rfl (laws_eqIntSS_w _ _ _ H wx148 o72.readf ex158 o152.readf ex153) ?_
  rintro _ wx159 ⟨r157, H, rfl, x160⟩
  refine LP_ev ok 4 [(77, .bool (!r157))] 5 rfl rfl ?_
  refine LP_end _ rfl ?_
  refine W_cond (!r157) rfl (fun hc161 => ?_) (fun hc161 => ?_)
  · have H := H.1 hc161
    refine W_seq ?_
    refine W_region ?_
    refine LP_ev ok 0 [(10, .bool false)] 1 rfl rfl ?_
    refine LP_end _ rfl ?_
    refine W_ret ?_
    have X162 := ((X122.stepx x149).stepx x160)
    exact ⟨_, Ret_of [.bool false] ⟨⟨rfl, rfl⟩, trivial⟩, _, H, rfl, X162.ext⟩
  have H := H.2 hc161
  refine W_skip ?_
  refine W_seq ?_
  refine W_seq ?_
  refine W_region ?_
  refine LP_ev ok 0 [(78, .slice a86 (List.length r77) c87), (79, .slice a5 (List.length aPresent) c6)] 2 rfl rfl ?_
  have ex164 := ((ex115.ext x149).ext x160)
  refine LP_call 2 rfl rfl rfl cal_26 rfl (laws_toIntS_w _ _ H wx159 r3 ex164) ?_
  rintro _ wx165 ⟨r163, vx167, hx168, H, rfl, x166, o169, ex170, f171⟩
  obtain ⟨a172, c173, rfl⟩ := o169.shape
  have ex175 := (((ex119.ext x149).ext x160).ext x166)
  refine LP_call 3 rfl rfl rfl cal_22 rfl (laws_eqIntS_w _ _ _ H wx165 o83.readf ex175 o169.readf ex170) ?_
  rintro _ wx176 ⟨r174, H, rfl, x177⟩
  refine LP_ev ok 4 [(82, .bool (!r174))] 5 rfl rfl ?_
  refine LP_end _ rfl ?_
  refine W_cond (!r174) rfl (fun hc178 => ?_) (fun hc178 => ?_)
  · have H := H.1 hc178
    refine W_seq ?_
    refine W_region ?_
    refine LP_ev ok 0 [(10, .bool false)] 1 rfl rfl ?_
    refine LP_end _ rfl ?_
    refine W_ret ?_
    have X179 := ((((X122.stepx x149).stepx x160).stepx x166).stepx x177)
    exact ⟨_, Ret_of [.bool false] ⟨⟨rfl, rfl⟩, trivial⟩, _, H, rfl, X179.ext⟩
  have H := H.2 hc178
  refine W_skip ?_
  refine W_seq ?_
  refine W_seq ?_
  refine W_region ?_
  refine LP_ev ok 0 [(83, .slice a97 (List.length r88) c98), (84, .slice a11 (List.length aShares) c12)] 2 rfl rfl ?_
  have ex181 := ((((ex116.ext x149).ext x160).ext x166).ext x177)
  refine LP_call 2 rfl rfl rfl cal_41 rfl (laws_toIntSS_w _ _ H wx176 r9 ex181) ?_
  rintro _ wx182 ⟨r180, vx184, hx185, H, rfl, x183, o186, ex187, f188⟩
  obtain ⟨a189, c190, rfl⟩ := o186.shape
  have ex192 := (((((ex120.ext x149).ext x160).ext x166).ext x177).ext x183)
  refine LP_call 3 rfl rfl rfl cal_43 rfl (laws_eqIntSS_w _ _ _ H wx182 o94.readf ex192 o186.readf ex187) ?_
  rintro _ wx193 ⟨r191, H, rfl, x194⟩
  refine LP_ev ok 4 [(87, .bool (!r191))] 5 rfl rfl ?_
  refine LP_end _ rfl ?_
  refine W_cond (!r191) rfl (fun hc195 => ?_) (fun hc195 => ?_)
  · have H := H.1 hc195
    refine W_seq ?_
    refine W_region ?_
    refine LP_ev ok 0 [(10, .bool false)] 1 rfl rfl ?_
    refine LP_end _ rfl ?_
    refine W_ret ?_
    have X196 := ((((((X122.stepx x149).stepx x160).stepx x166).stepx x177).stepx x183).stepx x194)
    exact ⟨_, Ret_of [.bool false] ⟨⟨rfl, rfl⟩, trivial⟩, _, H, rfl, X196.ext⟩
  have H := H.2 hc195
  refine W_skip ?_
  refine W_seq ?_
  refine W_region ?_
  refine LP_ev ok 0 [(19, I 1)] 1 rfl rfl ?_
  refine LP_end _ rfl ?_
  refine W_seq ?_
  refine W_region ?_
  refine LP_ev ok 0 [(88, .slice a75 (List.length r66) c76), (89, I 1)] 2 rfl rfl ?_
  have ex199 := (((((ex158.ext x160).ext x166).ext x177).ext x183).ext x194)
  refine LP_call 2 rfl rfl rfl cal_44 rfl (laws_markIntSS_w _ _ _ H wx193 o72 ex199) ?_
  rintro _ wx200 ⟨r197, r198, hx202, H, rfl, x201, o203, ex204, dm⟩
  refine LP_ev ok 3 [(19, I r197)] 4 rfl rfl ?_
  refine LP_end _ rfl ?_
  refine W_seq ?_
  refine W_region ?_
  refine LP_ev ok 0 [(91, .slice a86 (List.length r77) c87), (92, I r197)] 2 rfl rfl ?_
  have ex209 := ((((ex175.ext x177).ext x183).ext x194).but x201 (Dj.of_fresh ex73 f85))
  refine LP_call 2 rfl rfl rfl cal_23 rfl (laws_markIntS_w _ _ _ H wx200 o83 ex209) ?_
  rintro _ wx210 ⟨r207, r208, hx212, H, rfl, x211, o213, ex214, dm215⟩
  refine LP_ev ok 3 [(19, I r207)] 4 rfl rfl ?_
  refine LP_end _ rfl ?_
  refine W_seq ?_
  refine W_region ?_
  refine LP_ev ok 0 [(94, .slice a97 (List.length r88) c98), (95, I r207)] 2 rfl rfl ?_
  have ex221 := (ex73.ext x80)
  have ex222 := (((ex192.ext x194).but x201 (Dj.of_fresh ex221 f96)).but x211 (Dj.of_fresh ex84 f96))
  refine LP_call 2 rfl rfl rfl cal_44 rfl (laws_markIntSS_w _ _ _ H wx210 o94 ex222) ?_
  rintro _ wx223 ⟨r219, r220, hx225, H, rfl, x224, o226, ex227, dm228⟩
  refine LP_ev ok 3 [(19, I r219)] 4 rfl rfl ?_
  refine LP_end _ rfl ?_
  try refine W_forget [(0, .slice a (List.length aSeeds) c), (1, .slice a5 (List.length aPresent) c6), (2, I aRound), (3, I aM), (4, .slice a11 (List.length aShares) c12), (12, .slice a64 (List.length r53) c65), (13, .bool r54), (17, .slice a110 (List.length r99) c111), (18, .bool r100), (19, I r219)] ⟨rfl, rfl, rfl, rfl, rfl, rfl, rfl, rfl, rfl, rfl, trivial⟩ fun ρ => ?_
  refine W_seq ?_
  obtain ⟨k240, hk241, H⟩ := jn_elim H
  refine W_join2 (S := Bool) (fun s ρ' w' => k240 s ∧ ∃ (ρ : Env), ρ' = setAll [(0, .slice a (List.length aSeeds) c), (1, .slice a5 (List.length aPresent) c6), (2, I aRound), (3, I aM), (4, .slice a11 (List.length aShares) c12), (12, .slice a64 (List.length r53) c65), (13, .bool r54), (17, .slice a110 (List.length r99) c111), (109, .bool s)] ρ ∧ But emp w w' ∧ Sub hx w' ∧ Sub hx2 w' ∧ Sub hx8 w' ∧ Sub hx60 w' ∧ Sub hx106 w') ?_ ?_
  · refine W_region ?_
    refine LP_ev ok 0 [(97, I r219), (98, .bool (decide (r219 < 0))), (99, .bool (decide (r219 < 0)))] 3 rfl rfl ?_
    refine LP_split 99 (decide (r219 < 0)) rfl (fun hc242 => ?_) (fun hc242 => ?_)
    · have H := H.1 hc242
      refine LP_ev ok 3 [(100, undef), (101, undef), (102, undef), (103, undef), (104, .bool true), (105, .bool true), (106, undef), (107, undef), (108, undef), (109, .bool true)] 13 rfl rfl ?_
      refine LP_end _ rfl ?_
      have X244 := ((((((X.stepx x).stepx x19).stepx x25).stepx x34).stepx x45).stepx x58)
      have f243 := f74.mono X244.size
      have X246 := (X244.stepx x69)
      have f245 := f85.mono X246.size
      have X248 := (X246.stepx x80)
      have f247 := f96.mono X248.size
      have X249 := (((((((((X122.stepx x149).stepx x160).stepx x166).stepx x177).stepx x183).stepx x194).step x201 (f243.dom _)).step x211 (f245.dom _)).step x224 (f247.dom _))
      have ex250 := (ex67.ext x69)
      have ex251 := (ex250.ext x80)
      have ex252 := (((((((((ex114.ext x149).ext x160).ext x166).ext x177).ext x183).ext x194).but x201 (Dj.of_fresh ex67 f74).symm).but x211 (Dj.of_fresh ex250 f85).symm).but x224 (Dj.of_fresh ex251 f96).symm)
      have ex253 := (((ex32.ext x34).ext x45).ext x58)
      have ex254 := (ex78.ext x80)
      have ex255 := (((((((ex164.ext x166).ext x177).ext x183).ext x194).but x201 (Dj.of_fresh ex253 f74).symm).but x211 (Dj.of_fresh ex78 f85).symm).but x224 (Dj.of_fresh ex254 f96).symm)
      have ex256 := ((ex43.ext x45).ext x58)
      have ex257 := (ex256.ext x69)
      have ex258 := (((((ex181.ext x183).ext x194).but x201 (Dj.of_fresh ex256 f74).symm).but x211 (Dj.of_fresh ex257 f85).symm).but x224 (Dj.of_fresh ex89 f96).symm)
      have ex259 := (ex62.ext x69)
      have ex260 := (ex259.ext x80)
      have ex261 := (((((((((ex117.ext x149).ext x160).ext x166).ext x177).ext x183).ext x194).but x201 (Dj.of_fresh ex62 f74).symm).but x211 (Dj.of_fresh ex259 f85).symm).but x224 (Dj.of_fresh ex260 f96).symm)
      have ex262 := (((((((((ex121.ext x149).ext x160).ext x166).ext x177).ext x183).ext x194).but x201 (Dj.of_fresh ex101 f109)).but x211 (Dj.of_fresh ex102 f109)).but x224 (Dj.of_fresh ex95 f109))
      exact ⟨true, H, _, env_eq ⟨rfl, rfl, rfl, rfl, rfl, rfl, rfl, rfl, rfl, trivial⟩, X249, ex252, ex255, ex258, ex261, ex262⟩
    have H := H.2 hc242
    refine LP_ev ok 3 [(100, .slice a110 (List.length r99) c111), (101, .slice a64 (List.length r53) c65)] 5 rfl rfl ?_
    have ex264 := (((((((((ex121.ext x149).ext x160).ext x166).ext x177).ext x183).ext x194).but x201 (Dj.of_fresh ex101 f109)).but x211 (Dj.of_fresh ex102 f109)).but x224 (Dj.of_fresh ex95 f109))
    have ex265 := (ex62.ext x69)
    have ex266 := (ex265.ext x80)
    have ex267 := (((((((((ex117.ext x149).ext x160).ext x166).ext x177).ext x183).ext x194).but x201 (Dj.of_fresh ex62 f74).symm).but x211 (Dj.of_fresh ex265 f85).symm).but x224 (Dj.of_fresh ex266 f96).symm)
    refine LP_call 5 rfl rfl rfl cal_22 rfl (laws_eqIntS_w _ _ _ H wx223 o107.readf ex264 o61.readf ex267) ?_
    rintro _ wx268 ⟨r263, H, rfl, x269⟩
    refine LP_ev ok 6 [(103, .bool (!r263)), (104, .bool (!r263)), (105, .bool (!r263))] 9 rfl rfl ?_
    refine LP_split 105 (!r263) rfl (fun hc270 => ?_) (fun hc270 => ?_)
    · have H := H.1 hc270
      refine LP_ev ok 9 [(106, undef), (107, undef), (108, undef), (109, .bool true)] 13 rfl rfl ?_
      refine LP_end _ rfl ?_
      have X272 := ((((((X.stepx x).stepx x19).stepx x25).stepx x34).stepx x45).stepx x58)
      have f271 := f74.mono X272.size
      have X274 := (X272.stepx x69)
      have f273 := f85.mono X274.size
      have X276 := (X274.stepx x80)
      have f275 := f96.mono X276.size
      have X277 := ((((((((((X122.stepx x149).stepx x160).stepx x166).stepx x177).stepx x183).stepx x194).step x201 (f271.dom _)).step x211 (f273.dom _)).step x224 (f275.dom _)).stepx x269)
      have ex278 := (ex67.ext x69)
      have ex279 := (ex278.ext x80)
      have ex280 := ((((((((((ex114.ext x149).ext x160).ext x166).ext x177).ext x183).ext x194).but x201 (Dj.of_fresh ex67 f74).symm).but x211 (Dj.of_fresh ex278 f85).symm).but x224 (Dj.of_fresh ex279 f96).symm).ext x269)
      have ex281 := (((ex32.ext x34).ext x45).ext x58)
      have ex282 := (ex78.ext x80)
      have ex283 := ((((((((ex164.ext x166).ext x177).ext x183).ext x194).but x201 (Dj.of_fresh ex281 f74).symm).but x211 (Dj.of_fresh ex78 f85).symm).but x224 (Dj.of_fresh ex282 f96).symm).ext x269)
      have ex284 := ((ex43.ext x45).ext x58)
      have ex285 := (ex284.ext x69)
      have ex286 := ((((((ex181.ext x183).ext x194).but x201 (Dj.of_fresh ex284 f74).symm).but x211 (Dj.of_fresh ex285 f85).symm).but x224 (Dj.of_fresh ex89 f96).symm).ext x269)
      have ex287 := (ex267.ext x269)
      have ex288 := (ex264.ext x269)
      exact ⟨true, H, _, env_eq ⟨rfl, rfl, rfl, rfl, rfl, rfl, rfl, rfl, rfl, trivial⟩, X277, ex280, ex283, ex286, ex287, ex288⟩
    have H := H.2 hc270
    refine LP_ev ok 9 [(106, .bool r100), (107, .bool r54), (108, .bool (r100 != r54)), (109, .bool (r100 != r54))] 13 rfl rfl ?_
    refine LP_end _ rfl ?_
    have X290 := ((((((X.stepx x).stepx x19).stepx x25).stepx x34).stepx x45).stepx x58)
    have f289 := f74.mono X290.size
    have X292 := (X290.stepx x69)
    have f291 := f85.mono X292.size
    have X294 := (X292.stepx x80)
    have f293 := f96.mono X294.size
    have X295 := ((((((((((X122.stepx x149).stepx x160).stepx x166).stepx x177).stepx x183).stepx x194).step x201 (f289.dom _)).step x211 (f291.dom _)).step x224 (f293.dom _)).stepx x269)
    have ex296 := (ex67.ext x69)
    have ex297 := (ex296.ext x80)
    have ex298 := ((((((((((ex114.ext x149).ext x160).ext x166).ext x177).ext x183).ext x194).but x201 (Dj.of_fresh ex67 f74).symm).but x211 (Dj.of_fresh ex296 f85).symm).but x224 (Dj.of_fresh ex297 f96).symm).ext x269)
    have ex299 := (((ex32.ext x34).ext x45).ext x58)
    have ex300 := (ex78.ext x80)
    have ex301 := ((((((((ex164.ext x166).ext x177).ext x183).ext x194).but x201 (Dj.of_fresh ex299 f74).symm).but x211 (Dj.of_fresh ex78 f85).symm).but x224 (Dj.of_fresh ex300 f96).symm).ext x269)
    have ex302 := ((ex43.ext x45).ext x58)
    have ex303 := (ex302.ext x69)
    have ex304 := ((((((ex181.ext x183).ext x194).but x201 (Dj.of_fresh ex302 f74).symm).but x211 (Dj.of_fresh ex303 f85).symm).but x224 (Dj.of_fresh ex89 f96).symm).ext x269)
    have ex305 := (ex267.ext x269)
    have ex306 := (ex264.ext x269)
    exact ⟨r100 != r54, H, _, env_eq ⟨rfl, rfl, rfl, rfl, rfl, rfl, rfl, rfl, rfl, trivial⟩, X295, ex298, ex301, ex304, ex305, ex306⟩
  rintro x232 _ wx233 ⟨H, ρ, rfl, X239, ex234, ex235, ex236, ex237, ex238⟩
  subst hk241
  refine W_cond (x232) rfl (fun hc307 => ?_) (fun hc307 => ?_)
  · have H := H.1 hc307
    refine W_seq ?_
    refine W_region ?_
    refine LP_ev ok 0 [(10, .bool false)] 1 rfl rfl ?_
    refine LP_end _ rfl ?_
    refine W_ret ?_
    exact ⟨_, Ret_of [.bool false] ⟨⟨rfl, rfl⟩, trivial⟩, _, H, rfl, X239.ext⟩
  have H := H.2 hc307
  refine W_skip ?_
  refine W_seq ?_
  refine W_region ?_
  refine LP_ev ok 0 [(20, I 1)] 1 rfl rfl ?_
  refine LP_end _ rfl ?_
  refine W_seq ?_
  refine W_region ?_
  refine LP_ev ok 0 [(110, .slice a110 (List.length r99) c111), (111, I 1)] 2 rfl rfl ?_
  refine LP_call 2 rfl rfl rfl cal_23 rfl (laws_markIntS_w _ _ _ H wx233 o107 ex238) ?_
  rintro _ wx310 ⟨r308, r309, hx312, H, rfl, x311, o313, ex314, dm315⟩
  refine LP_ev ok 3 [(20, I r308)] 4 rfl rfl ?_
  refine LP_end _ rfl ?_
  refine W_seq ?_
  refine W_region ?_
  refine LP_ev ok 0 [(21, I 1)] 1 rfl rfl ?_
  refine LP_end _ rfl ?_
  refine W_seq ?_
  refine W_region ?_
  refine LP_ev ok 0 [(113, .slice a110 (List.length r99) c111), (114, I 1)] 2 rfl rfl ?_
  refine LP_call 2 rfl rfl rfl cal_24 rfl (laws_heldIntS_w _ _ _ H wx310 o313.readf ex314) ?_
  rintro _ wx320 ⟨r319, H, rfl, x321⟩
  refine LP_ev ok 3 [(21, I r319)] 4 rfl rfl ?_
  refine LP_end _ rfl ?_
  refine W_seq ?_
  refine W_seq ?_
  refine W_region ?_
  refine LP_ev ok 0 [(116, I r319), (117, .bool (decide (r319 < 0)))] 2 rfl rfl ?_
  refine LP_end _ rfl ?_
  refine W_cond (decide (r319 < 0)) rfl (fun hc322 => ?_) (fun hc322 => ?_)
  · have H := H.1 hc322
    refine W_seq ?_
    refine W_region ?_
    refine LP_ev ok 0 [(10, .bool false)] 1 rfl rfl ?_
    refine LP_end _ rfl ?_
    refine W_ret ?_
    have X324 := (((((((((X.stepx x).stepx x19).stepx x25).stepx x34).stepx x45).stepx x58).stepx x69).stepx x80).stepx x91)
    have f323 := f109.mono X324.size
    have X325 := ((X239.step x311 (f323.dom _)).stepx x321)
    exact ⟨_, Ret_of [.bool false] ⟨⟨rfl, rfl⟩, trivial⟩, _, H, rfl, X325.ext⟩
  have H := H.2 hc322
  refine W_skip ?_
  refine W_seq ?_
  refine W_seq ?_
  refine W_region ?_
  refine LP_ev ok 0 [(118, I r319), (119, I r308), (120, .bool (r319 != r308))] 3 rfl rfl ?_
  refine LP_end _ rfl ?_
  refine W_cond (r319 != r308) rfl (fun hc326 => ?_) (fun hc326 => ?_)
  · have H := H.1 hc326
    refine W_seq ?_
    refine W_region ?_
    refine LP_ev ok 0 [(10, .bool false)] 1 rfl rfl ?_
    refine LP_end _ rfl ?_
    refine W_ret ?_
    have X328 := (((((((((X.stepx x).stepx x19).stepx x25).stepx x34).stepx x45).stepx x58).stepx x69).stepx x80).stepx x91)
    have f327 := f109.mono X328.size
    have X329 := ((X239.step x311 (f327.dom _)).stepx x321)
    exact ⟨_, Ret_of [.bool false] ⟨⟨rfl, rfl⟩, trivial⟩, _, H, rfl, X329.ext⟩
  have H := H.2 hc326
  refine W_skip ?_
  refine W_seq ?_
  refine W_region ?_
  refine LP_ev ok 0 [(122, .slice a (List.length aSeeds) c)] 1 rfl rfl ?_
  have ex331 := (((ex67.ext x69).ext x80).ext x91)
  have ex332 := ((ex234.but x311 (Dj.of_fresh ex331 f109).symm).ext x321)
  refine LP_call 1 rfl rfl rfl cal_41 rfl (laws_toIntSS_w _ _ H wx320 r ex332) ?_
  rintro _ wx333 ⟨r330, vx335, hx336, H, rfl, x334, o337, ex338, f339⟩
  obtain ⟨a340, c341, rfl⟩ := o337.shape
  refine LP_ev ok 2 [(124, .slice a5 (List.length aPresent) c6)] 3 rfl rfl ?_
  have ex343 := ((ex78.ext x80).ext x91)
  have ex344 := (((ex235.but x311 (Dj.of_fresh ex343 f109).symm).ext x321).ext x334)
  refine LP_call 3 rfl rfl rfl cal_26 rfl (laws_toIntS_w _ _ H wx333 r3 ex344) ?_
  rintro _ wx345 ⟨r342, vx347, hx348, H, rfl, x346, o349, ex350, f351⟩
  obtain ⟨a352, c353, rfl⟩ := o349.shape
  refine LP_ev ok 4 [(126, I aRound), (127, I aM), (128, .slice a11 (List.length aShares) c12)] 7 rfl rfl ?_
  have ex355 := (ex89.ext x91)
  have ex356 := ((((ex236.but x311 (Dj.of_fresh ex355 f109).symm).ext x321).ext x334).ext x346)
  refine LP_call 7 rfl rfl rfl cal_41 rfl (laws_toIntSS_w _ _ H wx345 r9 ex356) ?_
  rintro _ wx357 ⟨r354, vx359, hx360, H, rfl, x358, o361, ex362, f363⟩
  obtain ⟨a364, c365, rfl⟩ := o361.shape
  have ex368 := ((ex338.ext x346).ext x358)
  have ex369 := (ex350.ext x358)
  refine LP_call 8 rfl rfl rfl cal_64 rfl (impl_SumPresent_w _ _ _ _ _ _ H wx357 o337.readf ex368 o349.readf ex369 o361.readf ex362) ?_
  rintro _ wx370 ⟨r366, r367, vx372, hx373, H, rfl, x371, o374, ex375, f376⟩
  obtain ⟨a377, c378, rfl⟩ := o374.shape
  refine LP_ev ok 9 [(121, .tuple #[.slice a377 (List.length r366) c378, .bool r367]), (131, .slice a377 (List.length r366) c378), (132, .bool r367), (22, .slice a377 (List.length r366) c378), (23, .bool r367)] 14 rfl rfl ?_
  refine LP_end _ rfl ?_
  try refine W_forget [(12, .slice a64 (List.length r53) c65), (13, .bool r54), (17, .slice a110 (List.length r99) c111), (20, I r308), (22, .slice a377 (List.length r366) c378), (23, .bool r367)] ⟨rfl, rfl, rfl, rfl, rfl, rfl, trivial⟩ fun ρ => ?_
  refine W_seq ?_
  obtain ⟨k383, hk384, H⟩ := jn_elim H
  refine W_join2 (S := Bool) (fun s ρ' w' => k383 s ∧ ∃ (ρ : Env), ρ' = setAll [(17, .slice a110 (List.length r99) c111), (20, I r308), (141, .bool s)] ρ ∧ But emp w w' ∧ Sub hx312 w') ?_ ?_
  · refine W_region ?_
    refine LP_ev ok 0 [(133, .slice a377 (List.length r366) c378), (134, .slice a64 (List.length r53) c65)] 2 rfl rfl ?_
    have ex386 := (((ex62.ext x69).ext x80).ext x91)
    have ex387 := ((((((ex237.but x311 (Dj.of_fresh ex386 f109).symm).ext x321).ext x334).ext x346).ext x358).ext x371)
    refine LP_call 2 rfl rfl rfl cal_22 rfl (laws_eqIntS_w _ _ _ H wx370 o374.readf ex375 o61.readf ex387) ?_
    rintro _ wx388 ⟨r385, H, rfl, x389⟩
    refine LP_ev ok 3 [(136, .bool (!r385)), (137, .bool (!r385))] 5 rfl rfl ?_
    refine LP_split 137 (!r385) rfl (fun hc390 => ?_) (fun hc390 => ?_)
    · have H := H.1 hc390
      refine LP_ev ok 5 [(138, undef), (139, undef), (140, undef), (141, .bool true)] 9 rfl rfl ?_
      refine LP_end _ rfl ?_
      have X392 := (((((((((X.stepx x).stepx x19).stepx x25).stepx x34).stepx x45).stepx x58).stepx x69).stepx x80).stepx x91)
      have f391 := f109.mono X392.size
      have X393 := (((((((X239.step x311 (f391.dom _)).stepx x321).stepx x334).stepx x346).stepx x358).stepx x371).stepx x389)
      have ex394 := ((((((ex314.ext x321).ext x334).ext x346).ext x358).ext x371).ext x389)
      exact ⟨true, H, _, env_eq ⟨rfl, rfl, rfl, trivial⟩, X393, ex394⟩
    have H := H.2 hc390
    refine LP_ev ok 5 [(138, .bool r367), (139, .bool r54), (140, .bool (r367 != r54)), (141, .bool (r367 != r54))] 9 rfl rfl ?_
    refine LP_end _ rfl ?_
    have X396 := (((((((((X.stepx x).stepx x19).stepx x25).stepx x34).stepx x45).stepx x58).stepx x69).stepx x80).stepx x91)
    have f395 := f109.mono X396.size
    have X397 := (((((((X239.step x311 (f395.dom _)).stepx x321).stepx x334).stepx x346).stepx x358).stepx x371).stepx x389)
    have ex398 := ((((((ex314.ext x321).ext x334).ext x346).ext x358).ext x371).ext x389)
    exact ⟨r367 != r54, H, _, env_eq ⟨rfl, rfl, rfl, trivial⟩, X397, ex398⟩
  rintro x379 _ wx380 ⟨H, ρ, rfl, X382, ex381⟩
  subst hk384
  refine W_cond (x379) rfl (fun hc399 => ?_) (fun hc399 => ?_)
  · have H := H.1 hc399
    refine W_seq ?_
    refine W_region ?_
    refine LP_ev ok 0 [(10, .bool false)] 1 rfl rfl ?_
    refine LP_end _ rfl ?_
    refine W_ret ?_
    exact ⟨_, Ret_of [.bool false] ⟨⟨rfl, rfl⟩, trivial⟩, _, H, rfl, X382.ext⟩
  have H := H.2 hc399
  refine W_skip ?_
  refine W_seq ?_
  refine W_region ?_
  refine LP_ev ok 0 [(21, I 1)] 1 rfl rfl ?_
  refine LP_end _ rfl ?_
  refine W_seq ?_
  refine W_region ?_
  refine LP_ev ok 0 [(142, .slice a110 (List.length r99) c111), (143, I 1)] 2 rfl rfl ?_
  refine LP_call 2 rfl rfl rfl cal_24 rfl (laws_heldIntS_w _ _ _ H wx380 o313.readf ex381) ?_
  rintro _ wx401 ⟨r400, H, rfl, x402⟩
  refine LP_ev ok 3 [(21, I r400)] 4 rfl rfl ?_
  refine LP_end _ rfl ?_
  refine W_seq ?_
  refine W_seq ?_
  refine W_region ?_
  refine LP_ev ok 0 [(145, I r400), (146, .bool (decide (r400 < 0)))] 2 rfl rfl ?_
  refine LP_end _ rfl ?_
  refine W_cond (decide (r400 < 0)) rfl (fun hc403 => ?_) (fun hc403 => ?_)
  · have H := H.1 hc403
    refine W_seq ?_
    refine W_region ?_
    refine LP_ev ok 0 [(10, .bool false)] 1 rfl rfl ?_
    refine LP_end _ rfl ?_
    refine W_ret ?_
    have X404 := (X382.stepx x402)
    exact ⟨_, Ret_of [.bool false] ⟨⟨rfl, rfl⟩, trivial⟩, _, H, rfl, X404.ext⟩
  have H := H.2 hc403
  refine W_skip ?_
  refine W_seq ?_
  refine W_seq ?_
  refine W_region ?_
  refine LP_ev ok 0 [(147, I r400), (148, I r308), (149, .bool (r400 != r308))] 3 rfl rfl ?_
  refine LP_end _ rfl ?_
  refine W_cond (r400 != r308) rfl (fun hc405 => ?_) (fun hc405 => ?_)
  · have H := H.1 hc405
    refine W_seq ?_
    refine W_region ?_
    refine LP_ev ok 0 [(10, .bool false)] 1 rfl rfl ?_
    refine LP_end _ rfl ?_
    refine W_ret ?_
    have X406 := (X382.stepx x402)
    exact ⟨_, Ret_of [.bool false] ⟨⟨rfl, rfl⟩, trivial⟩, _, H, rfl, X406.ext⟩
  have H := H.2 hc405
  refine W_skip ?_
  refine W_seq ?_
  refine W_region ?_
  refine LP_ev ok 0 [(10, .bool true)] 1 rfl rfl ?_
  refine LP_end _ rfl ?_
  refine W_ret ?_
  have X407 := (X382.stepx x402)
  exact ⟨_, Ret_of [.bool true] ⟨⟨rfl, rfl⟩, trivial⟩, _, H, rfl, X407.ext⟩

set_option maxRecDepth 8000 in
set_option maxHeartbeats 4000000 in
theorem laws_big_w (code : List B8) (more : List B8) (Q : Bool → Prop) (H : laws_big code more Q) (w : World) {vx : Value} {hx : PH} (r : RS hx vx code) (ex : Sub hx w) {vx1 : Value} {hx2 : PH} (r3 : RS hx2 vx1 more) (ex4 : Sub hx2 w) :
    CallsTo Try.prog 69 #[vx, vx1] w fun v w' => ∃ r0, Q r0 ∧ v = .bool r0 ∧ Ext w w' := by
  obtain ⟨a, c, rfl⟩ := r.shape
  obtain ⟨a5, c6, rfl⟩ := r3.shape
  refine enter (args := [.slice a (List.length code) c, .slice a5 (List.length more) c6]) 16 Try.func69 rfl rfl rfl ?_
  refine W_forget [(0, .slice a (List.length code) c), (1, .slice a5 (List.length more) c6)] ⟨rfl, rfl, trivial⟩ fun ρ => ?_
  have X := But.refl emp w
  refine W_seq ?_
  refine W_region ?_
  refine LP_ev ok 0 [(4, .bool false)] 1 rfl rfl ?_
  refine LP_end _ rfl ?_
  obtain ⟨k, hk, H⟩ := jn_elim H
  refine W_join2 (S := Bool) (fun s ρ' w' => k s ∧ ∃ (ρ : Env), ρ' = setAll [(4, .bool s)] ρ ∧ w = w') ?_ ?_
  · refine W_region ?_
    refine LP_ev ok 0 [(5, .slice a (List.length code) c), (6, I (ln code)), (7, .bool (decide ((ln code) > 1048576))), (8, .bool (decide ((ln code) > 1048576)))] 4 rfl rfl ?_
    refine LP_split 8 (decide ((ln code) > 1048576)) rfl (fun hc => ?_) (fun hc => ?_)
    · have H := H.1 hc
      refine LP_ev ok 4 [(9, undef), (10, undef), (11, undef), (12, undef), (13, undef), (14, undef), (15, .bool true), (4, .bool true)] 12 rfl rfl ?_
      refine LP_end _ rfl ?_
      exact ⟨true, H, _, env_eq ⟨rfl, trivial⟩, rfl⟩
    have H := H.2 hc
    refine LP_ev ok 4 [(9, .slice a5 (List.length more) c6), (10, I (ln more)), (11, .slice a (List.length code) c), (12, I (ln code)), (13, I (wr (1048576 - (ln code)))), (14, .bool (decide ((ln more) > (wr (1048576 - (ln code)))))), (15, .bool (decide ((ln more) > (wr (1048576 - (ln code)))))), (4, .bool (decide ((ln more) > (wr (1048576 - (ln code))))))] 12 rfl rfl ?_
    refine LP_end _ rfl ?_
    exact ⟨decide ((ln more) > (wr (1048576 - (ln code)))), H, _, env_eq ⟨rfl, trivial⟩, rfl⟩
  rintro x _ _ ⟨H, ρ, rfl, rfl⟩
  subst hk
  refine W_ret ?_
  exact ⟨_, Ret_of [.bool x] ⟨⟨rfl, rfl⟩, trivial⟩, _, H, rfl, X.ext⟩

set_option maxRecDepth 8000 in
set_option maxHeartbeats 4000000 in
theorem spec_l1Cur_next_w (c : L1Cur) (Q : Int → Int → Int → Prop) (H : spec_l1Cur_next c Q) (w : World) {vx : Value} {hx : PH} (r : RS hx vx c.Code) (ex : Sub hx w) {b : Nat} (ex2 : Sub (bx b 114 [vx, I c.At, .int .u64 c.Seed]) w) (d : Dj (bx b 114 [vx, I c.At, .int .u64 c.Seed]) hx) :
    CallsTo Try.prog 153 #[.pointer (some ⟨b, 0, none⟩)] w fun v w' => ∃ r0 m0_1 m0_2, Q r0 m0_1 m0_2 ∧ v = I r0 ∧ But (bx b 114 [vx, I c.At, .int .u64 c.Seed]) w w' ∧ Sub (bx b 114 [vx, I m0_1, .int .u64 m0_2]) w' := by
  obtain ⟨a, c1, rfl⟩ := r.shape
  refine enter (args := [.pointer (some ⟨b, 0, none⟩)]) 62 Try.func153 rfl rfl rfl ?_
  refine W_forget [(0, .pointer (some ⟨b, 0, none⟩))] ⟨rfl, trivial⟩ fun ρ => ?_
  have X := But.refl (bx b 114 [.slice a (List.length c.Code) c1, I c.At, .int .u64 c.Seed]) w
  refine W_seq ?_
  refine W_region ?_
  refine LP_ev ok 0 [(2, I 0)] 1 rfl rfl ?_
  refine LP_end _ rfl ?_
  refine W_seq ?_
  refine W_region ?_
  refine LP_ev ok 0 [(3, I 0)] 1 rfl rfl ?_
  refine LP_end _ rfl ?_
  obtain ⟨k, hk, H⟩ := jn_elim H
  refine W_join2 (S := Int) (fun s ρ' w' => k s ∧ ∃ (ρ : Env), ρ' = setAll [(0, .pointer (some ⟨b, 0, none⟩)), (3, I s)] ρ ∧ But (bx b 114 [.slice a (List.length c.Code) c1, I c.At, .int .u64 c.Seed]) w w' ∧ Sub (bx b 114 [.slice a (List.length c.Code) c1, I c.At, .int .u64 c.Seed]) w') ?_ ?_
  · refine W_seq ?_
    refine W_quiet mix (by kernel_rfl) ?_
    refine QP_ev ok 0 [(4, .pointer (some ⟨b, 0, none⟩)), (5, .pointer (some ⟨b, 0, none⟩)), (6, .pointer (some ⟨b, 1, none⟩))] 3 rfl rfl ?_
    refine QP_ldbox 3 (v := I c.At) rfl rfl rfl ti_3 ag_3 (fun _ => rfl) rfl ex2 rfl rfl ?_
    refine QP_ev ok 4 [(8, .pointer (some ⟨b, 0, none⟩)), (9, .pointer (some ⟨b, 0, none⟩)), (10, .pointer (some ⟨b, 0, none⟩))] 7 rfl rfl ?_
    refine QP_ldbox 7 (v := .slice a (List.length c.Code) c1) rfl rfl rfl ti_71 ag_71 (fun _ => rfl) rfl ex2 rfl rfl ?_
    refine QP_ev ok 8 [(12, I (ln c.Code)), (13, .bool (decide (c.At < (ln c.Code))))] 10 rfl rfl ?_
    refine QP_end _ rfl fun wx6 x => ?_
    refine W_cond (decide (c.At < (ln c.Code))) rfl (fun hc => ?_) (fun hc => ?_)
    · have H := H.1 hc
      refine W_quiet mix (by kernel_rfl) ?_
      refine QP_ev ok 0 [(14, .pointer (some ⟨b, 0, none⟩)), (15, .pointer (some ⟨b, 0, none⟩)), (16, .pointer (some ⟨b, 0, none⟩))] 3 rfl rfl ?_
      have ex7 := (ex2.ext x)
      refine QP_ldbox 3 (v := .slice a (List.length c.Code) c1) rfl rfl rfl ti_71 ag_71 (fun _ => rfl) rfl ex7 rfl rfl ?_
      refine QP_ev ok 4 [(18, .pointer (some ⟨b, 0, none⟩)), (19, .pointer (some ⟨b, 0, none⟩)), (20, .pointer (some ⟨b, 1, none⟩))] 7 rfl rfl ?_
      refine QP_ldbox 7 (v := I c.At) rfl rfl rfl ti_3 ag_3 (fun _ => rfl) rfl ex7 rfl rfl ?_
      obtain ⟨x8, hi, hx9, H⟩ := H
      refine QP_index 8 rfl rfl rfl Try.underlying71 ti_5 rfl rfl r hi hx9 fun a10 cs r11 d12 => ?_
      have ex13 := (ex.ext x)
      refine QP_load 9 rfl rfl rfl ti_5 ag_5 rfl r11 d12 ex13 fun vx14 r15 => ?_
      obtain rfl := r15.b8
      refine QP_ev ok 10 [(24, I (wr (x8.v))), (3, I (wr (x8.v)))] 12 rfl rfl ?_
      refine QP_end _ rfl fun wx16 x17 => ?_
      have X18 := ((X.stepx x).stepx x17)
      have ex19 := (ex7.ext x17)
      exact ⟨wr (x8.v), H, _, env_eq ⟨rfl, rfl, trivial⟩, X18, ex19⟩
    have H := H.2 hc
    refine W_skip ?_
    have X20 := (X.stepx x)
    have ex21 := (ex2.ext x)
    exact ⟨0, H, _, env_eq ⟨rfl, rfl, trivial⟩, X20, ex21⟩
  rintro b3 _ wx ⟨H, ρ, rfl, X5, ex4⟩
  subst hk
  refine W_seq ?_
  refine W_region ?_
  refine LP_ev ok 0 [(25, .pointer (some ⟨b, 0, none⟩)), (26, .pointer (some ⟨b, 0, none⟩)), (27, .pointer (some ⟨b, 1, none⟩))] 3 rfl rfl ?_
  refine LP_ldbox 3 (v := I c.At) rfl rfl rfl ti_3 ag_3 (fun _ => rfl) rfl ex4 rfl rfl ?_
  refine LP_ev ok 4 [(29, I (wr (c.At + 1))), (30, .pointer (some ⟨b, 0, none⟩)), (31, .pointer (some ⟨b, 1, none⟩))] 7 rfl rfl ?_
  refine LP_stbox 7 (vs := [I (wr (c.At + 1))]) (cs' := [.slice a (List.length c.Code) c1, I (wr (c.At + 1)), .int .u64 c.Seed]) rfl rfl rfl ti_3 rfl rfl rfl rfl rfl ex4 rfl rfl fun wx22 ex23 y => ?_
  refine LP_end _ rfl ?_
  refine W_seq ?_
  refine W_region ?_
  refine LP_ev ok 0 [(32, .pointer (some ⟨b, 0, none⟩)), (33, .pointer (some ⟨b, 0, none⟩)), (34, .pointer (some ⟨b, 0, none⟩)), (35, .pointer (some ⟨b, 2, none⟩))] 4 rfl rfl ?_
  refine LP_ldbox 4 (v := .int .u64 c.Seed) rfl rfl rfl ti_112 ag_112 (fun _ => rfl) rfl ex23 rfl rfl ?_
  refine LP_ev ok 5 [(37, .int .u64 (IntKind.u64.wrap (c.Seed * 6364136223846793005))), (38, I b3), (39, .int .u64 (IntKind.u64.wrap (b3))), (40, .int .u64 (IntKind.u64.wrap ((IntKind.u64.wrap (c.Seed * 6364136223846793005)) + (IntKind.u64.wrap (b3))))), (41, .int .u64 (IntKind.u64.wrap ((IntKind.u64.wrap ((IntKind.u64.wrap (c.Seed * 6364136223846793005)) + (IntKind.u64.wrap (b3)))) + 1442695040888963407))), (42, .pointer (some ⟨b, 0, none⟩)), (43, .pointer (some ⟨b, 2, none⟩))] 12 rfl rfl ?_
  refine LP_stbox 12 (vs := [.int .u64 (IntKind.u64.wrap ((IntKind.u64.wrap ((IntKind.u64.wrap (c.Seed * 6364136223846793005)) + (IntKind.u64.wrap (b3)))) + 1442695040888963407))]) (cs' := [.slice a (List.length c.Code) c1, I (wr (c.At + 1)), .int .u64 (IntKind.u64.wrap ((IntKind.u64.wrap ((IntKind.u64.wrap (c.Seed * 6364136223846793005)) + (IntKind.u64.wrap (b3)))) + 1442695040888963407))]) rfl rfl rfl ti_112 rfl rfl rfl rfl rfl ex23 rfl rfl fun wx24 ex25 y26 => ?_
  refine LP_end _ rfl ?_
  refine W_seq ?_
  refine W_seq ?_
  refine W_quiet mix (by kernel_rfl) ?_
  refine QP_ev ok 0 [(44, .pointer (some ⟨b, 0, none⟩)), (45, .pointer (some ⟨b, 0, none⟩)), (46, .pointer (some ⟨b, 1, none⟩))] 3 rfl rfl ?_
  refine QP_ldbox 3 (v := I (wr (c.At + 1))) rfl rfl rfl ti_3 ag_3 (fun _ => rfl) rfl ex25 rfl rfl ?_
  refine QP_ev ok 4 [(48, .pointer (some ⟨b, 0, none⟩)), (49, .pointer (some ⟨b, 0, none⟩)), (50, .pointer (some ⟨b, 0, none⟩))] 7 rfl rfl ?_
  refine QP_ldbox 7 (v := .slice a (List.length c.Code) c1) rfl rfl rfl ti_71 ag_71 (fun _ => rfl) rfl ex25 rfl rfl ?_
  refine QP_ev ok 8 [(52, I (ln c.Code)), (53, .bool (decide ((wr (c.At + 1)) ≤ (ln c.Code))))] 10 rfl rfl ?_
  refine QP_end _ rfl fun wx27 x28 => ?_
  try refine W_forget [(0, .pointer (some ⟨b, 0, none⟩)), (3, I b3), (53, .bool (decide ((wr (c.At + 1)) ≤ (ln c.Code))))] ⟨rfl, rfl, rfl, trivial⟩ fun ρ => ?_
  refine W_cond (decide ((wr (c.At + 1)) ≤ (ln c.Code))) rfl (fun hc29 => ?_) (fun hc29 => ?_)
  · have H := H.1 hc29
    refine W_seq ?_
    refine W_region ?_
    refine LP_ev ok 0 [(54, I b3), (2, I b3)] 2 rfl rfl ?_
    refine LP_end _ rfl ?_
    refine W_ret ?_
    have ex30 := (ex25.ext x28)
    have X31 := (((X5.step y (single_dom : DomLe (bx b 114 [.slice a (List.length c.Code) c1, I c.At, .int .u64 c.Seed]) _ (bx b 114 [.slice a (List.length c.Code) c1, I c.At, .int .u64 c.Seed]))).step y26 (single_dom : DomLe (bx b 114 [.slice a (List.length c.Code) c1, I c.At, .int .u64 c.Seed]) _ (bx b 114 [.slice a (List.length c.Code) c1, I (wr (c.At + 1)), .int .u64 c.Seed]))).stepx x28)
    exact ⟨_, Ret_of [I b3] ⟨⟨rfl, rfl⟩, trivial⟩, _, _, _, H, rfl, X31, ex30⟩
  have H := H.2 hc29
  refine W_skip ?_
  refine W_seq ?_
  refine W_region ?_
  refine LP_ev ok 0 [(55, .pointer (some ⟨b, 0, none⟩)), (56, .pointer (some ⟨b, 0, none⟩)), (57, .pointer (some ⟨b, 2, none⟩))] 3 rfl rfl ?_
  have ex32 := (ex25.ext x28)
  refine LP_ldbox 3 (v := .int .u64 (IntKind.u64.wrap ((IntKind.u64.wrap ((IntKind.u64.wrap (c.Seed * 6364136223846793005)) + (IntKind.u64.wrap (b3)))) + 1442695040888963407))) rfl rfl rfl ti_112 ag_112 (fun _ => rfl) rfl ex32 rfl rfl ?_
  refine LP_ev ok 4 [(59, .int .u64 (Int.fdiv (IntKind.u64.wrap ((IntKind.u64.wrap ((IntKind.u64.wrap (c.Seed * 6364136223846793005)) + (IntKind.u64.wrap (b3)))) + 1442695040888963407)) (2 ^ 40))), (60, .int .u64 (bits .and .u64 (Int.fdiv (IntKind.u64.wrap ((IntKind.u64.wrap ((IntKind.u64.wrap (c.Seed * 6364136223846793005)) + (IntKind.u64.wrap (b3)))) + 1442695040888963407)) (2 ^ 40)) 255)), (61, I (wr (bits .and .u64 (Int.fdiv (IntKind.u64.wrap ((IntKind.u64.wrap ((IntKind.u64.wrap (c.Seed * 6364136223846793005)) + (IntKind.u64.wrap (b3)))) + 1442695040888963407)) (2 ^ 40)) 255))), (2, I (wr (bits .and .u64 (Int.fdiv (IntKind.u64.wrap ((IntKind.u64.wrap ((IntKind.u64.wrap (c.Seed * 6364136223846793005)) + (IntKind.u64.wrap (b3)))) + 1442695040888963407)) (2 ^ 40)) 255)))] 8 rfl rfl ?_
  refine LP_end _ rfl ?_
  refine W_ret ?_
  have X33 := (((X5.step y (single_dom : DomLe (bx b 114 [.slice a (List.length c.Code) c1, I c.At, .int .u64 c.Seed]) _ (bx b 114 [.slice a (List.length c.Code) c1, I c.At, .int .u64 c.Seed]))).step y26 (single_dom : DomLe (bx b 114 [.slice a (List.length c.Code) c1, I c.At, .int .u64 c.Seed]) _ (bx b 114 [.slice a (List.length c.Code) c1, I (wr (c.At + 1)), .int .u64 c.Seed]))).stepx x28)
  exact ⟨_, Ret_of [I (wr (bits .and .u64 (Int.fdiv (IntKind.u64.wrap ((IntKind.u64.wrap ((IntKind.u64.wrap (c.Seed * 6364136223846793005)) + (IntKind.u64.wrap (b3)))) + 1442695040888963407)) (2 ^ 40)) 255))] ⟨⟨rfl, rfl⟩, trivial⟩, _, _, _, H, rfl, X33, ex32⟩

set_option maxRecDepth 8000 in
set_option maxHeartbeats 4000000 in
theorem spec_l1Cur_pick_w (c : L1Cur) (n : Int) (Q : Int → Int → Int → Prop) (H : spec_l1Cur_pick c n Q) (w : World) {vx : Value} {hx : PH} (r : RS hx vx c.Code) (ex : Sub hx w) {b : Nat} (ex2 : Sub (bx b 114 [vx, I c.At, .int .u64 c.Seed]) w) (d : Dj (bx b 114 [vx, I c.At, .int .u64 c.Seed]) hx) :
    CallsTo Try.prog 130 #[.pointer (some ⟨b, 0, none⟩), I n] w fun v w' => ∃ r0 m0_1 m0_2, Q r0 m0_1 m0_2 ∧ v = I r0 ∧ But (bx b 114 [vx, I c.At, .int .u64 c.Seed]) w w' ∧ Sub (bx b 114 [vx, I m0_1, .int .u64 m0_2]) w' := by
  obtain ⟨a, c1, rfl⟩ := r.shape
  refine enter (args := [.pointer (some ⟨b, 0, none⟩), I n]) 20 Try.func130 rfl rfl rfl ?_
  refine W_forget [(0, .pointer (some ⟨b, 0, none⟩)), (1, I n)] ⟨rfl, rfl, trivial⟩ fun ρ => ?_
  have X := But.refl (bx b 114 [.slice a (List.length c.Code) c1, I c.At, .int .u64 c.Seed]) w
  refine W_seq ?_
  refine W_region ?_
  refine LP_ev ok 0 [(4, I 0)] 1 rfl rfl ?_
  refine LP_end _ rfl ?_
  refine W_seq ?_
  refine W_seq ?_
  refine W_region ?_
  refine LP_ev ok 0 [(6, I n), (7, .bool (decide (n ≤ 1)))] 2 rfl rfl ?_
  refine LP_end _ rfl ?_
  refine W_cond (decide (n ≤ 1)) rfl (fun hc => ?_) (fun hc => ?_)
  · have H := H.1 hc
    refine W_seq ?_
    refine W_region ?_
    refine LP_ev ok 0 [(4, I 0)] 1 rfl rfl ?_
    refine LP_end _ rfl ?_
    refine W_ret ?_
    exact ⟨_, Ret_of [I 0] ⟨⟨rfl, rfl⟩, trivial⟩, _, _, _, H, rfl, X, ex2⟩
  have H := H.2 hc
  refine W_skip ?_
  refine W_seq ?_
  refine W_region ?_
  refine LP_ev ok 0 [(8, .pointer (some ⟨b, 0, none⟩))] 1 rfl rfl ?_
  refine LP_call 1 rfl rfl rfl cal_153 rfl (spec_l1Cur_next_w _ _ H w r ex ex2 d) ?_
  rintro _ wx ⟨r3, r4, r5, H, rfl, x, ex6⟩
  refine LP_ev ok 2 [(5, I r3)] 3 rfl rfl ?_
  refine LP_end _ rfl ?_
  obtain ⟨k, hk, H⟩ := jn_elim H
  refine W_join2 (S := Int × Int × Int) (fun s ρ' w' => k s.1 s.2.1 s.2.2 ∧ ∃ (ρ : Env), ρ' = setAll [(1, I n), (5, I s.1)] ρ ∧ But (bx b 114 [.slice a (List.length c.Code) c1, I c.At, .int .u64 c.Seed]) w w' ∧ Sub hx w' ∧ Sub (bx b 114 [.slice a (List.length c.Code) c1, I s.2.1, .int .u64 s.2.2]) w') ?_ ?_
  · refine W_seq ?_
    refine W_region ?_
    refine LP_ev ok 0 [(10, I n), (11, .bool (decide (n > 200)))] 2 rfl rfl ?_
    refine LP_end _ rfl ?_
    refine W_cond (decide (n > 200)) rfl (fun hc14 => ?_) (fun hc14 => ?_)
    · have H := H.1 hc14
      refine W_region ?_
      refine LP_ev ok 0 [(12, I r3), (13, I (wr (r3 * 256))), (14, .pointer (some ⟨b, 0, none⟩))] 3 rfl rfl ?_
      have ex18 := (ex.but x d)
      refine LP_call 3 rfl rfl rfl cal_153 rfl (spec_l1Cur_next_w _ _ H wx r ex18 ex6 (Dj.box d)) ?_
      rintro _ wx19 ⟨r15, r16, r17, H, rfl, x20, ex21⟩
      refine LP_ev ok 4 [(16, I (wr ((wr (r3 * 256)) + r15))), (5, I (wr ((wr (r3 * 256)) + r15)))] 6 rfl rfl ?_
      refine LP_end _ rfl ?_
      have X25 := ((X.step x (single_dom : DomLe (bx b 114 [.slice a (List.length c.Code) c1, I c.At, .int .u64 c.Seed]) _ (bx b 114 [.slice a (List.length c.Code) c1, I c.At, .int .u64 c.Seed]))).step x20 (single_dom : DomLe (bx b 114 [.slice a (List.length c.Code) c1, I c.At, .int .u64 c.Seed]) _ (bx b 114 [.slice a (List.length c.Code) c1, I r4, .int .u64 r5])))
      have ex26 := (ex18.but x20 (Dj.box d))
      exact ⟨(wr ((wr (r3 * 256)) + r15), r16, r17), H, _, env_eq ⟨rfl, rfl, trivial⟩, X25, ex26, ex21⟩
    have H := H.2 hc14
    refine W_skip ?_
    have X27 := (X.step x (single_dom : DomLe (bx b 114 [.slice a (List.length c.Code) c1, I c.At, .int .u64 c.Seed]) _ (bx b 114 [.slice a (List.length c.Code) c1, I c.At, .int .u64 c.Seed])))
    have ex28 := (ex.but x d)
    exact ⟨(r3, r4, r5), H, _, env_eq ⟨rfl, rfl, trivial⟩, X27, ex28, ex6⟩
  rintro ⟨x9, atx, seed⟩ _ wx10 ⟨H, ρ, rfl, X13, ex11, ex12⟩
  subst hk
  refine W_seq ?_
  refine W_region ?_
  refine LP_ev ok 0 [(17, I x9), (18, I n)] 2 rfl rfl ?_
  obtain ⟨hz, H⟩ := H
  refine LP_val 2 _ rfl rfl (ex_rem rfl rfl rfl hz _) ?_
  refine LP_ev ok 3 [(4, I (Int.tmod x9 n))] 4 rfl rfl ?_
  refine LP_end _ rfl ?_
  refine W_ret ?_
  exact ⟨_, Ret_of [I (Int.tmod x9 n)] ⟨⟨rfl, rfl⟩, trivial⟩, _, _, _, H, rfl, X13, ex12⟩

set_option maxRecDepth 8000 in
set_option maxHeartbeats 4000000 in
theorem spec_l1Cur_among_w (c : L1Cur) (list : List Int) (Q : Int → Int → Int → Prop) (H : spec_l1Cur_among c list Q) (w : World) {vx : Value} {hx : PH} (r : RS hx vx c.Code) (ex : Sub hx w) {b : Nat} (ex2 : Sub (bx b 114 [vx, I c.At, .int .u64 c.Seed]) w) {vx3 : Value} {hx4 : PH} (r5 : RS hx4 vx3 list) (ex6 : Sub hx4 w) (d : Dj (bx b 114 [vx, I c.At, .int .u64 c.Seed]) hx) (d9 : Dj (bx b 114 [vx, I c.At, .int .u64 c.Seed]) hx4) :
    CallsTo Try.prog 135 #[.pointer (some ⟨b, 0, none⟩), vx3] w fun v w' => ∃ r0 m0_1 m0_2, Q r0 m0_1 m0_2 ∧ v = I r0 ∧ But (bx b 114 [vx, I c.At, .int .u64 c.Seed]) w w' ∧ Sub (bx b 114 [vx, I m0_1, .int .u64 m0_2]) w' := by
  obtain ⟨a, c1, rfl⟩ := r.shape
  obtain ⟨a7, c8, rfl⟩ := r5.shape
  refine enter (args := [.pointer (some ⟨b, 0, none⟩), .slice a7 (List.length list) c8]) 12 Try.func135 rfl rfl rfl ?_
  refine W_forget [(0, .pointer (some ⟨b, 0, none⟩)), (1, .slice a7 (List.length list) c8)] ⟨rfl, rfl, trivial⟩ fun ρ => ?_
  have X := But.refl (bx b 114 [.slice a (List.length c.Code) c1, I c.At, .int .u64 c.Seed]) w
  refine W_seq ?_
  refine W_region ?_
  refine LP_ev ok 0 [(4, I 0)] 1 rfl rfl ?_
  refine LP_end _ rfl ?_
  refine W_seq ?_
  refine W_region ?_
  refine LP_ev ok 0 [(5, .slice a7 (List.length list) c8), (6, .pointer (some ⟨b, 0, none⟩)), (7, .slice a7 (List.length list) c8), (8, I (ln list))] 4 rfl rfl ?_
  refine LP_call 4 rfl rfl rfl cal_130 rfl (spec_l1Cur_pick_w _ _ _ H w r ex ex2 d) ?_
  rintro _ wx ⟨r10, r11, r12, H, rfl, x, ex13⟩
  obtain ⟨x16, hi, hx17, H⟩ := H
  refine LP_index 5 rfl rfl rfl Try.underlying22 ti_3 rfl rfl r5 hi hx17 fun a18 cs r19 d20 => ?_
  have ex21 := (ex6.but x d9)
  refine LP_load 6 rfl rfl rfl ti_3 ag_3 rfl r19 d20 ex21 fun vx22 r23 => ?_
  obtain rfl := r23.int
  refine LP_ev ok 7 [(4, I x16)] 8 rfl rfl ?_
  refine LP_end _ rfl ?_
  refine W_ret ?_
  have X24 := (X.step x (single_dom : DomLe (bx b 114 [.slice a (List.length c.Code) c1, I c.At, .int .u64 c.Seed]) _ (bx b 114 [.slice a (List.length c.Code) c1, I c.At, .int .u64 c.Seed])))
  exact ⟨_, Ret_of [I x16] ⟨⟨rfl, rfl⟩, trivial⟩, _, _, _, H, rfl, X24, ex13⟩

set_option maxRecDepth 8000 in
set_option maxHeartbeats 4000000 in
theorem spec_l1Cur_siteCount_w (c : L1Cur) (Q : Int → Int → Int → Prop) (H : spec_l1Cur_siteCount c Q) (w : World) {vx : Value} {hx : PH} (r : RS hx vx c.Code) (ex : Sub hx w) {b : Nat} (ex2 : Sub (bx b 114 [vx, I c.At, .int .u64 c.Seed]) w) (d : Dj (bx b 114 [vx, I c.At, .int .u64 c.Seed]) hx) :
    CallsTo Try.prog 133 #[.pointer (some ⟨b, 0, none⟩)] w fun v w' => ∃ r0 m0_1 m0_2, Q r0 m0_1 m0_2 ∧ v = I r0 ∧ But (bx b 114 [vx, I c.At, .int .u64 c.Seed]) w w' ∧ Sub (bx b 114 [vx, I m0_1, .int .u64 m0_2]) w' := by
  obtain ⟨a, c1, rfl⟩ := r.shape
  refine enter (args := [.pointer (some ⟨b, 0, none⟩)]) 6 Try.func133 rfl rfl rfl ?_
  refine W_forget [(0, .pointer (some ⟨b, 0, none⟩))] ⟨rfl, trivial⟩ fun ρ => ?_
  have X := But.refl (bx b 114 [.slice a (List.length c.Code) c1, I c.At, .int .u64 c.Seed]) w
  refine W_seq ?_
  refine W_region ?_
  refine LP_ev ok 0 [(2, I 0)] 1 rfl rfl ?_
  refine LP_end _ rfl ?_
  refine W_seq ?_
  refine W_region ?_
  refine LP_ev ok 0 [(3, .pointer (some ⟨b, 0, none⟩))] 1 rfl rfl ?_
  refine LP_lit (α := Int) (g := emp) 1 (vs := [I 2, I 2, I 3, I 4, I 8, I 9, I 1]) (xs := [2, 2, 3, 4, 8, 9, 1]) rfl rfl rfl Try.underlying22 ti_3 rfl rfl ⟨⟨_, rfl, rfl⟩, ⟨_, rfl, rfl⟩, ⟨_, rfl, rfl⟩, ⟨_, rfl, rfl⟩, ⟨_, rfl, rfl⟩, ⟨_, rfl, rfl⟩, ⟨_, rfl, rfl⟩, trivial⟩ rfl rfl fun hx3 vx4 wx x o ex5 f => ?_
  obtain ⟨a6, c7, rfl⟩ := o.shape
  have ex11 := (ex.ext x)
  have ex12 := (ex2.ext x)
  refine LP_call 2 rfl rfl rfl cal_135 rfl (spec_l1Cur_among_w _ _ _ H wx r ex11 ex12 o.readf ex5 d (Dj.of_fresh ex2 f)) ?_
  rintro _ wx13 ⟨r8, r9, r10, H, rfl, x14, ex15⟩
  refine LP_ev ok 3 [(2, I r8)] 4 rfl rfl ?_
  refine LP_end _ rfl ?_
  refine W_ret ?_
  have X18 := ((X.stepx x).step x14 (single_dom : DomLe (bx b 114 [.slice a (List.length c.Code) c1, I c.At, .int .u64 c.Seed]) _ (bx b 114 [.slice a (List.length c.Code) c1, I c.At, .int .u64 c.Seed])))
  exact ⟨_, Ret_of [I r8] ⟨⟨rfl, rfl⟩, trivial⟩, _, _, _, H, rfl, X18, ex15⟩

set_option maxRecDepth 8000 in
set_option maxHeartbeats 4000000 in
theorem spec_l1Cur_seed0_w (c : L1Cur) (Q : Int → Int → Int → Prop) (H : spec_l1Cur_seed0 c Q) (w : World) {vx : Value} {hx : PH} (r : RS hx vx c.Code) (ex : Sub hx w) {b : Nat} (ex2 : Sub (bx b 114 [vx, I c.At, .int .u64 c.Seed]) w) (d : Dj (bx b 114 [vx, I c.At, .int .u64 c.Seed]) hx) :
    CallsTo Try.prog 154 #[.pointer (some ⟨b, 0, none⟩)] w fun v w' => ∃ r0 m0_1 m0_2, Q r0 m0_1 m0_2 ∧ v = I r0 ∧ But (bx b 114 [vx, I c.At, .int .u64 c.Seed]) w w' ∧ Sub (bx b 114 [vx, I m0_1, .int .u64 m0_2]) w' := by
  obtain ⟨a, c1, rfl⟩ := r.shape
  refine enter (args := [.pointer (some ⟨b, 0, none⟩)]) 14 Try.func154 rfl rfl rfl ?_
  refine W_forget [(0, .pointer (some ⟨b, 0, none⟩))] ⟨rfl, trivial⟩ fun ρ => ?_
  have X := But.refl (bx b 114 [.slice a (List.length c.Code) c1, I c.At, .int .u64 c.Seed]) w
  refine W_seq ?_
  refine W_region ?_
  refine LP_ev ok 0 [(2, I 0)] 1 rfl rfl ?_
  refine LP_end _ rfl ?_
  refine W_seq ?_
  refine W_seq ?_
  refine W_region ?_
  refine LP_ev ok 0 [(3, .pointer (some ⟨b, 0, none⟩))] 1 rfl rfl ?_
  refine LP_call 1 rfl rfl rfl cal_130 rfl (spec_l1Cur_pick_w _ _ _ H w r ex ex2 d) ?_
  rintro _ wx ⟨r3, r4, r5, H, rfl, x, ex6⟩
  refine LP_end _ rfl ?_
  refine W_block ?_
  refine W_seq ?_
  refine W_region ?_
  refine LP_ev ok 0 [(6, .bool (r3 == 0)), (5, .bool (r3 == 0))] 2 rfl rfl ?_
  refine LP_end _ rfl ?_
  refine W_cond (r3 == 0) rfl (fun hc => ?_) (fun hc => ?_)
  · have H := H.1 hc
    refine W_seq ?_
    refine W_region ?_
    refine LP_ev ok 0 [(2, I 0)] 1 rfl rfl ?_
    refine LP_end _ rfl ?_
    refine W_ret ?_
    have X9 := (X.step x (single_dom : DomLe (bx b 114 [.slice a (List.length c.Code) c1, I c.At, .int .u64 c.Seed]) _ (bx b 114 [.slice a (List.length c.Code) c1, I c.At, .int .u64 c.Seed])))
    exact ⟨_, Ret_of [I 0] ⟨⟨rfl, rfl⟩, trivial⟩, _, _, _, H, rfl, X9, ex6⟩
  have H := H.2 hc
  refine W_seq ?_
  refine W_region ?_
  refine LP_ev ok 0 [(8, .bool (r3 == 1)), (7, .bool (r3 == 1))] 2 rfl rfl ?_
  refine LP_end _ rfl ?_
  refine W_cond (r3 == 1) rfl (fun hc10 => ?_) (fun hc10 => ?_)
  · have H := H.1 hc10
    refine W_seq ?_
    refine W_region ?_
    refine LP_ev ok 0 [(9, .pointer (some ⟨b, 0, none⟩))] 1 rfl rfl ?_
    refine LP_lit (α := Int) (g := emp) 1 (vs := [I 4611686016279904236, I 123456789012]) (xs := [4611686016279904236, 123456789012]) rfl rfl rfl Try.underlying22 ti_3 rfl rfl ⟨⟨_, rfl, rfl⟩, ⟨_, rfl, rfl⟩, trivial⟩ rfl rfl fun hx11 vx12 wx13 x14 o ex15 f => ?_
    obtain ⟨a16, c17, rfl⟩ := o.shape
    have ex21 := ((ex.but x d).ext x14)
    have ex22 := (ex6.ext x14)
    refine LP_call 2 rfl rfl rfl cal_135 rfl (spec_l1Cur_among_w _ _ _ H wx13 r ex21 ex22 o.readf ex15 (Dj.box d) (Dj.of_fresh ex6 f)) ?_
    rintro _ wx23 ⟨r18, r19, r20, H, rfl, x24, ex25⟩
    refine LP_ev ok 3 [(2, I r18)] 4 rfl rfl ?_
    refine LP_end _ rfl ?_
    refine W_ret ?_
    have X29 := (((X.step x (single_dom : DomLe (bx b 114 [.slice a (List.length c.Code) c1, I c.At, .int .u64 c.Seed]) _ (bx b 114 [.slice a (List.length c.Code) c1, I c.At, .int .u64 c.Seed]))).stepx x14).step x24 (single_dom : DomLe (bx b 114 [.slice a (List.length c.Code) c1, I c.At, .int .u64 c.Seed]) _ (bx b 114 [.slice a (List.length c.Code) c1, I r4, .int .u64 r5])))
    exact ⟨_, Ret_of [I r18] ⟨⟨rfl, rfl⟩, trivial⟩, _, _, _, H, rfl, X29, ex25⟩
  have H := H.2 hc10
  refine W_skip ?_
  refine W_seq ?_
  refine W_region ?_
  refine LP_ev ok 0 [(12, .pointer (some ⟨b, 0, none⟩))] 1 rfl rfl ?_
  have ex33 := (ex.but x d)
  refine LP_call 1 rfl rfl rfl cal_130 rfl (spec_l1Cur_pick_w _ _ _ H wx r ex33 ex6 (Dj.box d)) ?_
  rintro _ wx34 ⟨r30, r31, r32, H, rfl, x35, ex36⟩
  refine LP_ev ok 2 [(2, I r30)] 3 rfl rfl ?_
  refine LP_end _ rfl ?_
  refine W_ret ?_
  have X40 := ((X.step x (single_dom : DomLe (bx b 114 [.slice a (List.length c.Code) c1, I c.At, .int .u64 c.Seed]) _ (bx b 114 [.slice a (List.length c.Code) c1, I c.At, .int .u64 c.Seed]))).step x35 (single_dom : DomLe (bx b 114 [.slice a (List.length c.Code) c1, I c.At, .int .u64 c.Seed]) _ (bx b 114 [.slice a (List.length c.Code) c1, I r4, .int .u64 r5])))
  exact ⟨_, Ret_of [I r30] ⟨⟨rfl, rfl⟩, trivial⟩, _, _, _, H, rfl, X40, ex36⟩

set_option maxRecDepth 8000 in
set_option maxHeartbeats 4000000 in
theorem spec_l1Cur_pairSeeds_w (c : L1Cur) (n : Int) (Q : (List (List Int)) → Int → Int → Prop) (H : spec_l1Cur_pairSeeds c n Q) (w : World) {vx : Value} {hx : PH} (r : RS hx vx c.Code) (ex : Sub hx w) {b : Nat} (ex2 : Sub (bx b 114 [vx, I c.At, .int .u64 c.Seed]) w) (d : Dj (bx b 114 [vx, I c.At, .int .u64 c.Seed]) hx) :
    CallsTo Try.prog 134 #[.pointer (some ⟨b, 0, none⟩), I n] w fun v w' => ∃ r0 m0_1 m0_2 u0 g0, Q r0 m0_1 m0_2 ∧ v = u0 ∧ But (bx b 114 [vx, I c.At, .int .u64 c.Seed]) w w' ∧ RS g0 u0 r0 ∧ Sub g0 w' ∧ Fresh w.heap.size g0 ∧ Sub (bx b 114 [vx, I m0_1, .int .u64 m0_2]) w' := by
  obtain ⟨a, c1, rfl⟩ := r.shape
  refine enter (args := [.pointer (some ⟨b, 0, none⟩), I n]) 65 Try.func134 rfl rfl rfl ?_
  refine W_forget [(0, .pointer (some ⟨b, 0, none⟩)), (1, I n)] ⟨rfl, rfl, trivial⟩ fun ρ => ?_
  have X := But.refl (bx b 114 [.slice a (List.length c.Code) c1, I c.At, .int .u64 c.Seed]) w
  refine W_seq ?_
  refine W_region ?_
  refine LP_ev ok 0 [(4, .slice none 0 0)] 1 rfl rfl ?_
  refine LP_end _ rfl ?_
  refine W_seq ?_
  refine W_region ?_
  refine LP_ev ok 0 [(8, I n)] 1 rfl rfl ?_
  obtain ⟨hn, hb, H⟩ := H
  refine LP_maked (β := Int) 1 rfl rfl rfl Try.underlying49 ti_22 rfl hn (by first | omega | (simp only [ln] at *; omega)) (by first | omega | (simp only [ln] at *; omega)) fun hx3 vx4 wx x o ex5 f => ?_
  obtain ⟨a6, c7, rfl⟩ := o.shape
  refine LP_ev ok 2 [(5, .slice a6 (List.length (List.replicate (Int.toNat n) (([] : List Int)))) c7)] 3 rfl rfl ?_
  refine LP_end _ rfl ?_
  refine W_seq ?_
  refine W_seq ?_
  refine W_region ?_
  refine LP_ev ok 0 [(10, .slice a6 (List.length (List.replicate (Int.toNat n) (([] : List Int)))) c7), (11, I (ln (List.replicate (Int.toNat n) (([] : List Int))))), (12, I 0)] 3 rfl rfl ?_
  refine LP_end _ rfl ?_
  refine W_block ?_
  obtain ⟨J, m, Hx, H⟩ := H
  have X20 := (X.stepx x)
  have f21 := f.mono X.size
  have ex22 := (ex.ext x)
  have ex23 := (ex2.ext x)
  refine W_loop (S := (List (List Int)) × Int × Int × Int) (fun s ρ' w' => J s.1 s.2.1 s.2.2.1 s.2.2.2 ∧ ∃ (ρ : Env) (hx9 : PH), ρ' = setAll [(0, .pointer (some ⟨b, 0, none⟩)), (1, I n), (5, .slice a6 (List.length (List.replicate (Int.toNat n) (([] : List Int)))) c7), (11, I (ln (List.replicate (Int.toNat n) (([] : List Int))))), (12, I s.2.1)] ρ ∧ But (bx b 114 [.slice a (List.length c.Code) c1, I c.At, .int .u64 c.Seed]) w w' ∧ OD hx9 (.slice a6 (List.length (List.replicate (Int.toNat n) (([] : List Int)))) c7) s.1 ∧ Sub hx9 w' ∧ Fresh w.heap.size hx9 ∧ Sub hx w' ∧ Sub (bx b 114 [.slice a (List.length c.Code) c1, I s.2.2.1, .int .u64 s.2.2.2]) w' ∧ Dj hx9 hx ∧ Dj hx9 (bx b 114 [.slice a (List.length c.Code) c1, I s.2.2.1, .int .u64 s.2.2.2])) (fun s => m s.1 s.2.1 s.2.2.1 s.2.2.2) (List.replicate (Int.toNat n) (([] : List Int)), 0, c.At, c.Seed) ⟨Hx, _, hx3, env_eq ⟨rfl, rfl, rfl, rfl, rfl, trivial⟩, X20, o, ex5, f21, ex22, ex23, (Dj.of_fresh ex f).symm, (Dj.of_fresh ex2 f).symm⟩ ?_
  rintro ⟨out, x13, atx, seed⟩ _ wx14 ⟨Hi, ρ, hx9, rfl, X19, o10, ex11, f12, ex15, ex16, d17, d18⟩
  have H := H out x13 atx seed Hi
  refine W_seq ?_
  refine W_region ?_
  refine LP_ev ok 0 [(13, .bool (decide (x13 < (ln (List.replicate (Int.toNat n) (([] : List Int)))))))] 1 rfl rfl ?_
  refine LP_end _ rfl ?_
  refine W_seq ?_
  refine W_cond (decide (x13 < (ln (List.replicate (Int.toNat n) (([] : List Int)))))) rfl (fun hc => ?_) (fun hc => ?_)
  · have H := H.1 hc
    refine W_skip ?_
    refine W_seq ?_
    refine W_block ?_
    refine W_seq ?_
    refine W_region ?_
    refine LP_ev ok 0 [(14, I x13), (6, I x13)] 2 rfl rfl ?_
    refine LP_end _ rfl ?_
    refine W_seq ?_
    refine W_region ?_
    refine LP_ev ok 0 [(15, .slice a6 (List.length (List.replicate (Int.toNat n) (([] : List Int)))) c7), (16, I x13), (17, I n)] 3 rfl rfl ?_
    obtain ⟨hn24, hb25, H⟩ := H
    refine LP_make (α := Int) 3 rfl rfl rfl Try.underlying22 ti_3 (x0 := (0 : Int)) rfl rfl hn24 (by first | omega | (simp only [ln] at *; omega)) (by first | omega | (simp only [ln] at *; omega)) fun hx26 vx27 wx28 x29 o30 ex31 f32 => ?_
    obtain ⟨a33, c34, rfl⟩ := o30.shape
    obtain ⟨hi, hl, H⟩ := H
    refine LP_indexd 4 rfl rfl rfl Try.underlying49 ti_22 rfl rfl o10 hi hl fun a35 wa => ?_
    have ex41 := (ex11.ext x29)
    refine LP_setd (y := List.replicate (Int.toNat n) ((0 : Int))) 5 rfl rfl rfl rfl rfl wa (OS.od o30) ex41 ex31 (Dj.of_fresh ex11 f32) fun hx36 hw wx37 o38 ex39 y dh dq ex40 => ?_
    refine LP_end _ rfl ?_
    refine W_seq ?_
    refine W_region ?_
    refine LP_ev ok 0 [(7, I 0)] 1 rfl rfl ?_
    refine LP_end _ rfl ?_
    refine W_block ?_
    obtain ⟨J56, m57, Hx58, H⟩ := H
    have X59 := ((X19.stepx x29).step (But.dom y dh) (f12.dom _))
    have f60 := f32.mono X19.size
    have f61 := Fresh.domOf (Fresh.un f12 f60) dq
    have ex62 := ((ex15.ext x29).but (But.dom y dh) d17)
    have ex63 := ((ex16.ext x29).but (But.dom y dh) d18)
    refine W_loop (S := (List (List Int)) × Int × Int × Int) (fun s ρ' w' => J56 s.1 s.2.1 s.2.2.1 s.2.2.2 ∧ ∃ (ρ : Env) (hx44 : PH), ρ' = setAll [(0, .pointer (some ⟨b, 0, none⟩)), (1, I n), (5, .slice a6 (List.length (List.replicate (Int.toNat n) (([] : List Int)))) c7), (6, I x13), (7, I s.2.1), (11, I (ln (List.replicate (Int.toNat n) (([] : List Int))))), (12, I x13)] ρ ∧ But (bx b 114 [.slice a (List.length c.Code) c1, I c.At, .int .u64 c.Seed]) w w' ∧ OD hx44 (.slice a6 (List.length (List.replicate (Int.toNat n) (([] : List Int)))) c7) s.1 ∧ Sub hx44 w' ∧ Fresh w.heap.size hx44 ∧ Sub hx w' ∧ Sub (bx b 114 [.slice a (List.length c.Code) c1, I s.2.2.1, .int .u64 s.2.2.2]) w' ∧ Dj hx44 hx ∧ Dj hx44 (bx b 114 [.slice a (List.length c.Code) c1, I s.2.2.1, .int .u64 s.2.2.2])) (fun s => m57 s.1 s.2.1 s.2.2.1 s.2.2.2) (List.set out (Int.toNat x13) (List.replicate (Int.toNat n) ((0 : Int))), 0, atx, seed) ⟨Hx58, _, hx36, env_eq ⟨rfl, rfl, rfl, rfl, rfl, rfl, rfl, trivial⟩, X59, o38, ex39, f61, ex62, ex63, (Dom.dj dq (Dj.un_l d17 (Dj.of_fresh ex15 f32).symm)), (Dom.dj dq (Dj.un_l d18 (Dj.of_fresh ex16 f32).symm))⟩ ?_
    rintro ⟨out42, k, atx48, seed49⟩ _ wx50 ⟨Hi, ρ, hx44, rfl, X55, o45, ex46, f47, ex51, ex52, d53, d54⟩
    have H := H out42 k atx48 seed49 Hi
    refine W_seq ?_
    refine W_seq ?_
    refine W_region ?_
    refine LP_ev ok 0 [(20, I k), (21, I x13), (22, .bool (decide (k < x13)))] 3 rfl rfl ?_
    refine LP_end _ rfl ?_
    refine W_cond (decide (k < x13)) rfl (fun hc65 => ?_) (fun hc65 => ?_)
    · have H := H.1 hc65
      refine W_skip ?_
      refine W_seq ?_
      refine W_block ?_
      refine W_seq ?_
      refine W_open mix fun wx66 x67 => ?_
      obtain ⟨x68, hi69, hx70, H⟩ := H
      obtain ⟨a71, u, hx72, rest, hx74, r73, bw⟩ := run_indexb Try.underlying49 ti_22 o45 _ hi69 hx70
      have o77 := bw.od
      obtain ⟨a75, c76, rfl⟩ := o77.shape
      have ex79 := (ex46.ext x67)
      have ex78 := Sub.le ex79 bw.le
      have o80 : OS 3 hx72 emp (.slice a75 (List.length x68) c76) x68 := OD.flat o77
      refine AP_stageL (St := But (bx b 114 [.slice a (List.length c.Code) c1, I atx48, .int .u64 seed49])) (rel_but _) 0 7 [[], [], [0, 1], [0, 1, 2], [], [], [5], [0, 1, 2, 3, 4, 5, 6], [0, 1, 2, 3, 4, 5, 6, 7]] [[(5, none)], [(6, none)], [(25, some 0), (26, some 1)], [(27, some 2)], [(7, none)], [(0, none)], [(30, some 5)]] [(0, none), (1, none), (5, none), (6, none), (7, none), (11, none), (12, none), (28, some 3), (29, some 4), (31, some 6)] [.slice a6 (List.length (List.replicate (Int.toNat n) (([] : List Int)))) c7, I x13, .pointer (some a71), .slice a75 (List.length x68) c76, I k, .pointer (some ⟨b, 0, none⟩), undef] [6] [(154, [.pointer (some ⟨b, 0, none⟩)])] (by kernel_rfl) (by decide) rfl
        ⟨C_ev ok [(5, .slice a6 (List.length (List.replicate (Int.toNat n) (([] : List Int)))) c7)] (.slice a6 (List.length (List.replicate (Int.toNat n) (([] : List Int)))) c7) (by decide) (fun _ h => h) rfl (fun _ => rfl),
          C_ev ok [(6, I x13)] (I x13) (by decide) (fun _ h => h) rfl (fun _ => rfl),
          C_run [(25, .slice a6 (List.length (List.replicate (Int.toNat n) (([] : List Int)))) c7), (26, I x13)] (.pointer (some a71)) (by decide) (fun _ h => h) rfl (fun _ _ _ => ex_index rfl rfl rfl (hx74 _)),
          C_run [(27, .pointer (some a71))] (.slice a75 (List.length x68) c76) (by decide) (fun _ h => h) rfl (fun _ w x => ex_ldcell rfl ti_22 ag_22 rfl r73 (ex79.but x d54.symm)),
          C_ev ok [(7, I k)] (I k) (by decide) (fun _ h => h) rfl (fun _ => rfl),
          C_ev ok [(0, .pointer (some ⟨b, 0, none⟩))] (.pointer (some ⟨b, 0, none⟩)) (by decide) (fun _ h => h) rfl (fun _ => rfl),
          C_own 0 [(30, .pointer (some ⟨b, 0, none⟩))] rfl rfl (fun _ h => h) rfl cal_154 (fun _ => rfl), trivial⟩ ?_
      intro wx81 x82
      have ex83 := ((ex51.ext x67).ext x82)
      have ex84 := ((ex52.ext x67).ext x82)
      refine (spec_l1Cur_seed0_w _ _ H wx81 r ex83 ex84 (Dj.box d)).mono ?_
      rintro _ wx86 ⟨r85, r88, r89, H, rfl, x87, ex90⟩
      refine ⟨x87, ?_⟩
      intro wx91 x92 ρ hn93
      refine AP_forget [(0, .pointer (some ⟨b, 0, none⟩)), (1, I n), (5, .slice a6 (List.length (List.replicate (Int.toNat n) (([] : List Int)))) c7), (6, I x13), (7, I k), (11, I (ln (List.replicate (Int.toNat n) (([] : List Int))))), (12, I x13), (28, .slice a75 (List.length x68) c76), (29, I k), (31, I r85)] (by exact hn93) fun ρ => ?_
      refine AP_LP 7 [[], [], [0, 1], [0, 1, 2], [], [], [5], [0, 1, 2, 3, 4, 5, 6], [0, 1, 2, 3, 4, 5, 6, 7]] (by kernel_rfl) ?_
      obtain ⟨hi94, hl95, H⟩ := H
      refine LP_indexw 7 rfl rfl rfl Try.underlying22 ti_3 rfl rfl o80 hi94 hl95 fun a96 wa97 => ?_
      have ex104 := (((ex78.ext x82).but x87 (Dom.dj bw.dom d54).symm).ext x92)
      refine LP_set 8 rfl rfl rfl rfl rfl wa97 (Le.refl emp) ⟨_, rfl, rfl⟩ ex104 fun hx98 wx99 o100 ex101 y102 dm103 => ?_
      have ex109 := (((ex79.ext x82).but x87 d54.symm).ext x92)
      obtain ⟨bw105, o106, dd⟩ := BwL.turn bw (OS.od o100) (Dom.of dm103)
      have ex107 := BwL.sub bw ex109 ex101 y102
      have y108 := BwL.but bw y102
      refine LP_end _ rfl ?_
      refine W_open mix fun wx110 x111 => ?_
      obtain ⟨x112, hi113, hx114, H⟩ := H
      obtain ⟨a115, u116, hx117, rest118, hx121, r119, bw120⟩ := run_indexb Try.underlying49 ti_22 o106 _ hi113 hx114
      have o124 := bw120.od
      obtain ⟨a122, c123, rfl⟩ := o124.shape
      have ex126 := (ex107.ext x111)
      have ex125 := Sub.le ex126 bw120.le
      have o127 : OS 3 hx117 emp (.slice a122 (List.length x112) c123) x112 := OD.flat o124
      obtain ⟨x128, hi129, hx130, H⟩ := H
      obtain ⟨a131, cs, hx134, r132, d133⟩ := run_indexAt Try.underlying49 ti_22 o106.readf .i64 _ x128 hi129 hx130
      obtain ⟨vx135, hx137, r136⟩ := run_loadAt ti_22 ag_22 r132 d133
      have r140 := r136.slice
      obtain ⟨a138, c139, rfl⟩ := r140.shape
      obtain ⟨x141, hi142, hx143, H⟩ := H
      obtain ⟨a144, cs145, hx148, r146, d147⟩ := run_indexAt Try.underlying22 ti_3 r140 .i64 _ x141 hi142 hx143
      obtain ⟨vx149, hx151, r150⟩ := run_loadAt ti_3 ag_3 r146 d147
      obtain rfl := r150.int
      refine AP_stageL (St := Ext) rel_ext 0 12 [[], [], [0, 1], [0, 1, 2], [], [], [], [5, 6], [5, 6, 7], [], [5, 6, 7, 8, 9], [5, 6, 7, 8, 9, 10], [0, 1, 2, 3, 4, 5, 6, 7, 8, 9, 10, 11], [0, 1, 2, 3, 4, 5, 6, 7, 8, 9, 10, 11, 12]] [[(5, none)], [(7, none)], [(33, some 0), (34, some 1)], [(35, some 2)], [(6, none)], [(5, none)], [(6, none)], [(38, some 5), (39, some 6)], [(40, some 7)], [(7, none)], [(41, some 8), (42, some 9)], [(43, some 10)]] [(0, none), (1, none), (5, none), (6, none), (7, none), (11, none), (12, none), (36, some 3), (37, some 4), (44, some 11)] [.slice a6 (List.length (List.replicate (Int.toNat n) (([] : List Int)))) c7, I k, .pointer (some a115), .slice a122 (List.length x112) c123, I x13, .slice a6 (List.length (List.replicate (Int.toNat n) (([] : List Int)))) c7, I x13, .pointer (some a131), .slice a138 (List.length x128) c139, I k, .pointer (some a144), I x141] [] [] (by kernel_rfl) (by decide) rfl
        ⟨C_ev ok [(5, .slice a6 (List.length (List.replicate (Int.toNat n) (([] : List Int)))) c7)] (.slice a6 (List.length (List.replicate (Int.toNat n) (([] : List Int)))) c7) (by decide) (fun _ h => h) rfl (fun _ => rfl),
          C_ev ok [(7, I k)] (I k) (by decide) (fun _ h => h) rfl (fun _ => rfl),
          C_run [(33, .slice a6 (List.length (List.replicate (Int.toNat n) (([] : List Int)))) c7), (34, I k)] (.pointer (some a115)) (by decide) (fun _ h => h) rfl (fun _ _ _ => ex_index rfl rfl rfl (hx121 _)),
          C_run [(35, .pointer (some a115))] (.slice a122 (List.length x112) c123) (by decide) (fun _ h => h) rfl (fun _ w x => ex_ldcell rfl ti_22 ag_22 rfl r119 (ex126.ext x)),
          C_ev ok [(6, I x13)] (I x13) (by decide) (fun _ h => h) rfl (fun _ => rfl),
          C_ev ok [(5, .slice a6 (List.length (List.replicate (Int.toNat n) (([] : List Int)))) c7)] (.slice a6 (List.length (List.replicate (Int.toNat n) (([] : List Int)))) c7) (by decide) (fun _ h => h) rfl (fun _ => rfl),
          C_ev ok [(6, I x13)] (I x13) (by decide) (fun _ h => h) rfl (fun _ => rfl),
          C_run [(38, .slice a6 (List.length (List.replicate (Int.toNat n) (([] : List Int)))) c7), (39, I x13)] (.pointer (some a131)) (by decide) (fun _ h => h) rfl (fun _ _ _ => ex_index rfl rfl rfl (hx134 _)),
          C_run [(40, .pointer (some a131))] (.slice a138 (List.length x128) c139) (by decide) (fun _ h => h) rfl (fun _ w x => ex_load rfl rfl (hx137 w (ex126.ext x))),
          C_ev ok [(7, I k)] (I k) (by decide) (fun _ h => h) rfl (fun _ => rfl),
          C_run [(41, .slice a138 (List.length x128) c139), (42, I k)] (.pointer (some a144)) (by decide) (fun _ h => h) rfl (fun _ _ _ => ex_index rfl rfl rfl (hx148 _)),
          C_run [(43, .pointer (some a144))] (I x141) (by decide) (fun _ h => h) rfl (fun _ w x => ex_load rfl rfl (hx151 w (ex126.ext x))), trivial⟩ ?_
      intro wx152 x153 ρ hn154
      refine AP_forget [(0, .pointer (some ⟨b, 0, none⟩)), (1, I n), (5, .slice a6 (List.length (List.replicate (Int.toNat n) (([] : List Int)))) c7), (6, I x13), (7, I k), (11, I (ln (List.replicate (Int.toNat n) (([] : List Int))))), (12, I x13), (36, .slice a122 (List.length x112) c123), (37, I x13), (44, I x141)] (by exact hn154) fun ρ => ?_
      refine AP_LP 12 [[], [], [0, 1], [0, 1, 2], [], [], [], [5, 6], [5, 6, 7], [], [5, 6, 7, 8, 9], [5, 6, 7, 8, 9, 10], [0, 1, 2, 3, 4, 5, 6, 7, 8, 9, 10, 11], [0, 1, 2, 3, 4, 5, 6, 7, 8, 9, 10, 11, 12]] (by kernel_rfl) ?_
      obtain ⟨hi155, hl156, H⟩ := H
      refine LP_indexw 12 rfl rfl rfl Try.underlying22 ti_3 rfl rfl o127 hi155 hl156 fun a157 wa158 => ?_
      have ex165 := (ex125.ext x153)
      refine LP_set 13 rfl rfl rfl rfl rfl wa158 (Le.refl emp) ⟨_, rfl, rfl⟩ ex165 fun hx159 wx160 o161 ex162 y163 dm164 => ?_
      have ex171 := (ex126.ext x153)
      obtain ⟨bw166, o167, dd168⟩ := BwL.turn bw120 (OS.od o161) (Dom.of dm164)
      have ex169 := BwL.sub bw120 ex171 ex162 y163
      have y170 := BwL.but bw120 y163
      refine LP_end _ rfl ?_
      refine W_region ?_
      refine LP_ev ok 0 [(23, I k), (24, I (wr (k + 1))), (7, I (wr (k + 1)))] 3 rfl rfl ?_
      refine LP_end _ rfl ?_
      have X173 := ((((X55.stepx x67).stepx x82).step x87 (single_dom : DomLe (bx b 114 [.slice a (List.length c.Code) c1, I c.At, .int .u64 c.Seed]) _ (bx b 114 [.slice a (List.length c.Code) c1, I atx48, .int .u64 seed49]))).stepx x92)
      have f172 := ((fun n => Dom.le dd n) _).fresh f47 X173.size
      have X174 := ((((((((X55.stepx x67).stepx x82).step x87 (single_dom : DomLe (bx b 114 [.slice a (List.length c.Code) c1, I c.At, .int .u64 c.Seed]) _ (bx b 114 [.slice a (List.length c.Code) c1, I atx48, .int .u64 seed49]))).stepx x92).step y108 (f47.dom _)).stepx x111).stepx x153).step y170 (f172.dom _))
      have X176 := (((X173.step y108 (f47.dom _)).stepx x111).stepx x153)
      have f175 := ((fun n => Dom.le dd168 n) _).fresh f172 X176.size
      have ex177 := ((ex83.but x87 (Dj.box d)).ext x92)
      have ex178 := ((((((ex83.but x87 (Dj.box d)).ext x92).but y108 d53).ext x111).ext x153).but y170 (DomLe.dj ((fun n => Dom.le dd n) _) d53 ex177))
      have ex179 := (ex90.ext x92)
      have ex180 := (((((ex90.ext x92).but y108 (Dj.box d54.symm).symm).ext x111).ext x153).but y170 (DomLe.dj ((fun n => Dom.le dd n) _) (Dj.box d54.symm).symm ex179))
      have ex181 := (((ex177.but y108 d53).ext x111).ext x153)
      have ex182 := (((ex179.but y108 (Dj.box d54.symm).symm).ext x111).ext x153)
      exact ⟨(List.set (List.set out42 (Int.toNat x13) (List.set x68 (Int.toNat k) r85)) (Int.toNat k) (List.set x112 (Int.toNat x13) x141), wr (k + 1), r88, r89), ⟨H.1, _, (un hx159 rest118), env_eq ⟨rfl, rfl, rfl, rfl, rfl, rfl, rfl, trivial⟩, X174, o167, ex169, f175, ex178, ex180, (DomLe.dj ((fun n => Dom.le dd168 n) _) (DomLe.dj ((fun n => Dom.le dd n) _) d53 ex177) ex181), (DomLe.dj ((fun n => Dom.le dd168 n) _) (DomLe.dj ((fun n => Dom.le dd n) _) (Dj.box d54.symm).symm ex179) ex182)⟩, H.2⟩
    have H := H.2 hc65
    refine W_exit ?_
    refine (if_pos rfl).mpr ?_
    refine W_region ?_
    refine LP_ev ok 0 [(46, I (wr (x13 + 1))), (12, I (wr (x13 + 1)))] 2 rfl rfl ?_
    refine LP_end _ rfl ?_
    exact ⟨(out42, wr (x13 + 1), atx48, seed49), ⟨H.1, _, hx44, env_eq ⟨rfl, rfl, rfl, rfl, rfl, trivial⟩, X55, o45, ex46, f47, ex51, ex52, d53, d54⟩, H.2⟩
  have H := H.2 hc
  refine W_exit ?_
  refine (if_pos rfl).mpr ?_
  obtain ⟨k197, hk, H⟩ := jn_elim H
  refine W_join2 (S := (List (List Int)) × Int × Int) (fun s ρ' w' => k197 s.1 s.2.1 s.2.2 ∧ ∃ (ρ : Env) (hx185 : PH), ρ' = setAll [(5, .slice a6 (List.length (List.replicate (Int.toNat n) (([] : List Int)))) c7)] ρ ∧ But (bx b 114 [.slice a (List.length c.Code) c1, I c.At, .int .u64 c.Seed]) w w' ∧ OD hx185 (.slice a6 (List.length (List.replicate (Int.toNat n) (([] : List Int)))) c7) s.1 ∧ Sub hx185 w' ∧ Fresh w.heap.size hx185 ∧ Sub hx w' ∧ Sub (bx b 114 [.slice a (List.length c.Code) c1, I s.2.1, .int .u64 s.2.2]) w' ∧ Dj hx185 hx ∧ Dj hx185 (bx b 114 [.slice a (List.length c.Code) c1, I s.2.1, .int .u64 s.2.2])) ?_ ?_
  · refine W_seq ?_
    refine W_region ?_
    refine LP_ev ok 0 [(47, .pointer (some ⟨b, 0, none⟩))] 1 rfl rfl ?_
    refine LP_call 1 rfl rfl rfl cal_130 rfl (spec_l1Cur_pick_w _ _ _ H wx14 r ex15 ex16 (Dj.box d)) ?_
    rintro _ wx201 ⟨r198, r199, r200, H, rfl, x202, ex203⟩
    refine LP_end _ rfl ?_
    refine W_block ?_
    refine W_seq ?_
    refine W_region ?_
    refine LP_ev ok 0 [(50, .bool (r198 == 0)), (49, .bool (r198 == 0))] 2 rfl rfl ?_
    refine LP_end _ rfl ?_
    refine W_cond (r198 == 0) rfl (fun hc206 => ?_) (fun hc206 => ?_)
    · have H := H.1 hc206
      refine W_seq ?_
      refine W_region ?_
      refine LP_ev ok 0 [(51, I n), (52, .bool (decide (n > 1)))] 2 rfl rfl ?_
      refine LP_end _ rfl ?_
      refine W_cond (decide (n > 1)) rfl (fun hc207 => ?_) (fun hc207 => ?_)
      · have H := H.1 hc207
        refine W_region ?_
        refine LP_ev ok 0 [(53, .slice a6 (List.length (List.replicate (Int.toNat n) (([] : List Int)))) c7)] 1 rfl rfl ?_
        obtain ⟨x208, hi209, hx210, H⟩ := H
        refine LP_indexb 1 rfl rfl rfl Try.underlying49 ti_22 rfl rfl o10 hi209 hx210 fun a211 u212 hx213 rest214 r215 bw216 => ?_
        have ex217 := (ex11.but x202 d18.symm)
        refine LP_ldcell 2 rfl rfl rfl ti_22 ag_22 rfl r215 ex217 ?_
        have o220 := bw216.od
        obtain ⟨a218, c219, rfl⟩ := o220.shape
        have ex221 := Sub.le ex217 bw216.le
        have o222 : OS 3 hx213 emp (.slice a218 (List.length x208) c219) x208 := OD.flat o220
        obtain ⟨x223, hi224, hx225, H⟩ := H
        refine LP_index 3 rfl rfl rfl Try.underlying22 ti_3 rfl rfl o222.readf hi224 hx225 fun a226 cs227 r228 d229 => ?_
        refine LP_load 4 rfl rfl rfl ti_3 ag_3 rfl r228 d229 ex221 fun vx230 r231 => ?_
        obtain rfl := r231.int
        refine LP_ev ok 5 [(58, I (wr (x223 + 1)))] 6 rfl rfl ?_
        obtain ⟨hi232, hl233, H⟩ := H
        refine LP_indexw 6 rfl rfl rfl Try.underlying22 ti_3 rfl rfl o222 hi232 hl233 fun a234 wa235 => ?_
        refine LP_set 7 rfl rfl rfl rfl rfl wa235 (Le.refl emp) ⟨_, rfl, rfl⟩ ex221 fun hx236 wx237 o238 ex239 y240 dm241 => ?_
        obtain ⟨bw242, o243, dd244⟩ := BwL.turn bw216 (OS.od o238) (Dom.of dm241)
        have ex245 := BwL.sub bw216 ex217 ex239 y240
        have y246 := BwL.but bw216 y240
        refine LP_end _ rfl ?_
        have X247 := ((X19.step x202 (single_dom : DomLe (bx b 114 [.slice a (List.length c.Code) c1, I c.At, .int .u64 c.Seed]) _ (bx b 114 [.slice a (List.length c.Code) c1, I atx, .int .u64 seed]))).step y246 (f12.dom _))
        have X249 := (X19.step x202 (single_dom : DomLe (bx b 114 [.slice a (List.length c.Code) c1, I c.At, .int .u64 c.Seed]) _ (bx b 114 [.slice a (List.length c.Code) c1, I atx, .int .u64 seed])))
        have f248 := ((fun n => Dom.le dd244 n) _).fresh f12 X249.size
        have ex250 := ((ex15.but x202 (Dj.box d)).but y246 d17)
        have ex251 := (ex203.but y246 (Dj.box d18.symm).symm)
        have ex252 := (ex15.but x202 (Dj.box d))
        exact ⟨(List.set out (Int.toNat 1) (List.set x208 (Int.toNat 0) (wr (x223 + 1))), r199, r200), H, _, (un hx236 rest214), env_eq ⟨rfl, trivial⟩, X247, o243, ex245, f248, ex250, ex251, (DomLe.dj ((fun n => Dom.le dd244 n) _) d17 ex252), (DomLe.dj ((fun n => Dom.le dd244 n) _) (Dj.box d18.symm).symm ex203)⟩
      have H := H.2 hc207
      refine W_skip ?_
      have X253 := (X19.step x202 (single_dom : DomLe (bx b 114 [.slice a (List.length c.Code) c1, I c.At, .int .u64 c.Seed]) _ (bx b 114 [.slice a (List.length c.Code) c1, I atx, .int .u64 seed])))
      have ex254 := (ex11.but x202 d18.symm)
      have ex255 := (ex15.but x202 (Dj.box d))
      exact ⟨(out, r199, r200), H, _, hx9, env_eq ⟨rfl, trivial⟩, X253, o10, ex254, f12, ex255, ex203, d17, (Dj.box d18.symm).symm⟩
    have H := H.2 hc206
    refine W_seq ?_
    refine W_region ?_
    refine LP_ev ok 0 [(61, .bool (r198 == 1)), (60, .bool (r198 == 1))] 2 rfl rfl ?_
    refine LP_end _ rfl ?_
    refine W_cond (r198 == 1) rfl (fun hc256 => ?_) (fun hc256 => ?_)
    · have H := H.1 hc256
      refine W_seq ?_
      refine W_region ?_
      refine LP_ev ok 0 [(62, .slice a6 (List.length (List.replicate (Int.toNat n) (([] : List Int)))) c7)] 1 rfl rfl ?_
      obtain ⟨hl257, hu, hn258, H⟩ := H
      refine LP_slice 1 1 ((List.length out : Int)) rfl rfl rfl Try.underlying49 ti_22 rfl rfl rfl o10.readf (.inr rfl) (.inl ⟨rfl, rfl⟩) hl257 hu hn258 fun vx259 r260 => ?_
      obtain ⟨a261, c262, rfl⟩ := r260.shape
      refine LP_ev ok 2 [(4, .slice a261 (List.length (List.take (Int.toNat ((List.length out : Int)) - Int.toNat 1) (List.drop (Int.toNat 1) out))) c262)] 3 rfl rfl ?_
      refine LP_end _ rfl ?_
      refine W_ret ?_
      have ex263 := (ex11.but x202 d18.symm)
      have X264 := (X19.step x202 (single_dom : DomLe (bx b 114 [.slice a (List.length c.Code) c1, I c.At, .int .u64 c.Seed]) _ (bx b 114 [.slice a (List.length c.Code) c1, I atx, .int .u64 seed])))
      exact ⟨_, Ret_of [.slice a261 (List.length (List.take (Int.toNat ((List.length out : Int)) - Int.toNat 1) (List.drop (Int.toNat 1) out))) c262] ⟨⟨rfl, rfl⟩, trivial⟩, _, _, _, _, _, H, rfl, X264, r260, ex263, f12, ex203⟩
    have H := H.2 hc256
    refine W_skip ?_
    have X265 := (X19.step x202 (single_dom : DomLe (bx b 114 [.slice a (List.length c.Code) c1, I c.At, .int .u64 c.Seed]) _ (bx b 114 [.slice a (List.length c.Code) c1, I atx, .int .u64 seed])))
    have ex266 := (ex11.but x202 d18.symm)
    have ex267 := (ex15.but x202 (Dj.box d))
    exact ⟨(out, r199, r200), H, _, hx9, env_eq ⟨rfl, trivial⟩, X265, o10, ex266, f12, ex267, ex203, d17, (Dj.box d18.symm).symm⟩
  rintro ⟨out183, atx189, seed190⟩ _ wx191 ⟨H, ρ, hx185, rfl, X196, o186, ex187, f188, ex192, ex193, d194, d195⟩
  subst hk
  refine W_seq ?_
  refine W_region ?_
  refine LP_ev ok 0 [(64, .slice a6 (List.length (List.replicate (Int.toNat n) (([] : List Int)))) c7), (4, .slice a6 (List.length (List.replicate (Int.toNat n) (([] : List Int)))) c7)] 2 rfl rfl ?_
  refine LP_end _ rfl ?_
  refine W_ret ?_
  exact ⟨_, Ret_of [.slice a6 (List.length (List.replicate (Int.toNat n) (([] : List Int)))) c7] ⟨⟨rfl, rfl⟩, trivial⟩, _, _, _, _, _, H, rfl, X196, o186.readf, ex187, f188, ex193⟩

set_option maxRecDepth 8000 in
set_option maxHeartbeats 4000000 in
theorem spec_l1Cur_modulus_w (c : L1Cur) (Q : Int → Int → Int → Prop) (H : spec_l1Cur_modulus c Q) (w : World) {vx : Value} {hx : PH} (r : RS hx vx c.Code) (ex : Sub hx w) {b : Nat} (ex2 : Sub (bx b 114 [vx, I c.At, .int .u64 c.Seed]) w) (d : Dj (bx b 114 [vx, I c.At, .int .u64 c.Seed]) hx) :
    CallsTo Try.prog 136 #[.pointer (some ⟨b, 0, none⟩)] w fun v w' => ∃ r0 m0_1 m0_2, Q r0 m0_1 m0_2 ∧ v = I r0 ∧ But (bx b 114 [vx, I c.At, .int .u64 c.Seed]) w w' ∧ Sub (bx b 114 [vx, I m0_1, .int .u64 m0_2]) w' := by
  obtain ⟨a, c1, rfl⟩ := r.shape
  refine enter (args := [.pointer (some ⟨b, 0, none⟩)]) 6 Try.func136 rfl rfl rfl ?_
  refine W_forget [(0, .pointer (some ⟨b, 0, none⟩))] ⟨rfl, trivial⟩ fun ρ => ?_
  have X := But.refl (bx b 114 [.slice a (List.length c.Code) c1, I c.At, .int .u64 c.Seed]) w
  refine W_seq ?_
  refine W_region ?_
  refine LP_ev ok 0 [(2, I 0)] 1 rfl rfl ?_
  refine LP_end _ rfl ?_
  refine W_seq ?_
  refine W_region ?_
  refine LP_ev ok 0 [(3, .pointer (some ⟨b, 0, none⟩))] 1 rfl rfl ?_
  refine LP_lit (α := Int) (g := emp) 1 (vs := [I 2, I 10, I 10, I 97, I 1000, I 1000000007, I 1000000008, I 1]) (xs := [2, 10, 10, 97, 1000, 1000000007, 1000000008, 1]) rfl rfl rfl Try.underlying22 ti_3 rfl rfl ⟨⟨_, rfl, rfl⟩, ⟨_, rfl, rfl⟩, ⟨_, rfl, rfl⟩, ⟨_, rfl, rfl⟩, ⟨_, rfl, rfl⟩, ⟨_, rfl, rfl⟩, ⟨_, rfl, rfl⟩, ⟨_, rfl, rfl⟩, trivial⟩ rfl rfl fun hx3 vx4 wx x o ex5 f => ?_
  obtain ⟨a6, c7, rfl⟩ := o.shape
  have ex11 := (ex.ext x)
  have ex12 := (ex2.ext x)
  refine LP_call 2 rfl rfl rfl cal_135 rfl (spec_l1Cur_among_w _ _ _ H wx r ex11 ex12 o.readf ex5 d (Dj.of_fresh ex2 f)) ?_
  rintro _ wx13 ⟨r8, r9, r10, H, rfl, x14, ex15⟩
  refine LP_ev ok 3 [(2, I r8)] 4 rfl rfl ?_
  refine LP_end _ rfl ?_
  refine W_ret ?_
  have X18 := ((X.stepx x).step x14 (single_dom : DomLe (bx b 114 [.slice a (List.length c.Code) c1, I c.At, .int .u64 c.Seed]) _ (bx b 114 [.slice a (List.length c.Code) c1, I c.At, .int .u64 c.Seed])))
  exact ⟨_, Ret_of [I r8] ⟨⟨rfl, rfl⟩, trivial⟩, _, _, _, H, rfl, X18, ex15⟩

set_option maxRecDepth 8000 in
set_option maxHeartbeats 4000000 in
theorem spec_DrawMaskOf_w (code : List B8) (Q : (List (List Int)) → Int → Int → Int → Int → Prop) (H : spec_DrawMaskOf code Q) (w : World) {vx : Value} {hx : PH} (r : RS hx vx code) (ex : Sub hx w) :
    CallsTo Try.prog 70 #[vx] w fun v w' => ∃ r0 r1 r2 r3 r4 u0 g0, Q r0 r1 r2 r3 r4 ∧ v = .tuple #[u0, I r1, I r2, I r3, I r4] ∧ Ext w w' ∧ RS g0 u0 r0 ∧ Sub g0 w' ∧ Fresh w.heap.size g0 := by
  obtain ⟨a, c, rfl⟩ := r.shape
  refine enter (args := [.slice a (List.length code) c]) 28 Try.func70 rfl rfl rfl ?_
  refine W_forget [(0, .slice a (List.length code) c)] ⟨rfl, trivial⟩ fun ρ => ?_
  have X := But.refl emp w
  refine W_seq ?_
  refine W_region ?_
  refine LP_ev ok 0 [(2, .slice none 0 0), (3, I 0), (4, I 0), (5, I 0), (6, I 0)] 5 rfl rfl ?_
  refine LP_end _ rfl ?_
  refine W_seq ?_
  refine W_region ?_
  refine LP_ev ok 0 [(9, .slice a (List.length code) c), (10, .agg #[.slice a (List.length code) c, I 0, .int .u64 0])] 2 rfl rfl ?_
  refine LP_box 2 (cs := [.slice a (List.length code) c, I 0, .int .u64 0]) rfl rfl rfl rfl rfl fun b wx x ex1 f => ?_
  refine LP_ev ok 3 [(7, .pointer (some ⟨b, 0, none⟩))] 4 rfl rfl ?_
  refine LP_end _ rfl ?_
  refine W_seq ?_
  refine W_region ?_
  refine LP_ev ok 0 [(12, .pointer (some ⟨b, 0, none⟩))] 1 rfl rfl ?_
  have ex5 := (ex.ext x)
  refine LP_call 1 rfl rfl rfl cal_133 rfl (spec_l1Cur_siteCount_w _ _ H wx r ex5 ex1 (Dj.of_fresh ex f).symm) ?_
  rintro _ wx6 ⟨r2, r3, r4, H, rfl, x7, ex8⟩
  refine LP_ev ok 2 [(8, I r2)] 3 rfl rfl ?_
  refine LP_end _ rfl ?_
  refine W_seq ?_
  refine W_region ?_
  refine LP_ev ok 0 [(14, .pointer (some ⟨b, 0, none⟩)), (15, I r2)] 2 rfl rfl ?_
  have ex14 := (ex5.but x7 (Dj.of_fresh ex f).symm)
  refine LP_call 2 rfl rfl rfl cal_134 rfl (spec_l1Cur_pairSeeds_w _ _ _ H wx6 r ex14 ex8 (Dj.box (Dj.of_fresh ex f).symm)) ?_
  rintro _ wx15 ⟨r11, r12, r13, vx17, hx18, H, rfl, x16, o, ex19, f20, ex21⟩
  obtain ⟨a25, c26, rfl⟩ := o.shape
  refine LP_ev ok 3 [(17, .pointer (some ⟨b, 0, none⟩)), (18, I r2), (19, I (wr (r2 + 1)))] 6 rfl rfl ?_
  have ex30 := (ex14.but x16 (Dj.box (Dj.of_fresh ex f).symm))
  refine LP_call 6 rfl rfl rfl cal_130 rfl (spec_l1Cur_pick_w _ _ _ H wx15 r ex30 ex21 (Dj.box (Dj.of_fresh ex f).symm)) ?_
  rintro _ wx31 ⟨r27, r28, r29, H, rfl, x32, ex33⟩
  refine LP_ev ok 7 [(21, .pointer (some ⟨b, 0, none⟩))] 8 rfl rfl ?_
  refine LP_lit (α := Int) (g := emp) 8 (vs := [I 0, I 1, I 7, I 1000000, I 1000001]) (xs := [0, 1, 7, 1000000, 1000001]) rfl rfl rfl Try.underlying22 ti_3 rfl rfl ⟨⟨_, rfl, rfl⟩, ⟨_, rfl, rfl⟩, ⟨_, rfl, rfl⟩, ⟨_, rfl, rfl⟩, ⟨_, rfl, rfl⟩, trivial⟩ rfl rfl fun hx37 vx38 wx39 x40 o41 ex42 f43 => ?_
  obtain ⟨a44, c45, rfl⟩ := o41.shape
  have ex49 := ((ex30.but x32 (Dj.box (Dj.of_fresh ex f).symm)).ext x40)
  have ex50 := (ex33.ext x40)
  refine LP_call 9 rfl rfl rfl cal_135 rfl (spec_l1Cur_among_w _ _ _ H wx39 r ex49 ex50 o41.readf ex42 (Dj.box (Dj.of_fresh ex f).symm) (Dj.of_fresh ex33 f43)) ?_
  rintro _ wx51 ⟨r46, r47, r48, H, rfl, x52, ex53⟩
  refine LP_ev ok 10 [(24, .pointer (some ⟨b, 0, none⟩))] 11 rfl rfl ?_
  have ex60 := (ex49.but x52 (Dj.box (Dj.of_fresh ex f).symm))
  refine LP_call 11 rfl rfl rfl cal_130 rfl (spec_l1Cur_pick_w _ _ _ H wx51 r ex60 ex53 (Dj.box (Dj.of_fresh ex f).symm)) ?_
  rintro _ wx61 ⟨r57, r58, r59, H, rfl, x62, ex63⟩
  refine LP_ev ok 12 [(26, .pointer (some ⟨b, 0, none⟩))] 13 rfl rfl ?_
  have ex70 := (ex60.but x62 (Dj.box (Dj.of_fresh ex f).symm))
  refine LP_call 13 rfl rfl rfl cal_136 rfl (spec_l1Cur_modulus_w _ _ H wx61 r ex70 ex63 (Dj.box (Dj.of_fresh ex f).symm)) ?_
  rintro _ wx71 ⟨r67, r68, r69, H, rfl, x72, ex73⟩
  refine LP_ev ok 14 [(2, .slice a25 (List.length r11) c26), (3, I r27), (4, I r46), (5, I r57), (6, I r67)] 19 rfl rfl ?_
  refine LP_end _ rfl ?_
  try refine W_forget [(2, .slice a25 (List.length r11) c26), (3, I r27), (4, I r46), (5, I r57), (6, I r67)] ⟨rfl, rfl, rfl, rfl, rfl, trivial⟩ fun ρ => ?_
  refine W_ret ?_
  have ex77 := (((((ex19.but x32 (Dj.box (Dj.of_fresh ex8 f20))).ext x40).but x52 (Dj.box (Dj.of_fresh ex8 f20))).but x62 (Dj.box (Dj.of_fresh ex8 f20))).but x72 (Dj.box (Dj.of_fresh ex8 f20)))
  have f79 := f.mono X.size
  have X80 := ((X.stepx x).step x7 (f79.dom _))
  have f78 := f20.mono X80.size
  have X81 := ((((((X80.step x16 ((Fresh.box f79).dom _)).step x32 ((Fresh.box f79).dom _)).stepx x40).step x52 ((Fresh.box f79).dom _)).step x62 ((Fresh.box f79).dom _)).step x72 ((Fresh.box f79).dom _))
  exact ⟨_, Ret_of [.slice a25 (List.length r11) c26, I r27, I r46, I r57, I r67] ⟨⟨rfl, rfl⟩, ⟨rfl, rfl⟩, ⟨rfl, rfl⟩, ⟨rfl, rfl⟩, ⟨rfl, rfl⟩, trivial⟩, _, _, _, _, _, _, _, H, rfl, X81.ext, o, ex77, f78⟩

set_option maxRecDepth 8000 in
set_option maxHeartbeats 4000000 in
theorem laws_sameInts_w (a : List Int) (b : List Int) (Q : Bool → Prop) (H : laws_sameInts a b Q) (w : World) {vx : Value} {hx : PH} (r : RS hx vx a) (ex : Sub hx w) {vx2 : Value} {hx3 : PH} (r4 : RS hx3 vx2 b) (ex5 : Sub hx3 w) :
    CallsTo Try.prog 71 #[vx, vx2] w fun v w' => ∃ r0, Q r0 ∧ v = .bool r0 ∧ Ext w w' := by
  obtain ⟨a1, c, rfl⟩ := r.shape
  obtain ⟨a6, c7, rfl⟩ := r4.shape
  refine enter (args := [.slice a1 (List.length a) c, .slice a6 (List.length b) c7]) 26 Try.func71 rfl rfl rfl ?_
  refine W_forget [(0, .slice a1 (List.length a) c), (1, .slice a6 (List.length b) c7)] ⟨rfl, rfl, trivial⟩ fun ρ => ?_
  have X := But.refl emp w
  refine W_seq ?_
  refine W_region ?_
  refine LP_ev ok 0 [(4, .bool false)] 1 rfl rfl ?_
  refine LP_end _ rfl ?_
  refine W_seq ?_
  refine W_seq ?_
  refine W_region ?_
  refine LP_ev ok 0 [(6, .slice a1 (List.length a) c), (7, I (ln a)), (8, .slice a6 (List.length b) c7), (9, I (ln b)), (10, .bool ((ln a) != (ln b)))] 5 rfl rfl ?_
  refine LP_end _ rfl ?_
  refine W_cond ((ln a) != (ln b)) rfl (fun hc => ?_) (fun hc => ?_)
  · have H := H.1 hc
    refine W_seq ?_
    refine W_region ?_
    refine LP_ev ok 0 [(4, .bool false)] 1 rfl rfl ?_
    refine LP_end _ rfl ?_
    refine W_ret ?_
    exact ⟨_, Ret_of [.bool false] ⟨⟨rfl, rfl⟩, trivial⟩, _, H, rfl, X.ext⟩
  have H := H.2 hc
  refine W_skip ?_
  refine W_seq ?_
  refine W_seq ?_
  refine W_region ?_
  refine LP_ev ok 0 [(11, .slice a1 (List.length a) c), (12, I (ln a)), (13, I 0)] 3 rfl rfl ?_
  refine LP_end _ rfl ?_
  refine W_block ?_
  obtain ⟨J, m, Hx, H⟩ := H
  refine W_loop (S := Int) (fun s ρ' w' => J s ∧ ∃ (ρ : Env), ρ' = setAll [(0, .slice a1 (List.length a) c), (1, .slice a6 (List.length b) c7), (12, I (ln a)), (13, I s)] ρ ∧ But emp w w' ∧ Sub hx w' ∧ Sub hx3 w') (fun s => m s) 0 ⟨Hx, _, env_eq ⟨rfl, rfl, rfl, rfl, trivial⟩, X, ex, ex5⟩ ?_
  rintro x _ wx ⟨Hi, ρ, rfl, X10, ex8, ex9⟩
  have H := H x Hi
  refine W_seq ?_
  refine W_region ?_
  refine LP_ev ok 0 [(14, .bool (decide (x < (ln a))))] 1 rfl rfl ?_
  refine LP_end _ rfl ?_
  refine W_seq ?_
  refine W_cond (decide (x < (ln a))) rfl (fun hc11 => ?_) (fun hc11 => ?_)
  · have H := H.1 hc11
    refine W_skip ?_
    refine W_seq ?_
    refine W_block ?_
    refine W_seq ?_
    refine W_region ?_
    refine LP_ev ok 0 [(15, I x), (5, I x)] 2 rfl rfl ?_
    refine LP_end _ rfl ?_
    refine W_seq ?_
    refine W_quiet mix (by kernel_rfl) ?_
    refine QP_ev ok 0 [(16, .slice a1 (List.length a) c), (17, I x)] 2 rfl rfl ?_
    obtain ⟨x12, hi, hx13, H⟩ := H
    refine QP_index 2 rfl rfl rfl Try.underlying22 ti_3 rfl rfl r hi hx13 fun a14 cs r15 d => ?_
    refine QP_load 3 rfl rfl rfl ti_3 ag_3 rfl r15 d ex8 fun vx16 r17 => ?_
    obtain rfl := r17.int
    refine QP_ev ok 4 [(20, .slice a6 (List.length b) c7), (21, I x)] 6 rfl rfl ?_
    obtain ⟨x18, hi19, hx20, H⟩ := H
    refine QP_index 6 rfl rfl rfl Try.underlying22 ti_3 rfl rfl r4 hi19 hx20 fun a21 cs22 r23 d24 => ?_
    refine QP_load 7 rfl rfl rfl ti_3 ag_3 rfl r23 d24 ex9 fun vx25 r26 => ?_
    obtain rfl := r26.int
    refine QP_ev ok 8 [(24, .bool (x12 != x18))] 9 rfl rfl ?_
    refine QP_end _ rfl fun wx27 x28 => ?_
    refine W_cond (x12 != x18) rfl (fun hc29 => ?_) (fun hc29 => ?_)
    · have H := H.1 hc29
      refine W_seq ?_
      refine W_region ?_
      refine LP_ev ok 0 [(4, .bool false)] 1 rfl rfl ?_
      refine LP_end _ rfl ?_
      refine W_ret ?_
      have X30 := (X10.stepx x28)
      exact ⟨_, Ret_of [.bool false] ⟨⟨rfl, rfl⟩, trivial⟩, _, H, rfl, X30.ext⟩
    have H := H.2 hc29
    refine W_skip ?_
    refine W_region ?_
    refine LP_ev ok 0 [(25, I (wr (x + 1))), (13, I (wr (x + 1)))] 2 rfl rfl ?_
    refine LP_end _ rfl ?_
    have X31 := (X10.stepx x28)
    have ex32 := (ex8.ext x28)
    have ex33 := (ex9.ext x28)
    exact ⟨wr (x + 1), ⟨H.1, _, env_eq ⟨rfl, rfl, rfl, rfl, trivial⟩, X31, ex32, ex33⟩, H.2⟩
  have H := H.2 hc11
  refine W_exit ?_
  refine (if_pos rfl).mpr ?_
  refine W_seq ?_
  refine W_region ?_
  refine LP_ev ok 0 [(4, .bool true)] 1 rfl rfl ?_
  refine LP_end _ rfl ?_
  refine W_ret ?_
  exact ⟨_, Ret_of [.bool true] ⟨⟨rfl, rfl⟩, trivial⟩, _, H, rfl, X10.ext⟩

set_option maxRecDepth 8000 in
set_option maxHeartbeats 4000000 in
theorem laws_pSum_w (l : List Int) (Q : Int → Prop) (H : laws_pSum l Q) (w : World) {vx : Value} {hx : PH} (r : RS hx vx l) (ex : Sub hx w) :
    CallsTo Try.prog 72 #[vx] w fun v w' => ∃ r0, Q r0 ∧ v = I r0 ∧ Ext w w' := by
  obtain ⟨a, c, rfl⟩ := r.shape
  refine enter (args := [.slice a (List.length l) c]) 17 Try.func72 rfl rfl rfl ?_
  refine W_forget [(0, .slice a (List.length l) c)] ⟨rfl, trivial⟩ fun ρ => ?_
  have X := But.refl emp w
  refine W_seq ?_
  refine W_region ?_
  refine LP_ev ok 0 [(2, I 0)] 1 rfl rfl ?_
  refine LP_end _ rfl ?_
  refine W_seq ?_
  refine W_region ?_
  refine LP_ev ok 0 [(3, I 0)] 1 rfl rfl ?_
  refine LP_end _ rfl ?_
  refine W_seq ?_
  refine W_seq ?_
  refine W_region ?_
  refine LP_ev ok 0 [(6, .slice a (List.length l) c), (7, I (ln l)), (8, I 0)] 3 rfl rfl ?_
  refine LP_end _ rfl ?_
  refine W_block ?_
  obtain ⟨J, m, Hx, H⟩ := H
  refine W_loop (S := Int × Int) (fun s ρ' w' => J s.1 s.2 ∧ ∃ (ρ : Env), ρ' = setAll [(3, I s.1), (6, .slice a (List.length l) c), (7, I (ln l)), (8, I s.2)] ρ ∧ w = w') (fun s => m s.1 s.2) (0, 0) ⟨Hx, _, env_eq ⟨rfl, rfl, rfl, rfl, trivial⟩, rfl⟩ ?_
  rintro ⟨sum, x⟩ _ _ ⟨Hi, ρ, rfl, rfl⟩
  have H := H sum x Hi
  refine W_seq ?_
  refine W_region ?_
  refine LP_ev ok 0 [(9, .bool (decide (x < (ln l))))] 1 rfl rfl ?_
  refine LP_end _ rfl ?_
  refine W_seq ?_
  refine W_cond (decide (x < (ln l))) rfl (fun hc => ?_) (fun hc => ?_)
  · have H := H.1 hc
    refine W_skip ?_
    refine W_seq ?_
    refine W_block ?_
    refine W_seq ?_
    refine W_region ?_
    obtain ⟨x1, hi, hx2, H⟩ := H
    refine LP_index 0 rfl rfl rfl Try.underlying22 ti_3 rfl rfl r hi hx2 fun a3 cs r4 d => ?_
    refine LP_load 1 rfl rfl rfl ti_3 ag_3 rfl r4 d ex fun vx5 r6 => ?_
    obtain rfl := r6.int
    refine LP_ev ok 2 [(5, I x1)] 3 rfl rfl ?_
    refine LP_end _ rfl ?_
    refine W_region ?_
    refine LP_ev ok 0 [(12, I sum), (13, I x1), (14, I (wr (sum + x1))), (3, I (wr (sum + x1)))] 4 rfl rfl ?_
    refine LP_end _ rfl ?_
    refine W_region ?_
    refine LP_ev ok 0 [(15, I (wr (x + 1))), (8, I (wr (x + 1)))] 2 rfl rfl ?_
    refine LP_end _ rfl ?_
    exact ⟨(wr (sum + x1), wr (x + 1)), ⟨H.1, _, env_eq ⟨rfl, rfl, rfl, rfl, trivial⟩, rfl⟩, H.2⟩
  have H := H.2 hc
  refine W_exit ?_
  refine (if_pos rfl).mpr ?_
  refine W_seq ?_
  refine W_region ?_
  refine LP_ev ok 0 [(16, I sum), (2, I sum)] 2 rfl rfl ?_
  refine LP_end _ rfl ?_
  refine W_ret ?_
  exact ⟨_, Ret_of [I sum] ⟨⟨rfl, rfl⟩, trivial⟩, _, H, rfl, X.ext⟩

set_option maxRecDepth 8000 in
set_option maxHeartbeats 4000000 in
theorem spec_l1Cur_one_w (c : L1Cur) (n : Int) (Q : Bool → Int → Int → Prop) (H : spec_l1Cur_one c n Q) (w : World) {vx : Value} {hx : PH} (r : RS hx vx c.Code) (ex : Sub hx w) {b : Nat} (ex2 : Sub (bx b 114 [vx, I c.At, .int .u64 c.Seed]) w) (d : Dj (bx b 114 [vx, I c.At, .int .u64 c.Seed]) hx) :
    CallsTo Try.prog 139 #[.pointer (some ⟨b, 0, none⟩), I n] w fun v w' => ∃ r0 m0_1 m0_2, Q r0 m0_1 m0_2 ∧ v = .bool r0 ∧ But (bx b 114 [vx, I c.At, .int .u64 c.Seed]) w w' ∧ Sub (bx b 114 [vx, I m0_1, .int .u64 m0_2]) w' := by
  obtain ⟨a, c1, rfl⟩ := r.shape
  refine enter (args := [.pointer (some ⟨b, 0, none⟩), I n]) 9 Try.func139 rfl rfl rfl ?_
  refine W_forget [(0, .pointer (some ⟨b, 0, none⟩)), (1, I n)] ⟨rfl, rfl, trivial⟩ fun ρ => ?_
  have X := But.refl (bx b 114 [.slice a (List.length c.Code) c1, I c.At, .int .u64 c.Seed]) w
  refine W_seq ?_
  refine W_region ?_
  refine LP_ev ok 0 [(4, .bool false)] 1 rfl rfl ?_
  refine LP_end _ rfl ?_
  refine W_seq ?_
  refine W_region ?_
  refine LP_ev ok 0 [(5, .pointer (some ⟨b, 0, none⟩)), (6, I n)] 2 rfl rfl ?_
  refine LP_call 2 rfl rfl rfl cal_130 rfl (spec_l1Cur_pick_w _ _ _ H w r ex ex2 d) ?_
  rintro _ wx ⟨r3, r4, r5, H, rfl, x, ex6⟩
  refine LP_ev ok 3 [(8, .bool (r3 == 0)), (4, .bool (r3 == 0))] 5 rfl rfl ?_
  refine LP_end _ rfl ?_
  refine W_ret ?_
  have X9 := (X.step x (single_dom : DomLe (bx b 114 [.slice a (List.length c.Code) c1, I c.At, .int .u64 c.Seed]) _ (bx b 114 [.slice a (List.length c.Code) c1, I c.At, .int .u64 c.Seed])))
  exact ⟨_, Ret_of [.bool (r3 == 0)] ⟨⟨rfl, rfl⟩, trivial⟩, _, _, _, H, rfl, X9, ex6⟩

set_option maxRecDepth 8000 in
set_option maxHeartbeats 4000000 in
theorem spec_l1Cur_present_w (c : L1Cur) (n : Int) (Q : (List Int) → Int → Int → Prop) (H : spec_l1Cur_present c n Q) (w : World) {vx : Value} {hx : PH} (r : RS hx vx c.Code) (ex : Sub hx w) {b : Nat} (ex2 : Sub (bx b 114 [vx, I c.At, .int .u64 c.Seed]) w) (d : Dj (bx b 114 [vx, I c.At, .int .u64 c.Seed]) hx) :
    CallsTo Try.prog 137 #[.pointer (some ⟨b, 0, none⟩), I n] w fun v w' => ∃ r0 m0_1 m0_2 u0 g0, Q r0 m0_1 m0_2 ∧ v = u0 ∧ But (bx b 114 [vx, I c.At, .int .u64 c.Seed]) w w' ∧ OS 3 g0 emp u0 r0 ∧ Sub g0 w' ∧ Fresh w.heap.size g0 ∧ Sub (bx b 114 [vx, I m0_1, .int .u64 m0_2]) w' := by
  obtain ⟨a, c1, rfl⟩ := r.shape
  refine enter (args := [.pointer (some ⟨b, 0, none⟩), I n]) 26 Try.func137 rfl rfl rfl ?_
  refine W_forget [(0, .pointer (some ⟨b, 0, none⟩)), (1, I n)] ⟨rfl, rfl, trivial⟩ fun ρ => ?_
  have X := But.refl (bx b 114 [.slice a (List.length c.Code) c1, I c.At, .int .u64 c.Seed]) w
  refine W_seq ?_
  refine W_region ?_
  refine LP_ev ok 0 [(4, .slice none 0 0)] 1 rfl rfl ?_
  refine LP_end _ rfl ?_
  refine W_seq ?_
  refine W_region ?_
  refine LP_ev ok 0 [(5, .slice none 0 0)] 1 rfl rfl ?_
  refine LP_end _ rfl ?_
  refine W_seq ?_
  refine W_seq ?_
  refine W_region ?_
  refine LP_ev ok 0 [(6, I 0)] 1 rfl rfl ?_
  refine LP_end _ rfl ?_
  refine W_block ?_
  obtain ⟨J, m, Hx, H⟩ := H
  refine W_loop (S := (List Int) × Int × Int × Int) (fun s ρ' w' => J s.1 s.2.1 s.2.2.1 s.2.2.2 ∧ ∃ (ρ : Env) (vx3 : Value) (hx4 : PH), ρ' = setAll [(0, .pointer (some ⟨b, 0, none⟩)), (1, I n), (5, vx3), (6, I s.2.1)] ρ ∧ But (bx b 114 [.slice a (List.length c.Code) c1, I c.At, .int .u64 c.Seed]) w w' ∧ OS 3 hx4 emp vx3 s.1 ∧ Sub hx4 w' ∧ Fresh w.heap.size hx4 ∧ Sub hx w' ∧ Sub (bx b 114 [.slice a (List.length c.Code) c1, I s.2.2.1, .int .u64 s.2.2.2]) w' ∧ Dj hx4 hx ∧ Dj hx4 (bx b 114 [.slice a (List.length c.Code) c1, I s.2.2.1, .int .u64 s.2.2.2])) (fun s => m s.1 s.2.1 s.2.2.1 s.2.2.2) ([], 0, c.At, c.Seed) ⟨Hx, _, .slice none 0 0, emp, env_eq ⟨rfl, rfl, rfl, rfl, trivial⟩, X, OS.nil, (emp_sub _), (emp_fresh _), ex, ex2, (fun _ => .inl rfl), (fun _ => .inl rfl)⟩ ?_
  rintro ⟨out, i, atx, seed⟩ _ wx ⟨Hi, ρ, vx3, hx4, rfl, X12, o, ex5, f, ex6, ex9, d10, d11⟩
  have H := H out i atx seed Hi
  obtain ⟨a7, c8, rfl⟩ := o.shape
  refine W_seq ?_
  refine W_seq ?_
  refine W_region ?_
  refine LP_ev ok 0 [(7, I i), (8, I n), (9, .bool (decide (i < n)))] 3 rfl rfl ?_
  refine LP_end _ rfl ?_
  refine W_cond (decide (i < n)) rfl (fun hc => ?_) (fun hc => ?_)
  · have H := H.1 hc
    refine W_skip ?_
    obtain ⟨k, hk, H⟩ := jn_elim H
    refine W_join2 (S := (List Int) × Int × Int) (fun s ρ' w' => k s.1 s.2.1 s.2.2 ∧ ∃ (ρ : Env) (vx14 : Value) (hx15 : PH), ρ' = setAll [(0, .pointer (some ⟨b, 0, none⟩)), (1, I n), (5, vx14), (6, I i)] ρ ∧ But (bx b 114 [.slice a (List.length c.Code) c1, I c.At, .int .u64 c.Seed]) w w' ∧ OS 3 hx15 emp vx14 s.1 ∧ Sub hx15 w' ∧ Fresh w.heap.size hx15 ∧ Sub hx w' ∧ Sub (bx b 114 [.slice a (List.length c.Code) c1, I s.2.1, .int .u64 s.2.2]) w' ∧ Dj hx15 hx ∧ Dj hx15 (bx b 114 [.slice a (List.length c.Code) c1, I s.2.1, .int .u64 s.2.2])) ?_ ?_
    · refine W_block ?_
      refine W_seq ?_
      refine W_region ?_
      refine LP_ev ok 0 [(12, .pointer (some ⟨b, 0, none⟩))] 1 rfl rfl ?_
      refine LP_call 1 rfl rfl rfl cal_139 rfl (spec_l1Cur_one_w _ _ _ H wx r ex6 ex9 (Dj.box d)) ?_
      rintro _ wx32 ⟨r29, r30, r31, H, rfl, x, ex33⟩
      refine LP_ev ok 2 [(14, .bool (!r29))] 3 rfl rfl ?_
      refine LP_end _ rfl ?_
      refine W_cond (!r29) rfl (fun hc36 => ?_) (fun hc36 => ?_)
      · have H := H.1 hc36
        refine W_region ?_
        refine LP_ev ok 0 [(15, .slice a7 (List.length out) c8), (16, I i)] 2 rfl rfl ?_
        refine LP_lit (α := Int) (g := emp) 2 (vs := [I i]) (xs := [i]) rfl rfl rfl Try.underlying22 ti_3 rfl rfl ⟨⟨_, rfl, rfl⟩, trivial⟩ rfl rfl fun hx37 vx38 wx39 x40 o41 ex42 f43 => ?_
        obtain ⟨a44, c45, rfl⟩ := o41.shape
        have ex46 := ((ex5.but x d11.symm).ext x40)
        obtain ⟨hb, H⟩ := H
        refine LP_appendf (α := Int) 3 rfl rfl rfl Try.underlying22 ti_3 rfl rfl rfl o ex46 o41.readf ex42 (by first | omega | (simp only [ln] at *; omega)) (by first | omega | (simp only [ln] at *; omega)) fun hx47 vx48 wx49 o50 ex51 y dm => ?_
        obtain ⟨a52, c53, rfl⟩ := o50.shape
        refine LP_ev ok 4 [(5, .slice a52 (List.length (out ++ ([i]))) c53)] 5 rfl rfl ?_
        refine LP_end _ rfl ?_
        have X54 := (((X12.step x (single_dom : DomLe (bx b 114 [.slice a (List.length c.Code) c1, I c.At, .int .u64 c.Seed]) _ (bx b 114 [.slice a (List.length c.Code) c1, I atx, .int .u64 seed]))).stepx x40).step y (f.dom _))
        have X56 := ((X12.step x (single_dom : DomLe (bx b 114 [.slice a (List.length c.Code) c1, I c.At, .int .u64 c.Seed]) _ (bx b 114 [.slice a (List.length c.Code) c1, I atx, .int .u64 seed]))).stepx x40)
        have f55 := dm.fresh f X56.size
        have ex57 := (((ex6.but x (Dj.box d)).ext x40).but y d10)
        have ex58 := ((ex33.ext x40).but y (Dj.box d11.symm).symm)
        have ex59 := ((ex6.but x (Dj.box d)).ext x40)
        have ex60 := (ex33.ext x40)
        exact ⟨(out ++ ([i]), r30, r31), H, _, .slice a52 (List.length (out ++ ([i]))) c53, hx47, env_eq ⟨rfl, rfl, rfl, rfl, trivial⟩, X54, o50, ex51, f55, ex57, ex58, (DomLe.dj dm d10 ex59), (DomLe.dj dm (Dj.box d11.symm).symm ex60)⟩
      have H := H.2 hc36
      refine W_skip ?_
      have X61 := (X12.step x (single_dom : DomLe (bx b 114 [.slice a (List.length c.Code) c1, I c.At, .int .u64 c.Seed]) _ (bx b 114 [.slice a (List.length c.Code) c1, I atx, .int .u64 seed])))
      have ex62 := (ex5.but x d11.symm)
      have ex63 := (ex6.but x (Dj.box d))
      exact ⟨(out, r30, r31), H, _, .slice a7 (List.length out) c8, hx4, env_eq ⟨rfl, rfl, rfl, rfl, trivial⟩, X61, o, ex62, f, ex63, ex33, d10, (Dj.box d11.symm).symm⟩
    rintro ⟨out13, atx19, seed20⟩ _ wx21 ⟨H, ρ, vx14, hx15, rfl, X28, o16, ex17, f18, ex22, ex25, d26, d27⟩
    subst hk
    obtain ⟨a23, c24, rfl⟩ := o16.shape
    refine W_region ?_
    refine LP_ev ok 0 [(10, I i), (11, I (wr (i + 1))), (6, I (wr (i + 1)))] 3 rfl rfl ?_
    refine LP_end _ rfl ?_
    exact ⟨(out13, wr (i + 1), atx19, seed20), ⟨H.1, _, .slice a23 (List.length out13) c24, hx15, env_eq ⟨rfl, rfl, rfl, rfl, trivial⟩, X28, o16, ex17, f18, ex22, ex25, d26, d27⟩, H.2⟩
  have H := H.2 hc
  refine W_exit ?_
  refine (if_pos rfl).mpr ?_
  obtain ⟨k80, hk81, H⟩ := jn_elim H
  refine W_join2 (S := (List Int) × Int × Int) (fun s ρ' w' => k80 s.1 s.2.1 s.2.2 ∧ ∃ (ρ : Env) (vx65 : Value) (hx66 : PH), ρ' = setAll [(5, vx65)] ρ ∧ But (bx b 114 [.slice a (List.length c.Code) c1, I c.At, .int .u64 c.Seed]) w w' ∧ OS 3 hx66 emp vx65 s.1 ∧ Sub hx66 w' ∧ Fresh w.heap.size hx66 ∧ Sub hx w' ∧ Sub (bx b 114 [.slice a (List.length c.Code) c1, I s.2.1, .int .u64 s.2.2]) w' ∧ Dj hx66 hx ∧ Dj hx66 (bx b 114 [.slice a (List.length c.Code) c1, I s.2.1, .int .u64 s.2.2])) ?_ ?_
  · refine W_seq ?_
    refine W_region ?_
    refine LP_ev ok 0 [(19, .pointer (some ⟨b, 0, none⟩))] 1 rfl rfl ?_
    refine LP_call 1 rfl rfl rfl cal_139 rfl (spec_l1Cur_one_w _ _ _ H wx r ex6 ex9 (Dj.box d)) ?_
    rintro _ wx85 ⟨r82, r83, r84, H, rfl, x86, ex87⟩
    refine LP_end _ rfl ?_
    refine W_cond (r82) rfl (fun hc91 => ?_) (fun hc91 => ?_)
    · have H := H.1 hc91
      refine W_region ?_
      refine LP_ev ok 0 [(21, .slice a7 (List.length out) c8), (22, I n)] 2 rfl rfl ?_
      refine LP_lit (α := Int) (g := emp) 2 (vs := [I n]) (xs := [n]) rfl rfl rfl Try.underlying22 ti_3 rfl rfl ⟨⟨_, rfl, rfl⟩, trivial⟩ rfl rfl fun hx92 vx93 wx94 x95 o96 ex97 f98 => ?_
      obtain ⟨a99, c100, rfl⟩ := o96.shape
      have ex101 := ((ex5.but x86 d11.symm).ext x95)
      obtain ⟨hb102, H⟩ := H
      refine LP_appendf (α := Int) 3 rfl rfl rfl Try.underlying22 ti_3 rfl rfl rfl o ex101 o96.readf ex97 (by first | omega | (simp only [ln] at *; omega)) (by first | omega | (simp only [ln] at *; omega)) fun hx103 vx104 wx105 o106 ex107 y108 dm109 => ?_
      obtain ⟨a110, c111, rfl⟩ := o106.shape
      refine LP_ev ok 4 [(5, .slice a110 (List.length (out ++ ([n]))) c111)] 5 rfl rfl ?_
      refine LP_end _ rfl ?_
      have X112 := (((X12.step x86 (single_dom : DomLe (bx b 114 [.slice a (List.length c.Code) c1, I c.At, .int .u64 c.Seed]) _ (bx b 114 [.slice a (List.length c.Code) c1, I atx, .int .u64 seed]))).stepx x95).step y108 (f.dom _))
      have X114 := ((X12.step x86 (single_dom : DomLe (bx b 114 [.slice a (List.length c.Code) c1, I c.At, .int .u64 c.Seed]) _ (bx b 114 [.slice a (List.length c.Code) c1, I atx, .int .u64 seed]))).stepx x95)
      have f113 := dm109.fresh f X114.size
      have ex115 := (((ex6.but x86 (Dj.box d)).ext x95).but y108 d10)
      have ex116 := ((ex87.ext x95).but y108 (Dj.box d11.symm).symm)
      have ex117 := ((ex6.but x86 (Dj.box d)).ext x95)
      have ex118 := (ex87.ext x95)
      exact ⟨(out ++ ([n]), r83, r84), H, _, .slice a110 (List.length (out ++ ([n]))) c111, hx103, env_eq ⟨rfl, trivial⟩, X112, o106, ex107, f113, ex115, ex116, (DomLe.dj dm109 d10 ex117), (DomLe.dj dm109 (Dj.box d11.symm).symm ex118)⟩
    have H := H.2 hc91
    refine W_skip ?_
    have X119 := (X12.step x86 (single_dom : DomLe (bx b 114 [.slice a (List.length c.Code) c1, I c.At, .int .u64 c.Seed]) _ (bx b 114 [.slice a (List.length c.Code) c1, I atx, .int .u64 seed])))
    have ex120 := (ex5.but x86 d11.symm)
    have ex121 := (ex6.but x86 (Dj.box d))
    exact ⟨(out, r83, r84), H, _, .slice a7 (List.length out) c8, hx4, env_eq ⟨rfl, trivial⟩, X119, o, ex120, f, ex121, ex87, d10, (Dj.box d11.symm).symm⟩
  rintro ⟨out64, atx70, seed71⟩ _ wx72 ⟨H, ρ, vx65, hx66, rfl, X79, o67, ex68, f69, ex73, ex76, d77, d78⟩
  subst hk81
  obtain ⟨a74, c75, rfl⟩ := o67.shape
  refine W_seq ?_
  refine W_region ?_
  refine LP_ev ok 0 [(25, .slice a74 (List.length out64) c75), (4, .slice a74 (List.length out64) c75)] 2 rfl rfl ?_
  refine LP_end _ rfl ?_
  refine W_ret ?_
  exact ⟨_, Ret_of [.slice a74 (List.length out64) c75] ⟨⟨rfl, rfl⟩, trivial⟩, _, _, _, _, _, H, rfl, X79, o67, ex68, f69, ex76⟩

end Go.Proofs.Ytbegmfmabcpofaa
