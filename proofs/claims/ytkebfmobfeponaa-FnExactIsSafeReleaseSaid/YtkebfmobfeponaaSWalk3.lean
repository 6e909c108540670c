/- The walks, further. -/
import Derived.Test.YtkebfmobfeponaaSWalk2
set_option linter.unusedVariables false
set_option autoImplicit false
namespace Go.Proofs.Ytkebfmobfeponaa
open Go Go.RowKit Go.Gv

open Go.Proofs
set_option maxRecDepth 8000 in
set_option maxHeartbeats 4000000 in
theorem impl_search_from_impl_solutions_1_impl_IsSafeRelease_1_w (x : Search) (c13 : Int) (c17 : Int) (k : Int) (left : Int) (Q : Bool → (List Int) → (List Int) → Int → Prop) (H : impl_search_from_impl_solutions_1_impl_IsSafeRelease_1 x c13 c17 k left Q) (w : World) {vx : Value} {hx : PH} (r : RS hx vx x.Conditions) (ex : Sub hx w) {vx1 : Value} {hx2 : PH} (r3 : OS 3 hx2 emp vx1 x.Counts) (ex4 : Sub hx2 w) {vx7 : Value} {hx8 : PH} (r9 : OS 3 hx8 emp vx7 x.Sums) (ex10 : Sub hx8 w) {b : Nat} (ex14 : Sub (bx b 3 [I c13]) w) {b15 : Nat} (ex16 : Sub (bx b15 74 [.func (.func 36) #[] #[]]) w) {b18 : Nat} (ex19 : Sub (bx b18 3 [I c17]) w) {b20 : Nat} (ex21 : Sub (bx b20 103 [vx, vx1, vx7, .func (.func 64) #[] #[.pointer (some ⟨b, 0, none⟩), .pointer (some ⟨b15, 0, none⟩), .pointer (some ⟨b18, 0, none⟩)]]) w) (d : Dj hx2 hx8) (d22 : Dj hx2 (bx b 3 [I c13])) (d23 : Dj hx2 (bx b20 103 [vx, vx1, vx7, .func (.func 64) #[] #[.pointer (some ⟨b, 0, none⟩), .pointer (some ⟨b15, 0, none⟩), .pointer (some ⟨b18, 0, none⟩)]])) (d24 : Dj hx8 (bx b 3 [I c13])) (d25 : Dj hx8 (bx b20 103 [vx, vx1, vx7, .func (.func 64) #[] #[.pointer (some ⟨b, 0, none⟩), .pointer (some ⟨b15, 0, none⟩), .pointer (some ⟨b18, 0, none⟩)]])) (d26 : Dj (bx b 3 [I c13]) (bx b20 103 [vx, vx1, vx7, .func (.func 64) #[] #[.pointer (some ⟨b, 0, none⟩), .pointer (some ⟨b15, 0, none⟩), .pointer (some ⟨b18, 0, none⟩)]])) (d27 : Dj hx2 hx) (d28 : Dj hx2 (bx b15 74 [.func (.func 36) #[] #[]])) (d29 : Dj hx2 (bx b18 3 [I c17])) (d30 : Dj hx8 hx) (d31 : Dj hx8 (bx b15 74 [.func (.func 36) #[] #[]])) (d32 : Dj hx8 (bx b18 3 [I c17])) (d33 : Dj (bx b 3 [I c13]) hx) (d34 : Dj (bx b 3 [I c13]) (bx b15 74 [.func (.func 36) #[] #[]])) (d35 : Dj (bx b 3 [I c13]) (bx b18 3 [I c17])) (d36 : Dj (bx b20 103 [vx, vx1, vx7, .func (.func 64) #[] #[.pointer (some ⟨b, 0, none⟩), .pointer (some ⟨b15, 0, none⟩), .pointer (some ⟨b18, 0, none⟩)]]) hx) (d37 : Dj (bx b20 103 [vx, vx1, vx7, .func (.func 64) #[] #[.pointer (some ⟨b, 0, none⟩), .pointer (some ⟨b15, 0, none⟩), .pointer (some ⟨b18, 0, none⟩)]]) (bx b15 74 [.func (.func 36) #[] #[]])) (d38 : Dj (bx b20 103 [vx, vx1, vx7, .func (.func 64) #[] #[.pointer (some ⟨b, 0, none⟩), .pointer (some ⟨b15, 0, none⟩), .pointer (some ⟨b18, 0, none⟩)]]) (bx b18 3 [I c17])) :
    CallsTo Try.prog 65 #[.pointer (some ⟨b20, 0, none⟩), I k, I left] w fun v w' => ∃ r0 m1 m2 m3_0 v1_ k1 v2_ k2, Q r0 m1 m2 m3_0 ∧ v = .bool r0 ∧ But (un hx2 (un hx8 (un (bx b 3 [I c13]) (bx b20 103 [vx, vx1, vx7, .func (.func 64) #[] #[.pointer (some ⟨b, 0, none⟩), .pointer (some ⟨b15, 0, none⟩), .pointer (some ⟨b18, 0, none⟩)]])))) w w' ∧ OS 3 k1 emp v1_ m1 ∧ Sub k1 w' ∧ DomLe (un hx2 (un hx8 (un (bx b 3 [I c13]) (bx b20 103 [vx, vx1, vx7, .func (.func 64) #[] #[.pointer (some ⟨b, 0, none⟩), .pointer (some ⟨b15, 0, none⟩), .pointer (some ⟨b18, 0, none⟩)]])))) w.heap.size k1 ∧ OS 3 k2 emp v2_ m2 ∧ Sub k2 w' ∧ DomLe (un hx2 (un hx8 (un (bx b 3 [I c13]) (bx b20 103 [vx, vx1, vx7, .func (.func 64) #[] #[.pointer (some ⟨b, 0, none⟩), .pointer (some ⟨b15, 0, none⟩), .pointer (some ⟨b18, 0, none⟩)]])))) w.heap.size k2 ∧ Sub (bx b 3 [I m3_0]) w' ∧ Sub (bx b20 103 [vx, v1_, v2_, .func (.func 64) #[] #[.pointer (some ⟨b, 0, none⟩), .pointer (some ⟨b15, 0, none⟩), .pointer (some ⟨b18, 0, none⟩)]]) w' ∧ Dj k1 k2 ∧ Dj k1 (bx b 3 [I m3_0]) ∧ Dj k1 (bx b20 103 [vx, v1_, v2_, .func (.func 64) #[] #[.pointer (some ⟨b, 0, none⟩), .pointer (some ⟨b15, 0, none⟩), .pointer (some ⟨b18, 0, none⟩)]]) ∧ Dj k2 (bx b 3 [I m3_0]) ∧ Dj k2 (bx b20 103 [vx, v1_, v2_, .func (.func 64) #[] #[.pointer (some ⟨b, 0, none⟩), .pointer (some ⟨b15, 0, none⟩), .pointer (some ⟨b18, 0, none⟩)]]) := by
  obtain ⟨S, mu, H0, HS⟩ := H
  have key : ∀ (m : Nat) (x : Search) (c13 : Int) (c17 : Int) (k : Int) (left : Int) (Q : Bool → (List Int) → (List Int) → Int → Prop), S x c13 c17 k left Q → mu x c13 c17 k left < m → ∀ (w : World) {vx : Value} {hx : PH} (r : RS hx vx x.Conditions) (ex : Sub hx w) {vx1 : Value} {hx2 : PH} (r3 : OS 3 hx2 emp vx1 x.Counts) (ex4 : Sub hx2 w) {vx7 : Value} {hx8 : PH} (r9 : OS 3 hx8 emp vx7 x.Sums) (ex10 : Sub hx8 w) {b : Nat} (ex14 : Sub (bx b 3 [I c13]) w) {b15 : Nat} (ex16 : Sub (bx b15 74 [.func (.func 36) #[] #[]]) w) {b18 : Nat} (ex19 : Sub (bx b18 3 [I c17]) w) {b20 : Nat} (ex21 : Sub (bx b20 103 [vx, vx1, vx7, .func (.func 64) #[] #[.pointer (some ⟨b, 0, none⟩), .pointer (some ⟨b15, 0, none⟩), .pointer (some ⟨b18, 0, none⟩)]]) w) (d : Dj hx2 hx8) (d22 : Dj hx2 (bx b 3 [I c13])) (d23 : Dj hx2 (bx b20 103 [vx, vx1, vx7, .func (.func 64) #[] #[.pointer (some ⟨b, 0, none⟩), .pointer (some ⟨b15, 0, none⟩), .pointer (some ⟨b18, 0, none⟩)]])) (d24 : Dj hx8 (bx b 3 [I c13])) (d25 : Dj hx8 (bx b20 103 [vx, vx1, vx7, .func (.func 64) #[] #[.pointer (some ⟨b, 0, none⟩), .pointer (some ⟨b15, 0, none⟩), .pointer (some ⟨b18, 0, none⟩)]])) (d26 : Dj (bx b 3 [I c13]) (bx b20 103 [vx, vx1, vx7, .func (.func 64) #[] #[.pointer (some ⟨b, 0, none⟩), .pointer (some ⟨b15, 0, none⟩), .pointer (some ⟨b18, 0, none⟩)]])) (d27 : Dj hx2 hx) (d28 : Dj hx2 (bx b15 74 [.func (.func 36) #[] #[]])) (d29 : Dj hx2 (bx b18 3 [I c17])) (d30 : Dj hx8 hx) (d31 : Dj hx8 (bx b15 74 [.func (.func 36) #[] #[]])) (d32 : Dj hx8 (bx b18 3 [I c17])) (d33 : Dj (bx b 3 [I c13]) hx) (d34 : Dj (bx b 3 [I c13]) (bx b15 74 [.func (.func 36) #[] #[]])) (d35 : Dj (bx b 3 [I c13]) (bx b18 3 [I c17])) (d36 : Dj (bx b20 103 [vx, vx1, vx7, .func (.func 64) #[] #[.pointer (some ⟨b, 0, none⟩), .pointer (some ⟨b15, 0, none⟩), .pointer (some ⟨b18, 0, none⟩)]]) hx) (d37 : Dj (bx b20 103 [vx, vx1, vx7, .func (.func 64) #[] #[.pointer (some ⟨b, 0, none⟩), .pointer (some ⟨b15, 0, none⟩), .pointer (some ⟨b18, 0, none⟩)]]) (bx b15 74 [.func (.func 36) #[] #[]])) (d38 : Dj (bx b20 103 [vx, vx1, vx7, .func (.func 64) #[] #[.pointer (some ⟨b, 0, none⟩), .pointer (some ⟨b15, 0, none⟩), .pointer (some ⟨b18, 0, none⟩)]]) (bx b18 3 [I c17])), CallsTo Try.prog 65 #[.pointer (some ⟨b20, 0, none⟩), I k, I left] w fun v w' => ∃ r0 m1 m2 m3_0 v1_ k1 v2_ k2, Q r0 m1 m2 m3_0 ∧ v = .bool r0 ∧ But (un hx2 (un hx8 (un (bx b 3 [I c13]) (bx b20 103 [vx, vx1, vx7, .func (.func 64) #[] #[.pointer (some ⟨b, 0, none⟩), .pointer (some ⟨b15, 0, none⟩), .pointer (some ⟨b18, 0, none⟩)]])))) w w' ∧ OS 3 k1 emp v1_ m1 ∧ Sub k1 w' ∧ DomLe (un hx2 (un hx8 (un (bx b 3 [I c13]) (bx b20 103 [vx, vx1, vx7, .func (.func 64) #[] #[.pointer (some ⟨b, 0, none⟩), .pointer (some ⟨b15, 0, none⟩), .pointer (some ⟨b18, 0, none⟩)]])))) w.heap.size k1 ∧ OS 3 k2 emp v2_ m2 ∧ Sub k2 w' ∧ DomLe (un hx2 (un hx8 (un (bx b 3 [I c13]) (bx b20 103 [vx, vx1, vx7, .func (.func 64) #[] #[.pointer (some ⟨b, 0, none⟩), .pointer (some ⟨b15, 0, none⟩), .pointer (some ⟨b18, 0, none⟩)]])))) w.heap.size k2 ∧ Sub (bx b 3 [I m3_0]) w' ∧ Sub (bx b20 103 [vx, v1_, v2_, .func (.func 64) #[] #[.pointer (some ⟨b, 0, none⟩), .pointer (some ⟨b15, 0, none⟩), .pointer (some ⟨b18, 0, none⟩)]]) w' ∧ Dj k1 k2 ∧ Dj k1 (bx b 3 [I m3_0]) ∧ Dj k1 (bx b20 103 [vx, v1_, v2_, .func (.func 64) #[] #[.pointer (some ⟨b, 0, none⟩), .pointer (some ⟨b15, 0, none⟩), .pointer (some ⟨b18, 0, none⟩)]]) ∧ Dj k2 (bx b 3 [I m3_0]) ∧ Dj k2 (bx b20 103 [vx, v1_, v2_, .func (.func 64) #[] #[.pointer (some ⟨b, 0, none⟩), .pointer (some ⟨b15, 0, none⟩), .pointer (some ⟨b18, 0, none⟩)]]) := by
    intro m
    induction m with
    | zero => intro x c13 c17 k left Q _ hm; exact absurd hm (Nat.not_lt_zero _)
    | succ m ih =>
      intro x c13 c17 k left Q H0 hm w vx hx r ex vx1 hx2 r3 ex4 vx7 hx8 r9 ex10 b ex14 b15 ex16 b18 ex19 b20 ex21 d d22 d23 d24 d25 d26 d27 d28 d29 d30 d31 d32 d33 d34 d35 d36 d37 d38
      have H := HS x c13 c17 k left Q H0
      obtain ⟨a, c, rfl⟩ := r.shape
      obtain ⟨a5, c6, rfl⟩ := r3.shape
      obtain ⟨a11, c12, rfl⟩ := r9.shape
      refine enter (args := [.pointer (some ⟨b20, 0, none⟩), I k, I left]) 110 Try.func65 rfl rfl rfl ?_
      refine W_forget [(0, .pointer (some ⟨b20, 0, none⟩)), (1, I k), (2, I left)] ⟨rfl, rfl, rfl, trivial⟩ fun ρ => ?_
      have D : Dom (un hx2 (un hx8 (un (bx b 3 [I c13]) (bx b20 103 [.slice a (List.length x.Conditions) c, .slice a5 (List.length x.Counts) c6, .slice a11 (List.length x.Sums) c12, .func (.func 64) #[] #[.pointer (some ⟨b, 0, none⟩), .pointer (some ⟨b15, 0, none⟩), .pointer (some ⟨b18, 0, none⟩)]])))) hx2 := (Dom.l _ _)
      have D39 : Dom (un hx2 (un hx8 (un (bx b 3 [I c13]) (bx b20 103 [.slice a (List.length x.Conditions) c, .slice a5 (List.length x.Counts) c6, .slice a11 (List.length x.Sums) c12, .func (.func 64) #[] #[.pointer (some ⟨b, 0, none⟩), .pointer (some ⟨b15, 0, none⟩), .pointer (some ⟨b18, 0, none⟩)]])))) hx8 := (Dom.trans (Dom.r _ _) (Dom.l _ _))
      have D40 : Dom (un hx2 (un hx8 (un (bx b 3 [I c13]) (bx b20 103 [.slice a (List.length x.Conditions) c, .slice a5 (List.length x.Counts) c6, .slice a11 (List.length x.Sums) c12, .func (.func 64) #[] #[.pointer (some ⟨b, 0, none⟩), .pointer (some ⟨b15, 0, none⟩), .pointer (some ⟨b18, 0, none⟩)]])))) (bx b 3 [I c13]) := (Dom.trans (Dom.r _ _) (Dom.trans (Dom.r _ _) (Dom.l _ _)))
      have D41 : Dom (un hx2 (un hx8 (un (bx b 3 [I c13]) (bx b20 103 [.slice a (List.length x.Conditions) c, .slice a5 (List.length x.Counts) c6, .slice a11 (List.length x.Sums) c12, .func (.func 64) #[] #[.pointer (some ⟨b, 0, none⟩), .pointer (some ⟨b15, 0, none⟩), .pointer (some ⟨b18, 0, none⟩)]])))) (bx b20 103 [.slice a (List.length x.Conditions) c, .slice a5 (List.length x.Counts) c6, .slice a11 (List.length x.Sums) c12, .func (.func 64) #[] #[.pointer (some ⟨b, 0, none⟩), .pointer (some ⟨b15, 0, none⟩), .pointer (some ⟨b18, 0, none⟩)]]) := (Dom.trans (Dom.r _ _) (Dom.trans (Dom.r _ _) (Dom.trans (Dom.r _ _) (Dom.refl _))))
      have X := But.refl (un hx2 (un hx8 (un (bx b 3 [I c13]) (bx b20 103 [.slice a (List.length x.Conditions) c, .slice a5 (List.length x.Counts) c6, .slice a11 (List.length x.Sums) c12, .func (.func 64) #[] #[.pointer (some ⟨b, 0, none⟩), .pointer (some ⟨b15, 0, none⟩), .pointer (some ⟨b18, 0, none⟩)]])))) w
      refine W_seq ?_
      refine W_region ?_
      refine LP_ev ok 0 [(6, .bool false)] 1 rfl rfl ?_
      refine LP_end _ rfl ?_
      refine W_seq ?_
      refine W_seq ?_
      refine W_region ?_
      refine LP_ev ok 0 [(14, I k), (15, .pointer (some ⟨b20, 0, none⟩)), (16, .pointer (some ⟨b20, 0, none⟩)), (17, .pointer (some ⟨b20, 1, none⟩))] 4 rfl rfl ?_
      refine LP_ldbox 4 (v := .slice a5 (List.length x.Counts) c6) rfl rfl rfl ti_22 ag_22 (fun _ => rfl) rfl ex21 rfl rfl ?_
      refine LP_ev ok 5 [(19, I (ln x.Counts)), (20, .bool (k == (ln x.Counts)))] 7 rfl rfl ?_
      refine LP_end _ rfl ?_
      refine W_cond (k == (ln x.Counts)) rfl (fun hc => ?_) (fun hc => ?_)
      · have H := H.1 hc
        refine W_seq ?_
        refine W_seq ?_
        refine W_region ?_
        refine LP_ev ok 0 [(21, I left), (22, .bool (decide (left > 0)))] 2 rfl rfl ?_
        refine LP_end _ rfl ?_
        refine W_cond (decide (left > 0)) rfl (fun hc42 => ?_) (fun hc42 => ?_)
        · have H := H.1 hc42
          refine W_seq ?_
          refine W_region ?_
          refine LP_ev ok 0 [(6, .bool true)] 1 rfl rfl ?_
          refine LP_end _ rfl ?_
          refine W_ret ?_
          exact ⟨_, Ret_of [.bool true] ⟨⟨rfl, rfl⟩, trivial⟩, _, _, _, _, _, _, _, _, H, rfl, X, r3, ex4, (Dom.le D _), r9, ex10, (Dom.le D39 _), ex14, ex21, d, d22, d23, d24, d25⟩
        have H := H.2 hc42
        refine W_skip ?_
        refine W_seq ?_
        refine W_seq ?_
        refine W_region ?_
        refine LP_ev ok 0 [(23, .pointer (some ⟨b20, 0, none⟩)), (24, .pointer (some ⟨b20, 0, none⟩)), (25, .pointer (some ⟨b20, 0, none⟩))] 3 rfl rfl ?_
        refine LP_ldbox 3 (v := .slice a (List.length x.Conditions) c) rfl rfl rfl ti_99 ag_99 (fun _ => rfl) rfl ex21 rfl rfl ?_
        refine LP_ev ok 4 [(27, I (ln x.Conditions)), (28, I 0)] 6 rfl rfl ?_
        refine LP_end _ rfl ?_
        refine W_block ?_
        obtain ⟨J, m52, Hx, H⟩ := H
        refine W_loop (S := Int) (fun s ρ' w' => J s ∧ ∃ (ρ : Env), ρ' = setAll [(0, .pointer (some ⟨b20, 0, none⟩)), (26, .slice a (List.length x.Conditions) c), (27, I (ln x.Conditions)), (28, I s)] ρ ∧ But (un hx2 (un hx8 (un (bx b 3 [I c13]) (bx b20 103 [.slice a (List.length x.Conditions) c, .slice a5 (List.length x.Counts) c6, .slice a11 (List.length x.Sums) c12, .func (.func 64) #[] #[.pointer (some ⟨b, 0, none⟩), .pointer (some ⟨b15, 0, none⟩), .pointer (some ⟨b18, 0, none⟩)]])))) w w' ∧ Sub hx w' ∧ Sub hx2 w' ∧ Sub hx8 w' ∧ Sub (bx b 3 [I c13]) w' ∧ Sub (bx b15 74 [.func (.func 36) #[] #[]]) w' ∧ Sub (bx b18 3 [I c17]) w' ∧ Sub (bx b20 103 [.slice a (List.length x.Conditions) c, .slice a5 (List.length x.Counts) c6, .slice a11 (List.length x.Sums) c12, .func (.func 64) #[] #[.pointer (some ⟨b, 0, none⟩), .pointer (some ⟨b15, 0, none⟩), .pointer (some ⟨b18, 0, none⟩)]]) w') (fun s => m52 s) 0 ⟨Hx, _, env_eq ⟨rfl, rfl, rfl, rfl, trivial⟩, X, ex, ex4, ex10, ex14, ex16, ex19, ex21⟩ ?_
        rintro x43 _ wx ⟨Hi, ρ, rfl, X51, ex44, ex45, ex46, ex47, ex48, ex49, ex50⟩
        have H := H x43 Hi
        refine W_seq ?_
        refine W_region ?_
        refine LP_ev ok 0 [(29, .bool (decide (x43 < (ln x.Conditions))))] 1 rfl rfl ?_
        refine LP_end _ rfl ?_
        refine W_seq ?_
        refine W_cond (decide (x43 < (ln x.Conditions))) rfl (fun hc53 => ?_) (fun hc53 => ?_)
        · have H := H.1 hc53
          refine W_skip ?_
          refine W_seq ?_
          refine W_block ?_
          refine W_seq ?_
          refine W_region ?_
          refine LP_ev ok 0 [(30, I x43)] 1 rfl rfl ?_
          obtain ⟨x54, hi, hx55, H⟩ := H
          refine LP_index 1 rfl rfl rfl Try.underlying99 ti_124 rfl rfl r hi hx55 fun a56 cs r57 d58 => ?_
          have d59 := d58
          obtain ⟨u, rfl, r60⟩ := Condition_rd d59
          obtain ⟨a61, c62, rfl⟩ := r60.shape
          refine LP_load 2 rfl rfl rfl ti_124 ag_124 rfl r57 d58 ex44 fun vx63 r64 => ?_
          obtain ⟨u65, rfl, r66⟩ := Condition_rv r64
          obtain ⟨a67, c68, rfl⟩ := r66.shape
          refine LP_alloc 3 rfl rfl rfl ti_124 rfl fun b69 wx70 x71 ex72 f => ?_
          refine LP_ev ok 4 [(7, I x43)] 5 rfl rfl ?_
          refine LP_stbox 5 (vs := [.slice a67 (List.length x54.Amounts) c68, I x54.Value]) (cs' := [.slice a67 (List.length x54.Amounts) c68, I x54.Value]) rfl rfl rfl ti_124 rfl rfl rfl rfl rfl ex72 rfl rfl fun wx73 ex74 y => ?_
          refine LP_end _ rfl ?_
          refine W_seq ?_
          refine W_quiet mix (by kernel_rfl) ?_
          refine QP_ev ok 0 [(33, .pointer (some ⟨b20, 0, none⟩)), (34, .pointer (some ⟨b20, 0, none⟩)), (35, .pointer (some ⟨b20, 2, none⟩))] 3 rfl rfl ?_
          have ex75 := ((ex50.ext x71).but y (Dj.of_fresh ex50 f).symm)
          refine QP_ldbox 3 (v := .slice a11 (List.length x.Sums) c12) rfl rfl rfl ti_22 ag_22 (fun _ => rfl) rfl ex75 rfl rfl ?_
          refine QP_ev ok 4 [(37, I x43)] 5 rfl rfl ?_
          obtain ⟨x76, hi77, hx78, H⟩ := H
          refine QP_index 5 rfl rfl rfl Try.underlying22 ti_3 rfl rfl r9.readf hi77 hx78 fun a79 cs80 r81 d82 => ?_
          have ex83 := ((ex46.ext x71).but y (Dj.of_fresh ex46 f).symm)
          refine QP_load 6 rfl rfl rfl ti_3 ag_3 rfl r81 d82 ex83 fun vx84 r85 => ?_
          obtain rfl := r85.int
          refine QP_ev ok 7 [(40, .pointer (some ⟨b69, 1, none⟩))] 8 rfl rfl ?_
          refine QP_ldbox 8 (v := I x54.Value) rfl rfl rfl ti_3 ag_3 (fun _ => rfl) rfl ex74 rfl rfl ?_
          refine QP_ev ok 9 [(42, .bool (x76 != x54.Value))] 10 rfl rfl ?_
          refine QP_end _ rfl fun wx86 x87 => ?_
          refine W_cond (x76 != x54.Value) rfl (fun hc88 => ?_) (fun hc88 => ?_)
          · have H := H.1 hc88
            refine W_seq ?_
            refine W_region ?_
            refine LP_ev ok 0 [(6, .bool true)] 1 rfl rfl ?_
            refine LP_end _ rfl ?_
            refine W_ret ?_
            have ex89 := (((ex45.ext x71).but y (Dj.of_fresh ex45 f).symm).ext x87)
            have ex90 := (ex83.ext x87)
            have ex91 := (((ex47.ext x71).but y (Dj.of_fresh ex47 f).symm).ext x87)
            have ex92 := (ex75.ext x87)
            have f93 := f.mono X51.size
            have X94 := (((X51.stepx x71).step y (f93.dom _)).stepx x87)
            exact ⟨_, Ret_of [.bool true] ⟨⟨rfl, rfl⟩, trivial⟩, _, _, _, _, _, _, _, _, H, rfl, X94, r3, ex89, (Dom.le D _), r9, ex90, (Dom.le D39 _), ex91, ex92, d, d22, d23, d24, d25⟩
          have H := H.2 hc88
          refine W_skip ?_
          refine W_region ?_
          refine LP_ev ok 0 [(43, I (wr (x43 + 1))), (28, I (wr (x43 + 1)))] 2 rfl rfl ?_
          refine LP_end _ rfl ?_
          have f95 := f.mono X51.size
          have X96 := (((X51.stepx x71).step y (f95.dom _)).stepx x87)
          have ex97 := (((ex44.ext x71).but y (Dj.of_fresh ex44 f).symm).ext x87)
          have ex98 := (((ex45.ext x71).but y (Dj.of_fresh ex45 f).symm).ext x87)
          have ex99 := (ex83.ext x87)
          have ex100 := (((ex47.ext x71).but y (Dj.of_fresh ex47 f).symm).ext x87)
          have ex101 := (((ex48.ext x71).but y (Dj.of_fresh ex48 f).symm).ext x87)
          have ex102 := (((ex49.ext x71).but y (Dj.of_fresh ex49 f).symm).ext x87)
          have ex103 := (ex75.ext x87)
          exact ⟨wr (x43 + 1), ⟨H.1, _, env_eq ⟨rfl, rfl, rfl, rfl, trivial⟩, X96, ex97, ex98, ex99, ex100, ex101, ex102, ex103⟩, H.2⟩
        have H := H.2 hc53
        refine W_exit ?_
        refine (if_pos rfl).mpr ?_
        refine W_seq ?_
        refine W_open mix fun wx104 x105 => ?_
        refine AP_game 8 [[], [0], [0, 1], [0, 1, 2], [], [4], [4, 5], [4, 5, 6], [0, 1, 2, 3, 4, 5, 6, 7], [0, 1, 2, 3, 4, 5, 6, 7, 8]] [[(0, none)], [(44, some 0)], [(45, some 1)], [(46, some 2)], [(0, none)], [(48, some 4)], [(49, some 5)], [(50, some 6)]] [(47, some 3), (51, some 7)] [(0, false), (1, false), (2, false), (3, false), (4, false), (5, false), (6, false), (7, false)] (by kernel_rfl) (by kernel_rfl) ?_
        refine GS_ev ok [(0, .pointer (some ⟨b20, 0, none⟩))] (.pointer (some ⟨b20, 0, none⟩)) rfl rfl (fun _ h => h) (fun _ => rfl) ?_
        refine GS_ev ok [(44, .pointer (some ⟨b20, 0, none⟩))] (.pointer (some ⟨b20, 0, none⟩)) rfl rfl (fun _ h => h) (fun _ => rfl) ?_
        refine GS_ev ok [(45, .pointer (some ⟨b20, 0, none⟩))] (.pointer (some ⟨b20, 3, none⟩)) rfl rfl (fun _ h => h) (fun _ => rfl) ?_
        have ex106 := (ex50.ext x105)
        refine GS_r1 [(46, .pointer (some ⟨b20, 3, none⟩))] (.func (.func 64) #[] #[.pointer (some ⟨b, 0, none⟩), .pointer (some ⟨b15, 0, none⟩), .pointer (some ⟨b18, 0, none⟩)]) rfl rfl (fun _ h => h) (fun _ w e => ex_ldbox rfl ti_101 ag_101 (fun _ => rfl) rfl e rfl rfl) ex106 ?_
        refine GS_ev ok [(0, .pointer (some ⟨b20, 0, none⟩))] (.pointer (some ⟨b20, 0, none⟩)) rfl rfl (fun _ h => h) (fun _ => rfl) ?_
        refine GS_ev ok [(48, .pointer (some ⟨b20, 0, none⟩))] (.pointer (some ⟨b20, 0, none⟩)) rfl rfl (fun _ h => h) (fun _ => rfl) ?_
        refine GS_ev ok [(49, .pointer (some ⟨b20, 0, none⟩))] (.pointer (some ⟨b20, 1, none⟩)) rfl rfl (fun _ h => h) (fun _ => rfl) ?_
        refine GS_r1 [(50, .pointer (some ⟨b20, 1, none⟩))] (.slice a5 (List.length x.Counts) c6) rfl rfl (fun _ h => h) (fun _ w e => ex_ldbox rfl ti_22 ag_22 (fun _ => rfl) rfl e rfl rfl) ex106 ?_
        intro wx107 x108 ρ hn
        refine AP_forget [(47, .func (.func 64) #[] #[.pointer (some ⟨b, 0, none⟩), .pointer (some ⟨b15, 0, none⟩), .pointer (some ⟨b18, 0, none⟩)]), (51, .slice a5 (List.length x.Counts) c6)] (by exact hn) fun ρ => ?_
        refine AP_tail 8 [[], [0], [0, 1], [0, 1, 2], [], [4], [4, 5], [4, 5, 6], [0, 1, 2, 3, 4, 5, 6, 7], [0, 1, 2, 3, 4, 5, 6, 7, 8]] (by kernel_rfl) ?_
        have ex111 := ((ex45.ext x105).ext x108)
        have ex112 := ((ex47.ext x105).ext x108)
        have ex113 := ((ex48.ext x105).ext x108)
        have ex114 := ((ex49.ext x105).ext x108)
        refine LP_callc 8 rfl rfl rfl rfl cal_64 rfl rfl (impl_solutions_1_impl_IsSafeRelease_1_w _ _ _ _ H wx107 r3.readf ex111 ex112 ex113 ex114 d22.symm d34 d35) ?_
        rintro _ wx115 ⟨r109, r110, H, rfl, x116, ex117⟩
        refine LP_ev ok 9 [(6, .bool r109)] 10 rfl rfl ?_
        refine LP_end _ rfl ?_
        refine W_ret ?_
        have ex118 := (ex111.but x116 d22.symm)
        have ex119 := (((ex46.ext x105).ext x108).but x116 d24.symm)
        have ex120 := ((ex106.ext x108).but x116 d26)
        have X121 := (((X51.stepx x105).stepx x108).step x116 (Dom.le D40 _))
        exact ⟨_, Ret_of [.bool r109] ⟨⟨rfl, rfl⟩, trivial⟩, _, _, _, _, _, _, _, _, H, rfl, X121, r3, ex118, (Dom.le D _), r9, ex119, (Dom.le D39 _), ex117, ex120, d, (Dj.box d22.symm).symm, d23, (Dj.box d24.symm).symm, d25⟩
      have H := H.2 hc
      refine W_skip ?_
      obtain ⟨k154, hk, H⟩ := jn_elim H
      refine W_join2 (S := Int × (List Int) × (List Int)) (fun s ρ' w' => k154 s.1 s.2.1 s.2.2 ∧ ∃ (ρ : Env) (vx123 : Value) (hx124 : PH) (vx127 : Value) (hx128 : PH), ρ' = setAll [] ρ ∧ But (un hx2 (un hx8 (un (bx b 3 [I c13]) (bx b20 103 [.slice a (List.length x.Conditions) c, .slice a5 (List.length x.Counts) c6, .slice a11 (List.length x.Sums) c12, .func (.func 64) #[] #[.pointer (some ⟨b, 0, none⟩), .pointer (some ⟨b15, 0, none⟩), .pointer (some ⟨b18, 0, none⟩)]])))) w w' ∧ OS 3 hx124 emp vx123 s.2.1 ∧ Sub hx124 w' ∧ DomLe (un hx2 (un hx8 (un (bx b 3 [I c13]) (bx b20 103 [.slice a (List.length x.Conditions) c, .slice a5 (List.length x.Counts) c6, .slice a11 (List.length x.Sums) c12, .func (.func 64) #[] #[.pointer (some ⟨b, 0, none⟩), .pointer (some ⟨b15, 0, none⟩), .pointer (some ⟨b18, 0, none⟩)]])))) w.heap.size hx124 ∧ OS 3 hx128 emp vx127 s.2.2 ∧ Sub hx128 w' ∧ DomLe (un hx2 (un hx8 (un (bx b 3 [I c13]) (bx b20 103 [.slice a (List.length x.Conditions) c, .slice a5 (List.length x.Counts) c6, .slice a11 (List.length x.Sums) c12, .func (.func 64) #[] #[.pointer (some ⟨b, 0, none⟩), .pointer (some ⟨b15, 0, none⟩), .pointer (some ⟨b18, 0, none⟩)]])))) w.heap.size hx128 ∧ Sub hx w' ∧ Sub (bx b15 74 [.func (.func 36) #[] #[]]) w' ∧ Sub (bx b18 3 [I c17]) w' ∧ Sub (bx b 3 [I s.1]) w' ∧ Sub (bx b20 103 [.slice a (List.length x.Conditions) c, vx123, vx127, .func (.func 64) #[] #[.pointer (some ⟨b, 0, none⟩), .pointer (some ⟨b15, 0, none⟩), .pointer (some ⟨b18, 0, none⟩)]]) w' ∧ Dj hx124 hx ∧ Dj hx124 (bx b15 74 [.func (.func 36) #[] #[]]) ∧ Dj hx124 (bx b18 3 [I c17]) ∧ Dj hx124 (bx b 3 [I s.1]) ∧ Dj hx124 (bx b20 103 [.slice a (List.length x.Conditions) c, vx123, vx127, .func (.func 64) #[] #[.pointer (some ⟨b, 0, none⟩), .pointer (some ⟨b15, 0, none⟩), .pointer (some ⟨b18, 0, none⟩)]]) ∧ Dj hx128 hx ∧ Dj hx128 (bx b15 74 [.func (.func 36) #[] #[]]) ∧ Dj hx128 (bx b18 3 [I c17]) ∧ Dj hx128 (bx b 3 [I s.1]) ∧ Dj hx128 (bx b20 103 [.slice a (List.length x.Conditions) c, vx123, vx127, .func (.func 64) #[] #[.pointer (some ⟨b, 0, none⟩), .pointer (some ⟨b15, 0, none⟩), .pointer (some ⟨b18, 0, none⟩)]]) ∧ Dj hx128 hx124) ?_ ?_
      · refine W_seq ?_
        refine W_region ?_
        refine LP_ev ok 0 [(9, I 0)] 1 rfl rfl ?_
        refine LP_end _ rfl ?_
        refine W_block ?_
        obtain ⟨J190, m191, Hx192, H⟩ := H
        refine W_loop (S := Int × Int × (List Int) × (List Int)) (fun s ρ' w' => J190 s.1 s.2.1 s.2.2.1 s.2.2.2 ∧ ∃ (ρ : Env) (vx157 : Value) (hx158 : PH) (vx163 : Value) (hx164 : PH), ρ' = setAll [(0, .pointer (some ⟨b20, 0, none⟩)), (1, I k), (2, I left), (9, I s.1)] ρ ∧ But (un hx2 (un hx8 (un (bx b 3 [I c13]) (bx b20 103 [.slice a (List.length x.Conditions) c, .slice a5 (List.length x.Counts) c6, .slice a11 (List.length x.Sums) c12, .func (.func 64) #[] #[.pointer (some ⟨b, 0, none⟩), .pointer (some ⟨b15, 0, none⟩), .pointer (some ⟨b18, 0, none⟩)]])))) w w' ∧ OS 3 hx158 emp vx157 s.2.2.1 ∧ Sub hx158 w' ∧ DomLe (un hx2 (un hx8 (un (bx b 3 [I c13]) (bx b20 103 [.slice a (List.length x.Conditions) c, .slice a5 (List.length x.Counts) c6, .slice a11 (List.length x.Sums) c12, .func (.func 64) #[] #[.pointer (some ⟨b, 0, none⟩), .pointer (some ⟨b15, 0, none⟩), .pointer (some ⟨b18, 0, none⟩)]])))) w.heap.size hx158 ∧ OS 3 hx164 emp vx163 s.2.2.2 ∧ Sub hx164 w' ∧ DomLe (un hx2 (un hx8 (un (bx b 3 [I c13]) (bx b20 103 [.slice a (List.length x.Conditions) c, .slice a5 (List.length x.Counts) c6, .slice a11 (List.length x.Sums) c12, .func (.func 64) #[] #[.pointer (some ⟨b, 0, none⟩), .pointer (some ⟨b15, 0, none⟩), .pointer (some ⟨b18, 0, none⟩)]])))) w.heap.size hx164 ∧ Sub hx w' ∧ Sub (bx b15 74 [.func (.func 36) #[] #[]]) w' ∧ Sub (bx b18 3 [I c17]) w' ∧ Sub (bx b 3 [I s.2.1]) w' ∧ Sub (bx b20 103 [.slice a (List.length x.Conditions) c, vx157, vx163, .func (.func 64) #[] #[.pointer (some ⟨b, 0, none⟩), .pointer (some ⟨b15, 0, none⟩), .pointer (some ⟨b18, 0, none⟩)]]) w' ∧ Dj hx158 hx ∧ Dj hx158 (bx b15 74 [.func (.func 36) #[] #[]]) ∧ Dj hx158 (bx b18 3 [I c17]) ∧ Dj hx158 (bx b 3 [I s.2.1]) ∧ Dj hx158 (bx b20 103 [.slice a (List.length x.Conditions) c, vx157, vx163, .func (.func 64) #[] #[.pointer (some ⟨b, 0, none⟩), .pointer (some ⟨b15, 0, none⟩), .pointer (some ⟨b18, 0, none⟩)]]) ∧ Dj hx164 hx ∧ Dj hx164 (bx b15 74 [.func (.func 36) #[] #[]]) ∧ Dj hx164 (bx b18 3 [I c17]) ∧ Dj hx164 (bx b 3 [I s.2.1]) ∧ Dj hx164 (bx b20 103 [.slice a (List.length x.Conditions) c, vx157, vx163, .func (.func 64) #[] #[.pointer (some ⟨b, 0, none⟩), .pointer (some ⟨b15, 0, none⟩), .pointer (some ⟨b18, 0, none⟩)]]) ∧ Dj hx164 hx158) (fun s => m191 s.1 s.2.1 s.2.2.1 s.2.2.2) (0, c13, x.Counts, x.Sums) ⟨Hx192, _, .slice a5 (List.length x.Counts) c6, hx2, .slice a11 (List.length x.Sums) c12, hx8, env_eq ⟨rfl, rfl, rfl, rfl, trivial⟩, X, r3, ex4, (Dom.le D _), r9, ex10, (Dom.le D39 _), ex, ex16, ex19, ex14, ex21, d27, d28, d29, d22, d23, d30, d31, d32, d24, d25, d.symm⟩ ?_
        rintro ⟨n, x155, counts156, sums162⟩ _ wx168 ⟨Hi, ρ, vx157, hx158, vx163, hx164, rfl, X189, o159, ex160, f161, o165, ex166, f167, ex169, ex170, ex171, ex176, ex177, d178, d179, d180, d181, d182, d183, d184, d185, d186, d187, d188⟩
        have H := H n x155 counts156 sums162 Hi
        obtain ⟨a172, c173, rfl⟩ := o159.shape
        obtain ⟨a174, c175, rfl⟩ := o165.shape
        refine W_seq ?_
        refine W_seq ?_
        refine W_region ?_
        refine LP_ev ok 0 [(53, I n), (54, I left), (55, .bool (decide (n ≤ left)))] 3 rfl rfl ?_
        refine LP_end _ rfl ?_
        refine W_cond (decide (n ≤ left)) rfl (fun hc194 => ?_) (fun hc194 => ?_)
        · have H := H.1 hc194
          refine W_skip ?_
          refine W_seq ?_
          refine W_block ?_
          refine W_seq ?_
          refine W_region ?_
          refine LP_ev ok 0 [(10, .bool true)] 1 rfl rfl ?_
          refine LP_end _ rfl ?_
          refine W_seq ?_
          refine W_seq ?_
          refine W_region ?_
          refine LP_ev ok 0 [(58, .pointer (some ⟨b20, 0, none⟩)), (59, .pointer (some ⟨b20, 0, none⟩)), (60, .pointer (some ⟨b20, 0, none⟩))] 3 rfl rfl ?_
          refine LP_ldbox 3 (v := .slice a (List.length x.Conditions) c) rfl rfl rfl ti_99 ag_99 (fun _ => rfl) rfl ex177 rfl rfl ?_
          refine LP_ev ok 4 [(62, I (ln x.Conditions)), (63, I 0)] 6 rfl rfl ?_
          refine LP_end _ rfl ?_
          refine W_block ?_
          obtain ⟨J205, m206, Hx207, H⟩ := H
          refine W_loop (S := Bool × Int) (fun s ρ' w' => J205 s.1 s.2 ∧ ∃ (ρ : Env), ρ' = setAll [(0, .pointer (some ⟨b20, 0, none⟩)), (1, I k), (2, I left), (9, I n), (10, .bool s.1), (61, .slice a (List.length x.Conditions) c), (62, I (ln x.Conditions)), (63, I s.2)] ρ ∧ But (un hx2 (un hx8 (un (bx b 3 [I c13]) (bx b20 103 [.slice a (List.length x.Conditions) c, .slice a5 (List.length x.Counts) c6, .slice a11 (List.length x.Sums) c12, .func (.func 64) #[] #[.pointer (some ⟨b, 0, none⟩), .pointer (some ⟨b15, 0, none⟩), .pointer (some ⟨b18, 0, none⟩)]])))) w w' ∧ Sub hx w' ∧ Sub (bx b 3 [I x155]) w' ∧ Sub (bx b15 74 [.func (.func 36) #[] #[]]) w' ∧ Sub (bx b18 3 [I c17]) w' ∧ Sub (bx b20 103 [.slice a (List.length x.Conditions) c, .slice a172 (List.length counts156) c173, .slice a174 (List.length sums162) c175, .func (.func 64) #[] #[.pointer (some ⟨b, 0, none⟩), .pointer (some ⟨b15, 0, none⟩), .pointer (some ⟨b18, 0, none⟩)]]) w' ∧ Sub hx158 w' ∧ Sub hx164 w') (fun s => m206 s.1 s.2) (true, 0) ⟨Hx207, _, env_eq ⟨rfl, rfl, rfl, rfl, rfl, rfl, rfl, rfl, trivial⟩, X189, ex169, ex176, ex170, ex171, ex177, ex160, ex166⟩ ?_
          rintro ⟨fits, x195⟩ _ wx196 ⟨Hi, ρ, rfl, X204, ex197, ex198, ex199, ex200, ex201, ex202, ex203⟩
          have H := H fits x195 Hi
          refine W_seq ?_
          refine W_region ?_
          refine LP_ev ok 0 [(64, .bool (decide (x195 < (ln x.Conditions))))] 1 rfl rfl ?_
          refine LP_end _ rfl ?_
          refine W_seq ?_
          refine W_cond (decide (x195 < (ln x.Conditions))) rfl (fun hc209 => ?_) (fun hc209 => ?_)
          · have H := H.1 hc209
            refine W_skip ?_
            obtain ⟨k220, hk221, H⟩ := jn_elim H
            refine W_join2 (S := Bool) (fun s ρ' w' => k220 s ∧ ∃ (ρ : Env), ρ' = setAll [(0, .pointer (some ⟨b20, 0, none⟩)), (1, I k), (2, I left), (9, I n), (10, .bool s), (61, .slice a (List.length x.Conditions) c), (62, I (ln x.Conditions)), (63, I x195)] ρ ∧ But (un hx2 (un hx8 (un (bx b 3 [I c13]) (bx b20 103 [.slice a (List.length x.Conditions) c, .slice a5 (List.length x.Counts) c6, .slice a11 (List.length x.Sums) c12, .func (.func 64) #[] #[.pointer (some ⟨b, 0, none⟩), .pointer (some ⟨b15, 0, none⟩), .pointer (some ⟨b18, 0, none⟩)]])))) w w' ∧ Sub hx w' ∧ Sub (bx b 3 [I x155]) w' ∧ Sub (bx b15 74 [.func (.func 36) #[] #[]]) w' ∧ Sub (bx b18 3 [I c17]) w' ∧ Sub (bx b20 103 [.slice a (List.length x.Conditions) c, .slice a172 (List.length counts156) c173, .slice a174 (List.length sums162) c175, .func (.func 64) #[] #[.pointer (some ⟨b, 0, none⟩), .pointer (some ⟨b15, 0, none⟩), .pointer (some ⟨b18, 0, none⟩)]]) w' ∧ Sub hx158 w' ∧ Sub hx164 w') ?_ ?_
            · refine W_block ?_
              refine W_seq ?_
              refine W_region ?_
              refine LP_ev ok 0 [(65, I x195)] 1 rfl rfl ?_
              obtain ⟨x222, hi223, hx224, H⟩ := H
              refine LP_index 1 rfl rfl rfl Try.underlying99 ti_124 rfl rfl r hi223 hx224 fun a225 cs226 r227 d228 => ?_
              have d229 := d228
              obtain ⟨u230, rfl, r231⟩ := Condition_rd d229
              obtain ⟨a232, c233, rfl⟩ := r231.shape
              refine LP_load 2 rfl rfl rfl ti_124 ag_124 rfl r227 d228 ex197 fun vx234 r235 => ?_
              obtain ⟨u236, rfl, r237⟩ := Condition_rv r235
              obtain ⟨a238, c239, rfl⟩ := r237.shape
              refine LP_alloc 3 rfl rfl rfl ti_124 rfl fun b240 wx241 x242 ex243 f244 => ?_
              refine LP_ev ok 4 [(11, I x195)] 5 rfl rfl ?_
              refine LP_stbox 5 (vs := [.slice a238 (List.length x222.Amounts) c239, I x222.Value]) (cs' := [.slice a238 (List.length x222.Amounts) c239, I x222.Value]) rfl rfl rfl ti_124 rfl rfl rfl rfl rfl ex243 rfl rfl fun wx245 ex246 y247 => ?_
              refine LP_end _ rfl ?_
              refine W_quiet mix (by kernel_rfl) ?_
              refine QP_ev ok 0 [(68, .bool fits), (69, .bool fits)] 2 rfl rfl ?_
              refine QP_split 69 (fits) rfl (fun hc248 => ?_) (fun hc248 => ?_)
              · have H := H.1 hc248
                refine QP_ev ok 2 [(70, .pointer (some ⟨b20, 0, none⟩)), (71, .pointer (some ⟨b20, 0, none⟩)), (72, .pointer (some ⟨b20, 2, none⟩))] 5 rfl rfl ?_
                have ex249 := ((ex201.ext x242).but y247 (Dj.of_fresh ex201 f244).symm)
                refine QP_ldbox 5 (v := .slice a174 (List.length sums162) c175) rfl rfl rfl ti_22 ag_22 (fun _ => rfl) rfl ex249 rfl rfl ?_
                refine QP_ev ok 6 [(74, I x195)] 7 rfl rfl ?_
                obtain ⟨x250, hi251, hx252, H⟩ := H
                refine QP_index 7 rfl rfl rfl Try.underlying22 ti_3 rfl rfl o165.readf hi251 hx252 fun a253 cs254 r255 d256 => ?_
                have ex257 := ((ex203.ext x242).but y247 (Dj.of_fresh ex203 f244).symm)
                refine QP_load 8 rfl rfl rfl ti_3 ag_3 rfl r255 d256 ex257 fun vx258 r259 => ?_
                obtain rfl := r259.int
                refine QP_ev ok 9 [(77, I n), (78, .pointer (some ⟨b240, 0, none⟩))] 11 rfl rfl ?_
                refine QP_ldbox 11 (v := .slice a238 (List.length x222.Amounts) c239) rfl rfl rfl ti_22 ag_22 (fun _ => rfl) rfl ex246 rfl rfl ?_
                refine QP_ev ok 12 [(80, I k)] 13 rfl rfl ?_
                obtain ⟨x260, hi261, hx262, H⟩ := H
                refine QP_index 13 rfl rfl rfl Try.underlying22 ti_3 rfl rfl r237 hi261 hx262 fun a263 cs264 r265 d266 => ?_
                have ex267 := ((ex197.ext x242).but y247 (Dj.of_fresh ex197 f244).symm)
                refine QP_load 14 rfl rfl rfl ti_3 ag_3 rfl r265 d266 ex267 fun vx268 r269 => ?_
                obtain rfl := r269.int
                refine QP_ev ok 15 [(83, I (wr (n * x260))), (84, I (wr (x250 + (wr (n * x260))))), (85, .pointer (some ⟨b240, 1, none⟩))] 18 rfl rfl ?_
                refine QP_ldbox 18 (v := I x222.Value) rfl rfl rfl ti_3 ag_3 (fun _ => rfl) rfl ex246 rfl rfl ?_
                refine QP_ev ok 19 [(87, .bool (decide ((wr (x250 + (wr (n * x260)))) ≤ x222.Value))), (88, .bool (decide ((wr (x250 + (wr (n * x260)))) ≤ x222.Value))), (10, .bool (decide ((wr (x250 + (wr (n * x260)))) ≤ x222.Value)))] 22 rfl rfl ?_
                refine QP_end _ rfl fun wx270 x271 => ?_
                try refine W_forget [(0, .pointer (some ⟨b20, 0, none⟩)), (1, I k), (2, I left), (9, I n), (10, .bool (decide ((wr (x250 + (wr (n * x260)))) ≤ x222.Value))), (61, .slice a (List.length x.Conditions) c), (62, I (ln x.Conditions)), (63, I x195), (70, .pointer (some ⟨b20, 0, none⟩)), (71, .pointer (some ⟨b20, 0, none⟩)), (72, .pointer (some ⟨b20, 2, none⟩)), (73, .slice a174 (List.length sums162) c175), (74, I x195), (75, .pointer (some a253)), (76, I x250), (77, I n), (78, .pointer (some ⟨b240, 0, none⟩)), (79, .slice a238 (List.length x222.Amounts) c239), (80, I k), (81, .pointer (some a263)), (82, I x260), (83, I (wr (n * x260))), (84, I (wr (x250 + (wr (n * x260))))), (85, .pointer (some ⟨b240, 1, none⟩)), (86, I x222.Value), (87, .bool (decide ((wr (x250 + (wr (n * x260)))) ≤ x222.Value)))] ⟨rfl, rfl, rfl, rfl, rfl, rfl, rfl, rfl, rfl, rfl, rfl, rfl, rfl, rfl, rfl, rfl, rfl, rfl, rfl, rfl, rfl, rfl, rfl, rfl, rfl, rfl, trivial⟩ fun ρ => ?_
                have f272 := f244.mono X204.size
                have X273 := (((X204.stepx x242).step y247 (f272.dom _)).stepx x271)
                have ex274 := (ex267.ext x271)
                have ex275 := (((ex198.ext x242).but y247 (Dj.of_fresh ex198 f244).symm).ext x271)
                have ex276 := (((ex199.ext x242).but y247 (Dj.of_fresh ex199 f244).symm).ext x271)
                have ex277 := (((ex200.ext x242).but y247 (Dj.of_fresh ex200 f244).symm).ext x271)
                have ex278 := (ex249.ext x271)
                have ex279 := (((ex202.ext x242).but y247 (Dj.of_fresh ex202 f244).symm).ext x271)
                have ex280 := (ex257.ext x271)
                exact ⟨decide ((wr (x250 + (wr (n * x260)))) ≤ x222.Value), H, _, env_eq ⟨rfl, rfl, rfl, rfl, rfl, rfl, rfl, rfl, trivial⟩, X273, ex274, ex275, ex276, ex277, ex278, ex279, ex280⟩
              have H := H.2 hc248
              refine QP_ev ok 2 [(70, undef), (71, undef), (72, undef), (73, undef), (74, undef), (75, undef), (76, undef), (77, undef), (78, undef), (79, undef), (80, undef), (81, undef), (82, undef), (83, undef), (84, undef), (85, undef), (86, undef), (87, undef), (88, .bool false), (10, .bool false)] 22 rfl rfl ?_
              refine QP_end _ rfl fun wx281 x282 => ?_
              try refine W_forget [(0, .pointer (some ⟨b20, 0, none⟩)), (1, I k), (2, I left), (9, I n), (10, .bool false), (61, .slice a (List.length x.Conditions) c), (62, I (ln x.Conditions)), (63, I x195)] ⟨rfl, rfl, rfl, rfl, rfl, rfl, rfl, rfl, trivial⟩ fun ρ => ?_
              have f283 := f244.mono X204.size
              have X284 := (((X204.stepx x242).step y247 (f283.dom _)).stepx x282)
              have ex285 := (((ex197.ext x242).but y247 (Dj.of_fresh ex197 f244).symm).ext x282)
              have ex286 := (((ex198.ext x242).but y247 (Dj.of_fresh ex198 f244).symm).ext x282)
              have ex287 := (((ex199.ext x242).but y247 (Dj.of_fresh ex199 f244).symm).ext x282)
              have ex288 := (((ex200.ext x242).but y247 (Dj.of_fresh ex200 f244).symm).ext x282)
              have ex289 := (((ex201.ext x242).but y247 (Dj.of_fresh ex201 f244).symm).ext x282)
              have ex290 := (((ex202.ext x242).but y247 (Dj.of_fresh ex202 f244).symm).ext x282)
              have ex291 := (((ex203.ext x242).but y247 (Dj.of_fresh ex203 f244).symm).ext x282)
              exact ⟨false, H, _, env_eq ⟨rfl, rfl, rfl, rfl, rfl, rfl, rfl, rfl, trivial⟩, X284, ex285, ex286, ex287, ex288, ex289, ex290, ex291⟩
            rintro fits210 _ wx211 ⟨H, ρ, rfl, X219, ex212, ex213, ex214, ex215, ex216, ex217, ex218⟩
            subst hk221
            refine W_region ?_
            refine LP_ev ok 0 [(89, I (wr (x195 + 1))), (63, I (wr (x195 + 1)))] 2 rfl rfl ?_
            refine LP_end _ rfl ?_
            exact ⟨(fits210, wr (x195 + 1)), ⟨H.1, _, env_eq ⟨rfl, rfl, rfl, rfl, rfl, rfl, rfl, rfl, trivial⟩, X219, ex212, ex213, ex214, ex215, ex216, ex217, ex218⟩, H.2⟩
          have H := H.2 hc209
          refine W_exit ?_
          refine (if_pos rfl).mpr ?_
          refine W_seq ?_
          refine W_seq ?_
          refine W_region ?_
          refine LP_ev ok 0 [(90, .bool fits), (91, .bool (!fits))] 2 rfl rfl ?_
          refine LP_end _ rfl ?_
          refine W_cond (!fits) rfl (fun hc292 => ?_) (fun hc292 => ?_)
          · have H := H.1 hc292
            refine W_exit ?_
            refine (if_neg (by decide)).mpr ?_
            refine (if_pos rfl).mpr ?_
            exact ⟨(x155, counts156, sums162), H, _, .slice a172 (List.length counts156) c173, hx158, .slice a174 (List.length sums162) c175, hx164, env_eq trivial, X204, o159, ex202, f161, o165, ex203, f167, ex197, ex199, ex200, ex198, ex201, d178, d179, d180, d181, d182, d183, d184, d185, d186, d187, d188⟩
          have H := H.2 hc292
          refine W_skip ?_
          refine W_seq ?_
          refine W_region ?_
          refine LP_ev ok 0 [(92, .pointer (some ⟨b20, 0, none⟩)), (93, I k), (94, I n)] 3 rfl rfl ?_
          refine LP_call 3 rfl rfl rfl cal_96 rfl (impl_search_add_impl_solutions_1_impl_IsSafeRelease_1_w _ _ _ _ _ _ H wx196 r ex197 o159 ex202 o165 ex203 ex198 ex199 ex200 ex201 d188.symm d182 d187 d178 d181 d179 d180 d183 d186 d184 d185 (Dj.box d36) (Dj.box (Dj.box d26.symm).symm).symm (Dj.box d37) (Dj.box d38)) ?_
          rintro _ wx295 ⟨r293, r294, vx300, hx297, vx305, hx301, H, rfl, x296, o298, ex299, dm, o302, ex303, dm304, ex306, d307, d308, d309⟩
          obtain ⟨a310, c311, rfl⟩ := o298.shape
          obtain ⟨a312, c313, rfl⟩ := o302.shape
          refine LP_end _ rfl ?_
          refine W_seq ?_
          refine W_region ?_
          refine LP_ev ok 0 [(96, .pointer (some ⟨b20, 0, none⟩)), (97, I k), (98, I (wr (k + 1))), (99, I left), (100, I n), (101, I (wr (left - n)))] 6 rfl rfl ?_
          have ex318 := (ex197.but x296 (Dj.un_l d178 (Dj.un_l d183 (Dj.box d36))))
          have ex319 := (ex198.but x296 (Dj.un_l d181 (Dj.un_l d186 (Dj.box (Dj.box d26.symm).symm).symm)))
          have ex320 := (ex199.but x296 (Dj.un_l d179 (Dj.un_l d184 (Dj.box d37))))
          have ex321 := (ex200.but x296 (Dj.un_l d180 (Dj.un_l d185 (Dj.box d38))))
          refine LP_call 6 rfl rfl rfl cal_65 rfl (ih _ _ _ _ _ _ H.1 (Nat.lt_of_lt_of_le H.2 (Nat.le_of_lt_succ hm)) wx295 r ex318 o298 ex299 o302 ex303 ex319 ex320 ex321 ex306 d307 (DomLe.dj dm (Dj.un_l d181 (Dj.un_l d186 (Dj.box (Dj.box d26.symm).symm).symm)) ex198) d308 (DomLe.dj dm304 (Dj.un_l d181 (Dj.un_l d186 (Dj.box (Dj.box d26.symm).symm).symm)) ex198) d309 (Dj.box (Dj.box d26).symm).symm (DomLe.dj dm (Dj.un_l d178 (Dj.un_l d183 (Dj.box d36))) ex197) (DomLe.dj dm (Dj.un_l d179 (Dj.un_l d184 (Dj.box d37))) ex199) (DomLe.dj dm (Dj.un_l d180 (Dj.un_l d185 (Dj.box d38))) ex200) (DomLe.dj dm304 (Dj.un_l d178 (Dj.un_l d183 (Dj.box d36))) ex197) (DomLe.dj dm304 (Dj.un_l d179 (Dj.un_l d184 (Dj.box d37))) ex199) (DomLe.dj dm304 (Dj.un_l d180 (Dj.un_l d185 (Dj.box d38))) ex200) (Dj.box d33) (Dj.box d34) (Dj.box d35) (Dj.box d36) (Dj.box d37) (Dj.box d38)) ?_
          rintro _ wx322 ⟨r314, r315, r316, r317, vx328, hx324, vx333, hx329, H, rfl, x323, o325, ex326, dm327, o330, ex331, dm332, ex334, ex335, d336, d337, d338, d339, d340⟩
          obtain ⟨a341, c342, rfl⟩ := o325.shape
          obtain ⟨a343, c344, rfl⟩ := o330.shape
          refine LP_ev ok 7 [(13, .bool r314)] 8 rfl rfl ?_
          refine LP_end _ rfl ?_
          refine W_seq ?_
          refine W_region ?_
          refine LP_ev ok 0 [(103, .pointer (some ⟨b20, 0, none⟩)), (104, I k), (105, I n), (106, I (wr (0 - n)))] 4 rfl rfl ?_
          have ex347 := (ex318.but x323 (Dj.un_l (DomLe.dj dm (Dj.un_l d178 (Dj.un_l d183 (Dj.box d36))) ex197) (Dj.un_l (DomLe.dj dm304 (Dj.un_l d178 (Dj.un_l d183 (Dj.box d36))) ex197) (Dj.un_l (Dj.box d33) (Dj.box d36)))))
          have ex348 := (ex320.but x323 (Dj.un_l (DomLe.dj dm (Dj.un_l d179 (Dj.un_l d184 (Dj.box d37))) ex199) (Dj.un_l (DomLe.dj dm304 (Dj.un_l d179 (Dj.un_l d184 (Dj.box d37))) ex199) (Dj.un_l (Dj.box d34) (Dj.box d37)))))
          have ex349 := (ex321.but x323 (Dj.un_l (DomLe.dj dm (Dj.un_l d180 (Dj.un_l d185 (Dj.box d38))) ex200) (Dj.un_l (DomLe.dj dm304 (Dj.un_l d180 (Dj.un_l d185 (Dj.box d38))) ex200) (Dj.un_l (Dj.box d35) (Dj.box d38)))))
          refine LP_call 4 rfl rfl rfl cal_96 rfl (impl_search_add_impl_solutions_1_impl_IsSafeRelease_1_w _ _ _ _ _ _ H wx322 r ex347 o325 ex326 o330 ex331 ex334 ex348 ex349 ex335 d336 d338 d340 (DomLe.dj dm327 (Dj.un_l (DomLe.dj dm (Dj.un_l d178 (Dj.un_l d183 (Dj.box d36))) ex197) (Dj.un_l (DomLe.dj dm304 (Dj.un_l d178 (Dj.un_l d183 (Dj.box d36))) ex197) (Dj.un_l (Dj.box d33) (Dj.box d36)))) ex318) d337 (DomLe.dj dm327 (Dj.un_l (DomLe.dj dm (Dj.un_l d179 (Dj.un_l d184 (Dj.box d37))) ex199) (Dj.un_l (DomLe.dj dm304 (Dj.un_l d179 (Dj.un_l d184 (Dj.box d37))) ex199) (Dj.un_l (Dj.box d34) (Dj.box d37)))) ex320) (DomLe.dj dm327 (Dj.un_l (DomLe.dj dm (Dj.un_l d180 (Dj.un_l d185 (Dj.box d38))) ex200) (Dj.un_l (DomLe.dj dm304 (Dj.un_l d180 (Dj.un_l d185 (Dj.box d38))) ex200) (Dj.un_l (Dj.box d35) (Dj.box d38)))) ex321) (DomLe.dj dm332 (Dj.un_l (DomLe.dj dm (Dj.un_l d178 (Dj.un_l d183 (Dj.box d36))) ex197) (Dj.un_l (DomLe.dj dm304 (Dj.un_l d178 (Dj.un_l d183 (Dj.box d36))) ex197) (Dj.un_l (Dj.box d33) (Dj.box d36)))) ex318) d339 (DomLe.dj dm332 (Dj.un_l (DomLe.dj dm (Dj.un_l d179 (Dj.un_l d184 (Dj.box d37))) ex199) (Dj.un_l (DomLe.dj dm304 (Dj.un_l d179 (Dj.un_l d184 (Dj.box d37))) ex199) (Dj.un_l (Dj.box d34) (Dj.box d37)))) ex320) (DomLe.dj dm332 (Dj.un_l (DomLe.dj dm (Dj.un_l d180 (Dj.un_l d185 (Dj.box d38))) ex200) (Dj.un_l (DomLe.dj dm304 (Dj.un_l d180 (Dj.un_l d185 (Dj.box d38))) ex200) (Dj.un_l (Dj.box d35) (Dj.box d38)))) ex321) (Dj.box d36) (Dj.box (Dj.box d26.symm).symm).symm (Dj.box d37) (Dj.box d38)) ?_
          rintro _ wx350 ⟨r345, r346, vx356, hx352, vx361, hx357, H, rfl, x351, o353, ex354, dm355, o358, ex359, dm360, ex362, d363, d364, d365⟩
          obtain ⟨a366, c367, rfl⟩ := o353.shape
          obtain ⟨a368, c369, rfl⟩ := o358.shape
          refine LP_end _ rfl ?_
          refine W_seq ?_
          refine W_region ?_
          refine LP_ev ok 0 [(108, .bool r314), (109, .bool (!r314))] 2 rfl rfl ?_
          refine LP_end _ rfl ?_
          refine W_cond (!r314) rfl (fun hc370 => ?_) (fun hc370 => ?_)
          · have H := H.1 hc370
            refine W_seq ?_
            refine W_region ?_
            refine LP_ev ok 0 [(6, .bool false)] 1 rfl rfl ?_
            refine LP_end _ rfl ?_
            refine W_ret ?_
            have X371 := (X204.step x296 (DomLe.un f161 (DomLe.un f167 (DomLe.dom D41 single_dom))))
            have X372 := (X371.step x323 (DomLe.un (DomLe.trans (DomLe.un f161 (DomLe.un f167 (DomLe.dom D41 single_dom))) dm X204.size) (DomLe.un (DomLe.trans (DomLe.un f161 (DomLe.un f167 (DomLe.dom D41 single_dom))) dm304 X204.size) (DomLe.un (DomLe.dom D40 single_dom) (DomLe.dom D41 single_dom)))))
            have ex373 := (ex334.but x351 (Dj.un_l d337 (Dj.un_l d339 (Dj.box (Dj.box d26.symm).symm).symm)))
            have X374 := (X372.step x351 (DomLe.un (DomLe.trans (DomLe.un (DomLe.trans (DomLe.un f161 (DomLe.un f167 (DomLe.dom D41 single_dom))) dm X204.size) (DomLe.un (DomLe.trans (DomLe.un f161 (DomLe.un f167 (DomLe.dom D41 single_dom))) dm304 X204.size) (DomLe.un (DomLe.dom D40 single_dom) (DomLe.dom D41 single_dom)))) dm327 X371.size) (DomLe.un (DomLe.trans (DomLe.un (DomLe.trans (DomLe.un f161 (DomLe.un f167 (DomLe.dom D41 single_dom))) dm X204.size) (DomLe.un (DomLe.trans (DomLe.un f161 (DomLe.un f167 (DomLe.dom D41 single_dom))) dm304 X204.size) (DomLe.un (DomLe.dom D40 single_dom) (DomLe.dom D41 single_dom)))) dm332 X371.size) (DomLe.dom D41 single_dom))))
            exact ⟨_, Ret_of [.bool false] ⟨⟨rfl, rfl⟩, trivial⟩, _, _, _, _, _, _, _, _, H, rfl, X374, o353, ex354, (DomLe.trans (DomLe.un (DomLe.trans (DomLe.un (DomLe.trans (DomLe.un f161 (DomLe.un f167 (DomLe.dom D41 single_dom))) dm X204.size) (DomLe.un (DomLe.trans (DomLe.un f161 (DomLe.un f167 (DomLe.dom D41 single_dom))) dm304 X204.size) (DomLe.un (DomLe.dom D40 single_dom) (DomLe.dom D41 single_dom)))) dm327 X371.size) (DomLe.un (DomLe.trans (DomLe.un (DomLe.trans (DomLe.un f161 (DomLe.un f167 (DomLe.dom D41 single_dom))) dm X204.size) (DomLe.un (DomLe.trans (DomLe.un f161 (DomLe.un f167 (DomLe.dom D41 single_dom))) dm304 X204.size) (DomLe.un (DomLe.dom D40 single_dom) (DomLe.dom D41 single_dom)))) dm332 X371.size) (DomLe.dom D41 single_dom))) dm355 X372.size), o358, ex359, (DomLe.trans (DomLe.un (DomLe.trans (DomLe.un (DomLe.trans (DomLe.un f161 (DomLe.un f167 (DomLe.dom D41 single_dom))) dm X204.size) (DomLe.un (DomLe.trans (DomLe.un f161 (DomLe.un f167 (DomLe.dom D41 single_dom))) dm304 X204.size) (DomLe.un (DomLe.dom D40 single_dom) (DomLe.dom D41 single_dom)))) dm327 X371.size) (DomLe.un (DomLe.trans (DomLe.un (DomLe.trans (DomLe.un f161 (DomLe.un f167 (DomLe.dom D41 single_dom))) dm X204.size) (DomLe.un (DomLe.trans (DomLe.un f161 (DomLe.un f167 (DomLe.dom D41 single_dom))) dm304 X204.size) (DomLe.un (DomLe.dom D40 single_dom) (DomLe.dom D41 single_dom)))) dm332 X371.size) (DomLe.dom D41 single_dom))) dm360 X372.size), ex373, ex362, d363, (DomLe.dj dm355 (Dj.un_l d337 (Dj.un_l d339 (Dj.box (Dj.box d26.symm).symm).symm)) ex334), d364, (DomLe.dj dm360 (Dj.un_l d337 (Dj.un_l d339 (Dj.box (Dj.box d26.symm).symm).symm)) ex334), d365⟩
          have H := H.2 hc370
          refine W_skip ?_
          refine W_region ?_
          refine LP_ev ok 0 [(56, I n), (57, I (wr (n + 1))), (9, I (wr (n + 1)))] 3 rfl rfl ?_
          refine LP_end _ rfl ?_
          try refine W_forget [(0, .pointer (some ⟨b20, 0, none⟩)), (1, I k), (2, I left), (9, I (wr (n + 1)))] ⟨rfl, rfl, rfl, rfl, trivial⟩ fun ρ => ?_
          have X375 := (X204.step x296 (DomLe.un f161 (DomLe.un f167 (DomLe.dom D41 single_dom))))
          have X376 := (((X204.step x296 (DomLe.un f161 (DomLe.un f167 (DomLe.dom D41 single_dom)))).step x323 (DomLe.un (DomLe.trans (DomLe.un f161 (DomLe.un f167 (DomLe.dom D41 single_dom))) dm X204.size) (DomLe.un (DomLe.trans (DomLe.un f161 (DomLe.un f167 (DomLe.dom D41 single_dom))) dm304 X204.size) (DomLe.un (DomLe.dom D40 single_dom) (DomLe.dom D41 single_dom))))).step x351 (DomLe.un (DomLe.trans (DomLe.un (DomLe.trans (DomLe.un f161 (DomLe.un f167 (DomLe.dom D41 single_dom))) dm X204.size) (DomLe.un (DomLe.trans (DomLe.un f161 (DomLe.un f167 (DomLe.dom D41 single_dom))) dm304 X204.size) (DomLe.un (DomLe.dom D40 single_dom) (DomLe.dom D41 single_dom)))) dm327 X375.size) (DomLe.un (DomLe.trans (DomLe.un (DomLe.trans (DomLe.un f161 (DomLe.un f167 (DomLe.dom D41 single_dom))) dm X204.size) (DomLe.un (DomLe.trans (DomLe.un f161 (DomLe.un f167 (DomLe.dom D41 single_dom))) dm304 X204.size) (DomLe.un (DomLe.dom D40 single_dom) (DomLe.dom D41 single_dom)))) dm332 X375.size) (DomLe.dom D41 single_dom))))
          have X377 := (X375.step x323 (DomLe.un (DomLe.trans (DomLe.un f161 (DomLe.un f167 (DomLe.dom D41 single_dom))) dm X204.size) (DomLe.un (DomLe.trans (DomLe.un f161 (DomLe.un f167 (DomLe.dom D41 single_dom))) dm304 X204.size) (DomLe.un (DomLe.dom D40 single_dom) (DomLe.dom D41 single_dom)))))
          have ex378 := (ex347.but x351 (Dj.un_l (DomLe.dj dm327 (Dj.un_l (DomLe.dj dm (Dj.un_l d178 (Dj.un_l d183 (Dj.box d36))) ex197) (Dj.un_l (DomLe.dj dm304 (Dj.un_l d178 (Dj.un_l d183 (Dj.box d36))) ex197) (Dj.un_l (Dj.box d33) (Dj.box d36)))) ex318) (Dj.un_l (DomLe.dj dm332 (Dj.un_l (DomLe.dj dm (Dj.un_l d178 (Dj.un_l d183 (Dj.box d36))) ex197) (Dj.un_l (DomLe.dj dm304 (Dj.un_l d178 (Dj.un_l d183 (Dj.box d36))) ex197) (Dj.un_l (Dj.box d33) (Dj.box d36)))) ex318) (Dj.box d36))))
          have ex379 := (ex348.but x351 (Dj.un_l (DomLe.dj dm327 (Dj.un_l (DomLe.dj dm (Dj.un_l d179 (Dj.un_l d184 (Dj.box d37))) ex199) (Dj.un_l (DomLe.dj dm304 (Dj.un_l d179 (Dj.un_l d184 (Dj.box d37))) ex199) (Dj.un_l (Dj.box d34) (Dj.box d37)))) ex320) (Dj.un_l (DomLe.dj dm332 (Dj.un_l (DomLe.dj dm (Dj.un_l d179 (Dj.un_l d184 (Dj.box d37))) ex199) (Dj.un_l (DomLe.dj dm304 (Dj.un_l d179 (Dj.un_l d184 (Dj.box d37))) ex199) (Dj.un_l (Dj.box d34) (Dj.box d37)))) ex320) (Dj.box d37))))
          have ex380 := (ex349.but x351 (Dj.un_l (DomLe.dj dm327 (Dj.un_l (DomLe.dj dm (Dj.un_l d180 (Dj.un_l d185 (Dj.box d38))) ex200) (Dj.un_l (DomLe.dj dm304 (Dj.un_l d180 (Dj.un_l d185 (Dj.box d38))) ex200) (Dj.un_l (Dj.box d35) (Dj.box d38)))) ex321) (Dj.un_l (DomLe.dj dm332 (Dj.un_l (DomLe.dj dm (Dj.un_l d180 (Dj.un_l d185 (Dj.box d38))) ex200) (Dj.un_l (DomLe.dj dm304 (Dj.un_l d180 (Dj.un_l d185 (Dj.box d38))) ex200) (Dj.un_l (Dj.box d35) (Dj.box d38)))) ex321) (Dj.box d38))))
          have ex381 := (ex334.but x351 (Dj.un_l d337 (Dj.un_l d339 (Dj.box (Dj.box d26.symm).symm).symm)))
          exact ⟨(wr (n + 1), r317, r345, r346), ⟨H.1, _, .slice a366 (List.length r345) c367, hx352, .slice a368 (List.length r346) c369, hx357, env_eq ⟨rfl, rfl, rfl, rfl, trivial⟩, X376, o353, ex354, (DomLe.trans (DomLe.un (DomLe.trans (DomLe.un (DomLe.trans (DomLe.un f161 (DomLe.un f167 (DomLe.dom D41 single_dom))) dm X204.size) (DomLe.un (DomLe.trans (DomLe.un f161 (DomLe.un f167 (DomLe.dom D41 single_dom))) dm304 X204.size) (DomLe.un (DomLe.dom D40 single_dom) (DomLe.dom D41 single_dom)))) dm327 X375.size) (DomLe.un (DomLe.trans (DomLe.un (DomLe.trans (DomLe.un f161 (DomLe.un f167 (DomLe.dom D41 single_dom))) dm X204.size) (DomLe.un (DomLe.trans (DomLe.un f161 (DomLe.un f167 (DomLe.dom D41 single_dom))) dm304 X204.size) (DomLe.un (DomLe.dom D40 single_dom) (DomLe.dom D41 single_dom)))) dm332 X375.size) (DomLe.dom D41 single_dom))) dm355 X377.size), o358, ex359, (DomLe.trans (DomLe.un (DomLe.trans (DomLe.un (DomLe.trans (DomLe.un f161 (DomLe.un f167 (DomLe.dom D41 single_dom))) dm X204.size) (DomLe.un (DomLe.trans (DomLe.un f161 (DomLe.un f167 (DomLe.dom D41 single_dom))) dm304 X204.size) (DomLe.un (DomLe.dom D40 single_dom) (DomLe.dom D41 single_dom)))) dm327 X375.size) (DomLe.un (DomLe.trans (DomLe.un (DomLe.trans (DomLe.un f161 (DomLe.un f167 (DomLe.dom D41 single_dom))) dm X204.size) (DomLe.un (DomLe.trans (DomLe.un f161 (DomLe.un f167 (DomLe.dom D41 single_dom))) dm304 X204.size) (DomLe.un (DomLe.dom D40 single_dom) (DomLe.dom D41 single_dom)))) dm332 X375.size) (DomLe.dom D41 single_dom))) dm360 X377.size), ex378, ex379, ex380, ex381, ex362, (DomLe.dj dm355 (Dj.un_l (DomLe.dj dm327 (Dj.un_l (DomLe.dj dm (Dj.un_l d178 (Dj.un_l d183 (Dj.box d36))) ex197) (Dj.un_l (DomLe.dj dm304 (Dj.un_l d178 (Dj.un_l d183 (Dj.box d36))) ex197) (Dj.un_l (Dj.box d33) (Dj.box d36)))) ex318) (Dj.un_l (DomLe.dj dm332 (Dj.un_l (DomLe.dj dm (Dj.un_l d178 (Dj.un_l d183 (Dj.box d36))) ex197) (Dj.un_l (DomLe.dj dm304 (Dj.un_l d178 (Dj.un_l d183 (Dj.box d36))) ex197) (Dj.un_l (Dj.box d33) (Dj.box d36)))) ex318) (Dj.box d36))) ex347), (DomLe.dj dm355 (Dj.un_l (DomLe.dj dm327 (Dj.un_l (DomLe.dj dm (Dj.un_l d179 (Dj.un_l d184 (Dj.box d37))) ex199) (Dj.un_l (DomLe.dj dm304 (Dj.un_l d179 (Dj.un_l d184 (Dj.box d37))) ex199) (Dj.un_l (Dj.box d34) (Dj.box d37)))) ex320) (Dj.un_l (DomLe.dj dm332 (Dj.un_l (DomLe.dj dm (Dj.un_l d179 (Dj.un_l d184 (Dj.box d37))) ex199) (Dj.un_l (DomLe.dj dm304 (Dj.un_l d179 (Dj.un_l d184 (Dj.box d37))) ex199) (Dj.un_l (Dj.box d34) (Dj.box d37)))) ex320) (Dj.box d37))) ex348), (DomLe.dj dm355 (Dj.un_l (DomLe.dj dm327 (Dj.un_l (DomLe.dj dm (Dj.un_l d180 (Dj.un_l d185 (Dj.box d38))) ex200) (Dj.un_l (DomLe.dj dm304 (Dj.un_l d180 (Dj.un_l d185 (Dj.box d38))) ex200) (Dj.un_l (Dj.box d35) (Dj.box d38)))) ex321) (Dj.un_l (DomLe.dj dm332 (Dj.un_l (DomLe.dj dm (Dj.un_l d180 (Dj.un_l d185 (Dj.box d38))) ex200) (Dj.un_l (DomLe.dj dm304 (Dj.un_l d180 (Dj.un_l d185 (Dj.box d38))) ex200) (Dj.un_l (Dj.box d35) (Dj.box d38)))) ex321) (Dj.box d38))) ex349), (DomLe.dj dm355 (Dj.un_l d337 (Dj.un_l d339 (Dj.box (Dj.box d26.symm).symm).symm)) ex334), d364, (DomLe.dj dm360 (Dj.un_l (DomLe.dj dm327 (Dj.un_l (DomLe.dj dm (Dj.un_l d178 (Dj.un_l d183 (Dj.box d36))) ex197) (Dj.un_l (DomLe.dj dm304 (Dj.un_l d178 (Dj.un_l d183 (Dj.box d36))) ex197) (Dj.un_l (Dj.box d33) (Dj.box d36)))) ex318) (Dj.un_l (DomLe.dj dm332 (Dj.un_l (DomLe.dj dm (Dj.un_l d178 (Dj.un_l d183 (Dj.box d36))) ex197) (Dj.un_l (DomLe.dj dm304 (Dj.un_l d178 (Dj.un_l d183 (Dj.box d36))) ex197) (Dj.un_l (Dj.box d33) (Dj.box d36)))) ex318) (Dj.box d36))) ex347), (DomLe.dj dm360 (Dj.un_l (DomLe.dj dm327 (Dj.un_l (DomLe.dj dm (Dj.un_l d179 (Dj.un_l d184 (Dj.box d37))) ex199) (Dj.un_l (DomLe.dj dm304 (Dj.un_l d179 (Dj.un_l d184 (Dj.box d37))) ex199) (Dj.un_l (Dj.box d34) (Dj.box d37)))) ex320) (Dj.un_l (DomLe.dj dm332 (Dj.un_l (DomLe.dj dm (Dj.un_l d179 (Dj.un_l d184 (Dj.box d37))) ex199) (Dj.un_l (DomLe.dj dm304 (Dj.un_l d179 (Dj.un_l d184 (Dj.box d37))) ex199) (Dj.un_l (Dj.box d34) (Dj.box d37)))) ex320) (Dj.box d37))) ex348), (DomLe.dj dm360 (Dj.un_l (DomLe.dj dm327 (Dj.un_l (DomLe.dj dm (Dj.un_l d180 (Dj.un_l d185 (Dj.box d38))) ex200) (Dj.un_l (DomLe.dj dm304 (Dj.un_l d180 (Dj.un_l d185 (Dj.box d38))) ex200) (Dj.un_l (Dj.box d35) (Dj.box d38)))) ex321) (Dj.un_l (DomLe.dj dm332 (Dj.un_l (DomLe.dj dm (Dj.un_l d180 (Dj.un_l d185 (Dj.box d38))) ex200) (Dj.un_l (DomLe.dj dm304 (Dj.un_l d180 (Dj.un_l d185 (Dj.box d38))) ex200) (Dj.un_l (Dj.box d35) (Dj.box d38)))) ex321) (Dj.box d38))) ex349), (DomLe.dj dm360 (Dj.un_l d337 (Dj.un_l d339 (Dj.box (Dj.box d26.symm).symm).symm)) ex334), d365, d363.symm⟩, H.2⟩
        have H := H.2 hc194
        refine W_exit ?_
        refine (if_pos rfl).mpr ?_
        exact ⟨(x155, counts156, sums162), H, _, .slice a172 (List.length counts156) c173, hx158, .slice a174 (List.length sums162) c175, hx164, env_eq trivial, X189, o159, ex160, f161, o165, ex166, f167, ex169, ex170, ex171, ex176, ex177, d178, d179, d180, d181, d182, d183, d184, d185, d186, d187, d188⟩
      rintro ⟨x122, counts, sums⟩ _ wx132 ⟨H, ρ, vx123, hx124, vx127, hx128, rfl, X153, o, ex125, f126, o129, ex130, f131, ex133, ex134, ex135, ex140, ex141, d142, d143, d144, d145, d146, d147, d148, d149, d150, d151, d152⟩
      subst hk
      obtain ⟨a136, c137, rfl⟩ := o.shape
      obtain ⟨a138, c139, rfl⟩ := o129.shape
      refine W_seq ?_
      refine W_region ?_
      refine LP_ev ok 0 [(6, .bool true)] 1 rfl rfl ?_
      refine LP_end _ rfl ?_
      refine W_ret ?_
      exact ⟨_, Ret_of [.bool true] ⟨⟨rfl, rfl⟩, trivial⟩, _, _, _, _, _, _, _, _, H, rfl, X153, o, ex125, f126, o129, ex130, f131, ex140, ex141, d152.symm, d145, d146, d150, d151⟩
  exact key _ x c13 c17 k left Q H0 (Nat.lt_succ_self _) w r ex r3 ex4 r9 ex10 ex14 ex16 ex19 ex21 d d22 d23 d24 d25 d26 d27 d28 d29 d30 d31 d32 d33 d34 d35 d36 d37 d38

set_option maxRecDepth 8000 in
set_option maxHeartbeats 4000000 in
theorem impl_solutions_impl_IsSafeRelease_1_w (g : Geo) (sx : List Variable) (pubs : List Published) (n : Int) (most : Int) (Q : Int → Prop) (H : impl_solutions_impl_IsSafeRelease_1 g sx pubs n most Q) (w : World) {vx : Value} {hx : PH} (r : RS hx vx g.Parents) (ex : Sub hx w) {vx1 : Value} {hx2 : PH} (r3 : RS hx2 vx1 sx) (ex4 : Sub hx2 w) {vx7 : Value} {hx8 : PH} (r9 : RS hx8 vx7 pubs) (ex10 : Sub hx8 w) :
    CallsTo Try.prog 35 #[.agg #[vx], vx1, vx7, I n, I most, .func (.func 36) #[] #[]] w fun v w' => ∃ r0, Q r0 ∧ v = I r0 ∧ Ext w w' := by
  obtain ⟨a, c, rfl⟩ := r.shape
  obtain ⟨a5, c6, rfl⟩ := r3.shape
  obtain ⟨a11, c12, rfl⟩ := r9.shape
  refine enter (args := [.agg #[.slice a (List.length g.Parents) c], .slice a5 (List.length sx) c6, .slice a11 (List.length pubs) c12, I n, I most, .func (.func 36) #[] #[]]) 33 Try.func35 rfl rfl rfl ?_
  refine W_forget [(0, .agg #[.slice a (List.length g.Parents) c]), (1, .slice a5 (List.length sx) c6), (2, .slice a11 (List.length pubs) c12), (3, I n), (4, I most), (5, .func (.func 36) #[] #[])] ⟨rfl, rfl, rfl, rfl, rfl, rfl, trivial⟩ fun ρ => ?_
  have X := But.refl emp w
  refine W_seq ?_
  refine W_region ?_
  refine LP_box 0 (cs := [.slice a (List.length g.Parents) c]) rfl rfl rfl rfl rfl fun b wx x ex13 f => ?_
  refine LP_box 1 (cs := [I most]) rfl rfl rfl rfl rfl fun b14 wx15 x16 ex17 f18 => ?_
  refine LP_box 2 (cs := [.func (.func 36) #[] #[]]) rfl rfl rfl rfl rfl fun b19 wx20 x21 ex22 f23 => ?_
  refine LP_ev ok 3 [(12, I 0)] 4 rfl rfl ?_
  refine LP_end _ rfl ?_
  refine W_seq ?_
  refine W_region ?_
  have ex24 := ((ex13.ext x16).ext x21)
  refine LP_ldbox 0 (v := .agg #[.slice a (List.length g.Parents) c]) rfl rfl rfl ti_32 ag_32 (fun h => by cases h) rfl ex24 rfl rfl ?_
  refine LP_ev ok 1 [(17, .slice a5 (List.length sx) c6), (18, .slice a11 (List.length pubs) c12)] 3 rfl rfl ?_
  have ex26 := (((ex.ext x).ext x16).ext x21)
  have ex27 := (((ex4.ext x).ext x16).ext x21)
  have ex28 := (((ex10.ext x).ext x16).ext x21)
  refine LP_call 3 rfl rfl rfl cal_63 rfl (impl_conditionsOf_w _ _ _ _ H wx20 r ex26 r3 ex27 r9 ex28) ?_
  rintro _ wx29 ⟨r25, vx31, hx32, H, rfl, x30, o, ex33, f34⟩
  obtain ⟨a35, c36, rfl⟩ := o.shape
  refine LP_ev ok 4 [(13, .slice a35 (List.length r25) c36)] 5 rfl rfl ?_
  refine LP_end _ rfl ?_
  refine W_seq ?_
  refine W_region ?_
  refine LP_alloc 0 rfl rfl rfl ti_3 rfl fun b37 wx38 x39 ex40 f41 => ?_
  refine LP_stbox 1 (vs := [I 0]) (cs' := [I 0]) rfl rfl rfl ti_3 rfl rfl rfl rfl rfl ex40 rfl rfl fun wx42 ex43 y => ?_
  refine LP_end _ rfl ?_
  refine W_seq ?_
  refine W_open mix fun wx44 x45 => ?_
  refine AP_gameT 11 [[], [], [], [1, 2], [1, 2, 3], [], [5], [5, 6], [], [0, 1, 2, 3, 4, 5, 6, 7, 8], [], [0, 1, 2, 3, 4, 5, 6, 7, 8, 9, 10]] [[(13, none)], [(6, none)], [(1, none)], [(21, some 1), (22, some 2)], [(23, some 3)], [(13, none)], [(25, some 5)], [(26, some 6)], [(10, none), (11, none), (14, none)], [(20, some 0), (24, some 4), (27, some 7), (28, some 8)], []] [(3, none), (14, none), (15, some 10), (29, some 9)] [0, 1, 2, 3, 4, 5, 6, 7, 8, 9, 10] (by kernel_rfl) (by kernel_rfl) 11 ?_
  refine GT_ev 0 ok [(13, .slice a35 (List.length r25) c36)] (.slice a35 (List.length r25) c36) rfl (by kernel_rfl) rfl (fun _ h => h) (fun _ => rfl) ?_
  have ex46 := (ex24.ext x30)
  have ex47 := ((((ex24.ext x30).ext x39).but y (Dj.of_fresh ex46 f41).symm).ext x45)
  refine GT_r1 1 [(6, .pointer (some ⟨b, 0, none⟩))] (.agg #[.slice a (List.length g.Parents) c]) rfl (by kernel_rfl) rfl (fun _ h => h) (fun _ w e => ex_ldbox rfl ti_32 ag_32 (fun h => by cases h) rfl e rfl rfl) ex47 ?_
  refine GT_ev 2 ok [(1, .slice a5 (List.length sx) c6)] (.slice a5 (List.length sx) c6) rfl (by kernel_rfl) rfl (fun _ h => h) (fun _ => rfl) ?_
  obtain ⟨r48, Hd, H⟩ := H
  have ex49 := (ex26.ext x30)
  have ex50 := ((((ex26.ext x30).ext x39).but y (Dj.of_fresh ex49 f41).symm).ext x45)
  have ex51 := (ex27.ext x30)
  have ex52 := ((((ex27.ext x30).ext x39).but y (Dj.of_fresh ex51 f41).symm).ext x45)
  refine GT_q 3 [(21, .agg #[.slice a (List.length g.Parents) c]), (22, .slice a5 (List.length sx) c6)] (I r48) [hx, hx2] [.agg #[.slice a (List.length g.Parents) c], .slice a5 (List.length sx) c6] rfl (by kernel_rfl) rfl (fun _ h => h) rfl cal_52 (fun _ => rfl) (fun w e => (impl_typeCount_w _ _ _ Hd w r e.1 r3 e.2.1).mono (fun _ _ h => by obtain ⟨_, rfl, rfl, x⟩ := h; exact ⟨rfl, x⟩)) ⟨ex50, ex52, trivial⟩ ?_
  refine GT_ev 5 ok [(13, .slice a35 (List.length r25) c36)] (.slice a35 (List.length r25) c36) rfl (by kernel_rfl) rfl (fun _ h => h) (fun _ => rfl) ?_
  refine GT_ev 6 ok [(25, .slice a35 (List.length r25) c36)] (I (ln r25)) rfl (by kernel_rfl) rfl (fun _ h => h) (fun _ => rfl) ?_
  refine GT_ev 8 ok [(10, .pointer (some ⟨b14, 0, none⟩)), (11, .pointer (some ⟨b19, 0, none⟩)), (14, .pointer (some ⟨b37, 0, none⟩))] (.func (.func 64) #[] #[.pointer (some ⟨b37, 0, none⟩), .pointer (some ⟨b19, 0, none⟩), .pointer (some ⟨b14, 0, none⟩)]) rfl (by kernel_rfl) rfl (fun _ h => h) (fun _ => rfl) ?_
  refine GT_hd [4, 7, 10] (by kernel_rfl) ⟨?_, ?_, ?_, trivial⟩
  · have H := H.1
    refine GT_lp [(23, I r48)] rfl (by kernel_rfl) rfl (fun _ h => h) rfl fun ρ wx53 x54 => ?_
    obtain ⟨hn, hb, H⟩ := H
    refine LP_make (α := Int) 0 rfl rfl rfl Try.underlying22 ti_3 (x0 := (0 : Int)) rfl rfl hn (by first | omega | (simp only [ln] at *; omega)) (by first | omega | (simp only [ln] at *; omega)) fun hx55 vx56 wx57 x58 o59 ex60 f61 => ?_
    obtain ⟨a62, c63, rfl⟩ := o59.shape
    refine LP_gs ⟨⟨.inl rfl, .inl rfl, .inl rfl, trivial⟩, ?_⟩
    refine GT_hd [7, 10] (by kernel_rfl) ⟨?_, ?_, trivial⟩
    · have H := H
      refine GT_lp [(26, I (ln r25))] rfl (by kernel_rfl) rfl (fun _ h => h) rfl fun ρ wx64 x65 => ?_
      obtain ⟨hn66, hb67, H⟩ := H
      refine LP_make (α := Int) 0 rfl rfl rfl Try.underlying22 ti_3 (x0 := (0 : Int)) rfl rfl hn66 (by first | omega | (simp only [ln] at *; omega)) (by first | omega | (simp only [ln] at *; omega)) fun hx68 vx69 wx70 x71 o72 ex73 f74 => ?_
      obtain ⟨a75, c76, rfl⟩ := o72.shape
      have ex77 := ((((ex50.ext x54).ext x58).ext x65).ext x71)
      have ex78 := ((((ex52.ext x54).ext x58).ext x65).ext x71)
      have ex79 := ((((ex47.ext x54).ext x58).ext x65).ext x71)
      refine LP_gs ⟨⟨.inr ex77, .inr ex78, .inr ex79, trivial⟩, ?_⟩
      refine GT_ev 9 ok [(20, .slice a35 (List.length r25) c36), (24, .slice a62 (List.length (List.replicate (Int.toNat r48) ((0 : Int)))) c63), (27, .slice a75 (List.length (List.replicate (Int.toNat (ln r25)) ((0 : Int)))) c76), (28, .func (.func 64) #[] #[.pointer (some ⟨b37, 0, none⟩), .pointer (some ⟨b19, 0, none⟩), .pointer (some ⟨b14, 0, none⟩)])] (.agg #[.slice a35 (List.length r25) c36, .slice a62 (List.length (List.replicate (Int.toNat r48) ((0 : Int)))) c63, .slice a75 (List.length (List.replicate (Int.toNat (ln r25)) ((0 : Int)))) c76, .func (.func 64) #[] #[.pointer (some ⟨b37, 0, none⟩), .pointer (some ⟨b19, 0, none⟩), .pointer (some ⟨b14, 0, none⟩)]]) rfl (by kernel_rfl) rfl (fun _ h => h) (fun _ => rfl) ?_
      refine GT_hd [10] (by kernel_rfl) ⟨GT_lp [] rfl (by kernel_rfl) rfl (fun _ h => h) rfl fun ρ wx80 x81 => ?_, trivial⟩
      refine LP_alloc 0 rfl rfl rfl ti_103 rfl fun b82 wx83 x84 ex85 f86 => ?_
      have ex87 := ((ex77.ext x81).ext x84)
      have ex88 := ((ex78.ext x81).ext x84)
      have ex89 := ((ex79.ext x81).ext x84)
      refine LP_gs ⟨⟨.inr ex87, .inr ex88, .inr ex89, trivial⟩, ?_⟩
      refine GT_end (by kernel_rfl) ?_
      intro wx90 x91 ρ hn92
      refine AP_forget [(3, I n), (14, .pointer (some ⟨b37, 0, none⟩)), (15, .pointer (some ⟨b82, 0, none⟩)), (29, .agg #[.slice a35 (List.length r25) c36, .slice a62 (List.length (List.replicate (Int.toNat r48) ((0 : Int)))) c63, .slice a75 (List.length (List.replicate (Int.toNat (ln r25)) ((0 : Int)))) c76, .func (.func 64) #[] #[.pointer (some ⟨b37, 0, none⟩), .pointer (some ⟨b19, 0, none⟩), .pointer (some ⟨b14, 0, none⟩)]])] (by exact hn92) fun ρ => ?_
      refine AP_tail 11 [[], [], [], [1, 2], [1, 2, 3], [], [5], [5, 6], [], [0, 1, 2, 3, 4, 5, 6, 7, 8], [], [0, 1, 2, 3, 4, 5, 6, 7, 8, 9, 10]] (by kernel_rfl) ?_
      have ex96 := (ex85.ext x91)
      refine LP_stbox 11 (vs := [.slice a35 (List.length r25) c36, .slice a62 (List.length (List.replicate (Int.toNat r48) ((0 : Int)))) c63, .slice a75 (List.length (List.replicate (Int.toNat (ln r25)) ((0 : Int)))) c76, .func (.func 64) #[] #[.pointer (some ⟨b37, 0, none⟩), .pointer (some ⟨b19, 0, none⟩), .pointer (some ⟨b14, 0, none⟩)]]) (cs' := [.slice a35 (List.length r25) c36, .slice a62 (List.length (List.replicate (Int.toNat r48) ((0 : Int)))) c63, .slice a75 (List.length (List.replicate (Int.toNat (ln r25)) ((0 : Int)))) c76, .func (.func 64) #[] #[.pointer (some ⟨b37, 0, none⟩), .pointer (some ⟨b19, 0, none⟩), .pointer (some ⟨b14, 0, none⟩)]]) rfl rfl rfl ti_103 rfl rfl rfl rfl rfl ex96 rfl rfl fun wx93 ex94 y95 => ?_
      refine LP_end _ rfl ?_
      refine W_seq ?_
      refine W_region ?_
      refine LP_ev ok 0 [(30, I n)] 1 rfl rfl ?_
      have ex97 := (ex60.ext x65)
      have ex98 := ((ex43.ext x45).ext x54)
      have ex99 := ((ex97.ext x71).ext x81)
      have ex100 := ((ex98.ext x58).ext x65)
      have ex101 := (ex73.ext x81)
      have ex102 := ((ex100.ext x71).ext x81)
      have ex103 := ((((ex33.ext x39).but y (Dj.of_fresh ex33 f41).symm).ext x45).ext x54)
      have ex104 := (ex22.ext x30)
      have ex105 := (((((ex22.ext x30).ext x39).but y (Dj.of_fresh ex104 f41).symm).ext x45).ext x54)
      have ex106 := ((ex17.ext x21).ext x30)
      have ex107 := ((((((ex17.ext x21).ext x30).ext x39).but y (Dj.of_fresh ex106 f41).symm).ext x45).ext x54)
      have ex108 := ((ex103.ext x58).ext x65)
      have ex109 := ((ex105.ext x58).ext x65)
      have ex110 := ((ex107.ext x58).ext x65)
      have ex111 := ((ex108.ext x71).ext x81)
      have ex112 := ((ex109.ext x71).ext x81)
      have ex113 := ((ex110.ext x71).ext x81)
      have ex118 := (((ex111.ext x84).ext x91).but y95 (Dj.of_fresh ex111 f86).symm)
      have ex119 := (((ex99.ext x84).ext x91).but y95 (Dj.of_fresh ex99 f86).symm)
      have ex120 := (((ex101.ext x84).ext x91).but y95 (Dj.of_fresh ex101 f86).symm)
      have ex121 := (((ex102.ext x84).ext x91).but y95 (Dj.of_fresh ex102 f86).symm)
      have ex122 := (((ex112.ext x84).ext x91).but y95 (Dj.of_fresh ex112 f86).symm)
      have ex123 := (((ex113.ext x84).ext x91).but y95 (Dj.of_fresh ex113 f86).symm)
      refine LP_call 1 rfl rfl rfl cal_65 rfl (impl_search_from_impl_solutions_1_impl_IsSafeRelease_1_w _ _ _ _ _ _ H wx93 o.readf ex118 o59 ex119 o72 ex120 ex121 ex122 ex123 ex94 (Dj.of_fresh ex97 f74) (Dj.of_fresh ex98 f61).symm (Dj.box (Dj.of_fresh ex99 f86).symm).symm (Dj.of_fresh ex100 f74).symm (Dj.box (Dj.of_fresh ex101 f86).symm).symm (Dj.box (Dj.of_fresh ex102 f86).symm).symm (Dj.of_fresh ex103 f61).symm (Dj.of_fresh ex105 f61).symm (Dj.of_fresh ex107 f61).symm (Dj.of_fresh ex108 f74).symm (Dj.of_fresh ex109 f74).symm (Dj.of_fresh ex110 f74).symm (Dj.box (Dj.of_fresh ex33 f41).symm) (Dj.box (Dj.of_fresh ex104 f41).symm) (Dj.box (Dj.of_fresh ex106 f41).symm) (Dj.box (Dj.of_fresh ex111 f86).symm) (Dj.box (Dj.of_fresh ex112 f86).symm) (Dj.box (Dj.of_fresh ex113 f86).symm)) ?_
      rintro _ wx124 ⟨r114, r115, r116, r117, vx129, hx126, vx134, hx130, H, rfl, x125, o127, ex128, dm, o131, ex132, dm133, ex135, ex136, d, d137, d138, d139, d140⟩
      obtain ⟨a141, c142, rfl⟩ := o127.shape
      obtain ⟨a143, c144, rfl⟩ := o131.shape
      refine LP_end _ rfl ?_
      refine W_seq ?_
      refine W_region ?_
      refine LP_ldbox 0 (v := I r117) rfl rfl rfl ti_3 ag_3 (fun _ => rfl) rfl ex135 rfl rfl ?_
      refine LP_ev ok 1 [(12, I r117)] 2 rfl rfl ?_
      refine LP_end _ rfl ?_
      refine W_ret ?_
      have X146 := ((((X.stepx x).stepx x16).stepx x21).stepx x30)
      have f145 := f41.mono X146.size
      have X148 := ((((((((X146.stepx x39).step y (f145.dom _)).stepx x45).stepx x54).stepx x58).stepx x65).stepx x71).stepx x81)
      have f147 := f86.mono X148.size
      have X150 := ((((X146.stepx x39).step y (f145.dom _)).stepx x45).stepx x54)
      have f149 := f61.mono X150.size
      have X152 := ((X150.stepx x58).stepx x65)
      have f151 := f74.mono X152.size
      have X153 := ((((((((((((((((X.stepx x).stepx x16).stepx x21).stepx x30).stepx x39).step y (f145.dom _)).stepx x45).stepx x54).stepx x58).stepx x65).stepx x71).stepx x81).stepx x84).stepx x91).step y95 (f147.dom _)).step x125 (DomLe.un (f149.dom _) (DomLe.un (f151.dom _) (DomLe.un ((Fresh.box f145).dom _) ((Fresh.box f147).dom _)))))
      exact ⟨_, Ret_of [I r117] ⟨⟨rfl, rfl⟩, trivial⟩, _, H, rfl, X153.ext⟩
    · have H := H
      refine GT_lp [] rfl (by kernel_rfl) rfl (fun _ h => h) rfl fun ρ wx64 x65 => ?_
      refine LP_alloc 0 rfl rfl rfl ti_103 rfl fun b66 wx67 x68 ex69 f70 => ?_
      have ex71 := ((((ex50.ext x54).ext x58).ext x65).ext x68)
      have ex72 := ((((ex52.ext x54).ext x58).ext x65).ext x68)
      have ex73 := ((((ex47.ext x54).ext x58).ext x65).ext x68)
      refine LP_gs ⟨⟨.inr ex71, .inr ex72, .inr ex73, trivial⟩, ?_⟩
      refine GT_hd [7] (by kernel_rfl) ⟨GT_lp [(26, I (ln r25))] rfl (by kernel_rfl) rfl (fun _ h => h) rfl fun ρ wx74 x75 => ?_, trivial⟩
      obtain ⟨hn76, hb77, H⟩ := H
      refine LP_make (α := Int) 0 rfl rfl rfl Try.underlying22 ti_3 (x0 := (0 : Int)) rfl rfl hn76 (by first | omega | (simp only [ln] at *; omega)) (by first | omega | (simp only [ln] at *; omega)) fun hx78 vx79 wx80 x81 o82 ex83 f84 => ?_
      obtain ⟨a85, c86, rfl⟩ := o82.shape
      have ex87 := ((ex71.ext x75).ext x81)
      have ex88 := ((ex72.ext x75).ext x81)
      have ex89 := ((ex73.ext x75).ext x81)
      refine LP_gs ⟨⟨.inr ex87, .inr ex88, .inr ex89, trivial⟩, ?_⟩
      refine GT_ev 9 ok [(20, .slice a35 (List.length r25) c36), (24, .slice a62 (List.length (List.replicate (Int.toNat r48) ((0 : Int)))) c63), (27, .slice a85 (List.length (List.replicate (Int.toNat (ln r25)) ((0 : Int)))) c86), (28, .func (.func 64) #[] #[.pointer (some ⟨b37, 0, none⟩), .pointer (some ⟨b19, 0, none⟩), .pointer (some ⟨b14, 0, none⟩)])] (.agg #[.slice a35 (List.length r25) c36, .slice a62 (List.length (List.replicate (Int.toNat r48) ((0 : Int)))) c63, .slice a85 (List.length (List.replicate (Int.toNat (ln r25)) ((0 : Int)))) c86, .func (.func 64) #[] #[.pointer (some ⟨b37, 0, none⟩), .pointer (some ⟨b19, 0, none⟩), .pointer (some ⟨b14, 0, none⟩)]]) rfl (by kernel_rfl) rfl (fun _ h => h) (fun _ => rfl) ?_
      refine GT_end (by kernel_rfl) ?_
      intro wx90 x91 ρ hn92
      refine AP_forget [(3, I n), (14, .pointer (some ⟨b37, 0, none⟩)), (15, .pointer (some ⟨b66, 0, none⟩)), (29, .agg #[.slice a35 (List.length r25) c36, .slice a62 (List.length (List.replicate (Int.toNat r48) ((0 : Int)))) c63, .slice a85 (List.length (List.replicate (Int.toNat (ln r25)) ((0 : Int)))) c86, .func (.func 64) #[] #[.pointer (some ⟨b37, 0, none⟩), .pointer (some ⟨b19, 0, none⟩), .pointer (some ⟨b14, 0, none⟩)]])] (by exact hn92) fun ρ => ?_
      refine AP_tail 11 [[], [], [], [1, 2], [1, 2, 3], [], [5], [5, 6], [], [0, 1, 2, 3, 4, 5, 6, 7, 8], [], [0, 1, 2, 3, 4, 5, 6, 7, 8, 9, 10]] (by kernel_rfl) ?_
      have ex96 := (((ex69.ext x75).ext x81).ext x91)
      refine LP_stbox 11 (vs := [.slice a35 (List.length r25) c36, .slice a62 (List.length (List.replicate (Int.toNat r48) ((0 : Int)))) c63, .slice a85 (List.length (List.replicate (Int.toNat (ln r25)) ((0 : Int)))) c86, .func (.func 64) #[] #[.pointer (some ⟨b37, 0, none⟩), .pointer (some ⟨b19, 0, none⟩), .pointer (some ⟨b14, 0, none⟩)]]) (cs' := [.slice a35 (List.length r25) c36, .slice a62 (List.length (List.replicate (Int.toNat r48) ((0 : Int)))) c63, .slice a85 (List.length (List.replicate (Int.toNat (ln r25)) ((0 : Int)))) c86, .func (.func 64) #[] #[.pointer (some ⟨b37, 0, none⟩), .pointer (some ⟨b19, 0, none⟩), .pointer (some ⟨b14, 0, none⟩)]]) rfl rfl rfl ti_103 rfl rfl rfl rfl rfl ex96 rfl rfl fun wx93 ex94 y95 => ?_
      refine LP_end _ rfl ?_
      refine W_seq ?_
      refine W_region ?_
      refine LP_ev ok 0 [(30, I n)] 1 rfl rfl ?_
      have ex97 := (((ex60.ext x65).ext x68).ext x75)
      have ex98 := ((ex43.ext x45).ext x54)
      have ex99 := (ex60.ext x65)
      have ex100 := ((((ex98.ext x58).ext x65).ext x68).ext x75)
      have ex101 := (ex69.ext x75)
      have ex102 := ((ex98.ext x58).ext x65)
      have ex103 := ((((ex33.ext x39).but y (Dj.of_fresh ex33 f41).symm).ext x45).ext x54)
      have ex104 := (ex22.ext x30)
      have ex105 := (((((ex22.ext x30).ext x39).but y (Dj.of_fresh ex104 f41).symm).ext x45).ext x54)
      have ex106 := ((ex17.ext x21).ext x30)
      have ex107 := ((((((ex17.ext x21).ext x30).ext x39).but y (Dj.of_fresh ex106 f41).symm).ext x45).ext x54)
      have ex108 := ((((ex103.ext x58).ext x65).ext x68).ext x75)
      have ex109 := ((((ex105.ext x58).ext x65).ext x68).ext x75)
      have ex110 := ((((ex107.ext x58).ext x65).ext x68).ext x75)
      have ex111 := ((ex103.ext x58).ext x65)
      have ex112 := ((ex105.ext x58).ext x65)
      have ex113 := ((ex107.ext x58).ext x65)
      have ex118 := (((ex108.ext x81).ext x91).but y95 (Dj.of_fresh ex111 f70).symm)
      have ex119 := (((ex97.ext x81).ext x91).but y95 (Dj.of_fresh ex99 f70).symm)
      have ex120 := ((ex83.ext x91).but y95 (Dj.of_fresh ex101 f84))
      have ex121 := (((ex100.ext x81).ext x91).but y95 (Dj.of_fresh ex102 f70).symm)
      have ex122 := (((ex109.ext x81).ext x91).but y95 (Dj.of_fresh ex112 f70).symm)
      have ex123 := (((ex110.ext x81).ext x91).but y95 (Dj.of_fresh ex113 f70).symm)
      refine LP_call 1 rfl rfl rfl cal_65 rfl (impl_search_from_impl_solutions_1_impl_IsSafeRelease_1_w _ _ _ _ _ _ H wx93 o.readf ex118 o59 ex119 o82 ex120 ex121 ex122 ex123 ex94 (Dj.of_fresh ex97 f84) (Dj.of_fresh ex98 f61).symm (Dj.box (Dj.of_fresh ex99 f70).symm).symm (Dj.of_fresh ex100 f84).symm (Dj.box (Dj.of_fresh ex101 f84).symm.symm).symm (Dj.box (Dj.of_fresh ex102 f70).symm).symm (Dj.of_fresh ex103 f61).symm (Dj.of_fresh ex105 f61).symm (Dj.of_fresh ex107 f61).symm (Dj.of_fresh ex108 f84).symm (Dj.of_fresh ex109 f84).symm (Dj.of_fresh ex110 f84).symm (Dj.box (Dj.of_fresh ex33 f41).symm) (Dj.box (Dj.of_fresh ex104 f41).symm) (Dj.box (Dj.of_fresh ex106 f41).symm) (Dj.box (Dj.of_fresh ex111 f70).symm) (Dj.box (Dj.of_fresh ex112 f70).symm) (Dj.box (Dj.of_fresh ex113 f70).symm)) ?_
      rintro _ wx124 ⟨r114, r115, r116, r117, vx129, hx126, vx134, hx130, H, rfl, x125, o127, ex128, dm, o131, ex132, dm133, ex135, ex136, d, d137, d138, d139, d140⟩
      obtain ⟨a141, c142, rfl⟩ := o127.shape
      obtain ⟨a143, c144, rfl⟩ := o131.shape
      refine LP_end _ rfl ?_
      refine W_seq ?_
      refine W_region ?_
      refine LP_ldbox 0 (v := I r117) rfl rfl rfl ti_3 ag_3 (fun _ => rfl) rfl ex135 rfl rfl ?_
      refine LP_ev ok 1 [(12, I r117)] 2 rfl rfl ?_
      refine LP_end _ rfl ?_
      refine W_ret ?_
      have X146 := ((((X.stepx x).stepx x16).stepx x21).stepx x30)
      have f145 := f41.mono X146.size
      have X148 := ((((((X146.stepx x39).step y (f145.dom _)).stepx x45).stepx x54).stepx x58).stepx x65)
      have f147 := f70.mono X148.size
      have X150 := ((((X146.stepx x39).step y (f145.dom _)).stepx x45).stepx x54)
      have f149 := f61.mono X150.size
      have X152 := ((X148.stepx x68).stepx x75)
      have f151 := f84.mono X152.size
      have X153 := ((((((((((((((((X.stepx x).stepx x16).stepx x21).stepx x30).stepx x39).step y (f145.dom _)).stepx x45).stepx x54).stepx x58).stepx x65).stepx x68).stepx x75).stepx x81).stepx x91).step y95 (f147.dom _)).step x125 (DomLe.un (f149.dom _) (DomLe.un (f151.dom _) (DomLe.un ((Fresh.box f145).dom _) ((Fresh.box f147).dom _)))))
      exact ⟨_, Ret_of [I r117] ⟨⟨rfl, rfl⟩, trivial⟩, _, H, rfl, X153.ext⟩
  · have H := H.2.1
    refine GT_lp [(26, I (ln r25))] rfl (by kernel_rfl) rfl (fun _ h => h) rfl fun ρ wx154 x155 => ?_
    obtain ⟨hn156, hb157, H⟩ := H
    refine LP_make (α := Int) 0 rfl rfl rfl Try.underlying22 ti_3 (x0 := (0 : Int)) rfl rfl hn156 (by first | omega | (simp only [ln] at *; omega)) (by first | omega | (simp only [ln] at *; omega)) fun hx158 vx159 wx160 x161 o162 ex163 f164 => ?_
    obtain ⟨a165, c166, rfl⟩ := o162.shape
    have ex167 := ((ex50.ext x155).ext x161)
    have ex168 := ((ex52.ext x155).ext x161)
    have ex169 := ((ex47.ext x155).ext x161)
    refine LP_gs ⟨⟨.inr ex167, .inr ex168, .inr ex169, trivial⟩, ?_⟩
    refine GT_hd [4, 10] (by kernel_rfl) ⟨?_, ?_, trivial⟩
    · have H := H
      refine GT_lp [(23, I r48)] rfl (by kernel_rfl) rfl (fun _ h => h) rfl fun ρ wx170 x171 => ?_
      obtain ⟨hn172, hb173, H⟩ := H
      refine LP_make (α := Int) 0 rfl rfl rfl Try.underlying22 ti_3 (x0 := (0 : Int)) rfl rfl hn172 (by first | omega | (simp only [ln] at *; omega)) (by first | omega | (simp only [ln] at *; omega)) fun hx174 vx175 wx176 x177 o178 ex179 f180 => ?_
      obtain ⟨a181, c182, rfl⟩ := o178.shape
      refine LP_gs ⟨⟨.inl rfl, .inl rfl, .inl rfl, trivial⟩, ?_⟩
      refine GT_ev 9 ok [(20, .slice a35 (List.length r25) c36), (24, .slice a181 (List.length (List.replicate (Int.toNat r48) ((0 : Int)))) c182), (27, .slice a165 (List.length (List.replicate (Int.toNat (ln r25)) ((0 : Int)))) c166), (28, .func (.func 64) #[] #[.pointer (some ⟨b37, 0, none⟩), .pointer (some ⟨b19, 0, none⟩), .pointer (some ⟨b14, 0, none⟩)])] (.agg #[.slice a35 (List.length r25) c36, .slice a181 (List.length (List.replicate (Int.toNat r48) ((0 : Int)))) c182, .slice a165 (List.length (List.replicate (Int.toNat (ln r25)) ((0 : Int)))) c166, .func (.func 64) #[] #[.pointer (some ⟨b37, 0, none⟩), .pointer (some ⟨b19, 0, none⟩), .pointer (some ⟨b14, 0, none⟩)]]) rfl (by kernel_rfl) rfl (fun _ h => h) (fun _ => rfl) ?_
      refine GT_hd [10] (by kernel_rfl) ⟨GT_lp [] rfl (by kernel_rfl) rfl (fun _ h => h) rfl fun ρ wx183 x184 => ?_, trivial⟩
      refine LP_alloc 0 rfl rfl rfl ti_103 rfl fun b185 wx186 x187 ex188 f189 => ?_
      have ex190 := ((((ex167.ext x171).ext x177).ext x184).ext x187)
      have ex191 := ((((ex168.ext x171).ext x177).ext x184).ext x187)
      have ex192 := ((((ex169.ext x171).ext x177).ext x184).ext x187)
      refine LP_gs ⟨⟨.inr ex190, .inr ex191, .inr ex192, trivial⟩, ?_⟩
      refine GT_end (by kernel_rfl) ?_
      intro wx193 x194 ρ hn195
      refine AP_forget [(3, I n), (14, .pointer (some ⟨b37, 0, none⟩)), (15, .pointer (some ⟨b185, 0, none⟩)), (29, .agg #[.slice a35 (List.length r25) c36, .slice a181 (List.length (List.replicate (Int.toNat r48) ((0 : Int)))) c182, .slice a165 (List.length (List.replicate (Int.toNat (ln r25)) ((0 : Int)))) c166, .func (.func 64) #[] #[.pointer (some ⟨b37, 0, none⟩), .pointer (some ⟨b19, 0, none⟩), .pointer (some ⟨b14, 0, none⟩)]])] (by exact hn195) fun ρ => ?_
      refine AP_tail 11 [[], [], [], [1, 2], [1, 2, 3], [], [5], [5, 6], [], [0, 1, 2, 3, 4, 5, 6, 7, 8], [], [0, 1, 2, 3, 4, 5, 6, 7, 8, 9, 10]] (by kernel_rfl) ?_
      have ex199 := (ex188.ext x194)
      refine LP_stbox 11 (vs := [.slice a35 (List.length r25) c36, .slice a181 (List.length (List.replicate (Int.toNat r48) ((0 : Int)))) c182, .slice a165 (List.length (List.replicate (Int.toNat (ln r25)) ((0 : Int)))) c166, .func (.func 64) #[] #[.pointer (some ⟨b37, 0, none⟩), .pointer (some ⟨b19, 0, none⟩), .pointer (some ⟨b14, 0, none⟩)]]) (cs' := [.slice a35 (List.length r25) c36, .slice a181 (List.length (List.replicate (Int.toNat r48) ((0 : Int)))) c182, .slice a165 (List.length (List.replicate (Int.toNat (ln r25)) ((0 : Int)))) c166, .func (.func 64) #[] #[.pointer (some ⟨b37, 0, none⟩), .pointer (some ⟨b19, 0, none⟩), .pointer (some ⟨b14, 0, none⟩)]]) rfl rfl rfl ti_103 rfl rfl rfl rfl rfl ex199 rfl rfl fun wx196 ex197 y198 => ?_
      refine LP_end _ rfl ?_
      refine W_seq ?_
      refine W_region ?_
      refine LP_ev ok 0 [(30, I n)] 1 rfl rfl ?_
      have ex200 := (ex163.ext x171)
      have ex201 := ((((ex43.ext x45).ext x155).ext x161).ext x171)
      have ex202 := (ex179.ext x184)
      have ex203 := ((ex43.ext x45).ext x155)
      have ex204 := ((ex200.ext x177).ext x184)
      have ex205 := ((ex201.ext x177).ext x184)
      have ex206 := ((((((ex33.ext x39).but y (Dj.of_fresh ex33 f41).symm).ext x45).ext x155).ext x161).ext x171)
      have ex207 := (ex22.ext x30)
      have ex208 := (((((((ex22.ext x30).ext x39).but y (Dj.of_fresh ex207 f41).symm).ext x45).ext x155).ext x161).ext x171)
      have ex209 := ((ex17.ext x21).ext x30)
      have ex210 := ((((((((ex17.ext x21).ext x30).ext x39).but y (Dj.of_fresh ex209 f41).symm).ext x45).ext x155).ext x161).ext x171)
      have ex211 := ((((ex33.ext x39).but y (Dj.of_fresh ex33 f41).symm).ext x45).ext x155)
      have ex212 := ((((ex207.ext x39).but y (Dj.of_fresh ex207 f41).symm).ext x45).ext x155)
      have ex213 := ((((ex209.ext x39).but y (Dj.of_fresh ex209 f41).symm).ext x45).ext x155)
      have ex214 := ((ex206.ext x177).ext x184)
      have ex215 := ((ex208.ext x177).ext x184)
      have ex216 := ((ex210.ext x177).ext x184)
      have ex221 := (((ex214.ext x187).ext x194).but y198 (Dj.of_fresh ex214 f189).symm)
      have ex222 := (((ex202.ext x187).ext x194).but y198 (Dj.of_fresh ex202 f189).symm)
      have ex223 := (((ex204.ext x187).ext x194).but y198 (Dj.of_fresh ex204 f189).symm)
      have ex224 := (((ex205.ext x187).ext x194).but y198 (Dj.of_fresh ex205 f189).symm)
      have ex225 := (((ex215.ext x187).ext x194).but y198 (Dj.of_fresh ex215 f189).symm)
      have ex226 := (((ex216.ext x187).ext x194).but y198 (Dj.of_fresh ex216 f189).symm)
      refine LP_call 1 rfl rfl rfl cal_65 rfl (impl_search_from_impl_solutions_1_impl_IsSafeRelease_1_w _ _ _ _ _ _ H wx196 o.readf ex221 o178 ex222 o162 ex223 ex224 ex225 ex226 ex197 (Dj.of_fresh ex200 f180).symm (Dj.of_fresh ex201 f180).symm (Dj.box (Dj.of_fresh ex202 f189).symm).symm (Dj.of_fresh ex203 f164).symm (Dj.box (Dj.of_fresh ex204 f189).symm).symm (Dj.box (Dj.of_fresh ex205 f189).symm).symm (Dj.of_fresh ex206 f180).symm (Dj.of_fresh ex208 f180).symm (Dj.of_fresh ex210 f180).symm (Dj.of_fresh ex211 f164).symm (Dj.of_fresh ex212 f164).symm (Dj.of_fresh ex213 f164).symm (Dj.box (Dj.of_fresh ex33 f41).symm) (Dj.box (Dj.of_fresh ex207 f41).symm) (Dj.box (Dj.of_fresh ex209 f41).symm) (Dj.box (Dj.of_fresh ex214 f189).symm) (Dj.box (Dj.of_fresh ex215 f189).symm) (Dj.box (Dj.of_fresh ex216 f189).symm)) ?_
      rintro _ wx227 ⟨r217, r218, r219, r220, vx233, hx229, vx238, hx234, H, rfl, x228, o230, ex231, dm232, o235, ex236, dm237, ex239, ex240, d241, d242, d243, d244, d245⟩
      obtain ⟨a246, c247, rfl⟩ := o230.shape
      obtain ⟨a248, c249, rfl⟩ := o235.shape
      refine LP_end _ rfl ?_
      refine W_seq ?_
      refine W_region ?_
      refine LP_ldbox 0 (v := I r220) rfl rfl rfl ti_3 ag_3 (fun _ => rfl) rfl ex239 rfl rfl ?_
      refine LP_ev ok 1 [(12, I r220)] 2 rfl rfl ?_
      refine LP_end _ rfl ?_
      refine W_ret ?_
      have X251 := ((((X.stepx x).stepx x16).stepx x21).stepx x30)
      have f250 := f41.mono X251.size
      have X253 := ((((((((X251.stepx x39).step y (f250.dom _)).stepx x45).stepx x155).stepx x161).stepx x171).stepx x177).stepx x184)
      have f252 := f189.mono X253.size
      have X255 := ((((((X251.stepx x39).step y (f250.dom _)).stepx x45).stepx x155).stepx x161).stepx x171)
      have f254 := f180.mono X255.size
      have X257 := ((((X251.stepx x39).step y (f250.dom _)).stepx x45).stepx x155)
      have f256 := f164.mono X257.size
      have X258 := ((((((((((((((((X.stepx x).stepx x16).stepx x21).stepx x30).stepx x39).step y (f250.dom _)).stepx x45).stepx x155).stepx x161).stepx x171).stepx x177).stepx x184).stepx x187).stepx x194).step y198 (f252.dom _)).step x228 (DomLe.un (f254.dom _) (DomLe.un (f256.dom _) (DomLe.un ((Fresh.box f250).dom _) ((Fresh.box f252).dom _)))))
      exact ⟨_, Ret_of [I r220] ⟨⟨rfl, rfl⟩, trivial⟩, _, H, rfl, X258.ext⟩
    · have H := H
      refine GT_lp [] rfl (by kernel_rfl) rfl (fun _ h => h) rfl fun ρ wx170 x171 => ?_
      refine LP_alloc 0 rfl rfl rfl ti_103 rfl fun b172 wx173 x174 ex175 f176 => ?_
      have ex177 := ((ex167.ext x171).ext x174)
      have ex178 := ((ex168.ext x171).ext x174)
      have ex179 := ((ex169.ext x171).ext x174)
      refine LP_gs ⟨⟨.inr ex177, .inr ex178, .inr ex179, trivial⟩, ?_⟩
      refine GT_hd [4] (by kernel_rfl) ⟨GT_lp [(23, I r48)] rfl (by kernel_rfl) rfl (fun _ h => h) rfl fun ρ wx180 x181 => ?_, trivial⟩
      obtain ⟨hn182, hb183, H⟩ := H
      refine LP_make (α := Int) 0 rfl rfl rfl Try.underlying22 ti_3 (x0 := (0 : Int)) rfl rfl hn182 (by first | omega | (simp only [ln] at *; omega)) (by first | omega | (simp only [ln] at *; omega)) fun hx184 vx185 wx186 x187 o188 ex189 f190 => ?_
      obtain ⟨a191, c192, rfl⟩ := o188.shape
      refine LP_gs ⟨⟨.inl rfl, .inl rfl, .inl rfl, trivial⟩, ?_⟩
      refine GT_ev 9 ok [(20, .slice a35 (List.length r25) c36), (24, .slice a191 (List.length (List.replicate (Int.toNat r48) ((0 : Int)))) c192), (27, .slice a165 (List.length (List.replicate (Int.toNat (ln r25)) ((0 : Int)))) c166), (28, .func (.func 64) #[] #[.pointer (some ⟨b37, 0, none⟩), .pointer (some ⟨b19, 0, none⟩), .pointer (some ⟨b14, 0, none⟩)])] (.agg #[.slice a35 (List.length r25) c36, .slice a191 (List.length (List.replicate (Int.toNat r48) ((0 : Int)))) c192, .slice a165 (List.length (List.replicate (Int.toNat (ln r25)) ((0 : Int)))) c166, .func (.func 64) #[] #[.pointer (some ⟨b37, 0, none⟩), .pointer (some ⟨b19, 0, none⟩), .pointer (some ⟨b14, 0, none⟩)]]) rfl (by kernel_rfl) rfl (fun _ h => h) (fun _ => rfl) ?_
      refine GT_end (by kernel_rfl) ?_
      intro wx193 x194 ρ hn195
      refine AP_forget [(3, I n), (14, .pointer (some ⟨b37, 0, none⟩)), (15, .pointer (some ⟨b172, 0, none⟩)), (29, .agg #[.slice a35 (List.length r25) c36, .slice a191 (List.length (List.replicate (Int.toNat r48) ((0 : Int)))) c192, .slice a165 (List.length (List.replicate (Int.toNat (ln r25)) ((0 : Int)))) c166, .func (.func 64) #[] #[.pointer (some ⟨b37, 0, none⟩), .pointer (some ⟨b19, 0, none⟩), .pointer (some ⟨b14, 0, none⟩)]])] (by exact hn195) fun ρ => ?_
      refine AP_tail 11 [[], [], [], [1, 2], [1, 2, 3], [], [5], [5, 6], [], [0, 1, 2, 3, 4, 5, 6, 7, 8], [], [0, 1, 2, 3, 4, 5, 6, 7, 8, 9, 10]] (by kernel_rfl) ?_
      have ex199 := (((ex175.ext x181).ext x187).ext x194)
      refine LP_stbox 11 (vs := [.slice a35 (List.length r25) c36, .slice a191 (List.length (List.replicate (Int.toNat r48) ((0 : Int)))) c192, .slice a165 (List.length (List.replicate (Int.toNat (ln r25)) ((0 : Int)))) c166, .func (.func 64) #[] #[.pointer (some ⟨b37, 0, none⟩), .pointer (some ⟨b19, 0, none⟩), .pointer (some ⟨b14, 0, none⟩)]]) (cs' := [.slice a35 (List.length r25) c36, .slice a191 (List.length (List.replicate (Int.toNat r48) ((0 : Int)))) c192, .slice a165 (List.length (List.replicate (Int.toNat (ln r25)) ((0 : Int)))) c166, .func (.func 64) #[] #[.pointer (some ⟨b37, 0, none⟩), .pointer (some ⟨b19, 0, none⟩), .pointer (some ⟨b14, 0, none⟩)]]) rfl rfl rfl ti_103 rfl rfl rfl rfl rfl ex199 rfl rfl fun wx196 ex197 y198 => ?_
      refine LP_end _ rfl ?_
      refine W_seq ?_
      refine W_region ?_
      refine LP_ev ok 0 [(30, I n)] 1 rfl rfl ?_
      have ex200 := (((ex163.ext x171).ext x174).ext x181)
      have ex201 := ((((((ex43.ext x45).ext x155).ext x161).ext x171).ext x174).ext x181)
      have ex202 := (ex175.ext x181)
      have ex203 := ((ex43.ext x45).ext x155)
      have ex204 := (ex163.ext x171)
      have ex205 := ((ex203.ext x161).ext x171)
      have ex206 := ((((((((ex33.ext x39).but y (Dj.of_fresh ex33 f41).symm).ext x45).ext x155).ext x161).ext x171).ext x174).ext x181)
      have ex207 := (ex22.ext x30)
      have ex208 := (((((((((ex22.ext x30).ext x39).but y (Dj.of_fresh ex207 f41).symm).ext x45).ext x155).ext x161).ext x171).ext x174).ext x181)
      have ex209 := ((ex17.ext x21).ext x30)
      have ex210 := ((((((((((ex17.ext x21).ext x30).ext x39).but y (Dj.of_fresh ex209 f41).symm).ext x45).ext x155).ext x161).ext x171).ext x174).ext x181)
      have ex211 := ((((ex33.ext x39).but y (Dj.of_fresh ex33 f41).symm).ext x45).ext x155)
      have ex212 := ((((ex207.ext x39).but y (Dj.of_fresh ex207 f41).symm).ext x45).ext x155)
      have ex213 := ((((ex209.ext x39).but y (Dj.of_fresh ex209 f41).symm).ext x45).ext x155)
      have ex214 := ((ex211.ext x161).ext x171)
      have ex215 := ((ex212.ext x161).ext x171)
      have ex216 := ((ex213.ext x161).ext x171)
      have ex221 := (((ex206.ext x187).ext x194).but y198 (Dj.of_fresh ex214 f176).symm)
      have ex222 := ((ex189.ext x194).but y198 (Dj.of_fresh ex202 f190))
      have ex223 := (((ex200.ext x187).ext x194).but y198 (Dj.of_fresh ex204 f176).symm)
      have ex224 := (((ex201.ext x187).ext x194).but y198 (Dj.of_fresh ex205 f176).symm)
      have ex225 := (((ex208.ext x187).ext x194).but y198 (Dj.of_fresh ex215 f176).symm)
      have ex226 := (((ex210.ext x187).ext x194).but y198 (Dj.of_fresh ex216 f176).symm)
      refine LP_call 1 rfl rfl rfl cal_65 rfl (impl_search_from_impl_solutions_1_impl_IsSafeRelease_1_w _ _ _ _ _ _ H wx196 o.readf ex221 o188 ex222 o162 ex223 ex224 ex225 ex226 ex197 (Dj.of_fresh ex200 f190).symm (Dj.of_fresh ex201 f190).symm (Dj.box (Dj.of_fresh ex202 f190).symm.symm).symm (Dj.of_fresh ex203 f164).symm (Dj.box (Dj.of_fresh ex204 f176).symm).symm (Dj.box (Dj.of_fresh ex205 f176).symm).symm (Dj.of_fresh ex206 f190).symm (Dj.of_fresh ex208 f190).symm (Dj.of_fresh ex210 f190).symm (Dj.of_fresh ex211 f164).symm (Dj.of_fresh ex212 f164).symm (Dj.of_fresh ex213 f164).symm (Dj.box (Dj.of_fresh ex33 f41).symm) (Dj.box (Dj.of_fresh ex207 f41).symm) (Dj.box (Dj.of_fresh ex209 f41).symm) (Dj.box (Dj.of_fresh ex214 f176).symm) (Dj.box (Dj.of_fresh ex215 f176).symm) (Dj.box (Dj.of_fresh ex216 f176).symm)) ?_
      rintro _ wx227 ⟨r217, r218, r219, r220, vx233, hx229, vx238, hx234, H, rfl, x228, o230, ex231, dm232, o235, ex236, dm237, ex239, ex240, d241, d242, d243, d244, d245⟩
      obtain ⟨a246, c247, rfl⟩ := o230.shape
      obtain ⟨a248, c249, rfl⟩ := o235.shape
      refine LP_end _ rfl ?_
      refine W_seq ?_
      refine W_region ?_
      refine LP_ldbox 0 (v := I r220) rfl rfl rfl ti_3 ag_3 (fun _ => rfl) rfl ex239 rfl rfl ?_
      refine LP_ev ok 1 [(12, I r220)] 2 rfl rfl ?_
      refine LP_end _ rfl ?_
      refine W_ret ?_
      have X251 := ((((X.stepx x).stepx x16).stepx x21).stepx x30)
      have f250 := f41.mono X251.size
      have X253 := ((((((X251.stepx x39).step y (f250.dom _)).stepx x45).stepx x155).stepx x161).stepx x171)
      have f252 := f176.mono X253.size
      have X255 := ((X253.stepx x174).stepx x181)
      have f254 := f190.mono X255.size
      have X257 := ((((X251.stepx x39).step y (f250.dom _)).stepx x45).stepx x155)
      have f256 := f164.mono X257.size
      have X258 := ((((((((((((((((X.stepx x).stepx x16).stepx x21).stepx x30).stepx x39).step y (f250.dom _)).stepx x45).stepx x155).stepx x161).stepx x171).stepx x174).stepx x181).stepx x187).stepx x194).step y198 (f252.dom _)).step x228 (DomLe.un (f254.dom _) (DomLe.un (f256.dom _) (DomLe.un ((Fresh.box f250).dom _) ((Fresh.box f252).dom _)))))
      exact ⟨_, Ret_of [I r220] ⟨⟨rfl, rfl⟩, trivial⟩, _, H, rfl, X258.ext⟩
  · have H := H.2.2
    refine GT_lp [] rfl (by kernel_rfl) rfl (fun _ h => h) rfl fun ρ wx259 x260 => ?_
    refine LP_alloc 0 rfl rfl rfl ti_103 rfl fun b261 wx262 x263 ex264 f265 => ?_
    have ex266 := ((ex50.ext x260).ext x263)
    have ex267 := ((ex52.ext x260).ext x263)
    have ex268 := ((ex47.ext x260).ext x263)
    refine LP_gs ⟨⟨.inr ex266, .inr ex267, .inr ex268, trivial⟩, ?_⟩
    refine GT_hd [4, 7] (by kernel_rfl) ⟨?_, ?_, trivial⟩
    · have H := H.1
      refine GT_lp [(23, I r48)] rfl (by kernel_rfl) rfl (fun _ h => h) rfl fun ρ wx269 x270 => ?_
      obtain ⟨hn271, hb272, H⟩ := H
      refine LP_make (α := Int) 0 rfl rfl rfl Try.underlying22 ti_3 (x0 := (0 : Int)) rfl rfl hn271 (by first | omega | (simp only [ln] at *; omega)) (by first | omega | (simp only [ln] at *; omega)) fun hx273 vx274 wx275 x276 o277 ex278 f279 => ?_
      obtain ⟨a280, c281, rfl⟩ := o277.shape
      refine LP_gs ⟨⟨.inl rfl, .inl rfl, .inl rfl, trivial⟩, ?_⟩
      refine GT_hd [7] (by kernel_rfl) ⟨GT_lp [(26, I (ln r25))] rfl (by kernel_rfl) rfl (fun _ h => h) rfl fun ρ wx282 x283 => ?_, trivial⟩
      obtain ⟨hn284, hb285, H⟩ := H
      refine LP_make (α := Int) 0 rfl rfl rfl Try.underlying22 ti_3 (x0 := (0 : Int)) rfl rfl hn284 (by first | omega | (simp only [ln] at *; omega)) (by first | omega | (simp only [ln] at *; omega)) fun hx286 vx287 wx288 x289 o290 ex291 f292 => ?_
      obtain ⟨a293, c294, rfl⟩ := o290.shape
      have ex295 := ((((ex266.ext x270).ext x276).ext x283).ext x289)
      have ex296 := ((((ex267.ext x270).ext x276).ext x283).ext x289)
      have ex297 := ((((ex268.ext x270).ext x276).ext x283).ext x289)
      refine LP_gs ⟨⟨.inr ex295, .inr ex296, .inr ex297, trivial⟩, ?_⟩
      refine GT_ev 9 ok [(20, .slice a35 (List.length r25) c36), (24, .slice a280 (List.length (List.replicate (Int.toNat r48) ((0 : Int)))) c281), (27, .slice a293 (List.length (List.replicate (Int.toNat (ln r25)) ((0 : Int)))) c294), (28, .func (.func 64) #[] #[.pointer (some ⟨b37, 0, none⟩), .pointer (some ⟨b19, 0, none⟩), .pointer (some ⟨b14, 0, none⟩)])] (.agg #[.slice a35 (List.length r25) c36, .slice a280 (List.length (List.replicate (Int.toNat r48) ((0 : Int)))) c281, .slice a293 (List.length (List.replicate (Int.toNat (ln r25)) ((0 : Int)))) c294, .func (.func 64) #[] #[.pointer (some ⟨b37, 0, none⟩), .pointer (some ⟨b19, 0, none⟩), .pointer (some ⟨b14, 0, none⟩)]]) rfl (by kernel_rfl) rfl (fun _ h => h) (fun _ => rfl) ?_
      refine GT_end (by kernel_rfl) ?_
      intro wx298 x299 ρ hn300
      refine AP_forget [(3, I n), (14, .pointer (some ⟨b37, 0, none⟩)), (15, .pointer (some ⟨b261, 0, none⟩)), (29, .agg #[.slice a35 (List.length r25) c36, .slice a280 (List.length (List.replicate (Int.toNat r48) ((0 : Int)))) c281, .slice a293 (List.length (List.replicate (Int.toNat (ln r25)) ((0 : Int)))) c294, .func (.func 64) #[] #[.pointer (some ⟨b37, 0, none⟩), .pointer (some ⟨b19, 0, none⟩), .pointer (some ⟨b14, 0, none⟩)]])] (by exact hn300) fun ρ => ?_
      refine AP_tail 11 [[], [], [], [1, 2], [1, 2, 3], [], [5], [5, 6], [], [0, 1, 2, 3, 4, 5, 6, 7, 8], [], [0, 1, 2, 3, 4, 5, 6, 7, 8, 9, 10]] (by kernel_rfl) ?_
      have ex304 := (((((ex264.ext x270).ext x276).ext x283).ext x289).ext x299)
      refine LP_stbox 11 (vs := [.slice a35 (List.length r25) c36, .slice a280 (List.length (List.replicate (Int.toNat r48) ((0 : Int)))) c281, .slice a293 (List.length (List.replicate (Int.toNat (ln r25)) ((0 : Int)))) c294, .func (.func 64) #[] #[.pointer (some ⟨b37, 0, none⟩), .pointer (some ⟨b19, 0, none⟩), .pointer (some ⟨b14, 0, none⟩)]]) (cs' := [.slice a35 (List.length r25) c36, .slice a280 (List.length (List.replicate (Int.toNat r48) ((0 : Int)))) c281, .slice a293 (List.length (List.replicate (Int.toNat (ln r25)) ((0 : Int)))) c294, .func (.func 64) #[] #[.pointer (some ⟨b37, 0, none⟩), .pointer (some ⟨b19, 0, none⟩), .pointer (some ⟨b14, 0, none⟩)]]) rfl rfl rfl ti_103 rfl rfl rfl rfl rfl ex304 rfl rfl fun wx301 ex302 y303 => ?_
      refine LP_end _ rfl ?_
      refine W_seq ?_
      refine W_region ?_
      refine LP_ev ok 0 [(30, I n)] 1 rfl rfl ?_
      have ex305 := (ex278.ext x283)
      have ex306 := ((((ex43.ext x45).ext x260).ext x263).ext x270)
      have ex307 := (ex264.ext x270)
      have ex308 := ((ex306.ext x276).ext x283)
      have ex309 := ((ex307.ext x276).ext x283)
      have ex310 := ((ex43.ext x45).ext x260)
      have ex311 := ((((((ex33.ext x39).but y (Dj.of_fresh ex33 f41).symm).ext x45).ext x260).ext x263).ext x270)
      have ex312 := (ex22.ext x30)
      have ex313 := (((((((ex22.ext x30).ext x39).but y (Dj.of_fresh ex312 f41).symm).ext x45).ext x260).ext x263).ext x270)
      have ex314 := ((ex17.ext x21).ext x30)
      have ex315 := ((((((((ex17.ext x21).ext x30).ext x39).but y (Dj.of_fresh ex314 f41).symm).ext x45).ext x260).ext x263).ext x270)
      have ex316 := ((ex311.ext x276).ext x283)
      have ex317 := ((ex313.ext x276).ext x283)
      have ex318 := ((ex315.ext x276).ext x283)
      have ex319 := ((((ex33.ext x39).but y (Dj.of_fresh ex33 f41).symm).ext x45).ext x260)
      have ex320 := ((((ex312.ext x39).but y (Dj.of_fresh ex312 f41).symm).ext x45).ext x260)
      have ex321 := ((((ex314.ext x39).but y (Dj.of_fresh ex314 f41).symm).ext x45).ext x260)
      have ex326 := (((ex316.ext x289).ext x299).but y303 (Dj.of_fresh ex319 f265).symm)
      have ex327 := (((ex305.ext x289).ext x299).but y303 (Dj.of_fresh ex307 f279))
      have ex328 := ((ex291.ext x299).but y303 (Dj.of_fresh ex309 f292))
      have ex329 := (((ex308.ext x289).ext x299).but y303 (Dj.of_fresh ex310 f265).symm)
      have ex330 := (((ex317.ext x289).ext x299).but y303 (Dj.of_fresh ex320 f265).symm)
      have ex331 := (((ex318.ext x289).ext x299).but y303 (Dj.of_fresh ex321 f265).symm)
      refine LP_call 1 rfl rfl rfl cal_65 rfl (impl_search_from_impl_solutions_1_impl_IsSafeRelease_1_w _ _ _ _ _ _ H wx301 o.readf ex326 o277 ex327 o290 ex328 ex329 ex330 ex331 ex302 (Dj.of_fresh ex305 f292) (Dj.of_fresh ex306 f279).symm (Dj.box (Dj.of_fresh ex307 f279).symm.symm).symm (Dj.of_fresh ex308 f292).symm (Dj.box (Dj.of_fresh ex309 f292).symm.symm).symm (Dj.box (Dj.of_fresh ex310 f265).symm).symm (Dj.of_fresh ex311 f279).symm (Dj.of_fresh ex313 f279).symm (Dj.of_fresh ex315 f279).symm (Dj.of_fresh ex316 f292).symm (Dj.of_fresh ex317 f292).symm (Dj.of_fresh ex318 f292).symm (Dj.box (Dj.of_fresh ex33 f41).symm) (Dj.box (Dj.of_fresh ex312 f41).symm) (Dj.box (Dj.of_fresh ex314 f41).symm) (Dj.box (Dj.of_fresh ex319 f265).symm) (Dj.box (Dj.of_fresh ex320 f265).symm) (Dj.box (Dj.of_fresh ex321 f265).symm)) ?_
      rintro _ wx332 ⟨r322, r323, r324, r325, vx338, hx334, vx343, hx339, H, rfl, x333, o335, ex336, dm337, o340, ex341, dm342, ex344, ex345, d346, d347, d348, d349, d350⟩
      obtain ⟨a351, c352, rfl⟩ := o335.shape
      obtain ⟨a353, c354, rfl⟩ := o340.shape
      refine LP_end _ rfl ?_
      refine W_seq ?_
      refine W_region ?_
      refine LP_ldbox 0 (v := I r325) rfl rfl rfl ti_3 ag_3 (fun _ => rfl) rfl ex344 rfl rfl ?_
      refine LP_ev ok 1 [(12, I r325)] 2 rfl rfl ?_
      refine LP_end _ rfl ?_
      refine W_ret ?_
      have X356 := ((((X.stepx x).stepx x16).stepx x21).stepx x30)
      have f355 := f41.mono X356.size
      have X358 := ((((X356.stepx x39).step y (f355.dom _)).stepx x45).stepx x260)
      have f357 := f265.mono X358.size
      have X360 := ((X358.stepx x263).stepx x270)
      have f359 := f279.mono X360.size
      have X362 := ((X360.stepx x276).stepx x283)
      have f361 := f292.mono X362.size
      have X363 := ((((((((((((((((X.stepx x).stepx x16).stepx x21).stepx x30).stepx x39).step y (f355.dom _)).stepx x45).stepx x260).stepx x263).stepx x270).stepx x276).stepx x283).stepx x289).stepx x299).step y303 (f357.dom _)).step x333 (DomLe.un (f359.dom _) (DomLe.un (f361.dom _) (DomLe.un ((Fresh.box f355).dom _) ((Fresh.box f357).dom _)))))
      exact ⟨_, Ret_of [I r325] ⟨⟨rfl, rfl⟩, trivial⟩, _, H, rfl, X363.ext⟩
    · have H := H.2
      refine GT_lp [(26, I (ln r25))] rfl (by kernel_rfl) rfl (fun _ h => h) rfl fun ρ wx364 x365 => ?_
      obtain ⟨hn366, hb367, H⟩ := H
      refine LP_make (α := Int) 0 rfl rfl rfl Try.underlying22 ti_3 (x0 := (0 : Int)) rfl rfl hn366 (by first | omega | (simp only [ln] at *; omega)) (by first | omega | (simp only [ln] at *; omega)) fun hx368 vx369 wx370 x371 o372 ex373 f374 => ?_
      obtain ⟨a375, c376, rfl⟩ := o372.shape
      have ex377 := ((ex266.ext x365).ext x371)
      have ex378 := ((ex267.ext x365).ext x371)
      have ex379 := ((ex268.ext x365).ext x371)
      refine LP_gs ⟨⟨.inr ex377, .inr ex378, .inr ex379, trivial⟩, ?_⟩
      refine GT_hd [4] (by kernel_rfl) ⟨GT_lp [(23, I r48)] rfl (by kernel_rfl) rfl (fun _ h => h) rfl fun ρ wx380 x381 => ?_, trivial⟩
      obtain ⟨hn382, hb383, H⟩ := H
      refine LP_make (α := Int) 0 rfl rfl rfl Try.underlying22 ti_3 (x0 := (0 : Int)) rfl rfl hn382 (by first | omega | (simp only [ln] at *; omega)) (by first | omega | (simp only [ln] at *; omega)) fun hx384 vx385 wx386 x387 o388 ex389 f390 => ?_
      obtain ⟨a391, c392, rfl⟩ := o388.shape
      refine LP_gs ⟨⟨.inl rfl, .inl rfl, .inl rfl, trivial⟩, ?_⟩
      refine GT_ev 9 ok [(20, .slice a35 (List.length r25) c36), (24, .slice a391 (List.length (List.replicate (Int.toNat r48) ((0 : Int)))) c392), (27, .slice a375 (List.length (List.replicate (Int.toNat (ln r25)) ((0 : Int)))) c376), (28, .func (.func 64) #[] #[.pointer (some ⟨b37, 0, none⟩), .pointer (some ⟨b19, 0, none⟩), .pointer (some ⟨b14, 0, none⟩)])] (.agg #[.slice a35 (List.length r25) c36, .slice a391 (List.length (List.replicate (Int.toNat r48) ((0 : Int)))) c392, .slice a375 (List.length (List.replicate (Int.toNat (ln r25)) ((0 : Int)))) c376, .func (.func 64) #[] #[.pointer (some ⟨b37, 0, none⟩), .pointer (some ⟨b19, 0, none⟩), .pointer (some ⟨b14, 0, none⟩)]]) rfl (by kernel_rfl) rfl (fun _ h => h) (fun _ => rfl) ?_
      refine GT_end (by kernel_rfl) ?_
      intro wx393 x394 ρ hn395
      refine AP_forget [(3, I n), (14, .pointer (some ⟨b37, 0, none⟩)), (15, .pointer (some ⟨b261, 0, none⟩)), (29, .agg #[.slice a35 (List.length r25) c36, .slice a391 (List.length (List.replicate (Int.toNat r48) ((0 : Int)))) c392, .slice a375 (List.length (List.replicate (Int.toNat (ln r25)) ((0 : Int)))) c376, .func (.func 64) #[] #[.pointer (some ⟨b37, 0, none⟩), .pointer (some ⟨b19, 0, none⟩), .pointer (some ⟨b14, 0, none⟩)]])] (by exact hn395) fun ρ => ?_
      refine AP_tail 11 [[], [], [], [1, 2], [1, 2, 3], [], [5], [5, 6], [], [0, 1, 2, 3, 4, 5, 6, 7, 8], [], [0, 1, 2, 3, 4, 5, 6, 7, 8, 9, 10]] (by kernel_rfl) ?_
      have ex399 := (((((ex264.ext x365).ext x371).ext x381).ext x387).ext x394)
      refine LP_stbox 11 (vs := [.slice a35 (List.length r25) c36, .slice a391 (List.length (List.replicate (Int.toNat r48) ((0 : Int)))) c392, .slice a375 (List.length (List.replicate (Int.toNat (ln r25)) ((0 : Int)))) c376, .func (.func 64) #[] #[.pointer (some ⟨b37, 0, none⟩), .pointer (some ⟨b19, 0, none⟩), .pointer (some ⟨b14, 0, none⟩)]]) (cs' := [.slice a35 (List.length r25) c36, .slice a391 (List.length (List.replicate (Int.toNat r48) ((0 : Int)))) c392, .slice a375 (List.length (List.replicate (Int.toNat (ln r25)) ((0 : Int)))) c376, .func (.func 64) #[] #[.pointer (some ⟨b37, 0, none⟩), .pointer (some ⟨b19, 0, none⟩), .pointer (some ⟨b14, 0, none⟩)]]) rfl rfl rfl ti_103 rfl rfl rfl rfl rfl ex399 rfl rfl fun wx396 ex397 y398 => ?_
      refine LP_end _ rfl ?_
      refine W_seq ?_
      refine W_region ?_
      refine LP_ev ok 0 [(30, I n)] 1 rfl rfl ?_
      have ex400 := (ex373.ext x381)
      have ex401 := ((((((ex43.ext x45).ext x260).ext x263).ext x365).ext x371).ext x381)
      have ex402 := (((ex264.ext x365).ext x371).ext x381)
      have ex403 := ((((ex43.ext x45).ext x260).ext x263).ext x365)
      have ex404 := (ex264.ext x365)
      have ex405 := ((ex43.ext x45).ext x260)
      have ex406 := ((((((((ex33.ext x39).but y (Dj.of_fresh ex33 f41).symm).ext x45).ext x260).ext x263).ext x365).ext x371).ext x381)
      have ex407 := (ex22.ext x30)
      have ex408 := (((((((((ex22.ext x30).ext x39).but y (Dj.of_fresh ex407 f41).symm).ext x45).ext x260).ext x263).ext x365).ext x371).ext x381)
      have ex409 := ((ex17.ext x21).ext x30)
      have ex410 := ((((((((((ex17.ext x21).ext x30).ext x39).but y (Dj.of_fresh ex409 f41).symm).ext x45).ext x260).ext x263).ext x365).ext x371).ext x381)
      have ex411 := ((((((ex33.ext x39).but y (Dj.of_fresh ex33 f41).symm).ext x45).ext x260).ext x263).ext x365)
      have ex412 := ((((((ex407.ext x39).but y (Dj.of_fresh ex407 f41).symm).ext x45).ext x260).ext x263).ext x365)
      have ex413 := ((((((ex409.ext x39).but y (Dj.of_fresh ex409 f41).symm).ext x45).ext x260).ext x263).ext x365)
      have ex414 := ((((ex33.ext x39).but y (Dj.of_fresh ex33 f41).symm).ext x45).ext x260)
      have ex415 := ((((ex407.ext x39).but y (Dj.of_fresh ex407 f41).symm).ext x45).ext x260)
      have ex416 := ((((ex409.ext x39).but y (Dj.of_fresh ex409 f41).symm).ext x45).ext x260)
      have ex421 := (((ex406.ext x387).ext x394).but y398 (Dj.of_fresh ex414 f265).symm)
      have ex422 := ((ex389.ext x394).but y398 (Dj.of_fresh ex402 f390))
      have ex423 := (((ex400.ext x387).ext x394).but y398 (Dj.of_fresh ex404 f374))
      have ex424 := (((ex401.ext x387).ext x394).but y398 (Dj.of_fresh ex405 f265).symm)
      have ex425 := (((ex408.ext x387).ext x394).but y398 (Dj.of_fresh ex415 f265).symm)
      have ex426 := (((ex410.ext x387).ext x394).but y398 (Dj.of_fresh ex416 f265).symm)
      refine LP_call 1 rfl rfl rfl cal_65 rfl (impl_search_from_impl_solutions_1_impl_IsSafeRelease_1_w _ _ _ _ _ _ H wx396 o.readf ex421 o388 ex422 o372 ex423 ex424 ex425 ex426 ex397 (Dj.of_fresh ex400 f390).symm (Dj.of_fresh ex401 f390).symm (Dj.box (Dj.of_fresh ex402 f390).symm.symm).symm (Dj.of_fresh ex403 f374).symm (Dj.box (Dj.of_fresh ex404 f374).symm.symm).symm (Dj.box (Dj.of_fresh ex405 f265).symm).symm (Dj.of_fresh ex406 f390).symm (Dj.of_fresh ex408 f390).symm (Dj.of_fresh ex410 f390).symm (Dj.of_fresh ex411 f374).symm (Dj.of_fresh ex412 f374).symm (Dj.of_fresh ex413 f374).symm (Dj.box (Dj.of_fresh ex33 f41).symm) (Dj.box (Dj.of_fresh ex407 f41).symm) (Dj.box (Dj.of_fresh ex409 f41).symm) (Dj.box (Dj.of_fresh ex414 f265).symm) (Dj.box (Dj.of_fresh ex415 f265).symm) (Dj.box (Dj.of_fresh ex416 f265).symm)) ?_
      rintro _ wx427 ⟨r417, r418, r419, r420, vx433, hx429, vx438, hx434, H, rfl, x428, o430, ex431, dm432, o435, ex436, dm437, ex439, ex440, d441, d442, d443, d444, d445⟩
      obtain ⟨a446, c447, rfl⟩ := o430.shape
      obtain ⟨a448, c449, rfl⟩ := o435.shape
      refine LP_end _ rfl ?_
      refine W_seq ?_
      refine W_region ?_
      refine LP_ldbox 0 (v := I r420) rfl rfl rfl ti_3 ag_3 (fun _ => rfl) rfl ex439 rfl rfl ?_
      refine LP_ev ok 1 [(12, I r420)] 2 rfl rfl ?_
      refine LP_end _ rfl ?_
      refine W_ret ?_
      have X451 := ((((X.stepx x).stepx x16).stepx x21).stepx x30)
      have f450 := f41.mono X451.size
      have X453 := ((((X451.stepx x39).step y (f450.dom _)).stepx x45).stepx x260)
      have f452 := f265.mono X453.size
      have X455 := ((((X453.stepx x263).stepx x365).stepx x371).stepx x381)
      have f454 := f390.mono X455.size
      have X457 := ((X453.stepx x263).stepx x365)
      have f456 := f374.mono X457.size
      have X458 := ((((((((((((((((X.stepx x).stepx x16).stepx x21).stepx x30).stepx x39).step y (f450.dom _)).stepx x45).stepx x260).stepx x263).stepx x365).stepx x371).stepx x381).stepx x387).stepx x394).step y398 (f452.dom _)).step x428 (DomLe.un (f454.dom _) (DomLe.un (f456.dom _) (DomLe.un ((Fresh.box f450).dom _) ((Fresh.box f452).dom _)))))
      exact ⟨_, Ret_of [I r420] ⟨⟨rfl, rfl⟩, trivial⟩, _, H, rfl, X458.ext⟩

set_option maxRecDepth 8000 in
set_option maxHeartbeats 4000000 in
theorem impl_IsSafeRelease_w (g : Geo) (sx : List Variable) (pubs : List Published) (n : Int) (floor : Int) (Q : Bool → Bool → Prop) (H : impl_IsSafeRelease g sx pubs n floor Q) (w : World) {vx : Value} {hx : PH} (r : RS hx vx g.Parents) (ex : Sub hx w) {vx1 : Value} {hx2 : PH} (r3 : RS hx2 vx1 sx) (ex4 : Sub hx2 w) {vx7 : Value} {hx8 : PH} (r9 : RS hx8 vx7 pubs) (ex10 : Sub hx8 w) :
    CallsTo Try.prog 13 #[.agg #[vx], vx1, vx7, I n, I floor] w fun v w' => ∃ r0 r1, Q r0 r1 ∧ v = .tuple #[.bool r0, .bool r1] ∧ Ext w w' := by
  obtain ⟨a, c, rfl⟩ := r.shape
  obtain ⟨a5, c6, rfl⟩ := r3.shape
  obtain ⟨a11, c12, rfl⟩ := r9.shape
  refine enter (args := [.agg #[.slice a (List.length g.Parents) c], .slice a5 (List.length sx) c6, .slice a11 (List.length pubs) c12, I n, I floor]) 40 Try.func13 rfl rfl rfl ?_
  refine W_forget [(0, .agg #[.slice a (List.length g.Parents) c]), (1, .slice a5 (List.length sx) c6), (2, .slice a11 (List.length pubs) c12), (3, I n), (4, I floor)] ⟨rfl, rfl, rfl, rfl, rfl, trivial⟩ fun ρ => ?_
  have X := But.refl emp w
  refine W_seq ?_
  refine W_region ?_
  refine LP_box 0 (cs := [.slice a (List.length g.Parents) c]) rfl rfl rfl rfl rfl fun b wx x ex13 f => ?_
  refine LP_ev ok 1 [(10, .bool false), (11, .bool false)] 3 rfl rfl ?_
  refine LP_end _ rfl ?_
  refine W_seq ?_
  obtain ⟨k, hk, H⟩ := jn_elim H
  refine W_join2 (S := Bool) (fun s ρ' w' => k s ∧ ∃ (ρ : Env), ρ' = setAll [(1, .slice a5 (List.length sx) c6), (2, .slice a11 (List.length pubs) c12), (3, I n), (4, I floor), (5, .pointer (some ⟨b, 0, none⟩)), (29, .bool s)] ρ ∧ But emp w w' ∧ Sub hx w' ∧ Sub hx2 w' ∧ Sub hx8 w' ∧ Sub (bx b 32 [.slice a (List.length g.Parents) c]) w') ?_ ?_
  · refine W_region ?_
    refine LP_ldbox 0 (v := .agg #[.slice a (List.length g.Parents) c]) rfl rfl rfl ti_32 ag_32 (fun h => by cases h) rfl ex13 rfl rfl ?_
    refine LP_ev ok 1 [(13, .slice a5 (List.length sx) c6), (14, .slice a11 (List.length pubs) c12)] 3 rfl rfl ?_
    have ex22 := (ex.ext x)
    have ex23 := (ex4.ext x)
    have ex24 := (ex10.ext x)
    refine LP_call 3 rfl rfl rfl cal_33 rfl (impl_areAttacked_w _ _ _ _ H wx r ex22 r3 ex23 r9 ex24) ?_
    rintro _ wx25 ⟨r21, H, rfl, x26⟩
    refine LP_ev ok 4 [(16, .bool (!r21)), (17, .bool (!r21))] 6 rfl rfl ?_
    refine LP_split 17 (!r21) rfl (fun hc => ?_) (fun hc => ?_)
    · have H := H.1 hc
      refine LP_ev ok 6 [(18, undef), (19, undef), (20, undef), (21, .bool true), (22, .bool true), (23, undef), (24, undef), (25, .bool true), (26, .bool true), (27, undef), (28, undef), (29, .bool true)] 18 rfl rfl ?_
      refine LP_end _ rfl ?_
      have X27 := ((X.stepx x).stepx x26)
      have ex28 := (ex22.ext x26)
      have ex29 := (ex23.ext x26)
      have ex30 := (ex24.ext x26)
      have ex31 := (ex13.ext x26)
      exact ⟨true, H, _, env_eq ⟨rfl, rfl, rfl, rfl, rfl, rfl, trivial⟩, X27, ex28, ex29, ex30, ex31⟩
    have H := H.2 hc
    refine LP_ev ok 6 [(18, I n)] 7 rfl rfl ?_
    refine LP_call 7 rfl rfl rfl cal_34 rfl (impl_isPersons_w _ _ H wx25 ) ?_
    rintro _ wx33 ⟨r32, H, rfl, x34⟩
    refine LP_ev ok 8 [(20, .bool (!r32)), (21, .bool (!r32)), (22, .bool (!r32))] 11 rfl rfl ?_
    refine LP_split 22 (!r32) rfl (fun hc35 => ?_) (fun hc35 => ?_)
    · have H := H.1 hc35
      refine LP_ev ok 11 [(23, undef), (24, undef), (25, .bool true), (26, .bool true), (27, undef), (28, undef), (29, .bool true)] 18 rfl rfl ?_
      refine LP_end _ rfl ?_
      have X36 := (((X.stepx x).stepx x26).stepx x34)
      have ex37 := ((ex22.ext x26).ext x34)
      have ex38 := ((ex23.ext x26).ext x34)
      have ex39 := ((ex24.ext x26).ext x34)
      have ex40 := ((ex13.ext x26).ext x34)
      exact ⟨true, H, _, env_eq ⟨rfl, rfl, rfl, rfl, rfl, rfl, trivial⟩, X36, ex37, ex38, ex39, ex40⟩
    have H := H.2 hc35
    refine LP_ev ok 11 [(23, I floor), (24, .bool (decide (floor < 0))), (25, .bool (decide (floor < 0))), (26, .bool (decide (floor < 0)))] 15 rfl rfl ?_
    refine LP_split 26 (decide (floor < 0)) rfl (fun hc41 => ?_) (fun hc41 => ?_)
    · have H := H.1 hc41
      refine LP_ev ok 15 [(27, undef), (28, undef), (29, .bool true)] 18 rfl rfl ?_
      refine LP_end _ rfl ?_
      have X42 := (((X.stepx x).stepx x26).stepx x34)
      have ex43 := ((ex22.ext x26).ext x34)
      have ex44 := ((ex23.ext x26).ext x34)
      have ex45 := ((ex24.ext x26).ext x34)
      have ex46 := ((ex13.ext x26).ext x34)
      exact ⟨true, H, _, env_eq ⟨rfl, rfl, rfl, rfl, rfl, rfl, trivial⟩, X42, ex43, ex44, ex45, ex46⟩
    have H := H.2 hc41
    refine LP_ev ok 15 [(27, I floor), (28, .bool (decide (floor > 20000))), (29, .bool (decide (floor > 20000)))] 18 rfl rfl ?_
    refine LP_end _ rfl ?_
    have X47 := (((X.stepx x).stepx x26).stepx x34)
    have ex48 := ((ex22.ext x26).ext x34)
    have ex49 := ((ex23.ext x26).ext x34)
    have ex50 := ((ex24.ext x26).ext x34)
    have ex51 := ((ex13.ext x26).ext x34)
    exact ⟨decide (floor > 20000), H, _, env_eq ⟨rfl, rfl, rfl, rfl, rfl, rfl, trivial⟩, X47, ex48, ex49, ex50, ex51⟩
  rintro x14 _ wx15 ⟨H, ρ, rfl, X20, ex16, ex17, ex18, ex19⟩
  subst hk
  refine W_cond (x14) rfl (fun hc52 => ?_) (fun hc52 => ?_)
  · have H := H.1 hc52
    refine W_seq ?_
    refine W_region ?_
    refine LP_ev ok 0 [(10, .bool false), (11, .bool false)] 2 rfl rfl ?_
    refine LP_end _ rfl ?_
    refine W_ret ?_
    exact ⟨_, Ret_of [.bool false, .bool false] ⟨⟨rfl, rfl⟩, ⟨rfl, rfl⟩, trivial⟩, _, _, H, rfl, X20.ext⟩
  have H := H.2 hc52
  refine W_skip ?_
  refine W_seq ?_
  refine W_seq ?_
  refine W_region ?_
  refine LP_ev ok 0 [(30, I floor), (31, .bool (floor == 0))] 2 rfl rfl ?_
  refine LP_end _ rfl ?_
  refine W_cond (floor == 0) rfl (fun hc53 => ?_) (fun hc53 => ?_)
  · have H := H.1 hc53
    refine W_seq ?_
    refine W_region ?_
    refine LP_ev ok 0 [(10, .bool true), (11, .bool true)] 2 rfl rfl ?_
    refine LP_end _ rfl ?_
    refine W_ret ?_
    exact ⟨_, Ret_of [.bool true, .bool true] ⟨⟨rfl, rfl⟩, ⟨rfl, rfl⟩, trivial⟩, _, _, H, rfl, X20.ext⟩
  have H := H.2 hc53
  refine W_skip ?_
  refine W_seq ?_
  refine W_region ?_
  refine LP_ldbox 0 (v := .agg #[.slice a (List.length g.Parents) c]) rfl rfl rfl ti_32 ag_32 (fun h => by cases h) rfl ex19 rfl rfl ?_
  refine LP_ev ok 1 [(33, .slice a5 (List.length sx) c6), (34, .slice a11 (List.length pubs) c12), (35, I n), (36, I floor)] 5 rfl rfl ?_
  refine LP_call 5 rfl rfl rfl cal_35 rfl (impl_solutions_impl_IsSafeRelease_1_w _ _ _ _ _ _ H wx15 r ex16 r3 ex17 r9 ex18) ?_
  rintro _ wx55 ⟨r54, H, rfl, x56⟩
  refine LP_ev ok 6 [(38, I floor), (39, .bool (decide (r54 ≥ floor))), (10, .bool (decide (r54 ≥ floor))), (11, .bool true)] 10 rfl rfl ?_
  refine LP_end _ rfl ?_
  refine W_ret ?_
  have X57 := (X20.stepx x56)
  exact ⟨_, Ret_of [.bool (decide (r54 ≥ floor)), .bool true] ⟨⟨rfl, rfl⟩, ⟨rfl, rfl⟩, trivial⟩, _, _, H, rfl, X57.ext⟩

set_option maxRecDepth 8000 in
set_option maxHeartbeats 4000000 in
theorem laws_eqIntS_w (a : List Int) (b : List Int) (Q : Bool → Prop) (H : laws_eqIntS a b Q) (w : World) {vx : Value} {hx : PH} (r : RS hx vx a) (ex : Sub hx w) {vx2 : Value} {hx3 : PH} (r4 : RS hx3 vx2 b) (ex5 : Sub hx3 w) :
    CallsTo Try.prog 37 #[vx, vx2] w fun v w' => ∃ r0, Q r0 ∧ v = .bool r0 ∧ Ext w w' := by
  obtain ⟨a1, c, rfl⟩ := r.shape
  obtain ⟨a6, c7, rfl⟩ := r4.shape
  refine enter (args := [.slice a1 (List.length a) c, .slice a6 (List.length b) c7]) 26 Try.func37 rfl rfl rfl ?_
  refine W_forget [(0, .slice a1 (List.length a) c), (1, .slice a6 (List.length b) c7)] ⟨rfl, rfl, trivial⟩ fun ρ => ?_
  have X := But.refl emp w
  refine W_seq ?_
  refine W_region ?_
  refine LP_ev ok 0 [(4, .bool false)] 1 rfl rfl ?_
  refine LP_end _ rfl ?_
  refine W_seq ?_
  refine W_seq ?_
  refine W_region ?_
  refine LP_ev ok 0 [(6, .slice a1 (List.length a) c), (7, I (ln a)), (8, .slice a6 (List.length b) c7), (9, I (ln b)), (10, .bool ((ln a) != (ln b)))] 5 rfl rfl ?_
  refine LP_end _ rfl ?_
  refine W_cond ((ln a) != (ln b)) rfl (fun hc => ?_) (fun hc => ?_)
  · have H := H.1 hc
    refine W_seq ?_
    refine W_region ?_
    refine LP_ev ok 0 [(4, .bool false)] 1 rfl rfl ?_
    refine LP_end _ rfl ?_
    refine W_ret ?_
    exact ⟨_, Ret_of [.bool false] ⟨⟨rfl, rfl⟩, trivial⟩, _, H, rfl, X.ext⟩
  have H := H.2 hc
  refine W_skip ?_
  refine W_seq ?_
  refine W_seq ?_
  refine W_region ?_
  refine LP_ev ok 0 [(5, I 0)] 1 rfl rfl ?_
  refine LP_end _ rfl ?_
  refine W_block ?_
  obtain ⟨J, m, Hx, H⟩ := H
  refine W_loop (S := Int) (fun s ρ' w' => J s ∧ ∃ (ρ : Env), ρ' = setAll [(0, .slice a1 (List.length a) c), (1, .slice a6 (List.length b) c7), (5, I s)] ρ ∧ But emp w w' ∧ Sub hx w' ∧ Sub hx3 w') (fun s => m s) 0 ⟨Hx, _, env_eq ⟨rfl, rfl, rfl, trivial⟩, X, ex, ex5⟩ ?_
  rintro i _ wx ⟨Hi, ρ, rfl, X10, ex8, ex9⟩
  have H := H i Hi
  refine W_seq ?_
  refine W_seq ?_
  refine W_region ?_
  refine LP_ev ok 0 [(11, I i), (12, .slice a1 (List.length a) c), (13, I (ln a)), (14, .bool (decide (i < (ln a))))] 4 rfl rfl ?_
  refine LP_end _ rfl ?_
  refine W_cond (decide (i < (ln a))) rfl (fun hc11 => ?_) (fun hc11 => ?_)
  · have H := H.1 hc11
    refine W_skip ?_
    refine W_seq ?_
    refine W_block ?_
    refine W_seq ?_
    refine W_quiet mix (by kernel_rfl) ?_
    refine QP_ev ok 0 [(17, .slice a1 (List.length a) c), (18, I i)] 2 rfl rfl ?_
    obtain ⟨x, hi, hx12, H⟩ := H
    refine QP_index 2 rfl rfl rfl Try.underlying22 ti_3 rfl rfl r hi hx12 fun a13 cs r14 d => ?_
    refine QP_load 3 rfl rfl rfl ti_3 ag_3 rfl r14 d ex8 fun vx15 r16 => ?_
    obtain rfl := r16.int
    refine QP_ev ok 4 [(21, .slice a6 (List.length b) c7), (22, I i)] 6 rfl rfl ?_
    obtain ⟨x17, hi18, hx19, H⟩ := H
    refine QP_index 6 rfl rfl rfl Try.underlying22 ti_3 rfl rfl r4 hi18 hx19 fun a20 cs21 r22 d23 => ?_
    refine QP_load 7 rfl rfl rfl ti_3 ag_3 rfl r22 d23 ex9 fun vx24 r25 => ?_
    obtain rfl := r25.int
    refine QP_ev ok 8 [(25, .bool (x != x17))] 9 rfl rfl ?_
    refine QP_end _ rfl fun wx26 x27 => ?_
    refine W_cond (x != x17) rfl (fun hc28 => ?_) (fun hc28 => ?_)
    · have H := H.1 hc28
      refine W_seq ?_
      refine W_region ?_
      refine LP_ev ok 0 [(4, .bool false)] 1 rfl rfl ?_
      refine LP_end _ rfl ?_
      refine W_ret ?_
      have X29 := (X10.stepx x27)
      exact ⟨_, Ret_of [.bool false] ⟨⟨rfl, rfl⟩, trivial⟩, _, H, rfl, X29.ext⟩
    have H := H.2 hc28
    refine W_skip ?_
    refine W_region ?_
    refine LP_ev ok 0 [(15, I i), (16, I (wr (i + 1))), (5, I (wr (i + 1)))] 3 rfl rfl ?_
    refine LP_end _ rfl ?_
    have X30 := (X10.stepx x27)
    have ex31 := (ex8.ext x27)
    have ex32 := (ex9.ext x27)
    exact ⟨wr (i + 1), ⟨H.1, _, env_eq ⟨rfl, rfl, rfl, trivial⟩, X30, ex31, ex32⟩, H.2⟩
  have H := H.2 hc11
  refine W_exit ?_
  refine (if_pos rfl).mpr ?_
  refine W_seq ?_
  refine W_region ?_
  refine LP_ev ok 0 [(4, .bool true)] 1 rfl rfl ?_
  refine LP_end _ rfl ?_
  refine W_ret ?_
  exact ⟨_, Ret_of [.bool true] ⟨⟨rfl, rfl⟩, trivial⟩, _, H, rfl, X10.ext⟩

set_option maxRecDepth 8000 in
set_option maxHeartbeats 4000000 in
theorem laws_eqGeo_w (a : Geo) (b : Geo) (Q : Bool → Prop) (H : laws_eqGeo a b Q) (w : World) {vx : Value} {hx : PH} (r : RS hx vx a.Parents) (ex : Sub hx w) {vx2 : Value} {hx3 : PH} (r4 : RS hx3 vx2 b.Parents) (ex5 : Sub hx3 w) :
    CallsTo Try.prog 14 #[.agg #[vx], .agg #[vx2]] w fun v w' => ∃ r0, Q r0 ∧ v = .bool r0 ∧ Ext w w' := by
  obtain ⟨a1, c, rfl⟩ := r.shape
  obtain ⟨a6, c7, rfl⟩ := r4.shape
  refine enter (args := [.agg #[.slice a1 (List.length a.Parents) c], .agg #[.slice a6 (List.length b.Parents) c7]]) 11 Try.func14 rfl rfl rfl ?_
  refine W_forget [(0, .agg #[.slice a1 (List.length a.Parents) c]), (1, .agg #[.slice a6 (List.length b.Parents) c7])] ⟨rfl, rfl, trivial⟩ fun ρ => ?_
  have X := But.refl emp w
  refine W_seq ?_
  refine W_region ?_
  refine LP_box 0 (cs := [.slice a1 (List.length a.Parents) c]) rfl rfl rfl rfl rfl fun b8 wx x ex9 f => ?_
  refine LP_box 1 (cs := [.slice a6 (List.length b.Parents) c7]) rfl rfl rfl rfl rfl fun b10 wx11 x12 ex13 f14 => ?_
  refine LP_ev ok 2 [(4, .bool false)] 3 rfl rfl ?_
  refine LP_end _ rfl ?_
  refine W_seq ?_
  refine W_seq ?_
  refine W_region ?_
  refine LP_ev ok 0 [(5, .pointer (some ⟨b8, 0, none⟩))] 1 rfl rfl ?_
  have ex15 := (ex9.ext x12)
  refine LP_ldbox 1 (v := .slice a1 (List.length a.Parents) c) rfl rfl rfl ti_22 ag_22 (fun _ => rfl) rfl ex15 rfl rfl ?_
  refine LP_ev ok 2 [(7, .pointer (some ⟨b10, 0, none⟩))] 3 rfl rfl ?_
  refine LP_ldbox 3 (v := .slice a6 (List.length b.Parents) c7) rfl rfl rfl ti_22 ag_22 (fun _ => rfl) rfl ex13 rfl rfl ?_
  have ex17 := ((ex.ext x).ext x12)
  have ex18 := ((ex5.ext x).ext x12)
  refine LP_call 4 rfl rfl rfl cal_37 rfl (laws_eqIntS_w _ _ _ H wx11 r ex17 r4 ex18) ?_
  rintro _ wx19 ⟨r16, H, rfl, x20⟩
  refine LP_ev ok 5 [(10, .bool (!r16))] 6 rfl rfl ?_
  refine LP_end _ rfl ?_
  refine W_cond (!r16) rfl (fun hc => ?_) (fun hc => ?_)
  · have H := H.1 hc
    refine W_seq ?_
    refine W_region ?_
    refine LP_ev ok 0 [(4, .bool false)] 1 rfl rfl ?_
    refine LP_end _ rfl ?_
    refine W_ret ?_
    have X21 := (((X.stepx x).stepx x12).stepx x20)
    exact ⟨_, Ret_of [.bool false] ⟨⟨rfl, rfl⟩, trivial⟩, _, H, rfl, X21.ext⟩
  have H := H.2 hc
  refine W_skip ?_
  refine W_seq ?_
  refine W_region ?_
  refine LP_ev ok 0 [(4, .bool true)] 1 rfl rfl ?_
  refine LP_end _ rfl ?_
  refine W_ret ?_
  have X22 := (((X.stepx x).stepx x12).stepx x20)
  exact ⟨_, Ret_of [.bool true] ⟨⟨rfl, rfl⟩, trivial⟩, _, H, rfl, X22.ext⟩

set_option maxRecDepth 8000 in
set_option maxHeartbeats 4000000 in
theorem laws_eqVariable_w (a : Variable) (b : Variable) (Q : Bool → Prop) (H : laws_eqVariable a b Q) (w : World)  :
    CallsTo Try.prog 38 #[.agg #[.string a.Name, I a.Levels], .agg #[.string b.Name, I b.Levels]] w fun v w' => ∃ r0, Q r0 ∧ v = .bool r0 ∧ Ext w w' := by
  refine enter (args := [.agg #[.string a.Name, I a.Levels], .agg #[.string b.Name, I b.Levels]]) 15 Try.func38 rfl rfl rfl ?_
  refine W_forget [(0, .agg #[.string a.Name, I a.Levels]), (1, .agg #[.string b.Name, I b.Levels])] ⟨rfl, rfl, trivial⟩ fun ρ => ?_
  have X := But.refl emp w
  refine W_seq ?_
  refine W_region ?_
  refine LP_box 0 (cs := [.string a.Name, I a.Levels]) rfl rfl rfl rfl rfl fun b1 wx x ex f => ?_
  refine LP_box 1 (cs := [.string b.Name, I b.Levels]) rfl rfl rfl rfl rfl fun b2 wx3 x4 ex5 f6 => ?_
  refine LP_ev ok 2 [(4, .bool false)] 3 rfl rfl ?_
  refine LP_end _ rfl ?_
  refine W_seq ?_
  refine W_seq ?_
  refine W_region ?_
  refine LP_ev ok 0 [(5, .pointer (some ⟨b1, 0, none⟩))] 1 rfl rfl ?_
  have ex7 := (ex.ext x4)
  refine LP_ldbox 1 (v := .string a.Name) rfl rfl rfl ti_9 ag_9 (fun _ => rfl) rfl ex7 rfl rfl ?_
  refine LP_ev ok 2 [(7, .pointer (some ⟨b2, 0, none⟩))] 3 rfl rfl ?_
  refine LP_ldbox 3 (v := .string b.Name) rfl rfl rfl ti_9 ag_9 (fun _ => rfl) rfl ex5 rfl rfl ?_
  refine LP_ev ok 4 [(9, .bool (!streq a.Name b.Name))] 5 rfl rfl ?_
  refine LP_end _ rfl ?_
  refine W_cond (!streq a.Name b.Name) rfl (fun hc => ?_) (fun hc => ?_)
  · have H := H.1 hc
    refine W_seq ?_
    refine W_region ?_
    refine LP_ev ok 0 [(4, .bool false)] 1 rfl rfl ?_
    refine LP_end _ rfl ?_
    refine W_ret ?_
    have X8 := ((X.stepx x).stepx x4)
    exact ⟨_, Ret_of [.bool false] ⟨⟨rfl, rfl⟩, trivial⟩, _, H, rfl, X8.ext⟩
  have H := H.2 hc
  refine W_skip ?_
  refine W_seq ?_
  refine W_seq ?_
  refine W_region ?_
  refine LP_ev ok 0 [(10, .pointer (some ⟨b1, 1, none⟩))] 1 rfl rfl ?_
  refine LP_ldbox 1 (v := I a.Levels) rfl rfl rfl ti_3 ag_3 (fun _ => rfl) rfl ex7 rfl rfl ?_
  refine LP_ev ok 2 [(12, .pointer (some ⟨b2, 1, none⟩))] 3 rfl rfl ?_
  refine LP_ldbox 3 (v := I b.Levels) rfl rfl rfl ti_3 ag_3 (fun _ => rfl) rfl ex5 rfl rfl ?_
  refine LP_ev ok 4 [(14, .bool (a.Levels != b.Levels))] 5 rfl rfl ?_
  refine LP_end _ rfl ?_
  refine W_cond (a.Levels != b.Levels) rfl (fun hc9 => ?_) (fun hc9 => ?_)
  · have H := H.1 hc9
    refine W_seq ?_
    refine W_region ?_
    refine LP_ev ok 0 [(4, .bool false)] 1 rfl rfl ?_
    refine LP_end _ rfl ?_
    refine W_ret ?_
    have X10 := ((X.stepx x).stepx x4)
    exact ⟨_, Ret_of [.bool false] ⟨⟨rfl, rfl⟩, trivial⟩, _, H, rfl, X10.ext⟩
  have H := H.2 hc9
  refine W_skip ?_
  refine W_seq ?_
  refine W_region ?_
  refine LP_ev ok 0 [(4, .bool true)] 1 rfl rfl ?_
  refine LP_end _ rfl ?_
  refine W_ret ?_
  have X11 := ((X.stepx x).stepx x4)
  exact ⟨_, Ret_of [.bool true] ⟨⟨rfl, rfl⟩, trivial⟩, _, H, rfl, X11.ext⟩

set_option maxRecDepth 8000 in
set_option maxHeartbeats 4000000 in
theorem laws_eqVariableS_w (a : List Variable) (b : List Variable) (Q : Bool → Prop) (H : laws_eqVariableS a b Q) (w : World) {vx : Value} {hx : PH} (r : RS hx vx a) (ex : Sub hx w) {vx2 : Value} {hx3 : PH} (r4 : RS hx3 vx2 b) (ex5 : Sub hx3 w) :
    CallsTo Try.prog 15 #[vx, vx2] w fun v w' => ∃ r0, Q r0 ∧ v = .bool r0 ∧ Ext w w' := by
  obtain ⟨a1, c, rfl⟩ := r.shape
  obtain ⟨a6, c7, rfl⟩ := r4.shape
  refine enter (args := [.slice a1 (List.length a) c, .slice a6 (List.length b) c7]) 27 Try.func15 rfl rfl rfl ?_
  refine W_forget [(0, .slice a1 (List.length a) c), (1, .slice a6 (List.length b) c7)] ⟨rfl, rfl, trivial⟩ fun ρ => ?_
  have X := But.refl emp w
  refine W_seq ?_
  refine W_region ?_
  refine LP_ev ok 0 [(4, .bool false)] 1 rfl rfl ?_
  refine LP_end _ rfl ?_
  refine W_seq ?_
  refine W_seq ?_
  refine W_region ?_
  refine LP_ev ok 0 [(6, .slice a1 (List.length a) c), (7, I (ln a)), (8, .slice a6 (List.length b) c7), (9, I (ln b)), (10, .bool ((ln a) != (ln b)))] 5 rfl rfl ?_
  refine LP_end _ rfl ?_
  refine W_cond ((ln a) != (ln b)) rfl (fun hc => ?_) (fun hc => ?_)
  · have H := H.1 hc
    refine W_seq ?_
    refine W_region ?_
    refine LP_ev ok 0 [(4, .bool false)] 1 rfl rfl ?_
    refine LP_end _ rfl ?_
    refine W_ret ?_
    exact ⟨_, Ret_of [.bool false] ⟨⟨rfl, rfl⟩, trivial⟩, _, H, rfl, X.ext⟩
  have H := H.2 hc
  refine W_skip ?_
  refine W_seq ?_
  refine W_seq ?_
  refine W_region ?_
  refine LP_ev ok 0 [(5, I 0)] 1 rfl rfl ?_
  refine LP_end _ rfl ?_
  refine W_block ?_
  obtain ⟨J, m, Hx, H⟩ := H
  refine W_loop (S := Int) (fun s ρ' w' => J s ∧ ∃ (ρ : Env), ρ' = setAll [(0, .slice a1 (List.length a) c), (1, .slice a6 (List.length b) c7), (5, I s)] ρ ∧ But emp w w' ∧ Sub hx w' ∧ Sub hx3 w') (fun s => m s) 0 ⟨Hx, _, env_eq ⟨rfl, rfl, rfl, trivial⟩, X, ex, ex5⟩ ?_
  rintro i _ wx ⟨Hi, ρ, rfl, X10, ex8, ex9⟩
  have H := H i Hi
  refine W_seq ?_
  refine W_seq ?_
  refine W_region ?_
  refine LP_ev ok 0 [(11, I i), (12, .slice a1 (List.length a) c), (13, I (ln a)), (14, .bool (decide (i < (ln a))))] 4 rfl rfl ?_
  refine LP_end _ rfl ?_
  refine W_cond (decide (i < (ln a))) rfl (fun hc11 => ?_) (fun hc11 => ?_)
  · have H := H.1 hc11
    refine W_skip ?_
    refine W_seq ?_
    refine W_block ?_
    refine W_seq ?_
    refine W_quiet mix (by kernel_rfl) ?_
    refine QP_ev ok 0 [(17, .slice a1 (List.length a) c), (18, I i)] 2 rfl rfl ?_
    obtain ⟨x, hi, hx12, H⟩ := H
    refine QP_index 2 rfl rfl rfl Try.underlying34 ti_66 rfl rfl r hi hx12 fun a13 cs r14 d => ?_
    refine QP_load 3 rfl rfl rfl ti_66 ag_66 rfl r14 d ex8 fun vx15 r16 => ?_
    obtain rfl := Variable_rv r16
    refine QP_ev ok 4 [(21, .slice a6 (List.length b) c7), (22, I i)] 6 rfl rfl ?_
    obtain ⟨x17, hi18, hx19, H⟩ := H
    refine QP_index 6 rfl rfl rfl Try.underlying34 ti_66 rfl rfl r4 hi18 hx19 fun a20 cs21 r22 d23 => ?_
    refine QP_load 7 rfl rfl rfl ti_66 ag_66 rfl r22 d23 ex9 fun vx24 r25 => ?_
    obtain rfl := Variable_rv r25
    obtain ⟨r26, Hd, H⟩ := H
    refine QP_call (.bool r26) 8 rfl rfl rfl cal_38 rfl (fun wx27 x28 => (laws_eqVariable_w _ _ _ Hd wx27 ).mono ?_) ?_
    · rintro _ _ ⟨_, rfl, rfl, x⟩; exact ⟨rfl, x⟩
    refine QP_ev ok 9 [(26, .bool (!r26))] 10 rfl rfl ?_
    refine QP_end _ rfl fun wx29 x30 => ?_
    refine W_cond (!r26) rfl (fun hc31 => ?_) (fun hc31 => ?_)
    · have H := H.1 hc31
      refine W_seq ?_
      refine W_region ?_
      refine LP_ev ok 0 [(4, .bool false)] 1 rfl rfl ?_
      refine LP_end _ rfl ?_
      refine W_ret ?_
      have X32 := (X10.stepx x30)
      exact ⟨_, Ret_of [.bool false] ⟨⟨rfl, rfl⟩, trivial⟩, _, H, rfl, X32.ext⟩
    have H := H.2 hc31
    refine W_skip ?_
    refine W_region ?_
    refine LP_ev ok 0 [(15, I i), (16, I (wr (i + 1))), (5, I (wr (i + 1)))] 3 rfl rfl ?_
    refine LP_end _ rfl ?_
    have X33 := (X10.stepx x30)
    have ex34 := (ex8.ext x30)
    have ex35 := (ex9.ext x30)
    exact ⟨wr (i + 1), ⟨H.1, _, env_eq ⟨rfl, rfl, rfl, trivial⟩, X33, ex34, ex35⟩, H.2⟩
  have H := H.2 hc11
  refine W_exit ?_
  refine (if_pos rfl).mpr ?_
  refine W_seq ?_
  refine W_region ?_
  refine LP_ev ok 0 [(4, .bool true)] 1 rfl rfl ?_
  refine LP_end _ rfl ?_
  refine W_ret ?_
  exact ⟨_, Ret_of [.bool true] ⟨⟨rfl, rfl⟩, trivial⟩, _, H, rfl, X10.ext⟩

set_option maxRecDepth 8000 in
set_option maxHeartbeats 4000000 in
theorem laws_eqTable_w (a : Table) (b : Table) (Q : Bool → Prop) (H : laws_eqTable a b Q) (w : World) {vx : Value} {hx : PH} (r : RS hx vx a.Vars) (ex : Sub hx w) {vx2 : Value} {hx3 : PH} (r4 : RS hx3 vx2 a.Where) (ex5 : Sub hx3 w) {vx8 : Value} {hx9 : PH} (r10 : RS hx9 vx8 b.Vars) (ex11 : Sub hx9 w) {vx14 : Value} {hx15 : PH} (r16 : RS hx15 vx14 b.Where) (ex17 : Sub hx15 w) :
    CallsTo Try.prog 23 #[.agg #[I a.Level, vx, vx2, I a.Sum], .agg #[I b.Level, vx8, vx14, I b.Sum]] w fun v w' => ∃ r0, Q r0 ∧ v = .bool r0 ∧ Ext w w' := by
  obtain ⟨a1, c, rfl⟩ := r.shape
  obtain ⟨a6, c7, rfl⟩ := r4.shape
  obtain ⟨a12, c13, rfl⟩ := r10.shape
  obtain ⟨a18, c19, rfl⟩ := r16.shape
  refine enter (args := [.agg #[I a.Level, .slice a1 (List.length a.Vars) c, .slice a6 (List.length a.Where) c7, I a.Sum], .agg #[I b.Level, .slice a12 (List.length b.Vars) c13, .slice a18 (List.length b.Where) c19, I b.Sum]]) 27 Try.func23 rfl rfl rfl ?_
  refine W_forget [(0, .agg #[I a.Level, .slice a1 (List.length a.Vars) c, .slice a6 (List.length a.Where) c7, I a.Sum]), (1, .agg #[I b.Level, .slice a12 (List.length b.Vars) c13, .slice a18 (List.length b.Where) c19, I b.Sum])] ⟨rfl, rfl, trivial⟩ fun ρ => ?_
  have X := But.refl emp w
  refine W_seq ?_
  refine W_region ?_
  refine LP_box 0 (cs := [I a.Level, .slice a1 (List.length a.Vars) c, .slice a6 (List.length a.Where) c7, I a.Sum]) rfl rfl rfl rfl rfl fun b20 wx x ex21 f => ?_
  refine LP_box 1 (cs := [I b.Level, .slice a12 (List.length b.Vars) c13, .slice a18 (List.length b.Where) c19, I b.Sum]) rfl rfl rfl rfl rfl fun b22 wx23 x24 ex25 f26 => ?_
  refine LP_ev ok 2 [(4, .bool false)] 3 rfl rfl ?_
  refine LP_end _ rfl ?_
  refine W_seq ?_
  refine W_seq ?_
  refine W_region ?_
  refine LP_ev ok 0 [(5, .pointer (some ⟨b20, 0, none⟩))] 1 rfl rfl ?_
  have ex27 := (ex21.ext x24)
  refine LP_ldbox 1 (v := I a.Level) rfl rfl rfl ti_3 ag_3 (fun _ => rfl) rfl ex27 rfl rfl ?_
  refine LP_ev ok 2 [(7, .pointer (some ⟨b22, 0, none⟩))] 3 rfl rfl ?_
  refine LP_ldbox 3 (v := I b.Level) rfl rfl rfl ti_3 ag_3 (fun _ => rfl) rfl ex25 rfl rfl ?_
  refine LP_ev ok 4 [(9, .bool (a.Level != b.Level))] 5 rfl rfl ?_
  refine LP_end _ rfl ?_
  refine W_cond (a.Level != b.Level) rfl (fun hc => ?_) (fun hc => ?_)
  · have H := H.1 hc
    refine W_seq ?_
    refine W_region ?_
    refine LP_ev ok 0 [(4, .bool false)] 1 rfl rfl ?_
    refine LP_end _ rfl ?_
    refine W_ret ?_
    have X28 := ((X.stepx x).stepx x24)
    exact ⟨_, Ret_of [.bool false] ⟨⟨rfl, rfl⟩, trivial⟩, _, H, rfl, X28.ext⟩
  have H := H.2 hc
  refine W_skip ?_
  refine W_seq ?_
  refine W_seq ?_
  refine W_region ?_
  refine LP_ev ok 0 [(10, .pointer (some ⟨b20, 1, none⟩))] 1 rfl rfl ?_
  refine LP_ldbox 1 (v := .slice a1 (List.length a.Vars) c) rfl rfl rfl ti_22 ag_22 (fun _ => rfl) rfl ex27 rfl rfl ?_
  refine LP_ev ok 2 [(12, .pointer (some ⟨b22, 1, none⟩))] 3 rfl rfl ?_
  refine LP_ldbox 3 (v := .slice a12 (List.length b.Vars) c13) rfl rfl rfl ti_22 ag_22 (fun _ => rfl) rfl ex25 rfl rfl ?_
  have ex30 := ((ex.ext x).ext x24)
  have ex31 := ((ex11.ext x).ext x24)
  refine LP_call 4 rfl rfl rfl cal_37 rfl (laws_eqIntS_w _ _ _ H wx23 r ex30 r10 ex31) ?_
  rintro _ wx32 ⟨r29, H, rfl, x33⟩
  refine LP_ev ok 5 [(15, .bool (!r29))] 6 rfl rfl ?_
  refine LP_end _ rfl ?_
  refine W_cond (!r29) rfl (fun hc34 => ?_) (fun hc34 => ?_)
  · have H := H.1 hc34
    refine W_seq ?_
    refine W_region ?_
    refine LP_ev ok 0 [(4, .bool false)] 1 rfl rfl ?_
    refine LP_end _ rfl ?_
    refine W_ret ?_
    have X35 := (((X.stepx x).stepx x24).stepx x33)
    exact ⟨_, Ret_of [.bool false] ⟨⟨rfl, rfl⟩, trivial⟩, _, H, rfl, X35.ext⟩
  have H := H.2 hc34
  refine W_skip ?_
  refine W_seq ?_
  refine W_seq ?_
  refine W_region ?_
  refine LP_ev ok 0 [(16, .pointer (some ⟨b20, 2, none⟩))] 1 rfl rfl ?_
  have ex36 := (ex27.ext x33)
  refine LP_ldbox 1 (v := .slice a6 (List.length a.Where) c7) rfl rfl rfl ti_22 ag_22 (fun _ => rfl) rfl ex36 rfl rfl ?_
  refine LP_ev ok 2 [(18, .pointer (some ⟨b22, 2, none⟩))] 3 rfl rfl ?_
  have ex37 := (ex25.ext x33)
  refine LP_ldbox 3 (v := .slice a18 (List.length b.Where) c19) rfl rfl rfl ti_22 ag_22 (fun _ => rfl) rfl ex37 rfl rfl ?_
  have ex39 := (((ex5.ext x).ext x24).ext x33)
  have ex40 := (((ex17.ext x).ext x24).ext x33)
  refine LP_call 4 rfl rfl rfl cal_37 rfl (laws_eqIntS_w _ _ _ H wx32 r4 ex39 r16 ex40) ?_
  rintro _ wx41 ⟨r38, H, rfl, x42⟩
  refine LP_ev ok 5 [(21, .bool (!r38))] 6 rfl rfl ?_
  refine LP_end _ rfl ?_
  refine W_cond (!r38) rfl (fun hc43 => ?_) (fun hc43 => ?_)
  · have H := H.1 hc43
    refine W_seq ?_
    refine W_region ?_
    refine LP_ev ok 0 [(4, .bool false)] 1 rfl rfl ?_
    refine LP_end _ rfl ?_
    refine W_ret ?_
    have X44 := ((((X.stepx x).stepx x24).stepx x33).stepx x42)
    exact ⟨_, Ret_of [.bool false] ⟨⟨rfl, rfl⟩, trivial⟩, _, H, rfl, X44.ext⟩
  have H := H.2 hc43
  refine W_skip ?_
  refine W_seq ?_
  refine W_seq ?_
  refine W_region ?_
  refine LP_ev ok 0 [(22, .pointer (some ⟨b20, 3, none⟩))] 1 rfl rfl ?_
  have ex45 := (ex36.ext x42)
  refine LP_ldbox 1 (v := I a.Sum) rfl rfl rfl ti_3 ag_3 (fun _ => rfl) rfl ex45 rfl rfl ?_
  refine LP_ev ok 2 [(24, .pointer (some ⟨b22, 3, none⟩))] 3 rfl rfl ?_
  have ex46 := (ex37.ext x42)
  refine LP_ldbox 3 (v := I b.Sum) rfl rfl rfl ti_3 ag_3 (fun _ => rfl) rfl ex46 rfl rfl ?_
  refine LP_ev ok 4 [(26, .bool (a.Sum != b.Sum))] 5 rfl rfl ?_
  refine LP_end _ rfl ?_
  try refine W_forget [(26, .bool (a.Sum != b.Sum))] ⟨rfl, trivial⟩ fun ρ => ?_
  refine W_cond (a.Sum != b.Sum) rfl (fun hc47 => ?_) (fun hc47 => ?_)
  · have H := H.1 hc47
    refine W_seq ?_
    refine W_region ?_
    refine LP_ev ok 0 [(4, .bool false)] 1 rfl rfl ?_
    refine LP_end _ rfl ?_
    refine W_ret ?_
    have X48 := ((((X.stepx x).stepx x24).stepx x33).stepx x42)
    exact ⟨_, Ret_of [.bool false] ⟨⟨rfl, rfl⟩, trivial⟩, _, H, rfl, X48.ext⟩
  have H := H.2 hc47
  refine W_skip ?_
  refine W_seq ?_
  refine W_region ?_
  refine LP_ev ok 0 [(4, .bool true)] 1 rfl rfl ?_
  refine LP_end _ rfl ?_
  refine W_ret ?_
  have X49 := ((((X.stepx x).stepx x24).stepx x33).stepx x42)
  exact ⟨_, Ret_of [.bool true] ⟨⟨rfl, rfl⟩, trivial⟩, _, H, rfl, X49.ext⟩

set_option maxRecDepth 8000 in
set_option maxHeartbeats 4000000 in
theorem laws_eqPublished_w (a : Published) (b : Published) (Q : Bool → Prop) (H : laws_eqPublished a b Q) (w : World) {vx : Value} {hx : PH} (r : RS hx vx a.Table.Vars) (ex : Sub hx w) {vx2 : Value} {hx3 : PH} (r4 : RS hx3 vx2 a.Table.Where) (ex5 : Sub hx3 w) {vx8 : Value} {hx9 : PH} (r10 : RS hx9 vx8 a.Cells) (ex11 : Sub hx9 w) {vx14 : Value} {hx15 : PH} (r16 : RS hx15 vx14 b.Table.Vars) (ex17 : Sub hx15 w) {vx20 : Value} {hx21 : PH} (r22 : RS hx21 vx20 b.Table.Where) (ex23 : Sub hx21 w) {vx26 : Value} {hx27 : PH} (r28 : RS hx27 vx26 b.Cells) (ex29 : Sub hx27 w) :
    CallsTo Try.prog 39 #[.agg #[I a.Table.Level, vx, vx2, I a.Table.Sum, vx8], .agg #[I b.Table.Level, vx14, vx20, I b.Table.Sum, vx26]] w fun v w' => ∃ r0, Q r0 ∧ v = .bool r0 ∧ Ext w w' := by
  obtain ⟨a1, c, rfl⟩ := r.shape
  obtain ⟨a6, c7, rfl⟩ := r4.shape
  obtain ⟨a12, c13, rfl⟩ := r10.shape
  obtain ⟨a18, c19, rfl⟩ := r16.shape
  obtain ⟨a24, c25, rfl⟩ := r22.shape
  obtain ⟨a30, c31, rfl⟩ := r28.shape
  refine enter (args := [.agg #[I a.Table.Level, .slice a1 (List.length a.Table.Vars) c, .slice a6 (List.length a.Table.Where) c7, I a.Table.Sum, .slice a12 (List.length a.Cells) c13], .agg #[I b.Table.Level, .slice a18 (List.length b.Table.Vars) c19, .slice a24 (List.length b.Table.Where) c25, I b.Table.Sum, .slice a30 (List.length b.Cells) c31]]) 17 Try.func39 rfl rfl rfl ?_
  refine W_forget [(0, .agg #[I a.Table.Level, .slice a1 (List.length a.Table.Vars) c, .slice a6 (List.length a.Table.Where) c7, I a.Table.Sum, .slice a12 (List.length a.Cells) c13]), (1, .agg #[I b.Table.Level, .slice a18 (List.length b.Table.Vars) c19, .slice a24 (List.length b.Table.Where) c25, I b.Table.Sum, .slice a30 (List.length b.Cells) c31])] ⟨rfl, rfl, trivial⟩ fun ρ => ?_
  have X := But.refl emp w
  refine W_seq ?_
  refine W_region ?_
  refine LP_box 0 (cs := [I a.Table.Level, .slice a1 (List.length a.Table.Vars) c, .slice a6 (List.length a.Table.Where) c7, I a.Table.Sum, .slice a12 (List.length a.Cells) c13]) rfl rfl rfl rfl rfl fun b32 wx x ex33 f => ?_
  refine LP_box 1 (cs := [I b.Table.Level, .slice a18 (List.length b.Table.Vars) c19, .slice a24 (List.length b.Table.Where) c25, I b.Table.Sum, .slice a30 (List.length b.Cells) c31]) rfl rfl rfl rfl rfl fun b34 wx35 x36 ex37 f38 => ?_
  refine LP_ev ok 2 [(4, .bool false)] 3 rfl rfl ?_
  refine LP_end _ rfl ?_
  refine W_seq ?_
  refine W_seq ?_
  refine W_region ?_
  refine LP_ev ok 0 [(5, .pointer (some ⟨b32, 0, none⟩))] 1 rfl rfl ?_
  have ex39 := (ex33.ext x36)
  refine LP_ldbox 1 (v := .agg #[I a.Table.Level, .slice a1 (List.length a.Table.Vars) c, .slice a6 (List.length a.Table.Where) c7, I a.Table.Sum]) rfl rfl rfl ti_50 ag_50 (fun h => by cases h) rfl ex39 rfl rfl ?_
  refine LP_ev ok 2 [(7, .pointer (some ⟨b34, 0, none⟩))] 3 rfl rfl ?_
  refine LP_ldbox 3 (v := .agg #[I b.Table.Level, .slice a18 (List.length b.Table.Vars) c19, .slice a24 (List.length b.Table.Where) c25, I b.Table.Sum]) rfl rfl rfl ti_50 ag_50 (fun h => by cases h) rfl ex37 rfl rfl ?_
  have ex41 := ((ex.ext x).ext x36)
  have ex42 := ((ex5.ext x).ext x36)
  have ex43 := ((ex17.ext x).ext x36)
  have ex44 := ((ex23.ext x).ext x36)
  refine LP_call 4 rfl rfl rfl cal_23 rfl (laws_eqTable_w _ _ _ H wx35 r ex41 r4 ex42 r16 ex43 r22 ex44) ?_
  rintro _ wx45 ⟨r40, H, rfl, x46⟩
  refine LP_ev ok 5 [(10, .bool (!r40))] 6 rfl rfl ?_
  refine LP_end _ rfl ?_
  refine W_cond (!r40) rfl (fun hc => ?_) (fun hc => ?_)
  · have H := H.1 hc
    refine W_seq ?_
    refine W_region ?_
    refine LP_ev ok 0 [(4, .bool false)] 1 rfl rfl ?_
    refine LP_end _ rfl ?_
    refine W_ret ?_
    have X47 := (((X.stepx x).stepx x36).stepx x46)
    exact ⟨_, Ret_of [.bool false] ⟨⟨rfl, rfl⟩, trivial⟩, _, H, rfl, X47.ext⟩
  have H := H.2 hc
  refine W_skip ?_
  refine W_seq ?_
  refine W_seq ?_
  refine W_region ?_
  refine LP_ev ok 0 [(11, .pointer (some ⟨b32, 4, none⟩))] 1 rfl rfl ?_
  have ex48 := (ex39.ext x46)
  refine LP_ldbox 1 (v := .slice a12 (List.length a.Cells) c13) rfl rfl rfl ti_22 ag_22 (fun _ => rfl) rfl ex48 rfl rfl ?_
  refine LP_ev ok 2 [(13, .pointer (some ⟨b34, 4, none⟩))] 3 rfl rfl ?_
  have ex49 := (ex37.ext x46)
  refine LP_ldbox 3 (v := .slice a30 (List.length b.Cells) c31) rfl rfl rfl ti_22 ag_22 (fun _ => rfl) rfl ex49 rfl rfl ?_
  have ex51 := (((ex11.ext x).ext x36).ext x46)
  have ex52 := (((ex29.ext x).ext x36).ext x46)
  refine LP_call 4 rfl rfl rfl cal_37 rfl (laws_eqIntS_w _ _ _ H wx45 r10 ex51 r28 ex52) ?_
  rintro _ wx53 ⟨r50, H, rfl, x54⟩
  refine LP_ev ok 5 [(16, .bool (!r50))] 6 rfl rfl ?_
  refine LP_end _ rfl ?_
  refine W_cond (!r50) rfl (fun hc55 => ?_) (fun hc55 => ?_)
  · have H := H.1 hc55
    refine W_seq ?_
    refine W_region ?_
    refine LP_ev ok 0 [(4, .bool false)] 1 rfl rfl ?_
    refine LP_end _ rfl ?_
    refine W_ret ?_
    have X56 := ((((X.stepx x).stepx x36).stepx x46).stepx x54)
    exact ⟨_, Ret_of [.bool false] ⟨⟨rfl, rfl⟩, trivial⟩, _, H, rfl, X56.ext⟩
  have H := H.2 hc55
  refine W_skip ?_
  refine W_seq ?_
  refine W_region ?_
  refine LP_ev ok 0 [(4, .bool true)] 1 rfl rfl ?_
  refine LP_end _ rfl ?_
  refine W_ret ?_
  have X57 := ((((X.stepx x).stepx x36).stepx x46).stepx x54)
  exact ⟨_, Ret_of [.bool true] ⟨⟨rfl, rfl⟩, trivial⟩, _, H, rfl, X57.ext⟩

set_option maxRecDepth 8000 in
set_option maxHeartbeats 4000000 in
theorem laws_eqPublishedS_w (a : List Published) (b : List Published) (Q : Bool → Prop) (H : laws_eqPublishedS a b Q) (w : World) {vx : Value} {hx : PH} (r : RS hx vx a) (ex : Sub hx w) {vx2 : Value} {hx3 : PH} (r4 : RS hx3 vx2 b) (ex5 : Sub hx3 w) :
    CallsTo Try.prog 16 #[vx, vx2] w fun v w' => ∃ r0, Q r0 ∧ v = .bool r0 ∧ Ext w w' := by
  obtain ⟨a1, c, rfl⟩ := r.shape
  obtain ⟨a6, c7, rfl⟩ := r4.shape
  refine enter (args := [.slice a1 (List.length a) c, .slice a6 (List.length b) c7]) 27 Try.func16 rfl rfl rfl ?_
  refine W_forget [(0, .slice a1 (List.length a) c), (1, .slice a6 (List.length b) c7)] ⟨rfl, rfl, trivial⟩ fun ρ => ?_
  have X := But.refl emp w
  refine W_seq ?_
  refine W_region ?_
  refine LP_ev ok 0 [(4, .bool false)] 1 rfl rfl ?_
  refine LP_end _ rfl ?_
  refine W_seq ?_
  refine W_seq ?_
  refine W_region ?_
  refine LP_ev ok 0 [(6, .slice a1 (List.length a) c), (7, I (ln a)), (8, .slice a6 (List.length b) c7), (9, I (ln b)), (10, .bool ((ln a) != (ln b)))] 5 rfl rfl ?_
  refine LP_end _ rfl ?_
  refine W_cond ((ln a) != (ln b)) rfl (fun hc => ?_) (fun hc => ?_)
  · have H := H.1 hc
    refine W_seq ?_
    refine W_region ?_
    refine LP_ev ok 0 [(4, .bool false)] 1 rfl rfl ?_
    refine LP_end _ rfl ?_
    refine W_ret ?_
    exact ⟨_, Ret_of [.bool false] ⟨⟨rfl, rfl⟩, trivial⟩, _, H, rfl, X.ext⟩
  have H := H.2 hc
  refine W_skip ?_
  refine W_seq ?_
  refine W_seq ?_
  refine W_region ?_
  refine LP_ev ok 0 [(5, I 0)] 1 rfl rfl ?_
  refine LP_end _ rfl ?_
  refine W_block ?_
  obtain ⟨J, m, Hx, H⟩ := H
  refine W_loop (S := Int) (fun s ρ' w' => J s ∧ ∃ (ρ : Env), ρ' = setAll [(0, .slice a1 (List.length a) c), (1, .slice a6 (List.length b) c7), (5, I s)] ρ ∧ But emp w w' ∧ Sub hx w' ∧ Sub hx3 w') (fun s => m s) 0 ⟨Hx, _, env_eq ⟨rfl, rfl, rfl, trivial⟩, X, ex, ex5⟩ ?_
  rintro i _ wx ⟨Hi, ρ, rfl, X10, ex8, ex9⟩
  have H := H i Hi
  refine W_seq ?_
  refine W_seq ?_
  refine W_region ?_
  refine LP_ev ok 0 [(11, I i), (12, .slice a1 (List.length a) c), (13, I (ln a)), (14, .bool (decide (i < (ln a))))] 4 rfl rfl ?_
  refine LP_end _ rfl ?_
  refine W_cond (decide (i < (ln a))) rfl (fun hc11 => ?_) (fun hc11 => ?_)
  · have H := H.1 hc11
    refine W_skip ?_
    refine W_seq ?_
    refine W_block ?_
    refine W_seq ?_
    refine W_quiet mix (by kernel_rfl) ?_
    refine QP_ev ok 0 [(17, .slice a1 (List.length a) c), (18, I i)] 2 rfl rfl ?_
    obtain ⟨x, hi, hx12, H⟩ := H
    refine QP_index 2 rfl rfl rfl Try.underlying36 ti_69 rfl rfl r hi hx12 fun a13 cs r14 d => ?_
    have d15 := d
    obtain ⟨u, u17, u19, rfl, r16, r18, r20⟩ := Published_rd d15
    obtain ⟨a21, c22, rfl⟩ := r16.shape
    obtain ⟨a23, c24, rfl⟩ := r18.shape
    obtain ⟨a25, c26, rfl⟩ := r20.shape
    refine QP_load 3 rfl rfl rfl ti_69 ag_69 rfl r14 d ex8 fun vx27 r28 => ?_
    obtain ⟨u29, u31, u33, rfl, r30, r32, r34⟩ := Published_rv r28
    obtain ⟨a35, c36, rfl⟩ := r30.shape
    obtain ⟨a37, c38, rfl⟩ := r32.shape
    obtain ⟨a39, c40, rfl⟩ := r34.shape
    refine QP_ev ok 4 [(21, .slice a6 (List.length b) c7), (22, I i)] 6 rfl rfl ?_
    obtain ⟨x41, hi42, hx43, H⟩ := H
    refine QP_index 6 rfl rfl rfl Try.underlying36 ti_69 rfl rfl r4 hi42 hx43 fun a44 cs45 r46 d47 => ?_
    have d48 := d47
    obtain ⟨u49, u51, u53, rfl, r50, r52, r54⟩ := Published_rd d48
    obtain ⟨a55, c56, rfl⟩ := r50.shape
    obtain ⟨a57, c58, rfl⟩ := r52.shape
    obtain ⟨a59, c60, rfl⟩ := r54.shape
    refine QP_load 7 rfl rfl rfl ti_69 ag_69 rfl r46 d47 ex9 fun vx61 r62 => ?_
    obtain ⟨u63, u65, u67, rfl, r64, r66, r68⟩ := Published_rv r62
    obtain ⟨a69, c70, rfl⟩ := r64.shape
    obtain ⟨a71, c72, rfl⟩ := r66.shape
    obtain ⟨a73, c74, rfl⟩ := r68.shape
    obtain ⟨r75, Hd, H⟩ := H
    refine QP_call (.bool r75) 8 rfl rfl rfl cal_39 rfl (fun wx76 x77 => (laws_eqPublished_w _ _ _ Hd wx76 r30 (ex8.ext x77) r32 (ex8.ext x77) r34 (ex8.ext x77) r64 (ex9.ext x77) r66 (ex9.ext x77) r68 (ex9.ext x77)).mono ?_) ?_
    · rintro _ _ ⟨_, rfl, rfl, x⟩; exact ⟨rfl, x⟩
    refine QP_ev ok 9 [(26, .bool (!r75))] 10 rfl rfl ?_
    refine QP_end _ rfl fun wx78 x79 => ?_
    refine W_cond (!r75) rfl (fun hc80 => ?_) (fun hc80 => ?_)
    · have H := H.1 hc80
      refine W_seq ?_
      refine W_region ?_
      refine LP_ev ok 0 [(4, .bool false)] 1 rfl rfl ?_
      refine LP_end _ rfl ?_
      refine W_ret ?_
      have X81 := (X10.stepx x79)
      exact ⟨_, Ret_of [.bool false] ⟨⟨rfl, rfl⟩, trivial⟩, _, H, rfl, X81.ext⟩
    have H := H.2 hc80
    refine W_skip ?_
    refine W_region ?_
    refine LP_ev ok 0 [(15, I i), (16, I (wr (i + 1))), (5, I (wr (i + 1)))] 3 rfl rfl ?_
    refine LP_end _ rfl ?_
    have X82 := (X10.stepx x79)
    have ex83 := (ex8.ext x79)
    have ex84 := (ex9.ext x79)
    exact ⟨wr (i + 1), ⟨H.1, _, env_eq ⟨rfl, rfl, rfl, trivial⟩, X82, ex83, ex84⟩, H.2⟩
  have H := H.2 hc11
  refine W_exit ?_
  refine (if_pos rfl).mpr ?_
  refine W_seq ?_
  refine W_region ?_
  refine LP_ev ok 0 [(4, .bool true)] 1 rfl rfl ?_
  refine LP_end _ rfl ?_
  refine W_ret ?_
  exact ⟨_, Ret_of [.bool true] ⟨⟨rfl, rfl⟩, trivial⟩, _, H, rfl, X10.ext⟩

set_option maxRecDepth 8000 in
set_option maxHeartbeats 4000000 in
theorem laws_FnExactIsSafeRelease_w (aG : Geo) (aS : List Variable) (aPubs : List Published) (aN : Int) (aFloor : Int) (Q : Bool → Prop) (H : laws_FnExactIsSafeRelease aG aS aPubs aN aFloor Q) (w : World) {vx : Value} {hx : PH} (r : RS hx vx aG.Parents) (ex : Sub hx w) {vx1 : Value} {hx2 : PH} (r3 : RS hx2 vx1 aS) (ex4 : Sub hx2 w) {vx7 : Value} {hx8 : PH} (r9 : RS hx8 vx7 aPubs) (ex10 : Sub hx8 w) :
    CallsTo Try.prog 3 #[.agg #[vx], vx1, vx7, I aN, I aFloor] w fun v w' => ∃ r0, Q r0 ∧ v = .bool r0 ∧ Ext w w' := by
  obtain ⟨a, c, rfl⟩ := r.shape
  obtain ⟨a5, c6, rfl⟩ := r3.shape
  obtain ⟨a11, c12, rfl⟩ := r9.shape
  refine enter (args := [.agg #[.slice a (List.length aG.Parents) c], .slice a5 (List.length aS) c6, .slice a11 (List.length aPubs) c12, I aN, I aFloor]) 84 Try.func3 rfl rfl rfl ?_
  refine W_forget [(0, .agg #[.slice a (List.length aG.Parents) c]), (1, .slice a5 (List.length aS) c6), (2, .slice a11 (List.length aPubs) c12), (3, I aN), (4, I aFloor)] ⟨rfl, rfl, rfl, rfl, rfl, trivial⟩ fun ρ => ?_
  have X := But.refl emp w
  refine W_seq ?_
  refine W_region ?_
  refine LP_box 0 (cs := [.slice a (List.length aG.Parents) c]) rfl rfl rfl rfl rfl fun b wx x ex13 f => ?_
  refine LP_ev ok 1 [(10, .bool false)] 2 rfl rfl ?_
  refine LP_end _ rfl ?_
  refine W_seq ?_
  refine W_region ?_
  refine LP_ev ok 0 [(11, I 1048576)] 1 rfl rfl ?_
  refine LP_end _ rfl ?_
  refine W_seq ?_
  refine W_region ?_
  refine LP_ldbox 0 (v := .agg #[.slice a (List.length aG.Parents) c]) rfl rfl rfl ti_24 ag_24 (fun h => by cases h) rfl ex13 rfl rfl ?_
  refine LP_ev ok 1 [(20, I 1048576)] 2 rfl rfl ?_
  have ex15 := (ex.ext x)
  refine LP_call 2 rfl rfl rfl cal_6 rfl (laws_szGeo_w _ _ _ H wx r ex15) ?_
  rintro _ wx16 ⟨r14, H, rfl, x17⟩
  refine LP_ev ok 3 [(11, I r14)] 4 rfl rfl ?_
  refine LP_end _ rfl ?_
  refine W_seq ?_
  refine W_seq ?_
  refine W_region ?_
  refine LP_ev ok 0 [(22, I r14), (23, .bool (decide (r14 < 0)))] 2 rfl rfl ?_
  refine LP_end _ rfl ?_
  refine W_cond (decide (r14 < 0)) rfl (fun hc => ?_) (fun hc => ?_)
  · have H := H.1 hc
    refine W_seq ?_
    refine W_region ?_
    refine LP_ev ok 0 [(10, .bool true)] 1 rfl rfl ?_
    refine LP_end _ rfl ?_
    refine W_ret ?_
    have X18 := ((X.stepx x).stepx x17)
    exact ⟨_, Ret_of [.bool true] ⟨⟨rfl, rfl⟩, trivial⟩, _, H, rfl, X18.ext⟩
  have H := H.2 hc
  refine W_skip ?_
  refine W_seq ?_
  refine W_region ?_
  refine LP_ev ok 0 [(24, .slice a5 (List.length aS) c6), (25, I r14)] 2 rfl rfl ?_
  have ex20 := ((ex4.ext x).ext x17)
  refine LP_call 2 rfl rfl rfl cal_7 rfl (laws_szVariableS_w _ _ _ H wx16 r3 ex20) ?_
  rintro _ wx21 ⟨r19, H, rfl, x22⟩
  refine LP_ev ok 3 [(11, I r19)] 4 rfl rfl ?_
  refine LP_end _ rfl ?_
  refine W_seq ?_
  refine W_seq ?_
  refine W_region ?_
  refine LP_ev ok 0 [(27, I r19), (28, .bool (decide (r19 < 0)))] 2 rfl rfl ?_
  refine LP_end _ rfl ?_
  refine W_cond (decide (r19 < 0)) rfl (fun hc23 => ?_) (fun hc23 => ?_)
  · have H := H.1 hc23
    refine W_seq ?_
    refine W_region ?_
    refine LP_ev ok 0 [(10, .bool true)] 1 rfl rfl ?_
    refine LP_end _ rfl ?_
    refine W_ret ?_
    have X24 := (((X.stepx x).stepx x17).stepx x22)
    exact ⟨_, Ret_of [.bool true] ⟨⟨rfl, rfl⟩, trivial⟩, _, H, rfl, X24.ext⟩
  have H := H.2 hc23
  refine W_skip ?_
  refine W_seq ?_
  refine W_region ?_
  refine LP_ev ok 0 [(29, .slice a11 (List.length aPubs) c12), (30, I r19)] 2 rfl rfl ?_
  have ex26 := (((ex10.ext x).ext x17).ext x22)
  refine LP_call 2 rfl rfl rfl cal_8 rfl (laws_szPublishedS_w _ _ _ H wx21 r9 ex26) ?_
  rintro _ wx27 ⟨r25, H, rfl, x28⟩
  refine LP_ev ok 3 [(11, I r25)] 4 rfl rfl ?_
  refine LP_end _ rfl ?_
  refine W_seq ?_
  refine W_seq ?_
  refine W_region ?_
  refine LP_ev ok 0 [(32, I r25), (33, .bool (decide (r25 < 0)))] 2 rfl rfl ?_
  refine LP_end _ rfl ?_
  refine W_cond (decide (r25 < 0)) rfl (fun hc29 => ?_) (fun hc29 => ?_)
  · have H := H.1 hc29
    refine W_seq ?_
    refine W_region ?_
    refine LP_ev ok 0 [(10, .bool true)] 1 rfl rfl ?_
    refine LP_end _ rfl ?_
    refine W_ret ?_
    have X30 := ((((X.stepx x).stepx x17).stepx x22).stepx x28)
    exact ⟨_, Ret_of [.bool true] ⟨⟨rfl, rfl⟩, trivial⟩, _, H, rfl, X30.ext⟩
  have H := H.2 hc29
  refine W_skip ?_
  refine W_seq ?_
  refine W_region ?_
  have ex31 := (((ex13.ext x17).ext x22).ext x28)
  refine LP_ldbox 0 (v := .agg #[.slice a (List.length aG.Parents) c]) rfl rfl rfl ti_24 ag_24 (fun h => by cases h) rfl ex31 rfl rfl ?_
  have ex33 := (((ex15.ext x17).ext x22).ext x28)
  refine LP_call 1 rfl rfl rfl cal_10 rfl (laws_toGeo_w _ _ H wx27 r ex33) ?_
  rintro _ wx34 ⟨r32, vx36, hx37, H, rfl, x35, o, ex38, f39⟩
  obtain ⟨a40, c41, rfl⟩ := o.shape
  refine LP_ev ok 2 [(37, .slice a5 (List.length aS) c6)] 3 rfl rfl ?_
  have ex43 := (((ex20.ext x22).ext x28).ext x35)
  refine LP_call 3 rfl rfl rfl cal_11 rfl (laws_toVariableS_w _ _ H wx34 r3 ex43) ?_
  rintro _ wx44 ⟨r42, vx46, hx47, H, rfl, x45, o48, ex49, f50⟩
  obtain ⟨a51, c52, rfl⟩ := o48.shape
  refine LP_ev ok 4 [(39, .slice a11 (List.length aPubs) c12)] 5 rfl rfl ?_
  have ex54 := (((ex26.ext x28).ext x35).ext x45)
  refine LP_call 5 rfl rfl rfl cal_12 rfl (laws_toPublishedS_w _ _ H wx44 r9 ex54) ?_
  rintro _ wx55 ⟨r53, vx57, hx58, H, rfl, x56, o59, ex60, f61⟩
  obtain ⟨a62, c63, rfl⟩ := o59.shape
  refine LP_ev ok 6 [(41, I aN), (42, I aFloor)] 8 rfl rfl ?_
  have ex66 := ((ex38.ext x45).ext x56)
  have ex67 := (ex49.ext x56)
  refine LP_call 8 rfl rfl rfl cal_9 rfl (spec_IsSafeRelease_w _ _ _ _ _ _ H wx55 o.readf ex66 o48.readf ex67 o59.readf ex60) ?_
  rintro _ wx68 ⟨r64, r65, H, rfl, x69⟩
  refine LP_ev ok 9 [(34, .tuple #[.bool r64, .bool r65]), (44, .bool r64), (45, .bool r65), (12, .bool r64), (13, .bool r65)] 14 rfl rfl ?_
  refine LP_end _ rfl ?_
  try refine W_forget [(1, .slice a5 (List.length aS) c6), (2, .slice a11 (List.length aPubs) c12), (3, I aN), (4, I aFloor), (5, .pointer (some ⟨b, 0, none⟩)), (12, .bool r64), (13, .bool r65)] ⟨rfl, rfl, rfl, rfl, rfl, rfl, rfl, trivial⟩ fun ρ => ?_
  refine W_seq ?_
  refine W_region ?_
  have ex70 := ((((ex31.ext x35).ext x45).ext x56).ext x69)
  refine LP_ldbox 0 (v := .agg #[.slice a (List.length aG.Parents) c]) rfl rfl rfl ti_24 ag_24 (fun h => by cases h) rfl ex70 rfl rfl ?_
  have ex72 := ((((ex33.ext x35).ext x45).ext x56).ext x69)
  refine LP_call 1 rfl rfl rfl cal_10 rfl (laws_toGeo_w _ _ H wx68 r ex72) ?_
  rintro _ wx73 ⟨r71, vx75, hx76, H, rfl, x74, o77, ex78, f79⟩
  obtain ⟨a80, c81, rfl⟩ := o77.shape
  refine LP_alloc 2 rfl rfl rfl ti_32 rfl fun b82 wx83 x84 ex85 f86 => ?_
  refine LP_stbox 3 (vs := [.slice a80 (List.length r71.Parents) c81]) (cs' := [.slice a80 (List.length r71.Parents) c81]) rfl rfl rfl ti_32 rfl rfl rfl rfl rfl ex85 rfl rfl fun wx87 ex88 y => ?_
  refine LP_end _ rfl ?_
  refine W_seq ?_
  refine W_region ?_
  refine LP_ev ok 0 [(48, .slice a5 (List.length aS) c6)] 1 rfl rfl ?_
  have ex90 := ((((ex43.ext x45).ext x56).ext x69).ext x74)
  have ex91 := ((((((ex43.ext x45).ext x56).ext x69).ext x74).ext x84).but y (Dj.of_fresh ex90 f86).symm)
  refine LP_call 1 rfl rfl rfl cal_11 rfl (laws_toVariableS_w _ _ H wx87 r3 ex91) ?_
  rintro _ wx92 ⟨r89, vx94, hx95, H, rfl, x93, o96, ex97, f98⟩
  obtain ⟨a99, c100, rfl⟩ := o96.shape
  refine LP_ev ok 2 [(15, .slice a99 (List.length r89) c100)] 3 rfl rfl ?_
  refine LP_end _ rfl ?_
  refine W_seq ?_
  refine W_region ?_
  refine LP_ev ok 0 [(50, .slice a11 (List.length aPubs) c12)] 1 rfl rfl ?_
  have ex102 := (((ex54.ext x56).ext x69).ext x74)
  have ex103 := ((((((ex54.ext x56).ext x69).ext x74).ext x84).but y (Dj.of_fresh ex102 f86).symm).ext x93)
  refine LP_call 1 rfl rfl rfl cal_12 rfl (laws_toPublishedS_w _ _ H wx92 r9 ex103) ?_
  rintro _ wx104 ⟨r101, vx106, hx107, H, rfl, x105, o108, ex109, f110⟩
  obtain ⟨a111, c112, rfl⟩ := o108.shape
  refine LP_ev ok 2 [(16, .slice a111 (List.length r101) c112)] 3 rfl rfl ?_
  refine LP_end _ rfl ?_
  refine W_seq ?_
  refine W_region ?_
  have ex113 := ((ex88.ext x93).ext x105)
  refine LP_ldbox 0 (v := .agg #[.slice a80 (List.length r71.Parents) c81]) rfl rfl rfl ti_32 ag_32 (fun h => by cases h) rfl ex113 rfl rfl ?_
  refine LP_ev ok 1 [(54, .slice a99 (List.length r89) c100), (55, .slice a111 (List.length r101) c112), (56, I aN), (57, I aFloor)] 5 rfl rfl ?_
  have ex116 := ((((ex78.ext x84).but y (Dj.of_fresh ex78 f86).symm).ext x93).ext x105)
  have ex117 := (ex97.ext x105)
  refine LP_call 5 rfl rfl rfl cal_13 rfl (impl_IsSafeRelease_w _ _ _ _ _ _ H wx104 o77.readf ex116 o96.readf ex117 o108.readf ex109) ?_
  rintro _ wx118 ⟨r114, r115, H, rfl, x119⟩
  refine LP_ev ok 6 [(52, .tuple #[.bool r114, .bool r115]), (59, .bool r114), (60, .bool r115), (17, .bool r114), (18, .bool r115)] 11 rfl rfl ?_
  refine LP_end _ rfl ?_
  refine W_seq ?_
  obtain ⟨k, hk, H⟩ := jn_elim H
  refine W_join2 (S := Bool) (fun s ρ' w' => k s ∧ ∃ (ρ : Env), ρ' = setAll [(1, .slice a5 (List.length aS) c6), (2, .slice a11 (List.length aPubs) c12), (5, .pointer (some ⟨b, 0, none⟩)), (14, .pointer (some ⟨b82, 0, none⟩)), (15, .slice a99 (List.length r89) c100), (16, .slice a111 (List.length r101) c112), (68, .bool s)] ρ ∧ wx118 = w') ?_ ?_
  · refine W_region ?_
    refine LP_ev ok 0 [(61, .bool r114), (62, .bool r64), (63, .bool (r114 != r64)), (64, .bool (r114 != r64))] 4 rfl rfl ?_
    refine LP_split 64 (r114 != r64) rfl (fun hc122 => ?_) (fun hc122 => ?_)
    · have H := H.1 hc122
      refine LP_ev ok 4 [(65, undef), (66, undef), (67, undef), (68, .bool true)] 8 rfl rfl ?_
      refine LP_end _ rfl ?_
      try refine W_forget [(1, .slice a5 (List.length aS) c6), (2, .slice a11 (List.length aPubs) c12), (5, .pointer (some ⟨b, 0, none⟩)), (14, .pointer (some ⟨b82, 0, none⟩)), (15, .slice a99 (List.length r89) c100), (16, .slice a111 (List.length r101) c112), (68, .bool true)] ⟨rfl, rfl, rfl, rfl, rfl, rfl, rfl, trivial⟩ fun ρ => ?_
      exact ⟨true, H, _, env_eq ⟨rfl, rfl, rfl, rfl, rfl, rfl, rfl, trivial⟩, rfl⟩
    have H := H.2 hc122
    refine LP_ev ok 4 [(65, .bool r115), (66, .bool r65), (67, .bool (r115 != r65)), (68, .bool (r115 != r65))] 8 rfl rfl ?_
    refine LP_end _ rfl ?_
    try refine W_forget [(1, .slice a5 (List.length aS) c6), (2, .slice a11 (List.length aPubs) c12), (5, .pointer (some ⟨b, 0, none⟩)), (14, .pointer (some ⟨b82, 0, none⟩)), (15, .slice a99 (List.length r89) c100), (16, .slice a111 (List.length r101) c112), (68, .bool (r115 != r65))] ⟨rfl, rfl, rfl, rfl, rfl, rfl, rfl, trivial⟩ fun ρ => ?_
    exact ⟨r115 != r65, H, _, env_eq ⟨rfl, rfl, rfl, rfl, rfl, rfl, rfl, trivial⟩, rfl⟩
  rintro x120 _ _ ⟨H, ρ, rfl, rfl⟩
  subst hk
  refine W_cond (x120) rfl (fun hc123 => ?_) (fun hc123 => ?_)
  · have H := H.1 hc123
    refine W_seq ?_
    refine W_region ?_
    refine LP_ev ok 0 [(10, .bool false)] 1 rfl rfl ?_
    refine LP_end _ rfl ?_
    refine W_ret ?_
    have X125 := (((((((((X.stepx x).stepx x17).stepx x22).stepx x28).stepx x35).stepx x45).stepx x56).stepx x69).stepx x74)
    have f124 := f86.mono X125.size
    have X126 := ((((((((((((((X.stepx x).stepx x17).stepx x22).stepx x28).stepx x35).stepx x45).stepx x56).stepx x69).stepx x74).stepx x84).step y (f124.dom _)).stepx x93).stepx x105).stepx x119)
    exact ⟨_, Ret_of [.bool false] ⟨⟨rfl, rfl⟩, trivial⟩, _, H, rfl, X126.ext⟩
  have H := H.2 hc123
  refine W_skip ?_
  refine W_seq ?_
  refine W_seq ?_
  refine W_open mix fun wx127 x128 => ?_
  refine AP_game 3 [[], [], [1], [0, 1, 2], [0, 1, 2, 3]] [[(14, none)], [(5, none)], [(70, some 1)]] [(1, none), (2, none), (15, none), (16, none), (69, some 0), (71, some 2)] [(0, false), (1, false), (2, true)] (by kernel_rfl) (by kernel_rfl) ?_
  have ex129 := ((ex113.ext x119).ext x128)
  refine GS_r1 [(14, .pointer (some ⟨b82, 0, none⟩))] (.agg #[.slice a80 (List.length r71.Parents) c81]) rfl rfl (fun _ h => h) (fun _ w e => ex_ldbox rfl ti_32 ag_32 (fun h => by cases h) rfl e rfl rfl) ex129 ?_
  have ex130 := (ex70.ext x74)
  have ex131 := (((((((ex70.ext x74).ext x84).but y (Dj.of_fresh ex130 f86).symm).ext x93).ext x105).ext x119).ext x128)
  refine GS_r1 [(5, .pointer (some ⟨b, 0, none⟩))] (.agg #[.slice a (List.length aG.Parents) c]) rfl rfl (fun _ h => h) (fun _ w e => ex_ldbox rfl ti_24 ag_24 (fun h => by cases h) rfl e rfl rfl) ex131 ?_
  refine GS_lp [(70, .agg #[.slice a (List.length aG.Parents) c])] rfl rfl (fun _ h => h) rfl fun ρ wx132 x133 => ?_
  have ex135 := (ex72.ext x74)
  have ex136 := ((((((((ex72.ext x74).ext x84).but y (Dj.of_fresh ex135 f86).symm).ext x93).ext x105).ext x119).ext x128).ext x133)
  refine LP_call 0 rfl rfl rfl cal_10 rfl (laws_toGeo_w _ _ H wx132 r ex136) ?_
  rintro _ wx137 ⟨r134, vx139, hx140, H, rfl, x138, o141, ex142, f143⟩
  obtain ⟨a144, c145, rfl⟩ := o141.shape
  have ex146 := ((ex129.ext x133).ext x138)
  refine LP_gs ⟨⟨.inl rfl, .inr ex146, trivial⟩, ?_⟩
  intro wx147 x148 ρ hn
  refine AP_forget [(1, .slice a5 (List.length aS) c6), (2, .slice a11 (List.length aPubs) c12), (15, .slice a99 (List.length r89) c100), (16, .slice a111 (List.length r101) c112), (69, .agg #[.slice a80 (List.length r71.Parents) c81]), (71, .agg #[.slice a144 (List.length r134.Parents) c145])] (by exact hn) fun ρ => ?_
  refine AP_tail 3 [[], [], [1], [0, 1, 2], [0, 1, 2, 3]] (by kernel_rfl) ?_
  have ex150 := (((((ex116.ext x119).ext x128).ext x133).ext x138).ext x148)
  have ex151 := (ex142.ext x148)
  refine LP_call 3 rfl rfl rfl cal_14 rfl (laws_eqGeo_w _ _ _ H wx147 o77.readf ex150 o141.readf ex151) ?_
  rintro _ wx152 ⟨r149, H, rfl, x153⟩
  refine LP_ev ok 4 [(73, .bool (!r149))] 5 rfl rfl ?_
  refine LP_end _ rfl ?_
  refine W_cond (!r149) rfl (fun hc154 => ?_) (fun hc154 => ?_)
  · have H := H.1 hc154
    refine W_seq ?_
    refine W_region ?_
    refine LP_ev ok 0 [(10, .bool false)] 1 rfl rfl ?_
    refine LP_end _ rfl ?_
    refine W_ret ?_
    have X156 := (((((((((X.stepx x).stepx x17).stepx x22).stepx x28).stepx x35).stepx x45).stepx x56).stepx x69).stepx x74)
    have f155 := f86.mono X156.size
    have X157 := (((((((((((((((((((X.stepx x).stepx x17).stepx x22).stepx x28).stepx x35).stepx x45).stepx x56).stepx x69).stepx x74).stepx x84).step y (f155.dom _)).stepx x93).stepx x105).stepx x119).stepx x128).stepx x133).stepx x138).stepx x148).stepx x153)
    exact ⟨_, Ret_of [.bool false] ⟨⟨rfl, rfl⟩, trivial⟩, _, H, rfl, X157.ext⟩
  have H := H.2 hc154
  refine W_skip ?_
  refine W_seq ?_
  refine W_seq ?_
  refine W_region ?_
  refine LP_ev ok 0 [(74, .slice a99 (List.length r89) c100), (75, .slice a5 (List.length aS) c6)] 2 rfl rfl ?_
  have ex159 := ((((((((ex91.ext x93).ext x105).ext x119).ext x128).ext x133).ext x138).ext x148).ext x153)
  refine LP_call 2 rfl rfl rfl cal_11 rfl (laws_toVariableS_w _ _ H wx152 r3 ex159) ?_
  rintro _ wx160 ⟨r158, vx162, hx163, H, rfl, x161, o164, ex165, f166⟩
  obtain ⟨a167, c168, rfl⟩ := o164.shape
  have ex170 := (((((((ex117.ext x119).ext x128).ext x133).ext x138).ext x148).ext x153).ext x161)
  refine LP_call 3 rfl rfl rfl cal_15 rfl (laws_eqVariableS_w _ _ _ H wx160 o96.readf ex170 o164.readf ex165) ?_
  rintro _ wx171 ⟨r169, H, rfl, x172⟩
  refine LP_ev ok 4 [(78, .bool (!r169))] 5 rfl rfl ?_
  refine LP_end _ rfl ?_
  refine W_cond (!r169) rfl (fun hc173 => ?_) (fun hc173 => ?_)
  · have H := H.1 hc173
    refine W_seq ?_
    refine W_region ?_
    refine LP_ev ok 0 [(10, .bool false)] 1 rfl rfl ?_
    refine LP_end _ rfl ?_
    refine W_ret ?_
    have X175 := (((((((((X.stepx x).stepx x17).stepx x22).stepx x28).stepx x35).stepx x45).stepx x56).stepx x69).stepx x74)
    have f174 := f86.mono X175.size
    have X176 := (((((((((((((((((((((X.stepx x).stepx x17).stepx x22).stepx x28).stepx x35).stepx x45).stepx x56).stepx x69).stepx x74).stepx x84).step y (f174.dom _)).stepx x93).stepx x105).stepx x119).stepx x128).stepx x133).stepx x138).stepx x148).stepx x153).stepx x161).stepx x172)
    exact ⟨_, Ret_of [.bool false] ⟨⟨rfl, rfl⟩, trivial⟩, _, H, rfl, X176.ext⟩
  have H := H.2 hc173
  refine W_skip ?_
  refine W_seq ?_
  refine W_seq ?_
  refine W_region ?_
  refine LP_ev ok 0 [(79, .slice a111 (List.length r101) c112), (80, .slice a11 (List.length aPubs) c12)] 2 rfl rfl ?_
  have ex178 := (((((((((ex103.ext x105).ext x119).ext x128).ext x133).ext x138).ext x148).ext x153).ext x161).ext x172)
  refine LP_call 2 rfl rfl rfl cal_12 rfl (laws_toPublishedS_w _ _ H wx171 r9 ex178) ?_
  rintro _ wx179 ⟨r177, vx181, hx182, H, rfl, x180, o183, ex184, f185⟩
  obtain ⟨a186, c187, rfl⟩ := o183.shape
  have ex189 := (((((((((ex109.ext x119).ext x128).ext x133).ext x138).ext x148).ext x153).ext x161).ext x172).ext x180)
  refine LP_call 3 rfl rfl rfl cal_16 rfl (laws_eqPublishedS_w _ _ _ H wx179 o108.readf ex189 o183.readf ex184) ?_
  rintro _ wx190 ⟨r188, H, rfl, x191⟩
  refine LP_ev ok 4 [(83, .bool (!r188))] 5 rfl rfl ?_
  refine LP_end _ rfl ?_
  refine W_cond (!r188) rfl (fun hc192 => ?_) (fun hc192 => ?_)
  · have H := H.1 hc192
    refine W_seq ?_
    refine W_region ?_
    refine LP_ev ok 0 [(10, .bool false)] 1 rfl rfl ?_
    refine LP_end _ rfl ?_
    refine W_ret ?_
    have X194 := (((((((((X.stepx x).stepx x17).stepx x22).stepx x28).stepx x35).stepx x45).stepx x56).stepx x69).stepx x74)
    have f193 := f86.mono X194.size
    have X195 := (((((((((((((((((((((((X.stepx x).stepx x17).stepx x22).stepx x28).stepx x35).stepx x45).stepx x56).stepx x69).stepx x74).stepx x84).step y (f193.dom _)).stepx x93).stepx x105).stepx x119).stepx x128).stepx x133).stepx x138).stepx x148).stepx x153).stepx x161).stepx x172).stepx x180).stepx x191)
    exact ⟨_, Ret_of [.bool false] ⟨⟨rfl, rfl⟩, trivial⟩, _, H, rfl, X195.ext⟩
  have H := H.2 hc192
  refine W_skip ?_
  refine W_seq ?_
  refine W_region ?_
  refine LP_ev ok 0 [(10, .bool true)] 1 rfl rfl ?_
  refine LP_end _ rfl ?_
  refine W_ret ?_
  have X197 := (((((((((X.stepx x).stepx x17).stepx x22).stepx x28).stepx x35).stepx x45).stepx x56).stepx x69).stepx x74)
  have f196 := f86.mono X197.size
  have X198 := (((((((((((((((((((((((X.stepx x).stepx x17).stepx x22).stepx x28).stepx x35).stepx x45).stepx x56).stepx x69).stepx x74).stepx x84).step y (f196.dom _)).stepx x93).stepx x105).stepx x119).stepx x128).stepx x133).stepx x138).stepx x148).stepx x153).stepx x161).stepx x172).stepx x180).stepx x191)
  exact ⟨_, Ret_of [.bool true] ⟨⟨rfl, rfl⟩, trivial⟩, _, H, rfl, X198.ext⟩

set_option maxRecDepth 8000 in
set_option maxHeartbeats 4000000 in
theorem spec_CountSurveys_w (g : Geo) (sx : List Variable) (pubs : List Published) (n : Int) (Q : Int → Bool → Prop) (H : spec_CountSurveys g sx pubs n Q) (w : World) {vx : Value} {hx : PH} (r : RS hx vx g.Parents) (ex : Sub hx w) {vx1 : Value} {hx2 : PH} (r3 : RS hx2 vx1 sx) (ex4 : Sub hx2 w) {vx7 : Value} {hx8 : PH} (r9 : RS hx8 vx7 pubs) (ex10 : Sub hx8 w) :
    CallsTo Try.prog 17 #[.agg #[vx], vx1, vx7, I n] w fun v w' => ∃ r0 r1, Q r0 r1 ∧ v = .tuple #[I r0, .bool r1] ∧ Ext w w' := by
  obtain ⟨a, c, rfl⟩ := r.shape
  obtain ⟨a5, c6, rfl⟩ := r3.shape
  obtain ⟨a11, c12, rfl⟩ := r9.shape
  refine enter (args := [.agg #[.slice a (List.length g.Parents) c], .slice a5 (List.length sx) c6, .slice a11 (List.length pubs) c12, I n]) 27 Try.func17 rfl rfl rfl ?_
  refine W_forget [(0, .agg #[.slice a (List.length g.Parents) c]), (1, .slice a5 (List.length sx) c6), (2, .slice a11 (List.length pubs) c12), (3, I n)] ⟨rfl, rfl, rfl, rfl, trivial⟩ fun ρ => ?_
  have X := But.refl emp w
  refine W_seq ?_
  refine W_region ?_
  refine LP_box 0 (cs := [.slice a (List.length g.Parents) c]) rfl rfl rfl rfl rfl fun b wx x ex13 f => ?_
  refine LP_ev ok 1 [(8, I 0), (9, .bool false)] 3 rfl rfl ?_
  refine LP_end _ rfl ?_
  refine W_seq ?_
  refine W_seq ?_
  refine W_region ?_
  refine LP_ldbox 0 (v := .agg #[.slice a (List.length g.Parents) c]) rfl rfl rfl ti_32 ag_32 (fun h => by cases h) rfl ex13 rfl rfl ?_
  refine LP_ev ok 1 [(12, .slice a5 (List.length sx) c6), (13, .slice a11 (List.length pubs) c12), (14, I n)] 4 rfl rfl ?_
  have ex15 := (ex.ext x)
  have ex16 := (ex4.ext x)
  have ex17 := (ex10.ext x)
  refine LP_call 4 rfl rfl rfl cal_27 rfl (spec_aAsked_w _ _ _ _ _ H wx r ex15 r3 ex16 r9 ex17) ?_
  rintro _ wx18 ⟨r14, H, rfl, x19⟩
  refine LP_ev ok 5 [(16, .bool (!r14))] 6 rfl rfl ?_
  refine LP_end _ rfl ?_
  refine W_cond (!r14) rfl (fun hc => ?_) (fun hc => ?_)
  · have H := H.1 hc
    refine W_seq ?_
    refine W_region ?_
    refine LP_ev ok 0 [(8, I 0), (9, .bool false)] 2 rfl rfl ?_
    refine LP_end _ rfl ?_
    refine W_ret ?_
    have X20 := ((X.stepx x).stepx x19)
    exact ⟨_, Ret_of [I 0, .bool false] ⟨⟨rfl, rfl⟩, ⟨rfl, rfl⟩, trivial⟩, _, _, H, rfl, X20.ext⟩
  have H := H.2 hc
  refine W_skip ?_
  refine W_seq ?_
  refine W_region ?_
  have ex21 := (ex13.ext x19)
  refine LP_ldbox 0 (v := .agg #[.slice a (List.length g.Parents) c]) rfl rfl rfl ti_32 ag_32 (fun h => by cases h) rfl ex21 rfl rfl ?_
  refine LP_ev ok 1 [(18, .slice a5 (List.length sx) c6), (19, .slice a11 (List.length pubs) c12), (20, I n)] 4 rfl rfl ?_
  have ex23 := (ex15.ext x19)
  have ex24 := (ex16.ext x19)
  have ex25 := (ex17.ext x19)
  refine LP_call 4 rfl rfl rfl cal_29 rfl (spec_aSolve_w _ _ _ _ _ _ H wx18 r ex23 r3 ex24 r9 ex25) ?_
  rintro _ wx26 ⟨r22, vx28, hx29, H, rfl, x27, o, ex30, f31⟩
  obtain ⟨a32, c33, rfl⟩ := o.shape
  refine LP_ev ok 5 [(10, .slice a32 (List.length r22) c33)] 6 rfl rfl ?_
  refine LP_end _ rfl ?_
  refine W_seq ?_
  refine W_seq ?_
  refine W_region ?_
  refine LP_ev ok 0 [(22, .slice a32 (List.length r22) c33), (23, I (ln r22)), (24, .bool (decide ((ln r22) > 20000)))] 3 rfl rfl ?_
  refine LP_end _ rfl ?_
  refine W_cond (decide ((ln r22) > 20000)) rfl (fun hc34 => ?_) (fun hc34 => ?_)
  · have H := H.1 hc34
    refine W_seq ?_
    refine W_region ?_
    refine LP_ev ok 0 [(8, I 0), (9, .bool false)] 2 rfl rfl ?_
    refine LP_end _ rfl ?_
    refine W_ret ?_
    have X35 := (((X.stepx x).stepx x19).stepx x27)
    exact ⟨_, Ret_of [I 0, .bool false] ⟨⟨rfl, rfl⟩, ⟨rfl, rfl⟩, trivial⟩, _, _, H, rfl, X35.ext⟩
  have H := H.2 hc34
  refine W_skip ?_
  refine W_seq ?_
  refine W_region ?_
  refine LP_ev ok 0 [(25, .slice a32 (List.length r22) c33), (26, I (ln r22)), (8, I (ln r22)), (9, .bool true)] 4 rfl rfl ?_
  refine LP_end _ rfl ?_
  refine W_ret ?_
  have X36 := (((X.stepx x).stepx x19).stepx x27)
  exact ⟨_, Ret_of [I (ln r22), .bool true] ⟨⟨rfl, rfl⟩, ⟨rfl, rfl⟩, trivial⟩, _, _, H, rfl, X36.ext⟩

set_option maxRecDepth 8000 in
set_option maxHeartbeats 4000000 in
theorem impl_CountSurveys_1_w (p : List Int) (Q : Prop) (H : impl_CountSurveys_1 p Q) (w : World) {vx : Value} {hx : PH} (r : RS hx vx p) (ex : Sub hx w) :
    CallsTo Try.prog 40 #[vx] w fun v w' => Q ∧ v = .tuple #[] ∧ Ext w w' := by
  obtain ⟨a, c, rfl⟩ := r.shape
  refine enter (args := [.slice a (List.length p) c]) 2 Try.func40 rfl rfl rfl ?_
  refine W_forget [(0, .slice a (List.length p) c)] ⟨rfl, trivial⟩ fun ρ => ?_
  have X := But.refl emp w
  refine W_skip ?_
  exact ⟨_, Ret_of [] trivial, H, rfl, X.ext⟩

set_option maxRecDepth 8000 in
set_option maxHeartbeats 4000000 in
theorem impl_solutions_1_impl_CountSurveys_1_w (counts : List Int) (c1 : Int) (c5 : Int) (Q : Bool → Int → Prop) (H : impl_solutions_1_impl_CountSurveys_1 counts c1 c5 Q) (w : World) {vx : Value} {hx : PH} (r : RS hx vx counts) (ex : Sub hx w) {b : Nat} (ex2 : Sub (bx b 3 [I c1]) w) {b3 : Nat} (ex4 : Sub (bx b3 74 [.func (.func 40) #[] #[]]) w) {b6 : Nat} (ex7 : Sub (bx b6 3 [I c5]) w) (d : Dj (bx b 3 [I c1]) hx) (d8 : Dj (bx b 3 [I c1]) (bx b3 74 [.func (.func 40) #[] #[]])) (d9 : Dj (bx b 3 [I c1]) (bx b6 3 [I c5])) :
    CallsTo Try.prog 64 #[vx, .pointer (some ⟨b, 0, none⟩), .pointer (some ⟨b3, 0, none⟩), .pointer (some ⟨b6, 0, none⟩)] w fun v w' => ∃ r0 m1_0, Q r0 m1_0 ∧ v = .bool r0 ∧ But (bx b 3 [I c1]) w w' ∧ Sub (bx b 3 [I m1_0]) w' := by
  obtain ⟨a, c, rfl⟩ := r.shape
  refine enter (args := [.slice a (List.length counts) c, .pointer (some ⟨b, 0, none⟩), .pointer (some ⟨b3, 0, none⟩), .pointer (some ⟨b6, 0, none⟩)]) 14 Try.func64 rfl rfl rfl ?_
  refine W_forget [(0, .slice a (List.length counts) c), (1, .pointer (some ⟨b, 0, none⟩)), (2, .pointer (some ⟨b3, 0, none⟩)), (3, .pointer (some ⟨b6, 0, none⟩))] ⟨rfl, rfl, rfl, rfl, trivial⟩ fun ρ => ?_
  have D : Dom (bx b 3 [I c1]) (bx b 3 [I c1]) := (Dom.refl _)
  have X := But.refl (bx b 3 [I c1]) w
  refine W_seq ?_
  refine W_region ?_
  refine LP_ev ok 0 [(5, .bool false)] 1 rfl rfl ?_
  refine LP_end _ rfl ?_
  refine W_seq ?_
  refine W_region ?_
  refine LP_ldbox 0 (v := I c1) rfl rfl rfl ti_3 ag_3 (fun _ => rfl) rfl ex2 rfl rfl ?_
  refine LP_ev ok 1 [(7, I (wr (c1 + 1)))] 2 rfl rfl ?_
  refine LP_stbox 2 (vs := [I (wr (c1 + 1))]) (cs' := [I (wr (c1 + 1))]) rfl rfl rfl ti_3 rfl rfl rfl rfl rfl ex2 rfl rfl fun wx ex10 y => ?_
  refine LP_end _ rfl ?_
  refine W_seq ?_
  refine W_region ?_
  have ex11 := (ex4.but y d8)
  refine LP_ldbox 0 (v := .func (.func 40) #[] #[]) rfl rfl rfl ti_74 ag_74 (fun _ => rfl) rfl ex11 rfl rfl ?_
  refine LP_ev ok 1 [(9, .slice a (List.length counts) c)] 2 rfl rfl ?_
  have ex12 := (ex.but y d)
  refine LP_callv 2 rfl rfl rfl rfl cal_40 rfl (impl_CountSurveys_1_w _ _ H wx r ex12) ?_
  rintro _ wx13 ⟨H, rfl, x⟩
  refine LP_end _ rfl ?_
  refine W_seq ?_
  refine W_region ?_
  have ex14 := (ex10.ext x)
  refine LP_ldbox 0 (v := I (wr (c1 + 1))) rfl rfl rfl ti_3 ag_3 (fun _ => rfl) rfl ex14 rfl rfl ?_
  have ex15 := ((ex7.but y d9).ext x)
  refine LP_ldbox 1 (v := I c5) rfl rfl rfl ti_3 ag_3 (fun _ => rfl) rfl ex15 rfl rfl ?_
  refine LP_ev ok 2 [(13, .bool (decide ((wr (c1 + 1)) < c5))), (5, .bool (decide ((wr (c1 + 1)) < c5)))] 4 rfl rfl ?_
  refine LP_end _ rfl ?_
  refine W_ret ?_
  have X16 := ((X.step y (Dom.le D _)).stepx x)
  exact ⟨_, Ret_of [.bool (decide ((wr (c1 + 1)) < c5))] ⟨⟨rfl, rfl⟩, trivial⟩, _, _, H, rfl, X16, ex14⟩

set_option maxRecDepth 8000 in
set_option maxHeartbeats 4000000 in
theorem impl_search_add_impl_solutions_1_impl_CountSurveys_1_w (x : Search) (c13 : Int) (c17 : Int) (k : Int) (n : Int) (Q : (List Int) → (List Int) → Prop) (H : impl_search_add_impl_solutions_1_impl_CountSurveys_1 x c13 c17 k n Q) (w : World) {vx : Value} {hx : PH} (r : RS hx vx x.Conditions) (ex : Sub hx w) {vx1 : Value} {hx2 : PH} (r3 : OS 3 hx2 emp vx1 x.Counts) (ex4 : Sub hx2 w) {vx7 : Value} {hx8 : PH} (r9 : OS 3 hx8 emp vx7 x.Sums) (ex10 : Sub hx8 w) {b : Nat} (ex14 : Sub (bx b 3 [I c13]) w) {b15 : Nat} (ex16 : Sub (bx b15 74 [.func (.func 40) #[] #[]]) w) {b18 : Nat} (ex19 : Sub (bx b18 3 [I c17]) w) {b20 : Nat} (ex21 : Sub (bx b20 103 [vx, vx1, vx7, .func (.func 64) #[] #[.pointer (some ⟨b, 0, none⟩), .pointer (some ⟨b15, 0, none⟩), .pointer (some ⟨b18, 0, none⟩)]]) w) (d : Dj hx2 hx8) (d22 : Dj hx2 (bx b20 103 [vx, vx1, vx7, .func (.func 64) #[] #[.pointer (some ⟨b, 0, none⟩), .pointer (some ⟨b15, 0, none⟩), .pointer (some ⟨b18, 0, none⟩)]])) (d23 : Dj hx8 (bx b20 103 [vx, vx1, vx7, .func (.func 64) #[] #[.pointer (some ⟨b, 0, none⟩), .pointer (some ⟨b15, 0, none⟩), .pointer (some ⟨b18, 0, none⟩)]])) (d24 : Dj hx2 hx) (d25 : Dj hx2 (bx b 3 [I c13])) (d26 : Dj hx2 (bx b15 74 [.func (.func 40) #[] #[]])) (d27 : Dj hx2 (bx b18 3 [I c17])) (d28 : Dj hx8 hx) (d29 : Dj hx8 (bx b 3 [I c13])) (d30 : Dj hx8 (bx b15 74 [.func (.func 40) #[] #[]])) (d31 : Dj hx8 (bx b18 3 [I c17])) (d32 : Dj (bx b20 103 [vx, vx1, vx7, .func (.func 64) #[] #[.pointer (some ⟨b, 0, none⟩), .pointer (some ⟨b15, 0, none⟩), .pointer (some ⟨b18, 0, none⟩)]]) hx) (d33 : Dj (bx b20 103 [vx, vx1, vx7, .func (.func 64) #[] #[.pointer (some ⟨b, 0, none⟩), .pointer (some ⟨b15, 0, none⟩), .pointer (some ⟨b18, 0, none⟩)]]) (bx b 3 [I c13])) (d34 : Dj (bx b20 103 [vx, vx1, vx7, .func (.func 64) #[] #[.pointer (some ⟨b, 0, none⟩), .pointer (some ⟨b15, 0, none⟩), .pointer (some ⟨b18, 0, none⟩)]]) (bx b15 74 [.func (.func 40) #[] #[]])) (d35 : Dj (bx b20 103 [vx, vx1, vx7, .func (.func 64) #[] #[.pointer (some ⟨b, 0, none⟩), .pointer (some ⟨b15, 0, none⟩), .pointer (some ⟨b18, 0, none⟩)]]) (bx b18 3 [I c17])) :
    CallsTo Try.prog 96 #[.pointer (some ⟨b20, 0, none⟩), I k, I n] w fun v w' => ∃ m1 m2 v1_ k1 v2_ k2, Q m1 m2 ∧ v = .tuple #[] ∧ But (un hx2 (un hx8 (bx b20 103 [vx, vx1, vx7, .func (.func 64) #[] #[.pointer (some ⟨b, 0, none⟩), .pointer (some ⟨b15, 0, none⟩), .pointer (some ⟨b18, 0, none⟩)]]))) w w' ∧ OS 3 k1 emp v1_ m1 ∧ Sub k1 w' ∧ DomLe (un hx2 (un hx8 (bx b20 103 [vx, vx1, vx7, .func (.func 64) #[] #[.pointer (some ⟨b, 0, none⟩), .pointer (some ⟨b15, 0, none⟩), .pointer (some ⟨b18, 0, none⟩)]]))) w.heap.size k1 ∧ OS 3 k2 emp v2_ m2 ∧ Sub k2 w' ∧ DomLe (un hx2 (un hx8 (bx b20 103 [vx, vx1, vx7, .func (.func 64) #[] #[.pointer (some ⟨b, 0, none⟩), .pointer (some ⟨b15, 0, none⟩), .pointer (some ⟨b18, 0, none⟩)]]))) w.heap.size k2 ∧ Sub (bx b20 103 [vx, v1_, v2_, .func (.func 64) #[] #[.pointer (some ⟨b, 0, none⟩), .pointer (some ⟨b15, 0, none⟩), .pointer (some ⟨b18, 0, none⟩)]]) w' ∧ Dj k1 k2 ∧ Dj k1 (bx b20 103 [vx, v1_, v2_, .func (.func 64) #[] #[.pointer (some ⟨b, 0, none⟩), .pointer (some ⟨b15, 0, none⟩), .pointer (some ⟨b18, 0, none⟩)]]) ∧ Dj k2 (bx b20 103 [vx, v1_, v2_, .func (.func 64) #[] #[.pointer (some ⟨b, 0, none⟩), .pointer (some ⟨b15, 0, none⟩), .pointer (some ⟨b18, 0, none⟩)]]) := by
  obtain ⟨a, c, rfl⟩ := r.shape
  obtain ⟨a5, c6, rfl⟩ := r3.shape
  obtain ⟨a11, c12, rfl⟩ := r9.shape
  refine enter (args := [.pointer (some ⟨b20, 0, none⟩), I k, I n]) 45 Try.func96 rfl rfl rfl ?_
  refine W_forget [(0, .pointer (some ⟨b20, 0, none⟩)), (1, I k), (2, I n)] ⟨rfl, rfl, rfl, trivial⟩ fun ρ => ?_
  have D : Dom (un hx2 (un hx8 (bx b20 103 [.slice a (List.length x.Conditions) c, .slice a5 (List.length x.Counts) c6, .slice a11 (List.length x.Sums) c12, .func (.func 64) #[] #[.pointer (some ⟨b, 0, none⟩), .pointer (some ⟨b15, 0, none⟩), .pointer (some ⟨b18, 0, none⟩)]]))) hx2 := (Dom.l _ _)
  have D36 : Dom (un hx2 (un hx8 (bx b20 103 [.slice a (List.length x.Conditions) c, .slice a5 (List.length x.Counts) c6, .slice a11 (List.length x.Sums) c12, .func (.func 64) #[] #[.pointer (some ⟨b, 0, none⟩), .pointer (some ⟨b15, 0, none⟩), .pointer (some ⟨b18, 0, none⟩)]]))) hx8 := (Dom.trans (Dom.r _ _) (Dom.l _ _))
  have D37 : Dom (un hx2 (un hx8 (bx b20 103 [.slice a (List.length x.Conditions) c, .slice a5 (List.length x.Counts) c6, .slice a11 (List.length x.Sums) c12, .func (.func 64) #[] #[.pointer (some ⟨b, 0, none⟩), .pointer (some ⟨b15, 0, none⟩), .pointer (some ⟨b18, 0, none⟩)]]))) (bx b20 103 [.slice a (List.length x.Conditions) c, .slice a5 (List.length x.Counts) c6, .slice a11 (List.length x.Sums) c12, .func (.func 64) #[] #[.pointer (some ⟨b, 0, none⟩), .pointer (some ⟨b15, 0, none⟩), .pointer (some ⟨b18, 0, none⟩)]]) := (Dom.trans (Dom.r _ _) (Dom.trans (Dom.r _ _) (Dom.refl _)))
  have X := But.refl (un hx2 (un hx8 (bx b20 103 [.slice a (List.length x.Conditions) c, .slice a5 (List.length x.Counts) c6, .slice a11 (List.length x.Sums) c12, .func (.func 64) #[] #[.pointer (some ⟨b, 0, none⟩), .pointer (some ⟨b15, 0, none⟩), .pointer (some ⟨b18, 0, none⟩)]]))) w
  refine W_seq ?_
  refine W_region ?_
  refine LP_ev ok 0 [(8, .pointer (some ⟨b20, 0, none⟩)), (9, .pointer (some ⟨b20, 0, none⟩)), (10, .pointer (some ⟨b20, 1, none⟩))] 3 rfl rfl ?_
  refine LP_ldbox 3 (v := .slice a5 (List.length x.Counts) c6) rfl rfl rfl ti_22 ag_22 (fun _ => rfl) rfl ex21 rfl rfl ?_
  refine LP_ev ok 4 [(12, I k)] 5 rfl rfl ?_
  obtain ⟨x38, hi, hx39, H⟩ := H
  refine LP_index 5 rfl rfl rfl Try.underlying22 ti_3 rfl rfl r3.readf hi hx39 fun a40 cs r41 d42 => ?_
  refine LP_load 6 rfl rfl rfl ti_3 ag_3 rfl r41 d42 ex4 fun vx43 r44 => ?_
  obtain rfl := r44.int
  refine LP_ev ok 7 [(15, I n), (16, I (wr (x38 + n)))] 9 rfl rfl ?_
  obtain ⟨hi45, hl, H⟩ := H
  refine LP_indexw (v := .slice a5 (List.length x.Counts) c6) 9 rfl rfl rfl Try.underlying22 ti_3 rfl rfl r3 hi45 hl fun a46 wa => ?_
  refine LP_set 10 rfl rfl rfl rfl rfl wa (Le.refl emp) ⟨_, rfl, rfl⟩ ex4 fun hx47 wx o ex48 y dm => ?_
  refine LP_end _ rfl ?_
  refine W_seq ?_
  refine W_region ?_
  refine LP_ev ok 0 [(18, .pointer (some ⟨b20, 0, none⟩)), (19, .pointer (some ⟨b20, 0, none⟩)), (20, .pointer (some ⟨b20, 0, none⟩))] 3 rfl rfl ?_
  have ex49 := (ex21.but y d22)
  refine LP_ldbox 3 (v := .slice a (List.length x.Conditions) c) rfl rfl rfl ti_99 ag_99 (fun _ => rfl) rfl ex49 rfl rfl ?_
  refine LP_ev ok 4 [(22, I (ln x.Conditions)), (23, I 0)] 6 rfl rfl ?_
  refine LP_end _ rfl ?_
  refine W_block ?_
  have X69 := (X.step y (Dom.le D _))
  have ex70 := (ex10.but y d)
  have ex71 := (ex.but y d24)
  have ex72 := (ex14.but y d25)
  have ex73 := (ex16.but y d26)
  have ex74 := (ex19.but y d27)
  obtain ⟨J, m, Hx, H⟩ := H
  refine W_loop (S := Int × (List Int)) (fun s ρ' w' => J s.1 s.2 ∧ ∃ (ρ : Env) (hx52 : PH), ρ' = setAll [(0, .pointer (some ⟨b20, 0, none⟩)), (1, I k), (2, I n), (21, .slice a (List.length x.Conditions) c), (22, I (ln x.Conditions)), (23, I s.1)] ρ ∧ But (un hx2 (un hx8 (bx b20 103 [.slice a (List.length x.Conditions) c, .slice a5 (List.length x.Counts) c6, .slice a11 (List.length x.Sums) c12, .func (.func 64) #[] #[.pointer (some ⟨b, 0, none⟩), .pointer (some ⟨b15, 0, none⟩), .pointer (some ⟨b18, 0, none⟩)]]))) w w' ∧ OS 3 hx52 emp (.slice a11 (List.length x.Sums) c12) s.2 ∧ Sub hx52 w' ∧ DomLe (un hx2 (un hx8 (bx b20 103 [.slice a (List.length x.Conditions) c, .slice a5 (List.length x.Counts) c6, .slice a11 (List.length x.Sums) c12, .func (.func 64) #[] #[.pointer (some ⟨b, 0, none⟩), .pointer (some ⟨b15, 0, none⟩), .pointer (some ⟨b18, 0, none⟩)]]))) w.heap.size hx52 ∧ Sub hx w' ∧ Sub hx47 w' ∧ Sub (bx b 3 [I c13]) w' ∧ Sub (bx b15 74 [.func (.func 40) #[] #[]]) w' ∧ Sub (bx b18 3 [I c17]) w' ∧ Sub (bx b20 103 [.slice a (List.length x.Conditions) c, .slice a5 (List.length x.Counts) c6, .slice a11 (List.length x.Sums) c12, .func (.func 64) #[] #[.pointer (some ⟨b, 0, none⟩), .pointer (some ⟨b15, 0, none⟩), .pointer (some ⟨b18, 0, none⟩)]]) w' ∧ Dj hx52 hx ∧ Dj hx52 hx47 ∧ Dj hx52 (bx b 3 [I c13]) ∧ Dj hx52 (bx b15 74 [.func (.func 40) #[] #[]]) ∧ Dj hx52 (bx b18 3 [I c17]) ∧ Dj hx52 (bx b20 103 [.slice a (List.length x.Conditions) c, .slice a5 (List.length x.Counts) c6, .slice a11 (List.length x.Sums) c12, .func (.func 64) #[] #[.pointer (some ⟨b, 0, none⟩), .pointer (some ⟨b15, 0, none⟩), .pointer (some ⟨b18, 0, none⟩)]])) (fun s => m s.1 s.2) (0, x.Sums) ⟨Hx, _, hx8, env_eq ⟨rfl, rfl, rfl, rfl, rfl, rfl, trivial⟩, X69, r9, ex70, (Dom.le D36 _), ex71, ex48, ex72, ex73, ex74, ex49, d28, (DomLe.dj (dm _) d ex10).symm, d29, d30, d31, d23⟩ ?_
  rintro ⟨x50, sums⟩ _ wx55 ⟨Hi, ρ, hx52, rfl, X68, o53, ex54, f, ex56, ex57, ex58, ex59, ex60, ex61, d62, d63, d64, d65, d66, d67⟩
  have H := H x50 sums Hi
  refine W_seq ?_
  refine W_region ?_
  refine LP_ev ok 0 [(24, .bool (decide (x50 < (ln x.Conditions))))] 1 rfl rfl ?_
  refine LP_end _ rfl ?_
  refine W_seq ?_
  refine W_cond (decide (x50 < (ln x.Conditions))) rfl (fun hc => ?_) (fun hc => ?_)
  · have H := H.1 hc
    refine W_skip ?_
    refine W_seq ?_
    refine W_block ?_
    refine W_seq ?_
    refine W_region ?_
    refine LP_ev ok 0 [(25, I x50)] 1 rfl rfl ?_
    obtain ⟨x75, hi76, hx77, H⟩ := H
    refine LP_index 1 rfl rfl rfl Try.underlying99 ti_124 rfl rfl r hi76 hx77 fun a78 cs79 r80 d81 => ?_
    have d82 := d81
    obtain ⟨u, rfl, r83⟩ := Condition_rd d82
    obtain ⟨a84, c85, rfl⟩ := r83.shape
    refine LP_load 2 rfl rfl rfl ti_124 ag_124 rfl r80 d81 ex56 fun vx86 r87 => ?_
    obtain ⟨u88, rfl, r89⟩ := Condition_rv r87
    obtain ⟨a90, c91, rfl⟩ := r89.shape
    refine LP_alloc 3 rfl rfl rfl ti_124 rfl fun b92 wx93 x94 ex95 f96 => ?_
    refine LP_ev ok 4 [(6, I x50)] 5 rfl rfl ?_
    refine LP_stbox 5 (vs := [.slice a90 (List.length x75.Amounts) c91, I x75.Value]) (cs' := [.slice a90 (List.length x75.Amounts) c91, I x75.Value]) rfl rfl rfl ti_124 rfl rfl rfl rfl rfl ex95 rfl rfl fun wx97 ex98 y99 => ?_
    refine LP_end _ rfl ?_
    refine W_open mix fun wx100 x101 => ?_
    refine AP_game 14 [[], [0], [0, 1], [0, 1, 2], [], [0, 1, 2, 3, 4], [0, 1, 2, 3, 4, 5], [], [], [8], [], [8, 9, 10], [8, 9, 10, 11], [7, 8, 9, 10, 11, 12], [0, 1, 2, 3, 4, 5, 6, 7, 8, 9, 10, 11, 12, 13], [0, 1, 2, 3, 4, 5, 6, 7, 8, 9, 10, 11, 12, 13, 14], [0, 1, 2, 3, 4, 5, 6, 7, 8, 9, 10, 11, 12, 13, 14, 15]] [[(0, none)], [(28, some 0)], [(29, some 1)], [(30, some 2)], [(6, none)], [(31, some 3), (32, some 4)], [(33, some 5)], [(2, none)], [(7, none)], [(36, some 8)], [(1, none)], [(37, some 9), (38, some 10)], [(39, some 11)], [(35, some 7), (40, some 12)]] [(0, none), (1, none), (2, none), (21, none), (22, none), (23, none), (31, some 3), (32, some 4), (34, some 6), (41, some 13)] [(0, false), (1, false), (2, false), (3, false), (4, false), (5, false), (6, false), (7, false), (8, false), (9, false), (10, false), (11, false), (12, false), (13, false)] (by kernel_rfl) (by kernel_rfl) ?_
    refine GS_ev ok [(0, .pointer (some ⟨b20, 0, none⟩))] (.pointer (some ⟨b20, 0, none⟩)) rfl rfl (fun _ h => h) (fun _ => rfl) ?_
    refine GS_ev ok [(28, .pointer (some ⟨b20, 0, none⟩))] (.pointer (some ⟨b20, 0, none⟩)) rfl rfl (fun _ h => h) (fun _ => rfl) ?_
    refine GS_ev ok [(29, .pointer (some ⟨b20, 0, none⟩))] (.pointer (some ⟨b20, 2, none⟩)) rfl rfl (fun _ h => h) (fun _ => rfl) ?_
    have ex102 := (((ex61.ext x94).but y99 (Dj.of_fresh ex61 f96).symm).ext x101)
    refine GS_r1 [(30, .pointer (some ⟨b20, 2, none⟩))] (.slice a11 (List.length x.Sums) c12) rfl rfl (fun _ h => h) (fun _ w e => ex_ldbox rfl ti_22 ag_22 (fun _ => rfl) rfl e rfl rfl) ex102 ?_
    refine GS_ev ok [(6, I x50)] (I x50) rfl rfl (fun _ h => h) (fun _ => rfl) ?_
    obtain ⟨x103, hi104, hx105, H⟩ := H
    obtain ⟨a106, cs107, hx110, r108, d109⟩ := run_indexAt Try.underlying22 ti_3 o53.readf .i64 _ x103 hi104 hx105
    refine GS_r0 [(31, .slice a11 (List.length x.Sums) c12), (32, I x50)] (.pointer (some a106)) rfl rfl (fun _ h => h) (fun _ _ => ex_index rfl rfl rfl (hx110 _)) ?_
    obtain ⟨vx111, hx113, r112⟩ := run_loadAt ti_3 ag_3 r108 d109
    obtain rfl := r112.int
    have ex114 := (((ex54.ext x94).but y99 (Dj.of_fresh ex54 f96).symm).ext x101)
    refine GS_r1 [(33, .pointer (some a106))] (I x103) rfl rfl (fun _ h => h) (fun _ w e => ex_load rfl rfl (hx113 w e)) ex114 ?_
    refine GS_ev ok [(2, I n)] (I n) rfl rfl (fun _ h => h) (fun _ => rfl) ?_
    refine GS_ev ok [(7, .pointer (some ⟨b92, 0, none⟩))] (.pointer (some ⟨b92, 0, none⟩)) rfl rfl (fun _ h => h) (fun _ => rfl) ?_
    have ex115 := (ex98.ext x101)
    refine GS_r1 [(36, .pointer (some ⟨b92, 0, none⟩))] (.slice a90 (List.length x75.Amounts) c91) rfl rfl (fun _ h => h) (fun _ w e => ex_ldbox rfl ti_22 ag_22 (fun _ => rfl) rfl e rfl rfl) ex115 ?_
    refine GS_ev ok [(1, I k)] (I k) rfl rfl (fun _ h => h) (fun _ => rfl) ?_
    obtain ⟨x116, hi117, hx118, H⟩ := H
    obtain ⟨a119, cs120, hx123, r121, d122⟩ := run_indexAt Try.underlying22 ti_3 r89 .i64 _ x116 hi117 hx118
    refine GS_r0 [(37, .slice a90 (List.length x75.Amounts) c91), (38, I k)] (.pointer (some a119)) rfl rfl (fun _ h => h) (fun _ _ => ex_index rfl rfl rfl (hx123 _)) ?_
    obtain ⟨vx124, hx126, r125⟩ := run_loadAt ti_3 ag_3 r121 d122
    obtain rfl := r125.int
    have ex127 := (((ex56.ext x94).but y99 (Dj.of_fresh ex56 f96).symm).ext x101)
    refine GS_r1 [(39, .pointer (some a119))] (I x116) rfl rfl (fun _ h => h) (fun _ w e => ex_load rfl rfl (hx126 w e)) ex127 ?_
    refine GS_ev ok [(35, I n), (40, I x116)] (I (wr (n * x116))) rfl rfl (fun _ h => h) (fun _ => rfl) ?_
    intro wx128 x129 ρ hn
    refine AP_forget [(0, .pointer (some ⟨b20, 0, none⟩)), (1, I k), (2, I n), (21, .slice a (List.length x.Conditions) c), (22, I (ln x.Conditions)), (23, I x50), (31, .slice a11 (List.length x.Sums) c12), (32, I x50), (34, I x103), (41, I (wr (n * x116)))] (by exact hn) fun ρ => ?_
    refine AP_tail 14 [[], [0], [0, 1], [0, 1, 2], [], [0, 1, 2, 3, 4], [0, 1, 2, 3, 4, 5], [], [], [8], [], [8, 9, 10], [8, 9, 10, 11], [7, 8, 9, 10, 11, 12], [0, 1, 2, 3, 4, 5, 6, 7, 8, 9, 10, 11, 12, 13], [0, 1, 2, 3, 4, 5, 6, 7, 8, 9, 10, 11, 12, 13, 14], [0, 1, 2, 3, 4, 5, 6, 7, 8, 9, 10, 11, 12, 13, 14, 15]] (by kernel_rfl) ?_
    refine LP_ev ok 14 [(42, I (wr (x103 + (wr (n * x116)))))] 15 rfl rfl ?_
    obtain ⟨hi130, hl131, H⟩ := H
    refine LP_indexw (v := .slice a11 (List.length x.Sums) c12) 15 rfl rfl rfl Try.underlying22 ti_3 rfl rfl o53 hi130 hl131 fun a132 wa133 => ?_
    have ex140 := (ex114.ext x129)
    refine LP_set 16 rfl rfl rfl rfl rfl wa133 (Le.refl emp) ⟨_, rfl, rfl⟩ ex140 fun hx134 wx135 o136 ex137 y138 dm139 => ?_
    refine LP_end _ rfl ?_
    refine W_region ?_
    refine LP_ev ok 0 [(44, I (wr (x50 + 1))), (23, I (wr (x50 + 1)))] 2 rfl rfl ?_
    refine LP_end _ rfl ?_
    have f141 := f96.mono X68.size
    have X142 := (((((X68.stepx x94).step y99 (f141.dom _)).stepx x101).stepx x129).step y138 f)
    have X143 := ((((X68.stepx x94).step y99 (f141.dom _)).stepx x101).stepx x129)
    have ex144 := ((ex127.ext x129).but y138 d62)
    have ex145 := (((((ex57.ext x94).but y99 (Dj.of_fresh ex57 f96).symm).ext x101).ext x129).but y138 d63)
    have ex146 := (((((ex58.ext x94).but y99 (Dj.of_fresh ex58 f96).symm).ext x101).ext x129).but y138 d64)
    have ex147 := (((((ex59.ext x94).but y99 (Dj.of_fresh ex59 f96).symm).ext x101).ext x129).but y138 d65)
    have ex148 := (((((ex60.ext x94).but y99 (Dj.of_fresh ex60 f96).symm).ext x101).ext x129).but y138 d66)
    have ex149 := ((ex102.ext x129).but y138 d67)
    have ex150 := (ex127.ext x129)
    have ex151 := ((((ex57.ext x94).but y99 (Dj.of_fresh ex57 f96).symm).ext x101).ext x129)
    have ex152 := ((((ex58.ext x94).but y99 (Dj.of_fresh ex58 f96).symm).ext x101).ext x129)
    have ex153 := ((((ex59.ext x94).but y99 (Dj.of_fresh ex59 f96).symm).ext x101).ext x129)
    have ex154 := ((((ex60.ext x94).but y99 (Dj.of_fresh ex60 f96).symm).ext x101).ext x129)
    have ex155 := (ex102.ext x129)
    exact ⟨(wr (x50 + 1), List.set sums (Int.toNat x50) (wr (x103 + (wr (n * x116))))), ⟨H.1, _, hx134, env_eq ⟨rfl, rfl, rfl, rfl, rfl, rfl, trivial⟩, X142, o136, ex137, (DomLe.trans f (dm139 _) X143.size), ex144, ex145, ex146, ex147, ex148, ex149, (DomLe.dj (dm139 _) d62 ex150), (DomLe.dj (dm139 _) d63 ex151), (DomLe.dj (dm139 _) d64 ex152), (DomLe.dj (dm139 _) d65 ex153), (DomLe.dj (dm139 _) d66 ex154), (DomLe.dj (dm139 _) d67 ex155)⟩, H.2⟩
  have H := H.2 hc
  refine W_exit ?_
  refine (if_pos rfl).mpr ?_
  exact ⟨_, Ret_of [] trivial, _, _, _, _, _, _, H, rfl, X68, o, ex57, (DomLe.trans (Dom.le D _) (dm _) X.size), o53, ex54, f, ex61, d63.symm, (Dj.box (DomLe.dj (dm _) d22 ex21).symm).symm, d67⟩

set_option maxRecDepth 8000 in
set_option maxHeartbeats 4000000 in
theorem impl_search_from_impl_solutions_1_impl_CountSurveys_1_w (x : Search) (c13 : Int) (c17 : Int) (k : Int) (left : Int) (Q : Bool → (List Int) → (List Int) → Int → Prop) (H : impl_search_from_impl_solutions_1_impl_CountSurveys_1 x c13 c17 k left Q) (w : World) {vx : Value} {hx : PH} (r : RS hx vx x.Conditions) (ex : Sub hx w) {vx1 : Value} {hx2 : PH} (r3 : OS 3 hx2 emp vx1 x.Counts) (ex4 : Sub hx2 w) {vx7 : Value} {hx8 : PH} (r9 : OS 3 hx8 emp vx7 x.Sums) (ex10 : Sub hx8 w) {b : Nat} (ex14 : Sub (bx b 3 [I c13]) w) {b15 : Nat} (ex16 : Sub (bx b15 74 [.func (.func 40) #[] #[]]) w) {b18 : Nat} (ex19 : Sub (bx b18 3 [I c17]) w) {b20 : Nat} (ex21 : Sub (bx b20 103 [vx, vx1, vx7, .func (.func 64) #[] #[.pointer (some ⟨b, 0, none⟩), .pointer (some ⟨b15, 0, none⟩), .pointer (some ⟨b18, 0, none⟩)]]) w) (d : Dj hx2 hx8) (d22 : Dj hx2 (bx b 3 [I c13])) (d23 : Dj hx2 (bx b20 103 [vx, vx1, vx7, .func (.func 64) #[] #[.pointer (some ⟨b, 0, none⟩), .pointer (some ⟨b15, 0, none⟩), .pointer (some ⟨b18, 0, none⟩)]])) (d24 : Dj hx8 (bx b 3 [I c13])) (d25 : Dj hx8 (bx b20 103 [vx, vx1, vx7, .func (.func 64) #[] #[.pointer (some ⟨b, 0, none⟩), .pointer (some ⟨b15, 0, none⟩), .pointer (some ⟨b18, 0, none⟩)]])) (d26 : Dj (bx b 3 [I c13]) (bx b20 103 [vx, vx1, vx7, .func (.func 64) #[] #[.pointer (some ⟨b, 0, none⟩), .pointer (some ⟨b15, 0, none⟩), .pointer (some ⟨b18, 0, none⟩)]])) (d27 : Dj hx2 hx) (d28 : Dj hx2 (bx b15 74 [.func (.func 40) #[] #[]])) (d29 : Dj hx2 (bx b18 3 [I c17])) (d30 : Dj hx8 hx) (d31 : Dj hx8 (bx b15 74 [.func (.func 40) #[] #[]])) (d32 : Dj hx8 (bx b18 3 [I c17])) (d33 : Dj (bx b 3 [I c13]) hx) (d34 : Dj (bx b 3 [I c13]) (bx b15 74 [.func (.func 40) #[] #[]])) (d35 : Dj (bx b 3 [I c13]) (bx b18 3 [I c17])) (d36 : Dj (bx b20 103 [vx, vx1, vx7, .func (.func 64) #[] #[.pointer (some ⟨b, 0, none⟩), .pointer (some ⟨b15, 0, none⟩), .pointer (some ⟨b18, 0, none⟩)]]) hx) (d37 : Dj (bx b20 103 [vx, vx1, vx7, .func (.func 64) #[] #[.pointer (some ⟨b, 0, none⟩), .pointer (some ⟨b15, 0, none⟩), .pointer (some ⟨b18, 0, none⟩)]]) (bx b15 74 [.func (.func 40) #[] #[]])) (d38 : Dj (bx b20 103 [vx, vx1, vx7, .func (.func 64) #[] #[.pointer (some ⟨b, 0, none⟩), .pointer (some ⟨b15, 0, none⟩), .pointer (some ⟨b18, 0, none⟩)]]) (bx b18 3 [I c17])) :
    CallsTo Try.prog 65 #[.pointer (some ⟨b20, 0, none⟩), I k, I left] w fun v w' => ∃ r0 m1 m2 m3_0 v1_ k1 v2_ k2, Q r0 m1 m2 m3_0 ∧ v = .bool r0 ∧ But (un hx2 (un hx8 (un (bx b 3 [I c13]) (bx b20 103 [vx, vx1, vx7, .func (.func 64) #[] #[.pointer (some ⟨b, 0, none⟩), .pointer (some ⟨b15, 0, none⟩), .pointer (some ⟨b18, 0, none⟩)]])))) w w' ∧ OS 3 k1 emp v1_ m1 ∧ Sub k1 w' ∧ DomLe (un hx2 (un hx8 (un (bx b 3 [I c13]) (bx b20 103 [vx, vx1, vx7, .func (.func 64) #[] #[.pointer (some ⟨b, 0, none⟩), .pointer (some ⟨b15, 0, none⟩), .pointer (some ⟨b18, 0, none⟩)]])))) w.heap.size k1 ∧ OS 3 k2 emp v2_ m2 ∧ Sub k2 w' ∧ DomLe (un hx2 (un hx8 (un (bx b 3 [I c13]) (bx b20 103 [vx, vx1, vx7, .func (.func 64) #[] #[.pointer (some ⟨b, 0, none⟩), .pointer (some ⟨b15, 0, none⟩), .pointer (some ⟨b18, 0, none⟩)]])))) w.heap.size k2 ∧ Sub (bx b 3 [I m3_0]) w' ∧ Sub (bx b20 103 [vx, v1_, v2_, .func (.func 64) #[] #[.pointer (some ⟨b, 0, none⟩), .pointer (some ⟨b15, 0, none⟩), .pointer (some ⟨b18, 0, none⟩)]]) w' ∧ Dj k1 k2 ∧ Dj k1 (bx b 3 [I m3_0]) ∧ Dj k1 (bx b20 103 [vx, v1_, v2_, .func (.func 64) #[] #[.pointer (some ⟨b, 0, none⟩), .pointer (some ⟨b15, 0, none⟩), .pointer (some ⟨b18, 0, none⟩)]]) ∧ Dj k2 (bx b 3 [I m3_0]) ∧ Dj k2 (bx b20 103 [vx, v1_, v2_, .func (.func 64) #[] #[.pointer (some ⟨b, 0, none⟩), .pointer (some ⟨b15, 0, none⟩), .pointer (some ⟨b18, 0, none⟩)]]) := by
  obtain ⟨S, mu, H0, HS⟩ := H
  have key : ∀ (m : Nat) (x : Search) (c13 : Int) (c17 : Int) (k : Int) (left : Int) (Q : Bool → (List Int) → (List Int) → Int → Prop), S x c13 c17 k left Q → mu x c13 c17 k left < m → ∀ (w : World) {vx : Value} {hx : PH} (r : RS hx vx x.Conditions) (ex : Sub hx w) {vx1 : Value} {hx2 : PH} (r3 : OS 3 hx2 emp vx1 x.Counts) (ex4 : Sub hx2 w) {vx7 : Value} {hx8 : PH} (r9 : OS 3 hx8 emp vx7 x.Sums) (ex10 : Sub hx8 w) {b : Nat} (ex14 : Sub (bx b 3 [I c13]) w) {b15 : Nat} (ex16 : Sub (bx b15 74 [.func (.func 40) #[] #[]]) w) {b18 : Nat} (ex19 : Sub (bx b18 3 [I c17]) w) {b20 : Nat} (ex21 : Sub (bx b20 103 [vx, vx1, vx7, .func (.func 64) #[] #[.pointer (some ⟨b, 0, none⟩), .pointer (some ⟨b15, 0, none⟩), .pointer (some ⟨b18, 0, none⟩)]]) w) (d : Dj hx2 hx8) (d22 : Dj hx2 (bx b 3 [I c13])) (d23 : Dj hx2 (bx b20 103 [vx, vx1, vx7, .func (.func 64) #[] #[.pointer (some ⟨b, 0, none⟩), .pointer (some ⟨b15, 0, none⟩), .pointer (some ⟨b18, 0, none⟩)]])) (d24 : Dj hx8 (bx b 3 [I c13])) (d25 : Dj hx8 (bx b20 103 [vx, vx1, vx7, .func (.func 64) #[] #[.pointer (some ⟨b, 0, none⟩), .pointer (some ⟨b15, 0, none⟩), .pointer (some ⟨b18, 0, none⟩)]])) (d26 : Dj (bx b 3 [I c13]) (bx b20 103 [vx, vx1, vx7, .func (.func 64) #[] #[.pointer (some ⟨b, 0, none⟩), .pointer (some ⟨b15, 0, none⟩), .pointer (some ⟨b18, 0, none⟩)]])) (d27 : Dj hx2 hx) (d28 : Dj hx2 (bx b15 74 [.func (.func 40) #[] #[]])) (d29 : Dj hx2 (bx b18 3 [I c17])) (d30 : Dj hx8 hx) (d31 : Dj hx8 (bx b15 74 [.func (.func 40) #[] #[]])) (d32 : Dj hx8 (bx b18 3 [I c17])) (d33 : Dj (bx b 3 [I c13]) hx) (d34 : Dj (bx b 3 [I c13]) (bx b15 74 [.func (.func 40) #[] #[]])) (d35 : Dj (bx b 3 [I c13]) (bx b18 3 [I c17])) (d36 : Dj (bx b20 103 [vx, vx1, vx7, .func (.func 64) #[] #[.pointer (some ⟨b, 0, none⟩), .pointer (some ⟨b15, 0, none⟩), .pointer (some ⟨b18, 0, none⟩)]]) hx) (d37 : Dj (bx b20 103 [vx, vx1, vx7, .func (.func 64) #[] #[.pointer (some ⟨b, 0, none⟩), .pointer (some ⟨b15, 0, none⟩), .pointer (some ⟨b18, 0, none⟩)]]) (bx b15 74 [.func (.func 40) #[] #[]])) (d38 : Dj (bx b20 103 [vx, vx1, vx7, .func (.func 64) #[] #[.pointer (some ⟨b, 0, none⟩), .pointer (some ⟨b15, 0, none⟩), .pointer (some ⟨b18, 0, none⟩)]]) (bx b18 3 [I c17])), CallsTo Try.prog 65 #[.pointer (some ⟨b20, 0, none⟩), I k, I left] w fun v w' => ∃ r0 m1 m2 m3_0 v1_ k1 v2_ k2, Q r0 m1 m2 m3_0 ∧ v = .bool r0 ∧ But (un hx2 (un hx8 (un (bx b 3 [I c13]) (bx b20 103 [vx, vx1, vx7, .func (.func 64) #[] #[.pointer (some ⟨b, 0, none⟩), .pointer (some ⟨b15, 0, none⟩), .pointer (some ⟨b18, 0, none⟩)]])))) w w' ∧ OS 3 k1 emp v1_ m1 ∧ Sub k1 w' ∧ DomLe (un hx2 (un hx8 (un (bx b 3 [I c13]) (bx b20 103 [vx, vx1, vx7, .func (.func 64) #[] #[.pointer (some ⟨b, 0, none⟩), .pointer (some ⟨b15, 0, none⟩), .pointer (some ⟨b18, 0, none⟩)]])))) w.heap.size k1 ∧ OS 3 k2 emp v2_ m2 ∧ Sub k2 w' ∧ DomLe (un hx2 (un hx8 (un (bx b 3 [I c13]) (bx b20 103 [vx, vx1, vx7, .func (.func 64) #[] #[.pointer (some ⟨b, 0, none⟩), .pointer (some ⟨b15, 0, none⟩), .pointer (some ⟨b18, 0, none⟩)]])))) w.heap.size k2 ∧ Sub (bx b 3 [I m3_0]) w' ∧ Sub (bx b20 103 [vx, v1_, v2_, .func (.func 64) #[] #[.pointer (some ⟨b, 0, none⟩), .pointer (some ⟨b15, 0, none⟩), .pointer (some ⟨b18, 0, none⟩)]]) w' ∧ Dj k1 k2 ∧ Dj k1 (bx b 3 [I m3_0]) ∧ Dj k1 (bx b20 103 [vx, v1_, v2_, .func (.func 64) #[] #[.pointer (some ⟨b, 0, none⟩), .pointer (some ⟨b15, 0, none⟩), .pointer (some ⟨b18, 0, none⟩)]]) ∧ Dj k2 (bx b 3 [I m3_0]) ∧ Dj k2 (bx b20 103 [vx, v1_, v2_, .func (.func 64) #[] #[.pointer (some ⟨b, 0, none⟩), .pointer (some ⟨b15, 0, none⟩), .pointer (some ⟨b18, 0, none⟩)]]) := by
    intro m
    induction m with
    | zero => intro x c13 c17 k left Q _ hm; exact absurd hm (Nat.not_lt_zero _)
    | succ m ih =>
      intro x c13 c17 k left Q H0 hm w vx hx r ex vx1 hx2 r3 ex4 vx7 hx8 r9 ex10 b ex14 b15 ex16 b18 ex19 b20 ex21 d d22 d23 d24 d25 d26 d27 d28 d29 d30 d31 d32 d33 d34 d35 d36 d37 d38
      have H := HS x c13 c17 k left Q H0
      obtain ⟨a, c, rfl⟩ := r.shape
      obtain ⟨a5, c6, rfl⟩ := r3.shape
      obtain ⟨a11, c12, rfl⟩ := r9.shape
      refine enter (args := [.pointer (some ⟨b20, 0, none⟩), I k, I left]) 110 Try.func65 rfl rfl rfl ?_
      refine W_forget [(0, .pointer (some ⟨b20, 0, none⟩)), (1, I k), (2, I left)] ⟨rfl, rfl, rfl, trivial⟩ fun ρ => ?_
      have D : Dom (un hx2 (un hx8 (un (bx b 3 [I c13]) (bx b20 103 [.slice a (List.length x.Conditions) c, .slice a5 (List.length x.Counts) c6, .slice a11 (List.length x.Sums) c12, .func (.func 64) #[] #[.pointer (some ⟨b, 0, none⟩), .pointer (some ⟨b15, 0, none⟩), .pointer (some ⟨b18, 0, none⟩)]])))) hx2 := (Dom.l _ _)
      have D39 : Dom (un hx2 (un hx8 (un (bx b 3 [I c13]) (bx b20 103 [.slice a (List.length x.Conditions) c, .slice a5 (List.length x.Counts) c6, .slice a11 (List.length x.Sums) c12, .func (.func 64) #[] #[.pointer (some ⟨b, 0, none⟩), .pointer (some ⟨b15, 0, none⟩), .pointer (some ⟨b18, 0, none⟩)]])))) hx8 := (Dom.trans (Dom.r _ _) (Dom.l _ _))
      have D40 : Dom (un hx2 (un hx8 (un (bx b 3 [I c13]) (bx b20 103 [.slice a (List.length x.Conditions) c, .slice a5 (List.length x.Counts) c6, .slice a11 (List.length x.Sums) c12, .func (.func 64) #[] #[.pointer (some ⟨b, 0, none⟩), .pointer (some ⟨b15, 0, none⟩), .pointer (some ⟨b18, 0, none⟩)]])))) (bx b 3 [I c13]) := (Dom.trans (Dom.r _ _) (Dom.trans (Dom.r _ _) (Dom.l _ _)))
      have D41 : Dom (un hx2 (un hx8 (un (bx b 3 [I c13]) (bx b20 103 [.slice a (List.length x.Conditions) c, .slice a5 (List.length x.Counts) c6, .slice a11 (List.length x.Sums) c12, .func (.func 64) #[] #[.pointer (some ⟨b, 0, none⟩), .pointer (some ⟨b15, 0, none⟩), .pointer (some ⟨b18, 0, none⟩)]])))) (bx b20 103 [.slice a (List.length x.Conditions) c, .slice a5 (List.length x.Counts) c6, .slice a11 (List.length x.Sums) c12, .func (.func 64) #[] #[.pointer (some ⟨b, 0, none⟩), .pointer (some ⟨b15, 0, none⟩), .pointer (some ⟨b18, 0, none⟩)]]) := (Dom.trans (Dom.r _ _) (Dom.trans (Dom.r _ _) (Dom.trans (Dom.r _ _) (Dom.refl _))))
      have X := But.refl (un hx2 (un hx8 (un (bx b 3 [I c13]) (bx b20 103 [.slice a (List.length x.Conditions) c, .slice a5 (List.length x.Counts) c6, .slice a11 (List.length x.Sums) c12, .func (.func 64) #[] #[.pointer (some ⟨b, 0, none⟩), .pointer (some ⟨b15, 0, none⟩), .pointer (some ⟨b18, 0, none⟩)]])))) w
      refine W_seq ?_
      refine W_region ?_
      refine LP_ev ok 0 [(6, .bool false)] 1 rfl rfl ?_
      refine LP_end _ rfl ?_
      refine W_seq ?_
      refine W_seq ?_
      refine W_region ?_
      refine LP_ev ok 0 [(14, I k), (15, .pointer (some ⟨b20, 0, none⟩)), (16, .pointer (some ⟨b20, 0, none⟩)), (17, .pointer (some ⟨b20, 1, none⟩))] 4 rfl rfl ?_
      refine LP_ldbox 4 (v := .slice a5 (List.length x.Counts) c6) rfl rfl rfl ti_22 ag_22 (fun _ => rfl) rfl ex21 rfl rfl ?_
      refine LP_ev ok 5 [(19, I (ln x.Counts)), (20, .bool (k == (ln x.Counts)))] 7 rfl rfl ?_
      refine LP_end _ rfl ?_
      refine W_cond (k == (ln x.Counts)) rfl (fun hc => ?_) (fun hc => ?_)
      · have H := H.1 hc
        refine W_seq ?_
        refine W_seq ?_
        refine W_region ?_
        refine LP_ev ok 0 [(21, I left), (22, .bool (decide (left > 0)))] 2 rfl rfl ?_
        refine LP_end _ rfl ?_
        refine W_cond (decide (left > 0)) rfl (fun hc42 => ?_) (fun hc42 => ?_)
        · have H := H.1 hc42
          refine W_seq ?_
          refine W_region ?_
          refine LP_ev ok 0 [(6, .bool true)] 1 rfl rfl ?_
          refine LP_end _ rfl ?_
          refine W_ret ?_
          exact ⟨_, Ret_of [.bool true] ⟨⟨rfl, rfl⟩, trivial⟩, _, _, _, _, _, _, _, _, H, rfl, X, r3, ex4, (Dom.le D _), r9, ex10, (Dom.le D39 _), ex14, ex21, d, d22, d23, d24, d25⟩
        have H := H.2 hc42
        refine W_skip ?_
        refine W_seq ?_
        refine W_seq ?_
        refine W_region ?_
        refine LP_ev ok 0 [(23, .pointer (some ⟨b20, 0, none⟩)), (24, .pointer (some ⟨b20, 0, none⟩)), (25, .pointer (some ⟨b20, 0, none⟩))] 3 rfl rfl ?_
        refine LP_ldbox 3 (v := .slice a (List.length x.Conditions) c) rfl rfl rfl ti_99 ag_99 (fun _ => rfl) rfl ex21 rfl rfl ?_
        refine LP_ev ok 4 [(27, I (ln x.Conditions)), (28, I 0)] 6 rfl rfl ?_
        refine LP_end _ rfl ?_
        refine W_block ?_
        obtain ⟨J, m52, Hx, H⟩ := H
        refine W_loop (S := Int) (fun s ρ' w' => J s ∧ ∃ (ρ : Env), ρ' = setAll [(0, .pointer (some ⟨b20, 0, none⟩)), (26, .slice a (List.length x.Conditions) c), (27, I (ln x.Conditions)), (28, I s)] ρ ∧ But (un hx2 (un hx8 (un (bx b 3 [I c13]) (bx b20 103 [.slice a (List.length x.Conditions) c, .slice a5 (List.length x.Counts) c6, .slice a11 (List.length x.Sums) c12, .func (.func 64) #[] #[.pointer (some ⟨b, 0, none⟩), .pointer (some ⟨b15, 0, none⟩), .pointer (some ⟨b18, 0, none⟩)]])))) w w' ∧ Sub hx w' ∧ Sub hx2 w' ∧ Sub hx8 w' ∧ Sub (bx b 3 [I c13]) w' ∧ Sub (bx b15 74 [.func (.func 40) #[] #[]]) w' ∧ Sub (bx b18 3 [I c17]) w' ∧ Sub (bx b20 103 [.slice a (List.length x.Conditions) c, .slice a5 (List.length x.Counts) c6, .slice a11 (List.length x.Sums) c12, .func (.func 64) #[] #[.pointer (some ⟨b, 0, none⟩), .pointer (some ⟨b15, 0, none⟩), .pointer (some ⟨b18, 0, none⟩)]]) w') (fun s => m52 s) 0 ⟨Hx, _, env_eq ⟨rfl, rfl, rfl, rfl, trivial⟩, X, ex, ex4, ex10, ex14, ex16, ex19, ex21⟩ ?_
        rintro x43 _ wx ⟨Hi, ρ, rfl, X51, ex44, ex45, ex46, ex47, ex48, ex49, ex50⟩
        have H := H x43 Hi
        refine W_seq ?_
        refine W_region ?_
        refine LP_ev ok 0 [(29, .bool (decide (x43 < (ln x.Conditions))))] 1 rfl rfl ?_
        refine LP_end _ rfl ?_
        refine W_seq ?_
        refine W_cond (decide (x43 < (ln x.Conditions))) rfl (fun hc53 => ?_) (fun hc53 => ?_)
        · have H := H.1 hc53
          refine W_skip ?_
          refine W_seq ?_
          refine W_block ?_
          refine W_seq ?_
          refine W_region ?_
          refine LP_ev ok 0 [(30, I x43)] 1 rfl rfl ?_
          obtain ⟨x54, hi, hx55, H⟩ := H
          refine LP_index 1 rfl rfl rfl Try.underlying99 ti_124 rfl rfl r hi hx55 fun a56 cs r57 d58 => ?_
          have d59 := d58
          obtain ⟨u, rfl, r60⟩ := Condition_rd d59
          obtain ⟨a61, c62, rfl⟩ := r60.shape
          refine LP_load 2 rfl rfl rfl ti_124 ag_124 rfl r57 d58 ex44 fun vx63 r64 => ?_
          obtain ⟨u65, rfl, r66⟩ := Condition_rv r64
          obtain ⟨a67, c68, rfl⟩ := r66.shape
          refine LP_alloc 3 rfl rfl rfl ti_124 rfl fun b69 wx70 x71 ex72 f => ?_
          refine LP_ev ok 4 [(7, I x43)] 5 rfl rfl ?_
          refine LP_stbox 5 (vs := [.slice a67 (List.length x54.Amounts) c68, I x54.Value]) (cs' := [.slice a67 (List.length x54.Amounts) c68, I x54.Value]) rfl rfl rfl ti_124 rfl rfl rfl rfl rfl ex72 rfl rfl fun wx73 ex74 y => ?_
          refine LP_end _ rfl ?_
          refine W_seq ?_
          refine W_quiet mix (by kernel_rfl) ?_
          refine QP_ev ok 0 [(33, .pointer (some ⟨b20, 0, none⟩)), (34, .pointer (some ⟨b20, 0, none⟩)), (35, .pointer (some ⟨b20, 2, none⟩))] 3 rfl rfl ?_
          have ex75 := ((ex50.ext x71).but y (Dj.of_fresh ex50 f).symm)
          refine QP_ldbox 3 (v := .slice a11 (List.length x.Sums) c12) rfl rfl rfl ti_22 ag_22 (fun _ => rfl) rfl ex75 rfl rfl ?_
          refine QP_ev ok 4 [(37, I x43)] 5 rfl rfl ?_
          obtain ⟨x76, hi77, hx78, H⟩ := H
          refine QP_index 5 rfl rfl rfl Try.underlying22 ti_3 rfl rfl r9.readf hi77 hx78 fun a79 cs80 r81 d82 => ?_
          have ex83 := ((ex46.ext x71).but y (Dj.of_fresh ex46 f).symm)
          refine QP_load 6 rfl rfl rfl ti_3 ag_3 rfl r81 d82 ex83 fun vx84 r85 => ?_
          obtain rfl := r85.int
          refine QP_ev ok 7 [(40, .pointer (some ⟨b69, 1, none⟩))] 8 rfl rfl ?_
          refine QP_ldbox 8 (v := I x54.Value) rfl rfl rfl ti_3 ag_3 (fun _ => rfl) rfl ex74 rfl rfl ?_
          refine QP_ev ok 9 [(42, .bool (x76 != x54.Value))] 10 rfl rfl ?_
          refine QP_end _ rfl fun wx86 x87 => ?_
          refine W_cond (x76 != x54.Value) rfl (fun hc88 => ?_) (fun hc88 => ?_)
          · have H := H.1 hc88
            refine W_seq ?_
            refine W_region ?_
            refine LP_ev ok 0 [(6, .bool true)] 1 rfl rfl ?_
            refine LP_end _ rfl ?_
            refine W_ret ?_
            have ex89 := (((ex45.ext x71).but y (Dj.of_fresh ex45 f).symm).ext x87)
            have ex90 := (ex83.ext x87)
            have ex91 := (((ex47.ext x71).but y (Dj.of_fresh ex47 f).symm).ext x87)
            have ex92 := (ex75.ext x87)
            have f93 := f.mono X51.size
            have X94 := (((X51.stepx x71).step y (f93.dom _)).stepx x87)
            exact ⟨_, Ret_of [.bool true] ⟨⟨rfl, rfl⟩, trivial⟩, _, _, _, _, _, _, _, _, H, rfl, X94, r3, ex89, (Dom.le D _), r9, ex90, (Dom.le D39 _), ex91, ex92, d, d22, d23, d24, d25⟩
          have H := H.2 hc88
          refine W_skip ?_
          refine W_region ?_
          refine LP_ev ok 0 [(43, I (wr (x43 + 1))), (28, I (wr (x43 + 1)))] 2 rfl rfl ?_
          refine LP_end _ rfl ?_
          have f95 := f.mono X51.size
          have X96 := (((X51.stepx x71).step y (f95.dom _)).stepx x87)
          have ex97 := (((ex44.ext x71).but y (Dj.of_fresh ex44 f).symm).ext x87)
          have ex98 := (((ex45.ext x71).but y (Dj.of_fresh ex45 f).symm).ext x87)
          have ex99 := (ex83.ext x87)
          have ex100 := (((ex47.ext x71).but y (Dj.of_fresh ex47 f).symm).ext x87)
          have ex101 := (((ex48.ext x71).but y (Dj.of_fresh ex48 f).symm).ext x87)
          have ex102 := (((ex49.ext x71).but y (Dj.of_fresh ex49 f).symm).ext x87)
          have ex103 := (ex75.ext x87)
          exact ⟨wr (x43 + 1), ⟨H.1, _, env_eq ⟨rfl, rfl, rfl, rfl, trivial⟩, X96, ex97, ex98, ex99, ex100, ex101, ex102, ex103⟩, H.2⟩
        have H := H.2 hc53
        refine W_exit ?_
        refine (if_pos rfl).mpr ?_
        refine W_seq ?_
        refine W_open mix fun wx104 x105 => ?_
        refine AP_game 8 [[], [0], [0, 1], [0, 1, 2], [], [4], [4, 5], [4, 5, 6], [0, 1, 2, 3, 4, 5, 6, 7], [0, 1, 2, 3, 4, 5, 6, 7, 8]] [[(0, none)], [(44, some 0)], [(45, some 1)], [(46, some 2)], [(0, none)], [(48, some 4)], [(49, some 5)], [(50, some 6)]] [(47, some 3), (51, some 7)] [(0, false), (1, false), (2, false), (3, false), (4, false), (5, false), (6, false), (7, false)] (by kernel_rfl) (by kernel_rfl) ?_
        refine GS_ev ok [(0, .pointer (some ⟨b20, 0, none⟩))] (.pointer (some ⟨b20, 0, none⟩)) rfl rfl (fun _ h => h) (fun _ => rfl) ?_
        refine GS_ev ok [(44, .pointer (some ⟨b20, 0, none⟩))] (.pointer (some ⟨b20, 0, none⟩)) rfl rfl (fun _ h => h) (fun _ => rfl) ?_
        refine GS_ev ok [(45, .pointer (some ⟨b20, 0, none⟩))] (.pointer (some ⟨b20, 3, none⟩)) rfl rfl (fun _ h => h) (fun _ => rfl) ?_
        have ex106 := (ex50.ext x105)
        refine GS_r1 [(46, .pointer (some ⟨b20, 3, none⟩))] (.func (.func 64) #[] #[.pointer (some ⟨b, 0, none⟩), .pointer (some ⟨b15, 0, none⟩), .pointer (some ⟨b18, 0, none⟩)]) rfl rfl (fun _ h => h) (fun _ w e => ex_ldbox rfl ti_101 ag_101 (fun _ => rfl) rfl e rfl rfl) ex106 ?_
        refine GS_ev ok [(0, .pointer (some ⟨b20, 0, none⟩))] (.pointer (some ⟨b20, 0, none⟩)) rfl rfl (fun _ h => h) (fun _ => rfl) ?_
        refine GS_ev ok [(48, .pointer (some ⟨b20, 0, none⟩))] (.pointer (some ⟨b20, 0, none⟩)) rfl rfl (fun _ h => h) (fun _ => rfl) ?_
        refine GS_ev ok [(49, .pointer (some ⟨b20, 0, none⟩))] (.pointer (some ⟨b20, 1, none⟩)) rfl rfl (fun _ h => h) (fun _ => rfl) ?_
        refine GS_r1 [(50, .pointer (some ⟨b20, 1, none⟩))] (.slice a5 (List.length x.Counts) c6) rfl rfl (fun _ h => h) (fun _ w e => ex_ldbox rfl ti_22 ag_22 (fun _ => rfl) rfl e rfl rfl) ex106 ?_
        intro wx107 x108 ρ hn
        refine AP_forget [(47, .func (.func 64) #[] #[.pointer (some ⟨b, 0, none⟩), .pointer (some ⟨b15, 0, none⟩), .pointer (some ⟨b18, 0, none⟩)]), (51, .slice a5 (List.length x.Counts) c6)] (by exact hn) fun ρ => ?_
        refine AP_tail 8 [[], [0], [0, 1], [0, 1, 2], [], [4], [4, 5], [4, 5, 6], [0, 1, 2, 3, 4, 5, 6, 7], [0, 1, 2, 3, 4, 5, 6, 7, 8]] (by kernel_rfl) ?_
        have ex111 := ((ex45.ext x105).ext x108)
        have ex112 := ((ex47.ext x105).ext x108)
        have ex113 := ((ex48.ext x105).ext x108)
        have ex114 := ((ex49.ext x105).ext x108)
        refine LP_callc 8 rfl rfl rfl rfl cal_64 rfl rfl (impl_solutions_1_impl_CountSurveys_1_w _ _ _ _ H wx107 r3.readf ex111 ex112 ex113 ex114 d22.symm d34 d35) ?_
        rintro _ wx115 ⟨r109, r110, H, rfl, x116, ex117⟩
        refine LP_ev ok 9 [(6, .bool r109)] 10 rfl rfl ?_
        refine LP_end _ rfl ?_
        refine W_ret ?_
        have ex118 := (ex111.but x116 d22.symm)
        have ex119 := (((ex46.ext x105).ext x108).but x116 d24.symm)
        have ex120 := ((ex106.ext x108).but x116 d26)
        have X121 := (((X51.stepx x105).stepx x108).step x116 (Dom.le D40 _))
        exact ⟨_, Ret_of [.bool r109] ⟨⟨rfl, rfl⟩, trivial⟩, _, _, _, _, _, _, _, _, H, rfl, X121, r3, ex118, (Dom.le D _), r9, ex119, (Dom.le D39 _), ex117, ex120, d, (Dj.box d22.symm).symm, d23, (Dj.box d24.symm).symm, d25⟩
      have H := H.2 hc
      refine W_skip ?_
      obtain ⟨k154, hk, H⟩ := jn_elim H
      refine W_join2 (S := Int × (List Int) × (List Int)) (fun s ρ' w' => k154 s.1 s.2.1 s.2.2 ∧ ∃ (ρ : Env) (vx123 : Value) (hx124 : PH) (vx127 : Value) (hx128 : PH), ρ' = setAll [] ρ ∧ But (un hx2 (un hx8 (un (bx b 3 [I c13]) (bx b20 103 [.slice a (List.length x.Conditions) c, .slice a5 (List.length x.Counts) c6, .slice a11 (List.length x.Sums) c12, .func (.func 64) #[] #[.pointer (some ⟨b, 0, none⟩), .pointer (some ⟨b15, 0, none⟩), .pointer (some ⟨b18, 0, none⟩)]])))) w w' ∧ OS 3 hx124 emp vx123 s.2.1 ∧ Sub hx124 w' ∧ DomLe (un hx2 (un hx8 (un (bx b 3 [I c13]) (bx b20 103 [.slice a (List.length x.Conditions) c, .slice a5 (List.length x.Counts) c6, .slice a11 (List.length x.Sums) c12, .func (.func 64) #[] #[.pointer (some ⟨b, 0, none⟩), .pointer (some ⟨b15, 0, none⟩), .pointer (some ⟨b18, 0, none⟩)]])))) w.heap.size hx124 ∧ OS 3 hx128 emp vx127 s.2.2 ∧ Sub hx128 w' ∧ DomLe (un hx2 (un hx8 (un (bx b 3 [I c13]) (bx b20 103 [.slice a (List.length x.Conditions) c, .slice a5 (List.length x.Counts) c6, .slice a11 (List.length x.Sums) c12, .func (.func 64) #[] #[.pointer (some ⟨b, 0, none⟩), .pointer (some ⟨b15, 0, none⟩), .pointer (some ⟨b18, 0, none⟩)]])))) w.heap.size hx128 ∧ Sub hx w' ∧ Sub (bx b15 74 [.func (.func 40) #[] #[]]) w' ∧ Sub (bx b18 3 [I c17]) w' ∧ Sub (bx b 3 [I s.1]) w' ∧ Sub (bx b20 103 [.slice a (List.length x.Conditions) c, vx123, vx127, .func (.func 64) #[] #[.pointer (some ⟨b, 0, none⟩), .pointer (some ⟨b15, 0, none⟩), .pointer (some ⟨b18, 0, none⟩)]]) w' ∧ Dj hx124 hx ∧ Dj hx124 (bx b15 74 [.func (.func 40) #[] #[]]) ∧ Dj hx124 (bx b18 3 [I c17]) ∧ Dj hx124 (bx b 3 [I s.1]) ∧ Dj hx124 (bx b20 103 [.slice a (List.length x.Conditions) c, vx123, vx127, .func (.func 64) #[] #[.pointer (some ⟨b, 0, none⟩), .pointer (some ⟨b15, 0, none⟩), .pointer (some ⟨b18, 0, none⟩)]]) ∧ Dj hx128 hx ∧ Dj hx128 (bx b15 74 [.func (.func 40) #[] #[]]) ∧ Dj hx128 (bx b18 3 [I c17]) ∧ Dj hx128 (bx b 3 [I s.1]) ∧ Dj hx128 (bx b20 103 [.slice a (List.length x.Conditions) c, vx123, vx127, .func (.func 64) #[] #[.pointer (some ⟨b, 0, none⟩), .pointer (some ⟨b15, 0, none⟩), .pointer (some ⟨b18, 0, none⟩)]]) ∧ Dj hx128 hx124) ?_ ?_
      · refine W_seq ?_
        refine W_region ?_
        refine LP_ev ok 0 [(9, I 0)] 1 rfl rfl ?_
        refine LP_end _ rfl ?_
        refine W_block ?_
        obtain ⟨J190, m191, Hx192, H⟩ := H
        refine W_loop (S := Int × Int × (List Int) × (List Int)) (fun s ρ' w' => J190 s.1 s.2.1 s.2.2.1 s.2.2.2 ∧ ∃ (ρ : Env) (vx157 : Value) (hx158 : PH) (vx163 : Value) (hx164 : PH), ρ' = setAll [(0, .pointer (some ⟨b20, 0, none⟩)), (1, I k), (2, I left), (9, I s.1)] ρ ∧ But (un hx2 (un hx8 (un (bx b 3 [I c13]) (bx b20 103 [.slice a (List.length x.Conditions) c, .slice a5 (List.length x.Counts) c6, .slice a11 (List.length x.Sums) c12, .func (.func 64) #[] #[.pointer (some ⟨b, 0, none⟩), .pointer (some ⟨b15, 0, none⟩), .pointer (some ⟨b18, 0, none⟩)]])))) w w' ∧ OS 3 hx158 emp vx157 s.2.2.1 ∧ Sub hx158 w' ∧ DomLe (un hx2 (un hx8 (un (bx b 3 [I c13]) (bx b20 103 [.slice a (List.length x.Conditions) c, .slice a5 (List.length x.Counts) c6, .slice a11 (List.length x.Sums) c12, .func (.func 64) #[] #[.pointer (some ⟨b, 0, none⟩), .pointer (some ⟨b15, 0, none⟩), .pointer (some ⟨b18, 0, none⟩)]])))) w.heap.size hx158 ∧ OS 3 hx164 emp vx163 s.2.2.2 ∧ Sub hx164 w' ∧ DomLe (un hx2 (un hx8 (un (bx b 3 [I c13]) (bx b20 103 [.slice a (List.length x.Conditions) c, .slice a5 (List.length x.Counts) c6, .slice a11 (List.length x.Sums) c12, .func (.func 64) #[] #[.pointer (some ⟨b, 0, none⟩), .pointer (some ⟨b15, 0, none⟩), .pointer (some ⟨b18, 0, none⟩)]])))) w.heap.size hx164 ∧ Sub hx w' ∧ Sub (bx b15 74 [.func (.func 40) #[] #[]]) w' ∧ Sub (bx b18 3 [I c17]) w' ∧ Sub (bx b 3 [I s.2.1]) w' ∧ Sub (bx b20 103 [.slice a (List.length x.Conditions) c, vx157, vx163, .func (.func 64) #[] #[.pointer (some ⟨b, 0, none⟩), .pointer (some ⟨b15, 0, none⟩), .pointer (some ⟨b18, 0, none⟩)]]) w' ∧ Dj hx158 hx ∧ Dj hx158 (bx b15 74 [.func (.func 40) #[] #[]]) ∧ Dj hx158 (bx b18 3 [I c17]) ∧ Dj hx158 (bx b 3 [I s.2.1]) ∧ Dj hx158 (bx b20 103 [.slice a (List.length x.Conditions) c, vx157, vx163, .func (.func 64) #[] #[.pointer (some ⟨b, 0, none⟩), .pointer (some ⟨b15, 0, none⟩), .pointer (some ⟨b18, 0, none⟩)]]) ∧ Dj hx164 hx ∧ Dj hx164 (bx b15 74 [.func (.func 40) #[] #[]]) ∧ Dj hx164 (bx b18 3 [I c17]) ∧ Dj hx164 (bx b 3 [I s.2.1]) ∧ Dj hx164 (bx b20 103 [.slice a (List.length x.Conditions) c, vx157, vx163, .func (.func 64) #[] #[.pointer (some ⟨b, 0, none⟩), .pointer (some ⟨b15, 0, none⟩), .pointer (some ⟨b18, 0, none⟩)]]) ∧ Dj hx164 hx158) (fun s => m191 s.1 s.2.1 s.2.2.1 s.2.2.2) (0, c13, x.Counts, x.Sums) ⟨Hx192, _, .slice a5 (List.length x.Counts) c6, hx2, .slice a11 (List.length x.Sums) c12, hx8, env_eq ⟨rfl, rfl, rfl, rfl, trivial⟩, X, r3, ex4, (Dom.le D _), r9, ex10, (Dom.le D39 _), ex, ex16, ex19, ex14, ex21, d27, d28, d29, d22, d23, d30, d31, d32, d24, d25, d.symm⟩ ?_
        rintro ⟨n, x155, counts156, sums162⟩ _ wx168 ⟨Hi, ρ, vx157, hx158, vx163, hx164, rfl, X189, o159, ex160, f161, o165, ex166, f167, ex169, ex170, ex171, ex176, ex177, d178, d179, d180, d181, d182, d183, d184, d185, d186, d187, d188⟩
        have H := H n x155 counts156 sums162 Hi
        obtain ⟨a172, c173, rfl⟩ := o159.shape
        obtain ⟨a174, c175, rfl⟩ := o165.shape
        refine W_seq ?_
        refine W_seq ?_
        refine W_region ?_
        refine LP_ev ok 0 [(53, I n), (54, I left), (55, .bool (decide (n ≤ left)))] 3 rfl rfl ?_
        refine LP_end _ rfl ?_
        refine W_cond (decide (n ≤ left)) rfl (fun hc194 => ?_) (fun hc194 => ?_)
        · have H := H.1 hc194
          refine W_skip ?_
          refine W_seq ?_
          refine W_block ?_
          refine W_seq ?_
          refine W_region ?_
          refine LP_ev ok 0 [(10, .bool true)] 1 rfl rfl ?_
          refine LP_end _ rfl ?_
          refine W_seq ?_
          refine W_seq ?_
          refine W_region ?_
          refine LP_ev ok 0 [(58, .pointer (some ⟨b20, 0, none⟩)), (59, .pointer (some ⟨b20, 0, none⟩)), (60, .pointer (some ⟨b20, 0, none⟩))] 3 rfl rfl ?_
          refine LP_ldbox 3 (v := .slice a (List.length x.Conditions) c) rfl rfl rfl ti_99 ag_99 (fun _ => rfl) rfl ex177 rfl rfl ?_
          refine LP_ev ok 4 [(62, I (ln x.Conditions)), (63, I 0)] 6 rfl rfl ?_
          refine LP_end _ rfl ?_
          refine W_block ?_
          obtain ⟨J205, m206, Hx207, H⟩ := H
          refine W_loop (S := Bool × Int) (fun s ρ' w' => J205 s.1 s.2 ∧ ∃ (ρ : Env), ρ' = setAll [(0, .pointer (some ⟨b20, 0, none⟩)), (1, I k), (2, I left), (9, I n), (10, .bool s.1), (61, .slice a (List.length x.Conditions) c), (62, I (ln x.Conditions)), (63, I s.2)] ρ ∧ But (un hx2 (un hx8 (un (bx b 3 [I c13]) (bx b20 103 [.slice a (List.length x.Conditions) c, .slice a5 (List.length x.Counts) c6, .slice a11 (List.length x.Sums) c12, .func (.func 64) #[] #[.pointer (some ⟨b, 0, none⟩), .pointer (some ⟨b15, 0, none⟩), .pointer (some ⟨b18, 0, none⟩)]])))) w w' ∧ Sub hx w' ∧ Sub (bx b 3 [I x155]) w' ∧ Sub (bx b15 74 [.func (.func 40) #[] #[]]) w' ∧ Sub (bx b18 3 [I c17]) w' ∧ Sub (bx b20 103 [.slice a (List.length x.Conditions) c, .slice a172 (List.length counts156) c173, .slice a174 (List.length sums162) c175, .func (.func 64) #[] #[.pointer (some ⟨b, 0, none⟩), .pointer (some ⟨b15, 0, none⟩), .pointer (some ⟨b18, 0, none⟩)]]) w' ∧ Sub hx158 w' ∧ Sub hx164 w') (fun s => m206 s.1 s.2) (true, 0) ⟨Hx207, _, env_eq ⟨rfl, rfl, rfl, rfl, rfl, rfl, rfl, rfl, trivial⟩, X189, ex169, ex176, ex170, ex171, ex177, ex160, ex166⟩ ?_
          rintro ⟨fits, x195⟩ _ wx196 ⟨Hi, ρ, rfl, X204, ex197, ex198, ex199, ex200, ex201, ex202, ex203⟩
          have H := H fits x195 Hi
          refine W_seq ?_
          refine W_region ?_
          refine LP_ev ok 0 [(64, .bool (decide (x195 < (ln x.Conditions))))] 1 rfl rfl ?_
          refine LP_end _ rfl ?_
          refine W_seq ?_
          refine W_cond (decide (x195 < (ln x.Conditions))) rfl (fun hc209 => ?_) (fun hc209 => ?_)
          · have H := H.1 hc209
            refine W_skip ?_
            obtain ⟨k220, hk221, H⟩ := jn_elim H
            refine W_join2 (S := Bool) (fun s ρ' w' => k220 s ∧ ∃ (ρ : Env), ρ' = setAll [(0, .pointer (some ⟨b20, 0, none⟩)), (1, I k), (2, I left), (9, I n), (10, .bool s), (61, .slice a (List.length x.Conditions) c), (62, I (ln x.Conditions)), (63, I x195)] ρ ∧ But (un hx2 (un hx8 (un (bx b 3 [I c13]) (bx b20 103 [.slice a (List.length x.Conditions) c, .slice a5 (List.length x.Counts) c6, .slice a11 (List.length x.Sums) c12, .func (.func 64) #[] #[.pointer (some ⟨b, 0, none⟩), .pointer (some ⟨b15, 0, none⟩), .pointer (some ⟨b18, 0, none⟩)]])))) w w' ∧ Sub hx w' ∧ Sub (bx b 3 [I x155]) w' ∧ Sub (bx b15 74 [.func (.func 40) #[] #[]]) w' ∧ Sub (bx b18 3 [I c17]) w' ∧ Sub (bx b20 103 [.slice a (List.length x.Conditions) c, .slice a172 (List.length counts156) c173, .slice a174 (List.length sums162) c175, .func (.func 64) #[] #[.pointer (some ⟨b, 0, none⟩), .pointer (some ⟨b15, 0, none⟩), .pointer (some ⟨b18, 0, none⟩)]]) w' ∧ Sub hx158 w' ∧ Sub hx164 w') ?_ ?_
            · refine W_block ?_
              refine W_seq ?_
              refine W_region ?_
              refine LP_ev ok 0 [(65, I x195)] 1 rfl rfl ?_
              obtain ⟨x222, hi223, hx224, H⟩ := H
              refine LP_index 1 rfl rfl rfl Try.underlying99 ti_124 rfl rfl r hi223 hx224 fun a225 cs226 r227 d228 => ?_
              have d229 := d228
              obtain ⟨u230, rfl, r231⟩ := Condition_rd d229
              obtain ⟨a232, c233, rfl⟩ := r231.shape
              refine LP_load 2 rfl rfl rfl ti_124 ag_124 rfl r227 d228 ex197 fun vx234 r235 => ?_
              obtain ⟨u236, rfl, r237⟩ := Condition_rv r235
              obtain ⟨a238, c239, rfl⟩ := r237.shape
              refine LP_alloc 3 rfl rfl rfl ti_124 rfl fun b240 wx241 x242 ex243 f244 => ?_
              refine LP_ev ok 4 [(11, I x195)] 5 rfl rfl ?_
              refine LP_stbox 5 (vs := [.slice a238 (List.length x222.Amounts) c239, I x222.Value]) (cs' := [.slice a238 (List.length x222.Amounts) c239, I x222.Value]) rfl rfl rfl ti_124 rfl rfl rfl rfl rfl ex243 rfl rfl fun wx245 ex246 y247 => ?_
              refine LP_end _ rfl ?_
              refine W_quiet mix (by kernel_rfl) ?_
              refine QP_ev ok 0 [(68, .bool fits), (69, .bool fits)] 2 rfl rfl ?_
              refine QP_split 69 (fits) rfl (fun hc248 => ?_) (fun hc248 => ?_)
              · have H := H.1 hc248
                refine QP_ev ok 2 [(70, .pointer (some ⟨b20, 0, none⟩)), (71, .pointer (some ⟨b20, 0, none⟩)), (72, .pointer (some ⟨b20, 2, none⟩))] 5 rfl rfl ?_
                have ex249 := ((ex201.ext x242).but y247 (Dj.of_fresh ex201 f244).symm)
                refine QP_ldbox 5 (v := .slice a174 (List.length sums162) c175) rfl rfl rfl ti_22 ag_22 (fun _ => rfl) rfl ex249 rfl rfl ?_
                refine QP_ev ok 6 [(74, I x195)] 7 rfl rfl ?_
                obtain ⟨x250, hi251, hx252, H⟩ := H
                refine QP_index 7 rfl rfl rfl Try.underlying22 ti_3 rfl rfl o165.readf hi251 hx252 fun a253 cs254 r255 d256 => ?_
                have ex257 := ((ex203.ext x242).but y247 (Dj.of_fresh ex203 f244).symm)
                refine QP_load 8 rfl rfl rfl ti_3 ag_3 rfl r255 d256 ex257 fun vx258 r259 => ?_
                obtain rfl := r259.int
                refine QP_ev ok 9 [(77, I n), (78, .pointer (some ⟨b240, 0, none⟩))] 11 rfl rfl ?_
                refine QP_ldbox 11 (v := .slice a238 (List.length x222.Amounts) c239) rfl rfl rfl ti_22 ag_22 (fun _ => rfl) rfl ex246 rfl rfl ?_
                refine QP_ev ok 12 [(80, I k)] 13 rfl rfl ?_
                obtain ⟨x260, hi261, hx262, H⟩ := H
                refine QP_index 13 rfl rfl rfl Try.underlying22 ti_3 rfl rfl r237 hi261 hx262 fun a263 cs264 r265 d266 => ?_
                have ex267 := ((ex197.ext x242).but y247 (Dj.of_fresh ex197 f244).symm)
                refine QP_load 14 rfl rfl rfl ti_3 ag_3 rfl r265 d266 ex267 fun vx268 r269 => ?_
                obtain rfl := r269.int
                refine QP_ev ok 15 [(83, I (wr (n * x260))), (84, I (wr (x250 + (wr (n * x260))))), (85, .pointer (some ⟨b240, 1, none⟩))] 18 rfl rfl ?_
                refine QP_ldbox 18 (v := I x222.Value) rfl rfl rfl ti_3 ag_3 (fun _ => rfl) rfl ex246 rfl rfl ?_
                refine QP_ev ok 19 [(87, .bool (decide ((wr (x250 + (wr (n * x260)))) ≤ x222.Value))), (88, .bool (decide ((wr (x250 + (wr (n * x260)))) ≤ x222.Value))), (10, .bool (decide ((wr (x250 + (wr (n * x260)))) ≤ x222.Value)))] 22 rfl rfl ?_
                refine QP_end _ rfl fun wx270 x271 => ?_
                try refine W_forget [(0, .pointer (some ⟨b20, 0, none⟩)), (1, I k), (2, I left), (9, I n), (10, .bool (decide ((wr (x250 + (wr (n * x260)))) ≤ x222.Value))), (61, .slice a (List.length x.Conditions) c), (62, I (ln x.Conditions)), (63, I x195), (70, .pointer (some ⟨b20, 0, none⟩)), (71, .pointer (some ⟨b20, 0, none⟩)), (72, .pointer (some ⟨b20, 2, none⟩)), (73, .slice a174 (List.length sums162) c175), (74, I x195), (75, .pointer (some a253)), (76, I x250), (77, I n), (78, .pointer (some ⟨b240, 0, none⟩)), (79, .slice a238 (List.length x222.Amounts) c239), (80, I k), (81, .pointer (some a263)), (82, I x260), (83, I (wr (n * x260))), (84, I (wr (x250 + (wr (n * x260))))), (85, .pointer (some ⟨b240, 1, none⟩)), (86, I x222.Value), (87, .bool (decide ((wr (x250 + (wr (n * x260)))) ≤ x222.Value)))] ⟨rfl, rfl, rfl, rfl, rfl, rfl, rfl, rfl, rfl, rfl, rfl, rfl, rfl, rfl, rfl, rfl, rfl, rfl, rfl, rfl, rfl, rfl, rfl, rfl, rfl, rfl, trivial⟩ fun ρ => ?_
                have f272 := f244.mono X204.size
                have X273 := (((X204.stepx x242).step y247 (f272.dom _)).stepx x271)
                have ex274 := (ex267.ext x271)
                have ex275 := (((ex198.ext x242).but y247 (Dj.of_fresh ex198 f244).symm).ext x271)
                have ex276 := (((ex199.ext x242).but y247 (Dj.of_fresh ex199 f244).symm).ext x271)
                have ex277 := (((ex200.ext x242).but y247 (Dj.of_fresh ex200 f244).symm).ext x271)
                have ex278 := (ex249.ext x271)
                have ex279 := (((ex202.ext x242).but y247 (Dj.of_fresh ex202 f244).symm).ext x271)
                have ex280 := (ex257.ext x271)
                exact ⟨decide ((wr (x250 + (wr (n * x260)))) ≤ x222.Value), H, _, env_eq ⟨rfl, rfl, rfl, rfl, rfl, rfl, rfl, rfl, trivial⟩, X273, ex274, ex275, ex276, ex277, ex278, ex279, ex280⟩
              have H := H.2 hc248
              refine QP_ev ok 2 [(70, undef), (71, undef), (72, undef), (73, undef), (74, undef), (75, undef), (76, undef), (77, undef), (78, undef), (79, undef), (80, undef), (81, undef), (82, undef), (83, undef), (84, undef), (85, undef), (86, undef), (87, undef), (88, .bool false), (10, .bool false)] 22 rfl rfl ?_
              refine QP_end _ rfl fun wx281 x282 => ?_
              try refine W_forget [(0, .pointer (some ⟨b20, 0, none⟩)), (1, I k), (2, I left), (9, I n), (10, .bool false), (61, .slice a (List.length x.Conditions) c), (62, I (ln x.Conditions)), (63, I x195)] ⟨rfl, rfl, rfl, rfl, rfl, rfl, rfl, rfl, trivial⟩ fun ρ => ?_
              have f283 := f244.mono X204.size
              have X284 := (((X204.stepx x242).step y247 (f283.dom _)).stepx x282)
              have ex285 := (((ex197.ext x242).but y247 (Dj.of_fresh ex197 f244).symm).ext x282)
              have ex286 := (((ex198.ext x242).but y247 (Dj.of_fresh ex198 f244).symm).ext x282)
              have ex287 := (((ex199.ext x242).but y247 (Dj.of_fresh ex199 f244).symm).ext x282)
              have ex288 := (((ex200.ext x242).but y247 (Dj.of_fresh ex200 f244).symm).ext x282)
              have ex289 := (((ex201.ext x242).but y247 (Dj.of_fresh ex201 f244).symm).ext x282)
              have ex290 := (((ex202.ext x242).but y247 (Dj.of_fresh ex202 f244).symm).ext x282)
              have ex291 := (((ex203.ext x242).but y247 (Dj.of_fresh ex203 f244).symm).ext x282)
              exact ⟨false, H, _, env_eq ⟨rfl, rfl, rfl, rfl, rfl, rfl, rfl, rfl, trivial⟩, X284, ex285, ex286, ex287, ex288, ex289, ex290, ex291⟩
            rintro fits210 _ wx211 ⟨H, ρ, rfl, X219, ex212, ex213, ex214, ex215, ex216, ex217, ex218⟩
            subst hk221
            refine W_region ?_
            refine LP_ev ok 0 [(89, I (wr (x195 + 1))), (63, I (wr (x195 + 1)))] 2 rfl rfl ?_
            refine LP_end _ rfl ?_
            exact ⟨(fits210, wr (x195 + 1)), ⟨H.1, _, env_eq ⟨rfl, rfl, rfl, rfl, rfl, rfl, rfl, rfl, trivial⟩, X219, ex212, ex213, ex214, ex215, ex216, ex217, ex218⟩, H.2⟩
          have H := H.2 hc209
          refine W_exit ?_
          refine (if_pos rfl).mpr ?_
          refine W_seq ?_
          refine W_seq ?_
          refine W_region ?_
          refine LP_ev ok 0 [(90, .bool fits), (91, .bool (!fits))] 2 rfl rfl ?_
          refine LP_end _ rfl ?_
          refine W_cond (!fits) rfl (fun hc292 => ?_) (fun hc292 => ?_)
          · have H := H.1 hc292
            refine W_exit ?_
            refine (if_neg (by decide)).mpr ?_
            refine (if_pos rfl).mpr ?_
            exact ⟨(x155, counts156, sums162), H, _, .slice a172 (List.length counts156) c173, hx158, .slice a174 (List.length sums162) c175, hx164, env_eq trivial, X204, o159, ex202, f161, o165, ex203, f167, ex197, ex199, ex200, ex198, ex201, d178, d179, d180, d181, d182, d183, d184, d185, d186, d187, d188⟩
          have H := H.2 hc292
          refine W_skip ?_
          refine W_seq ?_
          refine W_region ?_
          refine LP_ev ok 0 [(92, .pointer (some ⟨b20, 0, none⟩)), (93, I k), (94, I n)] 3 rfl rfl ?_
          refine LP_call 3 rfl rfl rfl cal_96 rfl (impl_search_add_impl_solutions_1_impl_CountSurveys_1_w _ _ _ _ _ _ H wx196 r ex197 o159 ex202 o165 ex203 ex198 ex199 ex200 ex201 d188.symm d182 d187 d178 d181 d179 d180 d183 d186 d184 d185 (Dj.box d36) (Dj.box (Dj.box d26.symm).symm).symm (Dj.box d37) (Dj.box d38)) ?_
          rintro _ wx295 ⟨r293, r294, vx300, hx297, vx305, hx301, H, rfl, x296, o298, ex299, dm, o302, ex303, dm304, ex306, d307, d308, d309⟩
          obtain ⟨a310, c311, rfl⟩ := o298.shape
          obtain ⟨a312, c313, rfl⟩ := o302.shape
          refine LP_end _ rfl ?_
          refine W_seq ?_
          refine W_region ?_
          refine LP_ev ok 0 [(96, .pointer (some ⟨b20, 0, none⟩)), (97, I k), (98, I (wr (k + 1))), (99, I left), (100, I n), (101, I (wr (left - n)))] 6 rfl rfl ?_
          have ex318 := (ex197.but x296 (Dj.un_l d178 (Dj.un_l d183 (Dj.box d36))))
          have ex319 := (ex198.but x296 (Dj.un_l d181 (Dj.un_l d186 (Dj.box (Dj.box d26.symm).symm).symm)))
          have ex320 := (ex199.but x296 (Dj.un_l d179 (Dj.un_l d184 (Dj.box d37))))
          have ex321 := (ex200.but x296 (Dj.un_l d180 (Dj.un_l d185 (Dj.box d38))))
          refine LP_call 6 rfl rfl rfl cal_65 rfl (ih _ _ _ _ _ _ H.1 (Nat.lt_of_lt_of_le H.2 (Nat.le_of_lt_succ hm)) wx295 r ex318 o298 ex299 o302 ex303 ex319 ex320 ex321 ex306 d307 (DomLe.dj dm (Dj.un_l d181 (Dj.un_l d186 (Dj.box (Dj.box d26.symm).symm).symm)) ex198) d308 (DomLe.dj dm304 (Dj.un_l d181 (Dj.un_l d186 (Dj.box (Dj.box d26.symm).symm).symm)) ex198) d309 (Dj.box (Dj.box d26).symm).symm (DomLe.dj dm (Dj.un_l d178 (Dj.un_l d183 (Dj.box d36))) ex197) (DomLe.dj dm (Dj.un_l d179 (Dj.un_l d184 (Dj.box d37))) ex199) (DomLe.dj dm (Dj.un_l d180 (Dj.un_l d185 (Dj.box d38))) ex200) (DomLe.dj dm304 (Dj.un_l d178 (Dj.un_l d183 (Dj.box d36))) ex197) (DomLe.dj dm304 (Dj.un_l d179 (Dj.un_l d184 (Dj.box d37))) ex199) (DomLe.dj dm304 (Dj.un_l d180 (Dj.un_l d185 (Dj.box d38))) ex200) (Dj.box d33) (Dj.box d34) (Dj.box d35) (Dj.box d36) (Dj.box d37) (Dj.box d38)) ?_
          rintro _ wx322 ⟨r314, r315, r316, r317, vx328, hx324, vx333, hx329, H, rfl, x323, o325, ex326, dm327, o330, ex331, dm332, ex334, ex335, d336, d337, d338, d339, d340⟩
          obtain ⟨a341, c342, rfl⟩ := o325.shape
          obtain ⟨a343, c344, rfl⟩ := o330.shape
          refine LP_ev ok 7 [(13, .bool r314)] 8 rfl rfl ?_
          refine LP_end _ rfl ?_
          refine W_seq ?_
          refine W_region ?_
          refine LP_ev ok 0 [(103, .pointer (some ⟨b20, 0, none⟩)), (104, I k), (105, I n), (106, I (wr (0 - n)))] 4 rfl rfl ?_
          have ex347 := (ex318.but x323 (Dj.un_l (DomLe.dj dm (Dj.un_l d178 (Dj.un_l d183 (Dj.box d36))) ex197) (Dj.un_l (DomLe.dj dm304 (Dj.un_l d178 (Dj.un_l d183 (Dj.box d36))) ex197) (Dj.un_l (Dj.box d33) (Dj.box d36)))))
          have ex348 := (ex320.but x323 (Dj.un_l (DomLe.dj dm (Dj.un_l d179 (Dj.un_l d184 (Dj.box d37))) ex199) (Dj.un_l (DomLe.dj dm304 (Dj.un_l d179 (Dj.un_l d184 (Dj.box d37))) ex199) (Dj.un_l (Dj.box d34) (Dj.box d37)))))
          have ex349 := (ex321.but x323 (Dj.un_l (DomLe.dj dm (Dj.un_l d180 (Dj.un_l d185 (Dj.box d38))) ex200) (Dj.un_l (DomLe.dj dm304 (Dj.un_l d180 (Dj.un_l d185 (Dj.box d38))) ex200) (Dj.un_l (Dj.box d35) (Dj.box d38)))))
          refine LP_call 4 rfl rfl rfl cal_96 rfl (impl_search_add_impl_solutions_1_impl_CountSurveys_1_w _ _ _ _ _ _ H wx322 r ex347 o325 ex326 o330 ex331 ex334 ex348 ex349 ex335 d336 d338 d340 (DomLe.dj dm327 (Dj.un_l (DomLe.dj dm (Dj.un_l d178 (Dj.un_l d183 (Dj.box d36))) ex197) (Dj.un_l (DomLe.dj dm304 (Dj.un_l d178 (Dj.un_l d183 (Dj.box d36))) ex197) (Dj.un_l (Dj.box d33) (Dj.box d36)))) ex318) d337 (DomLe.dj dm327 (Dj.un_l (DomLe.dj dm (Dj.un_l d179 (Dj.un_l d184 (Dj.box d37))) ex199) (Dj.un_l (DomLe.dj dm304 (Dj.un_l d179 (Dj.un_l d184 (Dj.box d37))) ex199) (Dj.un_l (Dj.box d34) (Dj.box d37)))) ex320) (DomLe.dj dm327 (Dj.un_l (DomLe.dj dm (Dj.un_l d180 (Dj.un_l d185 (Dj.box d38))) ex200) (Dj.un_l (DomLe.dj dm304 (Dj.un_l d180 (Dj.un_l d185 (Dj.box d38))) ex200) (Dj.un_l (Dj.box d35) (Dj.box d38)))) ex321) (DomLe.dj dm332 (Dj.un_l (DomLe.dj dm (Dj.un_l d178 (Dj.un_l d183 (Dj.box d36))) ex197) (Dj.un_l (DomLe.dj dm304 (Dj.un_l d178 (Dj.un_l d183 (Dj.box d36))) ex197) (Dj.un_l (Dj.box d33) (Dj.box d36)))) ex318) d339 (DomLe.dj dm332 (Dj.un_l (DomLe.dj dm (Dj.un_l d179 (Dj.un_l d184 (Dj.box d37))) ex199) (Dj.un_l (DomLe.dj dm304 (Dj.un_l d179 (Dj.un_l d184 (Dj.box d37))) ex199) (Dj.un_l (Dj.box d34) (Dj.box d37)))) ex320) (DomLe.dj dm332 (Dj.un_l (DomLe.dj dm (Dj.un_l d180 (Dj.un_l d185 (Dj.box d38))) ex200) (Dj.un_l (DomLe.dj dm304 (Dj.un_l d180 (Dj.un_l d185 (Dj.box d38))) ex200) (Dj.un_l (Dj.box d35) (Dj.box d38)))) ex321) (Dj.box d36) (Dj.box (Dj.box d26.symm).symm).symm (Dj.box d37) (Dj.box d38)) ?_
          rintro _ wx350 ⟨r345, r346, vx356, hx352, vx361, hx357, H, rfl, x351, o353, ex354, dm355, o358, ex359, dm360, ex362, d363, d364, d365⟩
          obtain ⟨a366, c367, rfl⟩ := o353.shape
          obtain ⟨a368, c369, rfl⟩ := o358.shape
          refine LP_end _ rfl ?_
          refine W_seq ?_
          refine W_region ?_
          refine LP_ev ok 0 [(108, .bool r314), (109, .bool (!r314))] 2 rfl rfl ?_
          refine LP_end _ rfl ?_
          refine W_cond (!r314) rfl (fun hc370 => ?_) (fun hc370 => ?_)
          · have H := H.1 hc370
            refine W_seq ?_
            refine W_region ?_
            refine LP_ev ok 0 [(6, .bool false)] 1 rfl rfl ?_
            refine LP_end _ rfl ?_
            refine W_ret ?_
            have X371 := (X204.step x296 (DomLe.un f161 (DomLe.un f167 (DomLe.dom D41 single_dom))))
            have X372 := (X371.step x323 (DomLe.un (DomLe.trans (DomLe.un f161 (DomLe.un f167 (DomLe.dom D41 single_dom))) dm X204.size) (DomLe.un (DomLe.trans (DomLe.un f161 (DomLe.un f167 (DomLe.dom D41 single_dom))) dm304 X204.size) (DomLe.un (DomLe.dom D40 single_dom) (DomLe.dom D41 single_dom)))))
            have ex373 := (ex334.but x351 (Dj.un_l d337 (Dj.un_l d339 (Dj.box (Dj.box d26.symm).symm).symm)))
            have X374 := (X372.step x351 (DomLe.un (DomLe.trans (DomLe.un (DomLe.trans (DomLe.un f161 (DomLe.un f167 (DomLe.dom D41 single_dom))) dm X204.size) (DomLe.un (DomLe.trans (DomLe.un f161 (DomLe.un f167 (DomLe.dom D41 single_dom))) dm304 X204.size) (DomLe.un (DomLe.dom D40 single_dom) (DomLe.dom D41 single_dom)))) dm327 X371.size) (DomLe.un (DomLe.trans (DomLe.un (DomLe.trans (DomLe.un f161 (DomLe.un f167 (DomLe.dom D41 single_dom))) dm X204.size) (DomLe.un (DomLe.trans (DomLe.un f161 (DomLe.un f167 (DomLe.dom D41 single_dom))) dm304 X204.size) (DomLe.un (DomLe.dom D40 single_dom) (DomLe.dom D41 single_dom)))) dm332 X371.size) (DomLe.dom D41 single_dom))))
            exact ⟨_, Ret_of [.bool false] ⟨⟨rfl, rfl⟩, trivial⟩, _, _, _, _, _, _, _, _, H, rfl, X374, o353, ex354, (DomLe.trans (DomLe.un (DomLe.trans (DomLe.un (DomLe.trans (DomLe.un f161 (DomLe.un f167 (DomLe.dom D41 single_dom))) dm X204.size) (DomLe.un (DomLe.trans (DomLe.un f161 (DomLe.un f167 (DomLe.dom D41 single_dom))) dm304 X204.size) (DomLe.un (DomLe.dom D40 single_dom) (DomLe.dom D41 single_dom)))) dm327 X371.size) (DomLe.un (DomLe.trans (DomLe.un (DomLe.trans (DomLe.un f161 (DomLe.un f167 (DomLe.dom D41 single_dom))) dm X204.size) (DomLe.un (DomLe.trans (DomLe.un f161 (DomLe.un f167 (DomLe.dom D41 single_dom))) dm304 X204.size) (DomLe.un (DomLe.dom D40 single_dom) (DomLe.dom D41 single_dom)))) dm332 X371.size) (DomLe.dom D41 single_dom))) dm355 X372.size), o358, ex359, (DomLe.trans (DomLe.un (DomLe.trans (DomLe.un (DomLe.trans (DomLe.un f161 (DomLe.un f167 (DomLe.dom D41 single_dom))) dm X204.size) (DomLe.un (DomLe.trans (DomLe.un f161 (DomLe.un f167 (DomLe.dom D41 single_dom))) dm304 X204.size) (DomLe.un (DomLe.dom D40 single_dom) (DomLe.dom D41 single_dom)))) dm327 X371.size) (DomLe.un (DomLe.trans (DomLe.un (DomLe.trans (DomLe.un f161 (DomLe.un f167 (DomLe.dom D41 single_dom))) dm X204.size) (DomLe.un (DomLe.trans (DomLe.un f161 (DomLe.un f167 (DomLe.dom D41 single_dom))) dm304 X204.size) (DomLe.un (DomLe.dom D40 single_dom) (DomLe.dom D41 single_dom)))) dm332 X371.size) (DomLe.dom D41 single_dom))) dm360 X372.size), ex373, ex362, d363, (DomLe.dj dm355 (Dj.un_l d337 (Dj.un_l d339 (Dj.box (Dj.box d26.symm).symm).symm)) ex334), d364, (DomLe.dj dm360 (Dj.un_l d337 (Dj.un_l d339 (Dj.box (Dj.box d26.symm).symm).symm)) ex334), d365⟩
          have H := H.2 hc370
          refine W_skip ?_
          refine W_region ?_
          refine LP_ev ok 0 [(56, I n), (57, I (wr (n + 1))), (9, I (wr (n + 1)))] 3 rfl rfl ?_
          refine LP_end _ rfl ?_
          try refine W_forget [(0, .pointer (some ⟨b20, 0, none⟩)), (1, I k), (2, I left), (9, I (wr (n + 1)))] ⟨rfl, rfl, rfl, rfl, trivial⟩ fun ρ => ?_
          have X375 := (X204.step x296 (DomLe.un f161 (DomLe.un f167 (DomLe.dom D41 single_dom))))
          have X376 := (((X204.step x296 (DomLe.un f161 (DomLe.un f167 (DomLe.dom D41 single_dom)))).step x323 (DomLe.un (DomLe.trans (DomLe.un f161 (DomLe.un f167 (DomLe.dom D41 single_dom))) dm X204.size) (DomLe.un (DomLe.trans (DomLe.un f161 (DomLe.un f167 (DomLe.dom D41 single_dom))) dm304 X204.size) (DomLe.un (DomLe.dom D40 single_dom) (DomLe.dom D41 single_dom))))).step x351 (DomLe.un (DomLe.trans (DomLe.un (DomLe.trans (DomLe.un f161 (DomLe.un f167 (DomLe.dom D41 single_dom))) dm X204.size) (DomLe.un (DomLe.trans (DomLe.un f161 (DomLe.un f167 (DomLe.dom D41 single_dom))) dm304 X204.size) (DomLe.un (DomLe.dom D40 single_dom) (DomLe.dom D41 single_dom)))) dm327 X375.size) (DomLe.un (DomLe.trans (DomLe.un (DomLe.trans (DomLe.un f161 (DomLe.un f167 (DomLe.dom D41 single_dom))) dm X204.size) (DomLe.un (DomLe.trans (DomLe.un f161 (DomLe.un f167 (DomLe.dom D41 single_dom))) dm304 X204.size) (DomLe.un (DomLe.dom D40 single_dom) (DomLe.dom D41 single_dom)))) dm332 X375.size) (DomLe.dom D41 single_dom))))
          have X377 := (X375.step x323 (DomLe.un (DomLe.trans (DomLe.un f161 (DomLe.un f167 (DomLe.dom D41 single_dom))) dm X204.size) (DomLe.un (DomLe.trans (DomLe.un f161 (DomLe.un f167 (DomLe.dom D41 single_dom))) dm304 X204.size) (DomLe.un (DomLe.dom D40 single_dom) (DomLe.dom D41 single_dom)))))
          have ex378 := (ex347.but x351 (Dj.un_l (DomLe.dj dm327 (Dj.un_l (DomLe.dj dm (Dj.un_l d178 (Dj.un_l d183 (Dj.box d36))) ex197) (Dj.un_l (DomLe.dj dm304 (Dj.un_l d178 (Dj.un_l d183 (Dj.box d36))) ex197) (Dj.un_l (Dj.box d33) (Dj.box d36)))) ex318) (Dj.un_l (DomLe.dj dm332 (Dj.un_l (DomLe.dj dm (Dj.un_l d178 (Dj.un_l d183 (Dj.box d36))) ex197) (Dj.un_l (DomLe.dj dm304 (Dj.un_l d178 (Dj.un_l d183 (Dj.box d36))) ex197) (Dj.un_l (Dj.box d33) (Dj.box d36)))) ex318) (Dj.box d36))))
          have ex379 := (ex348.but x351 (Dj.un_l (DomLe.dj dm327 (Dj.un_l (DomLe.dj dm (Dj.un_l d179 (Dj.un_l d184 (Dj.box d37))) ex199) (Dj.un_l (DomLe.dj dm304 (Dj.un_l d179 (Dj.un_l d184 (Dj.box d37))) ex199) (Dj.un_l (Dj.box d34) (Dj.box d37)))) ex320) (Dj.un_l (DomLe.dj dm332 (Dj.un_l (DomLe.dj dm (Dj.un_l d179 (Dj.un_l d184 (Dj.box d37))) ex199) (Dj.un_l (DomLe.dj dm304 (Dj.un_l d179 (Dj.un_l d184 (Dj.box d37))) ex199) (Dj.un_l (Dj.box d34) (Dj.box d37)))) ex320) (Dj.box d37))))
          have ex380 := (ex349.but x351 (Dj.un_l (DomLe.dj dm327 (Dj.un_l (DomLe.dj dm (Dj.un_l d180 (Dj.un_l d185 (Dj.box d38))) ex200) (Dj.un_l (DomLe.dj dm304 (Dj.un_l d180 (Dj.un_l d185 (Dj.box d38))) ex200) (Dj.un_l (Dj.box d35) (Dj.box d38)))) ex321) (Dj.un_l (DomLe.dj dm332 (Dj.un_l (DomLe.dj dm (Dj.un_l d180 (Dj.un_l d185 (Dj.box d38))) ex200) (Dj.un_l (DomLe.dj dm304 (Dj.un_l d180 (Dj.un_l d185 (Dj.box d38))) ex200) (Dj.un_l (Dj.box d35) (Dj.box d38)))) ex321) (Dj.box d38))))
          have ex381 := (ex334.but x351 (Dj.un_l d337 (Dj.un_l d339 (Dj.box (Dj.box d26.symm).symm).symm)))
          exact ⟨(wr (n + 1), r317, r345, r346), ⟨H.1, _, .slice a366 (List.length r345) c367, hx352, .slice a368 (List.length r346) c369, hx357, env_eq ⟨rfl, rfl, rfl, rfl, trivial⟩, X376, o353, ex354, (DomLe.trans (DomLe.un (DomLe.trans (DomLe.un (DomLe.trans (DomLe.un f161 (DomLe.un f167 (DomLe.dom D41 single_dom))) dm X204.size) (DomLe.un (DomLe.trans (DomLe.un f161 (DomLe.un f167 (DomLe.dom D41 single_dom))) dm304 X204.size) (DomLe.un (DomLe.dom D40 single_dom) (DomLe.dom D41 single_dom)))) dm327 X375.size) (DomLe.un (DomLe.trans (DomLe.un (DomLe.trans (DomLe.un f161 (DomLe.un f167 (DomLe.dom D41 single_dom))) dm X204.size) (DomLe.un (DomLe.trans (DomLe.un f161 (DomLe.un f167 (DomLe.dom D41 single_dom))) dm304 X204.size) (DomLe.un (DomLe.dom D40 single_dom) (DomLe.dom D41 single_dom)))) dm332 X375.size) (DomLe.dom D41 single_dom))) dm355 X377.size), o358, ex359, (DomLe.trans (DomLe.un (DomLe.trans (DomLe.un (DomLe.trans (DomLe.un f161 (DomLe.un f167 (DomLe.dom D41 single_dom))) dm X204.size) (DomLe.un (DomLe.trans (DomLe.un f161 (DomLe.un f167 (DomLe.dom D41 single_dom))) dm304 X204.size) (DomLe.un (DomLe.dom D40 single_dom) (DomLe.dom D41 single_dom)))) dm327 X375.size) (DomLe.un (DomLe.trans (DomLe.un (DomLe.trans (DomLe.un f161 (DomLe.un f167 (DomLe.dom D41 single_dom))) dm X204.size) (DomLe.un (DomLe.trans (DomLe.un f161 (DomLe.un f167 (DomLe.dom D41 single_dom))) dm304 X204.size) (DomLe.un (DomLe.dom D40 single_dom) (DomLe.dom D41 single_dom)))) dm332 X375.size) (DomLe.dom D41 single_dom))) dm360 X377.size), ex378, ex379, ex380, ex381, ex362, (DomLe.dj dm355 (Dj.un_l (DomLe.dj dm327 (Dj.un_l (DomLe.dj dm (Dj.un_l d178 (Dj.un_l d183 (Dj.box d36))) ex197) (Dj.un_l (DomLe.dj dm304 (Dj.un_l d178 (Dj.un_l d183 (Dj.box d36))) ex197) (Dj.un_l (Dj.box d33) (Dj.box d36)))) ex318) (Dj.un_l (DomLe.dj dm332 (Dj.un_l (DomLe.dj dm (Dj.un_l d178 (Dj.un_l d183 (Dj.box d36))) ex197) (Dj.un_l (DomLe.dj dm304 (Dj.un_l d178 (Dj.un_l d183 (Dj.box d36))) ex197) (Dj.un_l (Dj.box d33) (Dj.box d36)))) ex318) (Dj.box d36))) ex347), (DomLe.dj dm355 (Dj.un_l (DomLe.dj dm327 (Dj.un_l (DomLe.dj dm (Dj.un_l d179 (Dj.un_l d184 (Dj.box d37))) ex199) (Dj.un_l (DomLe.dj dm304 (Dj.un_l d179 (Dj.un_l d184 (Dj.box d37))) ex199) (Dj.un_l (Dj.box d34) (Dj.box d37)))) ex320) (Dj.un_l (DomLe.dj dm332 (Dj.un_l (DomLe.dj dm (Dj.un_l d179 (Dj.un_l d184 (Dj.box d37))) ex199) (Dj.un_l (DomLe.dj dm304 (Dj.un_l d179 (Dj.un_l d184 (Dj.box d37))) ex199) (Dj.un_l (Dj.box d34) (Dj.box d37)))) ex320) (Dj.box d37))) ex348), (DomLe.dj dm355 (Dj.un_l (DomLe.dj dm327 (Dj.un_l (DomLe.dj dm (Dj.un_l d180 (Dj.un_l d185 (Dj.box d38))) ex200) (Dj.un_l (DomLe.dj dm304 (Dj.un_l d180 (Dj.un_l d185 (Dj.box d38))) ex200) (Dj.un_l (Dj.box d35) (Dj.box d38)))) ex321) (Dj.un_l (DomLe.dj dm332 (Dj.un_l (DomLe.dj dm (Dj.un_l d180 (Dj.un_l d185 (Dj.box d38))) ex200) (Dj.un_l (DomLe.dj dm304 (Dj.un_l d180 (Dj.un_l d185 (Dj.box d38))) ex200) (Dj.un_l (Dj.box d35) (Dj.box d38)))) ex321) (Dj.box d38))) ex349), (DomLe.dj dm355 (Dj.un_l d337 (Dj.un_l d339 (Dj.box (Dj.box d26.symm).symm).symm)) ex334), d364, (DomLe.dj dm360 (Dj.un_l (DomLe.dj dm327 (Dj.un_l (DomLe.dj dm (Dj.un_l d178 (Dj.un_l d183 (Dj.box d36))) ex197) (Dj.un_l (DomLe.dj dm304 (Dj.un_l d178 (Dj.un_l d183 (Dj.box d36))) ex197) (Dj.un_l (Dj.box d33) (Dj.box d36)))) ex318) (Dj.un_l (DomLe.dj dm332 (Dj.un_l (DomLe.dj dm (Dj.un_l d178 (Dj.un_l d183 (Dj.box d36))) ex197) (Dj.un_l (DomLe.dj dm304 (Dj.un_l d178 (Dj.un_l d183 (Dj.box d36))) ex197) (Dj.un_l (Dj.box d33) (Dj.box d36)))) ex318) (Dj.box d36))) ex347), (DomLe.dj dm360 (Dj.un_l (DomLe.dj dm327 (Dj.un_l (DomLe.dj dm (Dj.un_l d179 (Dj.un_l d184 (Dj.box d37))) ex199) (Dj.un_l (DomLe.dj dm304 (Dj.un_l d179 (Dj.un_l d184 (Dj.box d37))) ex199) (Dj.un_l (Dj.box d34) (Dj.box d37)))) ex320) (Dj.un_l (DomLe.dj dm332 (Dj.un_l (DomLe.dj dm (Dj.un_l d179 (Dj.un_l d184 (Dj.box d37))) ex199) (Dj.un_l (DomLe.dj dm304 (Dj.un_l d179 (Dj.un_l d184 (Dj.box d37))) ex199) (Dj.un_l (Dj.box d34) (Dj.box d37)))) ex320) (Dj.box d37))) ex348), (DomLe.dj dm360 (Dj.un_l (DomLe.dj dm327 (Dj.un_l (DomLe.dj dm (Dj.un_l d180 (Dj.un_l d185 (Dj.box d38))) ex200) (Dj.un_l (DomLe.dj dm304 (Dj.un_l d180 (Dj.un_l d185 (Dj.box d38))) ex200) (Dj.un_l (Dj.box d35) (Dj.box d38)))) ex321) (Dj.un_l (DomLe.dj dm332 (Dj.un_l (DomLe.dj dm (Dj.un_l d180 (Dj.un_l d185 (Dj.box d38))) ex200) (Dj.un_l (DomLe.dj dm304 (Dj.un_l d180 (Dj.un_l d185 (Dj.box d38))) ex200) (Dj.un_l (Dj.box d35) (Dj.box d38)))) ex321) (Dj.box d38))) ex349), (DomLe.dj dm360 (Dj.un_l d337 (Dj.un_l d339 (Dj.box (Dj.box d26.symm).symm).symm)) ex334), d365, d363.symm⟩, H.2⟩
        have H := H.2 hc194
        refine W_exit ?_
        refine (if_pos rfl).mpr ?_
        exact ⟨(x155, counts156, sums162), H, _, .slice a172 (List.length counts156) c173, hx158, .slice a174 (List.length sums162) c175, hx164, env_eq trivial, X189, o159, ex160, f161, o165, ex166, f167, ex169, ex170, ex171, ex176, ex177, d178, d179, d180, d181, d182, d183, d184, d185, d186, d187, d188⟩
      rintro ⟨x122, counts, sums⟩ _ wx132 ⟨H, ρ, vx123, hx124, vx127, hx128, rfl, X153, o, ex125, f126, o129, ex130, f131, ex133, ex134, ex135, ex140, ex141, d142, d143, d144, d145, d146, d147, d148, d149, d150, d151, d152⟩
      subst hk
      obtain ⟨a136, c137, rfl⟩ := o.shape
      obtain ⟨a138, c139, rfl⟩ := o129.shape
      refine W_seq ?_
      refine W_region ?_
      refine LP_ev ok 0 [(6, .bool true)] 1 rfl rfl ?_
      refine LP_end _ rfl ?_
      refine W_ret ?_
      exact ⟨_, Ret_of [.bool true] ⟨⟨rfl, rfl⟩, trivial⟩, _, _, _, _, _, _, _, _, H, rfl, X153, o, ex125, f126, o129, ex130, f131, ex140, ex141, d152.symm, d145, d146, d150, d151⟩
  exact key _ x c13 c17 k left Q H0 (Nat.lt_succ_self _) w r ex r3 ex4 r9 ex10 ex14 ex16 ex19 ex21 d d22 d23 d24 d25 d26 d27 d28 d29 d30 d31 d32 d33 d34 d35 d36 d37 d38

end Go.Proofs.Ytkebfmobfeponaa
