/- The walks, further. -/
import Derived.Test.YtkebfmobfeponaaGreatCWalk2
set_option linter.unusedVariables false
set_option autoImplicit false
namespace Go.Proofs.YtkebfmobfeponaaGreat
open Go Go.RowKit Go.Gv

open Go.Proofs
set_option maxRecDepth 8000
set_option maxHeartbeats 4000000
theorem impl_search_from_impl_solutions_1_impl_ranges_1_impl_TypeRanges_1_w (x : Search) (c13 : Int) (c17 : List Int) (c26 : List Int) (c37 : Int) (k : Int) (left : Int) (Q : Bool → (List Int) → (List Int) → Int → (List Int) → (List Int) → Prop) (H : impl_search_from_impl_solutions_1_impl_ranges_1_impl_TypeRanges_1 x c13 c17 c26 c37 k left Q) (w : World) {vx : Value} {hx : PH} (r : RS hx vx x.Conditions) (ex : Sub hx w) {vx1 : Value} {hx2 : PH} (r3 : OS 3 hx2 emp vx1 x.Counts) (ex4 : Sub hx2 w) {vx7 : Value} {hx8 : PH} (r9 : OS 3 hx8 emp vx7 x.Sums) (ex10 : Sub hx8 w) {b : Nat} (ex14 : Sub (bx b 3 [I c13]) w) {b15 : Nat} (ex16 : Sub (bx b15 97 [.func (.func 75) #[] #[]]) w) {vx18 : Value} {hx19 : PH} (r20 : OS 3 hx19 emp vx18 c17) (ex21 : Sub hx19 w) (cn : CanV vx18 c17) {b24 : Nat} (ex25 : Sub (bx b24 22 [vx18]) w) {vx27 : Value} {hx28 : PH} (r29 : OS 3 hx28 emp vx27 c26) (ex30 : Sub hx28 w) {b33 : Nat} (ex34 : Sub (bx b33 22 [vx27]) w) {b35 : Nat} (ex36 : Sub (bx b35 104 [.func (.func 124) #[] #[pb b15, pb b24, pb b33]]) w) {b38 : Nat} (ex39 : Sub (bx b38 3 [I c37]) w) {b40 : Nat} (ex41 : Sub (bx b40 153 [vx, vx1, vx7, .func (.func 121) #[] #[pb b, pb b35, pb b38]]) w) (d : Dj hx2 hx8) (d42 : Dj hx2 (bx b 3 [I c13])) (d43 : Dj hx2 hx19) (d44 : Dj hx2 (bx b24 22 [vx18])) (d45 : Dj hx2 hx28) (d46 : Dj hx2 (bx b33 22 [vx27])) (d47 : Dj hx2 (bx b40 153 [vx, vx1, vx7, .func (.func 121) #[] #[pb b, pb b35, pb b38]])) (d48 : Dj hx8 (bx b 3 [I c13])) (d49 : Dj hx8 hx19) (d50 : Dj hx8 (bx b24 22 [vx18])) (d51 : Dj hx8 hx28) (d52 : Dj hx8 (bx b33 22 [vx27])) (d53 : Dj hx8 (bx b40 153 [vx, vx1, vx7, .func (.func 121) #[] #[pb b, pb b35, pb b38]])) (d54 : Dj (bx b 3 [I c13]) hx19) (d55 : Dj (bx b 3 [I c13]) (bx b24 22 [vx18])) (d56 : Dj (bx b 3 [I c13]) hx28) (d57 : Dj (bx b 3 [I c13]) (bx b33 22 [vx27])) (d58 : Dj (bx b 3 [I c13]) (bx b40 153 [vx, vx1, vx7, .func (.func 121) #[] #[pb b, pb b35, pb b38]])) (d59 : Dj hx19 (bx b24 22 [vx18])) (d60 : Dj hx19 hx28) (d61 : Dj hx19 (bx b33 22 [vx27])) (d62 : Dj hx19 (bx b40 153 [vx, vx1, vx7, .func (.func 121) #[] #[pb b, pb b35, pb b38]])) (d63 : Dj (bx b24 22 [vx18]) hx28) (d64 : Dj (bx b24 22 [vx18]) (bx b33 22 [vx27])) (d65 : Dj (bx b24 22 [vx18]) (bx b40 153 [vx, vx1, vx7, .func (.func 121) #[] #[pb b, pb b35, pb b38]])) (d66 : Dj hx28 (bx b33 22 [vx27])) (d67 : Dj hx28 (bx b40 153 [vx, vx1, vx7, .func (.func 121) #[] #[pb b, pb b35, pb b38]])) (d68 : Dj (bx b33 22 [vx27]) (bx b40 153 [vx, vx1, vx7, .func (.func 121) #[] #[pb b, pb b35, pb b38]])) (d69 : Dj hx2 hx) (d70 : Dj hx2 (bx b15 97 [.func (.func 75) #[] #[]])) (d71 : Dj hx2 (bx b35 104 [.func (.func 124) #[] #[pb b15, pb b24, pb b33]])) (d72 : Dj hx2 (bx b38 3 [I c37])) (d73 : Dj hx8 hx) (d74 : Dj hx8 (bx b15 97 [.func (.func 75) #[] #[]])) (d75 : Dj hx8 (bx b35 104 [.func (.func 124) #[] #[pb b15, pb b24, pb b33]])) (d76 : Dj hx8 (bx b38 3 [I c37])) (d77 : Dj (bx b 3 [I c13]) hx) (d78 : Dj (bx b 3 [I c13]) (bx b15 97 [.func (.func 75) #[] #[]])) (d79 : Dj (bx b 3 [I c13]) (bx b35 104 [.func (.func 124) #[] #[pb b15, pb b24, pb b33]])) (d80 : Dj (bx b 3 [I c13]) (bx b38 3 [I c37])) (d81 : Dj hx19 hx) (d82 : Dj hx19 (bx b15 97 [.func (.func 75) #[] #[]])) (d83 : Dj hx19 (bx b35 104 [.func (.func 124) #[] #[pb b15, pb b24, pb b33]])) (d84 : Dj hx19 (bx b38 3 [I c37])) (d85 : Dj (bx b24 22 [vx18]) hx) (d86 : Dj (bx b24 22 [vx18]) (bx b15 97 [.func (.func 75) #[] #[]])) (d87 : Dj (bx b24 22 [vx18]) (bx b35 104 [.func (.func 124) #[] #[pb b15, pb b24, pb b33]])) (d88 : Dj (bx b24 22 [vx18]) (bx b38 3 [I c37])) (d89 : Dj hx28 hx) (d90 : Dj hx28 (bx b15 97 [.func (.func 75) #[] #[]])) (d91 : Dj hx28 (bx b35 104 [.func (.func 124) #[] #[pb b15, pb b24, pb b33]])) (d92 : Dj hx28 (bx b38 3 [I c37])) (d93 : Dj (bx b33 22 [vx27]) hx) (d94 : Dj (bx b33 22 [vx27]) (bx b15 97 [.func (.func 75) #[] #[]])) (d95 : Dj (bx b33 22 [vx27]) (bx b35 104 [.func (.func 124) #[] #[pb b15, pb b24, pb b33]])) (d96 : Dj (bx b33 22 [vx27]) (bx b38 3 [I c37])) (d97 : Dj (bx b40 153 [vx, vx1, vx7, .func (.func 121) #[] #[pb b, pb b35, pb b38]]) hx) (d98 : Dj (bx b40 153 [vx, vx1, vx7, .func (.func 121) #[] #[pb b, pb b35, pb b38]]) (bx b15 97 [.func (.func 75) #[] #[]])) (d99 : Dj (bx b40 153 [vx, vx1, vx7, .func (.func 121) #[] #[pb b, pb b35, pb b38]]) (bx b35 104 [.func (.func 124) #[] #[pb b15, pb b24, pb b33]])) (d100 : Dj (bx b40 153 [vx, vx1, vx7, .func (.func 121) #[] #[pb b, pb b35, pb b38]]) (bx b38 3 [I c37])) :
  CallsTo Tryz.prog 122 #[pb b40, I k, I left] w fun v w' => ∃ r0 m1 m2 m3_0 m4 m6 v1_ k1 v2_ k2 v4_ k4 v6_ k6, Q r0 m1 m2 m3_0 m4 m6 ∧ v = .bool r0 ∧ But (un hx2 (un hx8 (un (bx b 3 [I c13]) (un hx19 (un (bx b24 22 [vx18]) (un hx28 (un (bx b33 22 [vx27]) (bx b40 153 [vx, vx1, vx7, .func (.func 121) #[] #[pb b, pb b35, pb b38]])))))))) w w' ∧ OS 3 k1 emp v1_ m1 ∧ Sub k1 w' ∧ DomLe (un hx2 (un hx8 (un (bx b 3 [I c13]) (un hx19 (un (bx b24 22 [vx18]) (un hx28 (un (bx b33 22 [vx27]) (bx b40 153 [vx, vx1, vx7, .func (.func 121) #[] #[pb b, pb b35, pb b38]])))))))) w.heap.size k1 ∧ OS 3 k2 emp v2_ m2 ∧ Sub k2 w' ∧ DomLe (un hx2 (un hx8 (un (bx b 3 [I c13]) (un hx19 (un (bx b24 22 [vx18]) (un hx28 (un (bx b33 22 [vx27]) (bx b40 153 [vx, vx1, vx7, .func (.func 121) #[] #[pb b, pb b35, pb b38]])))))))) w.heap.size k2 ∧ Sub (bx b 3 [I m3_0]) w' ∧ OS 3 k4 emp v4_ m4 ∧ Sub k4 w' ∧ DomLe (un hx2 (un hx8 (un (bx b 3 [I c13]) (un hx19 (un (bx b24 22 [vx18]) (un hx28 (un (bx b33 22 [vx27]) (bx b40 153 [vx, vx1, vx7, .func (.func 121) #[] #[pb b, pb b35, pb b38]])))))))) w.heap.size k4 ∧ Sub (bx b24 22 [v4_]) w' ∧ OS 3 k6 emp v6_ m6 ∧ Sub k6 w' ∧ DomLe (un hx2 (un hx8 (un (bx b 3 [I c13]) (un hx19 (un (bx b24 22 [vx18]) (un hx28 (un (bx b33 22 [vx27]) (bx b40 153 [vx, vx1, vx7, .func (.func 121) #[] #[pb b, pb b35, pb b38]])))))))) w.heap.size k6 ∧ Sub (bx b33 22 [v6_]) w' ∧ Sub (bx b40 153 [vx, v1_, v2_, .func (.func 121) #[] #[pb b, pb b35, pb b38]]) w' ∧ Dj k1 k2 ∧ Dj k1 (bx b 3 [I m3_0]) ∧ Dj k1 k4 ∧ Dj k1 (bx b24 22 [v4_]) ∧ Dj k1 k6 ∧ Dj k1 (bx b33 22 [v6_]) ∧ Dj k1 (bx b40 153 [vx, v1_, v2_, .func (.func 121) #[] #[pb b, pb b35, pb b38]]) ∧ Dj k2 (bx b 3 [I m3_0]) ∧ Dj k2 k4 ∧ Dj k2 (bx b24 22 [v4_]) ∧ Dj k2 k6 ∧ Dj k2 (bx b33 22 [v6_]) ∧ Dj k2 (bx b40 153 [vx, v1_, v2_, .func (.func 121) #[] #[pb b, pb b35, pb b38]]) ∧ Dj (bx b 3 [I m3_0]) k4 ∧ Dj (bx b 3 [I m3_0]) k6 ∧ Dj k4 (bx b24 22 [v4_]) ∧ Dj k4 k6 ∧ Dj k4 (bx b33 22 [v6_]) ∧ Dj k4 (bx b40 153 [vx, v1_, v2_, .func (.func 121) #[] #[pb b, pb b35, pb b38]]) ∧ Dj (bx b24 22 [v4_]) k6 ∧ Dj k6 (bx b33 22 [v6_]) ∧ Dj k6 (bx b40 153 [vx, v1_, v2_, .func (.func 121) #[] #[pb b, pb b35, pb b38]]) ∧ CanV v4_ m4 := by
 obtain ⟨S, mu, H0, HS⟩ := H
 have key : ∀ (m : Nat) (x : Search) (c13 : Int) (c17 : List Int) (c26 : List Int) (c37 : Int) (k : Int) (left : Int) (Q : Bool → (List Int) → (List Int) → Int → (List Int) → (List Int) → Prop), S x c13 c17 c26 c37 k left Q → mu x c13 c17 c26 c37 k left < m → ∀ (w : World) {vx : Value} {hx : PH} (r : RS hx vx x.Conditions) (ex : Sub hx w) {vx1 : Value} {hx2 : PH} (r3 : OS 3 hx2 emp vx1 x.Counts) (ex4 : Sub hx2 w) {vx7 : Value} {hx8 : PH} (r9 : OS 3 hx8 emp vx7 x.Sums) (ex10 : Sub hx8 w) {b : Nat} (ex14 : Sub (bx b 3 [I c13]) w) {b15 : Nat} (ex16 : Sub (bx b15 97 [.func (.func 75) #[] #[]]) w) {vx18 : Value} {hx19 : PH} (r20 : OS 3 hx19 emp vx18 c17) (ex21 : Sub hx19 w) (cn : CanV vx18 c17) {b24 : Nat} (ex25 : Sub (bx b24 22 [vx18]) w) {vx27 : Value} {hx28 : PH} (r29 : OS 3 hx28 emp vx27 c26) (ex30 : Sub hx28 w) {b33 : Nat} (ex34 : Sub (bx b33 22 [vx27]) w) {b35 : Nat} (ex36 : Sub (bx b35 104 [.func (.func 124) #[] #[pb b15, pb b24, pb b33]]) w) {b38 : Nat} (ex39 : Sub (bx b38 3 [I c37]) w) {b40 : Nat} (ex41 : Sub (bx b40 153 [vx, vx1, vx7, .func (.func 121) #[] #[pb b, pb b35, pb b38]]) w) (d : Dj hx2 hx8) (d42 : Dj hx2 (bx b 3 [I c13])) (d43 : Dj hx2 hx19) (d44 : Dj hx2 (bx b24 22 [vx18])) (d45 : Dj hx2 hx28) (d46 : Dj hx2 (bx b33 22 [vx27])) (d47 : Dj hx2 (bx b40 153 [vx, vx1, vx7, .func (.func 121) #[] #[pb b, pb b35, pb b38]])) (d48 : Dj hx8 (bx b 3 [I c13])) (d49 : Dj hx8 hx19) (d50 : Dj hx8 (bx b24 22 [vx18])) (d51 : Dj hx8 hx28) (d52 : Dj hx8 (bx b33 22 [vx27])) (d53 : Dj hx8 (bx b40 153 [vx, vx1, vx7, .func (.func 121) #[] #[pb b, pb b35, pb b38]])) (d54 : Dj (bx b 3 [I c13]) hx19) (d55 : Dj (bx b 3 [I c13]) (bx b24 22 [vx18])) (d56 : Dj (bx b 3 [I c13]) hx28) (d57 : Dj (bx b 3 [I c13]) (bx b33 22 [vx27])) (d58 : Dj (bx b 3 [I c13]) (bx b40 153 [vx, vx1, vx7, .func (.func 121) #[] #[pb b, pb b35, pb b38]])) (d59 : Dj hx19 (bx b24 22 [vx18])) (d60 : Dj hx19 hx28) (d61 : Dj hx19 (bx b33 22 [vx27])) (d62 : Dj hx19 (bx b40 153 [vx, vx1, vx7, .func (.func 121) #[] #[pb b, pb b35, pb b38]])) (d63 : Dj (bx b24 22 [vx18]) hx28) (d64 : Dj (bx b24 22 [vx18]) (bx b33 22 [vx27])) (d65 : Dj (bx b24 22 [vx18]) (bx b40 153 [vx, vx1, vx7, .func (.func 121) #[] #[pb b, pb b35, pb b38]])) (d66 : Dj hx28 (bx b33 22 [vx27])) (d67 : Dj hx28 (bx b40 153 [vx, vx1, vx7, .func (.func 121) #[] #[pb b, pb b35, pb b38]])) (d68 : Dj (bx b33 22 [vx27]) (bx b40 153 [vx, vx1, vx7, .func (.func 121) #[] #[pb b, pb b35, pb b38]])) (d69 : Dj hx2 hx) (d70 : Dj hx2 (bx b15 97 [.func (.func 75) #[] #[]])) (d71 : Dj hx2 (bx b35 104 [.func (.func 124) #[] #[pb b15, pb b24, pb b33]])) (d72 : Dj hx2 (bx b38 3 [I c37])) (d73 : Dj hx8 hx) (d74 : Dj hx8 (bx b15 97 [.func (.func 75) #[] #[]])) (d75 : Dj hx8 (bx b35 104 [.func (.func 124) #[] #[pb b15, pb b24, pb b33]])) (d76 : Dj hx8 (bx b38 3 [I c37])) (d77 : Dj (bx b 3 [I c13]) hx) (d78 : Dj (bx b 3 [I c13]) (bx b15 97 [.func (.func 75) #[] #[]])) (d79 : Dj (bx b 3 [I c13]) (bx b35 104 [.func (.func 124) #[] #[pb b15, pb b24, pb b33]])) (d80 : Dj (bx b 3 [I c13]) (bx b38 3 [I c37])) (d81 : Dj hx19 hx) (d82 : Dj hx19 (bx b15 97 [.func (.func 75) #[] #[]])) (d83 : Dj hx19 (bx b35 104 [.func (.func 124) #[] #[pb b15, pb b24, pb b33]])) (d84 : Dj hx19 (bx b38 3 [I c37])) (d85 : Dj (bx b24 22 [vx18]) hx) (d86 : Dj (bx b24 22 [vx18]) (bx b15 97 [.func (.func 75) #[] #[]])) (d87 : Dj (bx b24 22 [vx18]) (bx b35 104 [.func (.func 124) #[] #[pb b15, pb b24, pb b33]])) (d88 : Dj (bx b24 22 [vx18]) (bx b38 3 [I c37])) (d89 : Dj hx28 hx) (d90 : Dj hx28 (bx b15 97 [.func (.func 75) #[] #[]])) (d91 : Dj hx28 (bx b35 104 [.func (.func 124) #[] #[pb b15, pb b24, pb b33]])) (d92 : Dj hx28 (bx b38 3 [I c37])) (d93 : Dj (bx b33 22 [vx27]) hx) (d94 : Dj (bx b33 22 [vx27]) (bx b15 97 [.func (.func 75) #[] #[]])) (d95 : Dj (bx b33 22 [vx27]) (bx b35 104 [.func (.func 124) #[] #[pb b15, pb b24, pb b33]])) (d96 : Dj (bx b33 22 [vx27]) (bx b38 3 [I c37])) (d97 : Dj (bx b40 153 [vx, vx1, vx7, .func (.func 121) #[] #[pb b, pb b35, pb b38]]) hx) (d98 : Dj (bx b40 153 [vx, vx1, vx7, .func (.func 121) #[] #[pb b, pb b35, pb b38]]) (bx b15 97 [.func (.func 75) #[] #[]])) (d99 : Dj (bx b40 153 [vx, vx1, vx7, .func (.func 121) #[] #[pb b, pb b35, pb b38]]) (bx b35 104 [.func (.func 124) #[] #[pb b15, pb b24, pb b33]])) (d100 : Dj (bx b40 153 [vx, vx1, vx7, .func (.func 121) #[] #[pb b, pb b35, pb b38]]) (bx b38 3 [I c37])), CallsTo Tryz.prog 122 #[pb b40, I k, I left] w fun v w' => ∃ r0 m1 m2 m3_0 m4 m6 v1_ k1 v2_ k2 v4_ k4 v6_ k6, Q r0 m1 m2 m3_0 m4 m6 ∧ v = .bool r0 ∧ But (un hx2 (un hx8 (un (bx b 3 [I c13]) (un hx19 (un (bx b24 22 [vx18]) (un hx28 (un (bx b33 22 [vx27]) (bx b40 153 [vx, vx1, vx7, .func (.func 121) #[] #[pb b, pb b35, pb b38]])))))))) w w' ∧ OS 3 k1 emp v1_ m1 ∧ Sub k1 w' ∧ DomLe (un hx2 (un hx8 (un (bx b 3 [I c13]) (un hx19 (un (bx b24 22 [vx18]) (un hx28 (un (bx b33 22 [vx27]) (bx b40 153 [vx, vx1, vx7, .func (.func 121) #[] #[pb b, pb b35, pb b38]])))))))) w.heap.size k1 ∧ OS 3 k2 emp v2_ m2 ∧ Sub k2 w' ∧ DomLe (un hx2 (un hx8 (un (bx b 3 [I c13]) (un hx19 (un (bx b24 22 [vx18]) (un hx28 (un (bx b33 22 [vx27]) (bx b40 153 [vx, vx1, vx7, .func (.func 121) #[] #[pb b, pb b35, pb b38]])))))))) w.heap.size k2 ∧ Sub (bx b 3 [I m3_0]) w' ∧ OS 3 k4 emp v4_ m4 ∧ Sub k4 w' ∧ DomLe (un hx2 (un hx8 (un (bx b 3 [I c13]) (un hx19 (un (bx b24 22 [vx18]) (un hx28 (un (bx b33 22 [vx27]) (bx b40 153 [vx, vx1, vx7, .func (.func 121) #[] #[pb b, pb b35, pb b38]])))))))) w.heap.size k4 ∧ Sub (bx b24 22 [v4_]) w' ∧ OS 3 k6 emp v6_ m6 ∧ Sub k6 w' ∧ DomLe (un hx2 (un hx8 (un (bx b 3 [I c13]) (un hx19 (un (bx b24 22 [vx18]) (un hx28 (un (bx b33 22 [vx27]) (bx b40 153 [vx, vx1, vx7, .func (.func 121) #[] #[pb b, pb b35, pb b38]])))))))) w.heap.size k6 ∧ Sub (bx b33 22 [v6_]) w' ∧ Sub (bx b40 153 [vx, v1_, v2_, .func (.func 121) #[] #[pb b, pb b35, pb b38]]) w' ∧ Dj k1 k2 ∧ Dj k1 (bx b 3 [I m3_0]) ∧ Dj k1 k4 ∧ Dj k1 (bx b24 22 [v4_]) ∧ Dj k1 k6 ∧ Dj k1 (bx b33 22 [v6_]) ∧ Dj k1 (bx b40 153 [vx, v1_, v2_, .func (.func 121) #[] #[pb b, pb b35, pb b38]]) ∧ Dj k2 (bx b 3 [I m3_0]) ∧ Dj k2 k4 ∧ Dj k2 (bx b24 22 [v4_]) ∧ Dj k2 k6 ∧ Dj k2 (bx b33 22 [v6_]) ∧ Dj k2 (bx b40 153 [vx, v1_, v2_, .func (.func 121) #[] #[pb b, pb b35, pb b38]]) ∧ Dj (bx b 3 [I m3_0]) k4 ∧ Dj (bx b 3 [I m3_0]) k6 ∧ Dj k4 (bx b24 22 [v4_]) ∧ Dj k4 k6 ∧ Dj k4 (bx b33 22 [v6_]) ∧ Dj k4 (bx b40 153 [vx, v1_, v2_, .func (.func 121) #[] #[pb b, pb b35, pb b38]]) ∧ Dj (bx b24 22 [v4_]) k6 ∧ Dj k6 (bx b33 22 [v6_]) ∧ Dj k6 (bx b40 153 [vx, v1_, v2_, .func (.func 121) #[] #[pb b, pb b35, pb b38]]) ∧ CanV v4_ m4 := by
  intro m
  induction m with
  | zero => intro x c13 c17 c26 c37 k left Q _ hm; exact absurd hm (Nat.not_lt_zero _)
  | succ m ih =>
   intro x c13 c17 c26 c37 k left Q H0 hm w vx hx r ex vx1 hx2 r3 ex4 vx7 hx8 r9 ex10 b ex14 b15 ex16 vx18 hx19 r20 ex21 cn b24 ex25 vx27 hx28 r29 ex30 b33 ex34 b35 ex36 b38 ex39 b40 ex41 d d42 d43 d44 d45 d46 d47 d48 d49 d50 d51 d52 d53 d54 d55 d56 d57 d58 d59 d60 d61 d62 d63 d64 d65 d66 d67 d68 d69 d70 d71 d72 d73 d74 d75 d76 d77 d78 d79 d80 d81 d82 d83 d84 d85 d86 d87 d88 d89 d90 d91 d92 d93 d94 d95 d96 d97 d98 d99 d100
   have H := HS x c13 c17 c26 c37 k left Q H0
   obtain ⟨a, c, rfl⟩ := r.shape
   obtain ⟨a5, c6, rfl⟩ := r3.shape
   obtain ⟨a11, c12, rfl⟩ := r9.shape
   obtain ⟨a22, c23, rfl⟩ := r20.shape
   obtain ⟨a31, c32, rfl⟩ := r29.shape
   refine enter (args := [pb b40, I k, I left]) 110 Tryz.func122 rfl rfl rfl ?_
   refine W_forget [(0, pb b40), (1, I k), (2, I left)] ⟨rfl, rfl, rfl, trivial⟩ fun ρ => ?_
   obtain ⟨M, hM⟩ : ∃ M : PH, M = (un hx2 (un hx8 (un (bx b 3 [I c13]) (un hx19 (un (bx b24 22 [sl a22 c17 c23]) (un hx28 (un (bx b33 22 [sl a31 c26 c32]) (bx b40 153 [sl a x.Conditions c, sl a5 x.Counts c6, sl a11 x.Sums c12, .func (.func 121) #[] #[pb b, pb b35, pb b38]])))))))) := ⟨_, rfl⟩
   have D : Dom M hx2 := by subst hM; exact (Dom.l _ _)
   have D101 : Dom M hx8 := by subst hM; exact (Dom.trans (Dom.r _ _) (Dom.l _ _))
   have D102 : Dom M (bx b 3 [I c13]) := by subst hM; exact (Dom.trans (Dom.r _ _) (Dom.trans (Dom.r _ _) (Dom.l _ _)))
   have D103 : Dom M hx19 := by subst hM; exact (Dom.trans (Dom.r _ _) (Dom.trans (Dom.r _ _) (Dom.trans (Dom.r _ _) (Dom.l _ _))))
   have D104 : Dom M (bx b24 22 [sl a22 c17 c23]) := by subst hM; exact (Dom.trans (Dom.r _ _) (Dom.trans (Dom.r _ _) (Dom.trans (Dom.r _ _) (Dom.trans (Dom.r _ _) (Dom.l _ _)))))
   have D105 : Dom M hx28 := by subst hM; exact (Dom.trans (Dom.r _ _) (Dom.trans (Dom.r _ _) (Dom.trans (Dom.r _ _) (Dom.trans (Dom.r _ _) (Dom.trans (Dom.r _ _) (Dom.l _ _))))))
   have D106 : Dom M (bx b33 22 [sl a31 c26 c32]) := by subst hM; exact (Dom.trans (Dom.r _ _) (Dom.trans (Dom.r _ _) (Dom.trans (Dom.r _ _) (Dom.trans (Dom.r _ _) (Dom.trans (Dom.r _ _) (Dom.trans (Dom.r _ _) (Dom.l _ _)))))))
   have D107 : Dom M (bx b40 153 [sl a x.Conditions c, sl a5 x.Counts c6, sl a11 x.Sums c12, .func (.func 121) #[] #[pb b, pb b35, pb b38]]) := by subst hM; exact (Dom.trans (Dom.r _ _) (Dom.trans (Dom.r _ _) (Dom.trans (Dom.r _ _) (Dom.trans (Dom.r _ _) (Dom.trans (Dom.r _ _) (Dom.trans (Dom.r _ _) (Dom.trans (Dom.r _ _) (Dom.refl _))))))))
   have X := But.refl M w
   refine W_seq ?_
   refine W_region ?_
   refine LP_ev ok 0 [(6, .bool false)] 1 rfl rfl ?_
   refine LP_end _ rfl ?_
   refine W_seq ?_
   refine W_seq ?_
   refine W_region ?_
   refine LP_ev ok 0 [(14, I k), (15, pb b40), (16, pb b40), (17, .pointer (some ⟨b40, 1, none⟩))] 4 rfl rfl ?_
   refine LP_ldbox 4 (v := sl a5 x.Counts c6) rfl rfl rfl ti_22 ag_22 (fun _ => rfl) rfl ex41 rfl rfl ?_
   refine LP_ev ok 5 [(19, I (ln x.Counts)), (20, .bool (k == (ln x.Counts)))] 7 rfl rfl ?_
   refine LP_end _ rfl ?_
   refine W_cond (k == (ln x.Counts)) rfl (fun hc => ?_) (fun hc => ?_)
   ·have H := H.1 hc
    refine W_seq ?_
    refine W_seq ?_
    refine W_region ?_
    refine LP_ev ok 0 [(21, I left), (22, .bool (decide (left > 0)))] 2 rfl rfl ?_
    refine LP_end _ rfl ?_
    refine W_cond (decide (left > 0)) rfl (fun hc108 => ?_) (fun hc108 => ?_)
    ·have H := H.1 hc108
     refine W_seq ?_
     refine W_region ?_
     refine LP_ev ok 0 [(6, .bool true)] 1 rfl rfl ?_
     refine LP_end _ rfl ?_
     refine W_ret ?_
     subst hM
     exact ⟨_, Ret_of [.bool true] ⟨⟨rfl, rfl⟩, trivial⟩, _, _, _, _, _, _, _, _, _, _, _, _, _, _, H, rfl, X, r3, ex4, (Dom.le D _), r9, ex10, (Dom.le D101 _), ex14, r20, ex21, (Dom.le D103 _), ex25, r29, ex30, (Dom.le D105 _), ex34, ex41, d, d42, d43, d44, d45, d46, d47, d48, d49, d50, d51, d52, d53, d54, d56, d59, d60, d61, d62, d63, d66, d67, cn⟩
    have H := H.2 hc108
    refine W_skip ?_
    refine W_seq ?_
    refine W_seq ?_
    refine W_region ?_
    refine LP_ev ok 0 [(23, pb b40), (24, pb b40), (25, pb b40)] 3 rfl rfl ?_
    refine LP_ldbox 3 (v := sl a x.Conditions c) rfl rfl rfl ti_121 ag_121 (fun _ => rfl) rfl ex41 rfl rfl ?_
    refine LP_ev ok 4 [(27, I (ln x.Conditions)), (28, I 0)] 6 rfl rfl ?_
    refine LP_end _ rfl ?_
    refine W_block ?_
    obtain ⟨J, m123, Hx, H⟩ := H
    refine W_loop (S := Int) (fun s ρ' w' => J s ∧ ∃ (ρ : Env), ρ' = setAll [(0, pb b40), (26, sl a x.Conditions c), (27, I (ln x.Conditions)), (28, I s)] ρ ∧ But M w w' ∧ Sub hx w' ∧ Sub hx2 w' ∧ Sub hx8 w' ∧ Sub (bx b 3 [I c13]) w' ∧ Sub (bx b15 97 [.func (.func 75) #[] #[]]) w' ∧ Sub hx19 w' ∧ Sub (bx b24 22 [sl a22 c17 c23]) w' ∧ Sub hx28 w' ∧ Sub (bx b33 22 [sl a31 c26 c32]) w' ∧ Sub (bx b35 104 [.func (.func 124) #[] #[pb b15, pb b24, pb b33]]) w' ∧ Sub (bx b38 3 [I c37]) w' ∧ Sub (bx b40 153 [sl a x.Conditions c, sl a5 x.Counts c6, sl a11 x.Sums c12, .func (.func 121) #[] #[pb b, pb b35, pb b38]]) w') (fun s => m123 s) 0 ⟨Hx, _, env_eq ⟨rfl, rfl, rfl, rfl, trivial⟩, X, ex, ex4, ex10, ex14, ex16, ex21, ex25, ex30, ex34, ex36, ex39, ex41⟩ ?_
    rintro x109 _ wx ⟨Hi, ρ, rfl, HF⟩
    revert HF
    refine bb9 fun X122 ex110 ex111 ex112 ex113 ex114 ex115 ex116 => ?_
    refine bb5 fun ex117 ex118 ex119 ex120 ex121 => ?_
    have H := H x109 Hi
    refine W_seq ?_
    refine W_region ?_
    refine LP_ev ok 0 [(29, .bool (decide (x109 < (ln x.Conditions))))] 1 rfl rfl ?_
    refine LP_end _ rfl ?_
    refine W_seq ?_
    refine W_cond (decide (x109 < (ln x.Conditions))) rfl (fun hc124 => ?_) (fun hc124 => ?_)
    ·have H := H.1 hc124
     refine W_skip ?_
     refine W_seq ?_
     refine W_block ?_
     refine W_seq ?_
     refine W_region ?_
     refine LP_ev ok 0 [(30, I x109)] 1 rfl rfl ?_
     obtain ⟨x125, hi, hx126, H⟩ := H
     refine LP_index 1 rfl rfl rfl Tryz.underlying121 ti_156 rfl rfl r hi hx126 fun a127 cs r128 d129 => ?_
     have d130 := d129
     obtain ⟨u, rfl, r131⟩ := Condition_rd d130
     obtain ⟨a132, c133, rfl⟩ := r131.shape
     refine LP_load 2 rfl rfl rfl ti_156 ag_156 rfl r128 d129 ex110 fun vx134 r135 => ?_
     obtain ⟨u136, rfl, r137⟩ := Condition_rv r135
     obtain ⟨a138, c139, rfl⟩ := r137.shape
     refine LP_alloc 3 rfl rfl rfl ti_156 rfl fun b140 wx141 x142 ex143 f => ?_
     refine LP_ev ok 4 [(7, I x109)] 5 rfl rfl ?_
     refine LP_stbox 5 (vs := [sl a138 x125.Amounts c139, I x125.Value]) (cs' := [sl a138 x125.Amounts c139, I x125.Value]) rfl rfl rfl ti_156 rfl rfl rfl rfl rfl ex143 rfl rfl fun wx144 ex145 y => ?_
     refine LP_end _ rfl ?_
     refine W_seq ?_
     refine W_quiet mix (by kernel_rfl) ?_
     refine QP_ev ok 0 [(33, pb b40), (34, pb b40), (35, .pointer (some ⟨b40, 2, none⟩))] 3 rfl rfl ?_
     have ex146 := ((ex121.ext x142).but y (Dj.of_fresh ex121 f).symm)
     refine QP_ldbox 3 (v := sl a11 x.Sums c12) rfl rfl rfl ti_22 ag_22 (fun _ => rfl) rfl ex146 rfl rfl ?_
     refine QP_ev ok 4 [(37, I x109)] 5 rfl rfl ?_
     obtain ⟨x147, hi148, hx149, H⟩ := H
     refine QP_index 5 rfl rfl rfl Tryz.underlying22 ti_3 rfl rfl r9.readf hi148 hx149 fun a150 cs151 r152 d153 => ?_
     have ex154 := ((ex112.ext x142).but y (Dj.of_fresh ex112 f).symm)
     refine QP_load 6 rfl rfl rfl ti_3 ag_3 rfl r152 d153 ex154 fun vx155 r156 => ?_
     obtain rfl := r156.int
     refine QP_ev ok 7 [(40, .pointer (some ⟨b140, 1, none⟩))] 8 rfl rfl ?_
     refine QP_ldbox 8 (v := I x125.Value) rfl rfl rfl ti_3 ag_3 (fun _ => rfl) rfl ex145 rfl rfl ?_
     refine QP_ev ok 9 [(42, .bool (x147 != x125.Value))] 10 rfl rfl ?_
     refine QP_end _ rfl fun wx157 x158 => ?_
     refine W_cond (x147 != x125.Value) rfl (fun hc159 => ?_) (fun hc159 => ?_)
     ·have H := H.1 hc159
      refine W_seq ?_
      refine W_region ?_
      refine LP_ev ok 0 [(6, .bool true)] 1 rfl rfl ?_
      refine LP_end _ rfl ?_
      refine W_ret ?_
      have ex160 := (((ex111.ext x142).but y (Dj.of_fresh ex111 f).symm).ext x158)
      have ex161 := (ex154.ext x158)
      have ex162 := (((ex113.ext x142).but y (Dj.of_fresh ex113 f).symm).ext x158)
      have ex163 := (((ex115.ext x142).but y (Dj.of_fresh ex115 f).symm).ext x158)
      have ex164 := (((ex116.ext x142).but y (Dj.of_fresh ex116 f).symm).ext x158)
      have ex165 := (((ex117.ext x142).but y (Dj.of_fresh ex117 f).symm).ext x158)
      have ex166 := (((ex118.ext x142).but y (Dj.of_fresh ex118 f).symm).ext x158)
      have ex167 := (ex146.ext x158)
      have f168 := f.mono X122.size
      have X169 := (((X122.stepx x142).step y (f168.dom _)).stepx x158)
      subst hM
      exact ⟨_, Ret_of [.bool true] ⟨⟨rfl, rfl⟩, trivial⟩, _, _, _, _, _, _, _, _, _, _, _, _, _, _, H, rfl, X169, r3, ex160, (Dom.le D _), r9, ex161, (Dom.le D101 _), ex162, r20, ex163, (Dom.le D103 _), ex164, r29, ex165, (Dom.le D105 _), ex166, ex167, d, d42, d43, d44, d45, d46, d47, d48, d49, d50, d51, d52, d53, d54, d56, d59, d60, d61, d62, d63, d66, d67, cn⟩
     have H := H.2 hc159
     refine W_skip ?_
     refine W_region ?_
     refine LP_ev ok 0 [(43, I (wr (x109 + 1))), (28, I (wr (x109 + 1)))] 2 rfl rfl ?_
     refine LP_end _ rfl ?_
     have f170 := f.mono X122.size
     have X171 := (((X122.stepx x142).step y (f170.dom _)).stepx x158)
     have ex172 := (((ex110.ext x142).but y (Dj.of_fresh ex110 f).symm).ext x158)
     have ex173 := (((ex111.ext x142).but y (Dj.of_fresh ex111 f).symm).ext x158)
     have ex174 := (ex154.ext x158)
     have ex175 := (((ex113.ext x142).but y (Dj.of_fresh ex113 f).symm).ext x158)
     have ex176 := (((ex114.ext x142).but y (Dj.of_fresh ex114 f).symm).ext x158)
     have ex177 := (((ex115.ext x142).but y (Dj.of_fresh ex115 f).symm).ext x158)
     have ex178 := (((ex116.ext x142).but y (Dj.of_fresh ex116 f).symm).ext x158)
     have ex179 := (((ex117.ext x142).but y (Dj.of_fresh ex117 f).symm).ext x158)
     have ex180 := (((ex118.ext x142).but y (Dj.of_fresh ex118 f).symm).ext x158)
     have ex181 := (((ex119.ext x142).but y (Dj.of_fresh ex119 f).symm).ext x158)
     have ex182 := (((ex120.ext x142).but y (Dj.of_fresh ex120 f).symm).ext x158)
     have ex183 := (ex146.ext x158)
     exact ⟨wr (x109 + 1), ⟨H.1, _, env_eq ⟨rfl, rfl, rfl, rfl, trivial⟩, X171, ex172, ex173, ex174, ex175, ex176, ex177, ex178, ex179, ex180, ex181, ex182, ex183⟩, H.2⟩
    have H := H.2 hc124
    refine W_exit ?_
    refine (if_pos rfl).mpr ?_
    refine W_seq ?_
    refine W_open mix fun wx184 x185 => ?_
    refine AP_game 8 [[], [0], [0, 1], [0, 1, 2], [], [4], [4, 5], [4, 5, 6], [0, 1, 2, 3, 4, 5, 6, 7], [0, 1, 2, 3, 4, 5, 6, 7, 8]] [[(0, none)], [(44, some 0)], [(45, some 1)], [(46, some 2)], [(0, none)], [(48, some 4)], [(49, some 5)], [(50, some 6)]] [(47, some 3), (51, some 7)] [(0, false), (1, false), (2, false), (3, false), (4, false), (5, false), (6, false), (7, false)] (by kernel_rfl) (by kernel_rfl) ?_
    refine GS_ev ok [(0, pb b40)] (pb b40) rfl rfl (fun _ h => h) (fun _ => rfl) ?_
    refine GS_ev ok [(44, pb b40)] (pb b40) rfl rfl (fun _ h => h) (fun _ => rfl) ?_
    refine GS_ev ok [(45, pb b40)] (.pointer (some ⟨b40, 3, none⟩)) rfl rfl (fun _ h => h) (fun _ => rfl) ?_
    have ex186 := (ex121.ext x185)
    refine GS_r1 [(46, .pointer (some ⟨b40, 3, none⟩))] (.func (.func 121) #[] #[pb b, pb b35, pb b38]) rfl rfl (fun _ h => h) (fun _ w e => ex_ldbox rfl ti_151 ag_151 (fun _ => rfl) rfl e rfl rfl) ex186 ?_
    refine GS_ev ok [(0, pb b40)] (pb b40) rfl rfl (fun _ h => h) (fun _ => rfl) ?_
    refine GS_ev ok [(48, pb b40)] (pb b40) rfl rfl (fun _ h => h) (fun _ => rfl) ?_
    refine GS_ev ok [(49, pb b40)] (.pointer (some ⟨b40, 1, none⟩)) rfl rfl (fun _ h => h) (fun _ => rfl) ?_
    refine GS_r1 [(50, .pointer (some ⟨b40, 1, none⟩))] (sl a5 x.Counts c6) rfl rfl (fun _ h => h) (fun _ w e => ex_ldbox rfl ti_22 ag_22 (fun _ => rfl) rfl e rfl rfl) ex186 ?_
    intro wx187 x188 ρ hn
    refine AP_forget [(47, .func (.func 121) #[] #[pb b, pb b35, pb b38]), (51, sl a5 x.Counts c6)] (by exact hn) fun ρ => ?_
    refine AP_tail 8 [[], [0], [0, 1], [0, 1, 2], [], [4], [4, 5], [4, 5, 6], [0, 1, 2, 3, 4, 5, 6, 7], [0, 1, 2, 3, 4, 5, 6, 7, 8]] (by kernel_rfl) ?_
    have ex193 := ((ex111.ext x185).ext x188)
    have ex194 := ((ex113.ext x185).ext x188)
    have ex195 := ((ex114.ext x185).ext x188)
    have ex196 := ((ex115.ext x185).ext x188)
    have ex197 := ((ex116.ext x185).ext x188)
    have ex198 := ((ex117.ext x185).ext x188)
    have ex199 := ((ex118.ext x185).ext x188)
    have ex200 := ((ex119.ext x185).ext x188)
    have ex201 := ((ex120.ext x185).ext x188)
    refine LP_callc 8 rfl rfl rfl rfl cal_121 rfl rfl (impl_solutions_1_impl_ranges_1_impl_TypeRanges_1_w _ _ _ _ _ _ H wx187 r3.readf ex193 ex194 ex195 r20 ex196 cn ex197 r29 ex198 ex199 ex200 ex201 d54 d55 d56 d57 d59 d60 d61 d63 d64 d66 d42.symm d78 d79 d80 d43.symm d82 d83 d84 d44.symm d86 d87 d88 d45.symm d90 d91 d92 d46.symm d94 d95 d96) ?_
    rintro _ wx202 ⟨r189, r190, r191, r192, vx207, hx205, vx213, hx209, H, rfl, x203, HF⟩
    revert HF
    refine bb9 fun ex204 o ex206 dm ex208 o210 ex211 dm212 => ?_
    refine bb9 fun ex214 d215 d216 d217 d218 d219 d220 d221 cn222 => ?_
    obtain ⟨a223, c224, rfl⟩ := o.shape
    obtain ⟨a225, c226, rfl⟩ := o210.shape
    refine LP_ev ok 9 [(6, .bool r189)] 10 rfl rfl ?_
    refine LP_end _ rfl ?_
    refine W_ret ?_
    have ex227 := (ex193.but x203 (Dj.un_l d42.symm (Dj.un_l d43.symm (Dj.un_l d44.symm (Dj.un_l d45.symm d46.symm)))))
    have ex228 := (((ex112.ext x185).ext x188).but x203 (Dj.un_l d48.symm (Dj.un_l d49.symm (Dj.un_l d50.symm (Dj.un_l d51.symm d52.symm)))))
    have X229 := ((X122.stepx x185).stepx x188)
    have ex230 := ((ex186.ext x188).but x203 (Dj.un_l d58 (Dj.un_l d62 (Dj.un_l d65 (Dj.un_l d67 d68)))))
    have ex231 := ((ex112.ext x185).ext x188)
    have ex232 := (ex186.ext x188)
    have X233 := (X229.step x203 (DomLe.un (Dom.le D102 _) (DomLe.un (Dom.le D103 _) (DomLe.un (Dom.le D104 _) (DomLe.un (Dom.le D105 _) (Dom.le D106 _))))))
    subst hM
    exact ⟨_, Ret_of [.bool r189] ⟨⟨rfl, rfl⟩, trivial⟩, _, _, _, _, _, _, _, _, _, _, _, _, _, _, H, rfl, X233, r3, ex227, (Dom.le D _), r9, ex228, (Dom.le D101 _), ex204, o, ex206, (DomLe.trans (DomLe.un (Dom.le D102 _) (DomLe.un (Dom.le D103 _) (DomLe.un (Dom.le D104 _) (DomLe.un (Dom.le D105 _) (Dom.le D106 _))))) dm X229.size), ex208, o210, ex211, (DomLe.trans (DomLe.un (Dom.le D102 _) (DomLe.un (Dom.le D103 _) (DomLe.un (Dom.le D104 _) (DomLe.un (Dom.le D105 _) (Dom.le D106 _))))) dm212 X229.size), ex214, ex230, d, (Dj.box d42.symm).symm, (DomLe.dj dm (Dj.un_l d42.symm (Dj.un_l d43.symm (Dj.un_l d44.symm (Dj.un_l d45.symm d46.symm)))) ex193).symm, (Dj.box d44.symm).symm, (DomLe.dj dm212 (Dj.un_l d42.symm (Dj.un_l d43.symm (Dj.un_l d44.symm (Dj.un_l d45.symm d46.symm)))) ex193).symm, (Dj.box d46.symm).symm, d47, (Dj.box d48.symm).symm, (DomLe.dj dm (Dj.un_l d48.symm (Dj.un_l d49.symm (Dj.un_l d50.symm (Dj.un_l d51.symm d52.symm)))) ex231).symm, (Dj.box d50.symm).symm, (DomLe.dj dm212 (Dj.un_l d48.symm (Dj.un_l d49.symm (Dj.un_l d50.symm (Dj.un_l d51.symm d52.symm)))) ex231).symm, (Dj.box d52.symm).symm, d53, d215, d216, d217, d218, d219, (DomLe.dj dm (Dj.un_l d58 (Dj.un_l d62 (Dj.un_l d65 (Dj.un_l d67 d68)))) ex232), d220, d221, (DomLe.dj dm212 (Dj.un_l d58 (Dj.un_l d62 (Dj.un_l d65 (Dj.un_l d67 d68)))) ex232), cn222⟩
   have H := H.2 hc
   refine W_skip ?_
   obtain ⟨k314, hk, H⟩ := jn_elim H
   refine W_join2 (S := Int × (List Int) × (List Int) × (List Int) × (List Int)) (fun s ρ' w' => k314 s.1 s.2.1 s.2.2.1 s.2.2.2.1 s.2.2.2.2 ∧ ∃ (ρ : Env) (vx236 : Value) (hx237 : PH) (vx242 : Value) (hx243 : PH) (vx247 : Value) (hx248 : PH) (vx252 : Value) (hx253 : PH), ρ' = setAll [] ρ ∧ But M w w' ∧ OS 3 hx237 emp vx236 s.2.1 ∧ Sub hx237 w' ∧ DomLe M w.heap.size hx237 ∧ OS 3 hx243 emp vx242 s.2.2.1 ∧ Sub hx243 w' ∧ DomLe M w.heap.size hx243 ∧ OS 3 hx248 emp vx247 s.2.2.2.1 ∧ Sub hx248 w' ∧ DomLe M w.heap.size hx248 ∧ OS 3 hx253 emp vx252 s.2.2.2.2 ∧ Sub hx253 w' ∧ DomLe M w.heap.size hx253 ∧ Sub hx w' ∧ Sub (bx b15 97 [.func (.func 75) #[] #[]]) w' ∧ Sub (bx b35 104 [.func (.func 124) #[] #[pb b15, pb b24, pb b33]]) w' ∧ Sub (bx b38 3 [I c37]) w' ∧ Sub (bx b 3 [I s.1]) w' ∧ Sub (bx b24 22 [vx236]) w' ∧ Sub (bx b33 22 [vx242]) w' ∧ Sub (bx b40 153 [sl a x.Conditions c, vx247, vx252, .func (.func 121) #[] #[pb b, pb b35, pb b38]]) w' ∧ Dj hx237 hx ∧ Dj hx237 (bx b15 97 [.func (.func 75) #[] #[]]) ∧ Dj hx237 (bx b35 104 [.func (.func 124) #[] #[pb b15, pb b24, pb b33]]) ∧ Dj hx237 (bx b38 3 [I c37]) ∧ Dj hx237 (bx b 3 [I s.1]) ∧ Dj hx237 (bx b24 22 [vx236]) ∧ Dj hx237 (bx b33 22 [vx242]) ∧ Dj hx237 (bx b40 153 [sl a x.Conditions c, vx247, vx252, .func (.func 121) #[] #[pb b, pb b35, pb b38]]) ∧ Dj hx243 hx ∧ Dj hx243 (bx b15 97 [.func (.func 75) #[] #[]]) ∧ Dj hx243 (bx b35 104 [.func (.func 124) #[] #[pb b15, pb b24, pb b33]]) ∧ Dj hx243 (bx b38 3 [I c37]) ∧ Dj hx243 (bx b 3 [I s.1]) ∧ Dj hx243 (bx b24 22 [vx236]) ∧ Dj hx243 (bx b33 22 [vx242]) ∧ Dj hx243 (bx b40 153 [sl a x.Conditions c, vx247, vx252, .func (.func 121) #[] #[pb b, pb b35, pb b38]]) ∧ Dj hx243 hx237 ∧ Dj hx248 hx ∧ Dj hx248 (bx b15 97 [.func (.func 75) #[] #[]]) ∧ Dj hx248 (bx b35 104 [.func (.func 124) #[] #[pb b15, pb b24, pb b33]]) ∧ Dj hx248 (bx b38 3 [I c37]) ∧ Dj hx248 (bx b 3 [I s.1]) ∧ Dj hx248 (bx b24 22 [vx236]) ∧ Dj hx248 (bx b33 22 [vx242]) ∧ Dj hx248 (bx b40 153 [sl a x.Conditions c, vx247, vx252, .func (.func 121) #[] #[pb b, pb b35, pb b38]]) ∧ Dj hx248 hx237 ∧ Dj hx248 hx243 ∧ Dj hx253 hx ∧ Dj hx253 (bx b15 97 [.func (.func 75) #[] #[]]) ∧ Dj hx253 (bx b35 104 [.func (.func 124) #[] #[pb b15, pb b24, pb b33]]) ∧ Dj hx253 (bx b38 3 [I c37]) ∧ Dj hx253 (bx b 3 [I s.1]) ∧ Dj hx253 (bx b24 22 [vx236]) ∧ Dj hx253 (bx b33 22 [vx242]) ∧ Dj hx253 (bx b40 153 [sl a x.Conditions c, vx247, vx252, .func (.func 121) #[] #[pb b, pb b35, pb b38]]) ∧ Dj hx253 hx237 ∧ Dj hx253 hx243 ∧ Dj hx253 hx248 ∧ CanV vx236 s.2.1) ?_ ?_
   ·refine W_seq ?_
    refine W_region ?_
    refine LP_ev ok 0 [(9, I 0)] 1 rfl rfl ?_
    refine LP_end _ rfl ?_
    refine W_block ?_
    obtain ⟨J397, m398, Hx399, H⟩ := H
    refine W_loop (S := Int × Int × (List Int) × (List Int) × (List Int) × (List Int)) (fun s ρ' w' => J397 s.1 s.2.1 s.2.2.1 s.2.2.2.1 s.2.2.2.2.1 s.2.2.2.2.2 ∧ ∃ (ρ : Env) (vx317 : Value) (hx318 : PH) (vx323 : Value) (hx324 : PH) (vx329 : Value) (hx330 : PH) (vx335 : Value) (hx336 : PH), ρ' = setAll [(0, pb b40), (1, I k), (2, I left), (9, I s.1)] ρ ∧ But M w w' ∧ OS 3 hx318 emp vx317 s.2.2.1 ∧ Sub hx318 w' ∧ DomLe M w.heap.size hx318 ∧ OS 3 hx324 emp vx323 s.2.2.2.1 ∧ Sub hx324 w' ∧ DomLe M w.heap.size hx324 ∧ OS 3 hx330 emp vx329 s.2.2.2.2.1 ∧ Sub hx330 w' ∧ DomLe M w.heap.size hx330 ∧ OS 3 hx336 emp vx335 s.2.2.2.2.2 ∧ Sub hx336 w' ∧ DomLe M w.heap.size hx336 ∧ Sub hx w' ∧ Sub (bx b15 97 [.func (.func 75) #[] #[]]) w' ∧ Sub (bx b35 104 [.func (.func 124) #[] #[pb b15, pb b24, pb b33]]) w' ∧ Sub (bx b38 3 [I c37]) w' ∧ Sub (bx b 3 [I s.2.1]) w' ∧ Sub (bx b24 22 [vx317]) w' ∧ Sub (bx b33 22 [vx323]) w' ∧ Sub (bx b40 153 [sl a x.Conditions c, vx329, vx335, .func (.func 121) #[] #[pb b, pb b35, pb b38]]) w' ∧ Dj hx318 hx ∧ Dj hx318 (bx b15 97 [.func (.func 75) #[] #[]]) ∧ Dj hx318 (bx b35 104 [.func (.func 124) #[] #[pb b15, pb b24, pb b33]]) ∧ Dj hx318 (bx b38 3 [I c37]) ∧ Dj hx318 (bx b 3 [I s.2.1]) ∧ Dj hx318 (bx b24 22 [vx317]) ∧ Dj hx318 (bx b33 22 [vx323]) ∧ Dj hx318 (bx b40 153 [sl a x.Conditions c, vx329, vx335, .func (.func 121) #[] #[pb b, pb b35, pb b38]]) ∧ Dj hx324 hx ∧ Dj hx324 (bx b15 97 [.func (.func 75) #[] #[]]) ∧ Dj hx324 (bx b35 104 [.func (.func 124) #[] #[pb b15, pb b24, pb b33]]) ∧ Dj hx324 (bx b38 3 [I c37]) ∧ Dj hx324 (bx b 3 [I s.2.1]) ∧ Dj hx324 (bx b24 22 [vx317]) ∧ Dj hx324 (bx b33 22 [vx323]) ∧ Dj hx324 (bx b40 153 [sl a x.Conditions c, vx329, vx335, .func (.func 121) #[] #[pb b, pb b35, pb b38]]) ∧ Dj hx324 hx318 ∧ Dj hx330 hx ∧ Dj hx330 (bx b15 97 [.func (.func 75) #[] #[]]) ∧ Dj hx330 (bx b35 104 [.func (.func 124) #[] #[pb b15, pb b24, pb b33]]) ∧ Dj hx330 (bx b38 3 [I c37]) ∧ Dj hx330 (bx b 3 [I s.2.1]) ∧ Dj hx330 (bx b24 22 [vx317]) ∧ Dj hx330 (bx b33 22 [vx323]) ∧ Dj hx330 (bx b40 153 [sl a x.Conditions c, vx329, vx335, .func (.func 121) #[] #[pb b, pb b35, pb b38]]) ∧ Dj hx330 hx318 ∧ Dj hx330 hx324 ∧ Dj hx336 hx ∧ Dj hx336 (bx b15 97 [.func (.func 75) #[] #[]]) ∧ Dj hx336 (bx b35 104 [.func (.func 124) #[] #[pb b15, pb b24, pb b33]]) ∧ Dj hx336 (bx b38 3 [I c37]) ∧ Dj hx336 (bx b 3 [I s.2.1]) ∧ Dj hx336 (bx b24 22 [vx317]) ∧ Dj hx336 (bx b33 22 [vx323]) ∧ Dj hx336 (bx b40 153 [sl a x.Conditions c, vx329, vx335, .func (.func 121) #[] #[pb b, pb b35, pb b38]]) ∧ Dj hx336 hx318 ∧ Dj hx336 hx324 ∧ Dj hx336 hx330 ∧ CanV vx317 s.2.2.1) (fun s => m398 s.1 s.2.1 s.2.2.1 s.2.2.2.1 s.2.2.2.2.1 s.2.2.2.2.2) (0, c13, c17, c26, x.Counts, x.Sums) ⟨Hx399, _, sl a22 c17 c23, hx19, sl a31 c26 c32, hx28, sl a5 x.Counts c6, hx2, sl a11 x.Sums c12, hx8, env_eq ⟨rfl, rfl, rfl, rfl, trivial⟩, X, r20, ex21, (Dom.le D103 _), r29, ex30, (Dom.le D105 _), r3, ex4, (Dom.le D _), r9, ex10, (Dom.le D101 _), ex, ex16, ex36, ex39, ex14, ex25, ex34, ex41, d81, d82, d83, d84, d54.symm, d59, d61, d62, d89, d90, d91, d92, d56.symm, d63.symm, d66, d67, d60.symm, d69, d70, d71, d72, d42, d44, d46, d47, d43, d45, d73, d74, d75, d76, d48, d50, d52, d53, d49, d51, d.symm, cn⟩ ?_
    rintro ⟨n, x315, x316, x322, counts328, sums334⟩ _ wx340 ⟨Hi, ρ, vx317, hx318, vx323, hx324, vx329, hx330, vx335, hx336, rfl, HF⟩
    revert HF
    refine bb9 fun X396 o319 ex320 f321 o325 ex326 f327 o331 => ?_
    refine bb9 fun ex332 f333 o337 ex338 f339 ex341 ex342 ex343 => ?_
    refine bb9 fun ex344 ex353 ex354 ex355 ex356 d357 d358 d359 => ?_
    refine bb9 fun d360 d361 d362 d363 d364 d365 d366 d367 => ?_
    refine bb9 fun d368 d369 d370 d371 d372 d373 d374 d375 => ?_
    refine bb9 fun d376 d377 d378 d379 d380 d381 d382 d383 => ?_
    refine bb9 fun d384 d385 d386 d387 d388 d389 d390 d391 => ?_
    refine bb4 fun d392 d393 d394 cn395 => ?_
    have H := H n x315 x316 x322 counts328 sums334 Hi
    obtain ⟨a345, c346, rfl⟩ := o319.shape
    obtain ⟨a347, c348, rfl⟩ := o325.shape
    obtain ⟨a349, c350, rfl⟩ := o331.shape
    obtain ⟨a351, c352, rfl⟩ := o337.shape
    refine W_seq ?_
    refine W_seq ?_
    refine W_region ?_
    refine LP_ev ok 0 [(53, I n), (54, I left), (55, .bool (decide (n ≤ left)))] 3 rfl rfl ?_
    refine LP_end _ rfl ?_
    refine W_cond (decide (n ≤ left)) rfl (fun hc401 => ?_) (fun hc401 => ?_)
    ·have H := H.1 hc401
     refine W_skip ?_
     refine W_seq ?_
     refine W_block ?_
     refine W_seq ?_
     refine W_region ?_
     refine LP_ev ok 0 [(10, .bool true)] 1 rfl rfl ?_
     refine LP_end _ rfl ?_
     refine W_seq ?_
     refine W_seq ?_
     refine W_region ?_
     refine LP_ev ok 0 [(58, pb b40), (59, pb b40), (60, pb b40)] 3 rfl rfl ?_
     refine LP_ldbox 3 (v := sl a x.Conditions c) rfl rfl rfl ti_121 ag_121 (fun _ => rfl) rfl ex356 rfl rfl ?_
     refine LP_ev ok 4 [(62, I (ln x.Conditions)), (63, I 0)] 6 rfl rfl ?_
     refine LP_end _ rfl ?_
     refine W_block ?_
     obtain ⟨J417, m418, Hx419, H⟩ := H
     refine W_loop (S := Bool × Int) (fun s ρ' w' => J417 s.1 s.2 ∧ ∃ (ρ : Env), ρ' = setAll [(0, pb b40), (1, I k), (2, I left), (9, I n), (10, .bool s.1), (61, sl a x.Conditions c), (62, I (ln x.Conditions)), (63, I s.2)] ρ ∧ But M w w' ∧ Sub hx w' ∧ Sub (bx b 3 [I x315]) w' ∧ Sub (bx b15 97 [.func (.func 75) #[] #[]]) w' ∧ Sub (bx b24 22 [sl a345 x316 c346]) w' ∧ Sub (bx b33 22 [sl a347 x322 c348]) w' ∧ Sub (bx b35 104 [.func (.func 124) #[] #[pb b15, pb b24, pb b33]]) w' ∧ Sub (bx b38 3 [I c37]) w' ∧ Sub (bx b40 153 [sl a x.Conditions c, sl a349 counts328 c350, sl a351 sums334 c352, .func (.func 121) #[] #[pb b, pb b35, pb b38]]) w' ∧ Sub hx318 w' ∧ Sub hx324 w' ∧ Sub hx330 w' ∧ Sub hx336 w') (fun s => m418 s.1 s.2) (true, 0) ⟨Hx419, _, env_eq ⟨rfl, rfl, rfl, rfl, rfl, rfl, rfl, rfl, trivial⟩, X396, ex341, ex353, ex342, ex354, ex355, ex343, ex344, ex356, ex320, ex326, ex332, ex338⟩ ?_
     rintro ⟨fits, x402⟩ _ wx403 ⟨Hi, ρ, rfl, HF⟩
     revert HF
     refine bb9 fun X416 ex404 ex405 ex406 ex407 ex408 ex409 ex410 => ?_
     refine bb5 fun ex411 ex412 ex413 ex414 ex415 => ?_
     have H := H fits x402 Hi
     refine W_seq ?_
     refine W_region ?_
     refine LP_ev ok 0 [(64, .bool (decide (x402 < (ln x.Conditions))))] 1 rfl rfl ?_
     refine LP_end _ rfl ?_
     refine W_seq ?_
     refine W_cond (decide (x402 < (ln x.Conditions))) rfl (fun hc421 => ?_) (fun hc421 => ?_)
     ·have H := H.1 hc421
      refine W_skip ?_
      obtain ⟨k437, hk438, H⟩ := jn_elim H
      refine W_join2 (S := Bool) (fun s ρ' w' => k437 s ∧ ∃ (ρ : Env), ρ' = setAll [(0, pb b40), (1, I k), (2, I left), (9, I n), (10, .bool s), (61, sl a x.Conditions c), (62, I (ln x.Conditions)), (63, I x402)] ρ ∧ But M w w' ∧ Sub hx w' ∧ Sub (bx b 3 [I x315]) w' ∧ Sub (bx b15 97 [.func (.func 75) #[] #[]]) w' ∧ Sub (bx b24 22 [sl a345 x316 c346]) w' ∧ Sub (bx b33 22 [sl a347 x322 c348]) w' ∧ Sub (bx b35 104 [.func (.func 124) #[] #[pb b15, pb b24, pb b33]]) w' ∧ Sub (bx b38 3 [I c37]) w' ∧ Sub (bx b40 153 [sl a x.Conditions c, sl a349 counts328 c350, sl a351 sums334 c352, .func (.func 121) #[] #[pb b, pb b35, pb b38]]) w' ∧ Sub hx318 w' ∧ Sub hx324 w' ∧ Sub hx330 w' ∧ Sub hx336 w') ?_ ?_
      ·refine W_block ?_
       refine W_seq ?_
       refine W_region ?_
       refine LP_ev ok 0 [(65, I x402)] 1 rfl rfl ?_
       obtain ⟨x439, hi440, hx441, H⟩ := H
       refine LP_index 1 rfl rfl rfl Tryz.underlying121 ti_156 rfl rfl r hi440 hx441 fun a442 cs443 r444 d445 => ?_
       have d446 := d445
       obtain ⟨u447, rfl, r448⟩ := Condition_rd d446
       obtain ⟨a449, c450, rfl⟩ := r448.shape
       refine LP_load 2 rfl rfl rfl ti_156 ag_156 rfl r444 d445 ex404 fun vx451 r452 => ?_
       obtain ⟨u453, rfl, r454⟩ := Condition_rv r452
       obtain ⟨a455, c456, rfl⟩ := r454.shape
       refine LP_alloc 3 rfl rfl rfl ti_156 rfl fun b457 wx458 x459 ex460 f461 => ?_
       refine LP_ev ok 4 [(11, I x402)] 5 rfl rfl ?_
       refine LP_stbox 5 (vs := [sl a455 x439.Amounts c456, I x439.Value]) (cs' := [sl a455 x439.Amounts c456, I x439.Value]) rfl rfl rfl ti_156 rfl rfl rfl rfl rfl ex460 rfl rfl fun wx462 ex463 y464 => ?_
       refine LP_end _ rfl ?_
       refine W_quiet mix (by kernel_rfl) ?_
       refine QP_ev ok 0 [(68, .bool fits), (69, .bool fits)] 2 rfl rfl ?_
       refine QP_split 69 (fits) rfl (fun hc465 => ?_) (fun hc465 => ?_)
       ·have H := H.1 hc465
        refine QP_ev ok 2 [(70, pb b40), (71, pb b40), (72, .pointer (some ⟨b40, 2, none⟩))] 5 rfl rfl ?_
        have ex466 := ((ex411.ext x459).but y464 (Dj.of_fresh ex411 f461).symm)
        refine QP_ldbox 5 (v := sl a351 sums334 c352) rfl rfl rfl ti_22 ag_22 (fun _ => rfl) rfl ex466 rfl rfl ?_
        refine QP_ev ok 6 [(74, I x402)] 7 rfl rfl ?_
        obtain ⟨x467, hi468, hx469, H⟩ := H
        refine QP_index 7 rfl rfl rfl Tryz.underlying22 ti_3 rfl rfl o337.readf hi468 hx469 fun a470 cs471 r472 d473 => ?_
        have ex474 := ((ex415.ext x459).but y464 (Dj.of_fresh ex415 f461).symm)
        refine QP_load 8 rfl rfl rfl ti_3 ag_3 rfl r472 d473 ex474 fun vx475 r476 => ?_
        obtain rfl := r476.int
        refine QP_ev ok 9 [(77, I n), (78, pb b457)] 11 rfl rfl ?_
        refine QP_ldbox 11 (v := sl a455 x439.Amounts c456) rfl rfl rfl ti_22 ag_22 (fun _ => rfl) rfl ex463 rfl rfl ?_
        refine QP_ev ok 12 [(80, I k)] 13 rfl rfl ?_
        obtain ⟨x477, hi478, hx479, H⟩ := H
        refine QP_index 13 rfl rfl rfl Tryz.underlying22 ti_3 rfl rfl r454 hi478 hx479 fun a480 cs481 r482 d483 => ?_
        have ex484 := ((ex404.ext x459).but y464 (Dj.of_fresh ex404 f461).symm)
        refine QP_load 14 rfl rfl rfl ti_3 ag_3 rfl r482 d483 ex484 fun vx485 r486 => ?_
        obtain rfl := r486.int
        refine QP_ev ok 15 [(83, I (wr (n * x477))), (84, I (wr (x467 + (wr (n * x477))))), (85, .pointer (some ⟨b457, 1, none⟩))] 18 rfl rfl ?_
        refine QP_ldbox 18 (v := I x439.Value) rfl rfl rfl ti_3 ag_3 (fun _ => rfl) rfl ex463 rfl rfl ?_
        refine QP_ev ok 19 [(87, .bool (decide ((wr (x467 + (wr (n * x477)))) ≤ x439.Value))), (88, .bool (decide ((wr (x467 + (wr (n * x477)))) ≤ x439.Value))), (10, .bool (decide ((wr (x467 + (wr (n * x477)))) ≤ x439.Value)))] 22 rfl rfl ?_
        refine QP_end _ rfl fun wx487 x488 => ?_
        try refine W_forget [(0, pb b40), (1, I k), (2, I left), (9, I n), (10, .bool (decide ((wr (x467 + (wr (n * x477)))) ≤ x439.Value))), (61, sl a x.Conditions c), (62, I (ln x.Conditions)), (63, I x402), (70, pb b40), (71, pb b40), (72, .pointer (some ⟨b40, 2, none⟩)), (73, sl a351 sums334 c352), (74, I x402), (75, .pointer (some a470)), (76, I x467), (77, I n), (78, pb b457), (79, sl a455 x439.Amounts c456), (80, I k), (81, .pointer (some a480)), (82, I x477), (83, I (wr (n * x477))), (84, I (wr (x467 + (wr (n * x477))))), (85, .pointer (some ⟨b457, 1, none⟩)), (86, I x439.Value), (87, .bool (decide ((wr (x467 + (wr (n * x477)))) ≤ x439.Value)))] ⟨rfl, rfl, rfl, rfl, rfl, rfl, rfl, rfl, rfl, rfl, rfl, rfl, rfl, rfl, rfl, rfl, rfl, rfl, rfl, rfl, rfl, rfl, rfl, rfl, rfl, rfl, trivial⟩ fun ρ => ?_
        have f489 := f461.mono X416.size
        have X490 := (((X416.stepx x459).step y464 (f489.dom _)).stepx x488)
        have ex491 := (ex484.ext x488)
        have ex492 := (((ex405.ext x459).but y464 (Dj.of_fresh ex405 f461).symm).ext x488)
        have ex493 := (((ex406.ext x459).but y464 (Dj.of_fresh ex406 f461).symm).ext x488)
        have ex494 := (((ex407.ext x459).but y464 (Dj.of_fresh ex407 f461).symm).ext x488)
        have ex495 := (((ex408.ext x459).but y464 (Dj.of_fresh ex408 f461).symm).ext x488)
        have ex496 := (((ex409.ext x459).but y464 (Dj.of_fresh ex409 f461).symm).ext x488)
        have ex497 := (((ex410.ext x459).but y464 (Dj.of_fresh ex410 f461).symm).ext x488)
        have ex498 := (ex466.ext x488)
        have ex499 := (((ex412.ext x459).but y464 (Dj.of_fresh ex412 f461).symm).ext x488)
        have ex500 := (((ex413.ext x459).but y464 (Dj.of_fresh ex413 f461).symm).ext x488)
        have ex501 := (((ex414.ext x459).but y464 (Dj.of_fresh ex414 f461).symm).ext x488)
        have ex502 := (ex474.ext x488)
        exact ⟨decide ((wr (x467 + (wr (n * x477)))) ≤ x439.Value), H, _, env_eq ⟨rfl, rfl, rfl, rfl, rfl, rfl, rfl, rfl, trivial⟩, X490, ex491, ex492, ex493, ex494, ex495, ex496, ex497, ex498, ex499, ex500, ex501, ex502⟩
       have H := H.2 hc465
       refine QP_ev ok 2 [(70, undef), (71, undef), (72, undef), (73, undef), (74, undef), (75, undef), (76, undef), (77, undef), (78, undef), (79, undef), (80, undef), (81, undef), (82, undef), (83, undef), (84, undef), (85, undef), (86, undef), (87, undef), (88, .bool false), (10, .bool false)] 22 rfl rfl ?_
       refine QP_end _ rfl fun wx503 x504 => ?_
       try refine W_forget [(0, pb b40), (1, I k), (2, I left), (9, I n), (10, .bool false), (61, sl a x.Conditions c), (62, I (ln x.Conditions)), (63, I x402)] ⟨rfl, rfl, rfl, rfl, rfl, rfl, rfl, rfl, trivial⟩ fun ρ => ?_
       have f505 := f461.mono X416.size
       have X506 := (((X416.stepx x459).step y464 (f505.dom _)).stepx x504)
       have ex507 := (((ex404.ext x459).but y464 (Dj.of_fresh ex404 f461).symm).ext x504)
       have ex508 := (((ex405.ext x459).but y464 (Dj.of_fresh ex405 f461).symm).ext x504)
       have ex509 := (((ex406.ext x459).but y464 (Dj.of_fresh ex406 f461).symm).ext x504)
       have ex510 := (((ex407.ext x459).but y464 (Dj.of_fresh ex407 f461).symm).ext x504)
       have ex511 := (((ex408.ext x459).but y464 (Dj.of_fresh ex408 f461).symm).ext x504)
       have ex512 := (((ex409.ext x459).but y464 (Dj.of_fresh ex409 f461).symm).ext x504)
       have ex513 := (((ex410.ext x459).but y464 (Dj.of_fresh ex410 f461).symm).ext x504)
       have ex514 := (((ex411.ext x459).but y464 (Dj.of_fresh ex411 f461).symm).ext x504)
       have ex515 := (((ex412.ext x459).but y464 (Dj.of_fresh ex412 f461).symm).ext x504)
       have ex516 := (((ex413.ext x459).but y464 (Dj.of_fresh ex413 f461).symm).ext x504)
       have ex517 := (((ex414.ext x459).but y464 (Dj.of_fresh ex414 f461).symm).ext x504)
       have ex518 := (((ex415.ext x459).but y464 (Dj.of_fresh ex415 f461).symm).ext x504)
       exact ⟨false, H, _, env_eq ⟨rfl, rfl, rfl, rfl, rfl, rfl, rfl, rfl, trivial⟩, X506, ex507, ex508, ex509, ex510, ex511, ex512, ex513, ex514, ex515, ex516, ex517, ex518⟩
      rintro fits422 _ wx423 ⟨H, ρ, rfl, HF⟩
      revert HF
      refine bb9 fun X436 ex424 ex425 ex426 ex427 ex428 ex429 ex430 => ?_
      refine bb5 fun ex431 ex432 ex433 ex434 ex435 => ?_
      subst hk438
      refine W_region ?_
      refine LP_ev ok 0 [(89, I (wr (x402 + 1))), (63, I (wr (x402 + 1)))] 2 rfl rfl ?_
      refine LP_end _ rfl ?_
      exact ⟨(fits422, wr (x402 + 1)), ⟨H.1, _, env_eq ⟨rfl, rfl, rfl, rfl, rfl, rfl, rfl, rfl, trivial⟩, X436, ex424, ex425, ex426, ex427, ex428, ex429, ex430, ex431, ex432, ex433, ex434, ex435⟩, H.2⟩
     have H := H.2 hc421
     refine W_exit ?_
     refine (if_pos rfl).mpr ?_
     refine W_seq ?_
     refine W_seq ?_
     refine W_region ?_
     refine LP_ev ok 0 [(90, .bool fits), (91, .bool (!fits))] 2 rfl rfl ?_
     refine LP_end _ rfl ?_
     refine W_cond (!fits) rfl (fun hc519 => ?_) (fun hc519 => ?_)
     ·have H := H.1 hc519
      refine W_exit ?_
      refine (if_neg (by decide)).mpr ?_
      refine (if_pos rfl).mpr ?_
      exact ⟨(x315, x316, x322, counts328, sums334), H, _, sl a345 x316 c346, hx318, sl a347 x322 c348, hx324, sl a349 counts328 c350, hx330, sl a351 sums334 c352, hx336, env_eq trivial, X416, o319, ex412, f321, o325, ex413, f327, o331, ex414, f333, o337, ex415, f339, ex404, ex406, ex409, ex410, ex405, ex407, ex408, ex411, d357, d358, d359, d360, d361, d362, d363, d364, d365, d366, d367, d368, d369, d370, d371, d372, d373, d374, d375, d376, d377, d378, d379, d380, d381, d382, d383, d384, d385, d386, d387, d388, d389, d390, d391, d392, d393, d394, cn395⟩
     have H := H.2 hc519
     refine W_skip ?_
     refine W_seq ?_
     refine W_region ?_
     refine LP_ev ok 0 [(92, pb b40), (93, I k), (94, I n)] 3 rfl rfl ?_
     refine LP_call 3 rfl rfl rfl cal_164 rfl (impl_search_add_impl_solutions_1_impl_ranges_1_impl_TypeRanges_1_w _ _ _ _ _ _ _ _ H wx403 r ex404 o331 ex414 o337 ex415 ex405 ex406 o319.readf ex412 ex407 o325.readf ex413 ex408 ex409 ex410 ex411 d394.symm d381 d391 d374 d378 d375 d382 d379 d383 d380 d376 d377 d384 d388 d385 d392 d389 d393 d390 d386 d387 (Dj.box d97) (Dj.box (Dj.box d58.symm).symm).symm (Dj.box d98) d364.symm (Dj.box (Dj.box d65.symm).symm).symm d372.symm (Dj.box (Dj.box d68.symm).symm).symm (Dj.box d99) (Dj.box d100)) ?_
     rintro _ wx522 ⟨r520, r521, vx528, hx524, vx533, hx529, H, rfl, x523, HF⟩
     revert HF
     refine bb9 fun o525 ex526 dm527 o530 ex531 dm532 ex534 d535 => ?_
     refine bb2 fun d536 d537 => ?_
     obtain ⟨a538, c539, rfl⟩ := o525.shape
     obtain ⟨a540, c541, rfl⟩ := o530.shape
     refine LP_end _ rfl ?_
     refine W_seq ?_
     refine W_region ?_
     refine LP_ev ok 0 [(96, pb b40), (97, I k), (98, I (wr (k + 1))), (99, I left), (100, I n), (101, I (wr (left - n)))] 6 rfl rfl ?_
     have ex548 := (ex404.but x523 (Dj.un_l d374 (Dj.un_l d384 (Dj.box d97))))
     have ex549 := (ex405.but x523 (Dj.un_l d378 (Dj.un_l d388 (Dj.box (Dj.box d58.symm).symm).symm)))
     have ex550 := (ex406.but x523 (Dj.un_l d375 (Dj.un_l d385 (Dj.box d98))))
     have ex551 := (ex412.but x523 (Dj.un_l d382 (Dj.un_l d392 d364.symm)))
     have ex552 := (ex407.but x523 (Dj.un_l d379 (Dj.un_l d389 (Dj.box (Dj.box d65.symm).symm).symm)))
     have ex553 := (ex413.but x523 (Dj.un_l d383 (Dj.un_l d393 d372.symm)))
     have ex554 := (ex408.but x523 (Dj.un_l d380 (Dj.un_l d390 (Dj.box (Dj.box d68.symm).symm).symm)))
     have ex555 := (ex409.but x523 (Dj.un_l d376 (Dj.un_l d386 (Dj.box d99))))
     have ex556 := (ex410.but x523 (Dj.un_l d377 (Dj.un_l d387 (Dj.box d100))))
     refine LP_call 6 rfl rfl rfl cal_122 rfl (ih _ _ _ _ _ _ _ _ H.1 (Nat.lt_of_lt_of_le H.2 (Nat.le_of_lt_succ hm)) wx522 r ex548 o525 ex526 o530 ex531 ex549 ex550 o319 ex551 cn395 ex552 o325 ex553 ex554 ex555 ex556 ex534 d535 (DomLe.dj dm527 (Dj.un_l d378 (Dj.un_l d388 (Dj.box (Dj.box d58.symm).symm).symm)) ex405) (DomLe.dj dm527 (Dj.un_l d382 (Dj.un_l d392 d364.symm)) ex412) (DomLe.dj dm527 (Dj.un_l d379 (Dj.un_l d389 (Dj.box (Dj.box d65.symm).symm).symm)) ex407) (DomLe.dj dm527 (Dj.un_l d383 (Dj.un_l d393 d372.symm)) ex413) (DomLe.dj dm527 (Dj.un_l d380 (Dj.un_l d390 (Dj.box (Dj.box d68.symm).symm).symm)) ex408) d536 (DomLe.dj dm532 (Dj.un_l d378 (Dj.un_l d388 (Dj.box (Dj.box d58.symm).symm).symm)) ex405) (DomLe.dj dm532 (Dj.un_l d382 (Dj.un_l d392 d364.symm)) ex412) (DomLe.dj dm532 (Dj.un_l d379 (Dj.un_l d389 (Dj.box (Dj.box d65.symm).symm).symm)) ex407) (DomLe.dj dm532 (Dj.un_l d383 (Dj.un_l d393 d372.symm)) ex413) (DomLe.dj dm532 (Dj.un_l d380 (Dj.un_l d390 (Dj.box (Dj.box d68.symm).symm).symm)) ex408) d537 d361.symm (Dj.box (Dj.box d55).symm).symm d369.symm (Dj.box (Dj.box d57).symm).symm (Dj.box (Dj.box d58).symm).symm d362 d373.symm d363 (Dj.box d364.symm).symm d370.symm (Dj.box (Dj.box d64).symm).symm (Dj.box (Dj.box d65).symm).symm d371 (Dj.box d372.symm).symm (Dj.box (Dj.box d68).symm).symm (DomLe.dj dm527 (Dj.un_l d374 (Dj.un_l d384 (Dj.box d97))) ex404) (DomLe.dj dm527 (Dj.un_l d375 (Dj.un_l d385 (Dj.box d98))) ex406) (DomLe.dj dm527 (Dj.un_l d376 (Dj.un_l d386 (Dj.box d99))) ex409) (DomLe.dj dm527 (Dj.un_l d377 (Dj.un_l d387 (Dj.box d100))) ex410) (DomLe.dj dm532 (Dj.un_l d374 (Dj.un_l d384 (Dj.box d97))) ex404) (DomLe.dj dm532 (Dj.un_l d375 (Dj.un_l d385 (Dj.box d98))) ex406) (DomLe.dj dm532 (Dj.un_l d376 (Dj.un_l d386 (Dj.box d99))) ex409) (DomLe.dj dm532 (Dj.un_l d377 (Dj.un_l d387 (Dj.box d100))) ex410) (Dj.box d77) (Dj.box d78) (Dj.box d79) (Dj.box d80) d357 d358 d359 d360 (Dj.box d85) (Dj.box d86) (Dj.box d87) (Dj.box d88) d365 d366 d367 d368 (Dj.box d93) (Dj.box d94) (Dj.box d95) (Dj.box d96) (Dj.box d97) (Dj.box d98) (Dj.box d99) (Dj.box d100)) ?_
     rintro _ wx557 ⟨r542, r543, r544, r545, r546, r547, vx563, hx559, vx568, hx564, vx574, hx570, vx580, hx576, H, rfl, x558, HF⟩
     revert HF
     refine bb9 fun o560 ex561 dm562 o565 ex566 dm567 ex569 o571 => ?_
     refine bb9 fun ex572 dm573 ex575 o577 ex578 dm579 ex581 ex582 => ?_
     refine bb9 fun d583 d584 d585 d586 d587 d588 d589 d590 => ?_
     refine bb9 fun d591 d592 d593 d594 d595 d596 d597 d598 => ?_
     refine bb7 fun d599 d600 d601 d602 d603 d604 cn605 => ?_
     obtain ⟨a606, c607, rfl⟩ := o560.shape
     obtain ⟨a608, c609, rfl⟩ := o565.shape
     obtain ⟨a610, c611, rfl⟩ := o571.shape
     obtain ⟨a612, c613, rfl⟩ := o577.shape
     refine LP_ev ok 7 [(13, .bool r542)] 8 rfl rfl ?_
     refine LP_end _ rfl ?_
     refine W_seq ?_
     refine W_region ?_
     refine LP_ev ok 0 [(103, pb b40), (104, I k), (105, I n), (106, I (wr (0 - n)))] 4 rfl rfl ?_
     have ex616 := (ex548.but x558 (Dj.un_l (DomLe.dj dm527 (Dj.un_l d374 (Dj.un_l d384 (Dj.box d97))) ex404) (Dj.un_l (DomLe.dj dm532 (Dj.un_l d374 (Dj.un_l d384 (Dj.box d97))) ex404) (Dj.un_l (Dj.box d77) (Dj.un_l d357 (Dj.un_l (Dj.box d85) (Dj.un_l d365 (Dj.un_l (Dj.box d93) (Dj.box d97)))))))))
     have ex617 := (ex550.but x558 (Dj.un_l (DomLe.dj dm527 (Dj.un_l d375 (Dj.un_l d385 (Dj.box d98))) ex406) (Dj.un_l (DomLe.dj dm532 (Dj.un_l d375 (Dj.un_l d385 (Dj.box d98))) ex406) (Dj.un_l (Dj.box d78) (Dj.un_l d358 (Dj.un_l (Dj.box d86) (Dj.un_l d366 (Dj.un_l (Dj.box d94) (Dj.box d98)))))))))
     have ex618 := (ex555.but x558 (Dj.un_l (DomLe.dj dm527 (Dj.un_l d376 (Dj.un_l d386 (Dj.box d99))) ex409) (Dj.un_l (DomLe.dj dm532 (Dj.un_l d376 (Dj.un_l d386 (Dj.box d99))) ex409) (Dj.un_l (Dj.box d79) (Dj.un_l d359 (Dj.un_l (Dj.box d87) (Dj.un_l d367 (Dj.un_l (Dj.box d95) (Dj.box d99)))))))))
     have ex619 := (ex556.but x558 (Dj.un_l (DomLe.dj dm527 (Dj.un_l d377 (Dj.un_l d387 (Dj.box d100))) ex410) (Dj.un_l (DomLe.dj dm532 (Dj.un_l d377 (Dj.un_l d387 (Dj.box d100))) ex410) (Dj.un_l (Dj.box d80) (Dj.un_l d360 (Dj.un_l (Dj.box d88) (Dj.un_l d368 (Dj.un_l (Dj.box d96) (Dj.box d100)))))))))
     refine LP_call 4 rfl rfl rfl cal_164 rfl (impl_search_add_impl_solutions_1_impl_ranges_1_impl_TypeRanges_1_w _ _ _ _ _ _ _ _ H wx557 r ex616 o560 ex561 o565 ex566 ex569 ex617 o571.readf ex572 ex575 o577.readf ex578 ex581 ex618 ex619 ex582 d583 d589 d595 (DomLe.dj dm562 (Dj.un_l (DomLe.dj dm527 (Dj.un_l d374 (Dj.un_l d384 (Dj.box d97))) ex404) (Dj.un_l (DomLe.dj dm532 (Dj.un_l d374 (Dj.un_l d384 (Dj.box d97))) ex404) (Dj.un_l (Dj.box d77) (Dj.un_l d357 (Dj.un_l (Dj.box d85) (Dj.un_l d365 (Dj.un_l (Dj.box d93) (Dj.box d97)))))))) ex548) d584 (DomLe.dj dm562 (Dj.un_l (DomLe.dj dm527 (Dj.un_l d375 (Dj.un_l d385 (Dj.box d98))) ex406) (Dj.un_l (DomLe.dj dm532 (Dj.un_l d375 (Dj.un_l d385 (Dj.box d98))) ex406) (Dj.un_l (Dj.box d78) (Dj.un_l d358 (Dj.un_l (Dj.box d86) (Dj.un_l d366 (Dj.un_l (Dj.box d94) (Dj.box d98)))))))) ex550) d585 d586 d587 d588 (DomLe.dj dm562 (Dj.un_l (DomLe.dj dm527 (Dj.un_l d376 (Dj.un_l d386 (Dj.box d99))) ex409) (Dj.un_l (DomLe.dj dm532 (Dj.un_l d376 (Dj.un_l d386 (Dj.box d99))) ex409) (Dj.un_l (Dj.box d79) (Dj.un_l d359 (Dj.un_l (Dj.box d87) (Dj.un_l d367 (Dj.un_l (Dj.box d95) (Dj.box d99)))))))) ex555) (DomLe.dj dm562 (Dj.un_l (DomLe.dj dm527 (Dj.un_l d377 (Dj.un_l d387 (Dj.box d100))) ex410) (Dj.un_l (DomLe.dj dm532 (Dj.un_l d377 (Dj.un_l d387 (Dj.box d100))) ex410) (Dj.un_l (Dj.box d80) (Dj.un_l d360 (Dj.un_l (Dj.box d88) (Dj.un_l d368 (Dj.un_l (Dj.box d96) (Dj.box d100)))))))) ex556) (DomLe.dj dm567 (Dj.un_l (DomLe.dj dm527 (Dj.un_l d374 (Dj.un_l d384 (Dj.box d97))) ex404) (Dj.un_l (DomLe.dj dm532 (Dj.un_l d374 (Dj.un_l d384 (Dj.box d97))) ex404) (Dj.un_l (Dj.box d77) (Dj.un_l d357 (Dj.un_l (Dj.box d85) (Dj.un_l d365 (Dj.un_l (Dj.box d93) (Dj.box d97)))))))) ex548) d590 (DomLe.dj dm567 (Dj.un_l (DomLe.dj dm527 (Dj.un_l d375 (Dj.un_l d385 (Dj.box d98))) ex406) (Dj.un_l (DomLe.dj dm532 (Dj.un_l d375 (Dj.un_l d385 (Dj.box d98))) ex406) (Dj.un_l (Dj.box d78) (Dj.un_l d358 (Dj.un_l (Dj.box d86) (Dj.un_l d366 (Dj.un_l (Dj.box d94) (Dj.box d98)))))))) ex550) d591 d592 d593 d594 (DomLe.dj dm567 (Dj.un_l (DomLe.dj dm527 (Dj.un_l d376 (Dj.un_l d386 (Dj.box d99))) ex409) (Dj.un_l (DomLe.dj dm532 (Dj.un_l d376 (Dj.un_l d386 (Dj.box d99))) ex409) (Dj.un_l (Dj.box d79) (Dj.un_l d359 (Dj.un_l (Dj.box d87) (Dj.un_l d367 (Dj.un_l (Dj.box d95) (Dj.box d99)))))))) ex555) (DomLe.dj dm567 (Dj.un_l (DomLe.dj dm527 (Dj.un_l d377 (Dj.un_l d387 (Dj.box d100))) ex410) (Dj.un_l (DomLe.dj dm532 (Dj.un_l d377 (Dj.un_l d387 (Dj.box d100))) ex410) (Dj.un_l (Dj.box d80) (Dj.un_l d360 (Dj.un_l (Dj.box d88) (Dj.un_l d368 (Dj.un_l (Dj.box d96) (Dj.box d100)))))))) ex556) (Dj.box d97) (Dj.box (Dj.box d58.symm).symm).symm (Dj.box d98) d601.symm (Dj.box (Dj.box d65.symm).symm).symm d604.symm (Dj.box (Dj.box d68.symm).symm).symm (Dj.box d99) (Dj.box d100)) ?_
     rintro _ wx620 ⟨r614, r615, vx626, hx622, vx631, hx627, H, rfl, x621, HF⟩
     revert HF
     refine bb9 fun o623 ex624 dm625 o628 ex629 dm630 ex632 d633 => ?_
     refine bb2 fun d634 d635 => ?_
     obtain ⟨a636, c637, rfl⟩ := o623.shape
     obtain ⟨a638, c639, rfl⟩ := o628.shape
     refine LP_end _ rfl ?_
     refine W_seq ?_
     refine W_region ?_
     refine LP_ev ok 0 [(108, .bool r542), (109, .bool (!r542))] 2 rfl rfl ?_
     refine LP_end _ rfl ?_
     refine W_cond (!r542) rfl (fun hc640 => ?_) (fun hc640 => ?_)
     ·have H := H.1 hc640
      refine W_seq ?_
      refine W_region ?_
      refine LP_ev ok 0 [(6, .bool false)] 1 rfl rfl ?_
      refine LP_end _ rfl ?_
      refine W_ret ?_
      have X641 := (X416.step x523 (DomLe.un f333 (DomLe.un f339 (DomLe.dom D107 single_dom))))
      have X642 := (X641.step x558 (DomLe.un (DomLe.trans (DomLe.un f333 (DomLe.un f339 (DomLe.dom D107 single_dom))) dm527 X416.size) (DomLe.un (DomLe.trans (DomLe.un f333 (DomLe.un f339 (DomLe.dom D107 single_dom))) dm532 X416.size) (DomLe.un (DomLe.dom D102 single_dom) (DomLe.un f321 (DomLe.un (DomLe.dom D104 single_dom) (DomLe.un f327 (DomLe.un (DomLe.dom D106 single_dom) (DomLe.dom D107 single_dom)))))))))
      have ex643 := (ex569.but x621 (Dj.un_l d584 (Dj.un_l d590 (Dj.box (Dj.box d58.symm).symm).symm)))
      have ex644 := (ex572.but x621 (Dj.un_l d585 (Dj.un_l d591 d601.symm)))
      have ex645 := (ex575.but x621 (Dj.un_l d586 (Dj.un_l d592 (Dj.box (Dj.box d65.symm).symm).symm)))
      have ex646 := (ex578.but x621 (Dj.un_l d587 (Dj.un_l d593 d604.symm)))
      have ex647 := (ex581.but x621 (Dj.un_l d588 (Dj.un_l d594 (Dj.box (Dj.box d68.symm).symm).symm)))
      have X648 := (X642.step x621 (DomLe.un (DomLe.trans (DomLe.un (DomLe.trans (DomLe.un f333 (DomLe.un f339 (DomLe.dom D107 single_dom))) dm527 X416.size) (DomLe.un (DomLe.trans (DomLe.un f333 (DomLe.un f339 (DomLe.dom D107 single_dom))) dm532 X416.size) (DomLe.un (DomLe.dom D102 single_dom) (DomLe.un f321 (DomLe.un (DomLe.dom D104 single_dom) (DomLe.un f327 (DomLe.un (DomLe.dom D106 single_dom) (DomLe.dom D107 single_dom)))))))) dm562 X641.size) (DomLe.un (DomLe.trans (DomLe.un (DomLe.trans (DomLe.un f333 (DomLe.un f339 (DomLe.dom D107 single_dom))) dm527 X416.size) (DomLe.un (DomLe.trans (DomLe.un f333 (DomLe.un f339 (DomLe.dom D107 single_dom))) dm532 X416.size) (DomLe.un (DomLe.dom D102 single_dom) (DomLe.un f321 (DomLe.un (DomLe.dom D104 single_dom) (DomLe.un f327 (DomLe.un (DomLe.dom D106 single_dom) (DomLe.dom D107 single_dom)))))))) dm567 X641.size) (DomLe.dom D107 single_dom))))
      subst hM
      exact ⟨_, Ret_of [.bool false] ⟨⟨rfl, rfl⟩, trivial⟩, _, _, _, _, _, _, _, _, _, _, _, _, _, _, H, rfl, X648, o623, ex624, (DomLe.trans (DomLe.un (DomLe.trans (DomLe.un (DomLe.trans (DomLe.un f333 (DomLe.un f339 (DomLe.dom D107 single_dom))) dm527 X416.size) (DomLe.un (DomLe.trans (DomLe.un f333 (DomLe.un f339 (DomLe.dom D107 single_dom))) dm532 X416.size) (DomLe.un (DomLe.dom D102 single_dom) (DomLe.un f321 (DomLe.un (DomLe.dom D104 single_dom) (DomLe.un f327 (DomLe.un (DomLe.dom D106 single_dom) (DomLe.dom D107 single_dom)))))))) dm562 X641.size) (DomLe.un (DomLe.trans (DomLe.un (DomLe.trans (DomLe.un f333 (DomLe.un f339 (DomLe.dom D107 single_dom))) dm527 X416.size) (DomLe.un (DomLe.trans (DomLe.un f333 (DomLe.un f339 (DomLe.dom D107 single_dom))) dm532 X416.size) (DomLe.un (DomLe.dom D102 single_dom) (DomLe.un f321 (DomLe.un (DomLe.dom D104 single_dom) (DomLe.un f327 (DomLe.un (DomLe.dom D106 single_dom) (DomLe.dom D107 single_dom)))))))) dm567 X641.size) (DomLe.dom D107 single_dom))) dm625 X642.size), o628, ex629, (DomLe.trans (DomLe.un (DomLe.trans (DomLe.un (DomLe.trans (DomLe.un f333 (DomLe.un f339 (DomLe.dom D107 single_dom))) dm527 X416.size) (DomLe.un (DomLe.trans (DomLe.un f333 (DomLe.un f339 (DomLe.dom D107 single_dom))) dm532 X416.size) (DomLe.un (DomLe.dom D102 single_dom) (DomLe.un f321 (DomLe.un (DomLe.dom D104 single_dom) (DomLe.un f327 (DomLe.un (DomLe.dom D106 single_dom) (DomLe.dom D107 single_dom)))))))) dm562 X641.size) (DomLe.un (DomLe.trans (DomLe.un (DomLe.trans (DomLe.un f333 (DomLe.un f339 (DomLe.dom D107 single_dom))) dm527 X416.size) (DomLe.un (DomLe.trans (DomLe.un f333 (DomLe.un f339 (DomLe.dom D107 single_dom))) dm532 X416.size) (DomLe.un (DomLe.dom D102 single_dom) (DomLe.un f321 (DomLe.un (DomLe.dom D104 single_dom) (DomLe.un f327 (DomLe.un (DomLe.dom D106 single_dom) (DomLe.dom D107 single_dom)))))))) dm567 X641.size) (DomLe.dom D107 single_dom))) dm630 X642.size), ex643, o571, ex644, (DomLe.trans (DomLe.un (DomLe.trans (DomLe.un f333 (DomLe.un f339 (DomLe.dom D107 single_dom))) dm527 X416.size) (DomLe.un (DomLe.trans (DomLe.un f333 (DomLe.un f339 (DomLe.dom D107 single_dom))) dm532 X416.size) (DomLe.un (DomLe.dom D102 single_dom) (DomLe.un f321 (DomLe.un (DomLe.dom D104 single_dom) (DomLe.un f327 (DomLe.un (DomLe.dom D106 single_dom) (DomLe.dom D107 single_dom)))))))) dm573 X641.size), ex645, o577, ex646, (DomLe.trans (DomLe.un (DomLe.trans (DomLe.un f333 (DomLe.un f339 (DomLe.dom D107 single_dom))) dm527 X416.size) (DomLe.un (DomLe.trans (DomLe.un f333 (DomLe.un f339 (DomLe.dom D107 single_dom))) dm532 X416.size) (DomLe.un (DomLe.dom D102 single_dom) (DomLe.un f321 (DomLe.un (DomLe.dom D104 single_dom) (DomLe.un f327 (DomLe.un (DomLe.dom D106 single_dom) (DomLe.dom D107 single_dom)))))))) dm579 X641.size), ex647, ex632, d633, (DomLe.dj dm625 (Dj.un_l d584 (Dj.un_l d590 (Dj.box (Dj.box d58.symm).symm).symm)) ex569), (DomLe.dj dm625 (Dj.un_l d585 (Dj.un_l d591 d601.symm)) ex572), (DomLe.dj dm625 (Dj.un_l d586 (Dj.un_l d592 (Dj.box (Dj.box d65.symm).symm).symm)) ex575), (DomLe.dj dm625 (Dj.un_l d587 (Dj.un_l d593 d604.symm)) ex578), (DomLe.dj dm625 (Dj.un_l d588 (Dj.un_l d594 (Dj.box (Dj.box d68.symm).symm).symm)) ex581), d634, (DomLe.dj dm630 (Dj.un_l d584 (Dj.un_l d590 (Dj.box (Dj.box d58.symm).symm).symm)) ex569), (DomLe.dj dm630 (Dj.un_l d585 (Dj.un_l d591 d601.symm)) ex572), (DomLe.dj dm630 (Dj.un_l d586 (Dj.un_l d592 (Dj.box (Dj.box d65.symm).symm).symm)) ex575), (DomLe.dj dm630 (Dj.un_l d587 (Dj.un_l d593 d604.symm)) ex578), (DomLe.dj dm630 (Dj.un_l d588 (Dj.un_l d594 (Dj.box (Dj.box d68.symm).symm).symm)) ex581), d635, d596, d597, d598, d599, d600, (Dj.box d601.symm).symm, d602, d603, (Dj.box d604.symm).symm, cn605⟩
     have H := H.2 hc640
     refine W_skip ?_
     refine W_region ?_
     refine LP_ev ok 0 [(56, I n), (57, I (wr (n + 1))), (9, I (wr (n + 1)))] 3 rfl rfl ?_
     refine LP_end _ rfl ?_
     try refine W_forget [(0, pb b40), (1, I k), (2, I left), (9, I (wr (n + 1)))] ⟨rfl, rfl, rfl, rfl, trivial⟩ fun ρ => ?_
     have X649 := (X416.step x523 (DomLe.un f333 (DomLe.un f339 (DomLe.dom D107 single_dom))))
     have X650 := (((X416.step x523 (DomLe.un f333 (DomLe.un f339 (DomLe.dom D107 single_dom)))).step x558 (DomLe.un (DomLe.trans (DomLe.un f333 (DomLe.un f339 (DomLe.dom D107 single_dom))) dm527 X416.size) (DomLe.un (DomLe.trans (DomLe.un f333 (DomLe.un f339 (DomLe.dom D107 single_dom))) dm532 X416.size) (DomLe.un (DomLe.dom D102 single_dom) (DomLe.un f321 (DomLe.un (DomLe.dom D104 single_dom) (DomLe.un f327 (DomLe.un (DomLe.dom D106 single_dom) (DomLe.dom D107 single_dom))))))))).step x621 (DomLe.un (DomLe.trans (DomLe.un (DomLe.trans (DomLe.un f333 (DomLe.un f339 (DomLe.dom D107 single_dom))) dm527 X416.size) (DomLe.un (DomLe.trans (DomLe.un f333 (DomLe.un f339 (DomLe.dom D107 single_dom))) dm532 X416.size) (DomLe.un (DomLe.dom D102 single_dom) (DomLe.un f321 (DomLe.un (DomLe.dom D104 single_dom) (DomLe.un f327 (DomLe.un (DomLe.dom D106 single_dom) (DomLe.dom D107 single_dom)))))))) dm562 X649.size) (DomLe.un (DomLe.trans (DomLe.un (DomLe.trans (DomLe.un f333 (DomLe.un f339 (DomLe.dom D107 single_dom))) dm527 X416.size) (DomLe.un (DomLe.trans (DomLe.un f333 (DomLe.un f339 (DomLe.dom D107 single_dom))) dm532 X416.size) (DomLe.un (DomLe.dom D102 single_dom) (DomLe.un f321 (DomLe.un (DomLe.dom D104 single_dom) (DomLe.un f327 (DomLe.un (DomLe.dom D106 single_dom) (DomLe.dom D107 single_dom)))))))) dm567 X649.size) (DomLe.dom D107 single_dom))))
     have ex651 := (ex572.but x621 (Dj.un_l d585 (Dj.un_l d591 d601.symm)))
     have ex652 := (ex578.but x621 (Dj.un_l d587 (Dj.un_l d593 d604.symm)))
     have X653 := (X649.step x558 (DomLe.un (DomLe.trans (DomLe.un f333 (DomLe.un f339 (DomLe.dom D107 single_dom))) dm527 X416.size) (DomLe.un (DomLe.trans (DomLe.un f333 (DomLe.un f339 (DomLe.dom D107 single_dom))) dm532 X416.size) (DomLe.un (DomLe.dom D102 single_dom) (DomLe.un f321 (DomLe.un (DomLe.dom D104 single_dom) (DomLe.un f327 (DomLe.un (DomLe.dom D106 single_dom) (DomLe.dom D107 single_dom)))))))))
     have ex654 := (ex616.but x621 (Dj.un_l (DomLe.dj dm562 (Dj.un_l (DomLe.dj dm527 (Dj.un_l d374 (Dj.un_l d384 (Dj.box d97))) ex404) (Dj.un_l (DomLe.dj dm532 (Dj.un_l d374 (Dj.un_l d384 (Dj.box d97))) ex404) (Dj.un_l (Dj.box d77) (Dj.un_l d357 (Dj.un_l (Dj.box d85) (Dj.un_l d365 (Dj.un_l (Dj.box d93) (Dj.box d97)))))))) ex548) (Dj.un_l (DomLe.dj dm567 (Dj.un_l (DomLe.dj dm527 (Dj.un_l d374 (Dj.un_l d384 (Dj.box d97))) ex404) (Dj.un_l (DomLe.dj dm532 (Dj.un_l d374 (Dj.un_l d384 (Dj.box d97))) ex404) (Dj.un_l (Dj.box d77) (Dj.un_l d357 (Dj.un_l (Dj.box d85) (Dj.un_l d365 (Dj.un_l (Dj.box d93) (Dj.box d97)))))))) ex548) (Dj.box d97))))
     have ex655 := (ex617.but x621 (Dj.un_l (DomLe.dj dm562 (Dj.un_l (DomLe.dj dm527 (Dj.un_l d375 (Dj.un_l d385 (Dj.box d98))) ex406) (Dj.un_l (DomLe.dj dm532 (Dj.un_l d375 (Dj.un_l d385 (Dj.box d98))) ex406) (Dj.un_l (Dj.box d78) (Dj.un_l d358 (Dj.un_l (Dj.box d86) (Dj.un_l d366 (Dj.un_l (Dj.box d94) (Dj.box d98)))))))) ex550) (Dj.un_l (DomLe.dj dm567 (Dj.un_l (DomLe.dj dm527 (Dj.un_l d375 (Dj.un_l d385 (Dj.box d98))) ex406) (Dj.un_l (DomLe.dj dm532 (Dj.un_l d375 (Dj.un_l d385 (Dj.box d98))) ex406) (Dj.un_l (Dj.box d78) (Dj.un_l d358 (Dj.un_l (Dj.box d86) (Dj.un_l d366 (Dj.un_l (Dj.box d94) (Dj.box d98)))))))) ex550) (Dj.box d98))))
     have ex656 := (ex618.but x621 (Dj.un_l (DomLe.dj dm562 (Dj.un_l (DomLe.dj dm527 (Dj.un_l d376 (Dj.un_l d386 (Dj.box d99))) ex409) (Dj.un_l (DomLe.dj dm532 (Dj.un_l d376 (Dj.un_l d386 (Dj.box d99))) ex409) (Dj.un_l (Dj.box d79) (Dj.un_l d359 (Dj.un_l (Dj.box d87) (Dj.un_l d367 (Dj.un_l (Dj.box d95) (Dj.box d99)))))))) ex555) (Dj.un_l (DomLe.dj dm567 (Dj.un_l (DomLe.dj dm527 (Dj.un_l d376 (Dj.un_l d386 (Dj.box d99))) ex409) (Dj.un_l (DomLe.dj dm532 (Dj.un_l d376 (Dj.un_l d386 (Dj.box d99))) ex409) (Dj.un_l (Dj.box d79) (Dj.un_l d359 (Dj.un_l (Dj.box d87) (Dj.un_l d367 (Dj.un_l (Dj.box d95) (Dj.box d99)))))))) ex555) (Dj.box d99))))
     have ex657 := (ex619.but x621 (Dj.un_l (DomLe.dj dm562 (Dj.un_l (DomLe.dj dm527 (Dj.un_l d377 (Dj.un_l d387 (Dj.box d100))) ex410) (Dj.un_l (DomLe.dj dm532 (Dj.un_l d377 (Dj.un_l d387 (Dj.box d100))) ex410) (Dj.un_l (Dj.box d80) (Dj.un_l d360 (Dj.un_l (Dj.box d88) (Dj.un_l d368 (Dj.un_l (Dj.box d96) (Dj.box d100)))))))) ex556) (Dj.un_l (DomLe.dj dm567 (Dj.un_l (DomLe.dj dm527 (Dj.un_l d377 (Dj.un_l d387 (Dj.box d100))) ex410) (Dj.un_l (DomLe.dj dm532 (Dj.un_l d377 (Dj.un_l d387 (Dj.box d100))) ex410) (Dj.un_l (Dj.box d80) (Dj.un_l d360 (Dj.un_l (Dj.box d88) (Dj.un_l d368 (Dj.un_l (Dj.box d96) (Dj.box d100)))))))) ex556) (Dj.box d100))))
     have ex658 := (ex569.but x621 (Dj.un_l d584 (Dj.un_l d590 (Dj.box (Dj.box d58.symm).symm).symm)))
     have ex659 := (ex575.but x621 (Dj.un_l d586 (Dj.un_l d592 (Dj.box (Dj.box d65.symm).symm).symm)))
     have ex660 := (ex581.but x621 (Dj.un_l d588 (Dj.un_l d594 (Dj.box (Dj.box d68.symm).symm).symm)))
     exact ⟨(wr (n + 1), r545, r546, r547, r614, r615), ⟨H.1, _, sl a610 r546 c611, hx570, sl a612 r547 c613, hx576, sl a636 r614 c637, hx622, sl a638 r615 c639, hx627, env_eq ⟨rfl, rfl, rfl, rfl, trivial⟩, X650, o571, ex651, (DomLe.trans (DomLe.un (DomLe.trans (DomLe.un f333 (DomLe.un f339 (DomLe.dom D107 single_dom))) dm527 X416.size) (DomLe.un (DomLe.trans (DomLe.un f333 (DomLe.un f339 (DomLe.dom D107 single_dom))) dm532 X416.size) (DomLe.un (DomLe.dom D102 single_dom) (DomLe.un f321 (DomLe.un (DomLe.dom D104 single_dom) (DomLe.un f327 (DomLe.un (DomLe.dom D106 single_dom) (DomLe.dom D107 single_dom)))))))) dm573 X649.size), o577, ex652, (DomLe.trans (DomLe.un (DomLe.trans (DomLe.un f333 (DomLe.un f339 (DomLe.dom D107 single_dom))) dm527 X416.size) (DomLe.un (DomLe.trans (DomLe.un f333 (DomLe.un f339 (DomLe.dom D107 single_dom))) dm532 X416.size) (DomLe.un (DomLe.dom D102 single_dom) (DomLe.un f321 (DomLe.un (DomLe.dom D104 single_dom) (DomLe.un f327 (DomLe.un (DomLe.dom D106 single_dom) (DomLe.dom D107 single_dom)))))))) dm579 X649.size), o623, ex624, (DomLe.trans (DomLe.un (DomLe.trans (DomLe.un (DomLe.trans (DomLe.un f333 (DomLe.un f339 (DomLe.dom D107 single_dom))) dm527 X416.size) (DomLe.un (DomLe.trans (DomLe.un f333 (DomLe.un f339 (DomLe.dom D107 single_dom))) dm532 X416.size) (DomLe.un (DomLe.dom D102 single_dom) (DomLe.un f321 (DomLe.un (DomLe.dom D104 single_dom) (DomLe.un f327 (DomLe.un (DomLe.dom D106 single_dom) (DomLe.dom D107 single_dom)))))))) dm562 X649.size) (DomLe.un (DomLe.trans (DomLe.un (DomLe.trans (DomLe.un f333 (DomLe.un f339 (DomLe.dom D107 single_dom))) dm527 X416.size) (DomLe.un (DomLe.trans (DomLe.un f333 (DomLe.un f339 (DomLe.dom D107 single_dom))) dm532 X416.size) (DomLe.un (DomLe.dom D102 single_dom) (DomLe.un f321 (DomLe.un (DomLe.dom D104 single_dom) (DomLe.un f327 (DomLe.un (DomLe.dom D106 single_dom) (DomLe.dom D107 single_dom)))))))) dm567 X649.size) (DomLe.dom D107 single_dom))) dm625 X653.size), o628, ex629, (DomLe.trans (DomLe.un (DomLe.trans (DomLe.un (DomLe.trans (DomLe.un f333 (DomLe.un f339 (DomLe.dom D107 single_dom))) dm527 X416.size) (DomLe.un (DomLe.trans (DomLe.un f333 (DomLe.un f339 (DomLe.dom D107 single_dom))) dm532 X416.size) (DomLe.un (DomLe.dom D102 single_dom) (DomLe.un f321 (DomLe.un (DomLe.dom D104 single_dom) (DomLe.un f327 (DomLe.un (DomLe.dom D106 single_dom) (DomLe.dom D107 single_dom)))))))) dm562 X649.size) (DomLe.un (DomLe.trans (DomLe.un (DomLe.trans (DomLe.un f333 (DomLe.un f339 (DomLe.dom D107 single_dom))) dm527 X416.size) (DomLe.un (DomLe.trans (DomLe.un f333 (DomLe.un f339 (DomLe.dom D107 single_dom))) dm532 X416.size) (DomLe.un (DomLe.dom D102 single_dom) (DomLe.un f321 (DomLe.un (DomLe.dom D104 single_dom) (DomLe.un f327 (DomLe.un (DomLe.dom D106 single_dom) (DomLe.dom D107 single_dom)))))))) dm567 X649.size) (DomLe.dom D107 single_dom))) dm630 X653.size), ex654, ex655, ex656, ex657, ex658, ex659, ex660, ex632, (DomLe.dj dm573 (Dj.un_l (DomLe.dj dm527 (Dj.un_l d374 (Dj.un_l d384 (Dj.box d97))) ex404) (Dj.un_l (DomLe.dj dm532 (Dj.un_l d374 (Dj.un_l d384 (Dj.box d97))) ex404) (Dj.un_l (Dj.box d77) (Dj.un_l d357 (Dj.un_l (Dj.box d85) (Dj.un_l d365 (Dj.un_l (Dj.box d93) (Dj.box d97)))))))) ex548), (DomLe.dj dm573 (Dj.un_l (DomLe.dj dm527 (Dj.un_l d375 (Dj.un_l d385 (Dj.box d98))) ex406) (Dj.un_l (DomLe.dj dm532 (Dj.un_l d375 (Dj.un_l d385 (Dj.box d98))) ex406) (Dj.un_l (Dj.box d78) (Dj.un_l d358 (Dj.un_l (Dj.box d86) (Dj.un_l d366 (Dj.un_l (Dj.box d94) (Dj.box d98)))))))) ex550), (DomLe.dj dm573 (Dj.un_l (DomLe.dj dm527 (Dj.un_l d376 (Dj.un_l d386 (Dj.box d99))) ex409) (Dj.un_l (DomLe.dj dm532 (Dj.un_l d376 (Dj.un_l d386 (Dj.box d99))) ex409) (Dj.un_l (Dj.box d79) (Dj.un_l d359 (Dj.un_l (Dj.box d87) (Dj.un_l d367 (Dj.un_l (Dj.box d95) (Dj.box d99)))))))) ex555), (DomLe.dj dm573 (Dj.un_l (DomLe.dj dm527 (Dj.un_l d377 (Dj.un_l d387 (Dj.box d100))) ex410) (Dj.un_l (DomLe.dj dm532 (Dj.un_l d377 (Dj.un_l d387 (Dj.box d100))) ex410) (Dj.un_l (Dj.box d80) (Dj.un_l d360 (Dj.un_l (Dj.box d88) (Dj.un_l d368 (Dj.un_l (Dj.box d96) (Dj.box d100)))))))) ex556), d596.symm, d598, d600, (Dj.box d601.symm).symm, (DomLe.dj dm579 (Dj.un_l (DomLe.dj dm527 (Dj.un_l d374 (Dj.un_l d384 (Dj.box d97))) ex404) (Dj.un_l (DomLe.dj dm532 (Dj.un_l d374 (Dj.un_l d384 (Dj.box d97))) ex404) (Dj.un_l (Dj.box d77) (Dj.un_l d357 (Dj.un_l (Dj.box d85) (Dj.un_l d365 (Dj.un_l (Dj.box d93) (Dj.box d97)))))))) ex548), (DomLe.dj dm579 (Dj.un_l (DomLe.dj dm527 (Dj.un_l d375 (Dj.un_l d385 (Dj.box d98))) ex406) (Dj.un_l (DomLe.dj dm532 (Dj.un_l d375 (Dj.un_l d385 (Dj.box d98))) ex406) (Dj.un_l (Dj.box d78) (Dj.un_l d358 (Dj.un_l (Dj.box d86) (Dj.un_l d366 (Dj.un_l (Dj.box d94) (Dj.box d98)))))))) ex550), (DomLe.dj dm579 (Dj.un_l (DomLe.dj dm527 (Dj.un_l d376 (Dj.un_l d386 (Dj.box d99))) ex409) (Dj.un_l (DomLe.dj dm532 (Dj.un_l d376 (Dj.un_l d386 (Dj.box d99))) ex409) (Dj.un_l (Dj.box d79) (Dj.un_l d359 (Dj.un_l (Dj.box d87) (Dj.un_l d367 (Dj.un_l (Dj.box d95) (Dj.box d99)))))))) ex555), (DomLe.dj dm579 (Dj.un_l (DomLe.dj dm527 (Dj.un_l d377 (Dj.un_l d387 (Dj.box d100))) ex410) (Dj.un_l (DomLe.dj dm532 (Dj.un_l d377 (Dj.un_l d387 (Dj.box d100))) ex410) (Dj.un_l (Dj.box d80) (Dj.un_l d360 (Dj.un_l (Dj.box d88) (Dj.un_l d368 (Dj.un_l (Dj.box d96) (Dj.box d100)))))))) ex556), d597.symm, d602.symm, d603, (Dj.box d604.symm).symm, d599.symm, (DomLe.dj dm625 (Dj.un_l (DomLe.dj dm562 (Dj.un_l (DomLe.dj dm527 (Dj.un_l d374 (Dj.un_l d384 (Dj.box d97))) ex404) (Dj.un_l (DomLe.dj dm532 (Dj.un_l d374 (Dj.un_l d384 (Dj.box d97))) ex404) (Dj.un_l (Dj.box d77) (Dj.un_l d357 (Dj.un_l (Dj.box d85) (Dj.un_l d365 (Dj.un_l (Dj.box d93) (Dj.box d97)))))))) ex548) (Dj.un_l (DomLe.dj dm567 (Dj.un_l (DomLe.dj dm527 (Dj.un_l d374 (Dj.un_l d384 (Dj.box d97))) ex404) (Dj.un_l (DomLe.dj dm532 (Dj.un_l d374 (Dj.un_l d384 (Dj.box d97))) ex404) (Dj.un_l (Dj.box d77) (Dj.un_l d357 (Dj.un_l (Dj.box d85) (Dj.un_l d365 (Dj.un_l (Dj.box d93) (Dj.box d97)))))))) ex548) (Dj.box d97))) ex616), (DomLe.dj dm625 (Dj.un_l (DomLe.dj dm562 (Dj.un_l (DomLe.dj dm527 (Dj.un_l d375 (Dj.un_l d385 (Dj.box d98))) ex406) (Dj.un_l (DomLe.dj dm532 (Dj.un_l d375 (Dj.un_l d385 (Dj.box d98))) ex406) (Dj.un_l (Dj.box d78) (Dj.un_l d358 (Dj.un_l (Dj.box d86) (Dj.un_l d366 (Dj.un_l (Dj.box d94) (Dj.box d98)))))))) ex550) (Dj.un_l (DomLe.dj dm567 (Dj.un_l (DomLe.dj dm527 (Dj.un_l d375 (Dj.un_l d385 (Dj.box d98))) ex406) (Dj.un_l (DomLe.dj dm532 (Dj.un_l d375 (Dj.un_l d385 (Dj.box d98))) ex406) (Dj.un_l (Dj.box d78) (Dj.un_l d358 (Dj.un_l (Dj.box d86) (Dj.un_l d366 (Dj.un_l (Dj.box d94) (Dj.box d98)))))))) ex550) (Dj.box d98))) ex617), (DomLe.dj dm625 (Dj.un_l (DomLe.dj dm562 (Dj.un_l (DomLe.dj dm527 (Dj.un_l d376 (Dj.un_l d386 (Dj.box d99))) ex409) (Dj.un_l (DomLe.dj dm532 (Dj.un_l d376 (Dj.un_l d386 (Dj.box d99))) ex409) (Dj.un_l (Dj.box d79) (Dj.un_l d359 (Dj.un_l (Dj.box d87) (Dj.un_l d367 (Dj.un_l (Dj.box d95) (Dj.box d99)))))))) ex555) (Dj.un_l (DomLe.dj dm567 (Dj.un_l (DomLe.dj dm527 (Dj.un_l d376 (Dj.un_l d386 (Dj.box d99))) ex409) (Dj.un_l (DomLe.dj dm532 (Dj.un_l d376 (Dj.un_l d386 (Dj.box d99))) ex409) (Dj.un_l (Dj.box d79) (Dj.un_l d359 (Dj.un_l (Dj.box d87) (Dj.un_l d367 (Dj.un_l (Dj.box d95) (Dj.box d99)))))))) ex555) (Dj.box d99))) ex618), (DomLe.dj dm625 (Dj.un_l (DomLe.dj dm562 (Dj.un_l (DomLe.dj dm527 (Dj.un_l d377 (Dj.un_l d387 (Dj.box d100))) ex410) (Dj.un_l (DomLe.dj dm532 (Dj.un_l d377 (Dj.un_l d387 (Dj.box d100))) ex410) (Dj.un_l (Dj.box d80) (Dj.un_l d360 (Dj.un_l (Dj.box d88) (Dj.un_l d368 (Dj.un_l (Dj.box d96) (Dj.box d100)))))))) ex556) (Dj.un_l (DomLe.dj dm567 (Dj.un_l (DomLe.dj dm527 (Dj.un_l d377 (Dj.un_l d387 (Dj.box d100))) ex410) (Dj.un_l (DomLe.dj dm532 (Dj.un_l d377 (Dj.un_l d387 (Dj.box d100))) ex410) (Dj.un_l (Dj.box d80) (Dj.un_l d360 (Dj.un_l (Dj.box d88) (Dj.un_l d368 (Dj.un_l (Dj.box d96) (Dj.box d100)))))))) ex556) (Dj.box d100))) ex619), (DomLe.dj dm625 (Dj.un_l d584 (Dj.un_l d590 (Dj.box (Dj.box d58.symm).symm).symm)) ex569), (DomLe.dj dm625 (Dj.un_l d586 (Dj.un_l d592 (Dj.box (Dj.box d65.symm).symm).symm)) ex575), (DomLe.dj dm625 (Dj.un_l d588 (Dj.un_l d594 (Dj.box (Dj.box d68.symm).symm).symm)) ex581), d634, (DomLe.dj dm625 (Dj.un_l d585 (Dj.un_l d591 d601.symm)) ex572), (DomLe.dj dm625 (Dj.un_l d587 (Dj.un_l d593 d604.symm)) ex578), (DomLe.dj dm630 (Dj.un_l (DomLe.dj dm562 (Dj.un_l (DomLe.dj dm527 (Dj.un_l d374 (Dj.un_l d384 (Dj.box d97))) ex404) (Dj.un_l (DomLe.dj dm532 (Dj.un_l d374 (Dj.un_l d384 (Dj.box d97))) ex404) (Dj.un_l (Dj.box d77) (Dj.un_l d357 (Dj.un_l (Dj.box d85) (Dj.un_l d365 (Dj.un_l (Dj.box d93) (Dj.box d97)))))))) ex548) (Dj.un_l (DomLe.dj dm567 (Dj.un_l (DomLe.dj dm527 (Dj.un_l d374 (Dj.un_l d384 (Dj.box d97))) ex404) (Dj.un_l (DomLe.dj dm532 (Dj.un_l d374 (Dj.un_l d384 (Dj.box d97))) ex404) (Dj.un_l (Dj.box d77) (Dj.un_l d357 (Dj.un_l (Dj.box d85) (Dj.un_l d365 (Dj.un_l (Dj.box d93) (Dj.box d97)))))))) ex548) (Dj.box d97))) ex616), (DomLe.dj dm630 (Dj.un_l (DomLe.dj dm562 (Dj.un_l (DomLe.dj dm527 (Dj.un_l d375 (Dj.un_l d385 (Dj.box d98))) ex406) (Dj.un_l (DomLe.dj dm532 (Dj.un_l d375 (Dj.un_l d385 (Dj.box d98))) ex406) (Dj.un_l (Dj.box d78) (Dj.un_l d358 (Dj.un_l (Dj.box d86) (Dj.un_l d366 (Dj.un_l (Dj.box d94) (Dj.box d98)))))))) ex550) (Dj.un_l (DomLe.dj dm567 (Dj.un_l (DomLe.dj dm527 (Dj.un_l d375 (Dj.un_l d385 (Dj.box d98))) ex406) (Dj.un_l (DomLe.dj dm532 (Dj.un_l d375 (Dj.un_l d385 (Dj.box d98))) ex406) (Dj.un_l (Dj.box d78) (Dj.un_l d358 (Dj.un_l (Dj.box d86) (Dj.un_l d366 (Dj.un_l (Dj.box d94) (Dj.box d98)))))))) ex550) (Dj.box d98))) ex617), (DomLe.dj dm630 (Dj.un_l (DomLe.dj dm562 (Dj.un_l (DomLe.dj dm527 (Dj.un_l d376 (Dj.un_l d386 (Dj.box d99))) ex409) (Dj.un_l (DomLe.dj dm532 (Dj.un_l d376 (Dj.un_l d386 (Dj.box d99))) ex409) (Dj.un_l (Dj.box d79) (Dj.un_l d359 (Dj.un_l (Dj.box d87) (Dj.un_l d367 (Dj.un_l (Dj.box d95) (Dj.box d99)))))))) ex555) (Dj.un_l (DomLe.dj dm567 (Dj.un_l (DomLe.dj dm527 (Dj.un_l d376 (Dj.un_l d386 (Dj.box d99))) ex409) (Dj.un_l (DomLe.dj dm532 (Dj.un_l d376 (Dj.un_l d386 (Dj.box d99))) ex409) (Dj.un_l (Dj.box d79) (Dj.un_l d359 (Dj.un_l (Dj.box d87) (Dj.un_l d367 (Dj.un_l (Dj.box d95) (Dj.box d99)))))))) ex555) (Dj.box d99))) ex618), (DomLe.dj dm630 (Dj.un_l (DomLe.dj dm562 (Dj.un_l (DomLe.dj dm527 (Dj.un_l d377 (Dj.un_l d387 (Dj.box d100))) ex410) (Dj.un_l (DomLe.dj dm532 (Dj.un_l d377 (Dj.un_l d387 (Dj.box d100))) ex410) (Dj.un_l (Dj.box d80) (Dj.un_l d360 (Dj.un_l (Dj.box d88) (Dj.un_l d368 (Dj.un_l (Dj.box d96) (Dj.box d100)))))))) ex556) (Dj.un_l (DomLe.dj dm567 (Dj.un_l (DomLe.dj dm527 (Dj.un_l d377 (Dj.un_l d387 (Dj.box d100))) ex410) (Dj.un_l (DomLe.dj dm532 (Dj.un_l d377 (Dj.un_l d387 (Dj.box d100))) ex410) (Dj.un_l (Dj.box d80) (Dj.un_l d360 (Dj.un_l (Dj.box d88) (Dj.un_l d368 (Dj.un_l (Dj.box d96) (Dj.box d100)))))))) ex556) (Dj.box d100))) ex619), (DomLe.dj dm630 (Dj.un_l d584 (Dj.un_l d590 (Dj.box (Dj.box d58.symm).symm).symm)) ex569), (DomLe.dj dm630 (Dj.un_l d586 (Dj.un_l d592 (Dj.box (Dj.box d65.symm).symm).symm)) ex575), (DomLe.dj dm630 (Dj.un_l d588 (Dj.un_l d594 (Dj.box (Dj.box d68.symm).symm).symm)) ex581), d635, (DomLe.dj dm630 (Dj.un_l d585 (Dj.un_l d591 d601.symm)) ex572), (DomLe.dj dm630 (Dj.un_l d587 (Dj.un_l d593 d604.symm)) ex578), d633.symm, cn605⟩, H.2⟩
    have H := H.2 hc401
    refine W_exit ?_
    refine (if_pos rfl).mpr ?_
    exact ⟨(x315, x316, x322, counts328, sums334), H, _, sl a345 x316 c346, hx318, sl a347 x322 c348, hx324, sl a349 counts328 c350, hx330, sl a351 sums334 c352, hx336, env_eq trivial, X396, o319, ex320, f321, o325, ex326, f327, o331, ex332, f333, o337, ex338, f339, ex341, ex342, ex343, ex344, ex353, ex354, ex355, ex356, d357, d358, d359, d360, d361, d362, d363, d364, d365, d366, d367, d368, d369, d370, d371, d372, d373, d374, d375, d376, d377, d378, d379, d380, d381, d382, d383, d384, d385, d386, d387, d388, d389, d390, d391, d392, d393, d394, cn395⟩
   rintro ⟨x234, x235, x241, counts, sums⟩ _ wx257 ⟨H, ρ, vx236, hx237, vx242, hx243, vx247, hx248, vx252, hx253, rfl, HF⟩
   revert HF
   refine bb9 fun X313 o238 ex239 f240 o244 ex245 f246 o249 => ?_
   refine bb9 fun ex250 f251 o254 ex255 f256 ex258 ex259 ex260 => ?_
   refine bb9 fun ex261 ex270 ex271 ex272 ex273 d274 d275 d276 => ?_
   refine bb9 fun d277 d278 d279 d280 d281 d282 d283 d284 => ?_
   refine bb9 fun d285 d286 d287 d288 d289 d290 d291 d292 => ?_
   refine bb9 fun d293 d294 d295 d296 d297 d298 d299 d300 => ?_
   refine bb9 fun d301 d302 d303 d304 d305 d306 d307 d308 => ?_
   refine bb4 fun d309 d310 d311 cn312 => ?_
   subst hk
   obtain ⟨a262, c263, rfl⟩ := o238.shape
   obtain ⟨a264, c265, rfl⟩ := o244.shape
   obtain ⟨a266, c267, rfl⟩ := o249.shape
   obtain ⟨a268, c269, rfl⟩ := o254.shape
   refine W_seq ?_
   refine W_region ?_
   refine LP_ev ok 0 [(6, .bool true)] 1 rfl rfl ?_
   refine LP_end _ rfl ?_
   refine W_ret ?_
   subst hM
   exact ⟨_, Ret_of [.bool true] ⟨⟨rfl, rfl⟩, trivial⟩, _, _, _, _, _, _, _, _, _, _, _, _, _, _, H, rfl, X313, o249, ex250, f251, o254, ex255, f256, ex270, o238, ex239, f240, ex271, o244, ex245, f246, ex272, ex273, d311.symm, d295, d299, d296, d300, d297, d298, d305, d309, d306, d310, d307, d308, d278.symm, d286.symm, d279, d290.symm, d280, d281, d287.symm, d288, d289, cn312⟩
 exact key _ x c13 c17 c26 c37 k left Q H0 (Nat.lt_succ_self _) w r ex r3 ex4 r9 ex10 ex14 ex16 r20 ex21 cn ex25 r29 ex30 ex34 ex36 ex39 ex41 d d42 d43 d44 d45 d46 d47 d48 d49 d50 d51 d52 d53 d54 d55 d56 d57 d58 d59 d60 d61 d62 d63 d64 d65 d66 d67 d68 d69 d70 d71 d72 d73 d74 d75 d76 d77 d78 d79 d80 d81 d82 d83 d84 d85 d86 d87 d88 d89 d90 d91 d92 d93 d94 d95 d96 d97 d98 d99 d100

theorem impl_solutions_impl_ranges_1_impl_TypeRanges_1_w (g : Geo) (sx : List Variable) (pubs : List Published) (n : Int) (most : Int) (c14 : List Int) (c23 : List Int) (Q : Int → (List Int) → (List Int) → Prop) (H : impl_solutions_impl_ranges_1_impl_TypeRanges_1 g sx pubs n most c14 c23 Q) (w : World) {vx : Value} {hx : PH} (r : RS hx vx g.Parents) (ex : Sub hx w) {vx1 : Value} {hx2 : PH} (r3 : RS hx2 vx1 sx) (ex4 : Sub hx2 w) {vx7 : Value} {hx8 : PH} (r9 : RS hx8 vx7 pubs) (ex10 : Sub hx8 w) {b : Nat} (ex13 : Sub (bx b 97 [.func (.func 75) #[] #[]]) w) {vx15 : Value} {hx16 : PH} (r17 : OS 3 hx16 emp vx15 c14) (ex18 : Sub hx16 w) (cn : CanV vx15 c14) {b21 : Nat} (ex22 : Sub (bx b21 22 [vx15]) w) {vx24 : Value} {hx25 : PH} (r26 : OS 3 hx25 emp vx24 c23) (ex27 : Sub hx25 w) {b30 : Nat} (ex31 : Sub (bx b30 22 [vx24]) w) (d : Dj hx16 (bx b21 22 [vx15])) (d32 : Dj hx16 hx25) (d33 : Dj hx16 (bx b30 22 [vx24])) (d34 : Dj (bx b21 22 [vx15]) hx25) (d35 : Dj (bx b21 22 [vx15]) (bx b30 22 [vx24])) (d36 : Dj hx25 (bx b30 22 [vx24])) (d37 : Dj hx16 hx) (d38 : Dj hx16 hx2) (d39 : Dj hx16 hx8) (d40 : Dj hx16 (bx b 97 [.func (.func 75) #[] #[]])) (d41 : Dj (bx b21 22 [vx15]) hx) (d42 : Dj (bx b21 22 [vx15]) hx2) (d43 : Dj (bx b21 22 [vx15]) hx8) (d44 : Dj (bx b21 22 [vx15]) (bx b 97 [.func (.func 75) #[] #[]])) (d45 : Dj hx25 hx) (d46 : Dj hx25 hx2) (d47 : Dj hx25 hx8) (d48 : Dj hx25 (bx b 97 [.func (.func 75) #[] #[]])) (d49 : Dj (bx b30 22 [vx24]) hx) (d50 : Dj (bx b30 22 [vx24]) hx2) (d51 : Dj (bx b30 22 [vx24]) hx8) (d52 : Dj (bx b30 22 [vx24]) (bx b 97 [.func (.func 75) #[] #[]])) :
  CallsTo Tryz.prog 65 #[.agg #[vx], vx1, vx7, I n, I most, .func (.func 124) #[] #[pb b, pb b21, pb b30]] w fun v w' => ∃ r0 m1 m3 v1_ k1 v3_ k3, Q r0 m1 m3 ∧ v = I r0 ∧ But (un hx16 (un (bx b21 22 [vx15]) (un hx25 (bx b30 22 [vx24])))) w w' ∧ OS 3 k1 emp v1_ m1 ∧ Sub k1 w' ∧ DomLe (un hx16 (un (bx b21 22 [vx15]) (un hx25 (bx b30 22 [vx24])))) w.heap.size k1 ∧ Sub (bx b21 22 [v1_]) w' ∧ OS 3 k3 emp v3_ m3 ∧ Sub k3 w' ∧ DomLe (un hx16 (un (bx b21 22 [vx15]) (un hx25 (bx b30 22 [vx24])))) w.heap.size k3 ∧ Sub (bx b30 22 [v3_]) w' ∧ Dj k1 (bx b21 22 [v1_]) ∧ Dj k1 k3 ∧ Dj k1 (bx b30 22 [v3_]) ∧ Dj (bx b21 22 [v1_]) k3 ∧ Dj k3 (bx b30 22 [v3_]) ∧ CanV v1_ m1 := by
 obtain ⟨a, c, rfl⟩ := r.shape
 obtain ⟨a5, c6, rfl⟩ := r3.shape
 obtain ⟨a11, c12, rfl⟩ := r9.shape
 obtain ⟨a19, c20, rfl⟩ := r17.shape
 obtain ⟨a28, c29, rfl⟩ := r26.shape
 refine enter (args := [.agg #[sl a g.Parents c], sl a5 sx c6, sl a11 pubs c12, I n, I most, .func (.func 124) #[] #[pb b, pb b21, pb b30]]) 33 Tryz.func65 rfl rfl rfl ?_
 refine W_forget [(0, .agg #[sl a g.Parents c]), (1, sl a5 sx c6), (2, sl a11 pubs c12), (3, I n), (4, I most), (5, .func (.func 124) #[] #[pb b, pb b21, pb b30])] ⟨rfl, rfl, rfl, rfl, rfl, rfl, trivial⟩ fun ρ => ?_
 obtain ⟨M, hM⟩ : ∃ M : PH, M = (un hx16 (un (bx b21 22 [sl a19 c14 c20]) (un hx25 (bx b30 22 [sl a28 c23 c29])))) := ⟨_, rfl⟩
 have D : Dom M hx16 := by subst hM; exact (Dom.l _ _)
 have D53 : Dom M (bx b21 22 [sl a19 c14 c20]) := by subst hM; exact (Dom.trans (Dom.r _ _) (Dom.l _ _))
 have D54 : Dom M hx25 := by subst hM; exact (Dom.trans (Dom.r _ _) (Dom.trans (Dom.r _ _) (Dom.l _ _)))
 have D55 : Dom M (bx b30 22 [sl a28 c23 c29]) := by subst hM; exact (Dom.trans (Dom.r _ _) (Dom.trans (Dom.r _ _) (Dom.trans (Dom.r _ _) (Dom.refl _))))
 have X := But.refl M w
 refine W_seq ?_
 refine W_region ?_
 refine LP_box 0 (cs := [sl a g.Parents c]) rfl rfl rfl rfl rfl fun b56 wx x ex57 f => ?_
 refine LP_box 1 (cs := [I most]) rfl rfl rfl rfl rfl fun b58 wx59 x60 ex61 f62 => ?_
 refine LP_box 2 (cs := [.func (.func 124) #[] #[pb b, pb b21, pb b30]]) rfl rfl rfl rfl rfl fun b63 wx64 x65 ex66 f67 => ?_
 refine LP_ev ok 3 [(12, I 0)] 4 rfl rfl ?_
 refine LP_end _ rfl ?_
 refine W_seq ?_
 refine W_region ?_
 have ex68 := ((ex57.ext x60).ext x65)
 refine LP_ldbox 0 (v := .agg #[sl a g.Parents c]) rfl rfl rfl ti_32 ag_32 (fun h => by cases h) rfl ex68 rfl rfl ?_
 refine LP_ev ok 1 [(17, sl a5 sx c6), (18, sl a11 pubs c12)] 3 rfl rfl ?_
 have ex70 := (((ex.ext x).ext x60).ext x65)
 have ex71 := (((ex4.ext x).ext x60).ext x65)
 have ex72 := (((ex10.ext x).ext x60).ext x65)
 refine LP_call 3 rfl rfl rfl cal_84 rfl (impl_conditionsOf_w _ _ _ _ H wx64 r ex70 r3 ex71 r9 ex72) ?_
 rintro _ wx73 ⟨r69, vx75, hx76, H, rfl, x74, o, ex77, f78⟩
 obtain ⟨a79, c80, rfl⟩ := o.shape
 refine LP_ev ok 4 [(13, sl a79 r69 c80)] 5 rfl rfl ?_
 refine LP_end _ rfl ?_
 refine W_seq ?_
 refine W_region ?_
 refine LP_alloc 0 rfl rfl rfl ti_3 rfl fun b81 wx82 x83 ex84 f85 => ?_
 refine LP_stbox 1 (vs := [I 0]) (cs' := [I 0]) rfl rfl rfl ti_3 rfl rfl rfl rfl rfl ex84 rfl rfl fun wx86 ex87 y => ?_
 refine LP_end _ rfl ?_
 refine W_seq ?_
 refine W_open mix fun wx88 x89 => ?_
 refine AP_gameT 11 [[], [], [], [1, 2], [1, 2, 3], [], [5], [5, 6], [], [0, 1, 2, 3, 4, 5, 6, 7, 8], [], [0, 1, 2, 3, 4, 5, 6, 7, 8, 9, 10]] [[(13, none)], [(6, none)], [(1, none)], [(21, some 1), (22, some 2)], [(23, some 3)], [(13, none)], [(25, some 5)], [(26, some 6)], [(10, none), (11, none), (14, none)], [(20, some 0), (24, some 4), (27, some 7), (28, some 8)], []] [(3, none), (14, none), (15, some 10), (29, some 9)] [0, 1, 2, 3, 4, 5, 6, 7, 8, 9, 10] (by kernel_rfl) (by kernel_rfl) 11 ?_
 refine GT_ev 0 ok [(13, sl a79 r69 c80)] (sl a79 r69 c80) rfl (by kernel_rfl) rfl (fun _ h => h) (fun _ => rfl) ?_
 have ex90 := (ex68.ext x74)
 have ex91 := ((((ex68.ext x74).ext x83).but y (Dj.of_fresh ex90 f85).symm).ext x89)
 refine GT_r1 1 [(6, pb b56)] (.agg #[sl a g.Parents c]) rfl (by kernel_rfl) rfl (fun _ h => h) (fun _ w e => ex_ldbox rfl ti_32 ag_32 (fun h => by cases h) rfl e rfl rfl) ex91 ?_
 refine GT_ev 2 ok [(1, sl a5 sx c6)] (sl a5 sx c6) rfl (by kernel_rfl) rfl (fun _ h => h) (fun _ => rfl) ?_
 obtain ⟨r92, Hd, H⟩ := H
 have ex93 := (ex70.ext x74)
 have ex94 := ((((ex70.ext x74).ext x83).but y (Dj.of_fresh ex93 f85).symm).ext x89)
 have ex95 := (ex71.ext x74)
 have ex96 := ((((ex71.ext x74).ext x83).but y (Dj.of_fresh ex95 f85).symm).ext x89)
 refine GT_q 3 [(21, .agg #[sl a g.Parents c]), (22, sl a5 sx c6)] (I r92) [hx, hx2] [.agg #[sl a g.Parents c], sl a5 sx c6] rfl (by kernel_rfl) rfl (fun _ h => h) rfl cal_81 (fun _ => rfl) (fun w e => (impl_typeCount_w _ _ _ Hd w r e.1 r3 e.2.1).mono (fun _ _ h => by obtain ⟨_, rfl, rfl, x⟩ := h; exact ⟨rfl, x⟩)) ⟨ex94, ex96, trivial⟩ ?_
 refine GT_ev 5 ok [(13, sl a79 r69 c80)] (sl a79 r69 c80) rfl (by kernel_rfl) rfl (fun _ h => h) (fun _ => rfl) ?_
 refine GT_ev 6 ok [(25, sl a79 r69 c80)] (I (ln r69)) rfl (by kernel_rfl) rfl (fun _ h => h) (fun _ => rfl) ?_
 refine GT_ev 8 ok [(10, pb b58), (11, pb b63), (14, pb b81)] (.func (.func 121) #[] #[pb b81, pb b63, pb b58]) rfl (by kernel_rfl) rfl (fun _ h => h) (fun _ => rfl) ?_
 refine GT_hd [4, 7, 10] (by kernel_rfl) ⟨?_, ?_, ?_, trivial⟩
 ·have H := H.1
  refine GT_lp [(23, I r92)] rfl (by kernel_rfl) rfl (fun _ h => h) rfl fun ρ wx97 x98 => ?_
  obtain ⟨hn, hb, H⟩ := H
  refine LP_make (α := Int) 0 rfl rfl rfl Tryz.underlying22 ti_3 (x0 := (0 : Int)) rfl rfl hn (by first | omega | (simp only [ln] at *; omega)) (by first | omega | (simp only [ln] at *; omega)) fun hx99 vx100 wx101 x102 o103 ex104 f105 => ?_
  obtain ⟨a106, c107, rfl⟩ := o103.shape
  refine LP_gs ⟨⟨.inl rfl, .inl rfl, .inl rfl, trivial⟩, ?_⟩
  refine GT_hd [7, 10] (by kernel_rfl) ⟨?_, ?_, trivial⟩
  ·have H := H
   refine GT_lp [(26, I (ln r69))] rfl (by kernel_rfl) rfl (fun _ h => h) rfl fun ρ wx108 x109 => ?_
   obtain ⟨hn110, hb111, H⟩ := H
   refine LP_make (α := Int) 0 rfl rfl rfl Tryz.underlying22 ti_3 (x0 := (0 : Int)) rfl rfl hn110 (by first | omega | (simp only [ln] at *; omega)) (by first | omega | (simp only [ln] at *; omega)) fun hx112 vx113 wx114 x115 o116 ex117 f118 => ?_
   obtain ⟨a119, c120, rfl⟩ := o116.shape
   have ex121 := ((((ex94.ext x98).ext x102).ext x109).ext x115)
   have ex122 := ((((ex96.ext x98).ext x102).ext x109).ext x115)
   have ex123 := ((((ex91.ext x98).ext x102).ext x109).ext x115)
   refine LP_gs ⟨⟨.inr ex121, .inr ex122, .inr ex123, trivial⟩, ?_⟩
   refine GT_ev 9 ok [(20, sl a79 r69 c80), (24, .slice a106 (List.length (List.replicate (Int.toNat r92) ((0 : Int)))) c107), (27, .slice a119 (List.length (List.replicate (Int.toNat (ln r69)) ((0 : Int)))) c120), (28, .func (.func 121) #[] #[pb b81, pb b63, pb b58])] (.agg #[sl a79 r69 c80, .slice a106 (List.length (List.replicate (Int.toNat r92) ((0 : Int)))) c107, .slice a119 (List.length (List.replicate (Int.toNat (ln r69)) ((0 : Int)))) c120, .func (.func 121) #[] #[pb b81, pb b63, pb b58]]) rfl (by kernel_rfl) rfl (fun _ h => h) (fun _ => rfl) ?_
   refine GT_hd [10] (by kernel_rfl) ⟨GT_lp [] rfl (by kernel_rfl) rfl (fun _ h => h) rfl fun ρ wx124 x125 => ?_, trivial⟩
   refine LP_alloc 0 rfl rfl rfl ti_153 rfl fun b126 wx127 x128 ex129 f130 => ?_
   have ex131 := ((ex121.ext x125).ext x128)
   have ex132 := ((ex122.ext x125).ext x128)
   have ex133 := ((ex123.ext x125).ext x128)
   refine LP_gs ⟨⟨.inr ex131, .inr ex132, .inr ex133, trivial⟩, ?_⟩
   refine GT_end (by kernel_rfl) ?_
   intro wx134 x135 ρ hn136
   refine AP_forget [(3, I n), (14, pb b81), (15, pb b126), (29, .agg #[sl a79 r69 c80, .slice a106 (List.length (List.replicate (Int.toNat r92) ((0 : Int)))) c107, .slice a119 (List.length (List.replicate (Int.toNat (ln r69)) ((0 : Int)))) c120, .func (.func 121) #[] #[pb b81, pb b63, pb b58]])] (by exact hn136) fun ρ => ?_
   refine AP_tail 11 [[], [], [], [1, 2], [1, 2, 3], [], [5], [5, 6], [], [0, 1, 2, 3, 4, 5, 6, 7, 8], [], [0, 1, 2, 3, 4, 5, 6, 7, 8, 9, 10]] (by kernel_rfl) ?_
   have ex140 := (ex129.ext x135)
   refine LP_stbox 11 (vs := [sl a79 r69 c80, .slice a106 (List.length (List.replicate (Int.toNat r92) ((0 : Int)))) c107, .slice a119 (List.length (List.replicate (Int.toNat (ln r69)) ((0 : Int)))) c120, .func (.func 121) #[] #[pb b81, pb b63, pb b58]]) (cs' := [sl a79 r69 c80, .slice a106 (List.length (List.replicate (Int.toNat r92) ((0 : Int)))) c107, .slice a119 (List.length (List.replicate (Int.toNat (ln r69)) ((0 : Int)))) c120, .func (.func 121) #[] #[pb b81, pb b63, pb b58]]) rfl rfl rfl ti_153 rfl rfl rfl rfl rfl ex140 rfl rfl fun wx137 ex138 y139 => ?_
   refine LP_end _ rfl ?_
   refine W_seq ?_
   refine W_region ?_
   refine LP_ev ok 0 [(30, I n)] 1 rfl rfl ?_
   have ex141 := (ex104.ext x109)
   have ex142 := ((ex87.ext x89).ext x98)
   have ex143 := ((((ex18.ext x).ext x60).ext x65).ext x74)
   have ex144 := ((((((((ex18.ext x).ext x60).ext x65).ext x74).ext x83).but y (Dj.of_fresh ex143 f85).symm).ext x89).ext x98)
   have ex145 := ((((ex22.ext x).ext x60).ext x65).ext x74)
   have ex146 := ((((((((ex22.ext x).ext x60).ext x65).ext x74).ext x83).but y (Dj.of_fresh ex145 f85).symm).ext x89).ext x98)
   have ex147 := ((((ex27.ext x).ext x60).ext x65).ext x74)
   have ex148 := ((((((((ex27.ext x).ext x60).ext x65).ext x74).ext x83).but y (Dj.of_fresh ex147 f85).symm).ext x89).ext x98)
   have ex149 := ((((ex31.ext x).ext x60).ext x65).ext x74)
   have ex150 := ((((((((ex31.ext x).ext x60).ext x65).ext x74).ext x83).but y (Dj.of_fresh ex149 f85).symm).ext x89).ext x98)
   have ex151 := ((ex141.ext x115).ext x125)
   have ex152 := ((ex142.ext x102).ext x109)
   have ex153 := ((ex144.ext x102).ext x109)
   have ex154 := ((ex146.ext x102).ext x109)
   have ex155 := ((ex148.ext x102).ext x109)
   have ex156 := ((ex150.ext x102).ext x109)
   have ex157 := (ex117.ext x125)
   have ex158 := ((ex152.ext x115).ext x125)
   have ex159 := ((ex153.ext x115).ext x125)
   have ex160 := ((ex154.ext x115).ext x125)
   have ex161 := ((ex155.ext x115).ext x125)
   have ex162 := ((ex156.ext x115).ext x125)
   have ex163 := ((((ex77.ext x83).but y (Dj.of_fresh ex77 f85).symm).ext x89).ext x98)
   have ex164 := ((((ex13.ext x).ext x60).ext x65).ext x74)
   have ex165 := ((((((((ex13.ext x).ext x60).ext x65).ext x74).ext x83).but y (Dj.of_fresh ex164 f85).symm).ext x89).ext x98)
   have ex166 := (ex66.ext x74)
   have ex167 := (((((ex66.ext x74).ext x83).but y (Dj.of_fresh ex166 f85).symm).ext x89).ext x98)
   have ex168 := ((ex61.ext x65).ext x74)
   have ex169 := ((((((ex61.ext x65).ext x74).ext x83).but y (Dj.of_fresh ex168 f85).symm).ext x89).ext x98)
   have ex170 := ((ex163.ext x102).ext x109)
   have ex171 := ((ex165.ext x102).ext x109)
   have ex172 := ((ex167.ext x102).ext x109)
   have ex173 := ((ex169.ext x102).ext x109)
   have ex174 := (((ex18.ext x).ext x60).ext x65)
   have ex175 := ((ex18.ext x).ext x60)
   have ex176 := (ex18.ext x)
   have ex177 := (((ex22.ext x).ext x60).ext x65)
   have ex178 := ((ex22.ext x).ext x60)
   have ex179 := (ex22.ext x)
   have ex180 := (((ex27.ext x).ext x60).ext x65)
   have ex181 := ((ex27.ext x).ext x60)
   have ex182 := (ex27.ext x)
   have ex183 := (((ex31.ext x).ext x60).ext x65)
   have ex184 := ((ex31.ext x).ext x60)
   have ex185 := (ex31.ext x)
   have ex186 := ((ex170.ext x115).ext x125)
   have ex187 := ((ex171.ext x115).ext x125)
   have ex188 := ((ex172.ext x115).ext x125)
   have ex189 := ((ex173.ext x115).ext x125)
   have ex196 := (((ex186.ext x128).ext x135).but y139 (Dj.of_fresh ex186 f130).symm)
   have ex197 := (((ex151.ext x128).ext x135).but y139 (Dj.of_fresh ex151 f130).symm)
   have ex198 := (((ex157.ext x128).ext x135).but y139 (Dj.of_fresh ex157 f130).symm)
   have ex199 := (((ex158.ext x128).ext x135).but y139 (Dj.of_fresh ex158 f130).symm)
   have ex200 := (((ex187.ext x128).ext x135).but y139 (Dj.of_fresh ex187 f130).symm)
   have ex201 := (((ex159.ext x128).ext x135).but y139 (Dj.of_fresh ex159 f130).symm)
   have ex202 := (((ex160.ext x128).ext x135).but y139 (Dj.of_fresh ex160 f130).symm)
   have ex203 := (((ex161.ext x128).ext x135).but y139 (Dj.of_fresh ex161 f130).symm)
   have ex204 := (((ex162.ext x128).ext x135).but y139 (Dj.of_fresh ex162 f130).symm)
   have ex205 := (((ex188.ext x128).ext x135).but y139 (Dj.of_fresh ex188 f130).symm)
   have ex206 := (((ex189.ext x128).ext x135).but y139 (Dj.of_fresh ex189 f130).symm)
   refine LP_call 1 rfl rfl rfl cal_122 rfl (impl_search_from_impl_solutions_1_impl_ranges_1_impl_TypeRanges_1_w _ _ _ _ _ _ _ _ H wx137 o.readf ex196 o103 ex197 o116 ex198 ex199 ex200 r17 ex201 cn ex202 r26 ex203 ex204 ex205 ex206 ex138 (Dj.of_fresh ex141 f118) (Dj.of_fresh ex142 f105).symm (Dj.of_fresh ex144 f105).symm (Dj.of_fresh ex146 f105).symm (Dj.of_fresh ex148 f105).symm (Dj.of_fresh ex150 f105).symm (Dj.box (Dj.of_fresh ex151 f130).symm).symm (Dj.of_fresh ex152 f118).symm (Dj.of_fresh ex153 f118).symm (Dj.of_fresh ex154 f118).symm (Dj.of_fresh ex155 f118).symm (Dj.of_fresh ex156 f118).symm (Dj.box (Dj.of_fresh ex157 f130).symm).symm (Dj.box (Dj.of_fresh ex143 f85).symm) (Dj.box (Dj.of_fresh ex145 f85).symm) (Dj.box (Dj.of_fresh ex147 f85).symm) (Dj.box (Dj.of_fresh ex149 f85).symm) (Dj.box (Dj.of_fresh ex158 f130).symm).symm d d32 d33 (Dj.box (Dj.of_fresh ex159 f130).symm).symm d34 d35 (Dj.box (Dj.of_fresh ex160 f130).symm).symm d36 (Dj.box (Dj.of_fresh ex161 f130).symm).symm (Dj.box (Dj.of_fresh ex162 f130).symm).symm (Dj.of_fresh ex163 f105).symm (Dj.of_fresh ex165 f105).symm (Dj.of_fresh ex167 f105).symm (Dj.of_fresh ex169 f105).symm (Dj.of_fresh ex170 f118).symm (Dj.of_fresh ex171 f118).symm (Dj.of_fresh ex172 f118).symm (Dj.of_fresh ex173 f118).symm (Dj.box (Dj.of_fresh ex77 f85).symm) (Dj.box (Dj.of_fresh ex164 f85).symm) (Dj.box (Dj.of_fresh ex166 f85).symm) (Dj.box (Dj.of_fresh ex168 f85).symm) (Dj.of_fresh ex174 f78) d40 (Dj.of_fresh ex175 f67) (Dj.of_fresh ex176 f62) (Dj.of_fresh ex177 f78) d44 (Dj.of_fresh ex178 f67) (Dj.of_fresh ex179 f62) (Dj.of_fresh ex180 f78) d48 (Dj.of_fresh ex181 f67) (Dj.of_fresh ex182 f62) (Dj.of_fresh ex183 f78) d52 (Dj.of_fresh ex184 f67) (Dj.of_fresh ex185 f62) (Dj.box (Dj.of_fresh ex186 f130).symm) (Dj.box (Dj.of_fresh ex187 f130).symm) (Dj.box (Dj.of_fresh ex188 f130).symm) (Dj.box (Dj.of_fresh ex189 f130).symm)) ?_
   rintro _ wx207 ⟨r190, r191, r192, r193, r194, r195, vx212, hx209, vx217, hx213, vx223, hx219, vx229, hx225, H, rfl, x208, HF⟩
   revert HF
   refine bb9 fun o210 ex211 dm o214 ex215 dm216 ex218 o220 => ?_
   refine bb9 fun ex221 dm222 ex224 o226 ex227 dm228 ex230 ex231 => ?_
   refine bb9 fun d232 d233 d234 d235 d236 d237 d238 d239 => ?_
   refine bb9 fun d240 d241 d242 d243 d244 d245 d246 d247 => ?_
   refine bb7 fun d248 d249 d250 d251 d252 d253 cn254 => ?_
   obtain ⟨a255, c256, rfl⟩ := o210.shape
   obtain ⟨a257, c258, rfl⟩ := o214.shape
   obtain ⟨a259, c260, rfl⟩ := o220.shape
   obtain ⟨a261, c262, rfl⟩ := o226.shape
   refine LP_end _ rfl ?_
   refine W_seq ?_
   refine W_region ?_
   refine LP_ldbox 0 (v := I r193) rfl rfl rfl ti_3 ag_3 (fun _ => rfl) rfl ex218 rfl rfl ?_
   refine LP_ev ok 1 [(12, I r193)] 2 rfl rfl ?_
   refine LP_end _ rfl ?_
   refine W_ret ?_
   have X265 := ((((X.stepx x).stepx x60).stepx x65).stepx x74)
   have f264 := f85.mono X265.size
   have X266 := ((((((((X.stepx x).stepx x60).stepx x65).stepx x74).stepx x83).step y (f264.dom _)).stepx x89).stepx x98)
   have f263 := f105.mono X266.size
   have X268 := ((X266.stepx x102).stepx x109)
   have f267 := f118.mono X268.size
   have X270 := ((X268.stepx x115).stepx x125)
   have f269 := f130.mono X270.size
   have X271 := (((X270.stepx x128).stepx x135).step y139 (f269.dom _))
   have X272 := (X271.step x208 (DomLe.un (f263.dom _) (DomLe.un (f267.dom _) (DomLe.un ((Fresh.box f264).dom _) (DomLe.un (Dom.le D _) (DomLe.un (Dom.le D53 _) (DomLe.un (Dom.le D54 _) (DomLe.un (Dom.le D55 _) ((Fresh.box f269).dom _)))))))))
   subst hM
   exact ⟨_, Ret_of [I r193] ⟨⟨rfl, rfl⟩, trivial⟩, _, _, _, _, _, _, _, H, rfl, X272, o220, ex221, (DomLe.trans (DomLe.un (f263.dom _) (DomLe.un (f267.dom _) (DomLe.un ((Fresh.box f264).dom _) (DomLe.un (Dom.le D _) (DomLe.un (Dom.le D53 _) (DomLe.un (Dom.le D54 _) (DomLe.un (Dom.le D55 _) ((Fresh.box f269).dom _)))))))) dm222 X271.size), ex224, o226, ex227, (DomLe.trans (DomLe.un (f263.dom _) (DomLe.un (f267.dom _) (DomLe.un ((Fresh.box f264).dom _) (DomLe.un (Dom.le D _) (DomLe.un (Dom.le D53 _) (DomLe.un (Dom.le D54 _) (DomLe.un (Dom.le D55 _) ((Fresh.box f269).dom _)))))))) dm228 X271.size), ex230, d247, d248, d249, d251, d252, cn254⟩
  ·have H := H
   refine GT_lp [] rfl (by kernel_rfl) rfl (fun _ h => h) rfl fun ρ wx108 x109 => ?_
   refine LP_alloc 0 rfl rfl rfl ti_153 rfl fun b110 wx111 x112 ex113 f114 => ?_
   have ex115 := ((((ex94.ext x98).ext x102).ext x109).ext x112)
   have ex116 := ((((ex96.ext x98).ext x102).ext x109).ext x112)
   have ex117 := ((((ex91.ext x98).ext x102).ext x109).ext x112)
   refine LP_gs ⟨⟨.inr ex115, .inr ex116, .inr ex117, trivial⟩, ?_⟩
   refine GT_hd [7] (by kernel_rfl) ⟨GT_lp [(26, I (ln r69))] rfl (by kernel_rfl) rfl (fun _ h => h) rfl fun ρ wx118 x119 => ?_, trivial⟩
   obtain ⟨hn120, hb121, H⟩ := H
   refine LP_make (α := Int) 0 rfl rfl rfl Tryz.underlying22 ti_3 (x0 := (0 : Int)) rfl rfl hn120 (by first | omega | (simp only [ln] at *; omega)) (by first | omega | (simp only [ln] at *; omega)) fun hx122 vx123 wx124 x125 o126 ex127 f128 => ?_
   obtain ⟨a129, c130, rfl⟩ := o126.shape
   have ex131 := ((ex115.ext x119).ext x125)
   have ex132 := ((ex116.ext x119).ext x125)
   have ex133 := ((ex117.ext x119).ext x125)
   refine LP_gs ⟨⟨.inr ex131, .inr ex132, .inr ex133, trivial⟩, ?_⟩
   refine GT_ev 9 ok [(20, sl a79 r69 c80), (24, .slice a106 (List.length (List.replicate (Int.toNat r92) ((0 : Int)))) c107), (27, .slice a129 (List.length (List.replicate (Int.toNat (ln r69)) ((0 : Int)))) c130), (28, .func (.func 121) #[] #[pb b81, pb b63, pb b58])] (.agg #[sl a79 r69 c80, .slice a106 (List.length (List.replicate (Int.toNat r92) ((0 : Int)))) c107, .slice a129 (List.length (List.replicate (Int.toNat (ln r69)) ((0 : Int)))) c130, .func (.func 121) #[] #[pb b81, pb b63, pb b58]]) rfl (by kernel_rfl) rfl (fun _ h => h) (fun _ => rfl) ?_
   refine GT_end (by kernel_rfl) ?_
   intro wx134 x135 ρ hn136
   refine AP_forget [(3, I n), (14, pb b81), (15, pb b110), (29, .agg #[sl a79 r69 c80, .slice a106 (List.length (List.replicate (Int.toNat r92) ((0 : Int)))) c107, .slice a129 (List.length (List.replicate (Int.toNat (ln r69)) ((0 : Int)))) c130, .func (.func 121) #[] #[pb b81, pb b63, pb b58]])] (by exact hn136) fun ρ => ?_
   refine AP_tail 11 [[], [], [], [1, 2], [1, 2, 3], [], [5], [5, 6], [], [0, 1, 2, 3, 4, 5, 6, 7, 8], [], [0, 1, 2, 3, 4, 5, 6, 7, 8, 9, 10]] (by kernel_rfl) ?_
   have ex140 := (((ex113.ext x119).ext x125).ext x135)
   refine LP_stbox 11 (vs := [sl a79 r69 c80, .slice a106 (List.length (List.replicate (Int.toNat r92) ((0 : Int)))) c107, .slice a129 (List.length (List.replicate (Int.toNat (ln r69)) ((0 : Int)))) c130, .func (.func 121) #[] #[pb b81, pb b63, pb b58]]) (cs' := [sl a79 r69 c80, .slice a106 (List.length (List.replicate (Int.toNat r92) ((0 : Int)))) c107, .slice a129 (List.length (List.replicate (Int.toNat (ln r69)) ((0 : Int)))) c130, .func (.func 121) #[] #[pb b81, pb b63, pb b58]]) rfl rfl rfl ti_153 rfl rfl rfl rfl rfl ex140 rfl rfl fun wx137 ex138 y139 => ?_
   refine LP_end _ rfl ?_
   refine W_seq ?_
   refine W_region ?_
   refine LP_ev ok 0 [(30, I n)] 1 rfl rfl ?_
   have ex141 := (((ex104.ext x109).ext x112).ext x119)
   have ex142 := ((ex87.ext x89).ext x98)
   have ex143 := ((((ex18.ext x).ext x60).ext x65).ext x74)
   have ex144 := ((((((((ex18.ext x).ext x60).ext x65).ext x74).ext x83).but y (Dj.of_fresh ex143 f85).symm).ext x89).ext x98)
   have ex145 := ((((ex22.ext x).ext x60).ext x65).ext x74)
   have ex146 := ((((((((ex22.ext x).ext x60).ext x65).ext x74).ext x83).but y (Dj.of_fresh ex145 f85).symm).ext x89).ext x98)
   have ex147 := ((((ex27.ext x).ext x60).ext x65).ext x74)
   have ex148 := ((((((((ex27.ext x).ext x60).ext x65).ext x74).ext x83).but y (Dj.of_fresh ex147 f85).symm).ext x89).ext x98)
   have ex149 := ((((ex31.ext x).ext x60).ext x65).ext x74)
   have ex150 := ((((((((ex31.ext x).ext x60).ext x65).ext x74).ext x83).but y (Dj.of_fresh ex149 f85).symm).ext x89).ext x98)
   have ex151 := (ex104.ext x109)
   have ex152 := ((((ex142.ext x102).ext x109).ext x112).ext x119)
   have ex153 := ((((ex144.ext x102).ext x109).ext x112).ext x119)
   have ex154 := ((((ex146.ext x102).ext x109).ext x112).ext x119)
   have ex155 := ((((ex148.ext x102).ext x109).ext x112).ext x119)
   have ex156 := ((((ex150.ext x102).ext x109).ext x112).ext x119)
   have ex157 := (ex113.ext x119)
   have ex158 := ((ex142.ext x102).ext x109)
   have ex159 := ((ex144.ext x102).ext x109)
   have ex160 := ((ex146.ext x102).ext x109)
   have ex161 := ((ex148.ext x102).ext x109)
   have ex162 := ((ex150.ext x102).ext x109)
   have ex163 := ((((ex77.ext x83).but y (Dj.of_fresh ex77 f85).symm).ext x89).ext x98)
   have ex164 := ((((ex13.ext x).ext x60).ext x65).ext x74)
   have ex165 := ((((((((ex13.ext x).ext x60).ext x65).ext x74).ext x83).but y (Dj.of_fresh ex164 f85).symm).ext x89).ext x98)
   have ex166 := (ex66.ext x74)
   have ex167 := (((((ex66.ext x74).ext x83).but y (Dj.of_fresh ex166 f85).symm).ext x89).ext x98)
   have ex168 := ((ex61.ext x65).ext x74)
   have ex169 := ((((((ex61.ext x65).ext x74).ext x83).but y (Dj.of_fresh ex168 f85).symm).ext x89).ext x98)
   have ex170 := ((((ex163.ext x102).ext x109).ext x112).ext x119)
   have ex171 := ((((ex165.ext x102).ext x109).ext x112).ext x119)
   have ex172 := ((((ex167.ext x102).ext x109).ext x112).ext x119)
   have ex173 := ((((ex169.ext x102).ext x109).ext x112).ext x119)
   have ex174 := (((ex18.ext x).ext x60).ext x65)
   have ex175 := ((ex18.ext x).ext x60)
   have ex176 := (ex18.ext x)
   have ex177 := (((ex22.ext x).ext x60).ext x65)
   have ex178 := ((ex22.ext x).ext x60)
   have ex179 := (ex22.ext x)
   have ex180 := (((ex27.ext x).ext x60).ext x65)
   have ex181 := ((ex27.ext x).ext x60)
   have ex182 := (ex27.ext x)
   have ex183 := (((ex31.ext x).ext x60).ext x65)
   have ex184 := ((ex31.ext x).ext x60)
   have ex185 := (ex31.ext x)
   have ex186 := ((ex163.ext x102).ext x109)
   have ex187 := ((ex165.ext x102).ext x109)
   have ex188 := ((ex167.ext x102).ext x109)
   have ex189 := ((ex169.ext x102).ext x109)
   have ex196 := (((ex170.ext x125).ext x135).but y139 (Dj.of_fresh ex186 f114).symm)
   have ex197 := (((ex141.ext x125).ext x135).but y139 (Dj.of_fresh ex151 f114).symm)
   have ex198 := ((ex127.ext x135).but y139 (Dj.of_fresh ex157 f128))
   have ex199 := (((ex152.ext x125).ext x135).but y139 (Dj.of_fresh ex158 f114).symm)
   have ex200 := (((ex171.ext x125).ext x135).but y139 (Dj.of_fresh ex187 f114).symm)
   have ex201 := (((ex153.ext x125).ext x135).but y139 (Dj.of_fresh ex159 f114).symm)
   have ex202 := (((ex154.ext x125).ext x135).but y139 (Dj.of_fresh ex160 f114).symm)
   have ex203 := (((ex155.ext x125).ext x135).but y139 (Dj.of_fresh ex161 f114).symm)
   have ex204 := (((ex156.ext x125).ext x135).but y139 (Dj.of_fresh ex162 f114).symm)
   have ex205 := (((ex172.ext x125).ext x135).but y139 (Dj.of_fresh ex188 f114).symm)
   have ex206 := (((ex173.ext x125).ext x135).but y139 (Dj.of_fresh ex189 f114).symm)
   refine LP_call 1 rfl rfl rfl cal_122 rfl (impl_search_from_impl_solutions_1_impl_ranges_1_impl_TypeRanges_1_w _ _ _ _ _ _ _ _ H wx137 o.readf ex196 o103 ex197 o126 ex198 ex199 ex200 r17 ex201 cn ex202 r26 ex203 ex204 ex205 ex206 ex138 (Dj.of_fresh ex141 f128) (Dj.of_fresh ex142 f105).symm (Dj.of_fresh ex144 f105).symm (Dj.of_fresh ex146 f105).symm (Dj.of_fresh ex148 f105).symm (Dj.of_fresh ex150 f105).symm (Dj.box (Dj.of_fresh ex151 f114).symm).symm (Dj.of_fresh ex152 f128).symm (Dj.of_fresh ex153 f128).symm (Dj.of_fresh ex154 f128).symm (Dj.of_fresh ex155 f128).symm (Dj.of_fresh ex156 f128).symm (Dj.box (Dj.of_fresh ex157 f128).symm.symm).symm (Dj.box (Dj.of_fresh ex143 f85).symm) (Dj.box (Dj.of_fresh ex145 f85).symm) (Dj.box (Dj.of_fresh ex147 f85).symm) (Dj.box (Dj.of_fresh ex149 f85).symm) (Dj.box (Dj.of_fresh ex158 f114).symm).symm d d32 d33 (Dj.box (Dj.of_fresh ex159 f114).symm).symm d34 d35 (Dj.box (Dj.of_fresh ex160 f114).symm).symm d36 (Dj.box (Dj.of_fresh ex161 f114).symm).symm (Dj.box (Dj.of_fresh ex162 f114).symm).symm (Dj.of_fresh ex163 f105).symm (Dj.of_fresh ex165 f105).symm (Dj.of_fresh ex167 f105).symm (Dj.of_fresh ex169 f105).symm (Dj.of_fresh ex170 f128).symm (Dj.of_fresh ex171 f128).symm (Dj.of_fresh ex172 f128).symm (Dj.of_fresh ex173 f128).symm (Dj.box (Dj.of_fresh ex77 f85).symm) (Dj.box (Dj.of_fresh ex164 f85).symm) (Dj.box (Dj.of_fresh ex166 f85).symm) (Dj.box (Dj.of_fresh ex168 f85).symm) (Dj.of_fresh ex174 f78) d40 (Dj.of_fresh ex175 f67) (Dj.of_fresh ex176 f62) (Dj.of_fresh ex177 f78) d44 (Dj.of_fresh ex178 f67) (Dj.of_fresh ex179 f62) (Dj.of_fresh ex180 f78) d48 (Dj.of_fresh ex181 f67) (Dj.of_fresh ex182 f62) (Dj.of_fresh ex183 f78) d52 (Dj.of_fresh ex184 f67) (Dj.of_fresh ex185 f62) (Dj.box (Dj.of_fresh ex186 f114).symm) (Dj.box (Dj.of_fresh ex187 f114).symm) (Dj.box (Dj.of_fresh ex188 f114).symm) (Dj.box (Dj.of_fresh ex189 f114).symm)) ?_
   rintro _ wx207 ⟨r190, r191, r192, r193, r194, r195, vx212, hx209, vx217, hx213, vx223, hx219, vx229, hx225, H, rfl, x208, HF⟩
   revert HF
   refine bb9 fun o210 ex211 dm o214 ex215 dm216 ex218 o220 => ?_
   refine bb9 fun ex221 dm222 ex224 o226 ex227 dm228 ex230 ex231 => ?_
   refine bb9 fun d232 d233 d234 d235 d236 d237 d238 d239 => ?_
   refine bb9 fun d240 d241 d242 d243 d244 d245 d246 d247 => ?_
   refine bb7 fun d248 d249 d250 d251 d252 d253 cn254 => ?_
   obtain ⟨a255, c256, rfl⟩ := o210.shape
   obtain ⟨a257, c258, rfl⟩ := o214.shape
   obtain ⟨a259, c260, rfl⟩ := o220.shape
   obtain ⟨a261, c262, rfl⟩ := o226.shape
   refine LP_end _ rfl ?_
   refine W_seq ?_
   refine W_region ?_
   refine LP_ldbox 0 (v := I r193) rfl rfl rfl ti_3 ag_3 (fun _ => rfl) rfl ex218 rfl rfl ?_
   refine LP_ev ok 1 [(12, I r193)] 2 rfl rfl ?_
   refine LP_end _ rfl ?_
   refine W_ret ?_
   have X265 := ((((X.stepx x).stepx x60).stepx x65).stepx x74)
   have f264 := f85.mono X265.size
   have X266 := ((((((((X.stepx x).stepx x60).stepx x65).stepx x74).stepx x83).step y (f264.dom _)).stepx x89).stepx x98)
   have f263 := f105.mono X266.size
   have X268 := ((((X266.stepx x102).stepx x109).stepx x112).stepx x119)
   have f267 := f128.mono X268.size
   have X270 := ((X266.stepx x102).stepx x109)
   have f269 := f114.mono X270.size
   have X271 := (((X268.stepx x125).stepx x135).step y139 (f269.dom _))
   have X272 := (X271.step x208 (DomLe.un (f263.dom _) (DomLe.un (f267.dom _) (DomLe.un ((Fresh.box f264).dom _) (DomLe.un (Dom.le D _) (DomLe.un (Dom.le D53 _) (DomLe.un (Dom.le D54 _) (DomLe.un (Dom.le D55 _) ((Fresh.box f269).dom _)))))))))
   subst hM
   exact ⟨_, Ret_of [I r193] ⟨⟨rfl, rfl⟩, trivial⟩, _, _, _, _, _, _, _, H, rfl, X272, o220, ex221, (DomLe.trans (DomLe.un (f263.dom _) (DomLe.un (f267.dom _) (DomLe.un ((Fresh.box f264).dom _) (DomLe.un (Dom.le D _) (DomLe.un (Dom.le D53 _) (DomLe.un (Dom.le D54 _) (DomLe.un (Dom.le D55 _) ((Fresh.box f269).dom _)))))))) dm222 X271.size), ex224, o226, ex227, (DomLe.trans (DomLe.un (f263.dom _) (DomLe.un (f267.dom _) (DomLe.un ((Fresh.box f264).dom _) (DomLe.un (Dom.le D _) (DomLe.un (Dom.le D53 _) (DomLe.un (Dom.le D54 _) (DomLe.un (Dom.le D55 _) ((Fresh.box f269).dom _)))))))) dm228 X271.size), ex230, d247, d248, d249, d251, d252, cn254⟩
 ·have H := H.2.1
  refine GT_lp [(26, I (ln r69))] rfl (by kernel_rfl) rfl (fun _ h => h) rfl fun ρ wx273 x274 => ?_
  obtain ⟨hn275, hb276, H⟩ := H
  refine LP_make (α := Int) 0 rfl rfl rfl Tryz.underlying22 ti_3 (x0 := (0 : Int)) rfl rfl hn275 (by first | omega | (simp only [ln] at *; omega)) (by first | omega | (simp only [ln] at *; omega)) fun hx277 vx278 wx279 x280 o281 ex282 f283 => ?_
  obtain ⟨a284, c285, rfl⟩ := o281.shape
  have ex286 := ((ex94.ext x274).ext x280)
  have ex287 := ((ex96.ext x274).ext x280)
  have ex288 := ((ex91.ext x274).ext x280)
  refine LP_gs ⟨⟨.inr ex286, .inr ex287, .inr ex288, trivial⟩, ?_⟩
  refine GT_hd [4, 10] (by kernel_rfl) ⟨?_, ?_, trivial⟩
  ·have H := H
   refine GT_lp [(23, I r92)] rfl (by kernel_rfl) rfl (fun _ h => h) rfl fun ρ wx289 x290 => ?_
   obtain ⟨hn291, hb292, H⟩ := H
   refine LP_make (α := Int) 0 rfl rfl rfl Tryz.underlying22 ti_3 (x0 := (0 : Int)) rfl rfl hn291 (by first | omega | (simp only [ln] at *; omega)) (by first | omega | (simp only [ln] at *; omega)) fun hx293 vx294 wx295 x296 o297 ex298 f299 => ?_
   obtain ⟨a300, c301, rfl⟩ := o297.shape
   refine LP_gs ⟨⟨.inl rfl, .inl rfl, .inl rfl, trivial⟩, ?_⟩
   refine GT_ev 9 ok [(20, sl a79 r69 c80), (24, .slice a300 (List.length (List.replicate (Int.toNat r92) ((0 : Int)))) c301), (27, .slice a284 (List.length (List.replicate (Int.toNat (ln r69)) ((0 : Int)))) c285), (28, .func (.func 121) #[] #[pb b81, pb b63, pb b58])] (.agg #[sl a79 r69 c80, .slice a300 (List.length (List.replicate (Int.toNat r92) ((0 : Int)))) c301, .slice a284 (List.length (List.replicate (Int.toNat (ln r69)) ((0 : Int)))) c285, .func (.func 121) #[] #[pb b81, pb b63, pb b58]]) rfl (by kernel_rfl) rfl (fun _ h => h) (fun _ => rfl) ?_
   refine GT_hd [10] (by kernel_rfl) ⟨GT_lp [] rfl (by kernel_rfl) rfl (fun _ h => h) rfl fun ρ wx302 x303 => ?_, trivial⟩
   refine LP_alloc 0 rfl rfl rfl ti_153 rfl fun b304 wx305 x306 ex307 f308 => ?_
   have ex309 := ((((ex286.ext x290).ext x296).ext x303).ext x306)
   have ex310 := ((((ex287.ext x290).ext x296).ext x303).ext x306)
   have ex311 := ((((ex288.ext x290).ext x296).ext x303).ext x306)
   refine LP_gs ⟨⟨.inr ex309, .inr ex310, .inr ex311, trivial⟩, ?_⟩
   refine GT_end (by kernel_rfl) ?_
   intro wx312 x313 ρ hn314
   refine AP_forget [(3, I n), (14, pb b81), (15, pb b304), (29, .agg #[sl a79 r69 c80, .slice a300 (List.length (List.replicate (Int.toNat r92) ((0 : Int)))) c301, .slice a284 (List.length (List.replicate (Int.toNat (ln r69)) ((0 : Int)))) c285, .func (.func 121) #[] #[pb b81, pb b63, pb b58]])] (by exact hn314) fun ρ => ?_
   refine AP_tail 11 [[], [], [], [1, 2], [1, 2, 3], [], [5], [5, 6], [], [0, 1, 2, 3, 4, 5, 6, 7, 8], [], [0, 1, 2, 3, 4, 5, 6, 7, 8, 9, 10]] (by kernel_rfl) ?_
   have ex318 := (ex307.ext x313)
   refine LP_stbox 11 (vs := [sl a79 r69 c80, .slice a300 (List.length (List.replicate (Int.toNat r92) ((0 : Int)))) c301, .slice a284 (List.length (List.replicate (Int.toNat (ln r69)) ((0 : Int)))) c285, .func (.func 121) #[] #[pb b81, pb b63, pb b58]]) (cs' := [sl a79 r69 c80, .slice a300 (List.length (List.replicate (Int.toNat r92) ((0 : Int)))) c301, .slice a284 (List.length (List.replicate (Int.toNat (ln r69)) ((0 : Int)))) c285, .func (.func 121) #[] #[pb b81, pb b63, pb b58]]) rfl rfl rfl ti_153 rfl rfl rfl rfl rfl ex318 rfl rfl fun wx315 ex316 y317 => ?_
   refine LP_end _ rfl ?_
   refine W_seq ?_
   refine W_region ?_
   refine LP_ev ok 0 [(30, I n)] 1 rfl rfl ?_
   have ex319 := (ex282.ext x290)
   have ex320 := ((((ex87.ext x89).ext x274).ext x280).ext x290)
   have ex321 := ((((ex18.ext x).ext x60).ext x65).ext x74)
   have ex322 := ((((((((((ex18.ext x).ext x60).ext x65).ext x74).ext x83).but y (Dj.of_fresh ex321 f85).symm).ext x89).ext x274).ext x280).ext x290)
   have ex323 := ((((ex22.ext x).ext x60).ext x65).ext x74)
   have ex324 := ((((((((((ex22.ext x).ext x60).ext x65).ext x74).ext x83).but y (Dj.of_fresh ex323 f85).symm).ext x89).ext x274).ext x280).ext x290)
   have ex325 := ((((ex27.ext x).ext x60).ext x65).ext x74)
   have ex326 := ((((((((((ex27.ext x).ext x60).ext x65).ext x74).ext x83).but y (Dj.of_fresh ex325 f85).symm).ext x89).ext x274).ext x280).ext x290)
   have ex327 := ((((ex31.ext x).ext x60).ext x65).ext x74)
   have ex328 := ((((((((((ex31.ext x).ext x60).ext x65).ext x74).ext x83).but y (Dj.of_fresh ex327 f85).symm).ext x89).ext x274).ext x280).ext x290)
   have ex329 := (ex298.ext x303)
   have ex330 := ((ex87.ext x89).ext x274)
   have ex331 := ((((ex321.ext x83).but y (Dj.of_fresh ex321 f85).symm).ext x89).ext x274)
   have ex332 := ((((ex323.ext x83).but y (Dj.of_fresh ex323 f85).symm).ext x89).ext x274)
   have ex333 := ((((ex325.ext x83).but y (Dj.of_fresh ex325 f85).symm).ext x89).ext x274)
   have ex334 := ((((ex327.ext x83).but y (Dj.of_fresh ex327 f85).symm).ext x89).ext x274)
   have ex335 := ((ex319.ext x296).ext x303)
   have ex336 := ((ex320.ext x296).ext x303)
   have ex337 := ((ex322.ext x296).ext x303)
   have ex338 := ((ex324.ext x296).ext x303)
   have ex339 := ((ex326.ext x296).ext x303)
   have ex340 := ((ex328.ext x296).ext x303)
   have ex341 := ((((((ex77.ext x83).but y (Dj.of_fresh ex77 f85).symm).ext x89).ext x274).ext x280).ext x290)
   have ex342 := ((((ex13.ext x).ext x60).ext x65).ext x74)
   have ex343 := ((((((((((ex13.ext x).ext x60).ext x65).ext x74).ext x83).but y (Dj.of_fresh ex342 f85).symm).ext x89).ext x274).ext x280).ext x290)
   have ex344 := (ex66.ext x74)
   have ex345 := (((((((ex66.ext x74).ext x83).but y (Dj.of_fresh ex344 f85).symm).ext x89).ext x274).ext x280).ext x290)
   have ex346 := ((ex61.ext x65).ext x74)
   have ex347 := ((((((((ex61.ext x65).ext x74).ext x83).but y (Dj.of_fresh ex346 f85).symm).ext x89).ext x274).ext x280).ext x290)
   have ex348 := ((((ex77.ext x83).but y (Dj.of_fresh ex77 f85).symm).ext x89).ext x274)
   have ex349 := ((((ex342.ext x83).but y (Dj.of_fresh ex342 f85).symm).ext x89).ext x274)
   have ex350 := ((((ex344.ext x83).but y (Dj.of_fresh ex344 f85).symm).ext x89).ext x274)
   have ex351 := ((((ex346.ext x83).but y (Dj.of_fresh ex346 f85).symm).ext x89).ext x274)
   have ex352 := (((ex18.ext x).ext x60).ext x65)
   have ex353 := ((ex18.ext x).ext x60)
   have ex354 := (ex18.ext x)
   have ex355 := (((ex22.ext x).ext x60).ext x65)
   have ex356 := ((ex22.ext x).ext x60)
   have ex357 := (ex22.ext x)
   have ex358 := (((ex27.ext x).ext x60).ext x65)
   have ex359 := ((ex27.ext x).ext x60)
   have ex360 := (ex27.ext x)
   have ex361 := (((ex31.ext x).ext x60).ext x65)
   have ex362 := ((ex31.ext x).ext x60)
   have ex363 := (ex31.ext x)
   have ex364 := ((ex341.ext x296).ext x303)
   have ex365 := ((ex343.ext x296).ext x303)
   have ex366 := ((ex345.ext x296).ext x303)
   have ex367 := ((ex347.ext x296).ext x303)
   have ex374 := (((ex364.ext x306).ext x313).but y317 (Dj.of_fresh ex364 f308).symm)
   have ex375 := (((ex329.ext x306).ext x313).but y317 (Dj.of_fresh ex329 f308).symm)
   have ex376 := (((ex335.ext x306).ext x313).but y317 (Dj.of_fresh ex335 f308).symm)
   have ex377 := (((ex336.ext x306).ext x313).but y317 (Dj.of_fresh ex336 f308).symm)
   have ex378 := (((ex365.ext x306).ext x313).but y317 (Dj.of_fresh ex365 f308).symm)
   have ex379 := (((ex337.ext x306).ext x313).but y317 (Dj.of_fresh ex337 f308).symm)
   have ex380 := (((ex338.ext x306).ext x313).but y317 (Dj.of_fresh ex338 f308).symm)
   have ex381 := (((ex339.ext x306).ext x313).but y317 (Dj.of_fresh ex339 f308).symm)
   have ex382 := (((ex340.ext x306).ext x313).but y317 (Dj.of_fresh ex340 f308).symm)
   have ex383 := (((ex366.ext x306).ext x313).but y317 (Dj.of_fresh ex366 f308).symm)
   have ex384 := (((ex367.ext x306).ext x313).but y317 (Dj.of_fresh ex367 f308).symm)
   refine LP_call 1 rfl rfl rfl cal_122 rfl (impl_search_from_impl_solutions_1_impl_ranges_1_impl_TypeRanges_1_w _ _ _ _ _ _ _ _ H wx315 o.readf ex374 o297 ex375 o281 ex376 ex377 ex378 r17 ex379 cn ex380 r26 ex381 ex382 ex383 ex384 ex316 (Dj.of_fresh ex319 f299).symm (Dj.of_fresh ex320 f299).symm (Dj.of_fresh ex322 f299).symm (Dj.of_fresh ex324 f299).symm (Dj.of_fresh ex326 f299).symm (Dj.of_fresh ex328 f299).symm (Dj.box (Dj.of_fresh ex329 f308).symm).symm (Dj.of_fresh ex330 f283).symm (Dj.of_fresh ex331 f283).symm (Dj.of_fresh ex332 f283).symm (Dj.of_fresh ex333 f283).symm (Dj.of_fresh ex334 f283).symm (Dj.box (Dj.of_fresh ex335 f308).symm).symm (Dj.box (Dj.of_fresh ex321 f85).symm) (Dj.box (Dj.of_fresh ex323 f85).symm) (Dj.box (Dj.of_fresh ex325 f85).symm) (Dj.box (Dj.of_fresh ex327 f85).symm) (Dj.box (Dj.of_fresh ex336 f308).symm).symm d d32 d33 (Dj.box (Dj.of_fresh ex337 f308).symm).symm d34 d35 (Dj.box (Dj.of_fresh ex338 f308).symm).symm d36 (Dj.box (Dj.of_fresh ex339 f308).symm).symm (Dj.box (Dj.of_fresh ex340 f308).symm).symm (Dj.of_fresh ex341 f299).symm (Dj.of_fresh ex343 f299).symm (Dj.of_fresh ex345 f299).symm (Dj.of_fresh ex347 f299).symm (Dj.of_fresh ex348 f283).symm (Dj.of_fresh ex349 f283).symm (Dj.of_fresh ex350 f283).symm (Dj.of_fresh ex351 f283).symm (Dj.box (Dj.of_fresh ex77 f85).symm) (Dj.box (Dj.of_fresh ex342 f85).symm) (Dj.box (Dj.of_fresh ex344 f85).symm) (Dj.box (Dj.of_fresh ex346 f85).symm) (Dj.of_fresh ex352 f78) d40 (Dj.of_fresh ex353 f67) (Dj.of_fresh ex354 f62) (Dj.of_fresh ex355 f78) d44 (Dj.of_fresh ex356 f67) (Dj.of_fresh ex357 f62) (Dj.of_fresh ex358 f78) d48 (Dj.of_fresh ex359 f67) (Dj.of_fresh ex360 f62) (Dj.of_fresh ex361 f78) d52 (Dj.of_fresh ex362 f67) (Dj.of_fresh ex363 f62) (Dj.box (Dj.of_fresh ex364 f308).symm) (Dj.box (Dj.of_fresh ex365 f308).symm) (Dj.box (Dj.of_fresh ex366 f308).symm) (Dj.box (Dj.of_fresh ex367 f308).symm)) ?_
   rintro _ wx385 ⟨r368, r369, r370, r371, r372, r373, vx391, hx387, vx396, hx392, vx402, hx398, vx408, hx404, H, rfl, x386, HF⟩
   revert HF
   refine bb9 fun o388 ex389 dm390 o393 ex394 dm395 ex397 o399 => ?_
   refine bb9 fun ex400 dm401 ex403 o405 ex406 dm407 ex409 ex410 => ?_
   refine bb9 fun d411 d412 d413 d414 d415 d416 d417 d418 => ?_
   refine bb9 fun d419 d420 d421 d422 d423 d424 d425 d426 => ?_
   refine bb7 fun d427 d428 d429 d430 d431 d432 cn433 => ?_
   obtain ⟨a434, c435, rfl⟩ := o388.shape
   obtain ⟨a436, c437, rfl⟩ := o393.shape
   obtain ⟨a438, c439, rfl⟩ := o399.shape
   obtain ⟨a440, c441, rfl⟩ := o405.shape
   refine LP_end _ rfl ?_
   refine W_seq ?_
   refine W_region ?_
   refine LP_ldbox 0 (v := I r371) rfl rfl rfl ti_3 ag_3 (fun _ => rfl) rfl ex397 rfl rfl ?_
   refine LP_ev ok 1 [(12, I r371)] 2 rfl rfl ?_
   refine LP_end _ rfl ?_
   refine W_ret ?_
   have X444 := ((((X.stepx x).stepx x60).stepx x65).stepx x74)
   have f443 := f85.mono X444.size
   have X445 := ((((((((((X.stepx x).stepx x60).stepx x65).stepx x74).stepx x83).step y (f443.dom _)).stepx x89).stepx x274).stepx x280).stepx x290)
   have f442 := f299.mono X445.size
   have X447 := ((((X444.stepx x83).step y (f443.dom _)).stepx x89).stepx x274)
   have f446 := f283.mono X447.size
   have X449 := ((X445.stepx x296).stepx x303)
   have f448 := f308.mono X449.size
   have X450 := (((X449.stepx x306).stepx x313).step y317 (f448.dom _))
   have X451 := (X450.step x386 (DomLe.un (f442.dom _) (DomLe.un (f446.dom _) (DomLe.un ((Fresh.box f443).dom _) (DomLe.un (Dom.le D _) (DomLe.un (Dom.le D53 _) (DomLe.un (Dom.le D54 _) (DomLe.un (Dom.le D55 _) ((Fresh.box f448).dom _)))))))))
   subst hM
   exact ⟨_, Ret_of [I r371] ⟨⟨rfl, rfl⟩, trivial⟩, _, _, _, _, _, _, _, H, rfl, X451, o399, ex400, (DomLe.trans (DomLe.un (f442.dom _) (DomLe.un (f446.dom _) (DomLe.un ((Fresh.box f443).dom _) (DomLe.un (Dom.le D _) (DomLe.un (Dom.le D53 _) (DomLe.un (Dom.le D54 _) (DomLe.un (Dom.le D55 _) ((Fresh.box f448).dom _)))))))) dm401 X450.size), ex403, o405, ex406, (DomLe.trans (DomLe.un (f442.dom _) (DomLe.un (f446.dom _) (DomLe.un ((Fresh.box f443).dom _) (DomLe.un (Dom.le D _) (DomLe.un (Dom.le D53 _) (DomLe.un (Dom.le D54 _) (DomLe.un (Dom.le D55 _) ((Fresh.box f448).dom _)))))))) dm407 X450.size), ex409, d426, d427, d428, d430, d431, cn433⟩
  ·have H := H
   refine GT_lp [] rfl (by kernel_rfl) rfl (fun _ h => h) rfl fun ρ wx289 x290 => ?_
   refine LP_alloc 0 rfl rfl rfl ti_153 rfl fun b291 wx292 x293 ex294 f295 => ?_
   have ex296 := ((ex286.ext x290).ext x293)
   have ex297 := ((ex287.ext x290).ext x293)
   have ex298 := ((ex288.ext x290).ext x293)
   refine LP_gs ⟨⟨.inr ex296, .inr ex297, .inr ex298, trivial⟩, ?_⟩
   refine GT_hd [4] (by kernel_rfl) ⟨GT_lp [(23, I r92)] rfl (by kernel_rfl) rfl (fun _ h => h) rfl fun ρ wx299 x300 => ?_, trivial⟩
   obtain ⟨hn301, hb302, H⟩ := H
   refine LP_make (α := Int) 0 rfl rfl rfl Tryz.underlying22 ti_3 (x0 := (0 : Int)) rfl rfl hn301 (by first | omega | (simp only [ln] at *; omega)) (by first | omega | (simp only [ln] at *; omega)) fun hx303 vx304 wx305 x306 o307 ex308 f309 => ?_
   obtain ⟨a310, c311, rfl⟩ := o307.shape
   refine LP_gs ⟨⟨.inl rfl, .inl rfl, .inl rfl, trivial⟩, ?_⟩
   refine GT_ev 9 ok [(20, sl a79 r69 c80), (24, .slice a310 (List.length (List.replicate (Int.toNat r92) ((0 : Int)))) c311), (27, .slice a284 (List.length (List.replicate (Int.toNat (ln r69)) ((0 : Int)))) c285), (28, .func (.func 121) #[] #[pb b81, pb b63, pb b58])] (.agg #[sl a79 r69 c80, .slice a310 (List.length (List.replicate (Int.toNat r92) ((0 : Int)))) c311, .slice a284 (List.length (List.replicate (Int.toNat (ln r69)) ((0 : Int)))) c285, .func (.func 121) #[] #[pb b81, pb b63, pb b58]]) rfl (by kernel_rfl) rfl (fun _ h => h) (fun _ => rfl) ?_
   refine GT_end (by kernel_rfl) ?_
   intro wx312 x313 ρ hn314
   refine AP_forget [(3, I n), (14, pb b81), (15, pb b291), (29, .agg #[sl a79 r69 c80, .slice a310 (List.length (List.replicate (Int.toNat r92) ((0 : Int)))) c311, .slice a284 (List.length (List.replicate (Int.toNat (ln r69)) ((0 : Int)))) c285, .func (.func 121) #[] #[pb b81, pb b63, pb b58]])] (by exact hn314) fun ρ => ?_
   refine AP_tail 11 [[], [], [], [1, 2], [1, 2, 3], [], [5], [5, 6], [], [0, 1, 2, 3, 4, 5, 6, 7, 8], [], [0, 1, 2, 3, 4, 5, 6, 7, 8, 9, 10]] (by kernel_rfl) ?_
   have ex318 := (((ex294.ext x300).ext x306).ext x313)
   refine LP_stbox 11 (vs := [sl a79 r69 c80, .slice a310 (List.length (List.replicate (Int.toNat r92) ((0 : Int)))) c311, .slice a284 (List.length (List.replicate (Int.toNat (ln r69)) ((0 : Int)))) c285, .func (.func 121) #[] #[pb b81, pb b63, pb b58]]) (cs' := [sl a79 r69 c80, .slice a310 (List.length (List.replicate (Int.toNat r92) ((0 : Int)))) c311, .slice a284 (List.length (List.replicate (Int.toNat (ln r69)) ((0 : Int)))) c285, .func (.func 121) #[] #[pb b81, pb b63, pb b58]]) rfl rfl rfl ti_153 rfl rfl rfl rfl rfl ex318 rfl rfl fun wx315 ex316 y317 => ?_
   refine LP_end _ rfl ?_
   refine W_seq ?_
   refine W_region ?_
   refine LP_ev ok 0 [(30, I n)] 1 rfl rfl ?_
   have ex319 := (((ex282.ext x290).ext x293).ext x300)
   have ex320 := ((((((ex87.ext x89).ext x274).ext x280).ext x290).ext x293).ext x300)
   have ex321 := ((((ex18.ext x).ext x60).ext x65).ext x74)
   have ex322 := ((((((((((((ex18.ext x).ext x60).ext x65).ext x74).ext x83).but y (Dj.of_fresh ex321 f85).symm).ext x89).ext x274).ext x280).ext x290).ext x293).ext x300)
   have ex323 := ((((ex22.ext x).ext x60).ext x65).ext x74)
   have ex324 := ((((((((((((ex22.ext x).ext x60).ext x65).ext x74).ext x83).but y (Dj.of_fresh ex323 f85).symm).ext x89).ext x274).ext x280).ext x290).ext x293).ext x300)
   have ex325 := ((((ex27.ext x).ext x60).ext x65).ext x74)
   have ex326 := ((((((((((((ex27.ext x).ext x60).ext x65).ext x74).ext x83).but y (Dj.of_fresh ex325 f85).symm).ext x89).ext x274).ext x280).ext x290).ext x293).ext x300)
   have ex327 := ((((ex31.ext x).ext x60).ext x65).ext x74)
   have ex328 := ((((((((((((ex31.ext x).ext x60).ext x65).ext x74).ext x83).but y (Dj.of_fresh ex327 f85).symm).ext x89).ext x274).ext x280).ext x290).ext x293).ext x300)
   have ex329 := (ex294.ext x300)
   have ex330 := ((ex87.ext x89).ext x274)
   have ex331 := ((((ex321.ext x83).but y (Dj.of_fresh ex321 f85).symm).ext x89).ext x274)
   have ex332 := ((((ex323.ext x83).but y (Dj.of_fresh ex323 f85).symm).ext x89).ext x274)
   have ex333 := ((((ex325.ext x83).but y (Dj.of_fresh ex325 f85).symm).ext x89).ext x274)
   have ex334 := ((((ex327.ext x83).but y (Dj.of_fresh ex327 f85).symm).ext x89).ext x274)
   have ex335 := (ex282.ext x290)
   have ex336 := ((ex330.ext x280).ext x290)
   have ex337 := ((ex331.ext x280).ext x290)
   have ex338 := ((ex332.ext x280).ext x290)
   have ex339 := ((ex333.ext x280).ext x290)
   have ex340 := ((ex334.ext x280).ext x290)
   have ex341 := ((((((((ex77.ext x83).but y (Dj.of_fresh ex77 f85).symm).ext x89).ext x274).ext x280).ext x290).ext x293).ext x300)
   have ex342 := ((((ex13.ext x).ext x60).ext x65).ext x74)
   have ex343 := ((((((((((((ex13.ext x).ext x60).ext x65).ext x74).ext x83).but y (Dj.of_fresh ex342 f85).symm).ext x89).ext x274).ext x280).ext x290).ext x293).ext x300)
   have ex344 := (ex66.ext x74)
   have ex345 := (((((((((ex66.ext x74).ext x83).but y (Dj.of_fresh ex344 f85).symm).ext x89).ext x274).ext x280).ext x290).ext x293).ext x300)
   have ex346 := ((ex61.ext x65).ext x74)
   have ex347 := ((((((((((ex61.ext x65).ext x74).ext x83).but y (Dj.of_fresh ex346 f85).symm).ext x89).ext x274).ext x280).ext x290).ext x293).ext x300)
   have ex348 := ((((ex77.ext x83).but y (Dj.of_fresh ex77 f85).symm).ext x89).ext x274)
   have ex349 := ((((ex342.ext x83).but y (Dj.of_fresh ex342 f85).symm).ext x89).ext x274)
   have ex350 := ((((ex344.ext x83).but y (Dj.of_fresh ex344 f85).symm).ext x89).ext x274)
   have ex351 := ((((ex346.ext x83).but y (Dj.of_fresh ex346 f85).symm).ext x89).ext x274)
   have ex352 := (((ex18.ext x).ext x60).ext x65)
   have ex353 := ((ex18.ext x).ext x60)
   have ex354 := (ex18.ext x)
   have ex355 := (((ex22.ext x).ext x60).ext x65)
   have ex356 := ((ex22.ext x).ext x60)
   have ex357 := (ex22.ext x)
   have ex358 := (((ex27.ext x).ext x60).ext x65)
   have ex359 := ((ex27.ext x).ext x60)
   have ex360 := (ex27.ext x)
   have ex361 := (((ex31.ext x).ext x60).ext x65)
   have ex362 := ((ex31.ext x).ext x60)
   have ex363 := (ex31.ext x)
   have ex364 := ((ex348.ext x280).ext x290)
   have ex365 := ((ex349.ext x280).ext x290)
   have ex366 := ((ex350.ext x280).ext x290)
   have ex367 := ((ex351.ext x280).ext x290)
   have ex374 := (((ex341.ext x306).ext x313).but y317 (Dj.of_fresh ex364 f295).symm)
   have ex375 := ((ex308.ext x313).but y317 (Dj.of_fresh ex329 f309))
   have ex376 := (((ex319.ext x306).ext x313).but y317 (Dj.of_fresh ex335 f295).symm)
   have ex377 := (((ex320.ext x306).ext x313).but y317 (Dj.of_fresh ex336 f295).symm)
   have ex378 := (((ex343.ext x306).ext x313).but y317 (Dj.of_fresh ex365 f295).symm)
   have ex379 := (((ex322.ext x306).ext x313).but y317 (Dj.of_fresh ex337 f295).symm)
   have ex380 := (((ex324.ext x306).ext x313).but y317 (Dj.of_fresh ex338 f295).symm)
   have ex381 := (((ex326.ext x306).ext x313).but y317 (Dj.of_fresh ex339 f295).symm)
   have ex382 := (((ex328.ext x306).ext x313).but y317 (Dj.of_fresh ex340 f295).symm)
   have ex383 := (((ex345.ext x306).ext x313).but y317 (Dj.of_fresh ex366 f295).symm)
   have ex384 := (((ex347.ext x306).ext x313).but y317 (Dj.of_fresh ex367 f295).symm)
   refine LP_call 1 rfl rfl rfl cal_122 rfl (impl_search_from_impl_solutions_1_impl_ranges_1_impl_TypeRanges_1_w _ _ _ _ _ _ _ _ H wx315 o.readf ex374 o307 ex375 o281 ex376 ex377 ex378 r17 ex379 cn ex380 r26 ex381 ex382 ex383 ex384 ex316 (Dj.of_fresh ex319 f309).symm (Dj.of_fresh ex320 f309).symm (Dj.of_fresh ex322 f309).symm (Dj.of_fresh ex324 f309).symm (Dj.of_fresh ex326 f309).symm (Dj.of_fresh ex328 f309).symm (Dj.box (Dj.of_fresh ex329 f309).symm.symm).symm (Dj.of_fresh ex330 f283).symm (Dj.of_fresh ex331 f283).symm (Dj.of_fresh ex332 f283).symm (Dj.of_fresh ex333 f283).symm (Dj.of_fresh ex334 f283).symm (Dj.box (Dj.of_fresh ex335 f295).symm).symm (Dj.box (Dj.of_fresh ex321 f85).symm) (Dj.box (Dj.of_fresh ex323 f85).symm) (Dj.box (Dj.of_fresh ex325 f85).symm) (Dj.box (Dj.of_fresh ex327 f85).symm) (Dj.box (Dj.of_fresh ex336 f295).symm).symm d d32 d33 (Dj.box (Dj.of_fresh ex337 f295).symm).symm d34 d35 (Dj.box (Dj.of_fresh ex338 f295).symm).symm d36 (Dj.box (Dj.of_fresh ex339 f295).symm).symm (Dj.box (Dj.of_fresh ex340 f295).symm).symm (Dj.of_fresh ex341 f309).symm (Dj.of_fresh ex343 f309).symm (Dj.of_fresh ex345 f309).symm (Dj.of_fresh ex347 f309).symm (Dj.of_fresh ex348 f283).symm (Dj.of_fresh ex349 f283).symm (Dj.of_fresh ex350 f283).symm (Dj.of_fresh ex351 f283).symm (Dj.box (Dj.of_fresh ex77 f85).symm) (Dj.box (Dj.of_fresh ex342 f85).symm) (Dj.box (Dj.of_fresh ex344 f85).symm) (Dj.box (Dj.of_fresh ex346 f85).symm) (Dj.of_fresh ex352 f78) d40 (Dj.of_fresh ex353 f67) (Dj.of_fresh ex354 f62) (Dj.of_fresh ex355 f78) d44 (Dj.of_fresh ex356 f67) (Dj.of_fresh ex357 f62) (Dj.of_fresh ex358 f78) d48 (Dj.of_fresh ex359 f67) (Dj.of_fresh ex360 f62) (Dj.of_fresh ex361 f78) d52 (Dj.of_fresh ex362 f67) (Dj.of_fresh ex363 f62) (Dj.box (Dj.of_fresh ex364 f295).symm) (Dj.box (Dj.of_fresh ex365 f295).symm) (Dj.box (Dj.of_fresh ex366 f295).symm) (Dj.box (Dj.of_fresh ex367 f295).symm)) ?_
   rintro _ wx385 ⟨r368, r369, r370, r371, r372, r373, vx391, hx387, vx396, hx392, vx402, hx398, vx408, hx404, H, rfl, x386, HF⟩
   revert HF
   refine bb9 fun o388 ex389 dm390 o393 ex394 dm395 ex397 o399 => ?_
   refine bb9 fun ex400 dm401 ex403 o405 ex406 dm407 ex409 ex410 => ?_
   refine bb9 fun d411 d412 d413 d414 d415 d416 d417 d418 => ?_
   refine bb9 fun d419 d420 d421 d422 d423 d424 d425 d426 => ?_
   refine bb7 fun d427 d428 d429 d430 d431 d432 cn433 => ?_
   obtain ⟨a434, c435, rfl⟩ := o388.shape
   obtain ⟨a436, c437, rfl⟩ := o393.shape
   obtain ⟨a438, c439, rfl⟩ := o399.shape
   obtain ⟨a440, c441, rfl⟩ := o405.shape
   refine LP_end _ rfl ?_
   refine W_seq ?_
   refine W_region ?_
   refine LP_ldbox 0 (v := I r371) rfl rfl rfl ti_3 ag_3 (fun _ => rfl) rfl ex397 rfl rfl ?_
   refine LP_ev ok 1 [(12, I r371)] 2 rfl rfl ?_
   refine LP_end _ rfl ?_
   refine W_ret ?_
   have X444 := ((((X.stepx x).stepx x60).stepx x65).stepx x74)
   have f443 := f85.mono X444.size
   have X445 := ((((((((((((X.stepx x).stepx x60).stepx x65).stepx x74).stepx x83).step y (f443.dom _)).stepx x89).stepx x274).stepx x280).stepx x290).stepx x293).stepx x300)
   have f442 := f309.mono X445.size
   have X447 := ((((X444.stepx x83).step y (f443.dom _)).stepx x89).stepx x274)
   have f446 := f283.mono X447.size
   have X449 := ((X447.stepx x280).stepx x290)
   have f448 := f295.mono X449.size
   have X450 := (((X445.stepx x306).stepx x313).step y317 (f448.dom _))
   have X451 := (X450.step x386 (DomLe.un (f442.dom _) (DomLe.un (f446.dom _) (DomLe.un ((Fresh.box f443).dom _) (DomLe.un (Dom.le D _) (DomLe.un (Dom.le D53 _) (DomLe.un (Dom.le D54 _) (DomLe.un (Dom.le D55 _) ((Fresh.box f448).dom _)))))))))
   subst hM
   exact ⟨_, Ret_of [I r371] ⟨⟨rfl, rfl⟩, trivial⟩, _, _, _, _, _, _, _, H, rfl, X451, o399, ex400, (DomLe.trans (DomLe.un (f442.dom _) (DomLe.un (f446.dom _) (DomLe.un ((Fresh.box f443).dom _) (DomLe.un (Dom.le D _) (DomLe.un (Dom.le D53 _) (DomLe.un (Dom.le D54 _) (DomLe.un (Dom.le D55 _) ((Fresh.box f448).dom _)))))))) dm401 X450.size), ex403, o405, ex406, (DomLe.trans (DomLe.un (f442.dom _) (DomLe.un (f446.dom _) (DomLe.un ((Fresh.box f443).dom _) (DomLe.un (Dom.le D _) (DomLe.un (Dom.le D53 _) (DomLe.un (Dom.le D54 _) (DomLe.un (Dom.le D55 _) ((Fresh.box f448).dom _)))))))) dm407 X450.size), ex409, d426, d427, d428, d430, d431, cn433⟩
 ·have H := H.2.2
  refine GT_lp [] rfl (by kernel_rfl) rfl (fun _ h => h) rfl fun ρ wx452 x453 => ?_
  refine LP_alloc 0 rfl rfl rfl ti_153 rfl fun b454 wx455 x456 ex457 f458 => ?_
  have ex459 := ((ex94.ext x453).ext x456)
  have ex460 := ((ex96.ext x453).ext x456)
  have ex461 := ((ex91.ext x453).ext x456)
  refine LP_gs ⟨⟨.inr ex459, .inr ex460, .inr ex461, trivial⟩, ?_⟩
  refine GT_hd [4, 7] (by kernel_rfl) ⟨?_, ?_, trivial⟩
  ·have H := H.1
   refine GT_lp [(23, I r92)] rfl (by kernel_rfl) rfl (fun _ h => h) rfl fun ρ wx462 x463 => ?_
   obtain ⟨hn464, hb465, H⟩ := H
   refine LP_make (α := Int) 0 rfl rfl rfl Tryz.underlying22 ti_3 (x0 := (0 : Int)) rfl rfl hn464 (by first | omega | (simp only [ln] at *; omega)) (by first | omega | (simp only [ln] at *; omega)) fun hx466 vx467 wx468 x469 o470 ex471 f472 => ?_
   obtain ⟨a473, c474, rfl⟩ := o470.shape
   refine LP_gs ⟨⟨.inl rfl, .inl rfl, .inl rfl, trivial⟩, ?_⟩
   refine GT_hd [7] (by kernel_rfl) ⟨GT_lp [(26, I (ln r69))] rfl (by kernel_rfl) rfl (fun _ h => h) rfl fun ρ wx475 x476 => ?_, trivial⟩
   obtain ⟨hn477, hb478, H⟩ := H
   refine LP_make (α := Int) 0 rfl rfl rfl Tryz.underlying22 ti_3 (x0 := (0 : Int)) rfl rfl hn477 (by first | omega | (simp only [ln] at *; omega)) (by first | omega | (simp only [ln] at *; omega)) fun hx479 vx480 wx481 x482 o483 ex484 f485 => ?_
   obtain ⟨a486, c487, rfl⟩ := o483.shape
   have ex488 := ((((ex459.ext x463).ext x469).ext x476).ext x482)
   have ex489 := ((((ex460.ext x463).ext x469).ext x476).ext x482)
   have ex490 := ((((ex461.ext x463).ext x469).ext x476).ext x482)
   refine LP_gs ⟨⟨.inr ex488, .inr ex489, .inr ex490, trivial⟩, ?_⟩
   refine GT_ev 9 ok [(20, sl a79 r69 c80), (24, .slice a473 (List.length (List.replicate (Int.toNat r92) ((0 : Int)))) c474), (27, .slice a486 (List.length (List.replicate (Int.toNat (ln r69)) ((0 : Int)))) c487), (28, .func (.func 121) #[] #[pb b81, pb b63, pb b58])] (.agg #[sl a79 r69 c80, .slice a473 (List.length (List.replicate (Int.toNat r92) ((0 : Int)))) c474, .slice a486 (List.length (List.replicate (Int.toNat (ln r69)) ((0 : Int)))) c487, .func (.func 121) #[] #[pb b81, pb b63, pb b58]]) rfl (by kernel_rfl) rfl (fun _ h => h) (fun _ => rfl) ?_
   refine GT_end (by kernel_rfl) ?_
   intro wx491 x492 ρ hn493
   refine AP_forget [(3, I n), (14, pb b81), (15, pb b454), (29, .agg #[sl a79 r69 c80, .slice a473 (List.length (List.replicate (Int.toNat r92) ((0 : Int)))) c474, .slice a486 (List.length (List.replicate (Int.toNat (ln r69)) ((0 : Int)))) c487, .func (.func 121) #[] #[pb b81, pb b63, pb b58]])] (by exact hn493) fun ρ => ?_
   refine AP_tail 11 [[], [], [], [1, 2], [1, 2, 3], [], [5], [5, 6], [], [0, 1, 2, 3, 4, 5, 6, 7, 8], [], [0, 1, 2, 3, 4, 5, 6, 7, 8, 9, 10]] (by kernel_rfl) ?_
   have ex497 := (((((ex457.ext x463).ext x469).ext x476).ext x482).ext x492)
   refine LP_stbox 11 (vs := [sl a79 r69 c80, .slice a473 (List.length (List.replicate (Int.toNat r92) ((0 : Int)))) c474, .slice a486 (List.length (List.replicate (Int.toNat (ln r69)) ((0 : Int)))) c487, .func (.func 121) #[] #[pb b81, pb b63, pb b58]]) (cs' := [sl a79 r69 c80, .slice a473 (List.length (List.replicate (Int.toNat r92) ((0 : Int)))) c474, .slice a486 (List.length (List.replicate (Int.toNat (ln r69)) ((0 : Int)))) c487, .func (.func 121) #[] #[pb b81, pb b63, pb b58]]) rfl rfl rfl ti_153 rfl rfl rfl rfl rfl ex497 rfl rfl fun wx494 ex495 y496 => ?_
   refine LP_end _ rfl ?_
   refine W_seq ?_
   refine W_region ?_
   refine LP_ev ok 0 [(30, I n)] 1 rfl rfl ?_
   have ex498 := (ex471.ext x476)
   have ex499 := ((((ex87.ext x89).ext x453).ext x456).ext x463)
   have ex500 := ((((ex18.ext x).ext x60).ext x65).ext x74)
   have ex501 := ((((((((((ex18.ext x).ext x60).ext x65).ext x74).ext x83).but y (Dj.of_fresh ex500 f85).symm).ext x89).ext x453).ext x456).ext x463)
   have ex502 := ((((ex22.ext x).ext x60).ext x65).ext x74)
   have ex503 := ((((((((((ex22.ext x).ext x60).ext x65).ext x74).ext x83).but y (Dj.of_fresh ex502 f85).symm).ext x89).ext x453).ext x456).ext x463)
   have ex504 := ((((ex27.ext x).ext x60).ext x65).ext x74)
   have ex505 := ((((((((((ex27.ext x).ext x60).ext x65).ext x74).ext x83).but y (Dj.of_fresh ex504 f85).symm).ext x89).ext x453).ext x456).ext x463)
   have ex506 := ((((ex31.ext x).ext x60).ext x65).ext x74)
   have ex507 := ((((((((((ex31.ext x).ext x60).ext x65).ext x74).ext x83).but y (Dj.of_fresh ex506 f85).symm).ext x89).ext x453).ext x456).ext x463)
   have ex508 := (ex457.ext x463)
   have ex509 := ((ex499.ext x469).ext x476)
   have ex510 := ((ex501.ext x469).ext x476)
   have ex511 := ((ex503.ext x469).ext x476)
   have ex512 := ((ex505.ext x469).ext x476)
   have ex513 := ((ex507.ext x469).ext x476)
   have ex514 := ((ex508.ext x469).ext x476)
   have ex515 := ((ex87.ext x89).ext x453)
   have ex516 := ((((ex500.ext x83).but y (Dj.of_fresh ex500 f85).symm).ext x89).ext x453)
   have ex517 := ((((ex502.ext x83).but y (Dj.of_fresh ex502 f85).symm).ext x89).ext x453)
   have ex518 := ((((ex504.ext x83).but y (Dj.of_fresh ex504 f85).symm).ext x89).ext x453)
   have ex519 := ((((ex506.ext x83).but y (Dj.of_fresh ex506 f85).symm).ext x89).ext x453)
   have ex520 := ((((((ex77.ext x83).but y (Dj.of_fresh ex77 f85).symm).ext x89).ext x453).ext x456).ext x463)
   have ex521 := ((((ex13.ext x).ext x60).ext x65).ext x74)
   have ex522 := ((((((((((ex13.ext x).ext x60).ext x65).ext x74).ext x83).but y (Dj.of_fresh ex521 f85).symm).ext x89).ext x453).ext x456).ext x463)
   have ex523 := (ex66.ext x74)
   have ex524 := (((((((ex66.ext x74).ext x83).but y (Dj.of_fresh ex523 f85).symm).ext x89).ext x453).ext x456).ext x463)
   have ex525 := ((ex61.ext x65).ext x74)
   have ex526 := ((((((((ex61.ext x65).ext x74).ext x83).but y (Dj.of_fresh ex525 f85).symm).ext x89).ext x453).ext x456).ext x463)
   have ex527 := ((ex520.ext x469).ext x476)
   have ex528 := ((ex522.ext x469).ext x476)
   have ex529 := ((ex524.ext x469).ext x476)
   have ex530 := ((ex526.ext x469).ext x476)
   have ex531 := (((ex18.ext x).ext x60).ext x65)
   have ex532 := ((ex18.ext x).ext x60)
   have ex533 := (ex18.ext x)
   have ex534 := (((ex22.ext x).ext x60).ext x65)
   have ex535 := ((ex22.ext x).ext x60)
   have ex536 := (ex22.ext x)
   have ex537 := (((ex27.ext x).ext x60).ext x65)
   have ex538 := ((ex27.ext x).ext x60)
   have ex539 := (ex27.ext x)
   have ex540 := (((ex31.ext x).ext x60).ext x65)
   have ex541 := ((ex31.ext x).ext x60)
   have ex542 := (ex31.ext x)
   have ex543 := ((((ex77.ext x83).but y (Dj.of_fresh ex77 f85).symm).ext x89).ext x453)
   have ex544 := ((((ex521.ext x83).but y (Dj.of_fresh ex521 f85).symm).ext x89).ext x453)
   have ex545 := ((((ex523.ext x83).but y (Dj.of_fresh ex523 f85).symm).ext x89).ext x453)
   have ex546 := ((((ex525.ext x83).but y (Dj.of_fresh ex525 f85).symm).ext x89).ext x453)
   have ex553 := (((ex527.ext x482).ext x492).but y496 (Dj.of_fresh ex543 f458).symm)
   have ex554 := (((ex498.ext x482).ext x492).but y496 (Dj.of_fresh ex508 f472))
   have ex555 := ((ex484.ext x492).but y496 (Dj.of_fresh ex514 f485))
   have ex556 := (((ex509.ext x482).ext x492).but y496 (Dj.of_fresh ex515 f458).symm)
   have ex557 := (((ex528.ext x482).ext x492).but y496 (Dj.of_fresh ex544 f458).symm)
   have ex558 := (((ex510.ext x482).ext x492).but y496 (Dj.of_fresh ex516 f458).symm)
   have ex559 := (((ex511.ext x482).ext x492).but y496 (Dj.of_fresh ex517 f458).symm)
   have ex560 := (((ex512.ext x482).ext x492).but y496 (Dj.of_fresh ex518 f458).symm)
   have ex561 := (((ex513.ext x482).ext x492).but y496 (Dj.of_fresh ex519 f458).symm)
   have ex562 := (((ex529.ext x482).ext x492).but y496 (Dj.of_fresh ex545 f458).symm)
   have ex563 := (((ex530.ext x482).ext x492).but y496 (Dj.of_fresh ex546 f458).symm)
   refine LP_call 1 rfl rfl rfl cal_122 rfl (impl_search_from_impl_solutions_1_impl_ranges_1_impl_TypeRanges_1_w _ _ _ _ _ _ _ _ H wx494 o.readf ex553 o470 ex554 o483 ex555 ex556 ex557 r17 ex558 cn ex559 r26 ex560 ex561 ex562 ex563 ex495 (Dj.of_fresh ex498 f485) (Dj.of_fresh ex499 f472).symm (Dj.of_fresh ex501 f472).symm (Dj.of_fresh ex503 f472).symm (Dj.of_fresh ex505 f472).symm (Dj.of_fresh ex507 f472).symm (Dj.box (Dj.of_fresh ex508 f472).symm.symm).symm (Dj.of_fresh ex509 f485).symm (Dj.of_fresh ex510 f485).symm (Dj.of_fresh ex511 f485).symm (Dj.of_fresh ex512 f485).symm (Dj.of_fresh ex513 f485).symm (Dj.box (Dj.of_fresh ex514 f485).symm.symm).symm (Dj.box (Dj.of_fresh ex500 f85).symm) (Dj.box (Dj.of_fresh ex502 f85).symm) (Dj.box (Dj.of_fresh ex504 f85).symm) (Dj.box (Dj.of_fresh ex506 f85).symm) (Dj.box (Dj.of_fresh ex515 f458).symm).symm d d32 d33 (Dj.box (Dj.of_fresh ex516 f458).symm).symm d34 d35 (Dj.box (Dj.of_fresh ex517 f458).symm).symm d36 (Dj.box (Dj.of_fresh ex518 f458).symm).symm (Dj.box (Dj.of_fresh ex519 f458).symm).symm (Dj.of_fresh ex520 f472).symm (Dj.of_fresh ex522 f472).symm (Dj.of_fresh ex524 f472).symm (Dj.of_fresh ex526 f472).symm (Dj.of_fresh ex527 f485).symm (Dj.of_fresh ex528 f485).symm (Dj.of_fresh ex529 f485).symm (Dj.of_fresh ex530 f485).symm (Dj.box (Dj.of_fresh ex77 f85).symm) (Dj.box (Dj.of_fresh ex521 f85).symm) (Dj.box (Dj.of_fresh ex523 f85).symm) (Dj.box (Dj.of_fresh ex525 f85).symm) (Dj.of_fresh ex531 f78) d40 (Dj.of_fresh ex532 f67) (Dj.of_fresh ex533 f62) (Dj.of_fresh ex534 f78) d44 (Dj.of_fresh ex535 f67) (Dj.of_fresh ex536 f62) (Dj.of_fresh ex537 f78) d48 (Dj.of_fresh ex538 f67) (Dj.of_fresh ex539 f62) (Dj.of_fresh ex540 f78) d52 (Dj.of_fresh ex541 f67) (Dj.of_fresh ex542 f62) (Dj.box (Dj.of_fresh ex543 f458).symm) (Dj.box (Dj.of_fresh ex544 f458).symm) (Dj.box (Dj.of_fresh ex545 f458).symm) (Dj.box (Dj.of_fresh ex546 f458).symm)) ?_
   rintro _ wx564 ⟨r547, r548, r549, r550, r551, r552, vx570, hx566, vx575, hx571, vx581, hx577, vx587, hx583, H, rfl, x565, HF⟩
   revert HF
   refine bb9 fun o567 ex568 dm569 o572 ex573 dm574 ex576 o578 => ?_
   refine bb9 fun ex579 dm580 ex582 o584 ex585 dm586 ex588 ex589 => ?_
   refine bb9 fun d590 d591 d592 d593 d594 d595 d596 d597 => ?_
   refine bb9 fun d598 d599 d600 d601 d602 d603 d604 d605 => ?_
   refine bb7 fun d606 d607 d608 d609 d610 d611 cn612 => ?_
   obtain ⟨a613, c614, rfl⟩ := o567.shape
   obtain ⟨a615, c616, rfl⟩ := o572.shape
   obtain ⟨a617, c618, rfl⟩ := o578.shape
   obtain ⟨a619, c620, rfl⟩ := o584.shape
   refine LP_end _ rfl ?_
   refine W_seq ?_
   refine W_region ?_
   refine LP_ldbox 0 (v := I r550) rfl rfl rfl ti_3 ag_3 (fun _ => rfl) rfl ex576 rfl rfl ?_
   refine LP_ev ok 1 [(12, I r550)] 2 rfl rfl ?_
   refine LP_end _ rfl ?_
   refine W_ret ?_
   have X623 := ((((X.stepx x).stepx x60).stepx x65).stepx x74)
   have f622 := f85.mono X623.size
   have X624 := ((((((((((X.stepx x).stepx x60).stepx x65).stepx x74).stepx x83).step y (f622.dom _)).stepx x89).stepx x453).stepx x456).stepx x463)
   have f621 := f472.mono X624.size
   have X626 := ((X624.stepx x469).stepx x476)
   have f625 := f485.mono X626.size
   have X628 := ((((X623.stepx x83).step y (f622.dom _)).stepx x89).stepx x453)
   have f627 := f458.mono X628.size
   have X629 := (((X626.stepx x482).stepx x492).step y496 (f627.dom _))
   have X630 := (X629.step x565 (DomLe.un (f621.dom _) (DomLe.un (f625.dom _) (DomLe.un ((Fresh.box f622).dom _) (DomLe.un (Dom.le D _) (DomLe.un (Dom.le D53 _) (DomLe.un (Dom.le D54 _) (DomLe.un (Dom.le D55 _) ((Fresh.box f627).dom _)))))))))
   subst hM
   exact ⟨_, Ret_of [I r550] ⟨⟨rfl, rfl⟩, trivial⟩, _, _, _, _, _, _, _, H, rfl, X630, o578, ex579, (DomLe.trans (DomLe.un (f621.dom _) (DomLe.un (f625.dom _) (DomLe.un ((Fresh.box f622).dom _) (DomLe.un (Dom.le D _) (DomLe.un (Dom.le D53 _) (DomLe.un (Dom.le D54 _) (DomLe.un (Dom.le D55 _) ((Fresh.box f627).dom _)))))))) dm580 X629.size), ex582, o584, ex585, (DomLe.trans (DomLe.un (f621.dom _) (DomLe.un (f625.dom _) (DomLe.un ((Fresh.box f622).dom _) (DomLe.un (Dom.le D _) (DomLe.un (Dom.le D53 _) (DomLe.un (Dom.le D54 _) (DomLe.un (Dom.le D55 _) ((Fresh.box f627).dom _)))))))) dm586 X629.size), ex588, d605, d606, d607, d609, d610, cn612⟩
  ·have H := H.2
   refine GT_lp [(26, I (ln r69))] rfl (by kernel_rfl) rfl (fun _ h => h) rfl fun ρ wx631 x632 => ?_
   obtain ⟨hn633, hb634, H⟩ := H
   refine LP_make (α := Int) 0 rfl rfl rfl Tryz.underlying22 ti_3 (x0 := (0 : Int)) rfl rfl hn633 (by first | omega | (simp only [ln] at *; omega)) (by first | omega | (simp only [ln] at *; omega)) fun hx635 vx636 wx637 x638 o639 ex640 f641 => ?_
   obtain ⟨a642, c643, rfl⟩ := o639.shape
   have ex644 := ((ex459.ext x632).ext x638)
   have ex645 := ((ex460.ext x632).ext x638)
   have ex646 := ((ex461.ext x632).ext x638)
   refine LP_gs ⟨⟨.inr ex644, .inr ex645, .inr ex646, trivial⟩, ?_⟩
   refine GT_hd [4] (by kernel_rfl) ⟨GT_lp [(23, I r92)] rfl (by kernel_rfl) rfl (fun _ h => h) rfl fun ρ wx647 x648 => ?_, trivial⟩
   obtain ⟨hn649, hb650, H⟩ := H
   refine LP_make (α := Int) 0 rfl rfl rfl Tryz.underlying22 ti_3 (x0 := (0 : Int)) rfl rfl hn649 (by first | omega | (simp only [ln] at *; omega)) (by first | omega | (simp only [ln] at *; omega)) fun hx651 vx652 wx653 x654 o655 ex656 f657 => ?_
   obtain ⟨a658, c659, rfl⟩ := o655.shape
   refine LP_gs ⟨⟨.inl rfl, .inl rfl, .inl rfl, trivial⟩, ?_⟩
   refine GT_ev 9 ok [(20, sl a79 r69 c80), (24, .slice a658 (List.length (List.replicate (Int.toNat r92) ((0 : Int)))) c659), (27, .slice a642 (List.length (List.replicate (Int.toNat (ln r69)) ((0 : Int)))) c643), (28, .func (.func 121) #[] #[pb b81, pb b63, pb b58])] (.agg #[sl a79 r69 c80, .slice a658 (List.length (List.replicate (Int.toNat r92) ((0 : Int)))) c659, .slice a642 (List.length (List.replicate (Int.toNat (ln r69)) ((0 : Int)))) c643, .func (.func 121) #[] #[pb b81, pb b63, pb b58]]) rfl (by kernel_rfl) rfl (fun _ h => h) (fun _ => rfl) ?_
   refine GT_end (by kernel_rfl) ?_
   intro wx660 x661 ρ hn662
   refine AP_forget [(3, I n), (14, pb b81), (15, pb b454), (29, .agg #[sl a79 r69 c80, .slice a658 (List.length (List.replicate (Int.toNat r92) ((0 : Int)))) c659, .slice a642 (List.length (List.replicate (Int.toNat (ln r69)) ((0 : Int)))) c643, .func (.func 121) #[] #[pb b81, pb b63, pb b58]])] (by exact hn662) fun ρ => ?_
   refine AP_tail 11 [[], [], [], [1, 2], [1, 2, 3], [], [5], [5, 6], [], [0, 1, 2, 3, 4, 5, 6, 7, 8], [], [0, 1, 2, 3, 4, 5, 6, 7, 8, 9, 10]] (by kernel_rfl) ?_
   have ex666 := (((((ex457.ext x632).ext x638).ext x648).ext x654).ext x661)
   refine LP_stbox 11 (vs := [sl a79 r69 c80, .slice a658 (List.length (List.replicate (Int.toNat r92) ((0 : Int)))) c659, .slice a642 (List.length (List.replicate (Int.toNat (ln r69)) ((0 : Int)))) c643, .func (.func 121) #[] #[pb b81, pb b63, pb b58]]) (cs' := [sl a79 r69 c80, .slice a658 (List.length (List.replicate (Int.toNat r92) ((0 : Int)))) c659, .slice a642 (List.length (List.replicate (Int.toNat (ln r69)) ((0 : Int)))) c643, .func (.func 121) #[] #[pb b81, pb b63, pb b58]]) rfl rfl rfl ti_153 rfl rfl rfl rfl rfl ex666 rfl rfl fun wx663 ex664 y665 => ?_
   refine LP_end _ rfl ?_
   refine W_seq ?_
   refine W_region ?_
   refine LP_ev ok 0 [(30, I n)] 1 rfl rfl ?_
   have ex667 := (ex640.ext x648)
   have ex668 := ((((((ex87.ext x89).ext x453).ext x456).ext x632).ext x638).ext x648)
   have ex669 := ((((ex18.ext x).ext x60).ext x65).ext x74)
   have ex670 := ((((((((((((ex18.ext x).ext x60).ext x65).ext x74).ext x83).but y (Dj.of_fresh ex669 f85).symm).ext x89).ext x453).ext x456).ext x632).ext x638).ext x648)
   have ex671 := ((((ex22.ext x).ext x60).ext x65).ext x74)
   have ex672 := ((((((((((((ex22.ext x).ext x60).ext x65).ext x74).ext x83).but y (Dj.of_fresh ex671 f85).symm).ext x89).ext x453).ext x456).ext x632).ext x638).ext x648)
   have ex673 := ((((ex27.ext x).ext x60).ext x65).ext x74)
   have ex674 := ((((((((((((ex27.ext x).ext x60).ext x65).ext x74).ext x83).but y (Dj.of_fresh ex673 f85).symm).ext x89).ext x453).ext x456).ext x632).ext x638).ext x648)
   have ex675 := ((((ex31.ext x).ext x60).ext x65).ext x74)
   have ex676 := ((((((((((((ex31.ext x).ext x60).ext x65).ext x74).ext x83).but y (Dj.of_fresh ex675 f85).symm).ext x89).ext x453).ext x456).ext x632).ext x638).ext x648)
   have ex677 := (((ex457.ext x632).ext x638).ext x648)
   have ex678 := ((((ex87.ext x89).ext x453).ext x456).ext x632)
   have ex679 := ((((((ex669.ext x83).but y (Dj.of_fresh ex669 f85).symm).ext x89).ext x453).ext x456).ext x632)
   have ex680 := ((((((ex671.ext x83).but y (Dj.of_fresh ex671 f85).symm).ext x89).ext x453).ext x456).ext x632)
   have ex681 := ((((((ex673.ext x83).but y (Dj.of_fresh ex673 f85).symm).ext x89).ext x453).ext x456).ext x632)
   have ex682 := ((((((ex675.ext x83).but y (Dj.of_fresh ex675 f85).symm).ext x89).ext x453).ext x456).ext x632)
   have ex683 := (ex457.ext x632)
   have ex684 := ((ex87.ext x89).ext x453)
   have ex685 := ((((ex669.ext x83).but y (Dj.of_fresh ex669 f85).symm).ext x89).ext x453)
   have ex686 := ((((ex671.ext x83).but y (Dj.of_fresh ex671 f85).symm).ext x89).ext x453)
   have ex687 := ((((ex673.ext x83).but y (Dj.of_fresh ex673 f85).symm).ext x89).ext x453)
   have ex688 := ((((ex675.ext x83).but y (Dj.of_fresh ex675 f85).symm).ext x89).ext x453)
   have ex689 := ((((((((ex77.ext x83).but y (Dj.of_fresh ex77 f85).symm).ext x89).ext x453).ext x456).ext x632).ext x638).ext x648)
   have ex690 := ((((ex13.ext x).ext x60).ext x65).ext x74)
   have ex691 := ((((((((((((ex13.ext x).ext x60).ext x65).ext x74).ext x83).but y (Dj.of_fresh ex690 f85).symm).ext x89).ext x453).ext x456).ext x632).ext x638).ext x648)
   have ex692 := (ex66.ext x74)
   have ex693 := (((((((((ex66.ext x74).ext x83).but y (Dj.of_fresh ex692 f85).symm).ext x89).ext x453).ext x456).ext x632).ext x638).ext x648)
   have ex694 := ((ex61.ext x65).ext x74)
   have ex695 := ((((((((((ex61.ext x65).ext x74).ext x83).but y (Dj.of_fresh ex694 f85).symm).ext x89).ext x453).ext x456).ext x632).ext x638).ext x648)
   have ex696 := ((((((ex77.ext x83).but y (Dj.of_fresh ex77 f85).symm).ext x89).ext x453).ext x456).ext x632)
   have ex697 := ((((((ex690.ext x83).but y (Dj.of_fresh ex690 f85).symm).ext x89).ext x453).ext x456).ext x632)
   have ex698 := ((((((ex692.ext x83).but y (Dj.of_fresh ex692 f85).symm).ext x89).ext x453).ext x456).ext x632)
   have ex699 := ((((((ex694.ext x83).but y (Dj.of_fresh ex694 f85).symm).ext x89).ext x453).ext x456).ext x632)
   have ex700 := (((ex18.ext x).ext x60).ext x65)
   have ex701 := ((ex18.ext x).ext x60)
   have ex702 := (ex18.ext x)
   have ex703 := (((ex22.ext x).ext x60).ext x65)
   have ex704 := ((ex22.ext x).ext x60)
   have ex705 := (ex22.ext x)
   have ex706 := (((ex27.ext x).ext x60).ext x65)
   have ex707 := ((ex27.ext x).ext x60)
   have ex708 := (ex27.ext x)
   have ex709 := (((ex31.ext x).ext x60).ext x65)
   have ex710 := ((ex31.ext x).ext x60)
   have ex711 := (ex31.ext x)
   have ex712 := ((((ex77.ext x83).but y (Dj.of_fresh ex77 f85).symm).ext x89).ext x453)
   have ex713 := ((((ex690.ext x83).but y (Dj.of_fresh ex690 f85).symm).ext x89).ext x453)
   have ex714 := ((((ex692.ext x83).but y (Dj.of_fresh ex692 f85).symm).ext x89).ext x453)
   have ex715 := ((((ex694.ext x83).but y (Dj.of_fresh ex694 f85).symm).ext x89).ext x453)
   have ex722 := (((ex689.ext x654).ext x661).but y665 (Dj.of_fresh ex712 f458).symm)
   have ex723 := ((ex656.ext x661).but y665 (Dj.of_fresh ex677 f657))
   have ex724 := (((ex667.ext x654).ext x661).but y665 (Dj.of_fresh ex683 f641))
   have ex725 := (((ex668.ext x654).ext x661).but y665 (Dj.of_fresh ex684 f458).symm)
   have ex726 := (((ex691.ext x654).ext x661).but y665 (Dj.of_fresh ex713 f458).symm)
   have ex727 := (((ex670.ext x654).ext x661).but y665 (Dj.of_fresh ex685 f458).symm)
   have ex728 := (((ex672.ext x654).ext x661).but y665 (Dj.of_fresh ex686 f458).symm)
   have ex729 := (((ex674.ext x654).ext x661).but y665 (Dj.of_fresh ex687 f458).symm)
   have ex730 := (((ex676.ext x654).ext x661).but y665 (Dj.of_fresh ex688 f458).symm)
   have ex731 := (((ex693.ext x654).ext x661).but y665 (Dj.of_fresh ex714 f458).symm)
   have ex732 := (((ex695.ext x654).ext x661).but y665 (Dj.of_fresh ex715 f458).symm)
   refine LP_call 1 rfl rfl rfl cal_122 rfl (impl_search_from_impl_solutions_1_impl_ranges_1_impl_TypeRanges_1_w _ _ _ _ _ _ _ _ H wx663 o.readf ex722 o655 ex723 o639 ex724 ex725 ex726 r17 ex727 cn ex728 r26 ex729 ex730 ex731 ex732 ex664 (Dj.of_fresh ex667 f657).symm (Dj.of_fresh ex668 f657).symm (Dj.of_fresh ex670 f657).symm (Dj.of_fresh ex672 f657).symm (Dj.of_fresh ex674 f657).symm (Dj.of_fresh ex676 f657).symm (Dj.box (Dj.of_fresh ex677 f657).symm.symm).symm (Dj.of_fresh ex678 f641).symm (Dj.of_fresh ex679 f641).symm (Dj.of_fresh ex680 f641).symm (Dj.of_fresh ex681 f641).symm (Dj.of_fresh ex682 f641).symm (Dj.box (Dj.of_fresh ex683 f641).symm.symm).symm (Dj.box (Dj.of_fresh ex669 f85).symm) (Dj.box (Dj.of_fresh ex671 f85).symm) (Dj.box (Dj.of_fresh ex673 f85).symm) (Dj.box (Dj.of_fresh ex675 f85).symm) (Dj.box (Dj.of_fresh ex684 f458).symm).symm d d32 d33 (Dj.box (Dj.of_fresh ex685 f458).symm).symm d34 d35 (Dj.box (Dj.of_fresh ex686 f458).symm).symm d36 (Dj.box (Dj.of_fresh ex687 f458).symm).symm (Dj.box (Dj.of_fresh ex688 f458).symm).symm (Dj.of_fresh ex689 f657).symm (Dj.of_fresh ex691 f657).symm (Dj.of_fresh ex693 f657).symm (Dj.of_fresh ex695 f657).symm (Dj.of_fresh ex696 f641).symm (Dj.of_fresh ex697 f641).symm (Dj.of_fresh ex698 f641).symm (Dj.of_fresh ex699 f641).symm (Dj.box (Dj.of_fresh ex77 f85).symm) (Dj.box (Dj.of_fresh ex690 f85).symm) (Dj.box (Dj.of_fresh ex692 f85).symm) (Dj.box (Dj.of_fresh ex694 f85).symm) (Dj.of_fresh ex700 f78) d40 (Dj.of_fresh ex701 f67) (Dj.of_fresh ex702 f62) (Dj.of_fresh ex703 f78) d44 (Dj.of_fresh ex704 f67) (Dj.of_fresh ex705 f62) (Dj.of_fresh ex706 f78) d48 (Dj.of_fresh ex707 f67) (Dj.of_fresh ex708 f62) (Dj.of_fresh ex709 f78) d52 (Dj.of_fresh ex710 f67) (Dj.of_fresh ex711 f62) (Dj.box (Dj.of_fresh ex712 f458).symm) (Dj.box (Dj.of_fresh ex713 f458).symm) (Dj.box (Dj.of_fresh ex714 f458).symm) (Dj.box (Dj.of_fresh ex715 f458).symm)) ?_
   rintro _ wx733 ⟨r716, r717, r718, r719, r720, r721, vx739, hx735, vx744, hx740, vx750, hx746, vx756, hx752, H, rfl, x734, HF⟩
   revert HF
   refine bb9 fun o736 ex737 dm738 o741 ex742 dm743 ex745 o747 => ?_
   refine bb9 fun ex748 dm749 ex751 o753 ex754 dm755 ex757 ex758 => ?_
   refine bb9 fun d759 d760 d761 d762 d763 d764 d765 d766 => ?_
   refine bb9 fun d767 d768 d769 d770 d771 d772 d773 d774 => ?_
   refine bb7 fun d775 d776 d777 d778 d779 d780 cn781 => ?_
   obtain ⟨a782, c783, rfl⟩ := o736.shape
   obtain ⟨a784, c785, rfl⟩ := o741.shape
   obtain ⟨a786, c787, rfl⟩ := o747.shape
   obtain ⟨a788, c789, rfl⟩ := o753.shape
   refine LP_end _ rfl ?_
   refine W_seq ?_
   refine W_region ?_
   refine LP_ldbox 0 (v := I r719) rfl rfl rfl ti_3 ag_3 (fun _ => rfl) rfl ex745 rfl rfl ?_
   refine LP_ev ok 1 [(12, I r719)] 2 rfl rfl ?_
   refine LP_end _ rfl ?_
   refine W_ret ?_
   have X792 := ((((X.stepx x).stepx x60).stepx x65).stepx x74)
   have f791 := f85.mono X792.size
   have X793 := ((((((((((((X.stepx x).stepx x60).stepx x65).stepx x74).stepx x83).step y (f791.dom _)).stepx x89).stepx x453).stepx x456).stepx x632).stepx x638).stepx x648)
   have f790 := f657.mono X793.size
   have X795 := ((((((X792.stepx x83).step y (f791.dom _)).stepx x89).stepx x453).stepx x456).stepx x632)
   have f794 := f641.mono X795.size
   have X797 := ((((X792.stepx x83).step y (f791.dom _)).stepx x89).stepx x453)
   have f796 := f458.mono X797.size
   have X798 := (((X793.stepx x654).stepx x661).step y665 (f796.dom _))
   have X799 := (X798.step x734 (DomLe.un (f790.dom _) (DomLe.un (f794.dom _) (DomLe.un ((Fresh.box f791).dom _) (DomLe.un (Dom.le D _) (DomLe.un (Dom.le D53 _) (DomLe.un (Dom.le D54 _) (DomLe.un (Dom.le D55 _) ((Fresh.box f796).dom _)))))))))
   subst hM
   exact ⟨_, Ret_of [I r719] ⟨⟨rfl, rfl⟩, trivial⟩, _, _, _, _, _, _, _, H, rfl, X799, o747, ex748, (DomLe.trans (DomLe.un (f790.dom _) (DomLe.un (f794.dom _) (DomLe.un ((Fresh.box f791).dom _) (DomLe.un (Dom.le D _) (DomLe.un (Dom.le D53 _) (DomLe.un (Dom.le D54 _) (DomLe.un (Dom.le D55 _) ((Fresh.box f796).dom _)))))))) dm749 X798.size), ex751, o753, ex754, (DomLe.trans (DomLe.un (f790.dom _) (DomLe.un (f794.dom _) (DomLe.un ((Fresh.box f791).dom _) (DomLe.un (Dom.le D _) (DomLe.un (Dom.le D53 _) (DomLe.un (Dom.le D54 _) (DomLe.un (Dom.le D55 _) ((Fresh.box f796).dom _)))))))) dm755 X798.size), ex757, d774, d775, d776, d778, d779, cn781⟩

theorem impl_ranges_impl_TypeRanges_1_w (g : Geo) (sx : List Variable) (pubs : List Published) (n : Int) (Q : (List Int) → (List Int) → Bool → Prop) (H : impl_ranges_impl_TypeRanges_1 g sx pubs n Q) (w : World) {vx : Value} {hx : PH} (r : RS hx vx g.Parents) (ex : Sub hx w) {vx1 : Value} {hx2 : PH} (r3 : RS hx2 vx1 sx) (ex4 : Sub hx2 w) {vx7 : Value} {hx8 : PH} (r9 : RS hx8 vx7 pubs) (ex10 : Sub hx8 w) :
  CallsTo Tryz.prog 74 #[.agg #[vx], vx1, vx7, I n, .func (.func 75) #[] #[]] w fun v w' => ∃ r0 r1 r2 u0 g0 u1 g1, Q r0 r1 r2 ∧ v = .tuple #[u0, u1, .bool r2] ∧ Ext w w' ∧ OS 3 g0 emp u0 r0 ∧ Sub g0 w' ∧ Fresh w.heap.size g0 ∧ OS 3 g1 emp u1 r1 ∧ Sub g1 w' ∧ Fresh w.heap.size g1 ∧ Dj g0 g1 := by
 obtain ⟨a, c, rfl⟩ := r.shape
 obtain ⟨a5, c6, rfl⟩ := r3.shape
 obtain ⟨a11, c12, rfl⟩ := r9.shape
 refine enter (args := [.agg #[sl a g.Parents c], sl a5 sx c6, sl a11 pubs c12, I n, .func (.func 75) #[] #[]]) 30 Tryz.func74 rfl rfl rfl ?_
 refine W_forget [(0, .agg #[sl a g.Parents c]), (1, sl a5 sx c6), (2, sl a11 pubs c12), (3, I n), (4, .func (.func 75) #[] #[])] ⟨rfl, rfl, rfl, rfl, rfl, trivial⟩ fun ρ => ?_
 have X := But.refl emp w
 refine W_seq ?_
 refine W_region ?_
 refine LP_box 0 (cs := [sl a g.Parents c]) rfl rfl rfl rfl rfl fun b wx x ex13 f => ?_
 refine LP_box 1 (cs := [.func (.func 75) #[] #[]]) rfl rfl rfl rfl rfl fun b14 wx15 x16 ex17 f18 => ?_
 refine LP_ev ok 2 [(10, .slice none 0 0), (11, .slice none 0 0), (12, .bool false)] 5 rfl rfl ?_
 refine LP_end _ rfl ?_
 refine W_seq ?_
 refine W_region ?_
 refine LP_alloc 0 rfl rfl rfl ti_22 rfl fun b19 wx20 x21 ex22 f23 => ?_
 refine LP_alloc 1 rfl rfl rfl ti_22 rfl fun b24 wx25 x26 ex27 f28 => ?_
 refine LP_end _ rfl ?_
 refine W_seq ?_
 refine W_region ?_
 have ex29 := (((ex13.ext x16).ext x21).ext x26)
 refine LP_ldbox 0 (v := .agg #[sl a g.Parents c]) rfl rfl rfl ti_32 ag_32 (fun h => by cases h) rfl ex29 rfl rfl ?_
 refine LP_ev ok 1 [(17, sl a5 sx c6), (18, sl a11 pubs c12), (19, I n), (20, .func (.func 124) #[] #[pb b14, pb b19, pb b24])] 5 rfl rfl ?_
 have ex30 := ((ex.ext x).ext x16)
 have ex31 := ((ex4.ext x).ext x16)
 have ex32 := ((ex10.ext x).ext x16)
 have ex33 := (ex30.ext x21)
 have ex34 := (ex31.ext x21)
 have ex35 := (ex32.ext x21)
 have ex36 := (ex17.ext x21)
 have ex40 := (ex33.ext x26)
 have ex41 := (ex34.ext x26)
 have ex42 := (ex35.ext x26)
 have ex43 := (ex36.ext x26)
 have ex44 := (ex22.ext x26)
 refine LP_call 5 rfl rfl rfl cal_65 rfl (impl_solutions_impl_ranges_1_impl_TypeRanges_1_w _ _ _ _ _ _ _ _ H wx25 r ex40 r3 ex41 r9 ex42 ex43 (OS.nil (E := 3) (g := emp)) (emp_sub _) CanV.nil ex44 (OS.nil (E := 3) (g := emp)) (emp_sub _) ex27 (Dj.emp_l _) (Dj.emp_l _) (Dj.emp_l _) (Dj.emp_r _) (Dj.of_fresh ex22 f28) (Dj.emp_l _) (Dj.emp_l _) (Dj.emp_l _) (Dj.emp_l _) (Dj.emp_l _) (Dj.of_fresh ex30 f23).symm (Dj.of_fresh ex31 f23).symm (Dj.of_fresh ex32 f23).symm (Dj.of_fresh ex17 f23).symm (Dj.emp_l _) (Dj.emp_l _) (Dj.emp_l _) (Dj.emp_l _) (Dj.of_fresh ex33 f28).symm (Dj.of_fresh ex34 f28).symm (Dj.of_fresh ex35 f28).symm (Dj.of_fresh ex36 f28).symm) ?_
 rintro _ wx45 ⟨r37, r38, r39, vx49, hx47, vx55, hx51, H, rfl, x46, HF⟩
 revert HF
 refine bb9 fun o ex48 dm ex50 o52 ex53 dm54 ex56 => ?_
 refine bb6 fun d d57 d58 d59 d60 cn => ?_
 obtain ⟨a61, c62, rfl⟩ := o.shape
 obtain ⟨a63, c64, rfl⟩ := o52.shape
 refine LP_ev ok 6 [(15, I r37)] 7 rfl rfl ?_
 refine LP_end _ rfl ?_
 refine W_seq ?_
 obtain ⟨k, hk, H⟩ := jn_elim H
 refine W_join2 (S := Bool) (fun s ρ' w' => k s ∧ ∃ (ρ : Env), ρ' = setAll [(13, pb b19), (14, pb b24), (27, .bool s)] ρ ∧ wx45 = w') ?_ ?_
 ·refine W_region ?_
  refine LP_ev ok 0 [(22, I r37), (23, .bool (r37 == 0)), (24, .bool (r37 == 0))] 3 rfl rfl ?_
  refine LP_split 24 (r37 == 0) rfl (fun hc => ?_) (fun hc => ?_)
  ·have H := H.1 hc
   refine LP_ev ok 3 [(25, undef), (26, undef), (27, .bool true)] 6 rfl rfl ?_
   refine LP_end _ rfl ?_
   exact ⟨true, H, _, env_eq ⟨rfl, rfl, rfl, trivial⟩, rfl⟩
  have H := H.2 hc
  refine LP_ev ok 3 [(25, I r37), (26, .bool (decide (r37 > 20000))), (27, .bool (decide (r37 > 20000)))] 6 rfl rfl ?_
  refine LP_end _ rfl ?_
  exact ⟨decide (r37 > 20000), H, _, env_eq ⟨rfl, rfl, rfl, trivial⟩, rfl⟩
 rintro x65 _ _ ⟨H, ρ, rfl, rfl⟩
 subst hk
 refine W_cond (x65) rfl (fun hc67 => ?_) (fun hc67 => ?_)
 ·have H := H.1 hc67
  refine W_seq ?_
  refine W_region ?_
  refine LP_ev ok 0 [(10, .slice none 0 0), (11, .slice none 0 0), (12, .bool false)] 3 rfl rfl ?_
  refine LP_end _ rfl ?_
  refine W_ret ?_
  have X69 := ((X.stepx x).stepx x16)
  have f68 := f23.mono X69.size
  have X71 := (X69.stepx x21)
  have f70 := f28.mono X71.size
  have X72 := (((((X.stepx x).stepx x16).stepx x21).stepx x26).step x46 (DomLe.un (fun _ _ _ => rfl) (DomLe.un (f68.dom _) (DomLe.un (fun _ _ _ => rfl) (f70.dom _)))))
  exact ⟨_, Ret_of [.slice none 0 0, .slice none 0 0, .bool false] ⟨⟨rfl, rfl⟩, ⟨rfl, rfl⟩, ⟨rfl, rfl⟩, trivial⟩, _, _, _, _, emp, _, emp, H, rfl, X72.ext, OS.nil, (emp_sub _), (emp_fresh _), OS.nil, (emp_sub _), (emp_fresh _), (Dj.emp_l _)⟩
 have H := H.2 hc67
 refine W_skip ?_
 refine W_seq ?_
 refine W_quiet mix (by kernel_rfl) ?_
 refine QP_ldbox 0 (v := sl a61 r38 c62) rfl rfl rfl ti_22 ag_22 (fun _ => rfl) rfl ex50 rfl rfl ?_
 refine QP_ldbox 1 (v := sl a63 r39 c64) rfl rfl rfl ti_22 ag_22 (fun _ => rfl) rfl ex56 rfl rfl ?_
 refine QP_ev ok 2 [(10, sl a61 r38 c62), (11, sl a63 r39 c64), (12, .bool true)] 5 rfl rfl ?_
 refine QP_end _ rfl fun wx73 x74 => ?_
 refine W_ret ?_
 have ex75 := (ex48.ext x74)
 have X77 := ((X.stepx x).stepx x16)
 have f76 := f23.mono X77.size
 have X79 := (X77.stepx x21)
 have f78 := f28.mono X79.size
 have X81 := (X79.stepx x26)
 have f80 := DomLe.fresh dm (Fresh.un (emp_fresh _) (Fresh.un f76 (Fresh.un (emp_fresh _) f78))) X81.size
 have ex82 := (ex53.ext x74)
 have f83 := DomLe.fresh dm54 (Fresh.un (emp_fresh _) (Fresh.un f76 (Fresh.un (emp_fresh _) f78))) X81.size
 have X84 := ((X81.step x46 (DomLe.un (fun _ _ _ => rfl) (DomLe.un (f76.dom _) (DomLe.un (fun _ _ _ => rfl) (f78.dom _))))).stepx x74)
 exact ⟨_, Ret_of [sl a61 r38 c62, sl a63 r39 c64, .bool true] ⟨⟨rfl, rfl⟩, ⟨rfl, rfl⟩, ⟨rfl, rfl⟩, trivial⟩, _, _, _, _, _, _, _, H, rfl, X84.ext, o, ex75, f80, o52, ex82, f83, d57⟩

theorem impl_TypeRanges_w (g : Geo) (sx : List Variable) (pubs : List Published) (n : Int) (Q : (List Int) → (List Int) → Bool → Prop) (H : impl_TypeRanges g sx pubs n Q) (w : World) {vx : Value} {hx : PH} (r : RS hx vx g.Parents) (ex : Sub hx w) {vx1 : Value} {hx2 : PH} (r3 : RS hx2 vx1 sx) (ex4 : Sub hx2 w) {vx7 : Value} {hx8 : PH} (r9 : RS hx8 vx7 pubs) (ex10 : Sub hx8 w) :
  CallsTo Tryz.prog 27 #[.agg #[vx], vx1, vx7, I n] w fun v w' => ∃ r0 r1 r2 u0 g0 u1 g1, Q r0 r1 r2 ∧ v = .tuple #[u0, u1, .bool r2] ∧ Ext w w' ∧ OS 3 g0 emp u0 r0 ∧ Sub g0 w' ∧ Fresh w.heap.size g0 ∧ OS 3 g1 emp u1 r1 ∧ Sub g1 w' ∧ Fresh w.heap.size g1 ∧ Dj g0 g1 := by
 obtain ⟨a, c, rfl⟩ := r.shape
 obtain ⟨a5, c6, rfl⟩ := r3.shape
 obtain ⟨a11, c12, rfl⟩ := r9.shape
 refine enter (args := [.agg #[sl a g.Parents c], sl a5 sx c6, sl a11 pubs c12, I n]) 29 Tryz.func27 rfl rfl rfl ?_
 refine W_forget [(0, .agg #[sl a g.Parents c]), (1, sl a5 sx c6), (2, sl a11 pubs c12), (3, I n)] ⟨rfl, rfl, rfl, rfl, trivial⟩ fun ρ => ?_
 have X := But.refl emp w
 refine W_seq ?_
 refine W_region ?_
 refine LP_box 0 (cs := [sl a g.Parents c]) rfl rfl rfl rfl rfl fun b wx x ex13 f => ?_
 refine LP_ev ok 1 [(8, .slice none 0 0), (9, .slice none 0 0), (10, .bool false)] 4 rfl rfl ?_
 refine LP_end _ rfl ?_
 refine W_seq ?_
 obtain ⟨k, hk, H⟩ := jn_elim H
 refine W_join2 (S := Bool) (fun s ρ' w' => k s ∧ ∃ (ρ : Env), ρ' = setAll [(1, sl a5 sx c6), (2, sl a11 pubs c12), (3, I n), (4, pb b), (20, .bool s)] ρ ∧ But emp w w' ∧ Sub hx w' ∧ Sub hx2 w' ∧ Sub hx8 w' ∧ Sub (bx b 32 [sl a g.Parents c]) w') ?_ ?_
 ·refine W_region ?_
  refine LP_ldbox 0 (v := .agg #[sl a g.Parents c]) rfl rfl rfl ti_32 ag_32 (fun h => by cases h) rfl ex13 rfl rfl ?_
  refine LP_ev ok 1 [(12, sl a5 sx c6), (13, sl a11 pubs c12)] 3 rfl rfl ?_
  have ex22 := (ex.ext x)
  have ex23 := (ex4.ext x)
  have ex24 := (ex10.ext x)
  refine LP_call 3 rfl rfl rfl cal_63 rfl (impl_areAttacked_w _ _ _ _ H wx r ex22 r3 ex23 r9 ex24) ?_
  rintro _ wx25 ⟨r21, H, rfl, x26⟩
  refine LP_ev ok 4 [(15, .bool (!r21)), (16, .bool (!r21))] 6 rfl rfl ?_
  refine LP_split 16 (!r21) rfl (fun hc => ?_) (fun hc => ?_)
  ·have H := H.1 hc
   refine LP_ev ok 6 [(17, undef), (18, undef), (19, undef), (20, .bool true)] 10 rfl rfl ?_
   refine LP_end _ rfl ?_
   have X27 := ((X.stepx x).stepx x26)
   have ex28 := (ex22.ext x26)
   have ex29 := (ex23.ext x26)
   have ex30 := (ex24.ext x26)
   have ex31 := (ex13.ext x26)
   exact ⟨true, H, _, env_eq ⟨rfl, rfl, rfl, rfl, rfl, trivial⟩, X27, ex28, ex29, ex30, ex31⟩
  have H := H.2 hc
  refine LP_ev ok 6 [(17, I n)] 7 rfl rfl ?_
  refine LP_call 7 rfl rfl rfl cal_64 rfl (impl_isPersons_w _ _ H wx25 ) ?_
  rintro _ wx33 ⟨r32, H, rfl, x34⟩
  refine LP_ev ok 8 [(19, .bool (!r32)), (20, .bool (!r32))] 10 rfl rfl ?_
  refine LP_end _ rfl ?_
  have X35 := (((X.stepx x).stepx x26).stepx x34)
  have ex36 := ((ex22.ext x26).ext x34)
  have ex37 := ((ex23.ext x26).ext x34)
  have ex38 := ((ex24.ext x26).ext x34)
  have ex39 := ((ex13.ext x26).ext x34)
  exact ⟨!r32, H, _, env_eq ⟨rfl, rfl, rfl, rfl, rfl, trivial⟩, X35, ex36, ex37, ex38, ex39⟩
 rintro x14 _ wx15 ⟨H, ρ, rfl, HF⟩
 revert HF
 refine bb5 fun X20 ex16 ex17 ex18 ex19 => ?_
 subst hk
 refine W_cond (x14) rfl (fun hc40 => ?_) (fun hc40 => ?_)
 ·have H := H.1 hc40
  refine W_seq ?_
  refine W_region ?_
  refine LP_ev ok 0 [(8, .slice none 0 0), (9, .slice none 0 0), (10, .bool false)] 3 rfl rfl ?_
  refine LP_end _ rfl ?_
  refine W_ret ?_
  exact ⟨_, Ret_of [.slice none 0 0, .slice none 0 0, .bool false] ⟨⟨rfl, rfl⟩, ⟨rfl, rfl⟩, ⟨rfl, rfl⟩, trivial⟩, _, _, _, _, emp, _, emp, H, rfl, X20.ext, OS.nil, (emp_sub _), (emp_fresh _), OS.nil, (emp_sub _), (emp_fresh _), (Dj.emp_l _)⟩
 have H := H.2 hc40
 refine W_skip ?_
 refine W_seq ?_
 refine W_region ?_
 refine LP_ldbox 0 (v := .agg #[sl a g.Parents c]) rfl rfl rfl ti_32 ag_32 (fun h => by cases h) rfl ex19 rfl rfl ?_
 refine LP_ev ok 1 [(22, sl a5 sx c6), (23, sl a11 pubs c12), (24, I n)] 4 rfl rfl ?_
 refine LP_call 4 rfl rfl rfl cal_74 rfl (impl_ranges_impl_TypeRanges_1_w _ _ _ _ _ H wx15 r ex16 r3 ex17 r9 ex18) ?_
 rintro _ wx44 ⟨r41, r42, r43, vx46, hx47, vx50, hx51, H, rfl, x45, HF⟩
 revert HF
 refine bb7 fun o ex48 f49 o52 ex53 f54 d => ?_
 obtain ⟨a55, c56, rfl⟩ := o.shape
 obtain ⟨a57, c58, rfl⟩ := o52.shape
 refine LP_ev ok 5 [(26, sl a55 r41 c56), (27, sl a57 r42 c58), (28, .bool r43), (8, sl a55 r41 c56), (9, sl a57 r42 c58), (10, .bool r43)] 11 rfl rfl ?_
 refine LP_end _ rfl ?_
 refine W_ret ?_
 have f59 := f49.mono X20.size
 have f60 := f54.mono X20.size
 have X61 := (X20.stepx x45)
 exact ⟨_, Ret_of [sl a55 r41 c56, sl a57 r42 c58, .bool r43] ⟨⟨rfl, rfl⟩, ⟨rfl, rfl⟩, ⟨rfl, rfl⟩, trivial⟩, _, _, _, _, _, _, _, H, rfl, X61.ext, o, ex48, f59, o52, ex53, f60, d⟩

theorem impl_CertainTypes_w (g : Geo) (sx : List Variable) (pubs : List Published) (n : Int) (Q : (List Int) → Bool → Prop) (H : impl_CertainTypes g sx pubs n Q) (w : World) {vx : Value} {hx : PH} (r : RS hx vx g.Parents) (ex : Sub hx w) {vx1 : Value} {hx2 : PH} (r3 : RS hx2 vx1 sx) (ex4 : Sub hx2 w) {vx7 : Value} {hx8 : PH} (r9 : RS hx8 vx7 pubs) (ex10 : Sub hx8 w) :
  CallsTo Tryz.prog 29 #[.agg #[vx], vx1, vx7, I n] w fun v w' => ∃ r0 r1 u0 g0, Q r0 r1 ∧ v = .tuple #[u0, .bool r1] ∧ Ext w w' ∧ OS 3 g0 emp u0 r0 ∧ Sub g0 w' ∧ Fresh w.heap.size g0 := by
 obtain ⟨a, c, rfl⟩ := r.shape
 obtain ⟨a5, c6, rfl⟩ := r3.shape
 obtain ⟨a11, c12, rfl⟩ := r9.shape
 refine enter (args := [.agg #[sl a g.Parents c], sl a5 sx c6, sl a11 pubs c12, I n]) 50 Tryz.func29 rfl rfl rfl ?_
 refine W_forget [(0, .agg #[sl a g.Parents c]), (1, sl a5 sx c6), (2, sl a11 pubs c12), (3, I n)] ⟨rfl, rfl, rfl, rfl, trivial⟩ fun ρ => ?_
 have X := But.refl emp w
 refine W_seq ?_
 refine W_region ?_
 refine LP_box 0 (cs := [sl a g.Parents c]) rfl rfl rfl rfl rfl fun b wx x ex13 f => ?_
 refine LP_ev ok 1 [(8, .slice none 0 0), (9, .bool false)] 3 rfl rfl ?_
 refine LP_end _ rfl ?_
 refine W_seq ?_
 refine W_region ?_
 refine LP_ldbox 0 (v := .agg #[sl a g.Parents c]) rfl rfl rfl ti_32 ag_32 (fun h => by cases h) rfl ex13 rfl rfl ?_
 refine LP_ev ok 1 [(18, sl a5 sx c6), (19, sl a11 pubs c12), (20, I n)] 4 rfl rfl ?_
 have ex17 := (ex.ext x)
 have ex18 := (ex4.ext x)
 have ex19 := (ex10.ext x)
 refine LP_call 4 rfl rfl rfl cal_27 rfl (impl_TypeRanges_w _ _ _ _ _ H wx r ex17 r3 ex18 r9 ex19) ?_
 rintro _ wx20 ⟨r14, r15, r16, vx22, hx23, vx26, hx27, H, rfl, x21, HF⟩
 revert HF
 refine bb7 fun o ex24 f25 o28 ex29 f30 d => ?_
 obtain ⟨a31, c32, rfl⟩ := o.shape
 obtain ⟨a33, c34, rfl⟩ := o28.shape
 refine LP_ev ok 5 [(16, .tuple #[sl a31 r14 c32, sl a33 r15 c34, .bool r16]), (22, sl a31 r14 c32), (23, sl a33 r15 c34), (24, .bool r16), (10, sl a31 r14 c32), (11, sl a33 r15 c34), (12, .bool r16)] 12 rfl rfl ?_
 refine LP_end _ rfl ?_
 refine W_seq ?_
 refine W_seq ?_
 refine W_region ?_
 refine LP_ev ok 0 [(25, .bool r16), (26, .bool (!r16))] 2 rfl rfl ?_
 refine LP_end _ rfl ?_
 refine W_cond (!r16) rfl (fun hc => ?_) (fun hc => ?_)
 ·have H := H.1 hc
  refine W_seq ?_
  refine W_region ?_
  refine LP_ev ok 0 [(8, .slice none 0 0), (9, .bool false)] 2 rfl rfl ?_
  refine LP_end _ rfl ?_
  refine W_ret ?_
  have X35 := ((X.stepx x).stepx x21)
  exact ⟨_, Ret_of [.slice none 0 0, .bool false] ⟨⟨rfl, rfl⟩, ⟨rfl, rfl⟩, trivial⟩, _, _, _, emp, H, rfl, X35.ext, OS.nil, (emp_sub _), (emp_fresh _)⟩
 have H := H.2 hc
 refine W_skip ?_
 refine W_seq ?_
 refine W_region ?_
 refine LP_ev ok 0 [(13, .slice none 0 0)] 1 rfl rfl ?_
 refine LP_end _ rfl ?_
 refine W_seq ?_
 refine W_seq ?_
 refine W_region ?_
 refine LP_ev ok 0 [(27, sl a31 r14 c32), (28, I (ln r14)), (29, I 0)] 3 rfl rfl ?_
 refine LP_end _ rfl ?_
 refine W_block ?_
 have X50 := ((X.stepx x).stepx x21)
 obtain ⟨J, m, Hx, H⟩ := H
 refine W_loop (S := (List Int) × Int) (fun s ρ' w' => J s.1 s.2 ∧ ∃ (ρ : Env) (vx36 : Value) (hx37 : PH), ρ' = setAll [(11, sl a33 r15 c34), (13, vx36), (27, sl a31 r14 c32), (28, I (ln r14)), (29, I s.2)] ρ ∧ But emp w w' ∧ OS 3 hx37 emp vx36 s.1 ∧ Sub hx37 w' ∧ Fresh w.heap.size hx37 ∧ Sub hx23 w' ∧ Sub hx27 w' ∧ Dj hx37 hx23 ∧ Dj hx37 hx27) (fun s => m s.1 s.2) ([], 0) ⟨Hx, _, .slice none 0 0, emp, env_eq ⟨rfl, rfl, rfl, rfl, rfl, trivial⟩, X50, OS.nil, (emp_sub _), (emp_fresh _), ex24, ex29, (fun _ => .inl rfl), (fun _ => .inl rfl)⟩ ?_
 rintro ⟨out, x41⟩ _ wx42 ⟨Hi, ρ, vx36, hx37, rfl, HF⟩
 revert HF
 refine bb8 fun X49 o38 ex39 f40 ex43 ex44 d47 d48 => ?_
 have H := H out x41 Hi
 obtain ⟨a45, c46, rfl⟩ := o38.shape
 refine W_seq ?_
 refine W_region ?_
 refine LP_ev ok 0 [(30, .bool (decide (x41 < (ln r14))))] 1 rfl rfl ?_
 refine LP_end _ rfl ?_
 refine W_seq ?_
 refine W_cond (decide (x41 < (ln r14))) rfl (fun hc51 => ?_) (fun hc51 => ?_)
 ·have H := H.1 hc51
  refine W_skip ?_
  obtain ⟨k, hk, H⟩ := jn_elim H
  refine W_join2 (S := (List Int)) (fun s ρ' w' => k s ∧ ∃ (ρ : Env) (vx53 : Value) (hx54 : PH), ρ' = setAll [(11, sl a33 r15 c34), (13, vx53), (27, sl a31 r14 c32), (28, I (ln r14)), (29, I x41)] ρ ∧ But emp w w' ∧ OS 3 hx54 emp vx53 s ∧ Sub hx54 w' ∧ Fresh w.heap.size hx54 ∧ Sub hx23 w' ∧ Sub hx27 w' ∧ Dj hx54 hx23 ∧ Dj hx54 hx27) ?_ ?_
  ·refine W_block ?_
   refine W_seq ?_
   refine W_region ?_
   refine LP_ev ok 0 [(31, I x41)] 1 rfl rfl ?_
   obtain ⟨x66, hi, hx67, H⟩ := H
   refine LP_index 1 rfl rfl rfl Tryz.underlying22 ti_3 rfl rfl o.readf hi hx67 fun a68 cs r69 d70 => ?_
   refine LP_load 2 rfl rfl rfl ti_3 ag_3 rfl r69 d70 ex43 fun vx71 r72 => ?_
   obtain rfl := r72.int
   refine LP_ev ok 3 [(14, I x41), (15, I x66)] 5 rfl rfl ?_
   refine LP_end _ rfl ?_
   obtain ⟨k75, hk76, H⟩ := jn_elim H
   refine W_join2 (S := Bool) (fun s ρ' w' => k75 s ∧ ∃ (ρ : Env), ρ' = setAll [(11, sl a33 r15 c34), (13, sl a45 out c46), (14, I x41), (27, sl a31 r14 c32), (28, I (ln r14)), (29, I x41), (43, .bool s)] ρ ∧ wx42 = w') ?_ ?_
   ·refine W_region ?_
    refine LP_ev ok 0 [(34, I x66), (35, .bool (decide (x66 > 0))), (36, .bool (decide (x66 > 0)))] 3 rfl rfl ?_
    refine LP_split 36 (decide (x66 > 0)) rfl (fun hc77 => ?_) (fun hc77 => ?_)
    ·have H := H.1 hc77
     refine LP_ev ok 3 [(37, I x66), (38, sl a33 r15 c34), (39, I x41)] 6 rfl rfl ?_
     obtain ⟨x78, hi79, hx80, H⟩ := H
     refine LP_index 6 rfl rfl rfl Tryz.underlying22 ti_3 rfl rfl o28.readf hi79 hx80 fun a81 cs82 r83 d84 => ?_
     refine LP_load 7 rfl rfl rfl ti_3 ag_3 rfl r83 d84 ex44 fun vx85 r86 => ?_
     obtain rfl := r86.int
     refine LP_ev ok 8 [(42, .bool (x66 == x78)), (43, .bool (x66 == x78))] 10 rfl rfl ?_
     refine LP_end _ rfl ?_
     exact ⟨x66 == x78, H, _, env_eq ⟨rfl, rfl, rfl, rfl, rfl, rfl, rfl, trivial⟩, rfl⟩
    have H := H.2 hc77
    refine LP_ev ok 3 [(37, undef), (38, undef), (39, undef), (40, undef), (41, undef), (42, undef), (43, .bool false)] 10 rfl rfl ?_
    refine LP_end _ rfl ?_
    exact ⟨false, H, _, env_eq ⟨rfl, rfl, rfl, rfl, rfl, rfl, rfl, trivial⟩, rfl⟩
   rintro x73 _ _ ⟨H, ρ, rfl, rfl⟩
   subst hk76
   refine W_cond (x73) rfl (fun hc87 => ?_) (fun hc87 => ?_)
   ·have H := H.1 hc87
    refine W_region ?_
    refine LP_ev ok 0 [(44, sl a45 out c46), (45, I x41)] 2 rfl rfl ?_
    refine LP_lit (α := Int) (g := emp) 2 (vs := [I x41]) (xs := [x41]) rfl rfl rfl Tryz.underlying22 ti_3 rfl rfl ⟨⟨_, rfl, rfl⟩, trivial⟩ rfl rfl fun hx88 vx89 wx90 x91 o92 ex93 f94 => ?_
    obtain ⟨a95, c96, rfl⟩ := o92.shape
    have ex97 := (ex39.ext x91)
    obtain ⟨hb, H⟩ := H
    refine LP_appendf (α := Int) 3 rfl rfl rfl Tryz.underlying22 ti_3 rfl rfl rfl o38 ex97 o92.readf ex93 (by first | omega | (simp only [ln] at *; omega)) (by first | omega | (simp only [ln] at *; omega)) fun hx98 vx99 wx100 o101 ex102 y dm => ?_
    obtain ⟨a103, c104, rfl⟩ := o101.shape
    refine LP_ev ok 4 [(13, .slice a103 (List.length (out ++ ([x41]))) c104)] 5 rfl rfl ?_
    refine LP_end _ rfl ?_
    have X105 := ((X49.stepx x91).step y (f40.dom _))
    have X107 := (X49.stepx x91)
    have f106 := dm.fresh f40 X107.size
    have ex108 := ((ex43.ext x91).but y d47)
    have ex109 := ((ex44.ext x91).but y d48)
    have ex110 := (ex43.ext x91)
    have ex111 := (ex44.ext x91)
    exact ⟨out ++ ([x41]), H, _, .slice a103 (List.length (out ++ ([x41]))) c104, hx98, env_eq ⟨rfl, rfl, rfl, rfl, rfl, trivial⟩, X105, o101, ex102, f106, ex108, ex109, (DomLe.dj dm d47 ex110), (DomLe.dj dm d48 ex111)⟩
   have H := H.2 hc87
   refine W_skip ?_
   exact ⟨out, H, _, sl a45 out c46, hx37, env_eq ⟨rfl, rfl, rfl, rfl, rfl, trivial⟩, X49, o38, ex39, f40, ex43, ex44, d47, d48⟩
  rintro out52 _ wx58 ⟨H, ρ, vx53, hx54, rfl, HF⟩
  revert HF
  refine bb8 fun X65 o55 ex56 f57 ex59 ex60 d63 d64 => ?_
  subst hk
  obtain ⟨a61, c62, rfl⟩ := o55.shape
  refine W_region ?_
  refine LP_ev ok 0 [(48, I (wr (x41 + 1))), (29, I (wr (x41 + 1)))] 2 rfl rfl ?_
  refine LP_end _ rfl ?_
  exact ⟨(out52, wr (x41 + 1)), ⟨H.1, _, sl a61 out52 c62, hx54, env_eq ⟨rfl, rfl, rfl, rfl, rfl, trivial⟩, X65, o55, ex56, f57, ex59, ex60, d63, d64⟩, H.2⟩
 have H := H.2 hc51
 refine W_exit ?_
 refine (if_pos rfl).mpr ?_
 refine W_seq ?_
 refine W_region ?_
 refine LP_ev ok 0 [(49, sl a45 out c46), (8, sl a45 out c46), (9, .bool true)] 3 rfl rfl ?_
 refine LP_end _ rfl ?_
 refine W_ret ?_
 exact ⟨_, Ret_of [sl a45 out c46, .bool true] ⟨⟨rfl, rfl⟩, ⟨rfl, rfl⟩, trivial⟩, _, _, _, _, H, rfl, X49.ext, o38, ex39, f40⟩

theorem laws_eqIntS_w (a : List Int) (b : List Int) (Q : Bool → Prop) (H : laws_eqIntS a b Q) (w : World) {vx : Value} {hx : PH} (r : RS hx vx a) (ex : Sub hx w) {vx2 : Value} {hx3 : PH} (r4 : RS hx3 vx2 b) (ex5 : Sub hx3 w) :
  CallsTo Tryz.prog 17 #[vx, vx2] w fun v w' => ∃ r0, Q r0 ∧ v = .bool r0 ∧ Ext w w' := by
 obtain ⟨a1, c, rfl⟩ := r.shape
 obtain ⟨a6, c7, rfl⟩ := r4.shape
 refine enter (args := [sl a1 a c, sl a6 b c7]) 26 Tryz.func17 rfl rfl rfl ?_
 refine W_forget [(0, sl a1 a c), (1, sl a6 b c7)] ⟨rfl, rfl, trivial⟩ fun ρ => ?_
 have X := But.refl emp w
 refine W_seq ?_
 refine W_region ?_
 refine LP_ev ok 0 [(4, .bool false)] 1 rfl rfl ?_
 refine LP_end _ rfl ?_
 refine W_seq ?_
 refine W_seq ?_
 refine W_region ?_
 refine LP_ev ok 0 [(6, sl a1 a c), (7, I (ln a)), (8, sl a6 b c7), (9, I (ln b)), (10, .bool ((ln a) != (ln b)))] 5 rfl rfl ?_
 refine LP_end _ rfl ?_
 refine W_cond ((ln a) != (ln b)) rfl (fun hc => ?_) (fun hc => ?_)
 ·have H := H.1 hc
  refine W_seq ?_
  refine W_region ?_
  refine LP_ev ok 0 [(4, .bool false)] 1 rfl rfl ?_
  refine LP_end _ rfl ?_
  refine W_ret ?_
  exact ⟨_, Ret_of [.bool false] ⟨⟨rfl, rfl⟩, trivial⟩, _, H, rfl, X.ext⟩
 have H := H.2 hc
 refine W_skip ?_
 refine W_seq ?_
 refine W_seq ?_
 refine W_region ?_
 refine LP_ev ok 0 [(5, I 0)] 1 rfl rfl ?_
 refine LP_end _ rfl ?_
 refine W_block ?_
 obtain ⟨J, m, Hx, H⟩ := H
 refine W_loop (S := Int) (fun s ρ' w' => J s ∧ ∃ (ρ : Env), ρ' = setAll [(0, sl a1 a c), (1, sl a6 b c7), (5, I s)] ρ ∧ But emp w w' ∧ Sub hx w' ∧ Sub hx3 w') (fun s => m s) 0 ⟨Hx, _, env_eq ⟨rfl, rfl, rfl, trivial⟩, X, ex, ex5⟩ ?_
 rintro i _ wx ⟨Hi, ρ, rfl, X10, ex8, ex9⟩
 have H := H i Hi
 refine W_seq ?_
 refine W_seq ?_
 refine W_region ?_
 refine LP_ev ok 0 [(11, I i), (12, sl a1 a c), (13, I (ln a)), (14, .bool (decide (i < (ln a))))] 4 rfl rfl ?_
 refine LP_end _ rfl ?_
 refine W_cond (decide (i < (ln a))) rfl (fun hc11 => ?_) (fun hc11 => ?_)
 ·have H := H.1 hc11
  refine W_skip ?_
  refine W_seq ?_
  refine W_block ?_
  refine W_seq ?_
  refine W_quiet mix (by kernel_rfl) ?_
  refine QP_ev ok 0 [(17, sl a1 a c), (18, I i)] 2 rfl rfl ?_
  obtain ⟨x, hi, hx12, H⟩ := H
  refine QP_index 2 rfl rfl rfl Tryz.underlying22 ti_3 rfl rfl r hi hx12 fun a13 cs r14 d => ?_
  refine QP_load 3 rfl rfl rfl ti_3 ag_3 rfl r14 d ex8 fun vx15 r16 => ?_
  obtain rfl := r16.int
  refine QP_ev ok 4 [(21, sl a6 b c7), (22, I i)] 6 rfl rfl ?_
  obtain ⟨x17, hi18, hx19, H⟩ := H
  refine QP_index 6 rfl rfl rfl Tryz.underlying22 ti_3 rfl rfl r4 hi18 hx19 fun a20 cs21 r22 d23 => ?_
  refine QP_load 7 rfl rfl rfl ti_3 ag_3 rfl r22 d23 ex9 fun vx24 r25 => ?_
  obtain rfl := r25.int
  refine QP_ev ok 8 [(25, .bool (x != x17))] 9 rfl rfl ?_
  refine QP_end _ rfl fun wx26 x27 => ?_
  refine W_cond (x != x17) rfl (fun hc28 => ?_) (fun hc28 => ?_)
  ·have H := H.1 hc28
   refine W_seq ?_
   refine W_region ?_
   refine LP_ev ok 0 [(4, .bool false)] 1 rfl rfl ?_
   refine LP_end _ rfl ?_
   refine W_ret ?_
   have X29 := (X10.stepx x27)
   exact ⟨_, Ret_of [.bool false] ⟨⟨rfl, rfl⟩, trivial⟩, _, H, rfl, X29.ext⟩
  have H := H.2 hc28
  refine W_skip ?_
  refine W_region ?_
  refine LP_ev ok 0 [(15, I i), (16, I (wr (i + 1))), (5, I (wr (i + 1)))] 3 rfl rfl ?_
  refine LP_end _ rfl ?_
  have X30 := (X10.stepx x27)
  have ex31 := (ex8.ext x27)
  have ex32 := (ex9.ext x27)
  exact ⟨wr (i + 1), ⟨H.1, _, env_eq ⟨rfl, rfl, rfl, trivial⟩, X30, ex31, ex32⟩, H.2⟩
 have H := H.2 hc11
 refine W_exit ?_
 refine (if_pos rfl).mpr ?_
 refine W_seq ?_
 refine W_region ?_
 refine LP_ev ok 0 [(4, .bool true)] 1 rfl rfl ?_
 refine LP_end _ rfl ?_
 refine W_ret ?_
 exact ⟨_, Ret_of [.bool true] ⟨⟨rfl, rfl⟩, trivial⟩, _, H, rfl, X10.ext⟩

theorem laws_eqGeo_w (a : Geo) (b : Geo) (Q : Bool → Prop) (H : laws_eqGeo a b Q) (w : World) {vx : Value} {hx : PH} (r : RS hx vx a.Parents) (ex : Sub hx w) {vx2 : Value} {hx3 : PH} (r4 : RS hx3 vx2 b.Parents) (ex5 : Sub hx3 w) :
  CallsTo Tryz.prog 18 #[.agg #[vx], .agg #[vx2]] w fun v w' => ∃ r0, Q r0 ∧ v = .bool r0 ∧ Ext w w' := by
 obtain ⟨a1, c, rfl⟩ := r.shape
 obtain ⟨a6, c7, rfl⟩ := r4.shape
 refine enter (args := [.agg #[sl a1 a.Parents c], .agg #[sl a6 b.Parents c7]]) 11 Tryz.func18 rfl rfl rfl ?_
 refine W_forget [(0, .agg #[sl a1 a.Parents c]), (1, .agg #[sl a6 b.Parents c7])] ⟨rfl, rfl, trivial⟩ fun ρ => ?_
 have X := But.refl emp w
 refine W_seq ?_
 refine W_region ?_
 refine LP_box 0 (cs := [sl a1 a.Parents c]) rfl rfl rfl rfl rfl fun b8 wx x ex9 f => ?_
 refine LP_box 1 (cs := [sl a6 b.Parents c7]) rfl rfl rfl rfl rfl fun b10 wx11 x12 ex13 f14 => ?_
 refine LP_ev ok 2 [(4, .bool false)] 3 rfl rfl ?_
 refine LP_end _ rfl ?_
 refine W_seq ?_
 refine W_seq ?_
 refine W_region ?_
 refine LP_ev ok 0 [(5, pb b8)] 1 rfl rfl ?_
 have ex15 := (ex9.ext x12)
 refine LP_ldbox 1 (v := sl a1 a.Parents c) rfl rfl rfl ti_22 ag_22 (fun _ => rfl) rfl ex15 rfl rfl ?_
 refine LP_ev ok 2 [(7, pb b10)] 3 rfl rfl ?_
 refine LP_ldbox 3 (v := sl a6 b.Parents c7) rfl rfl rfl ti_22 ag_22 (fun _ => rfl) rfl ex13 rfl rfl ?_
 have ex17 := ((ex.ext x).ext x12)
 have ex18 := ((ex5.ext x).ext x12)
 refine LP_call 4 rfl rfl rfl cal_17 rfl (laws_eqIntS_w _ _ _ H wx11 r ex17 r4 ex18) ?_
 rintro _ wx19 ⟨r16, H, rfl, x20⟩
 refine LP_ev ok 5 [(10, .bool (!r16))] 6 rfl rfl ?_
 refine LP_end _ rfl ?_
 refine W_cond (!r16) rfl (fun hc => ?_) (fun hc => ?_)
 ·have H := H.1 hc
  refine W_seq ?_
  refine W_region ?_
  refine LP_ev ok 0 [(4, .bool false)] 1 rfl rfl ?_
  refine LP_end _ rfl ?_
  refine W_ret ?_
  have X21 := (((X.stepx x).stepx x12).stepx x20)
  exact ⟨_, Ret_of [.bool false] ⟨⟨rfl, rfl⟩, trivial⟩, _, H, rfl, X21.ext⟩
 have H := H.2 hc
 refine W_skip ?_
 refine W_seq ?_
 refine W_region ?_
 refine LP_ev ok 0 [(4, .bool true)] 1 rfl rfl ?_
 refine LP_end _ rfl ?_
 refine W_ret ?_
 have X22 := (((X.stepx x).stepx x12).stepx x20)
 exact ⟨_, Ret_of [.bool true] ⟨⟨rfl, rfl⟩, trivial⟩, _, H, rfl, X22.ext⟩

theorem laws_eqVariable_w (a : Variable) (b : Variable) (Q : Bool → Prop) (H : laws_eqVariable a b Q) (w : World)  :
  CallsTo Tryz.prog 67 #[.agg #[.string a.Name, I a.Levels], .agg #[.string b.Name, I b.Levels]] w fun v w' => ∃ r0, Q r0 ∧ v = .bool r0 ∧ Ext w w' := by
 refine enter (args := [.agg #[.string a.Name, I a.Levels], .agg #[.string b.Name, I b.Levels]]) 15 Tryz.func67 rfl rfl rfl ?_
 refine W_forget [(0, .agg #[.string a.Name, I a.Levels]), (1, .agg #[.string b.Name, I b.Levels])] ⟨rfl, rfl, trivial⟩ fun ρ => ?_
 have X := But.refl emp w
 refine W_seq ?_
 refine W_region ?_
 refine LP_box 0 (cs := [.string a.Name, I a.Levels]) rfl rfl rfl rfl rfl fun b1 wx x ex f => ?_
 refine LP_box 1 (cs := [.string b.Name, I b.Levels]) rfl rfl rfl rfl rfl fun b2 wx3 x4 ex5 f6 => ?_
 refine LP_ev ok 2 [(4, .bool false)] 3 rfl rfl ?_
 refine LP_end _ rfl ?_
 refine W_seq ?_
 refine W_seq ?_
 refine W_region ?_
 refine LP_ev ok 0 [(5, pb b1)] 1 rfl rfl ?_
 have ex7 := (ex.ext x4)
 refine LP_ldbox 1 (v := .string a.Name) rfl rfl rfl ti_9 ag_9 (fun _ => rfl) rfl ex7 rfl rfl ?_
 refine LP_ev ok 2 [(7, pb b2)] 3 rfl rfl ?_
 refine LP_ldbox 3 (v := .string b.Name) rfl rfl rfl ti_9 ag_9 (fun _ => rfl) rfl ex5 rfl rfl ?_
 refine LP_ev ok 4 [(9, .bool (!streq a.Name b.Name))] 5 rfl rfl ?_
 refine LP_end _ rfl ?_
 refine W_cond (!streq a.Name b.Name) rfl (fun hc => ?_) (fun hc => ?_)
 ·have H := H.1 hc
  refine W_seq ?_
  refine W_region ?_
  refine LP_ev ok 0 [(4, .bool false)] 1 rfl rfl ?_
  refine LP_end _ rfl ?_
  refine W_ret ?_
  have X8 := ((X.stepx x).stepx x4)
  exact ⟨_, Ret_of [.bool false] ⟨⟨rfl, rfl⟩, trivial⟩, _, H, rfl, X8.ext⟩
 have H := H.2 hc
 refine W_skip ?_
 refine W_seq ?_
 refine W_seq ?_
 refine W_region ?_
 refine LP_ev ok 0 [(10, .pointer (some ⟨b1, 1, none⟩))] 1 rfl rfl ?_
 refine LP_ldbox 1 (v := I a.Levels) rfl rfl rfl ti_3 ag_3 (fun _ => rfl) rfl ex7 rfl rfl ?_
 refine LP_ev ok 2 [(12, .pointer (some ⟨b2, 1, none⟩))] 3 rfl rfl ?_
 refine LP_ldbox 3 (v := I b.Levels) rfl rfl rfl ti_3 ag_3 (fun _ => rfl) rfl ex5 rfl rfl ?_
 refine LP_ev ok 4 [(14, .bool (a.Levels != b.Levels))] 5 rfl rfl ?_
 refine LP_end _ rfl ?_
 refine W_cond (a.Levels != b.Levels) rfl (fun hc9 => ?_) (fun hc9 => ?_)
 ·have H := H.1 hc9
  refine W_seq ?_
  refine W_region ?_
  refine LP_ev ok 0 [(4, .bool false)] 1 rfl rfl ?_
  refine LP_end _ rfl ?_
  refine W_ret ?_
  have X10 := ((X.stepx x).stepx x4)
  exact ⟨_, Ret_of [.bool false] ⟨⟨rfl, rfl⟩, trivial⟩, _, H, rfl, X10.ext⟩
 have H := H.2 hc9
 refine W_skip ?_
 refine W_seq ?_
 refine W_region ?_
 refine LP_ev ok 0 [(4, .bool true)] 1 rfl rfl ?_
 refine LP_end _ rfl ?_
 refine W_ret ?_
 have X11 := ((X.stepx x).stepx x4)
 exact ⟨_, Ret_of [.bool true] ⟨⟨rfl, rfl⟩, trivial⟩, _, H, rfl, X11.ext⟩

theorem laws_eqVariableS_w (a : List Variable) (b : List Variable) (Q : Bool → Prop) (H : laws_eqVariableS a b Q) (w : World) {vx : Value} {hx : PH} (r : RS hx vx a) (ex : Sub hx w) {vx2 : Value} {hx3 : PH} (r4 : RS hx3 vx2 b) (ex5 : Sub hx3 w) :
  CallsTo Tryz.prog 19 #[vx, vx2] w fun v w' => ∃ r0, Q r0 ∧ v = .bool r0 ∧ Ext w w' := by
 obtain ⟨a1, c, rfl⟩ := r.shape
 obtain ⟨a6, c7, rfl⟩ := r4.shape
 refine enter (args := [sl a1 a c, sl a6 b c7]) 27 Tryz.func19 rfl rfl rfl ?_
 refine W_forget [(0, sl a1 a c), (1, sl a6 b c7)] ⟨rfl, rfl, trivial⟩ fun ρ => ?_
 have X := But.refl emp w
 refine W_seq ?_
 refine W_region ?_
 refine LP_ev ok 0 [(4, .bool false)] 1 rfl rfl ?_
 refine LP_end _ rfl ?_
 refine W_seq ?_
 refine W_seq ?_
 refine W_region ?_
 refine LP_ev ok 0 [(6, sl a1 a c), (7, I (ln a)), (8, sl a6 b c7), (9, I (ln b)), (10, .bool ((ln a) != (ln b)))] 5 rfl rfl ?_
 refine LP_end _ rfl ?_
 refine W_cond ((ln a) != (ln b)) rfl (fun hc => ?_) (fun hc => ?_)
 ·have H := H.1 hc
  refine W_seq ?_
  refine W_region ?_
  refine LP_ev ok 0 [(4, .bool false)] 1 rfl rfl ?_
  refine LP_end _ rfl ?_
  refine W_ret ?_
  exact ⟨_, Ret_of [.bool false] ⟨⟨rfl, rfl⟩, trivial⟩, _, H, rfl, X.ext⟩
 have H := H.2 hc
 refine W_skip ?_
 refine W_seq ?_
 refine W_seq ?_
 refine W_region ?_
 refine LP_ev ok 0 [(5, I 0)] 1 rfl rfl ?_
 refine LP_end _ rfl ?_
 refine W_block ?_
 obtain ⟨J, m, Hx, H⟩ := H
 refine W_loop (S := Int) (fun s ρ' w' => J s ∧ ∃ (ρ : Env), ρ' = setAll [(0, sl a1 a c), (1, sl a6 b c7), (5, I s)] ρ ∧ But emp w w' ∧ Sub hx w' ∧ Sub hx3 w') (fun s => m s) 0 ⟨Hx, _, env_eq ⟨rfl, rfl, rfl, trivial⟩, X, ex, ex5⟩ ?_
 rintro i _ wx ⟨Hi, ρ, rfl, X10, ex8, ex9⟩
 have H := H i Hi
 refine W_seq ?_
 refine W_seq ?_
 refine W_region ?_
 refine LP_ev ok 0 [(11, I i), (12, sl a1 a c), (13, I (ln a)), (14, .bool (decide (i < (ln a))))] 4 rfl rfl ?_
 refine LP_end _ rfl ?_
 refine W_cond (decide (i < (ln a))) rfl (fun hc11 => ?_) (fun hc11 => ?_)
 ·have H := H.1 hc11
  refine W_skip ?_
  refine W_seq ?_
  refine W_block ?_
  refine W_seq ?_
  refine W_quiet mix (by kernel_rfl) ?_
  refine QP_ev ok 0 [(17, sl a1 a c), (18, I i)] 2 rfl rfl ?_
  obtain ⟨x, hi, hx12, H⟩ := H
  refine QP_index 2 rfl rfl rfl Tryz.underlying34 ti_98 rfl rfl r hi hx12 fun a13 cs r14 d => ?_
  refine QP_load 3 rfl rfl rfl ti_98 ag_98 rfl r14 d ex8 fun vx15 r16 => ?_
  obtain rfl := Variable_rv r16
  refine QP_ev ok 4 [(21, sl a6 b c7), (22, I i)] 6 rfl rfl ?_
  obtain ⟨x17, hi18, hx19, H⟩ := H
  refine QP_index 6 rfl rfl rfl Tryz.underlying34 ti_98 rfl rfl r4 hi18 hx19 fun a20 cs21 r22 d23 => ?_
  refine QP_load 7 rfl rfl rfl ti_98 ag_98 rfl r22 d23 ex9 fun vx24 r25 => ?_
  obtain rfl := Variable_rv r25
  obtain ⟨r26, Hd, H⟩ := H
  refine QP_call (.bool r26) 8 rfl rfl rfl cal_67 rfl (fun wx27 x28 => (laws_eqVariable_w _ _ _ Hd wx27 ).mono ?_) ?_
  ·rintro _ _ ⟨_, rfl, rfl, x⟩; exact ⟨rfl, x⟩
  refine QP_ev ok 9 [(26, .bool (!r26))] 10 rfl rfl ?_
  refine QP_end _ rfl fun wx29 x30 => ?_
  refine W_cond (!r26) rfl (fun hc31 => ?_) (fun hc31 => ?_)
  ·have H := H.1 hc31
   refine W_seq ?_
   refine W_region ?_
   refine LP_ev ok 0 [(4, .bool false)] 1 rfl rfl ?_
   refine LP_end _ rfl ?_
   refine W_ret ?_
   have X32 := (X10.stepx x30)
   exact ⟨_, Ret_of [.bool false] ⟨⟨rfl, rfl⟩, trivial⟩, _, H, rfl, X32.ext⟩
  have H := H.2 hc31
  refine W_skip ?_
  refine W_region ?_
  refine LP_ev ok 0 [(15, I i), (16, I (wr (i + 1))), (5, I (wr (i + 1)))] 3 rfl rfl ?_
  refine LP_end _ rfl ?_
  have X33 := (X10.stepx x30)
  have ex34 := (ex8.ext x30)
  have ex35 := (ex9.ext x30)
  exact ⟨wr (i + 1), ⟨H.1, _, env_eq ⟨rfl, rfl, rfl, trivial⟩, X33, ex34, ex35⟩, H.2⟩
 have H := H.2 hc11
 refine W_exit ?_
 refine (if_pos rfl).mpr ?_
 refine W_seq ?_
 refine W_region ?_
 refine LP_ev ok 0 [(4, .bool true)] 1 rfl rfl ?_
 refine LP_end _ rfl ?_
 refine W_ret ?_
 exact ⟨_, Ret_of [.bool true] ⟨⟨rfl, rfl⟩, trivial⟩, _, H, rfl, X10.ext⟩

theorem laws_eqTable_w (a : Table) (b : Table) (Q : Bool → Prop) (H : laws_eqTable a b Q) (w : World) {vx : Value} {hx : PH} (r : RS hx vx a.Vars) (ex : Sub hx w) {vx2 : Value} {hx3 : PH} (r4 : RS hx3 vx2 a.Where) (ex5 : Sub hx3 w) {vx8 : Value} {hx9 : PH} (r10 : RS hx9 vx8 b.Vars) (ex11 : Sub hx9 w) {vx14 : Value} {hx15 : PH} (r16 : RS hx15 vx14 b.Where) (ex17 : Sub hx15 w) :
  CallsTo Tryz.prog 123 #[.agg #[I a.Level, vx, vx2, I a.Sum], .agg #[I b.Level, vx8, vx14, I b.Sum]] w fun v w' => ∃ r0, Q r0 ∧ v = .bool r0 ∧ Ext w w' := by
 obtain ⟨a1, c, rfl⟩ := r.shape
 obtain ⟨a6, c7, rfl⟩ := r4.shape
 obtain ⟨a12, c13, rfl⟩ := r10.shape
 obtain ⟨a18, c19, rfl⟩ := r16.shape
 refine enter (args := [.agg #[I a.Level, sl a1 a.Vars c, sl a6 a.Where c7, I a.Sum], .agg #[I b.Level, sl a12 b.Vars c13, sl a18 b.Where c19, I b.Sum]]) 27 Tryz.func123 rfl rfl rfl ?_
 refine W_forget [(0, .agg #[I a.Level, sl a1 a.Vars c, sl a6 a.Where c7, I a.Sum]), (1, .agg #[I b.Level, sl a12 b.Vars c13, sl a18 b.Where c19, I b.Sum])] ⟨rfl, rfl, trivial⟩ fun ρ => ?_
 have X := But.refl emp w
 refine W_seq ?_
 refine W_region ?_
 refine LP_box 0 (cs := [I a.Level, sl a1 a.Vars c, sl a6 a.Where c7, I a.Sum]) rfl rfl rfl rfl rfl fun b20 wx x ex21 f => ?_
 refine LP_box 1 (cs := [I b.Level, sl a12 b.Vars c13, sl a18 b.Where c19, I b.Sum]) rfl rfl rfl rfl rfl fun b22 wx23 x24 ex25 f26 => ?_
 refine LP_ev ok 2 [(4, .bool false)] 3 rfl rfl ?_
 refine LP_end _ rfl ?_
 refine W_seq ?_
 refine W_seq ?_
 refine W_region ?_
 refine LP_ev ok 0 [(5, pb b20)] 1 rfl rfl ?_
 have ex27 := (ex21.ext x24)
 refine LP_ldbox 1 (v := I a.Level) rfl rfl rfl ti_3 ag_3 (fun _ => rfl) rfl ex27 rfl rfl ?_
 refine LP_ev ok 2 [(7, pb b22)] 3 rfl rfl ?_
 refine LP_ldbox 3 (v := I b.Level) rfl rfl rfl ti_3 ag_3 (fun _ => rfl) rfl ex25 rfl rfl ?_
 refine LP_ev ok 4 [(9, .bool (a.Level != b.Level))] 5 rfl rfl ?_
 refine LP_end _ rfl ?_
 refine W_cond (a.Level != b.Level) rfl (fun hc => ?_) (fun hc => ?_)
 ·have H := H.1 hc
  refine W_seq ?_
  refine W_region ?_
  refine LP_ev ok 0 [(4, .bool false)] 1 rfl rfl ?_
  refine LP_end _ rfl ?_
  refine W_ret ?_
  have X28 := ((X.stepx x).stepx x24)
  exact ⟨_, Ret_of [.bool false] ⟨⟨rfl, rfl⟩, trivial⟩, _, H, rfl, X28.ext⟩
 have H := H.2 hc
 refine W_skip ?_
 refine W_seq ?_
 refine W_seq ?_
 refine W_region ?_
 refine LP_ev ok 0 [(10, .pointer (some ⟨b20, 1, none⟩))] 1 rfl rfl ?_
 refine LP_ldbox 1 (v := sl a1 a.Vars c) rfl rfl rfl ti_22 ag_22 (fun _ => rfl) rfl ex27 rfl rfl ?_
 refine LP_ev ok 2 [(12, .pointer (some ⟨b22, 1, none⟩))] 3 rfl rfl ?_
 refine LP_ldbox 3 (v := sl a12 b.Vars c13) rfl rfl rfl ti_22 ag_22 (fun _ => rfl) rfl ex25 rfl rfl ?_
 have ex30 := ((ex.ext x).ext x24)
 have ex31 := ((ex11.ext x).ext x24)
 refine LP_call 4 rfl rfl rfl cal_17 rfl (laws_eqIntS_w _ _ _ H wx23 r ex30 r10 ex31) ?_
 rintro _ wx32 ⟨r29, H, rfl, x33⟩
 refine LP_ev ok 5 [(15, .bool (!r29))] 6 rfl rfl ?_
 refine LP_end _ rfl ?_
 refine W_cond (!r29) rfl (fun hc34 => ?_) (fun hc34 => ?_)
 ·have H := H.1 hc34
  refine W_seq ?_
  refine W_region ?_
  refine LP_ev ok 0 [(4, .bool false)] 1 rfl rfl ?_
  refine LP_end _ rfl ?_
  refine W_ret ?_
  have X35 := (((X.stepx x).stepx x24).stepx x33)
  exact ⟨_, Ret_of [.bool false] ⟨⟨rfl, rfl⟩, trivial⟩, _, H, rfl, X35.ext⟩
 have H := H.2 hc34
 refine W_skip ?_
 refine W_seq ?_
 refine W_seq ?_
 refine W_region ?_
 refine LP_ev ok 0 [(16, .pointer (some ⟨b20, 2, none⟩))] 1 rfl rfl ?_
 have ex36 := (ex27.ext x33)
 refine LP_ldbox 1 (v := sl a6 a.Where c7) rfl rfl rfl ti_22 ag_22 (fun _ => rfl) rfl ex36 rfl rfl ?_
 refine LP_ev ok 2 [(18, .pointer (some ⟨b22, 2, none⟩))] 3 rfl rfl ?_
 have ex37 := (ex25.ext x33)
 refine LP_ldbox 3 (v := sl a18 b.Where c19) rfl rfl rfl ti_22 ag_22 (fun _ => rfl) rfl ex37 rfl rfl ?_
 have ex39 := (((ex5.ext x).ext x24).ext x33)
 have ex40 := (((ex17.ext x).ext x24).ext x33)
 refine LP_call 4 rfl rfl rfl cal_17 rfl (laws_eqIntS_w _ _ _ H wx32 r4 ex39 r16 ex40) ?_
 rintro _ wx41 ⟨r38, H, rfl, x42⟩
 refine LP_ev ok 5 [(21, .bool (!r38))] 6 rfl rfl ?_
 refine LP_end _ rfl ?_
 refine W_cond (!r38) rfl (fun hc43 => ?_) (fun hc43 => ?_)
 ·have H := H.1 hc43
  refine W_seq ?_
  refine W_region ?_
  refine LP_ev ok 0 [(4, .bool false)] 1 rfl rfl ?_
  refine LP_end _ rfl ?_
  refine W_ret ?_
  have X44 := ((((X.stepx x).stepx x24).stepx x33).stepx x42)
  exact ⟨_, Ret_of [.bool false] ⟨⟨rfl, rfl⟩, trivial⟩, _, H, rfl, X44.ext⟩
 have H := H.2 hc43
 refine W_skip ?_
 refine W_seq ?_
 refine W_seq ?_
 refine W_region ?_
 refine LP_ev ok 0 [(22, .pointer (some ⟨b20, 3, none⟩))] 1 rfl rfl ?_
 have ex45 := (ex36.ext x42)
 refine LP_ldbox 1 (v := I a.Sum) rfl rfl rfl ti_3 ag_3 (fun _ => rfl) rfl ex45 rfl rfl ?_
 refine LP_ev ok 2 [(24, .pointer (some ⟨b22, 3, none⟩))] 3 rfl rfl ?_
 have ex46 := (ex37.ext x42)
 refine LP_ldbox 3 (v := I b.Sum) rfl rfl rfl ti_3 ag_3 (fun _ => rfl) rfl ex46 rfl rfl ?_
 refine LP_ev ok 4 [(26, .bool (a.Sum != b.Sum))] 5 rfl rfl ?_
 refine LP_end _ rfl ?_
 try refine W_forget [(26, .bool (a.Sum != b.Sum))] ⟨rfl, trivial⟩ fun ρ => ?_
 refine W_cond (a.Sum != b.Sum) rfl (fun hc47 => ?_) (fun hc47 => ?_)
 ·have H := H.1 hc47
  refine W_seq ?_
  refine W_region ?_
  refine LP_ev ok 0 [(4, .bool false)] 1 rfl rfl ?_
  refine LP_end _ rfl ?_
  refine W_ret ?_
  have X48 := ((((X.stepx x).stepx x24).stepx x33).stepx x42)
  exact ⟨_, Ret_of [.bool false] ⟨⟨rfl, rfl⟩, trivial⟩, _, H, rfl, X48.ext⟩
 have H := H.2 hc47
 refine W_skip ?_
 refine W_seq ?_
 refine W_region ?_
 refine LP_ev ok 0 [(4, .bool true)] 1 rfl rfl ?_
 refine LP_end _ rfl ?_
 refine W_ret ?_
 have X49 := ((((X.stepx x).stepx x24).stepx x33).stepx x42)
 exact ⟨_, Ret_of [.bool true] ⟨⟨rfl, rfl⟩, trivial⟩, _, H, rfl, X49.ext⟩

theorem laws_eqPublished_w (a : Published) (b : Published) (Q : Bool → Prop) (H : laws_eqPublished a b Q) (w : World) {vx : Value} {hx : PH} (r : RS hx vx a.Table.Vars) (ex : Sub hx w) {vx2 : Value} {hx3 : PH} (r4 : RS hx3 vx2 a.Table.Where) (ex5 : Sub hx3 w) {vx8 : Value} {hx9 : PH} (r10 : RS hx9 vx8 a.Cells) (ex11 : Sub hx9 w) {vx14 : Value} {hx15 : PH} (r16 : RS hx15 vx14 b.Table.Vars) (ex17 : Sub hx15 w) {vx20 : Value} {hx21 : PH} (r22 : RS hx21 vx20 b.Table.Where) (ex23 : Sub hx21 w) {vx26 : Value} {hx27 : PH} (r28 : RS hx27 vx26 b.Cells) (ex29 : Sub hx27 w) :
  CallsTo Tryz.prog 68 #[.agg #[I a.Table.Level, vx, vx2, I a.Table.Sum, vx8], .agg #[I b.Table.Level, vx14, vx20, I b.Table.Sum, vx26]] w fun v w' => ∃ r0, Q r0 ∧ v = .bool r0 ∧ Ext w w' := by
 obtain ⟨a1, c, rfl⟩ := r.shape
 obtain ⟨a6, c7, rfl⟩ := r4.shape
 obtain ⟨a12, c13, rfl⟩ := r10.shape
 obtain ⟨a18, c19, rfl⟩ := r16.shape
 obtain ⟨a24, c25, rfl⟩ := r22.shape
 obtain ⟨a30, c31, rfl⟩ := r28.shape
 refine enter (args := [.agg #[I a.Table.Level, sl a1 a.Table.Vars c, sl a6 a.Table.Where c7, I a.Table.Sum, sl a12 a.Cells c13], .agg #[I b.Table.Level, sl a18 b.Table.Vars c19, sl a24 b.Table.Where c25, I b.Table.Sum, sl a30 b.Cells c31]]) 17 Tryz.func68 rfl rfl rfl ?_
 refine W_forget [(0, .agg #[I a.Table.Level, sl a1 a.Table.Vars c, sl a6 a.Table.Where c7, I a.Table.Sum, sl a12 a.Cells c13]), (1, .agg #[I b.Table.Level, sl a18 b.Table.Vars c19, sl a24 b.Table.Where c25, I b.Table.Sum, sl a30 b.Cells c31])] ⟨rfl, rfl, trivial⟩ fun ρ => ?_
 have X := But.refl emp w
 refine W_seq ?_
 refine W_region ?_
 refine LP_box 0 (cs := [I a.Table.Level, sl a1 a.Table.Vars c, sl a6 a.Table.Where c7, I a.Table.Sum, sl a12 a.Cells c13]) rfl rfl rfl rfl rfl fun b32 wx x ex33 f => ?_
 refine LP_box 1 (cs := [I b.Table.Level, sl a18 b.Table.Vars c19, sl a24 b.Table.Where c25, I b.Table.Sum, sl a30 b.Cells c31]) rfl rfl rfl rfl rfl fun b34 wx35 x36 ex37 f38 => ?_
 refine LP_ev ok 2 [(4, .bool false)] 3 rfl rfl ?_
 refine LP_end _ rfl ?_
 refine W_seq ?_
 refine W_seq ?_
 refine W_region ?_
 refine LP_ev ok 0 [(5, pb b32)] 1 rfl rfl ?_
 have ex39 := (ex33.ext x36)
 refine LP_ldbox 1 (v := .agg #[I a.Table.Level, sl a1 a.Table.Vars c, sl a6 a.Table.Where c7, I a.Table.Sum]) rfl rfl rfl ti_62 ag_62 (fun h => by cases h) rfl ex39 rfl rfl ?_
 refine LP_ev ok 2 [(7, pb b34)] 3 rfl rfl ?_
 refine LP_ldbox 3 (v := .agg #[I b.Table.Level, sl a18 b.Table.Vars c19, sl a24 b.Table.Where c25, I b.Table.Sum]) rfl rfl rfl ti_62 ag_62 (fun h => by cases h) rfl ex37 rfl rfl ?_
 have ex41 := ((ex.ext x).ext x36)
 have ex42 := ((ex5.ext x).ext x36)
 have ex43 := ((ex17.ext x).ext x36)
 have ex44 := ((ex23.ext x).ext x36)
 refine LP_call 4 rfl rfl rfl cal_123 rfl (laws_eqTable_w _ _ _ H wx35 r ex41 r4 ex42 r16 ex43 r22 ex44) ?_
 rintro _ wx45 ⟨r40, H, rfl, x46⟩
 refine LP_ev ok 5 [(10, .bool (!r40))] 6 rfl rfl ?_
 refine LP_end _ rfl ?_
 refine W_cond (!r40) rfl (fun hc => ?_) (fun hc => ?_)
 ·have H := H.1 hc
  refine W_seq ?_
  refine W_region ?_
  refine LP_ev ok 0 [(4, .bool false)] 1 rfl rfl ?_
  refine LP_end _ rfl ?_
  refine W_ret ?_
  have X47 := (((X.stepx x).stepx x36).stepx x46)
  exact ⟨_, Ret_of [.bool false] ⟨⟨rfl, rfl⟩, trivial⟩, _, H, rfl, X47.ext⟩
 have H := H.2 hc
 refine W_skip ?_
 refine W_seq ?_
 refine W_seq ?_
 refine W_region ?_
 refine LP_ev ok 0 [(11, .pointer (some ⟨b32, 4, none⟩))] 1 rfl rfl ?_
 have ex48 := (ex39.ext x46)
 refine LP_ldbox 1 (v := sl a12 a.Cells c13) rfl rfl rfl ti_22 ag_22 (fun _ => rfl) rfl ex48 rfl rfl ?_
 refine LP_ev ok 2 [(13, .pointer (some ⟨b34, 4, none⟩))] 3 rfl rfl ?_
 have ex49 := (ex37.ext x46)
 refine LP_ldbox 3 (v := sl a30 b.Cells c31) rfl rfl rfl ti_22 ag_22 (fun _ => rfl) rfl ex49 rfl rfl ?_
 have ex51 := (((ex11.ext x).ext x36).ext x46)
 have ex52 := (((ex29.ext x).ext x36).ext x46)
 refine LP_call 4 rfl rfl rfl cal_17 rfl (laws_eqIntS_w _ _ _ H wx45 r10 ex51 r28 ex52) ?_
 rintro _ wx53 ⟨r50, H, rfl, x54⟩
 refine LP_ev ok 5 [(16, .bool (!r50))] 6 rfl rfl ?_
 refine LP_end _ rfl ?_
 refine W_cond (!r50) rfl (fun hc55 => ?_) (fun hc55 => ?_)
 ·have H := H.1 hc55
  refine W_seq ?_
  refine W_region ?_
  refine LP_ev ok 0 [(4, .bool false)] 1 rfl rfl ?_
  refine LP_end _ rfl ?_
  refine W_ret ?_
  have X56 := ((((X.stepx x).stepx x36).stepx x46).stepx x54)
  exact ⟨_, Ret_of [.bool false] ⟨⟨rfl, rfl⟩, trivial⟩, _, H, rfl, X56.ext⟩
 have H := H.2 hc55
 refine W_skip ?_
 refine W_seq ?_
 refine W_region ?_
 refine LP_ev ok 0 [(4, .bool true)] 1 rfl rfl ?_
 refine LP_end _ rfl ?_
 refine W_ret ?_
 have X57 := ((((X.stepx x).stepx x36).stepx x46).stepx x54)
 exact ⟨_, Ret_of [.bool true] ⟨⟨rfl, rfl⟩, trivial⟩, _, H, rfl, X57.ext⟩

theorem laws_eqPublishedS_w (a : List Published) (b : List Published) (Q : Bool → Prop) (H : laws_eqPublishedS a b Q) (w : World) {vx : Value} {hx : PH} (r : RS hx vx a) (ex : Sub hx w) {vx2 : Value} {hx3 : PH} (r4 : RS hx3 vx2 b) (ex5 : Sub hx3 w) :
  CallsTo Tryz.prog 20 #[vx, vx2] w fun v w' => ∃ r0, Q r0 ∧ v = .bool r0 ∧ Ext w w' := by
 obtain ⟨a1, c, rfl⟩ := r.shape
 obtain ⟨a6, c7, rfl⟩ := r4.shape
 refine enter (args := [sl a1 a c, sl a6 b c7]) 27 Tryz.func20 rfl rfl rfl ?_
 refine W_forget [(0, sl a1 a c), (1, sl a6 b c7)] ⟨rfl, rfl, trivial⟩ fun ρ => ?_
 have X := But.refl emp w
 refine W_seq ?_
 refine W_region ?_
 refine LP_ev ok 0 [(4, .bool false)] 1 rfl rfl ?_
 refine LP_end _ rfl ?_
 refine W_seq ?_
 refine W_seq ?_
 refine W_region ?_
 refine LP_ev ok 0 [(6, sl a1 a c), (7, I (ln a)), (8, sl a6 b c7), (9, I (ln b)), (10, .bool ((ln a) != (ln b)))] 5 rfl rfl ?_
 refine LP_end _ rfl ?_
 refine W_cond ((ln a) != (ln b)) rfl (fun hc => ?_) (fun hc => ?_)
 ·have H := H.1 hc
  refine W_seq ?_
  refine W_region ?_
  refine LP_ev ok 0 [(4, .bool false)] 1 rfl rfl ?_
  refine LP_end _ rfl ?_
  refine W_ret ?_
  exact ⟨_, Ret_of [.bool false] ⟨⟨rfl, rfl⟩, trivial⟩, _, H, rfl, X.ext⟩
 have H := H.2 hc
 refine W_skip ?_
 refine W_seq ?_
 refine W_seq ?_
 refine W_region ?_
 refine LP_ev ok 0 [(5, I 0)] 1 rfl rfl ?_
 refine LP_end _ rfl ?_
 refine W_block ?_
 obtain ⟨J, m, Hx, H⟩ := H
 refine W_loop (S := Int) (fun s ρ' w' => J s ∧ ∃ (ρ : Env), ρ' = setAll [(0, sl a1 a c), (1, sl a6 b c7), (5, I s)] ρ ∧ But emp w w' ∧ Sub hx w' ∧ Sub hx3 w') (fun s => m s) 0 ⟨Hx, _, env_eq ⟨rfl, rfl, rfl, trivial⟩, X, ex, ex5⟩ ?_
 rintro i _ wx ⟨Hi, ρ, rfl, X10, ex8, ex9⟩
 have H := H i Hi
 refine W_seq ?_
 refine W_seq ?_
 refine W_region ?_
 refine LP_ev ok 0 [(11, I i), (12, sl a1 a c), (13, I (ln a)), (14, .bool (decide (i < (ln a))))] 4 rfl rfl ?_
 refine LP_end _ rfl ?_
 refine W_cond (decide (i < (ln a))) rfl (fun hc11 => ?_) (fun hc11 => ?_)
 ·have H := H.1 hc11
  refine W_skip ?_
  refine W_seq ?_
  refine W_block ?_
  refine W_seq ?_
  refine W_quiet mix (by kernel_rfl) ?_
  refine QP_ev ok 0 [(17, sl a1 a c), (18, I i)] 2 rfl rfl ?_
  obtain ⟨x, hi, hx12, H⟩ := H
  refine QP_index 2 rfl rfl rfl Tryz.underlying36 ti_81 rfl rfl r hi hx12 fun a13 cs r14 d => ?_
  have d15 := d
  obtain ⟨u, u17, u19, rfl, r16, r18, r20⟩ := Published_rd d15
  obtain ⟨a21, c22, rfl⟩ := r16.shape
  obtain ⟨a23, c24, rfl⟩ := r18.shape
  obtain ⟨a25, c26, rfl⟩ := r20.shape
  refine QP_load 3 rfl rfl rfl ti_81 ag_81 rfl r14 d ex8 fun vx27 r28 => ?_
  obtain ⟨u29, u31, u33, rfl, r30, r32, r34⟩ := Published_rv r28
  obtain ⟨a35, c36, rfl⟩ := r30.shape
  obtain ⟨a37, c38, rfl⟩ := r32.shape
  obtain ⟨a39, c40, rfl⟩ := r34.shape
  refine QP_ev ok 4 [(21, sl a6 b c7), (22, I i)] 6 rfl rfl ?_
  obtain ⟨x41, hi42, hx43, H⟩ := H
  refine QP_index 6 rfl rfl rfl Tryz.underlying36 ti_81 rfl rfl r4 hi42 hx43 fun a44 cs45 r46 d47 => ?_
  have d48 := d47
  obtain ⟨u49, u51, u53, rfl, r50, r52, r54⟩ := Published_rd d48
  obtain ⟨a55, c56, rfl⟩ := r50.shape
  obtain ⟨a57, c58, rfl⟩ := r52.shape
  obtain ⟨a59, c60, rfl⟩ := r54.shape
  refine QP_load 7 rfl rfl rfl ti_81 ag_81 rfl r46 d47 ex9 fun vx61 r62 => ?_
  obtain ⟨u63, u65, u67, rfl, r64, r66, r68⟩ := Published_rv r62
  obtain ⟨a69, c70, rfl⟩ := r64.shape
  obtain ⟨a71, c72, rfl⟩ := r66.shape
  obtain ⟨a73, c74, rfl⟩ := r68.shape
  obtain ⟨r75, Hd, H⟩ := H
  refine QP_call (.bool r75) 8 rfl rfl rfl cal_68 rfl (fun wx76 x77 => (laws_eqPublished_w _ _ _ Hd wx76 r30 (ex8.ext x77) r32 (ex8.ext x77) r34 (ex8.ext x77) r64 (ex9.ext x77) r66 (ex9.ext x77) r68 (ex9.ext x77)).mono ?_) ?_
  ·rintro _ _ ⟨_, rfl, rfl, x⟩; exact ⟨rfl, x⟩
  refine QP_ev ok 9 [(26, .bool (!r75))] 10 rfl rfl ?_
  refine QP_end _ rfl fun wx78 x79 => ?_
  refine W_cond (!r75) rfl (fun hc80 => ?_) (fun hc80 => ?_)
  ·have H := H.1 hc80
   refine W_seq ?_
   refine W_region ?_
   refine LP_ev ok 0 [(4, .bool false)] 1 rfl rfl ?_
   refine LP_end _ rfl ?_
   refine W_ret ?_
   have X81 := (X10.stepx x79)
   exact ⟨_, Ret_of [.bool false] ⟨⟨rfl, rfl⟩, trivial⟩, _, H, rfl, X81.ext⟩
  have H := H.2 hc80
  refine W_skip ?_
  refine W_region ?_
  refine LP_ev ok 0 [(15, I i), (16, I (wr (i + 1))), (5, I (wr (i + 1)))] 3 rfl rfl ?_
  refine LP_end _ rfl ?_
  have X82 := (X10.stepx x79)
  have ex83 := (ex8.ext x79)
  have ex84 := (ex9.ext x79)
  exact ⟨wr (i + 1), ⟨H.1, _, env_eq ⟨rfl, rfl, rfl, trivial⟩, X82, ex83, ex84⟩, H.2⟩
 have H := H.2 hc11
 refine W_exit ?_
 refine (if_pos rfl).mpr ?_
 refine W_seq ?_
 refine W_region ?_
 refine LP_ev ok 0 [(4, .bool true)] 1 rfl rfl ?_
 refine LP_end _ rfl ?_
 refine W_ret ?_
 exact ⟨_, Ret_of [.bool true] ⟨⟨rfl, rfl⟩, trivial⟩, _, H, rfl, X10.ext⟩

theorem laws_markIntS_w (a : List Int) (k : Int) (Q : Int → (List Int) → Prop) (H : laws_markIntS a k Q) (w : World) {vx : Value} {hx : PH} (r : OS 3 hx emp vx a) (ex : Sub hx w) :
  CallsTo Tryz.prog 24 #[vx, I k] w fun v w' => ∃ r0 m1 k1, Q r0 m1 ∧ v = I r0 ∧ But hx w w' ∧ OS 3 k1 emp vx m1 ∧ Sub k1 w' ∧ (∀ n, DomLe hx n k1) := by
 obtain ⟨a1, c, rfl⟩ := r.shape
 refine enter (args := [sl a1 a c, I k]) 19 Tryz.func24 rfl rfl rfl ?_
 refine W_forget [(0, sl a1 a c), (1, I k)] ⟨rfl, rfl, trivial⟩ fun ρ => ?_
 have D : Dom hx hx := (Dom.refl _)
 have X := But.refl hx w
 refine W_seq ?_
 refine W_region ?_
 refine LP_ev ok 0 [(4, I 0)] 1 rfl rfl ?_
 refine LP_end _ rfl ?_
 refine W_seq ?_
 refine W_seq ?_
 refine W_region ?_
 refine LP_ev ok 0 [(5, I 0)] 1 rfl rfl ?_
 refine LP_end _ rfl ?_
 refine W_block ?_
 obtain ⟨J, m, Hx, H⟩ := H
 refine W_loop (S := (List Int) × Int × Int) (fun s ρ' w' => J s.1 s.2.1 s.2.2 ∧ ∃ (ρ : Env) (hx4 : PH), ρ' = setAll [(0, sl a1 a c), (1, I s.2.1), (5, I s.2.2)] ρ ∧ But hx w w' ∧ OS 3 hx4 emp (sl a1 a c) s.1 ∧ Sub hx4 w' ∧ (∀ n, DomLe hx n hx4)) (fun s => m s.1 s.2.1 s.2.2) (a, k, 0) ⟨Hx, _, hx, env_eq ⟨rfl, rfl, rfl, trivial⟩, X, r, ex, (fun _ => DomLe.refl _ _)⟩ ?_
 rintro ⟨a2, k6, i⟩ _ wx ⟨Hi, ρ, hx4, rfl, X7, o, ex5, f⟩
 have H := H a2 k6 i Hi
 refine W_seq ?_
 refine W_seq ?_
 refine W_region ?_
 refine LP_ev ok 0 [(6, I i), (7, sl a1 a c), (8, I (ln a)), (9, .bool (decide (i < (ln a))))] 4 rfl rfl ?_
 refine LP_end _ rfl ?_
 refine W_cond (decide (i < (ln a))) rfl (fun hc => ?_) (fun hc => ?_)
 ·have H := H.1 hc
  refine W_skip ?_
  refine W_seq ?_
  refine W_block ?_
  refine W_seq ?_
  refine W_region ?_
  refine LP_ev ok 0 [(12, sl a1 a c), (13, I i), (14, I k6)] 3 rfl rfl ?_
  obtain ⟨hi, hl, H⟩ := H
  refine LP_indexw (v := sl a1 a c) 3 rfl rfl rfl Tryz.underlying22 ti_3 rfl rfl o hi hl fun a8 wa => ?_
  refine LP_set 4 rfl rfl rfl rfl rfl wa (Le.refl emp) ⟨_, rfl, rfl⟩ ex5 fun hx9 wx10 o11 ex12 y dm => ?_
  refine LP_end _ rfl ?_
  refine W_region ?_
  refine LP_ev ok 0 [(16, I k6), (17, I (wr (k6 + 1))), (1, I (wr (k6 + 1)))] 3 rfl rfl ?_
  refine LP_end _ rfl ?_
  refine W_region ?_
  refine LP_ev ok 0 [(10, I i), (11, I (wr (i + 1))), (5, I (wr (i + 1)))] 3 rfl rfl ?_
  refine LP_end _ rfl ?_
  have X13 := (X7.step y (DomLe.dom D (f _)))
  exact ⟨(List.set a2 (Int.toNat i) k6, wr (k6 + 1), wr (i + 1)), ⟨H.1, _, hx9, env_eq ⟨rfl, rfl, rfl, trivial⟩, X13, o11, ex12, (fun _ => DomLe.trans (f _) ((dm _)) (Nat.le_refl _))⟩, H.2⟩
 have H := H.2 hc
 refine W_exit ?_
 refine (if_pos rfl).mpr ?_
 refine W_seq ?_
 refine W_region ?_
 refine LP_ev ok 0 [(18, I k6), (4, I k6)] 2 rfl rfl ?_
 refine LP_end _ rfl ?_
 refine W_ret ?_
 exact ⟨_, Ret_of [I k6] ⟨⟨rfl, rfl⟩, trivial⟩, _, _, _, H, rfl, X7, o, ex5, (fun _ => f _)⟩

theorem laws_markGeo_w (a : Geo) (k : Int) (Q : Int → (List Int) → Prop) (H : laws_markGeo a k Q) (w : World) {vx : Value} {hx : PH} (r : OS 3 hx emp vx a.Parents) (ex : Sub hx w) :
  CallsTo Tryz.prog 21 #[.agg #[vx], I k] w fun v w' => ∃ r0 m1 k1, Q r0 m1 ∧ v = I r0 ∧ But hx w w' ∧ OS 3 k1 emp vx m1 ∧ Sub k1 w' ∧ (∀ n, DomLe hx n k1) := by
 obtain ⟨a1, c, rfl⟩ := r.shape
 refine enter (args := [.agg #[sl a1 a.Parents c], I k]) 10 Tryz.func21 rfl rfl rfl ?_
 refine W_forget [(0, .agg #[sl a1 a.Parents c]), (1, I k)] ⟨rfl, rfl, trivial⟩ fun ρ => ?_
 have D : Dom hx hx := (Dom.refl _)
 have X := But.refl hx w
 refine W_seq ?_
 refine W_region ?_
 refine LP_box 0 (cs := [sl a1 a.Parents c]) rfl rfl rfl rfl rfl fun b wx x ex2 f => ?_
 refine LP_ev ok 1 [(4, I 0)] 2 rfl rfl ?_
 refine LP_end _ rfl ?_
 refine W_seq ?_
 refine W_region ?_
 refine LP_ev ok 0 [(5, pb b)] 1 rfl rfl ?_
 refine LP_ldbox 1 (v := sl a1 a.Parents c) rfl rfl rfl ti_22 ag_22 (fun _ => rfl) rfl ex2 rfl rfl ?_
 refine LP_ev ok 2 [(7, I k)] 3 rfl rfl ?_
 have ex5 := (ex.ext x)
 refine LP_call 3 rfl rfl rfl cal_24 rfl (laws_markIntS_w _ _ _ H wx r ex5) ?_
 rintro _ wx6 ⟨r3, r4, hx8, H, rfl, x7, o, ex9, dm⟩
 refine LP_ev ok 4 [(1, I r3)] 5 rfl rfl ?_
 refine LP_end _ rfl ?_
 refine W_seq ?_
 refine W_region ?_
 refine LP_ev ok 0 [(9, I r3), (4, I r3)] 2 rfl rfl ?_
 refine LP_end _ rfl ?_
 refine W_ret ?_
 have X10 := ((X.stepx x).step x7 (Dom.le D _))
 exact ⟨_, Ret_of [I r3] ⟨⟨rfl, rfl⟩, trivial⟩, _, _, _, H, rfl, X10, o, ex9, (fun _ => DomLe.trans (DomLe.refl _ _) ((dm _)) (Nat.le_refl _))⟩

theorem laws_markText_w (k : Int) (Q : ByteArray → Prop) (H : laws_markText k Q) (w : World)  :
  CallsTo Tryz.prog 69 #[I k] w fun v w' => ∃ r0, Q r0 ∧ v = .string r0 ∧ Ext w w' := by
 refine enter (args := [I k]) 20 Tryz.func69 rfl rfl rfl ?_
 refine W_forget [(0, I k)] ⟨rfl, trivial⟩ fun ρ => ?_
 have X := But.refl emp w
 refine W_seq ?_
 refine W_region ?_
 refine LP_ev ok 0 [(2, .string ((ByteArray.mk #[])))] 1 rfl rfl ?_
 refine LP_end _ rfl ?_
 refine W_seq ?_
 refine W_seq ?_
 refine W_region ?_
 refine LP_ev ok 0 [(4, I k), (5, .bool (decide (k ≤ 0)))] 2 rfl rfl ?_
 refine LP_end _ rfl ?_
 refine W_cond (decide (k ≤ 0)) rfl (fun hc => ?_) (fun hc => ?_)
 ·have H := H.1 hc
  refine W_seq ?_
  refine W_region ?_
  refine LP_ev ok 0 [(2, .string ((ByteArray.mk #[109, 48])))] 1 rfl rfl ?_
  refine LP_end _ rfl ?_
  refine W_ret ?_
  exact ⟨_, Ret_of [.string ((ByteArray.mk #[109, 48]))] ⟨⟨rfl, rfl⟩, trivial⟩, _, H, rfl, X.ext⟩
 have H := H.2 hc
 refine W_skip ?_
 refine W_seq ?_
 refine W_region ?_
 refine LP_ev ok 0 [(3, .string ((ByteArray.mk #[])))] 1 rfl rfl ?_
 refine LP_end _ rfl ?_
 refine W_seq ?_
 refine W_block ?_
 obtain ⟨J, m, Hx, H⟩ := H
 refine W_loop (S := Int × ByteArray) (fun s ρ' w' => J s.1 s.2 ∧ ∃ (ρ : Env), ρ' = setAll [(0, I s.1), (3, .string s.2)] ρ ∧ But emp w w') (fun s => m s.1 s.2) (k, (ByteArray.mk #[])) ⟨Hx, _, env_eq ⟨rfl, rfl, trivial⟩, X⟩ ?_
 rintro ⟨k1, out⟩ _ wx ⟨Hi, ρ, rfl, X2⟩
 have H := H k1 out Hi
 refine W_seq ?_
 refine W_seq ?_
 refine W_region ?_
 refine LP_ev ok 0 [(6, I k1), (7, .bool (decide (k1 > 0)))] 2 rfl rfl ?_
 refine LP_end _ rfl ?_
 refine W_cond (decide (k1 > 0)) rfl (fun hc3 => ?_) (fun hc3 => ?_)
 ·have H := H.1 hc3
  refine W_skip ?_
  refine W_block ?_
  refine W_seq ?_
  refine W_region ?_
  refine LP_ev ok 0 [(8, I k1)] 1 rfl rfl ?_
  refine LP_val 1 _ rfl rfl (ex_rem rfl rfl rfl (by decide) _) ?_
  refine LP_ev ok 2 [(10, I (wr (48 + (Int.tmod k1 10)))), (11, .int .u8 (IntKind.u8.wrap (wr (48 + (Int.tmod k1 10)))))] 4 rfl rfl ?_
  refine LP_lit (α := B8) (g := emp) 4 (vs := [.int .u8 (IntKind.u8.wrap (wr (48 + (Int.tmod k1 10))))]) (xs := [(B8.mk (IntKind.u8.wrap (wr (48 + (Int.tmod k1 10)))))]) rfl rfl rfl Tryz.underlying49 ti_5 rfl rfl ⟨⟨_, rfl, rfl⟩, trivial⟩ rfl rfl fun hx vx wx4 x o ex f => ?_
  obtain ⟨a, c, rfl⟩ := o.shape
  refine LP_val 5 _ rfl rfl (ex_b2s rfl Tryz.underlying49 Tryz.underlying5 Tryz.underlying9 rfl o.readf _ ex) ?_
  refine LP_ev ok 6 [(14, .string out)] 7 rfl rfl ?_
  obtain ⟨hz, H⟩ := H
  refine LP_val 7 _ rfl rfl (ex_sadd rfl rfl rfl hz _) ?_
  refine LP_ev ok 8 [(3, .string ((b2s ([(B8.mk (IntKind.u8.wrap (wr (48 + (Int.tmod k1 10)))))])) ++ out))] 9 rfl rfl ?_
  refine LP_end _ rfl ?_
  refine W_region ?_
  refine LP_ev ok 0 [(16, I k1)] 1 rfl rfl ?_
  refine LP_val 1 _ rfl rfl (ex_quo rfl rfl rfl (by decide) _) ?_
  refine LP_ev ok 2 [(0, I (wr (Int.tdiv k1 10)))] 3 rfl rfl ?_
  refine LP_end _ rfl ?_
  have X5 := (X2.stepx x)
  exact ⟨(wr (Int.tdiv k1 10), (b2s ([(B8.mk (IntKind.u8.wrap (wr (48 + (Int.tmod k1 10)))))])) ++ out), ⟨H.1, _, env_eq ⟨rfl, rfl, trivial⟩, X5⟩, H.2⟩
 have H := H.2 hc3
 refine W_exit ?_
 refine (if_pos rfl).mpr ?_
 refine W_seq ?_
 refine W_region ?_
 refine LP_ev ok 0 [(18, .string out)] 1 rfl rfl ?_
 obtain ⟨hz6, H⟩ := H
 refine LP_val 1 _ rfl rfl (ex_sadd rfl rfl rfl hz6 _) ?_
 refine LP_ev ok 2 [(2, .string (((ByteArray.mk #[109])) ++ out))] 3 rfl rfl ?_
 refine LP_end _ rfl ?_
 refine W_ret ?_
 exact ⟨_, Ret_of [.string (((ByteArray.mk #[109])) ++ out)] ⟨⟨rfl, rfl⟩, trivial⟩, _, H, rfl, X2.ext⟩

theorem laws_markVariableS_w (a : List Variable) (k : Int) (Q : Int → (List Variable) → Prop) (H : laws_markVariableS a k Q) (w : World) {vx : Value} {hx : PH} (r : OS 98 hx emp vx a) (ex : Sub hx w) :
  CallsTo Tryz.prog 22 #[vx, I k] w fun v w' => ∃ r0 m1 k1, Q r0 m1 ∧ v = I r0 ∧ But hx w w' ∧ OS 98 k1 emp vx m1 ∧ Sub k1 w' ∧ (∀ n, DomLe hx n k1) := by
 obtain ⟨a1, c, rfl⟩ := r.shape
 refine enter (args := [sl a1 a c, I k]) 28 Tryz.func22 rfl rfl rfl ?_
 refine W_forget [(0, sl a1 a c), (1, I k)] ⟨rfl, rfl, trivial⟩ fun ρ => ?_
 have D : Dom hx hx := (Dom.refl _)
 have X := But.refl hx w
 refine W_seq ?_
 refine W_region ?_
 refine LP_ev ok 0 [(4, I 0)] 1 rfl rfl ?_
 refine LP_end _ rfl ?_
 refine W_seq ?_
 refine W_seq ?_
 refine W_region ?_
 refine LP_ev ok 0 [(5, I 0)] 1 rfl rfl ?_
 refine LP_end _ rfl ?_
 refine W_block ?_
 obtain ⟨J, m, Hx, H⟩ := H
 refine W_loop (S := (List Variable) × Int × Int) (fun s ρ' w' => J s.1 s.2.1 s.2.2 ∧ ∃ (ρ : Env) (hx4 : PH), ρ' = setAll [(0, sl a1 a c), (1, I s.2.1), (5, I s.2.2)] ρ ∧ But hx w w' ∧ OS 98 hx4 emp (sl a1 a c) s.1 ∧ Sub hx4 w' ∧ (∀ n, DomLe hx n hx4)) (fun s => m s.1 s.2.1 s.2.2) (a, k, 0) ⟨Hx, _, hx, env_eq ⟨rfl, rfl, rfl, trivial⟩, X, r, ex, (fun _ => DomLe.refl _ _)⟩ ?_
 rintro ⟨a2, k6, i⟩ _ wx ⟨Hi, ρ, hx4, rfl, X7, o, ex5, f⟩
 have H := H a2 k6 i Hi
 refine W_seq ?_
 refine W_seq ?_
 refine W_region ?_
 refine LP_ev ok 0 [(6, I i), (7, sl a1 a c), (8, I (ln a)), (9, .bool (decide (i < (ln a))))] 4 rfl rfl ?_
 refine LP_end _ rfl ?_
 refine W_cond (decide (i < (ln a))) rfl (fun hc => ?_) (fun hc => ?_)
 ·have H := H.1 hc
  refine W_skip ?_
  refine W_seq ?_
  refine W_block ?_
  refine W_seq ?_
  refine W_region ?_
  refine LP_ev ok 0 [(12, sl a1 a c), (13, I i), (14, I k6)] 3 rfl rfl ?_
  refine LP_call 3 rfl rfl rfl cal_69 rfl (laws_markText_w _ _ H wx ) ?_
  rintro _ wx9 ⟨r8, H, rfl, x⟩
  obtain ⟨x10, hi, hx11, H⟩ := H
  refine LP_indexf (v := sl a1 a c) 4 rfl rfl rfl Tryz.underlying34 ti_98 rfl rfl o hi hx11 fun a12 wa => ?_
  refine LP_ev ok 5 [(17, .pointer (some (Addr.add a12 0)))] 6 rfl rfl ?_
  have ex17 := (ex5.ext x)
  refine LP_setf 6 (x := x10) (vs := [.string r8]) (y := ({x10 with Name := r8} : Variable)) rfl rfl rfl ti_9 rfl rfl rfl rfl rfl rfl wa ex17 rfl fun hx13 wx14 o15 ex16 y dm => ?_
  refine LP_end _ rfl ?_
  refine W_seq ?_
  refine W_region ?_
  refine LP_ev ok 0 [(18, I k6), (19, I (wr (k6 + 1))), (1, I (wr (k6 + 1)))] 3 rfl rfl ?_
  refine LP_end _ rfl ?_
  refine W_seq ?_
  refine W_region ?_
  refine LP_ev ok 0 [(20, sl a1 a c), (21, I i), (22, I (wr (k6 + 1)))] 3 rfl rfl ?_
  obtain ⟨x18, hi19, hx20, H⟩ := H
  refine LP_indexf (v := sl a1 a c) 3 rfl rfl rfl Tryz.underlying34 ti_98 rfl rfl o15 hi19 hx20 fun a21 wa22 => ?_
  refine LP_ev ok 4 [(24, .pointer (some (Addr.add a21 1)))] 5 rfl rfl ?_
  refine LP_setf 5 (x := x18) (vs := [I (wr (k6 + 1))]) (y := ({x18 with Levels := wr (k6 + 1)} : Variable)) rfl rfl rfl ti_3 rfl rfl rfl rfl rfl rfl wa22 ex16 rfl fun hx23 wx24 o25 ex26 y27 dm28 => ?_
  refine LP_end _ rfl ?_
  refine W_region ?_
  refine LP_ev ok 0 [(25, I (wr (k6 + 1))), (26, I (wr ((wr (k6 + 1)) + 1))), (1, I (wr ((wr (k6 + 1)) + 1)))] 3 rfl rfl ?_
  refine LP_end _ rfl ?_
  refine W_region ?_
  refine LP_ev ok 0 [(10, I i), (11, I (wr (i + 1))), (5, I (wr (i + 1)))] 3 rfl rfl ?_
  refine LP_end _ rfl ?_
  try refine W_forget [(0, sl a1 a c), (1, I (wr ((wr (k6 + 1)) + 1))), (5, I (wr (i + 1)))] ⟨rfl, rfl, rfl, trivial⟩ fun ρ => ?_
  have X29 := (X7.stepx x)
  have X30 := (((X7.stepx x).step y (DomLe.dom D (f _))).step y27 (DomLe.trans (DomLe.dom D (f _)) (dm _) X29.size))
  exact ⟨(List.set (List.set a2 (Int.toNat i) ({x10 with Name := r8} : Variable)) (Int.toNat i) ({x18 with Levels := wr (k6 + 1)} : Variable), wr ((wr (k6 + 1)) + 1), wr (i + 1)), ⟨H.1, _, hx23, env_eq ⟨rfl, rfl, rfl, trivial⟩, X30, o25, ex26, (fun _ => DomLe.trans (DomLe.trans (f _) ((dm _)) (Nat.le_refl _)) ((dm28 _)) (Nat.le_refl _))⟩, H.2⟩
 have H := H.2 hc
 refine W_exit ?_
 refine (if_pos rfl).mpr ?_
 refine W_seq ?_
 refine W_region ?_
 refine LP_ev ok 0 [(27, I k6), (4, I k6)] 2 rfl rfl ?_
 refine LP_end _ rfl ?_
 refine W_ret ?_
 exact ⟨_, Ret_of [I k6] ⟨⟨rfl, rfl⟩, trivial⟩, _, _, _, H, rfl, X7, o, ex5, (fun _ => f _)⟩

theorem laws_markPublishedS_w (a : List Published) (k : Int) (Q : Int → (List Published) → Prop) (H : laws_markPublishedS a k Q) (w : World) {vx : Value} {hx : PH} (r : OD hx vx a) (ex : Sub hx w) :
  CallsTo Tryz.prog 23 #[vx, I k] w fun v w' => ∃ r0 m1 k1, Q r0 m1 ∧ v = I r0 ∧ But hx w w' ∧ OD k1 vx m1 ∧ Sub k1 w' ∧ (∀ n, DomLe hx n k1) := by
 obtain ⟨a1, c, rfl⟩ := r.shape
 refine enter (args := [sl a1 a c, I k]) 52 Tryz.func23 rfl rfl rfl ?_
 refine W_forget [(0, sl a1 a c), (1, I k)] ⟨rfl, rfl, trivial⟩ fun ρ => ?_
 have D : Dom hx hx := (Dom.refl _)
 have X := But.refl hx w
 refine W_seq ?_
 refine W_region ?_
 refine LP_ev ok 0 [(4, I 0)] 1 rfl rfl ?_
 refine LP_end _ rfl ?_
 refine W_seq ?_
 refine W_seq ?_
 refine W_region ?_
 refine LP_ev ok 0 [(5, I 0)] 1 rfl rfl ?_
 refine LP_end _ rfl ?_
 refine W_block ?_
 obtain ⟨J, m, Hx, H⟩ := H
 refine W_loop (S := (List Published) × Int × Int) (fun s ρ' w' => J s.1 s.2.1 s.2.2 ∧ ∃ (ρ : Env) (hx4 : PH), ρ' = setAll [(0, sl a1 a c), (1, I s.2.1), (5, I s.2.2)] ρ ∧ But hx w w' ∧ OD hx4 (sl a1 a c) s.1 ∧ Sub hx4 w' ∧ (∀ n, DomLe hx n hx4)) (fun s => m s.1 s.2.1 s.2.2) (a, k, 0) ⟨Hx, _, hx, env_eq ⟨rfl, rfl, rfl, trivial⟩, X, r, ex, (fun _ => DomLe.refl _ _)⟩ ?_
 rintro ⟨a2, k6, i⟩ _ wx ⟨Hi, ρ, hx4, rfl, X7, o, ex5, f⟩
 have H := H a2 k6 i Hi
 refine W_seq ?_
 refine W_seq ?_
 refine W_region ?_
 refine LP_ev ok 0 [(6, I i), (7, sl a1 a c), (8, I (ln a)), (9, .bool (decide (i < (ln a))))] 4 rfl rfl ?_
 refine LP_end _ rfl ?_
 refine W_cond (decide (i < (ln a))) rfl (fun hc => ?_) (fun hc => ?_)
 ·have H := H.1 hc
  refine W_skip ?_
  refine W_seq ?_
  refine W_block ?_
  refine W_seq ?_
  refine W_region ?_
  refine LP_ev ok 0 [(12, sl a1 a c), (13, I i), (14, I k6)] 3 rfl rfl ?_
  obtain ⟨x, hi, hx8, H⟩ := H
  refine LP_indexF (v := sl a1 a c) 3 rfl rfl rfl Tryz.underlying36 ti_81 rfl rfl o hi hx8 fun a9 wa => ?_
  refine LP_ev ok 4 [(16, .pointer (some (Addr.add a9 0))), (17, .pointer (some (Addr.add (Addr.add a9 0) 0)))] 6 rfl rfl ?_
  refine LP_setfD2 (o1 := 0) (o2 := 0) 6 (x := x) (vs := [I k6]) (y := ({x with Table.Level := k6} : Published)) rfl rfl rfl ti_3 rfl rfl rfl rfl rfl Published_ft0 wa ex5 rfl fun hx10 wx11 o12 ex13 y dm => ?_
  refine LP_end _ rfl ?_
  refine W_seq ?_
  refine W_region ?_
  refine LP_ev ok 0 [(18, I k6), (19, I (wr (k6 + 1))), (1, I (wr (k6 + 1)))] 3 rfl rfl ?_
  refine LP_end _ rfl ?_
  refine W_seq ?_
  refine W_region ?_
  refine LP_ev ok 0 [(20, sl a1 a c), (21, I i)] 2 rfl rfl ?_
  obtain ⟨x14, hi15, hx16, H⟩ := H
  refine LP_indexB (v := sl a1 a c) 2 rfl rfl rfl Tryz.underlying36 ti_81 rfl rfl o12 hi15 hx16 fun a17 c18 hx19 rest r20 bw => ?_
  refine LP_ev ok 3 [(23, .pointer (some (Addr.add a17 0))), (24, .pointer (some (Addr.add (Addr.add a17 0) 1)))] 5 rfl rfl ?_
  obtain ⟨u, u21, u22, hx23, rest24, rfl, bw25⟩ := Published_bw1 bw
  have o26 := bw25.od
  obtain ⟨a27, c28, rfl⟩ := o26.shape
  refine LP_ldpart2 (o1 := 0) (o2 := 1) 5 (v := sl a27 x14.Table.Vars c28) rfl rfl rfl ti_22 ag_22 (fun _ => rfl) rfl r20 ex13 rfl rfl ?_
  have ex29 := Sub.le ex13 bw25.le
  have o30 : OS 3 hx23 emp (sl a27 x14.Table.Vars c28) x14.Table.Vars := OD.flat o26
  refine LP_ev ok 6 [(26, I (wr (k6 + 1)))] 7 rfl rfl ?_
  refine LP_call 7 rfl rfl rfl cal_24 rfl (laws_markIntS_w _ _ _ H wx11 o30 ex29) ?_
  rintro _ wx33 ⟨r31, r32, hx35, H, rfl, x34, o36, ex37, dm38⟩
  obtain ⟨bw39, o40, dd⟩ := BwG.turn bw25 (OS.od o36) (Dom.of dm38)
  have ex41 := BwG.sub bw25 ex13 ex37 x34
  have y42 := BwG.but bw25 x34
  refine LP_ev ok 8 [(1, I r31)] 9 rfl rfl ?_
  refine LP_end _ rfl ?_
  refine W_seq ?_
  refine W_region ?_
  refine LP_ev ok 0 [(28, sl a1 a c), (29, I i)] 2 rfl rfl ?_
  obtain ⟨x43, hi44, hx45, H⟩ := H
  refine LP_indexB (v := sl a1 a c) 2 rfl rfl rfl Tryz.underlying36 ti_81 rfl rfl o40 hi44 hx45 fun a46 c47 hx48 rest49 r50 bw51 => ?_
  refine LP_ev ok 3 [(31, .pointer (some (Addr.add a46 0))), (32, .pointer (some (Addr.add (Addr.add a46 0) 2)))] 5 rfl rfl ?_
  obtain ⟨u52, u53, u54, hx55, rest56, rfl, bw57⟩ := Published_bw2 bw51
  have o58 := bw57.od
  obtain ⟨a59, c60, rfl⟩ := o58.shape
  refine LP_ldpart2 (o1 := 0) (o2 := 2) 5 (v := sl a59 x43.Table.Where c60) rfl rfl rfl ti_22 ag_22 (fun _ => rfl) rfl r50 ex41 rfl rfl ?_
  have ex61 := Sub.le ex41 bw57.le
  have o62 : OS 3 hx55 emp (sl a59 x43.Table.Where c60) x43.Table.Where := OD.flat o58
  refine LP_ev ok 6 [(34, I r31)] 7 rfl rfl ?_
  refine LP_call 7 rfl rfl rfl cal_24 rfl (laws_markIntS_w _ _ _ H wx33 o62 ex61) ?_
  rintro _ wx65 ⟨r63, r64, hx67, H, rfl, x66, o68, ex69, dm70⟩
  obtain ⟨bw71, o72, dd73⟩ := BwG.turn bw57 (OS.od o68) (Dom.of dm70)
  have ex74 := BwG.sub bw57 ex41 ex69 x66
  have y75 := BwG.but bw57 x66
  refine LP_ev ok 8 [(1, I r63)] 9 rfl rfl ?_
  refine LP_end _ rfl ?_
  try refine W_forget [(0, sl a1 a c), (1, I r63), (5, I i)] ⟨rfl, rfl, rfl, trivial⟩ fun ρ => ?_
  refine W_seq ?_
  refine W_region ?_
  refine LP_ev ok 0 [(36, sl a1 a c), (37, I i), (38, I r63)] 3 rfl rfl ?_
  obtain ⟨x76, hi77, hx78, H⟩ := H
  refine LP_indexF (v := sl a1 a c) 3 rfl rfl rfl Tryz.underlying36 ti_81 rfl rfl o72 hi77 hx78 fun a79 wa80 => ?_
  refine LP_ev ok 4 [(40, .pointer (some (Addr.add a79 0))), (41, .pointer (some (Addr.add (Addr.add a79 0) 3)))] 6 rfl rfl ?_
  refine LP_setfD2 (o1 := 0) (o2 := 3) 6 (x := x76) (vs := [I r63]) (y := ({x76 with Table.Sum := r63} : Published)) rfl rfl rfl ti_3 rfl rfl rfl rfl rfl Published_ft3 wa80 ex74 rfl fun hx81 wx82 o83 ex84 y85 dm86 => ?_
  refine LP_end _ rfl ?_
  refine W_seq ?_
  refine W_region ?_
  refine LP_ev ok 0 [(42, I r63), (43, I (wr (r63 + 1))), (1, I (wr (r63 + 1)))] 3 rfl rfl ?_
  refine LP_end _ rfl ?_
  refine W_region ?_
  refine LP_ev ok 0 [(44, sl a1 a c), (45, I i)] 2 rfl rfl ?_
  obtain ⟨x87, hi88, hx89, H⟩ := H
  refine LP_indexB (v := sl a1 a c) 2 rfl rfl rfl Tryz.underlying36 ti_81 rfl rfl o83 hi88 hx89 fun a90 c91 hx92 rest93 r94 bw95 => ?_
  refine LP_ev ok 3 [(47, .pointer (some (Addr.add a90 4)))] 4 rfl rfl ?_
  obtain ⟨u96, u97, u98, hx99, rest100, rfl, bw101⟩ := Published_bw4 bw95
  have o102 := bw101.od
  obtain ⟨a103, c104, rfl⟩ := o102.shape
  refine LP_ldpart (off := 4) 4 (v := sl a103 x87.Cells c104) rfl rfl rfl ti_22 ag_22 (fun _ => rfl) rfl r94 ex84 rfl rfl ?_
  have ex105 := Sub.le ex84 bw101.le
  have o106 : OS 3 hx99 emp (sl a103 x87.Cells c104) x87.Cells := OD.flat o102
  refine LP_ev ok 5 [(49, I (wr (r63 + 1)))] 6 rfl rfl ?_
  refine LP_call 6 rfl rfl rfl cal_24 rfl (laws_markIntS_w _ _ _ H wx82 o106 ex105) ?_
  rintro _ wx109 ⟨r107, r108, hx111, H, rfl, x110, o112, ex113, dm114⟩
  obtain ⟨bw115, o116, dd117⟩ := BwG.turn bw101 (OS.od o112) (Dom.of dm114)
  have ex118 := BwG.sub bw101 ex84 ex113 x110
  have y119 := BwG.but bw101 x110
  refine LP_ev ok 7 [(1, I r107)] 8 rfl rfl ?_
  refine LP_end _ rfl ?_
  refine W_region ?_
  refine LP_ev ok 0 [(10, I i), (11, I (wr (i + 1))), (5, I (wr (i + 1)))] 3 rfl rfl ?_
  refine LP_end _ rfl ?_
  have X120 := (X7.step y (DomLe.dom D (f _)))
  have X121 := (X120.step y42 (DomLe.trans (DomLe.dom D (f _)) (dm _) X7.size))
  have X122 := (X121.step y75 (DomLe.trans (DomLe.trans (DomLe.dom D (f _)) (dm _) X7.size) ((fun n => Dom.le dd n) _) X120.size))
  have X123 := (((((X7.step y (DomLe.dom D (f _))).step y42 (DomLe.trans (DomLe.dom D (f _)) (dm _) X7.size)).step y75 (DomLe.trans (DomLe.trans (DomLe.dom D (f _)) (dm _) X7.size) ((fun n => Dom.le dd n) _) X120.size)).step y85 (DomLe.trans (DomLe.trans (DomLe.trans (DomLe.dom D (f _)) (dm _) X7.size) ((fun n => Dom.le dd n) _) X120.size) ((fun n => Dom.le dd73 n) _) X121.size)).step y119 (DomLe.trans (DomLe.trans (DomLe.trans (DomLe.trans (DomLe.dom D (f _)) (dm _) X7.size) ((fun n => Dom.le dd n) _) X120.size) ((fun n => Dom.le dd73 n) _) X121.size) (dm86 _) X122.size))
  exact ⟨(List.set (List.set (List.set (List.set (List.set a2 (Int.toNat i) ({x with Table.Level := k6} : Published)) (Int.toNat i) ({x14 with Table.Vars := r32} : Published)) (Int.toNat i) ({x43 with Table.Where := r64} : Published)) (Int.toNat i) ({x76 with Table.Sum := r63} : Published)) (Int.toNat i) ({x87 with Cells := r108} : Published), r107, wr (i + 1)), ⟨H.1, _, (un hx111 rest100), env_eq ⟨rfl, rfl, rfl, trivial⟩, X123, o116, ex118, (fun _ => DomLe.trans (DomLe.trans (DomLe.trans (DomLe.trans (DomLe.trans (f _) ((dm _)) (Nat.le_refl _)) (((fun n => Dom.le dd n) _)) (Nat.le_refl _)) (((fun n => Dom.le dd73 n) _)) (Nat.le_refl _)) ((dm86 _)) (Nat.le_refl _)) (((fun n => Dom.le dd117 n) _)) (Nat.le_refl _))⟩, H.2⟩
 have H := H.2 hc
 refine W_exit ?_
 refine (if_pos rfl).mpr ?_
 refine W_seq ?_
 refine W_region ?_
 refine LP_ev ok 0 [(51, I k6), (4, I k6)] 2 rfl rfl ?_
 refine LP_end _ rfl ?_
 refine W_ret ?_
 exact ⟨_, Ret_of [I k6] ⟨⟨rfl, rfl⟩, trivial⟩, _, _, _, H, rfl, X7, o, ex5, (fun _ => f _)⟩

theorem laws_heldIntS_w (a : List Int) (k : Int) (Q : Int → Prop) (H : laws_heldIntS a k Q) (w : World) {vx : Value} {hx : PH} (r : RS hx vx a) (ex : Sub hx w) :
  CallsTo Tryz.prog 25 #[vx, I k] w fun v w' => ∃ r0, Q r0 ∧ v = I r0 ∧ Ext w w' := by
 obtain ⟨a1, c, rfl⟩ := r.shape
 refine enter (args := [sl a1 a c, I k]) 21 Tryz.func25 rfl rfl rfl ?_
 refine W_forget [(0, sl a1 a c), (1, I k)] ⟨rfl, rfl, trivial⟩ fun ρ => ?_
 have X := But.refl emp w
 refine W_seq ?_
 refine W_region ?_
 refine LP_ev ok 0 [(4, I 0)] 1 rfl rfl ?_
 refine LP_end _ rfl ?_
 refine W_seq ?_
 refine W_seq ?_
 refine W_region ?_
 refine LP_ev ok 0 [(5, I 0)] 1 rfl rfl ?_
 refine LP_end _ rfl ?_
 refine W_block ?_
 obtain ⟨J, m, Hx, H⟩ := H
 refine W_loop (S := Int × Int) (fun s ρ' w' => J s.1 s.2 ∧ ∃ (ρ : Env), ρ' = setAll [(0, sl a1 a c), (1, I s.1), (5, I s.2)] ρ ∧ w = w') (fun s => m s.1 s.2) (k, 0) ⟨Hx, _, env_eq ⟨rfl, rfl, rfl, trivial⟩, rfl⟩ ?_
 rintro ⟨k2, i⟩ _ _ ⟨Hi, ρ, rfl, rfl⟩
 have H := H k2 i Hi
 refine W_seq ?_
 refine W_seq ?_
 refine W_region ?_
 refine LP_ev ok 0 [(6, I i), (7, sl a1 a c), (8, I (ln a)), (9, .bool (decide (i < (ln a))))] 4 rfl rfl ?_
 refine LP_end _ rfl ?_
 refine W_cond (decide (i < (ln a))) rfl (fun hc => ?_) (fun hc => ?_)
 ·have H := H.1 hc
  refine W_skip ?_
  refine W_seq ?_
  refine W_block ?_
  refine W_seq ?_
  refine W_seq ?_
  refine W_region ?_
  refine LP_ev ok 0 [(12, sl a1 a c), (13, I i)] 2 rfl rfl ?_
  obtain ⟨x, hi, hx3, H⟩ := H
  refine LP_index 2 rfl rfl rfl Tryz.underlying22 ti_3 rfl rfl r hi hx3 fun a4 cs r5 d => ?_
  refine LP_load 3 rfl rfl rfl ti_3 ag_3 rfl r5 d ex fun vx6 r7 => ?_
  obtain rfl := r7.int
  refine LP_ev ok 4 [(16, I k2), (17, .bool (x != k2))] 6 rfl rfl ?_
  refine LP_end _ rfl ?_
  refine W_cond (x != k2) rfl (fun hc8 => ?_) (fun hc8 => ?_)
  ·have H := H.1 hc8
   refine W_seq ?_
   refine W_region ?_
   refine LP_ev ok 0 [(4, I ((-1)))] 1 rfl rfl ?_
   refine LP_end _ rfl ?_
   refine W_ret ?_
   exact ⟨_, Ret_of [I ((-1))] ⟨⟨rfl, rfl⟩, trivial⟩, _, H, rfl, X.ext⟩
  have H := H.2 hc8
  refine W_skip ?_
  refine W_region ?_
  refine LP_ev ok 0 [(18, I k2), (19, I (wr (k2 + 1))), (1, I (wr (k2 + 1)))] 3 rfl rfl ?_
  refine LP_end _ rfl ?_
  refine W_region ?_
  refine LP_ev ok 0 [(10, I i), (11, I (wr (i + 1))), (5, I (wr (i + 1)))] 3 rfl rfl ?_
  refine LP_end _ rfl ?_
  exact ⟨(wr (k2 + 1), wr (i + 1)), ⟨H.1, _, env_eq ⟨rfl, rfl, rfl, trivial⟩, rfl⟩, H.2⟩
 have H := H.2 hc
 refine W_exit ?_
 refine (if_pos rfl).mpr ?_
 refine W_seq ?_
 refine W_region ?_
 refine LP_ev ok 0 [(20, I k2), (4, I k2)] 2 rfl rfl ?_
 refine LP_end _ rfl ?_
 refine W_ret ?_
 exact ⟨_, Ret_of [I k2] ⟨⟨rfl, rfl⟩, trivial⟩, _, H, rfl, X.ext⟩

theorem laws_FnExactCertainTypes_w (aG : Geo) (aS : List Variable) (aPubs : List Published) (aN : Int) (Q : Bool → Prop) (H : laws_FnExactCertainTypes aG aS aPubs aN Q) (w : World) {vx : Value} {hx : PH} (r : RS hx vx aG.Parents) (ex : Sub hx w) {vx1 : Value} {hx2 : PH} (r3 : RS hx2 vx1 aS) (ex4 : Sub hx2 w) {vx7 : Value} {hx8 : PH} (r9 : RS hx8 vx7 aPubs) (ex10 : Sub hx8 w) :
  CallsTo Tryz.prog 5 #[.agg #[vx], vx1, vx7, I aN] w fun v w' => ∃ r0, Q r0 ∧ v = .bool r0 ∧ Ext w w' := by
 obtain ⟨a, c, rfl⟩ := r.shape
 obtain ⟨a5, c6, rfl⟩ := r3.shape
 obtain ⟨a11, c12, rfl⟩ := r9.shape
 refine enter (args := [.agg #[sl a aG.Parents c], sl a5 aS c6, sl a11 aPubs c12, I aN]) 147 Tryz.func5 rfl rfl rfl ?_
 refine W_forget [(0, .agg #[sl a aG.Parents c]), (1, sl a5 aS c6), (2, sl a11 aPubs c12), (3, I aN)] ⟨rfl, rfl, rfl, rfl, trivial⟩ fun ρ => ?_
 have X := But.refl emp w
 refine W_seq ?_
 refine W_region ?_
 refine LP_box 0 (cs := [sl a aG.Parents c]) rfl rfl rfl rfl rfl fun b wx x ex13 f => ?_
 refine LP_ev ok 1 [(8, .bool false)] 2 rfl rfl ?_
 refine LP_end _ rfl ?_
 refine W_seq ?_
 refine W_region ?_
 refine LP_ev ok 0 [(9, I 1048576)] 1 rfl rfl ?_
 refine LP_end _ rfl ?_
 refine W_seq ?_
 refine W_region ?_
 refine LP_ldbox 0 (v := .agg #[sl a aG.Parents c]) rfl rfl rfl ti_24 ag_24 (fun h => by cases h) rfl ex13 rfl rfl ?_
 refine LP_ev ok 1 [(23, I 1048576)] 2 rfl rfl ?_
 have ex15 := (ex.ext x)
 refine LP_call 2 rfl rfl rfl cal_9 rfl (laws_szGeo_w _ _ _ H wx r ex15) ?_
 rintro _ wx16 ⟨r14, H, rfl, x17⟩
 refine LP_ev ok 3 [(9, I r14)] 4 rfl rfl ?_
 refine LP_end _ rfl ?_
 refine W_seq ?_
 refine W_seq ?_
 refine W_region ?_
 refine LP_ev ok 0 [(25, I r14), (26, .bool (decide (r14 < 0)))] 2 rfl rfl ?_
 refine LP_end _ rfl ?_
 refine W_cond (decide (r14 < 0)) rfl (fun hc => ?_) (fun hc => ?_)
 ·have H := H.1 hc
  refine W_seq ?_
  refine W_region ?_
  refine LP_ev ok 0 [(8, .bool true)] 1 rfl rfl ?_
  refine LP_end _ rfl ?_
  refine W_ret ?_
  have X18 := ((X.stepx x).stepx x17)
  exact ⟨_, Ret_of [.bool true] ⟨⟨rfl, rfl⟩, trivial⟩, _, H, rfl, X18.ext⟩
 have H := H.2 hc
 refine W_skip ?_
 refine W_seq ?_
 refine W_region ?_
 refine LP_ev ok 0 [(27, sl a5 aS c6), (28, I r14)] 2 rfl rfl ?_
 have ex20 := ((ex4.ext x).ext x17)
 refine LP_call 2 rfl rfl rfl cal_10 rfl (laws_szVariableS_w _ _ _ H wx16 r3 ex20) ?_
 rintro _ wx21 ⟨r19, H, rfl, x22⟩
 refine LP_ev ok 3 [(9, I r19)] 4 rfl rfl ?_
 refine LP_end _ rfl ?_
 refine W_seq ?_
 refine W_seq ?_
 refine W_region ?_
 refine LP_ev ok 0 [(30, I r19), (31, .bool (decide (r19 < 0)))] 2 rfl rfl ?_
 refine LP_end _ rfl ?_
 refine W_cond (decide (r19 < 0)) rfl (fun hc23 => ?_) (fun hc23 => ?_)
 ·have H := H.1 hc23
  refine W_seq ?_
  refine W_region ?_
  refine LP_ev ok 0 [(8, .bool true)] 1 rfl rfl ?_
  refine LP_end _ rfl ?_
  refine W_ret ?_
  have X24 := (((X.stepx x).stepx x17).stepx x22)
  exact ⟨_, Ret_of [.bool true] ⟨⟨rfl, rfl⟩, trivial⟩, _, H, rfl, X24.ext⟩
 have H := H.2 hc23
 refine W_skip ?_
 refine W_seq ?_
 refine W_region ?_
 refine LP_ev ok 0 [(32, sl a11 aPubs c12), (33, I r19)] 2 rfl rfl ?_
 have ex26 := (((ex10.ext x).ext x17).ext x22)
 refine LP_call 2 rfl rfl rfl cal_11 rfl (laws_szPublishedS_w _ _ _ H wx21 r9 ex26) ?_
 rintro _ wx27 ⟨r25, H, rfl, x28⟩
 refine LP_ev ok 3 [(9, I r25)] 4 rfl rfl ?_
 refine LP_end _ rfl ?_
 refine W_seq ?_
 refine W_seq ?_
 refine W_region ?_
 refine LP_ev ok 0 [(35, I r25), (36, .bool (decide (r25 < 0)))] 2 rfl rfl ?_
 refine LP_end _ rfl ?_
 refine W_cond (decide (r25 < 0)) rfl (fun hc29 => ?_) (fun hc29 => ?_)
 ·have H := H.1 hc29
  refine W_seq ?_
  refine W_region ?_
  refine LP_ev ok 0 [(8, .bool true)] 1 rfl rfl ?_
  refine LP_end _ rfl ?_
  refine W_ret ?_
  have X30 := ((((X.stepx x).stepx x17).stepx x22).stepx x28)
  exact ⟨_, Ret_of [.bool true] ⟨⟨rfl, rfl⟩, trivial⟩, _, H, rfl, X30.ext⟩
 have H := H.2 hc29
 refine W_skip ?_
 refine W_seq ?_
 refine W_region ?_
 have ex31 := (((ex13.ext x17).ext x22).ext x28)
 refine LP_ldbox 0 (v := .agg #[sl a aG.Parents c]) rfl rfl rfl ti_24 ag_24 (fun h => by cases h) rfl ex31 rfl rfl ?_
 have ex33 := (((ex15.ext x17).ext x22).ext x28)
 refine LP_call 1 rfl rfl rfl cal_13 rfl (laws_toGeo_w _ _ H wx27 r ex33) ?_
 rintro _ wx34 ⟨r32, vx36, hx37, H, rfl, x35, o, ex38, f39⟩
 obtain ⟨a40, c41, rfl⟩ := o.shape
 refine LP_ev ok 2 [(40, sl a5 aS c6)] 3 rfl rfl ?_
 have ex43 := (((ex20.ext x22).ext x28).ext x35)
 refine LP_call 3 rfl rfl rfl cal_14 rfl (laws_toVariableS_w _ _ H wx34 r3 ex43) ?_
 rintro _ wx44 ⟨r42, vx46, hx47, H, rfl, x45, o48, ex49, f50⟩
 obtain ⟨a51, c52, rfl⟩ := o48.shape
 refine LP_ev ok 4 [(42, sl a11 aPubs c12)] 5 rfl rfl ?_
 have ex54 := (((ex26.ext x28).ext x35).ext x45)
 refine LP_call 5 rfl rfl rfl cal_15 rfl (laws_toPublishedS_w _ _ H wx44 r9 ex54) ?_
 rintro _ wx55 ⟨r53, vx57, hx58, H, rfl, x56, o59, ex60, f61⟩
 obtain ⟨a62, c63, rfl⟩ := o59.shape
 refine LP_ev ok 6 [(44, I aN)] 7 rfl rfl ?_
 have ex66 := ((ex38.ext x45).ext x56)
 have ex67 := (ex49.ext x56)
 refine LP_call 7 rfl rfl rfl cal_28 rfl (spec_CertainTypes_w _ _ _ _ _ H wx55 o.readf ex66 o48.readf ex67 o59.readf ex60) ?_
 rintro _ wx68 ⟨r64, r65, vx70, hx71, H, rfl, x69, o72, ex73, f74⟩
 obtain ⟨a75, c76, rfl⟩ := o72.shape
 refine LP_ev ok 8 [(37, .tuple #[sl a75 r64 c76, .bool r65]), (46, sl a75 r64 c76), (47, .bool r65), (10, sl a75 r64 c76), (11, .bool r65)] 13 rfl rfl ?_
 refine LP_end _ rfl ?_
 try refine W_forget [(1, sl a5 aS c6), (2, sl a11 aPubs c12), (3, I aN), (4, pb b), (10, sl a75 r64 c76), (11, .bool r65)] ⟨rfl, rfl, rfl, rfl, rfl, rfl, trivial⟩ fun ρ => ?_
 refine W_seq ?_
 refine W_region ?_
 have ex77 := ((((ex31.ext x35).ext x45).ext x56).ext x69)
 refine LP_ldbox 0 (v := .agg #[sl a aG.Parents c]) rfl rfl rfl ti_24 ag_24 (fun h => by cases h) rfl ex77 rfl rfl ?_
 have ex79 := ((((ex33.ext x35).ext x45).ext x56).ext x69)
 refine LP_call 1 rfl rfl rfl cal_13 rfl (laws_toGeo_w _ _ H wx68 r ex79) ?_
 rintro _ wx80 ⟨r78, vx82, hx83, H, rfl, x81, o84, ex85, f86⟩
 obtain ⟨a87, c88, rfl⟩ := o84.shape
 refine LP_alloc 2 rfl rfl rfl ti_32 rfl fun b89 wx90 x91 ex92 f93 => ?_
 refine LP_stbox 3 (vs := [sl a87 r78.Parents c88]) (cs' := [sl a87 r78.Parents c88]) rfl rfl rfl ti_32 rfl rfl rfl rfl rfl ex92 rfl rfl fun wx94 ex95 y => ?_
 refine LP_end _ rfl ?_
 refine W_seq ?_
 refine W_region ?_
 refine LP_ev ok 0 [(50, sl a5 aS c6)] 1 rfl rfl ?_
 have ex97 := ((((ex43.ext x45).ext x56).ext x69).ext x81)
 have ex98 := ((((((ex43.ext x45).ext x56).ext x69).ext x81).ext x91).but y (Dj.of_fresh ex97 f93).symm)
 refine LP_call 1 rfl rfl rfl cal_14 rfl (laws_toVariableS_w _ _ H wx94 r3 ex98) ?_
 rintro _ wx99 ⟨r96, vx101, hx102, H, rfl, x100, o103, ex104, f105⟩
 obtain ⟨a106, c107, rfl⟩ := o103.shape
 refine LP_ev ok 2 [(13, sl a106 r96 c107)] 3 rfl rfl ?_
 refine LP_end _ rfl ?_
 refine W_seq ?_
 refine W_region ?_
 refine LP_ev ok 0 [(52, sl a11 aPubs c12)] 1 rfl rfl ?_
 have ex109 := (((ex54.ext x56).ext x69).ext x81)
 have ex110 := ((((((ex54.ext x56).ext x69).ext x81).ext x91).but y (Dj.of_fresh ex109 f93).symm).ext x100)
 refine LP_call 1 rfl rfl rfl cal_15 rfl (laws_toPublishedS_w _ _ H wx99 r9 ex110) ?_
 rintro _ wx111 ⟨r108, vx113, hx114, H, rfl, x112, o115, ex116, f117⟩
 obtain ⟨a118, c119, rfl⟩ := o115.shape
 refine LP_ev ok 2 [(14, sl a118 r108 c119)] 3 rfl rfl ?_
 refine LP_end _ rfl ?_
 refine W_seq ?_
 refine W_region ?_
 have ex120 := ((ex95.ext x100).ext x112)
 refine LP_ldbox 0 (v := .agg #[sl a87 r78.Parents c88]) rfl rfl rfl ti_32 ag_32 (fun h => by cases h) rfl ex120 rfl rfl ?_
 refine LP_ev ok 1 [(56, sl a106 r96 c107), (57, sl a118 r108 c119), (58, I aN)] 4 rfl rfl ?_
 have ex123 := ((((ex85.ext x91).but y (Dj.of_fresh ex85 f93).symm).ext x100).ext x112)
 have ex124 := (ex104.ext x112)
 refine LP_call 4 rfl rfl rfl cal_29 rfl (impl_CertainTypes_w _ _ _ _ _ H wx111 o84.readf ex123 o103.readf ex124 o115.readf ex116) ?_
 rintro _ wx125 ⟨r121, r122, vx127, hx128, H, rfl, x126, o129, ex130, f131⟩
 obtain ⟨a132, c133, rfl⟩ := o129.shape
 refine LP_ev ok 5 [(54, .tuple #[sl a132 r121 c133, .bool r122]), (60, sl a132 r121 c133), (61, .bool r122), (15, sl a132 r121 c133), (16, .bool r122)] 10 rfl rfl ?_
 refine LP_end _ rfl ?_
 refine W_seq ?_
 obtain ⟨k, hk, H⟩ := jn_elim H
 refine W_join2 (S := Bool) (fun s ρ' w' => k s ∧ ∃ (ρ : Env), ρ' = setAll [(1, sl a5 aS c6), (2, sl a11 aPubs c12), (3, I aN), (4, pb b), (10, sl a75 r64 c76), (11, .bool r65), (12, pb b89), (13, sl a106 r96 c107), (14, sl a118 r108 c119), (15, sl a132 r121 c133), (16, .bool r122), (70, .bool s)] ρ ∧ But emp w w' ∧ Sub hx w' ∧ Sub hx2 w' ∧ Sub hx8 w' ∧ Sub (bx b 24 [sl a aG.Parents c]) w' ∧ Sub hx71 w' ∧ Sub hx83 w' ∧ Sub (bx b89 32 [sl a87 r78.Parents c88]) w' ∧ Sub hx102 w' ∧ Sub hx114 w' ∧ Sub hx128 w') ?_ ?_
 ·refine W_region ?_
  refine LP_ev ok 0 [(62, sl a132 r121 c133), (63, sl a75 r64 c76)] 2 rfl rfl ?_
  have ex148 := (ex73.ext x81)
  have ex149 := ((((((ex73.ext x81).ext x91).but y (Dj.of_fresh ex148 f93).symm).ext x100).ext x112).ext x126)
  refine LP_call 2 rfl rfl rfl cal_17 rfl (laws_eqIntS_w _ _ _ H wx125 o129.readf ex130 o72.readf ex149) ?_
  rintro _ wx150 ⟨r147, H, rfl, x151⟩
  refine LP_ev ok 3 [(65, .bool (!r147)), (66, .bool (!r147))] 5 rfl rfl ?_
  refine LP_split 66 (!r147) rfl (fun hc152 => ?_) (fun hc152 => ?_)
  ·have H := H.1 hc152
   refine LP_ev ok 5 [(67, undef), (68, undef), (69, undef), (70, .bool true)] 9 rfl rfl ?_
   refine LP_end _ rfl ?_
   try refine W_forget [(1, sl a5 aS c6), (2, sl a11 aPubs c12), (3, I aN), (4, pb b), (10, sl a75 r64 c76), (11, .bool r65), (12, pb b89), (13, sl a106 r96 c107), (14, sl a118 r108 c119), (15, sl a132 r121 c133), (16, .bool r122), (70, .bool true)] ⟨rfl, rfl, rfl, rfl, rfl, rfl, rfl, rfl, rfl, rfl, rfl, rfl, trivial⟩ fun ρ => ?_
   have X154 := (((((((((X.stepx x).stepx x17).stepx x22).stepx x28).stepx x35).stepx x45).stepx x56).stepx x69).stepx x81)
   have f153 := f93.mono X154.size
   have X155 := (((((((((((((((X.stepx x).stepx x17).stepx x22).stepx x28).stepx x35).stepx x45).stepx x56).stepx x69).stepx x81).stepx x91).step y (f153.dom _)).stepx x100).stepx x112).stepx x126).stepx x151)
   have ex156 := (ex79.ext x81)
   have ex157 := (((((((ex79.ext x81).ext x91).but y (Dj.of_fresh ex156 f93).symm).ext x100).ext x112).ext x126).ext x151)
   have ex158 := ((((ex98.ext x100).ext x112).ext x126).ext x151)
   have ex159 := (((ex110.ext x112).ext x126).ext x151)
   have ex160 := (ex77.ext x81)
   have ex161 := (((((((ex77.ext x81).ext x91).but y (Dj.of_fresh ex160 f93).symm).ext x100).ext x112).ext x126).ext x151)
   have ex162 := (ex149.ext x151)
   have ex163 := ((ex123.ext x126).ext x151)
   have ex164 := ((ex120.ext x126).ext x151)
   have ex165 := ((ex124.ext x126).ext x151)
   have ex166 := ((ex116.ext x126).ext x151)
   have ex167 := (ex130.ext x151)
   exact ⟨true, H, _, env_eq ⟨rfl, rfl, rfl, rfl, rfl, rfl, rfl, rfl, rfl, rfl, rfl, rfl, trivial⟩, X155, ex157, ex158, ex159, ex161, ex162, ex163, ex164, ex165, ex166, ex167⟩
  have H := H.2 hc152
  refine LP_ev ok 5 [(67, .bool r122), (68, .bool r65), (69, .bool (r122 != r65)), (70, .bool (r122 != r65))] 9 rfl rfl ?_
  refine LP_end _ rfl ?_
  try refine W_forget [(1, sl a5 aS c6), (2, sl a11 aPubs c12), (3, I aN), (4, pb b), (10, sl a75 r64 c76), (11, .bool r65), (12, pb b89), (13, sl a106 r96 c107), (14, sl a118 r108 c119), (15, sl a132 r121 c133), (16, .bool r122), (70, .bool (r122 != r65))] ⟨rfl, rfl, rfl, rfl, rfl, rfl, rfl, rfl, rfl, rfl, rfl, rfl, trivial⟩ fun ρ => ?_
  have X169 := (((((((((X.stepx x).stepx x17).stepx x22).stepx x28).stepx x35).stepx x45).stepx x56).stepx x69).stepx x81)
  have f168 := f93.mono X169.size
  have X170 := (((((((((((((((X.stepx x).stepx x17).stepx x22).stepx x28).stepx x35).stepx x45).stepx x56).stepx x69).stepx x81).stepx x91).step y (f168.dom _)).stepx x100).stepx x112).stepx x126).stepx x151)
  have ex171 := (ex79.ext x81)
  have ex172 := (((((((ex79.ext x81).ext x91).but y (Dj.of_fresh ex171 f93).symm).ext x100).ext x112).ext x126).ext x151)
  have ex173 := ((((ex98.ext x100).ext x112).ext x126).ext x151)
  have ex174 := (((ex110.ext x112).ext x126).ext x151)
  have ex175 := (ex77.ext x81)
  have ex176 := (((((((ex77.ext x81).ext x91).but y (Dj.of_fresh ex175 f93).symm).ext x100).ext x112).ext x126).ext x151)
  have ex177 := (ex149.ext x151)
  have ex178 := ((ex123.ext x126).ext x151)
  have ex179 := ((ex120.ext x126).ext x151)
  have ex180 := ((ex124.ext x126).ext x151)
  have ex181 := ((ex116.ext x126).ext x151)
  have ex182 := (ex130.ext x151)
  exact ⟨r122 != r65, H, _, env_eq ⟨rfl, rfl, rfl, rfl, rfl, rfl, rfl, rfl, rfl, rfl, rfl, rfl, trivial⟩, X170, ex172, ex173, ex174, ex176, ex177, ex178, ex179, ex180, ex181, ex182⟩
 rintro x134 _ wx135 ⟨H, ρ, rfl, HF⟩
 revert HF
 refine bb9 fun X146 ex136 ex137 ex138 ex139 ex140 ex141 ex142 => ?_
 refine bb3 fun ex143 ex144 ex145 => ?_
 subst hk
 refine W_cond (x134) rfl (fun hc183 => ?_) (fun hc183 => ?_)
 ·have H := H.1 hc183
  refine W_seq ?_
  refine W_region ?_
  refine LP_ev ok 0 [(8, .bool false)] 1 rfl rfl ?_
  refine LP_end _ rfl ?_
  refine W_ret ?_
  exact ⟨_, Ret_of [.bool false] ⟨⟨rfl, rfl⟩, trivial⟩, _, H, rfl, X146.ext⟩
 have H := H.2 hc183
 refine W_skip ?_
 refine W_seq ?_
 refine W_seq ?_
 refine W_open mix fun wx184 x185 => ?_
 refine AP_game 3 [[], [], [1], [0, 1, 2], [0, 1, 2, 3]] [[(12, none)], [(4, none)], [(72, some 1)]] [(1, none), (2, none), (3, none), (4, none), (10, none), (11, none), (12, none), (13, none), (14, none), (15, none), (16, none), (71, some 0), (73, some 2)] [(0, false), (1, false), (2, true)] (by kernel_rfl) (by kernel_rfl) ?_
 have ex186 := (ex142.ext x185)
 refine GS_r1 [(12, pb b89)] (.agg #[sl a87 r78.Parents c88]) rfl rfl (fun _ h => h) (fun _ w e => ex_ldbox rfl ti_32 ag_32 (fun h => by cases h) rfl e rfl rfl) ex186 ?_
 have ex187 := (ex139.ext x185)
 refine GS_r1 [(4, pb b)] (.agg #[sl a aG.Parents c]) rfl rfl (fun _ h => h) (fun _ w e => ex_ldbox rfl ti_24 ag_24 (fun h => by cases h) rfl e rfl rfl) ex187 ?_
 refine GS_lp [(72, .agg #[sl a aG.Parents c])] rfl rfl (fun _ h => h) rfl fun ρ wx188 x189 => ?_
 have ex191 := ((ex136.ext x185).ext x189)
 refine LP_call 0 rfl rfl rfl cal_13 rfl (laws_toGeo_w _ _ H wx188 r ex191) ?_
 rintro _ wx192 ⟨r190, vx194, hx195, H, rfl, x193, o196, ex197, f198⟩
 obtain ⟨a199, c200, rfl⟩ := o196.shape
 have ex201 := ((ex186.ext x189).ext x193)
 refine LP_gs ⟨⟨.inl rfl, .inr ex201, trivial⟩, ?_⟩
 intro wx202 x203 ρ hn
 refine AP_forget [(1, sl a5 aS c6), (2, sl a11 aPubs c12), (3, I aN), (4, pb b), (10, sl a75 r64 c76), (11, .bool r65), (12, pb b89), (13, sl a106 r96 c107), (14, sl a118 r108 c119), (15, sl a132 r121 c133), (16, .bool r122), (71, .agg #[sl a87 r78.Parents c88]), (73, .agg #[sl a199 r190.Parents c200])] (by exact hn) fun ρ => ?_
 refine AP_tail 3 [[], [], [1], [0, 1, 2], [0, 1, 2, 3]] (by kernel_rfl) ?_
 have ex205 := ((((ex141.ext x185).ext x189).ext x193).ext x203)
 have ex206 := (ex197.ext x203)
 refine LP_call 3 rfl rfl rfl cal_18 rfl (laws_eqGeo_w _ _ _ H wx202 o84.readf ex205 o196.readf ex206) ?_
 rintro _ wx207 ⟨r204, H, rfl, x208⟩
 refine LP_ev ok 4 [(75, .bool (!r204))] 5 rfl rfl ?_
 refine LP_end _ rfl ?_
 refine W_cond (!r204) rfl (fun hc209 => ?_) (fun hc209 => ?_)
 ·have H := H.1 hc209
  refine W_seq ?_
  refine W_region ?_
  refine LP_ev ok 0 [(8, .bool false)] 1 rfl rfl ?_
  refine LP_end _ rfl ?_
  refine W_ret ?_
  have X210 := (((((X146.stepx x185).stepx x189).stepx x193).stepx x203).stepx x208)
  exact ⟨_, Ret_of [.bool false] ⟨⟨rfl, rfl⟩, trivial⟩, _, H, rfl, X210.ext⟩
 have H := H.2 hc209
 refine W_skip ?_
 refine W_seq ?_
 refine W_seq ?_
 refine W_region ?_
 refine LP_ev ok 0 [(76, sl a106 r96 c107), (77, sl a5 aS c6)] 2 rfl rfl ?_
 have ex212 := (((((ex137.ext x185).ext x189).ext x193).ext x203).ext x208)
 refine LP_call 2 rfl rfl rfl cal_14 rfl (laws_toVariableS_w _ _ H wx207 r3 ex212) ?_
 rintro _ wx213 ⟨r211, vx215, hx216, H, rfl, x214, o217, ex218, f219⟩
 obtain ⟨a220, c221, rfl⟩ := o217.shape
 have ex223 := ((((((ex143.ext x185).ext x189).ext x193).ext x203).ext x208).ext x214)
 refine LP_call 3 rfl rfl rfl cal_19 rfl (laws_eqVariableS_w _ _ _ H wx213 o103.readf ex223 o217.readf ex218) ?_
 rintro _ wx224 ⟨r222, H, rfl, x225⟩
 refine LP_ev ok 4 [(80, .bool (!r222))] 5 rfl rfl ?_
 refine LP_end _ rfl ?_
 refine W_cond (!r222) rfl (fun hc226 => ?_) (fun hc226 => ?_)
 ·have H := H.1 hc226
  refine W_seq ?_
  refine W_region ?_
  refine LP_ev ok 0 [(8, .bool false)] 1 rfl rfl ?_
  refine LP_end _ rfl ?_
  refine W_ret ?_
  have X227 := (((((((X146.stepx x185).stepx x189).stepx x193).stepx x203).stepx x208).stepx x214).stepx x225)
  exact ⟨_, Ret_of [.bool false] ⟨⟨rfl, rfl⟩, trivial⟩, _, H, rfl, X227.ext⟩
 have H := H.2 hc226
 refine W_skip ?_
 refine W_seq ?_
 refine W_seq ?_
 refine W_region ?_
 refine LP_ev ok 0 [(81, sl a118 r108 c119), (82, sl a11 aPubs c12)] 2 rfl rfl ?_
 have ex229 := (((((((ex138.ext x185).ext x189).ext x193).ext x203).ext x208).ext x214).ext x225)
 refine LP_call 2 rfl rfl rfl cal_15 rfl (laws_toPublishedS_w _ _ H wx224 r9 ex229) ?_
 rintro _ wx230 ⟨r228, vx232, hx233, H, rfl, x231, o234, ex235, f236⟩
 obtain ⟨a237, c238, rfl⟩ := o234.shape
 have ex240 := ((((((((ex144.ext x185).ext x189).ext x193).ext x203).ext x208).ext x214).ext x225).ext x231)
 refine LP_call 3 rfl rfl rfl cal_20 rfl (laws_eqPublishedS_w _ _ _ H wx230 o115.readf ex240 o234.readf ex235) ?_
 rintro _ wx241 ⟨r239, H, rfl, x242⟩
 refine LP_ev ok 4 [(85, .bool (!r239))] 5 rfl rfl ?_
 refine LP_end _ rfl ?_
 refine W_cond (!r239) rfl (fun hc243 => ?_) (fun hc243 => ?_)
 ·have H := H.1 hc243
  refine W_seq ?_
  refine W_region ?_
  refine LP_ev ok 0 [(8, .bool false)] 1 rfl rfl ?_
  refine LP_end _ rfl ?_
  refine W_ret ?_
  have X244 := (((((((((X146.stepx x185).stepx x189).stepx x193).stepx x203).stepx x208).stepx x214).stepx x225).stepx x231).stepx x242)
  exact ⟨_, Ret_of [.bool false] ⟨⟨rfl, rfl⟩, trivial⟩, _, H, rfl, X244.ext⟩
 have H := H.2 hc243
 refine W_skip ?_
 refine W_seq ?_
 refine W_region ?_
 refine LP_ev ok 0 [(17, I 1)] 1 rfl rfl ?_
 refine LP_end _ rfl ?_
 refine W_seq ?_
 refine W_region ?_
 have ex245 := ((((((((ex186.ext x189).ext x193).ext x203).ext x208).ext x214).ext x225).ext x231).ext x242)
 refine LP_ldbox 0 (v := .agg #[sl a87 r78.Parents c88]) rfl rfl rfl ti_32 ag_32 (fun h => by cases h) rfl ex245 rfl rfl ?_
 refine LP_ev ok 1 [(87, I 1)] 2 rfl rfl ?_
 have ex248 := (((((ex205.ext x208).ext x214).ext x225).ext x231).ext x242)
 refine LP_call 2 rfl rfl rfl cal_21 rfl (laws_markGeo_w _ _ _ H wx241 o84 ex248) ?_
 rintro _ wx249 ⟨r246, r247, hx251, H, rfl, x250, o252, ex253, dm⟩
 refine LP_ev ok 3 [(17, I r246)] 4 rfl rfl ?_
 refine LP_end _ rfl ?_
 refine W_seq ?_
 refine W_region ?_
 refine LP_ev ok 0 [(89, sl a106 r96 c107), (90, I r246)] 2 rfl rfl ?_
 have ex256 := ((ex85.ext x91).but y (Dj.of_fresh ex85 f93).symm)
 have ex257 := ((((ex223.ext x225).ext x231).ext x242).but x250 (Dj.of_fresh ex256 f105))
 refine LP_call 2 rfl rfl rfl cal_22 rfl (laws_markVariableS_w _ _ _ H wx249 o103 ex257) ?_
 rintro _ wx258 ⟨r254, r255, hx260, H, rfl, x259, o261, ex262, dm263⟩
 refine LP_ev ok 3 [(17, I r254)] 4 rfl rfl ?_
 refine LP_end _ rfl ?_
 refine W_seq ?_
 refine W_region ?_
 refine LP_ev ok 0 [(92, sl a118 r108 c119), (93, I r254)] 2 rfl rfl ?_
 have ex266 := (ex256.ext x100)
 have ex267 := (((ex240.ext x242).but x250 (Dj.of_fresh ex266 f117)).but x259 (Dj.of_fresh ex104 f117))
 refine LP_call 2 rfl rfl rfl cal_23 rfl (laws_markPublishedS_w _ _ _ H wx258 o115 ex267) ?_
 rintro _ wx268 ⟨r264, r265, hx270, H, rfl, x269, o271, ex272, dm273⟩
 refine LP_ev ok 3 [(17, I r264)] 4 rfl rfl ?_
 refine LP_end _ rfl ?_
 try refine W_forget [(1, sl a5 aS c6), (2, sl a11 aPubs c12), (3, I aN), (4, pb b), (10, sl a75 r64 c76), (11, .bool r65), (15, sl a132 r121 c133), (16, .bool r122), (17, I r264)] ⟨rfl, rfl, rfl, rfl, rfl, rfl, rfl, rfl, rfl, trivial⟩ fun ρ => ?_
 refine W_seq ?_
 obtain ⟨k283, hk284, H⟩ := jn_elim H
 refine W_join2 (S := Bool) (fun s ρ' w' => k283 s ∧ ∃ (ρ : Env), ρ' = setAll [(1, sl a5 aS c6), (2, sl a11 aPubs c12), (3, I aN), (4, pb b), (10, sl a75 r64 c76), (11, .bool r65), (15, sl a132 r121 c133), (107, .bool s)] ρ ∧ But emp w w' ∧ Sub hx w' ∧ Sub hx2 w' ∧ Sub hx8 w' ∧ Sub (bx b 24 [sl a aG.Parents c]) w' ∧ Sub hx71 w' ∧ Sub hx128 w') ?_ ?_
 ·refine W_region ?_
  refine LP_ev ok 0 [(95, I r264), (96, .bool (decide (r264 < 0))), (97, .bool (decide (r264 < 0)))] 3 rfl rfl ?_
  refine LP_split 97 (decide (r264 < 0)) rfl (fun hc285 => ?_) (fun hc285 => ?_)
  ·have H := H.1 hc285
   refine LP_ev ok 3 [(98, undef), (99, undef), (100, undef), (101, undef), (102, .bool true), (103, .bool true), (104, undef), (105, undef), (106, undef), (107, .bool true)] 13 rfl rfl ?_
   refine LP_end _ rfl ?_
   have X287 := ((((((((X.stepx x).stepx x17).stepx x22).stepx x28).stepx x35).stepx x45).stepx x56).stepx x69)
   have f286 := f86.mono X287.size
   have X290 := (X287.stepx x81)
   have f289 := f93.mono X290.size
   have X291 := (((X287.stepx x81).stepx x91).step y (f289.dom _))
   have f288 := f105.mono X291.size
   have X293 := (X291.stepx x100)
   have f292 := f117.mono X293.size
   have X294 := ((((((((((((X146.stepx x185).stepx x189).stepx x193).stepx x203).stepx x208).stepx x214).stepx x225).stepx x231).stepx x242).step x250 (f286.dom _)).step x259 (f288.dom _)).step x269 (f292.dom _))
   have ex295 := (ex79.ext x81)
   have ex296 := (((ex79.ext x81).ext x91).but y (Dj.of_fresh ex295 f93).symm)
   have ex297 := (ex296.ext x100)
   have ex298 := ((((((((((ex191.ext x193).ext x203).ext x208).ext x214).ext x225).ext x231).ext x242).but x250 (Dj.of_fresh ex79 f86).symm).but x259 (Dj.of_fresh ex296 f105).symm).but x269 (Dj.of_fresh ex297 f117).symm)
   have ex299 := (((ex43.ext x45).ext x56).ext x69)
   have ex300 := (ex98.ext x100)
   have ex301 := (((((((ex212.ext x214).ext x225).ext x231).ext x242).but x250 (Dj.of_fresh ex299 f86).symm).but x259 (Dj.of_fresh ex98 f105).symm).but x269 (Dj.of_fresh ex300 f117).symm)
   have ex302 := ((ex54.ext x56).ext x69)
   have ex303 := ((ex109.ext x91).but y (Dj.of_fresh ex109 f93).symm)
   have ex304 := (((((ex229.ext x231).ext x242).but x250 (Dj.of_fresh ex302 f86).symm).but x259 (Dj.of_fresh ex303 f105).symm).but x269 (Dj.of_fresh ex110 f117).symm)
   have ex305 := (ex77.ext x81)
   have ex306 := (((ex77.ext x81).ext x91).but y (Dj.of_fresh ex305 f93).symm)
   have ex307 := (ex306.ext x100)
   have ex308 := (((((((((((ex187.ext x189).ext x193).ext x203).ext x208).ext x214).ext x225).ext x231).ext x242).but x250 (Dj.of_fresh ex77 f86).symm).but x259 (Dj.of_fresh ex306 f105).symm).but x269 (Dj.of_fresh ex307 f117).symm)
   have ex309 := (ex73.ext x81)
   have ex310 := (((ex73.ext x81).ext x91).but y (Dj.of_fresh ex309 f93).symm)
   have ex311 := (ex310.ext x100)
   have ex312 := ((((((((((((ex140.ext x185).ext x189).ext x193).ext x203).ext x208).ext x214).ext x225).ext x231).ext x242).but x250 (Dj.of_fresh ex73 f86).symm).but x259 (Dj.of_fresh ex310 f105).symm).but x269 (Dj.of_fresh ex311 f117).symm)
   have ex313 := ((((((((((((ex145.ext x185).ext x189).ext x193).ext x203).ext x208).ext x214).ext x225).ext x231).ext x242).but x250 (Dj.of_fresh ex123 f131)).but x259 (Dj.of_fresh ex124 f131)).but x269 (Dj.of_fresh ex116 f131))
   exact ⟨true, H, _, env_eq ⟨rfl, rfl, rfl, rfl, rfl, rfl, rfl, rfl, trivial⟩, X294, ex298, ex301, ex304, ex308, ex312, ex313⟩
  have H := H.2 hc285
  refine LP_ev ok 3 [(98, sl a132 r121 c133), (99, sl a75 r64 c76)] 5 rfl rfl ?_
  have ex315 := ((((((((((((ex145.ext x185).ext x189).ext x193).ext x203).ext x208).ext x214).ext x225).ext x231).ext x242).but x250 (Dj.of_fresh ex123 f131)).but x259 (Dj.of_fresh ex124 f131)).but x269 (Dj.of_fresh ex116 f131))
  have ex316 := (ex73.ext x81)
  have ex317 := (((ex73.ext x81).ext x91).but y (Dj.of_fresh ex316 f93).symm)
  have ex318 := (ex317.ext x100)
  have ex319 := ((((((((((((ex140.ext x185).ext x189).ext x193).ext x203).ext x208).ext x214).ext x225).ext x231).ext x242).but x250 (Dj.of_fresh ex73 f86).symm).but x259 (Dj.of_fresh ex317 f105).symm).but x269 (Dj.of_fresh ex318 f117).symm)
  refine LP_call 5 rfl rfl rfl cal_17 rfl (laws_eqIntS_w _ _ _ H wx268 o129.readf ex315 o72.readf ex319) ?_
  rintro _ wx320 ⟨r314, H, rfl, x321⟩
  refine LP_ev ok 6 [(101, .bool (!r314)), (102, .bool (!r314)), (103, .bool (!r314))] 9 rfl rfl ?_
  refine LP_split 103 (!r314) rfl (fun hc322 => ?_) (fun hc322 => ?_)
  ·have H := H.1 hc322
   refine LP_ev ok 9 [(104, undef), (105, undef), (106, undef), (107, .bool true)] 13 rfl rfl ?_
   refine LP_end _ rfl ?_
   have X324 := ((((((((X.stepx x).stepx x17).stepx x22).stepx x28).stepx x35).stepx x45).stepx x56).stepx x69)
   have f323 := f86.mono X324.size
   have X327 := (X324.stepx x81)
   have f326 := f93.mono X327.size
   have X328 := (((X324.stepx x81).stepx x91).step y (f326.dom _))
   have f325 := f105.mono X328.size
   have X330 := (X328.stepx x100)
   have f329 := f117.mono X330.size
   have X331 := (((((((((((((X146.stepx x185).stepx x189).stepx x193).stepx x203).stepx x208).stepx x214).stepx x225).stepx x231).stepx x242).step x250 (f323.dom _)).step x259 (f325.dom _)).step x269 (f329.dom _)).stepx x321)
   have ex332 := (ex79.ext x81)
   have ex333 := (((ex79.ext x81).ext x91).but y (Dj.of_fresh ex332 f93).symm)
   have ex334 := (ex333.ext x100)
   have ex335 := (((((((((((ex191.ext x193).ext x203).ext x208).ext x214).ext x225).ext x231).ext x242).but x250 (Dj.of_fresh ex79 f86).symm).but x259 (Dj.of_fresh ex333 f105).symm).but x269 (Dj.of_fresh ex334 f117).symm).ext x321)
   have ex336 := (((ex43.ext x45).ext x56).ext x69)
   have ex337 := (ex98.ext x100)
   have ex338 := ((((((((ex212.ext x214).ext x225).ext x231).ext x242).but x250 (Dj.of_fresh ex336 f86).symm).but x259 (Dj.of_fresh ex98 f105).symm).but x269 (Dj.of_fresh ex337 f117).symm).ext x321)
   have ex339 := ((ex54.ext x56).ext x69)
   have ex340 := ((ex109.ext x91).but y (Dj.of_fresh ex109 f93).symm)
   have ex341 := ((((((ex229.ext x231).ext x242).but x250 (Dj.of_fresh ex339 f86).symm).but x259 (Dj.of_fresh ex340 f105).symm).but x269 (Dj.of_fresh ex110 f117).symm).ext x321)
   have ex342 := (ex77.ext x81)
   have ex343 := (((ex77.ext x81).ext x91).but y (Dj.of_fresh ex342 f93).symm)
   have ex344 := (ex343.ext x100)
   have ex345 := ((((((((((((ex187.ext x189).ext x193).ext x203).ext x208).ext x214).ext x225).ext x231).ext x242).but x250 (Dj.of_fresh ex77 f86).symm).but x259 (Dj.of_fresh ex343 f105).symm).but x269 (Dj.of_fresh ex344 f117).symm).ext x321)
   have ex346 := (ex319.ext x321)
   have ex347 := (ex315.ext x321)
   exact ⟨true, H, _, env_eq ⟨rfl, rfl, rfl, rfl, rfl, rfl, rfl, rfl, trivial⟩, X331, ex335, ex338, ex341, ex345, ex346, ex347⟩
  have H := H.2 hc322
  refine LP_ev ok 9 [(104, .bool r122), (105, .bool r65), (106, .bool (r122 != r65)), (107, .bool (r122 != r65))] 13 rfl rfl ?_
  refine LP_end _ rfl ?_
  have X349 := ((((((((X.stepx x).stepx x17).stepx x22).stepx x28).stepx x35).stepx x45).stepx x56).stepx x69)
  have f348 := f86.mono X349.size
  have X352 := (X349.stepx x81)
  have f351 := f93.mono X352.size
  have X353 := (((X349.stepx x81).stepx x91).step y (f351.dom _))
  have f350 := f105.mono X353.size
  have X355 := (X353.stepx x100)
  have f354 := f117.mono X355.size
  have X356 := (((((((((((((X146.stepx x185).stepx x189).stepx x193).stepx x203).stepx x208).stepx x214).stepx x225).stepx x231).stepx x242).step x250 (f348.dom _)).step x259 (f350.dom _)).step x269 (f354.dom _)).stepx x321)
  have ex357 := (ex79.ext x81)
  have ex358 := (((ex79.ext x81).ext x91).but y (Dj.of_fresh ex357 f93).symm)
  have ex359 := (ex358.ext x100)
  have ex360 := (((((((((((ex191.ext x193).ext x203).ext x208).ext x214).ext x225).ext x231).ext x242).but x250 (Dj.of_fresh ex79 f86).symm).but x259 (Dj.of_fresh ex358 f105).symm).but x269 (Dj.of_fresh ex359 f117).symm).ext x321)
  have ex361 := (((ex43.ext x45).ext x56).ext x69)
  have ex362 := (ex98.ext x100)
  have ex363 := ((((((((ex212.ext x214).ext x225).ext x231).ext x242).but x250 (Dj.of_fresh ex361 f86).symm).but x259 (Dj.of_fresh ex98 f105).symm).but x269 (Dj.of_fresh ex362 f117).symm).ext x321)
  have ex364 := ((ex54.ext x56).ext x69)
  have ex365 := ((ex109.ext x91).but y (Dj.of_fresh ex109 f93).symm)
  have ex366 := ((((((ex229.ext x231).ext x242).but x250 (Dj.of_fresh ex364 f86).symm).but x259 (Dj.of_fresh ex365 f105).symm).but x269 (Dj.of_fresh ex110 f117).symm).ext x321)
  have ex367 := (ex77.ext x81)
  have ex368 := (((ex77.ext x81).ext x91).but y (Dj.of_fresh ex367 f93).symm)
  have ex369 := (ex368.ext x100)
  have ex370 := ((((((((((((ex187.ext x189).ext x193).ext x203).ext x208).ext x214).ext x225).ext x231).ext x242).but x250 (Dj.of_fresh ex77 f86).symm).but x259 (Dj.of_fresh ex368 f105).symm).but x269 (Dj.of_fresh ex369 f117).symm).ext x321)
  have ex371 := (ex319.ext x321)
  have ex372 := (ex315.ext x321)
  exact ⟨r122 != r65, H, _, env_eq ⟨rfl, rfl, rfl, rfl, rfl, rfl, rfl, rfl, trivial⟩, X356, ex360, ex363, ex366, ex370, ex371, ex372⟩
 rintro x274 _ wx275 ⟨H, ρ, rfl, HF⟩
 revert HF
 refine bb7 fun X282 ex276 ex277 ex278 ex279 ex280 ex281 => ?_
 subst hk284
 refine W_cond (x274) rfl (fun hc373 => ?_) (fun hc373 => ?_)
 ·have H := H.1 hc373
  refine W_seq ?_
  refine W_region ?_
  refine LP_ev ok 0 [(8, .bool false)] 1 rfl rfl ?_
  refine LP_end _ rfl ?_
  refine W_ret ?_
  exact ⟨_, Ret_of [.bool false] ⟨⟨rfl, rfl⟩, trivial⟩, _, H, rfl, X282.ext⟩
 have H := H.2 hc373
 refine W_skip ?_
 refine W_seq ?_
 refine W_region ?_
 refine LP_ev ok 0 [(18, I 1)] 1 rfl rfl ?_
 refine LP_end _ rfl ?_
 refine W_seq ?_
 refine W_region ?_
 refine LP_ev ok 0 [(108, sl a132 r121 c133), (109, I 1)] 2 rfl rfl ?_
 refine LP_call 2 rfl rfl rfl cal_24 rfl (laws_markIntS_w _ _ _ H wx275 o129 ex281) ?_
 rintro _ wx376 ⟨r374, r375, hx378, H, rfl, x377, o379, ex380, dm381⟩
 refine LP_ev ok 3 [(18, I r374)] 4 rfl rfl ?_
 refine LP_end _ rfl ?_
 refine W_seq ?_
 refine W_region ?_
 refine LP_ev ok 0 [(19, I 1)] 1 rfl rfl ?_
 refine LP_end _ rfl ?_
 refine W_seq ?_
 refine W_region ?_
 refine LP_ev ok 0 [(111, sl a132 r121 c133), (112, I 1)] 2 rfl rfl ?_
 refine LP_call 2 rfl rfl rfl cal_25 rfl (laws_heldIntS_w _ _ _ H wx376 o379.readf ex380) ?_
 rintro _ wx383 ⟨r382, H, rfl, x384⟩
 refine LP_ev ok 3 [(19, I r382)] 4 rfl rfl ?_
 refine LP_end _ rfl ?_
 refine W_seq ?_
 refine W_seq ?_
 refine W_region ?_
 refine LP_ev ok 0 [(114, I r382), (115, .bool (decide (r382 < 0)))] 2 rfl rfl ?_
 refine LP_end _ rfl ?_
 refine W_cond (decide (r382 < 0)) rfl (fun hc385 => ?_) (fun hc385 => ?_)
 ·have H := H.1 hc385
  refine W_seq ?_
  refine W_region ?_
  refine LP_ev ok 0 [(8, .bool false)] 1 rfl rfl ?_
  refine LP_end _ rfl ?_
  refine W_ret ?_
  have X388 := (((((((((X.stepx x).stepx x17).stepx x22).stepx x28).stepx x35).stepx x45).stepx x56).stepx x69).stepx x81)
  have f387 := f93.mono X388.size
  have X389 := (((((((((((((X.stepx x).stepx x17).stepx x22).stepx x28).stepx x35).stepx x45).stepx x56).stepx x69).stepx x81).stepx x91).step y (f387.dom _)).stepx x100).stepx x112)
  have f386 := f131.mono X389.size
  have X390 := ((X282.step x377 (f386.dom _)).stepx x384)
  exact ⟨_, Ret_of [.bool false] ⟨⟨rfl, rfl⟩, trivial⟩, _, H, rfl, X390.ext⟩
 have H := H.2 hc385
 refine W_skip ?_
 refine W_seq ?_
 refine W_seq ?_
 refine W_region ?_
 refine LP_ev ok 0 [(116, I r382), (117, I r374), (118, .bool (r382 != r374))] 3 rfl rfl ?_
 refine LP_end _ rfl ?_
 refine W_cond (r382 != r374) rfl (fun hc391 => ?_) (fun hc391 => ?_)
 ·have H := H.1 hc391
  refine W_seq ?_
  refine W_region ?_
  refine LP_ev ok 0 [(8, .bool false)] 1 rfl rfl ?_
  refine LP_end _ rfl ?_
  refine W_ret ?_
  have X394 := (((((((((X.stepx x).stepx x17).stepx x22).stepx x28).stepx x35).stepx x45).stepx x56).stepx x69).stepx x81)
  have f393 := f93.mono X394.size
  have X395 := (((((((((((((X.stepx x).stepx x17).stepx x22).stepx x28).stepx x35).stepx x45).stepx x56).stepx x69).stepx x81).stepx x91).step y (f393.dom _)).stepx x100).stepx x112)
  have f392 := f131.mono X395.size
  have X396 := ((X282.step x377 (f392.dom _)).stepx x384)
  exact ⟨_, Ret_of [.bool false] ⟨⟨rfl, rfl⟩, trivial⟩, _, H, rfl, X396.ext⟩
 have H := H.2 hc391
 refine W_skip ?_
 refine W_seq ?_
 refine W_region ?_
 have ex397 := (ex77.ext x81)
 have ex398 := (((((ex77.ext x81).ext x91).but y (Dj.of_fresh ex397 f93).symm).ext x100).ext x112)
 have ex399 := ((ex279.but x377 (Dj.of_fresh ex398 f131).symm).ext x384)
 refine LP_ldbox 0 (v := .agg #[sl a aG.Parents c]) rfl rfl rfl ti_24 ag_24 (fun h => by cases h) rfl ex399 rfl rfl ?_
 have ex401 := (ex79.ext x81)
 have ex402 := (((((ex79.ext x81).ext x91).but y (Dj.of_fresh ex401 f93).symm).ext x100).ext x112)
 have ex403 := ((ex276.but x377 (Dj.of_fresh ex402 f131).symm).ext x384)
 refine LP_call 1 rfl rfl rfl cal_13 rfl (laws_toGeo_w _ _ H wx383 r ex403) ?_
 rintro _ wx404 ⟨r400, vx406, hx407, H, rfl, x405, o408, ex409, f410⟩
 obtain ⟨a411, c412, rfl⟩ := o408.shape
 refine LP_ev ok 2 [(122, sl a5 aS c6)] 3 rfl rfl ?_
 have ex414 := ((ex98.ext x100).ext x112)
 have ex415 := (((ex277.but x377 (Dj.of_fresh ex414 f131).symm).ext x384).ext x405)
 refine LP_call 3 rfl rfl rfl cal_14 rfl (laws_toVariableS_w _ _ H wx404 r3 ex415) ?_
 rintro _ wx416 ⟨r413, vx418, hx419, H, rfl, x417, o420, ex421, f422⟩
 obtain ⟨a423, c424, rfl⟩ := o420.shape
 refine LP_ev ok 4 [(124, sl a11 aPubs c12)] 5 rfl rfl ?_
 have ex426 := (ex110.ext x112)
 have ex427 := ((((ex278.but x377 (Dj.of_fresh ex426 f131).symm).ext x384).ext x405).ext x417)
 refine LP_call 5 rfl rfl rfl cal_15 rfl (laws_toPublishedS_w _ _ H wx416 r9 ex427) ?_
 rintro _ wx428 ⟨r425, vx430, hx431, H, rfl, x429, o432, ex433, f434⟩
 obtain ⟨a435, c436, rfl⟩ := o432.shape
 refine LP_ev ok 6 [(126, I aN)] 7 rfl rfl ?_
 have ex439 := ((ex409.ext x417).ext x429)
 have ex440 := (ex421.ext x429)
 refine LP_call 7 rfl rfl rfl cal_29 rfl (impl_CertainTypes_w _ _ _ _ _ H wx428 o408.readf ex439 o420.readf ex440 o432.readf ex433) ?_
 rintro _ wx441 ⟨r437, r438, vx443, hx444, H, rfl, x442, o445, ex446, f447⟩
 obtain ⟨a448, c449, rfl⟩ := o445.shape
 refine LP_ev ok 8 [(119, .tuple #[sl a448 r437 c449, .bool r438]), (128, sl a448 r437 c449), (129, .bool r438), (20, sl a448 r437 c449), (21, .bool r438)] 13 rfl rfl ?_
 refine LP_end _ rfl ?_
 try refine W_forget [(10, sl a75 r64 c76), (11, .bool r65), (15, sl a132 r121 c133), (18, I r374), (20, sl a448 r437 c449), (21, .bool r438)] ⟨rfl, rfl, rfl, rfl, rfl, rfl, trivial⟩ fun ρ => ?_
 refine W_seq ?_
 obtain ⟨k454, hk455, H⟩ := jn_elim H
 refine W_join2 (S := Bool) (fun s ρ' w' => k454 s ∧ ∃ (ρ : Env), ρ' = setAll [(15, sl a132 r121 c133), (18, I r374), (138, .bool s)] ρ ∧ But emp w w' ∧ Sub hx378 w') ?_ ?_
 ·refine W_region ?_
  refine LP_ev ok 0 [(130, sl a448 r437 c449), (131, sl a75 r64 c76)] 2 rfl rfl ?_
  have ex457 := (ex73.ext x81)
  have ex458 := (((((ex73.ext x81).ext x91).but y (Dj.of_fresh ex457 f93).symm).ext x100).ext x112)
  have ex459 := ((((((ex280.but x377 (Dj.of_fresh ex458 f131).symm).ext x384).ext x405).ext x417).ext x429).ext x442)
  refine LP_call 2 rfl rfl rfl cal_17 rfl (laws_eqIntS_w _ _ _ H wx441 o445.readf ex446 o72.readf ex459) ?_
  rintro _ wx460 ⟨r456, H, rfl, x461⟩
  refine LP_ev ok 3 [(133, .bool (!r456)), (134, .bool (!r456))] 5 rfl rfl ?_
  refine LP_split 134 (!r456) rfl (fun hc462 => ?_) (fun hc462 => ?_)
  ·have H := H.1 hc462
   refine LP_ev ok 5 [(135, undef), (136, undef), (137, undef), (138, .bool true)] 9 rfl rfl ?_
   refine LP_end _ rfl ?_
   have X465 := (((((((((X.stepx x).stepx x17).stepx x22).stepx x28).stepx x35).stepx x45).stepx x56).stepx x69).stepx x81)
   have f464 := f93.mono X465.size
   have X466 := (((((((((((((X.stepx x).stepx x17).stepx x22).stepx x28).stepx x35).stepx x45).stepx x56).stepx x69).stepx x81).stepx x91).step y (f464.dom _)).stepx x100).stepx x112)
   have f463 := f131.mono X466.size
   have X467 := (((((((X282.step x377 (f463.dom _)).stepx x384).stepx x405).stepx x417).stepx x429).stepx x442).stepx x461)
   have ex468 := ((((((ex380.ext x384).ext x405).ext x417).ext x429).ext x442).ext x461)
   exact ⟨true, H, _, env_eq ⟨rfl, rfl, rfl, trivial⟩, X467, ex468⟩
  have H := H.2 hc462
  refine LP_ev ok 5 [(135, .bool r438), (136, .bool r65), (137, .bool (r438 != r65)), (138, .bool (r438 != r65))] 9 rfl rfl ?_
  refine LP_end _ rfl ?_
  have X471 := (((((((((X.stepx x).stepx x17).stepx x22).stepx x28).stepx x35).stepx x45).stepx x56).stepx x69).stepx x81)
  have f470 := f93.mono X471.size
  have X472 := (((((((((((((X.stepx x).stepx x17).stepx x22).stepx x28).stepx x35).stepx x45).stepx x56).stepx x69).stepx x81).stepx x91).step y (f470.dom _)).stepx x100).stepx x112)
  have f469 := f131.mono X472.size
  have X473 := (((((((X282.step x377 (f469.dom _)).stepx x384).stepx x405).stepx x417).stepx x429).stepx x442).stepx x461)
  have ex474 := ((((((ex380.ext x384).ext x405).ext x417).ext x429).ext x442).ext x461)
  exact ⟨r438 != r65, H, _, env_eq ⟨rfl, rfl, rfl, trivial⟩, X473, ex474⟩
 rintro x450 _ wx451 ⟨H, ρ, rfl, X453, ex452⟩
 subst hk455
 refine W_cond (x450) rfl (fun hc475 => ?_) (fun hc475 => ?_)
 ·have H := H.1 hc475
  refine W_seq ?_
  refine W_region ?_
  refine LP_ev ok 0 [(8, .bool false)] 1 rfl rfl ?_
  refine LP_end _ rfl ?_
  refine W_ret ?_
  exact ⟨_, Ret_of [.bool false] ⟨⟨rfl, rfl⟩, trivial⟩, _, H, rfl, X453.ext⟩
 have H := H.2 hc475
 refine W_skip ?_
 refine W_seq ?_
 refine W_region ?_
 refine LP_ev ok 0 [(19, I 1)] 1 rfl rfl ?_
 refine LP_end _ rfl ?_
 refine W_seq ?_
 refine W_region ?_
 refine LP_ev ok 0 [(139, sl a132 r121 c133), (140, I 1)] 2 rfl rfl ?_
 refine LP_call 2 rfl rfl rfl cal_25 rfl (laws_heldIntS_w _ _ _ H wx451 o379.readf ex452) ?_
 rintro _ wx477 ⟨r476, H, rfl, x478⟩
 refine LP_ev ok 3 [(19, I r476)] 4 rfl rfl ?_
 refine LP_end _ rfl ?_
 refine W_seq ?_
 refine W_seq ?_
 refine W_region ?_
 refine LP_ev ok 0 [(142, I r476), (143, .bool (decide (r476 < 0)))] 2 rfl rfl ?_
 refine LP_end _ rfl ?_
 refine W_cond (decide (r476 < 0)) rfl (fun hc479 => ?_) (fun hc479 => ?_)
 ·have H := H.1 hc479
  refine W_seq ?_
  refine W_region ?_
  refine LP_ev ok 0 [(8, .bool false)] 1 rfl rfl ?_
  refine LP_end _ rfl ?_
  refine W_ret ?_
  have X480 := (X453.stepx x478)
  exact ⟨_, Ret_of [.bool false] ⟨⟨rfl, rfl⟩, trivial⟩, _, H, rfl, X480.ext⟩
 have H := H.2 hc479
 refine W_skip ?_
 refine W_seq ?_
 refine W_seq ?_
 refine W_region ?_
 refine LP_ev ok 0 [(144, I r476), (145, I r374), (146, .bool (r476 != r374))] 3 rfl rfl ?_
 refine LP_end _ rfl ?_
 refine W_cond (r476 != r374) rfl (fun hc481 => ?_) (fun hc481 => ?_)
 ·have H := H.1 hc481
  refine W_seq ?_
  refine W_region ?_
  refine LP_ev ok 0 [(8, .bool false)] 1 rfl rfl ?_
  refine LP_end _ rfl ?_
  refine W_ret ?_
  have X482 := (X453.stepx x478)
  exact ⟨_, Ret_of [.bool false] ⟨⟨rfl, rfl⟩, trivial⟩, _, H, rfl, X482.ext⟩
 have H := H.2 hc481
 refine W_skip ?_
 refine W_seq ?_
 refine W_region ?_
 refine LP_ev ok 0 [(8, .bool true)] 1 rfl rfl ?_
 refine LP_end _ rfl ?_
 refine W_ret ?_
 have X483 := (X453.stepx x478)
 exact ⟨_, Ret_of [.bool true] ⟨⟨rfl, rfl⟩, trivial⟩, _, H, rfl, X483.ext⟩

end Go.Proofs.YtkebfmobfeponaaGreat
