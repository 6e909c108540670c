/- The walks, further. -/
import Derived.Test.YtkebfmobfeponaaAWalk2
set_option linter.unusedVariables false
set_option autoImplicit false
namespace Go.Proofs.Ytkebfmobfeponaa
open Go Go.RowKit Go.Gv

open Go.Proofs
set_option maxRecDepth 8000
set_option maxHeartbeats 4000000
theorem impl_search_from_impl_solutions_1_impl_ranges_1_impl_AnswerRange_1_w (x : Search) (c13 : Int) (c15 : List Int) (c26 : List Int) (c35 : List Int) (c46 : Int) (k : Int) (left : Int) (Q : Bool → (List Int) → (List Int) → Int → (List Int) → (List Int) → Prop) (H : impl_search_from_impl_solutions_1_impl_ranges_1_impl_AnswerRange_1 x c13 c15 c26 c35 c46 k left Q) (w : World) {vx : Value} {hx : PH} (r : RS hx vx x.Conditions) (ex : Sub hx w) {vx1 : Value} {hx2 : PH} (r3 : OS 3 hx2 emp vx1 x.Counts) (ex4 : Sub hx2 w) {vx7 : Value} {hx8 : PH} (r9 : OS 3 hx8 emp vx7 x.Sums) (ex10 : Sub hx8 w) {b : Nat} (ex14 : Sub (bx b 3 [I c13]) w) {vx16 : Value} {hx17 : PH} (r18 : RS hx17 vx16 c15) (ex19 : Sub hx17 w) {b22 : Nat} (ex23 : Sub (bx b22 22 [vx16]) w) {b24 : Nat} (ex25 : Sub (bx b24 65 [.func (.func 56) #[] #[pb b22]]) w) {vx27 : Value} {hx28 : PH} (r29 : OS 3 hx28 emp vx27 c26) (ex30 : Sub hx28 w) (cn : CanV vx27 c26) {b33 : Nat} (ex34 : Sub (bx b33 22 [vx27]) w) {vx36 : Value} {hx37 : PH} (r38 : OS 3 hx37 emp vx36 c35) (ex39 : Sub hx37 w) {b42 : Nat} (ex43 : Sub (bx b42 22 [vx36]) w) {b44 : Nat} (ex45 : Sub (bx b44 74 [.func (.func 90) #[] #[pb b24, pb b33, pb b42]]) w) {b47 : Nat} (ex48 : Sub (bx b47 3 [I c46]) w) {b49 : Nat} (ex50 : Sub (bx b49 103 [vx, vx1, vx7, .func (.func 64) #[] #[pb b, pb b44, pb b47]]) w) (d : Dj hx2 hx8) (d51 : Dj hx2 (bx b 3 [I c13])) (d52 : Dj hx2 hx28) (d53 : Dj hx2 (bx b33 22 [vx27])) (d54 : Dj hx2 hx37) (d55 : Dj hx2 (bx b42 22 [vx36])) (d56 : Dj hx2 (bx b49 103 [vx, vx1, vx7, .func (.func 64) #[] #[pb b, pb b44, pb b47]])) (d57 : Dj hx8 (bx b 3 [I c13])) (d58 : Dj hx8 hx28) (d59 : Dj hx8 (bx b33 22 [vx27])) (d60 : Dj hx8 hx37) (d61 : Dj hx8 (bx b42 22 [vx36])) (d62 : Dj hx8 (bx b49 103 [vx, vx1, vx7, .func (.func 64) #[] #[pb b, pb b44, pb b47]])) (d63 : Dj (bx b 3 [I c13]) hx28) (d64 : Dj (bx b 3 [I c13]) (bx b33 22 [vx27])) (d65 : Dj (bx b 3 [I c13]) hx37) (d66 : Dj (bx b 3 [I c13]) (bx b42 22 [vx36])) (d67 : Dj (bx b 3 [I c13]) (bx b49 103 [vx, vx1, vx7, .func (.func 64) #[] #[pb b, pb b44, pb b47]])) (d68 : Dj hx28 (bx b33 22 [vx27])) (d69 : Dj hx28 hx37) (d70 : Dj hx28 (bx b42 22 [vx36])) (d71 : Dj hx28 (bx b49 103 [vx, vx1, vx7, .func (.func 64) #[] #[pb b, pb b44, pb b47]])) (d72 : Dj (bx b33 22 [vx27]) hx37) (d73 : Dj (bx b33 22 [vx27]) (bx b42 22 [vx36])) (d74 : Dj (bx b33 22 [vx27]) (bx b49 103 [vx, vx1, vx7, .func (.func 64) #[] #[pb b, pb b44, pb b47]])) (d75 : Dj hx37 (bx b42 22 [vx36])) (d76 : Dj hx37 (bx b49 103 [vx, vx1, vx7, .func (.func 64) #[] #[pb b, pb b44, pb b47]])) (d77 : Dj (bx b42 22 [vx36]) (bx b49 103 [vx, vx1, vx7, .func (.func 64) #[] #[pb b, pb b44, pb b47]])) (d78 : Dj hx2 hx) (d79 : Dj hx2 hx17) (d80 : Dj hx2 (bx b22 22 [vx16])) (d81 : Dj hx2 (bx b24 65 [.func (.func 56) #[] #[pb b22]])) (d82 : Dj hx2 (bx b44 74 [.func (.func 90) #[] #[pb b24, pb b33, pb b42]])) (d83 : Dj hx2 (bx b47 3 [I c46])) (d84 : Dj hx8 hx) (d85 : Dj hx8 hx17) (d86 : Dj hx8 (bx b22 22 [vx16])) (d87 : Dj hx8 (bx b24 65 [.func (.func 56) #[] #[pb b22]])) (d88 : Dj hx8 (bx b44 74 [.func (.func 90) #[] #[pb b24, pb b33, pb b42]])) (d89 : Dj hx8 (bx b47 3 [I c46])) (d90 : Dj (bx b 3 [I c13]) hx) (d91 : Dj (bx b 3 [I c13]) hx17) (d92 : Dj (bx b 3 [I c13]) (bx b22 22 [vx16])) (d93 : Dj (bx b 3 [I c13]) (bx b24 65 [.func (.func 56) #[] #[pb b22]])) (d94 : Dj (bx b 3 [I c13]) (bx b44 74 [.func (.func 90) #[] #[pb b24, pb b33, pb b42]])) (d95 : Dj (bx b 3 [I c13]) (bx b47 3 [I c46])) (d96 : Dj hx28 hx) (d97 : Dj hx28 hx17) (d98 : Dj hx28 (bx b22 22 [vx16])) (d99 : Dj hx28 (bx b24 65 [.func (.func 56) #[] #[pb b22]])) (d100 : Dj hx28 (bx b44 74 [.func (.func 90) #[] #[pb b24, pb b33, pb b42]])) (d101 : Dj hx28 (bx b47 3 [I c46])) (d102 : Dj (bx b33 22 [vx27]) hx) (d103 : Dj (bx b33 22 [vx27]) hx17) (d104 : Dj (bx b33 22 [vx27]) (bx b22 22 [vx16])) (d105 : Dj (bx b33 22 [vx27]) (bx b24 65 [.func (.func 56) #[] #[pb b22]])) (d106 : Dj (bx b33 22 [vx27]) (bx b44 74 [.func (.func 90) #[] #[pb b24, pb b33, pb b42]])) (d107 : Dj (bx b33 22 [vx27]) (bx b47 3 [I c46])) (d108 : Dj hx37 hx) (d109 : Dj hx37 hx17) (d110 : Dj hx37 (bx b22 22 [vx16])) (d111 : Dj hx37 (bx b24 65 [.func (.func 56) #[] #[pb b22]])) (d112 : Dj hx37 (bx b44 74 [.func (.func 90) #[] #[pb b24, pb b33, pb b42]])) (d113 : Dj hx37 (bx b47 3 [I c46])) (d114 : Dj (bx b42 22 [vx36]) hx) (d115 : Dj (bx b42 22 [vx36]) hx17) (d116 : Dj (bx b42 22 [vx36]) (bx b22 22 [vx16])) (d117 : Dj (bx b42 22 [vx36]) (bx b24 65 [.func (.func 56) #[] #[pb b22]])) (d118 : Dj (bx b42 22 [vx36]) (bx b44 74 [.func (.func 90) #[] #[pb b24, pb b33, pb b42]])) (d119 : Dj (bx b42 22 [vx36]) (bx b47 3 [I c46])) (d120 : Dj (bx b49 103 [vx, vx1, vx7, .func (.func 64) #[] #[pb b, pb b44, pb b47]]) hx) (d121 : Dj (bx b49 103 [vx, vx1, vx7, .func (.func 64) #[] #[pb b, pb b44, pb b47]]) hx17) (d122 : Dj (bx b49 103 [vx, vx1, vx7, .func (.func 64) #[] #[pb b, pb b44, pb b47]]) (bx b22 22 [vx16])) (d123 : Dj (bx b49 103 [vx, vx1, vx7, .func (.func 64) #[] #[pb b, pb b44, pb b47]]) (bx b24 65 [.func (.func 56) #[] #[pb b22]])) (d124 : Dj (bx b49 103 [vx, vx1, vx7, .func (.func 64) #[] #[pb b, pb b44, pb b47]]) (bx b44 74 [.func (.func 90) #[] #[pb b24, pb b33, pb b42]])) (d125 : Dj (bx b49 103 [vx, vx1, vx7, .func (.func 64) #[] #[pb b, pb b44, pb b47]]) (bx b47 3 [I c46])) :
  CallsTo Try.prog 65 #[pb b49, I k, I left] w fun v w' => ∃ r0 m1 m2 m3_0 m4 m6 v1_ k1 v2_ k2 v4_ k4 v6_ k6, Q r0 m1 m2 m3_0 m4 m6 ∧ v = .bool r0 ∧ But (un hx2 (un hx8 (un (bx b 3 [I c13]) (un hx28 (un (bx b33 22 [vx27]) (un hx37 (un (bx b42 22 [vx36]) (bx b49 103 [vx, vx1, vx7, .func (.func 64) #[] #[pb b, pb b44, pb b47]])))))))) w w' ∧ OS 3 k1 emp v1_ m1 ∧ Sub k1 w' ∧ DomLe (un hx2 (un hx8 (un (bx b 3 [I c13]) (un hx28 (un (bx b33 22 [vx27]) (un hx37 (un (bx b42 22 [vx36]) (bx b49 103 [vx, vx1, vx7, .func (.func 64) #[] #[pb b, pb b44, pb b47]])))))))) w.heap.size k1 ∧ OS 3 k2 emp v2_ m2 ∧ Sub k2 w' ∧ DomLe (un hx2 (un hx8 (un (bx b 3 [I c13]) (un hx28 (un (bx b33 22 [vx27]) (un hx37 (un (bx b42 22 [vx36]) (bx b49 103 [vx, vx1, vx7, .func (.func 64) #[] #[pb b, pb b44, pb b47]])))))))) w.heap.size k2 ∧ Sub (bx b 3 [I m3_0]) w' ∧ OS 3 k4 emp v4_ m4 ∧ Sub k4 w' ∧ DomLe (un hx2 (un hx8 (un (bx b 3 [I c13]) (un hx28 (un (bx b33 22 [vx27]) (un hx37 (un (bx b42 22 [vx36]) (bx b49 103 [vx, vx1, vx7, .func (.func 64) #[] #[pb b, pb b44, pb b47]])))))))) w.heap.size k4 ∧ Sub (bx b33 22 [v4_]) w' ∧ OS 3 k6 emp v6_ m6 ∧ Sub k6 w' ∧ DomLe (un hx2 (un hx8 (un (bx b 3 [I c13]) (un hx28 (un (bx b33 22 [vx27]) (un hx37 (un (bx b42 22 [vx36]) (bx b49 103 [vx, vx1, vx7, .func (.func 64) #[] #[pb b, pb b44, pb b47]])))))))) w.heap.size k6 ∧ Sub (bx b42 22 [v6_]) w' ∧ Sub (bx b49 103 [vx, v1_, v2_, .func (.func 64) #[] #[pb b, pb b44, pb b47]]) w' ∧ Dj k1 k2 ∧ Dj k1 (bx b 3 [I m3_0]) ∧ Dj k1 k4 ∧ Dj k1 (bx b33 22 [v4_]) ∧ Dj k1 k6 ∧ Dj k1 (bx b42 22 [v6_]) ∧ Dj k1 (bx b49 103 [vx, v1_, v2_, .func (.func 64) #[] #[pb b, pb b44, pb b47]]) ∧ Dj k2 (bx b 3 [I m3_0]) ∧ Dj k2 k4 ∧ Dj k2 (bx b33 22 [v4_]) ∧ Dj k2 k6 ∧ Dj k2 (bx b42 22 [v6_]) ∧ Dj k2 (bx b49 103 [vx, v1_, v2_, .func (.func 64) #[] #[pb b, pb b44, pb b47]]) ∧ Dj (bx b 3 [I m3_0]) k4 ∧ Dj (bx b 3 [I m3_0]) k6 ∧ Dj k4 (bx b33 22 [v4_]) ∧ Dj k4 k6 ∧ Dj k4 (bx b42 22 [v6_]) ∧ Dj k4 (bx b49 103 [vx, v1_, v2_, .func (.func 64) #[] #[pb b, pb b44, pb b47]]) ∧ Dj (bx b33 22 [v4_]) k6 ∧ Dj k6 (bx b42 22 [v6_]) ∧ Dj k6 (bx b49 103 [vx, v1_, v2_, .func (.func 64) #[] #[pb b, pb b44, pb b47]]) ∧ CanV v4_ m4 := by
 obtain ⟨S, mu, H0, HS⟩ := H
 have key : ∀ (m : Nat) (x : Search) (c13 : Int) (c15 : List Int) (c26 : List Int) (c35 : List Int) (c46 : Int) (k : Int) (left : Int) (Q : Bool → (List Int) → (List Int) → Int → (List Int) → (List Int) → Prop), S x c13 c15 c26 c35 c46 k left Q → mu x c13 c15 c26 c35 c46 k left < m → ∀ (w : World) {vx : Value} {hx : PH} (r : RS hx vx x.Conditions) (ex : Sub hx w) {vx1 : Value} {hx2 : PH} (r3 : OS 3 hx2 emp vx1 x.Counts) (ex4 : Sub hx2 w) {vx7 : Value} {hx8 : PH} (r9 : OS 3 hx8 emp vx7 x.Sums) (ex10 : Sub hx8 w) {b : Nat} (ex14 : Sub (bx b 3 [I c13]) w) {vx16 : Value} {hx17 : PH} (r18 : RS hx17 vx16 c15) (ex19 : Sub hx17 w) {b22 : Nat} (ex23 : Sub (bx b22 22 [vx16]) w) {b24 : Nat} (ex25 : Sub (bx b24 65 [.func (.func 56) #[] #[pb b22]]) w) {vx27 : Value} {hx28 : PH} (r29 : OS 3 hx28 emp vx27 c26) (ex30 : Sub hx28 w) (cn : CanV vx27 c26) {b33 : Nat} (ex34 : Sub (bx b33 22 [vx27]) w) {vx36 : Value} {hx37 : PH} (r38 : OS 3 hx37 emp vx36 c35) (ex39 : Sub hx37 w) {b42 : Nat} (ex43 : Sub (bx b42 22 [vx36]) w) {b44 : Nat} (ex45 : Sub (bx b44 74 [.func (.func 90) #[] #[pb b24, pb b33, pb b42]]) w) {b47 : Nat} (ex48 : Sub (bx b47 3 [I c46]) w) {b49 : Nat} (ex50 : Sub (bx b49 103 [vx, vx1, vx7, .func (.func 64) #[] #[pb b, pb b44, pb b47]]) w) (d : Dj hx2 hx8) (d51 : Dj hx2 (bx b 3 [I c13])) (d52 : Dj hx2 hx28) (d53 : Dj hx2 (bx b33 22 [vx27])) (d54 : Dj hx2 hx37) (d55 : Dj hx2 (bx b42 22 [vx36])) (d56 : Dj hx2 (bx b49 103 [vx, vx1, vx7, .func (.func 64) #[] #[pb b, pb b44, pb b47]])) (d57 : Dj hx8 (bx b 3 [I c13])) (d58 : Dj hx8 hx28) (d59 : Dj hx8 (bx b33 22 [vx27])) (d60 : Dj hx8 hx37) (d61 : Dj hx8 (bx b42 22 [vx36])) (d62 : Dj hx8 (bx b49 103 [vx, vx1, vx7, .func (.func 64) #[] #[pb b, pb b44, pb b47]])) (d63 : Dj (bx b 3 [I c13]) hx28) (d64 : Dj (bx b 3 [I c13]) (bx b33 22 [vx27])) (d65 : Dj (bx b 3 [I c13]) hx37) (d66 : Dj (bx b 3 [I c13]) (bx b42 22 [vx36])) (d67 : Dj (bx b 3 [I c13]) (bx b49 103 [vx, vx1, vx7, .func (.func 64) #[] #[pb b, pb b44, pb b47]])) (d68 : Dj hx28 (bx b33 22 [vx27])) (d69 : Dj hx28 hx37) (d70 : Dj hx28 (bx b42 22 [vx36])) (d71 : Dj hx28 (bx b49 103 [vx, vx1, vx7, .func (.func 64) #[] #[pb b, pb b44, pb b47]])) (d72 : Dj (bx b33 22 [vx27]) hx37) (d73 : Dj (bx b33 22 [vx27]) (bx b42 22 [vx36])) (d74 : Dj (bx b33 22 [vx27]) (bx b49 103 [vx, vx1, vx7, .func (.func 64) #[] #[pb b, pb b44, pb b47]])) (d75 : Dj hx37 (bx b42 22 [vx36])) (d76 : Dj hx37 (bx b49 103 [vx, vx1, vx7, .func (.func 64) #[] #[pb b, pb b44, pb b47]])) (d77 : Dj (bx b42 22 [vx36]) (bx b49 103 [vx, vx1, vx7, .func (.func 64) #[] #[pb b, pb b44, pb b47]])) (d78 : Dj hx2 hx) (d79 : Dj hx2 hx17) (d80 : Dj hx2 (bx b22 22 [vx16])) (d81 : Dj hx2 (bx b24 65 [.func (.func 56) #[] #[pb b22]])) (d82 : Dj hx2 (bx b44 74 [.func (.func 90) #[] #[pb b24, pb b33, pb b42]])) (d83 : Dj hx2 (bx b47 3 [I c46])) (d84 : Dj hx8 hx) (d85 : Dj hx8 hx17) (d86 : Dj hx8 (bx b22 22 [vx16])) (d87 : Dj hx8 (bx b24 65 [.func (.func 56) #[] #[pb b22]])) (d88 : Dj hx8 (bx b44 74 [.func (.func 90) #[] #[pb b24, pb b33, pb b42]])) (d89 : Dj hx8 (bx b47 3 [I c46])) (d90 : Dj (bx b 3 [I c13]) hx) (d91 : Dj (bx b 3 [I c13]) hx17) (d92 : Dj (bx b 3 [I c13]) (bx b22 22 [vx16])) (d93 : Dj (bx b 3 [I c13]) (bx b24 65 [.func (.func 56) #[] #[pb b22]])) (d94 : Dj (bx b 3 [I c13]) (bx b44 74 [.func (.func 90) #[] #[pb b24, pb b33, pb b42]])) (d95 : Dj (bx b 3 [I c13]) (bx b47 3 [I c46])) (d96 : Dj hx28 hx) (d97 : Dj hx28 hx17) (d98 : Dj hx28 (bx b22 22 [vx16])) (d99 : Dj hx28 (bx b24 65 [.func (.func 56) #[] #[pb b22]])) (d100 : Dj hx28 (bx b44 74 [.func (.func 90) #[] #[pb b24, pb b33, pb b42]])) (d101 : Dj hx28 (bx b47 3 [I c46])) (d102 : Dj (bx b33 22 [vx27]) hx) (d103 : Dj (bx b33 22 [vx27]) hx17) (d104 : Dj (bx b33 22 [vx27]) (bx b22 22 [vx16])) (d105 : Dj (bx b33 22 [vx27]) (bx b24 65 [.func (.func 56) #[] #[pb b22]])) (d106 : Dj (bx b33 22 [vx27]) (bx b44 74 [.func (.func 90) #[] #[pb b24, pb b33, pb b42]])) (d107 : Dj (bx b33 22 [vx27]) (bx b47 3 [I c46])) (d108 : Dj hx37 hx) (d109 : Dj hx37 hx17) (d110 : Dj hx37 (bx b22 22 [vx16])) (d111 : Dj hx37 (bx b24 65 [.func (.func 56) #[] #[pb b22]])) (d112 : Dj hx37 (bx b44 74 [.func (.func 90) #[] #[pb b24, pb b33, pb b42]])) (d113 : Dj hx37 (bx b47 3 [I c46])) (d114 : Dj (bx b42 22 [vx36]) hx) (d115 : Dj (bx b42 22 [vx36]) hx17) (d116 : Dj (bx b42 22 [vx36]) (bx b22 22 [vx16])) (d117 : Dj (bx b42 22 [vx36]) (bx b24 65 [.func (.func 56) #[] #[pb b22]])) (d118 : Dj (bx b42 22 [vx36]) (bx b44 74 [.func (.func 90) #[] #[pb b24, pb b33, pb b42]])) (d119 : Dj (bx b42 22 [vx36]) (bx b47 3 [I c46])) (d120 : Dj (bx b49 103 [vx, vx1, vx7, .func (.func 64) #[] #[pb b, pb b44, pb b47]]) hx) (d121 : Dj (bx b49 103 [vx, vx1, vx7, .func (.func 64) #[] #[pb b, pb b44, pb b47]]) hx17) (d122 : Dj (bx b49 103 [vx, vx1, vx7, .func (.func 64) #[] #[pb b, pb b44, pb b47]]) (bx b22 22 [vx16])) (d123 : Dj (bx b49 103 [vx, vx1, vx7, .func (.func 64) #[] #[pb b, pb b44, pb b47]]) (bx b24 65 [.func (.func 56) #[] #[pb b22]])) (d124 : Dj (bx b49 103 [vx, vx1, vx7, .func (.func 64) #[] #[pb b, pb b44, pb b47]]) (bx b44 74 [.func (.func 90) #[] #[pb b24, pb b33, pb b42]])) (d125 : Dj (bx b49 103 [vx, vx1, vx7, .func (.func 64) #[] #[pb b, pb b44, pb b47]]) (bx b47 3 [I c46])), CallsTo Try.prog 65 #[pb b49, I k, I left] w fun v w' => ∃ r0 m1 m2 m3_0 m4 m6 v1_ k1 v2_ k2 v4_ k4 v6_ k6, Q r0 m1 m2 m3_0 m4 m6 ∧ v = .bool r0 ∧ But (un hx2 (un hx8 (un (bx b 3 [I c13]) (un hx28 (un (bx b33 22 [vx27]) (un hx37 (un (bx b42 22 [vx36]) (bx b49 103 [vx, vx1, vx7, .func (.func 64) #[] #[pb b, pb b44, pb b47]])))))))) w w' ∧ OS 3 k1 emp v1_ m1 ∧ Sub k1 w' ∧ DomLe (un hx2 (un hx8 (un (bx b 3 [I c13]) (un hx28 (un (bx b33 22 [vx27]) (un hx37 (un (bx b42 22 [vx36]) (bx b49 103 [vx, vx1, vx7, .func (.func 64) #[] #[pb b, pb b44, pb b47]])))))))) w.heap.size k1 ∧ OS 3 k2 emp v2_ m2 ∧ Sub k2 w' ∧ DomLe (un hx2 (un hx8 (un (bx b 3 [I c13]) (un hx28 (un (bx b33 22 [vx27]) (un hx37 (un (bx b42 22 [vx36]) (bx b49 103 [vx, vx1, vx7, .func (.func 64) #[] #[pb b, pb b44, pb b47]])))))))) w.heap.size k2 ∧ Sub (bx b 3 [I m3_0]) w' ∧ OS 3 k4 emp v4_ m4 ∧ Sub k4 w' ∧ DomLe (un hx2 (un hx8 (un (bx b 3 [I c13]) (un hx28 (un (bx b33 22 [vx27]) (un hx37 (un (bx b42 22 [vx36]) (bx b49 103 [vx, vx1, vx7, .func (.func 64) #[] #[pb b, pb b44, pb b47]])))))))) w.heap.size k4 ∧ Sub (bx b33 22 [v4_]) w' ∧ OS 3 k6 emp v6_ m6 ∧ Sub k6 w' ∧ DomLe (un hx2 (un hx8 (un (bx b 3 [I c13]) (un hx28 (un (bx b33 22 [vx27]) (un hx37 (un (bx b42 22 [vx36]) (bx b49 103 [vx, vx1, vx7, .func (.func 64) #[] #[pb b, pb b44, pb b47]])))))))) w.heap.size k6 ∧ Sub (bx b42 22 [v6_]) w' ∧ Sub (bx b49 103 [vx, v1_, v2_, .func (.func 64) #[] #[pb b, pb b44, pb b47]]) w' ∧ Dj k1 k2 ∧ Dj k1 (bx b 3 [I m3_0]) ∧ Dj k1 k4 ∧ Dj k1 (bx b33 22 [v4_]) ∧ Dj k1 k6 ∧ Dj k1 (bx b42 22 [v6_]) ∧ Dj k1 (bx b49 103 [vx, v1_, v2_, .func (.func 64) #[] #[pb b, pb b44, pb b47]]) ∧ Dj k2 (bx b 3 [I m3_0]) ∧ Dj k2 k4 ∧ Dj k2 (bx b33 22 [v4_]) ∧ Dj k2 k6 ∧ Dj k2 (bx b42 22 [v6_]) ∧ Dj k2 (bx b49 103 [vx, v1_, v2_, .func (.func 64) #[] #[pb b, pb b44, pb b47]]) ∧ Dj (bx b 3 [I m3_0]) k4 ∧ Dj (bx b 3 [I m3_0]) k6 ∧ Dj k4 (bx b33 22 [v4_]) ∧ Dj k4 k6 ∧ Dj k4 (bx b42 22 [v6_]) ∧ Dj k4 (bx b49 103 [vx, v1_, v2_, .func (.func 64) #[] #[pb b, pb b44, pb b47]]) ∧ Dj (bx b33 22 [v4_]) k6 ∧ Dj k6 (bx b42 22 [v6_]) ∧ Dj k6 (bx b49 103 [vx, v1_, v2_, .func (.func 64) #[] #[pb b, pb b44, pb b47]]) ∧ CanV v4_ m4 := by
  intro m
  induction m with
  | zero => intro x c13 c15 c26 c35 c46 k left Q _ hm; exact absurd hm (Nat.not_lt_zero _)
  | succ m ih =>
   intro x c13 c15 c26 c35 c46 k left Q H0 hm w vx hx r ex vx1 hx2 r3 ex4 vx7 hx8 r9 ex10 b ex14 vx16 hx17 r18 ex19 b22 ex23 b24 ex25 vx27 hx28 r29 ex30 cn b33 ex34 vx36 hx37 r38 ex39 b42 ex43 b44 ex45 b47 ex48 b49 ex50 d d51 d52 d53 d54 d55 d56 d57 d58 d59 d60 d61 d62 d63 d64 d65 d66 d67 d68 d69 d70 d71 d72 d73 d74 d75 d76 d77 d78 d79 d80 d81 d82 d83 d84 d85 d86 d87 d88 d89 d90 d91 d92 d93 d94 d95 d96 d97 d98 d99 d100 d101 d102 d103 d104 d105 d106 d107 d108 d109 d110 d111 d112 d113 d114 d115 d116 d117 d118 d119 d120 d121 d122 d123 d124 d125
   have H := HS x c13 c15 c26 c35 c46 k left Q H0
   obtain ⟨a, c, rfl⟩ := r.shape
   obtain ⟨a5, c6, rfl⟩ := r3.shape
   obtain ⟨a11, c12, rfl⟩ := r9.shape
   obtain ⟨a20, c21, rfl⟩ := r18.shape
   obtain ⟨a31, c32, rfl⟩ := r29.shape
   obtain ⟨a40, c41, rfl⟩ := r38.shape
   refine enter (args := [pb b49, I k, I left]) 110 Try.func65 rfl rfl rfl ?_
   refine W_forget [(0, pb b49), (1, I k), (2, I left)] ⟨rfl, rfl, rfl, trivial⟩ fun ρ => ?_
   obtain ⟨M, hM⟩ : ∃ M : PH, M = (un hx2 (un hx8 (un (bx b 3 [I c13]) (un hx28 (un (bx b33 22 [sl a31 c26 c32]) (un hx37 (un (bx b42 22 [sl a40 c35 c41]) (bx b49 103 [sl a x.Conditions c, sl a5 x.Counts c6, sl a11 x.Sums c12, .func (.func 64) #[] #[pb b, pb b44, pb b47]])))))))) := ⟨_, rfl⟩
   have D : Dom M hx2 := by subst hM; exact (Dom.l _ _)
   have D126 : Dom M hx8 := by subst hM; exact (Dom.trans (Dom.r _ _) (Dom.l _ _))
   have D127 : Dom M (bx b 3 [I c13]) := by subst hM; exact (Dom.trans (Dom.r _ _) (Dom.trans (Dom.r _ _) (Dom.l _ _)))
   have D128 : Dom M hx28 := by subst hM; exact (Dom.trans (Dom.r _ _) (Dom.trans (Dom.r _ _) (Dom.trans (Dom.r _ _) (Dom.l _ _))))
   have D129 : Dom M (bx b33 22 [sl a31 c26 c32]) := by subst hM; exact (Dom.trans (Dom.r _ _) (Dom.trans (Dom.r _ _) (Dom.trans (Dom.r _ _) (Dom.trans (Dom.r _ _) (Dom.l _ _)))))
   have D130 : Dom M hx37 := by subst hM; exact (Dom.trans (Dom.r _ _) (Dom.trans (Dom.r _ _) (Dom.trans (Dom.r _ _) (Dom.trans (Dom.r _ _) (Dom.trans (Dom.r _ _) (Dom.l _ _))))))
   have D131 : Dom M (bx b42 22 [sl a40 c35 c41]) := by subst hM; exact (Dom.trans (Dom.r _ _) (Dom.trans (Dom.r _ _) (Dom.trans (Dom.r _ _) (Dom.trans (Dom.r _ _) (Dom.trans (Dom.r _ _) (Dom.trans (Dom.r _ _) (Dom.l _ _)))))))
   have D132 : Dom M (bx b49 103 [sl a x.Conditions c, sl a5 x.Counts c6, sl a11 x.Sums c12, .func (.func 64) #[] #[pb b, pb b44, pb b47]]) := by subst hM; exact (Dom.trans (Dom.r _ _) (Dom.trans (Dom.r _ _) (Dom.trans (Dom.r _ _) (Dom.trans (Dom.r _ _) (Dom.trans (Dom.r _ _) (Dom.trans (Dom.r _ _) (Dom.trans (Dom.r _ _) (Dom.refl _))))))))
   have X := But.refl M w
   refine W_seq ?_
   refine W_region ?_
   refine LP_ev ok 0 [(6, .bool false)] 1 rfl rfl ?_
   refine LP_end _ rfl ?_
   refine W_seq ?_
   refine W_seq ?_
   refine W_region ?_
   refine LP_ev ok 0 [(14, I k), (15, pb b49), (16, pb b49), (17, .pointer (some ⟨b49, 1, none⟩))] 4 rfl rfl ?_
   refine LP_ldbox 4 (v := sl a5 x.Counts c6) rfl rfl rfl ti_22 ag_22 (fun _ => rfl) rfl ex50 rfl rfl ?_
   refine LP_ev ok 5 [(19, I (ln x.Counts)), (20, .bool (k == (ln x.Counts)))] 7 rfl rfl ?_
   refine LP_end _ rfl ?_
   refine W_cond (k == (ln x.Counts)) rfl (fun hc => ?_) (fun hc => ?_)
   ·have H := H.1 hc
    refine W_seq ?_
    refine W_seq ?_
    refine W_region ?_
    refine LP_ev ok 0 [(21, I left), (22, .bool (decide (left > 0)))] 2 rfl rfl ?_
    refine LP_end _ rfl ?_
    refine W_cond (decide (left > 0)) rfl (fun hc133 => ?_) (fun hc133 => ?_)
    ·have H := H.1 hc133
     refine W_seq ?_
     refine W_region ?_
     refine LP_ev ok 0 [(6, .bool true)] 1 rfl rfl ?_
     refine LP_end _ rfl ?_
     refine W_ret ?_
     subst hM
     exact ⟨_, Ret_of [.bool true] ⟨⟨rfl, rfl⟩, trivial⟩, _, _, _, _, _, _, _, _, _, _, _, _, _, _, H, rfl, X, r3, ex4, (Dom.le D _), r9, ex10, (Dom.le D126 _), ex14, r29, ex30, (Dom.le D128 _), ex34, r38, ex39, (Dom.le D130 _), ex43, ex50, d, d51, d52, d53, d54, d55, d56, d57, d58, d59, d60, d61, d62, d63, d65, d68, d69, d70, d71, d72, d75, d76, cn⟩
    have H := H.2 hc133
    refine W_skip ?_
    refine W_seq ?_
    refine W_seq ?_
    refine W_region ?_
    refine LP_ev ok 0 [(23, pb b49), (24, pb b49), (25, pb b49)] 3 rfl rfl ?_
    refine LP_ldbox 3 (v := sl a x.Conditions c) rfl rfl rfl ti_99 ag_99 (fun _ => rfl) rfl ex50 rfl rfl ?_
    refine LP_ev ok 4 [(27, I (ln x.Conditions)), (28, I 0)] 6 rfl rfl ?_
    refine LP_end _ rfl ?_
    refine W_block ?_
    obtain ⟨J, m150, Hx, H⟩ := H
    refine W_loop (S := Int) (fun s ρ' w' => J s ∧ ∃ (ρ : Env), ρ' = setAll [(0, pb b49), (26, sl a x.Conditions c), (27, I (ln x.Conditions)), (28, I s)] ρ ∧ But M w w' ∧ Sub hx w' ∧ Sub hx2 w' ∧ Sub hx8 w' ∧ Sub (bx b 3 [I c13]) w' ∧ Sub hx17 w' ∧ Sub (bx b22 22 [sl a20 c15 c21]) w' ∧ Sub (bx b24 65 [.func (.func 56) #[] #[pb b22]]) w' ∧ Sub hx28 w' ∧ Sub (bx b33 22 [sl a31 c26 c32]) w' ∧ Sub hx37 w' ∧ Sub (bx b42 22 [sl a40 c35 c41]) w' ∧ Sub (bx b44 74 [.func (.func 90) #[] #[pb b24, pb b33, pb b42]]) w' ∧ Sub (bx b47 3 [I c46]) w' ∧ Sub (bx b49 103 [sl a x.Conditions c, sl a5 x.Counts c6, sl a11 x.Sums c12, .func (.func 64) #[] #[pb b, pb b44, pb b47]]) w') (fun s => m150 s) 0 ⟨Hx, _, env_eq ⟨rfl, rfl, rfl, rfl, trivial⟩, X, ex, ex4, ex10, ex14, ex19, ex23, ex25, ex30, ex34, ex39, ex43, ex45, ex48, ex50⟩ ?_
    rintro x134 _ wx ⟨Hi, ρ, rfl, HF⟩
    revert HF
    refine bb9 fun X149 ex135 ex136 ex137 ex138 ex139 ex140 ex141 => ?_
    refine bb7 fun ex142 ex143 ex144 ex145 ex146 ex147 ex148 => ?_
    have H := H x134 Hi
    refine W_seq ?_
    refine W_region ?_
    refine LP_ev ok 0 [(29, .bool (decide (x134 < (ln x.Conditions))))] 1 rfl rfl ?_
    refine LP_end _ rfl ?_
    refine W_seq ?_
    refine W_cond (decide (x134 < (ln x.Conditions))) rfl (fun hc151 => ?_) (fun hc151 => ?_)
    ·have H := H.1 hc151
     refine W_skip ?_
     refine W_seq ?_
     refine W_block ?_
     refine W_seq ?_
     refine W_region ?_
     refine LP_ev ok 0 [(30, I x134)] 1 rfl rfl ?_
     obtain ⟨x152, hi, hx153, H⟩ := H
     refine LP_index 1 rfl rfl rfl Try.underlying99 ti_124 rfl rfl r hi hx153 fun a154 cs r155 d156 => ?_
     have d157 := d156
     obtain ⟨u, rfl, r158⟩ := Condition_rd d157
     obtain ⟨a159, c160, rfl⟩ := r158.shape
     refine LP_load 2 rfl rfl rfl ti_124 ag_124 rfl r155 d156 ex135 fun vx161 r162 => ?_
     obtain ⟨u163, rfl, r164⟩ := Condition_rv r162
     obtain ⟨a165, c166, rfl⟩ := r164.shape
     refine LP_alloc 3 rfl rfl rfl ti_124 rfl fun b167 wx168 x169 ex170 f => ?_
     refine LP_ev ok 4 [(7, I x134)] 5 rfl rfl ?_
     refine LP_stbox 5 (vs := [sl a165 x152.Amounts c166, I x152.Value]) (cs' := [sl a165 x152.Amounts c166, I x152.Value]) rfl rfl rfl ti_124 rfl rfl rfl rfl rfl ex170 rfl rfl fun wx171 ex172 y => ?_
     refine LP_end _ rfl ?_
     refine W_seq ?_
     refine W_quiet mix (by kernel_rfl) ?_
     refine QP_ev ok 0 [(33, pb b49), (34, pb b49), (35, .pointer (some ⟨b49, 2, none⟩))] 3 rfl rfl ?_
     have ex173 := ((ex148.ext x169).but y (Dj.of_fresh ex148 f).symm)
     refine QP_ldbox 3 (v := sl a11 x.Sums c12) rfl rfl rfl ti_22 ag_22 (fun _ => rfl) rfl ex173 rfl rfl ?_
     refine QP_ev ok 4 [(37, I x134)] 5 rfl rfl ?_
     obtain ⟨x174, hi175, hx176, H⟩ := H
     refine QP_index 5 rfl rfl rfl Try.underlying22 ti_3 rfl rfl r9.readf hi175 hx176 fun a177 cs178 r179 d180 => ?_
     have ex181 := ((ex137.ext x169).but y (Dj.of_fresh ex137 f).symm)
     refine QP_load 6 rfl rfl rfl ti_3 ag_3 rfl r179 d180 ex181 fun vx182 r183 => ?_
     obtain rfl := r183.int
     refine QP_ev ok 7 [(40, .pointer (some ⟨b167, 1, none⟩))] 8 rfl rfl ?_
     refine QP_ldbox 8 (v := I x152.Value) rfl rfl rfl ti_3 ag_3 (fun _ => rfl) rfl ex172 rfl rfl ?_
     refine QP_ev ok 9 [(42, .bool (x174 != x152.Value))] 10 rfl rfl ?_
     refine QP_end _ rfl fun wx184 x185 => ?_
     refine W_cond (x174 != x152.Value) rfl (fun hc186 => ?_) (fun hc186 => ?_)
     ·have H := H.1 hc186
      refine W_seq ?_
      refine W_region ?_
      refine LP_ev ok 0 [(6, .bool true)] 1 rfl rfl ?_
      refine LP_end _ rfl ?_
      refine W_ret ?_
      have ex187 := (((ex136.ext x169).but y (Dj.of_fresh ex136 f).symm).ext x185)
      have ex188 := (ex181.ext x185)
      have ex189 := (((ex138.ext x169).but y (Dj.of_fresh ex138 f).symm).ext x185)
      have ex190 := (((ex142.ext x169).but y (Dj.of_fresh ex142 f).symm).ext x185)
      have ex191 := (((ex143.ext x169).but y (Dj.of_fresh ex143 f).symm).ext x185)
      have ex192 := (((ex144.ext x169).but y (Dj.of_fresh ex144 f).symm).ext x185)
      have ex193 := (((ex145.ext x169).but y (Dj.of_fresh ex145 f).symm).ext x185)
      have ex194 := (ex173.ext x185)
      have f195 := f.mono X149.size
      have X196 := (((X149.stepx x169).step y (f195.dom _)).stepx x185)
      subst hM
      exact ⟨_, Ret_of [.bool true] ⟨⟨rfl, rfl⟩, trivial⟩, _, _, _, _, _, _, _, _, _, _, _, _, _, _, H, rfl, X196, r3, ex187, (Dom.le D _), r9, ex188, (Dom.le D126 _), ex189, r29, ex190, (Dom.le D128 _), ex191, r38, ex192, (Dom.le D130 _), ex193, ex194, d, d51, d52, d53, d54, d55, d56, d57, d58, d59, d60, d61, d62, d63, d65, d68, d69, d70, d71, d72, d75, d76, cn⟩
     have H := H.2 hc186
     refine W_skip ?_
     refine W_region ?_
     refine LP_ev ok 0 [(43, I (wr (x134 + 1))), (28, I (wr (x134 + 1)))] 2 rfl rfl ?_
     refine LP_end _ rfl ?_
     have f197 := f.mono X149.size
     have X198 := (((X149.stepx x169).step y (f197.dom _)).stepx x185)
     have ex199 := (((ex135.ext x169).but y (Dj.of_fresh ex135 f).symm).ext x185)
     have ex200 := (((ex136.ext x169).but y (Dj.of_fresh ex136 f).symm).ext x185)
     have ex201 := (ex181.ext x185)
     have ex202 := (((ex138.ext x169).but y (Dj.of_fresh ex138 f).symm).ext x185)
     have ex203 := (((ex139.ext x169).but y (Dj.of_fresh ex139 f).symm).ext x185)
     have ex204 := (((ex140.ext x169).but y (Dj.of_fresh ex140 f).symm).ext x185)
     have ex205 := (((ex141.ext x169).but y (Dj.of_fresh ex141 f).symm).ext x185)
     have ex206 := (((ex142.ext x169).but y (Dj.of_fresh ex142 f).symm).ext x185)
     have ex207 := (((ex143.ext x169).but y (Dj.of_fresh ex143 f).symm).ext x185)
     have ex208 := (((ex144.ext x169).but y (Dj.of_fresh ex144 f).symm).ext x185)
     have ex209 := (((ex145.ext x169).but y (Dj.of_fresh ex145 f).symm).ext x185)
     have ex210 := (((ex146.ext x169).but y (Dj.of_fresh ex146 f).symm).ext x185)
     have ex211 := (((ex147.ext x169).but y (Dj.of_fresh ex147 f).symm).ext x185)
     have ex212 := (ex173.ext x185)
     exact ⟨wr (x134 + 1), ⟨H.1, _, env_eq ⟨rfl, rfl, rfl, rfl, trivial⟩, X198, ex199, ex200, ex201, ex202, ex203, ex204, ex205, ex206, ex207, ex208, ex209, ex210, ex211, ex212⟩, H.2⟩
    have H := H.2 hc151
    refine W_exit ?_
    refine (if_pos rfl).mpr ?_
    refine W_seq ?_
    refine W_open mix fun wx213 x214 => ?_
    refine AP_game 8 [[], [0], [0, 1], [0, 1, 2], [], [4], [4, 5], [4, 5, 6], [0, 1, 2, 3, 4, 5, 6, 7], [0, 1, 2, 3, 4, 5, 6, 7, 8]] [[(0, none)], [(44, some 0)], [(45, some 1)], [(46, some 2)], [(0, none)], [(48, some 4)], [(49, some 5)], [(50, some 6)]] [(47, some 3), (51, some 7)] [(0, false), (1, false), (2, false), (3, false), (4, false), (5, false), (6, false), (7, false)] (by kernel_rfl) (by kernel_rfl) ?_
    refine GS_ev ok [(0, pb b49)] (pb b49) rfl rfl (fun _ h => h) (fun _ => rfl) ?_
    refine GS_ev ok [(44, pb b49)] (pb b49) rfl rfl (fun _ h => h) (fun _ => rfl) ?_
    refine GS_ev ok [(45, pb b49)] (.pointer (some ⟨b49, 3, none⟩)) rfl rfl (fun _ h => h) (fun _ => rfl) ?_
    have ex215 := (ex148.ext x214)
    refine GS_r1 [(46, .pointer (some ⟨b49, 3, none⟩))] (.func (.func 64) #[] #[pb b, pb b44, pb b47]) rfl rfl (fun _ h => h) (fun _ w e => ex_ldbox rfl ti_101 ag_101 (fun _ => rfl) rfl e rfl rfl) ex215 ?_
    refine GS_ev ok [(0, pb b49)] (pb b49) rfl rfl (fun _ h => h) (fun _ => rfl) ?_
    refine GS_ev ok [(48, pb b49)] (pb b49) rfl rfl (fun _ h => h) (fun _ => rfl) ?_
    refine GS_ev ok [(49, pb b49)] (.pointer (some ⟨b49, 1, none⟩)) rfl rfl (fun _ h => h) (fun _ => rfl) ?_
    refine GS_r1 [(50, .pointer (some ⟨b49, 1, none⟩))] (sl a5 x.Counts c6) rfl rfl (fun _ h => h) (fun _ w e => ex_ldbox rfl ti_22 ag_22 (fun _ => rfl) rfl e rfl rfl) ex215 ?_
    intro wx216 x217 ρ hn
    refine AP_forget [(47, .func (.func 64) #[] #[pb b, pb b44, pb b47]), (51, sl a5 x.Counts c6)] (by exact hn) fun ρ => ?_
    refine AP_tail 8 [[], [0], [0, 1], [0, 1, 2], [], [4], [4, 5], [4, 5, 6], [0, 1, 2, 3, 4, 5, 6, 7], [0, 1, 2, 3, 4, 5, 6, 7, 8]] (by kernel_rfl) ?_
    have ex222 := ((ex136.ext x214).ext x217)
    have ex223 := ((ex138.ext x214).ext x217)
    have ex224 := ((ex139.ext x214).ext x217)
    have ex225 := ((ex140.ext x214).ext x217)
    have ex226 := ((ex141.ext x214).ext x217)
    have ex227 := ((ex142.ext x214).ext x217)
    have ex228 := ((ex143.ext x214).ext x217)
    have ex229 := ((ex144.ext x214).ext x217)
    have ex230 := ((ex145.ext x214).ext x217)
    have ex231 := ((ex146.ext x214).ext x217)
    have ex232 := ((ex147.ext x214).ext x217)
    refine LP_callc 8 rfl rfl rfl rfl cal_64 rfl rfl (impl_solutions_1_impl_ranges_1_impl_AnswerRange_1_w _ _ _ _ _ _ _ H wx216 r3.readf ex222 ex223 r18 ex224 ex225 ex226 r29 ex227 cn ex228 r38 ex229 ex230 ex231 ex232 d63 d64 d65 d66 d68 d69 d70 d72 d73 d75 d51.symm d91 d92 d93 d94 d95 d52.symm d97 d98 d99 d100 d101 d53.symm d103 d104 d105 d106 d107 d54.symm d109 d110 d111 d112 d113 d55.symm d115 d116 d117 d118 d119) ?_
    rintro _ wx233 ⟨r218, r219, r220, r221, vx238, hx236, vx244, hx240, H, rfl, x234, HF⟩
    revert HF
    refine bb9 fun ex235 o ex237 dm ex239 o241 ex242 dm243 => ?_
    refine bb9 fun ex245 d246 d247 d248 d249 d250 d251 d252 cn253 => ?_
    obtain ⟨a254, c255, rfl⟩ := o.shape
    obtain ⟨a256, c257, rfl⟩ := o241.shape
    refine LP_ev ok 9 [(6, .bool r218)] 10 rfl rfl ?_
    refine LP_end _ rfl ?_
    refine W_ret ?_
    have ex258 := (ex222.but x234 (Dj.un_l d51.symm (Dj.un_l d52.symm (Dj.un_l d53.symm (Dj.un_l d54.symm d55.symm)))))
    have ex259 := (((ex137.ext x214).ext x217).but x234 (Dj.un_l d57.symm (Dj.un_l d58.symm (Dj.un_l d59.symm (Dj.un_l d60.symm d61.symm)))))
    have X260 := ((X149.stepx x214).stepx x217)
    have ex261 := ((ex215.ext x217).but x234 (Dj.un_l d67 (Dj.un_l d71 (Dj.un_l d74 (Dj.un_l d76 d77)))))
    have ex262 := ((ex137.ext x214).ext x217)
    have ex263 := (ex215.ext x217)
    have X264 := (X260.step x234 (DomLe.un (Dom.le D127 _) (DomLe.un (Dom.le D128 _) (DomLe.un (Dom.le D129 _) (DomLe.un (Dom.le D130 _) (Dom.le D131 _))))))
    subst hM
    exact ⟨_, Ret_of [.bool r218] ⟨⟨rfl, rfl⟩, trivial⟩, _, _, _, _, _, _, _, _, _, _, _, _, _, _, H, rfl, X264, r3, ex258, (Dom.le D _), r9, ex259, (Dom.le D126 _), ex235, o, ex237, (DomLe.trans (DomLe.un (Dom.le D127 _) (DomLe.un (Dom.le D128 _) (DomLe.un (Dom.le D129 _) (DomLe.un (Dom.le D130 _) (Dom.le D131 _))))) dm X260.size), ex239, o241, ex242, (DomLe.trans (DomLe.un (Dom.le D127 _) (DomLe.un (Dom.le D128 _) (DomLe.un (Dom.le D129 _) (DomLe.un (Dom.le D130 _) (Dom.le D131 _))))) dm243 X260.size), ex245, ex261, d, (Dj.box d51.symm).symm, (DomLe.dj dm (Dj.un_l d51.symm (Dj.un_l d52.symm (Dj.un_l d53.symm (Dj.un_l d54.symm d55.symm)))) ex222).symm, (Dj.box d53.symm).symm, (DomLe.dj dm243 (Dj.un_l d51.symm (Dj.un_l d52.symm (Dj.un_l d53.symm (Dj.un_l d54.symm d55.symm)))) ex222).symm, (Dj.box d55.symm).symm, d56, (Dj.box d57.symm).symm, (DomLe.dj dm (Dj.un_l d57.symm (Dj.un_l d58.symm (Dj.un_l d59.symm (Dj.un_l d60.symm d61.symm)))) ex262).symm, (Dj.box d59.symm).symm, (DomLe.dj dm243 (Dj.un_l d57.symm (Dj.un_l d58.symm (Dj.un_l d59.symm (Dj.un_l d60.symm d61.symm)))) ex262).symm, (Dj.box d61.symm).symm, d62, d246, d247, d248, d249, d250, (DomLe.dj dm (Dj.un_l d67 (Dj.un_l d71 (Dj.un_l d74 (Dj.un_l d76 d77)))) ex263), d251, d252, (DomLe.dj dm243 (Dj.un_l d67 (Dj.un_l d71 (Dj.un_l d74 (Dj.un_l d76 d77)))) ex263), cn253⟩
   have H := H.2 hc
   refine W_skip ?_
   obtain ⟨k355, hk, H⟩ := jn_elim H
   refine W_join2 (S := Int × (List Int) × (List Int) × (List Int) × (List Int)) (fun s ρ' w' => k355 s.1 s.2.1 s.2.2.1 s.2.2.2.1 s.2.2.2.2 ∧ ∃ (ρ : Env) (vx267 : Value) (hx268 : PH) (vx273 : Value) (hx274 : PH) (vx278 : Value) (hx279 : PH) (vx283 : Value) (hx284 : PH), ρ' = setAll [] ρ ∧ But M w w' ∧ OS 3 hx268 emp vx267 s.2.1 ∧ Sub hx268 w' ∧ DomLe M w.heap.size hx268 ∧ OS 3 hx274 emp vx273 s.2.2.1 ∧ Sub hx274 w' ∧ DomLe M w.heap.size hx274 ∧ OS 3 hx279 emp vx278 s.2.2.2.1 ∧ Sub hx279 w' ∧ DomLe M w.heap.size hx279 ∧ OS 3 hx284 emp vx283 s.2.2.2.2 ∧ Sub hx284 w' ∧ DomLe M w.heap.size hx284 ∧ Sub hx w' ∧ Sub hx17 w' ∧ Sub (bx b22 22 [sl a20 c15 c21]) w' ∧ Sub (bx b24 65 [.func (.func 56) #[] #[pb b22]]) w' ∧ Sub (bx b44 74 [.func (.func 90) #[] #[pb b24, pb b33, pb b42]]) w' ∧ Sub (bx b47 3 [I c46]) w' ∧ Sub (bx b 3 [I s.1]) w' ∧ Sub (bx b33 22 [vx267]) w' ∧ Sub (bx b42 22 [vx273]) w' ∧ Sub (bx b49 103 [sl a x.Conditions c, vx278, vx283, .func (.func 64) #[] #[pb b, pb b44, pb b47]]) w' ∧ Dj hx268 hx ∧ Dj hx268 hx17 ∧ Dj hx268 (bx b22 22 [sl a20 c15 c21]) ∧ Dj hx268 (bx b24 65 [.func (.func 56) #[] #[pb b22]]) ∧ Dj hx268 (bx b44 74 [.func (.func 90) #[] #[pb b24, pb b33, pb b42]]) ∧ Dj hx268 (bx b47 3 [I c46]) ∧ Dj hx268 (bx b 3 [I s.1]) ∧ Dj hx268 (bx b33 22 [vx267]) ∧ Dj hx268 (bx b42 22 [vx273]) ∧ Dj hx268 (bx b49 103 [sl a x.Conditions c, vx278, vx283, .func (.func 64) #[] #[pb b, pb b44, pb b47]]) ∧ Dj hx274 hx ∧ Dj hx274 hx17 ∧ Dj hx274 (bx b22 22 [sl a20 c15 c21]) ∧ Dj hx274 (bx b24 65 [.func (.func 56) #[] #[pb b22]]) ∧ Dj hx274 (bx b44 74 [.func (.func 90) #[] #[pb b24, pb b33, pb b42]]) ∧ Dj hx274 (bx b47 3 [I c46]) ∧ Dj hx274 (bx b 3 [I s.1]) ∧ Dj hx274 (bx b33 22 [vx267]) ∧ Dj hx274 (bx b42 22 [vx273]) ∧ Dj hx274 (bx b49 103 [sl a x.Conditions c, vx278, vx283, .func (.func 64) #[] #[pb b, pb b44, pb b47]]) ∧ Dj hx274 hx268 ∧ Dj hx279 hx ∧ Dj hx279 hx17 ∧ Dj hx279 (bx b22 22 [sl a20 c15 c21]) ∧ Dj hx279 (bx b24 65 [.func (.func 56) #[] #[pb b22]]) ∧ Dj hx279 (bx b44 74 [.func (.func 90) #[] #[pb b24, pb b33, pb b42]]) ∧ Dj hx279 (bx b47 3 [I c46]) ∧ Dj hx279 (bx b 3 [I s.1]) ∧ Dj hx279 (bx b33 22 [vx267]) ∧ Dj hx279 (bx b42 22 [vx273]) ∧ Dj hx279 (bx b49 103 [sl a x.Conditions c, vx278, vx283, .func (.func 64) #[] #[pb b, pb b44, pb b47]]) ∧ Dj hx279 hx268 ∧ Dj hx279 hx274 ∧ Dj hx284 hx ∧ Dj hx284 hx17 ∧ Dj hx284 (bx b22 22 [sl a20 c15 c21]) ∧ Dj hx284 (bx b24 65 [.func (.func 56) #[] #[pb b22]]) ∧ Dj hx284 (bx b44 74 [.func (.func 90) #[] #[pb b24, pb b33, pb b42]]) ∧ Dj hx284 (bx b47 3 [I c46]) ∧ Dj hx284 (bx b 3 [I s.1]) ∧ Dj hx284 (bx b33 22 [vx267]) ∧ Dj hx284 (bx b42 22 [vx273]) ∧ Dj hx284 (bx b49 103 [sl a x.Conditions c, vx278, vx283, .func (.func 64) #[] #[pb b, pb b44, pb b47]]) ∧ Dj hx284 hx268 ∧ Dj hx284 hx274 ∧ Dj hx284 hx279 ∧ CanV vx267 s.2.1) ?_ ?_
   ·refine W_seq ?_
    refine W_region ?_
    refine LP_ev ok 0 [(9, I 0)] 1 rfl rfl ?_
    refine LP_end _ rfl ?_
    refine W_block ?_
    obtain ⟨J448, m449, Hx450, H⟩ := H
    refine W_loop (S := Int × Int × (List Int) × (List Int) × (List Int) × (List Int)) (fun s ρ' w' => J448 s.1 s.2.1 s.2.2.1 s.2.2.2.1 s.2.2.2.2.1 s.2.2.2.2.2 ∧ ∃ (ρ : Env) (vx358 : Value) (hx359 : PH) (vx364 : Value) (hx365 : PH) (vx370 : Value) (hx371 : PH) (vx376 : Value) (hx377 : PH), ρ' = setAll [(0, pb b49), (1, I k), (2, I left), (9, I s.1)] ρ ∧ But M w w' ∧ OS 3 hx359 emp vx358 s.2.2.1 ∧ Sub hx359 w' ∧ DomLe M w.heap.size hx359 ∧ OS 3 hx365 emp vx364 s.2.2.2.1 ∧ Sub hx365 w' ∧ DomLe M w.heap.size hx365 ∧ OS 3 hx371 emp vx370 s.2.2.2.2.1 ∧ Sub hx371 w' ∧ DomLe M w.heap.size hx371 ∧ OS 3 hx377 emp vx376 s.2.2.2.2.2 ∧ Sub hx377 w' ∧ DomLe M w.heap.size hx377 ∧ Sub hx w' ∧ Sub hx17 w' ∧ Sub (bx b22 22 [sl a20 c15 c21]) w' ∧ Sub (bx b24 65 [.func (.func 56) #[] #[pb b22]]) w' ∧ Sub (bx b44 74 [.func (.func 90) #[] #[pb b24, pb b33, pb b42]]) w' ∧ Sub (bx b47 3 [I c46]) w' ∧ Sub (bx b 3 [I s.2.1]) w' ∧ Sub (bx b33 22 [vx358]) w' ∧ Sub (bx b42 22 [vx364]) w' ∧ Sub (bx b49 103 [sl a x.Conditions c, vx370, vx376, .func (.func 64) #[] #[pb b, pb b44, pb b47]]) w' ∧ Dj hx359 hx ∧ Dj hx359 hx17 ∧ Dj hx359 (bx b22 22 [sl a20 c15 c21]) ∧ Dj hx359 (bx b24 65 [.func (.func 56) #[] #[pb b22]]) ∧ Dj hx359 (bx b44 74 [.func (.func 90) #[] #[pb b24, pb b33, pb b42]]) ∧ Dj hx359 (bx b47 3 [I c46]) ∧ Dj hx359 (bx b 3 [I s.2.1]) ∧ Dj hx359 (bx b33 22 [vx358]) ∧ Dj hx359 (bx b42 22 [vx364]) ∧ Dj hx359 (bx b49 103 [sl a x.Conditions c, vx370, vx376, .func (.func 64) #[] #[pb b, pb b44, pb b47]]) ∧ Dj hx365 hx ∧ Dj hx365 hx17 ∧ Dj hx365 (bx b22 22 [sl a20 c15 c21]) ∧ Dj hx365 (bx b24 65 [.func (.func 56) #[] #[pb b22]]) ∧ Dj hx365 (bx b44 74 [.func (.func 90) #[] #[pb b24, pb b33, pb b42]]) ∧ Dj hx365 (bx b47 3 [I c46]) ∧ Dj hx365 (bx b 3 [I s.2.1]) ∧ Dj hx365 (bx b33 22 [vx358]) ∧ Dj hx365 (bx b42 22 [vx364]) ∧ Dj hx365 (bx b49 103 [sl a x.Conditions c, vx370, vx376, .func (.func 64) #[] #[pb b, pb b44, pb b47]]) ∧ Dj hx365 hx359 ∧ Dj hx371 hx ∧ Dj hx371 hx17 ∧ Dj hx371 (bx b22 22 [sl a20 c15 c21]) ∧ Dj hx371 (bx b24 65 [.func (.func 56) #[] #[pb b22]]) ∧ Dj hx371 (bx b44 74 [.func (.func 90) #[] #[pb b24, pb b33, pb b42]]) ∧ Dj hx371 (bx b47 3 [I c46]) ∧ Dj hx371 (bx b 3 [I s.2.1]) ∧ Dj hx371 (bx b33 22 [vx358]) ∧ Dj hx371 (bx b42 22 [vx364]) ∧ Dj hx371 (bx b49 103 [sl a x.Conditions c, vx370, vx376, .func (.func 64) #[] #[pb b, pb b44, pb b47]]) ∧ Dj hx371 hx359 ∧ Dj hx371 hx365 ∧ Dj hx377 hx ∧ Dj hx377 hx17 ∧ Dj hx377 (bx b22 22 [sl a20 c15 c21]) ∧ Dj hx377 (bx b24 65 [.func (.func 56) #[] #[pb b22]]) ∧ Dj hx377 (bx b44 74 [.func (.func 90) #[] #[pb b24, pb b33, pb b42]]) ∧ Dj hx377 (bx b47 3 [I c46]) ∧ Dj hx377 (bx b 3 [I s.2.1]) ∧ Dj hx377 (bx b33 22 [vx358]) ∧ Dj hx377 (bx b42 22 [vx364]) ∧ Dj hx377 (bx b49 103 [sl a x.Conditions c, vx370, vx376, .func (.func 64) #[] #[pb b, pb b44, pb b47]]) ∧ Dj hx377 hx359 ∧ Dj hx377 hx365 ∧ Dj hx377 hx371 ∧ CanV vx358 s.2.2.1) (fun s => m449 s.1 s.2.1 s.2.2.1 s.2.2.2.1 s.2.2.2.2.1 s.2.2.2.2.2) (0, c13, c26, c35, x.Counts, x.Sums) ⟨Hx450, _, sl a31 c26 c32, hx28, sl a40 c35 c41, hx37, sl a5 x.Counts c6, hx2, sl a11 x.Sums c12, hx8, env_eq ⟨rfl, rfl, rfl, rfl, trivial⟩, X, r29, ex30, (Dom.le D128 _), r38, ex39, (Dom.le D130 _), r3, ex4, (Dom.le D _), r9, ex10, (Dom.le D126 _), ex, ex19, ex23, ex25, ex45, ex48, ex14, ex34, ex43, ex50, d96, d97, d98, d99, d100, d101, d63.symm, d68, d70, d71, d108, d109, d110, d111, d112, d113, d65.symm, d72.symm, d75, d76, d69.symm, d78, d79, d80, d81, d82, d83, d51, d53, d55, d56, d52, d54, d84, d85, d86, d87, d88, d89, d57, d59, d61, d62, d58, d60, d.symm, cn⟩ ?_
    rintro ⟨n, x356, x357, x363, counts369, sums375⟩ _ wx381 ⟨Hi, ρ, vx358, hx359, vx364, hx365, vx370, hx371, vx376, hx377, rfl, HF⟩
    revert HF
    refine bb9 fun X447 o360 ex361 f362 o366 ex367 f368 o372 => ?_
    refine bb9 fun ex373 f374 o378 ex379 f380 ex382 ex383 ex384 => ?_
    refine bb9 fun ex385 ex386 ex387 ex396 ex397 ex398 ex399 d400 => ?_
    refine bb9 fun d401 d402 d403 d404 d405 d406 d407 d408 => ?_
    refine bb9 fun d409 d410 d411 d412 d413 d414 d415 d416 => ?_
    refine bb9 fun d417 d418 d419 d420 d421 d422 d423 d424 => ?_
    refine bb9 fun d425 d426 d427 d428 d429 d430 d431 d432 => ?_
    refine bb9 fun d433 d434 d435 d436 d437 d438 d439 d440 => ?_
    refine bb6 fun d441 d442 d443 d444 d445 cn446 => ?_
    have H := H n x356 x357 x363 counts369 sums375 Hi
    obtain ⟨a388, c389, rfl⟩ := o360.shape
    obtain ⟨a390, c391, rfl⟩ := o366.shape
    obtain ⟨a392, c393, rfl⟩ := o372.shape
    obtain ⟨a394, c395, rfl⟩ := o378.shape
    refine W_seq ?_
    refine W_seq ?_
    refine W_region ?_
    refine LP_ev ok 0 [(53, I n), (54, I left), (55, .bool (decide (n ≤ left)))] 3 rfl rfl ?_
    refine LP_end _ rfl ?_
    refine W_cond (decide (n ≤ left)) rfl (fun hc452 => ?_) (fun hc452 => ?_)
    ·have H := H.1 hc452
     refine W_skip ?_
     refine W_seq ?_
     refine W_block ?_
     refine W_seq ?_
     refine W_region ?_
     refine LP_ev ok 0 [(10, .bool true)] 1 rfl rfl ?_
     refine LP_end _ rfl ?_
     refine W_seq ?_
     refine W_seq ?_
     refine W_region ?_
     refine LP_ev ok 0 [(58, pb b49), (59, pb b49), (60, pb b49)] 3 rfl rfl ?_
     refine LP_ldbox 3 (v := sl a x.Conditions c) rfl rfl rfl ti_99 ag_99 (fun _ => rfl) rfl ex399 rfl rfl ?_
     refine LP_ev ok 4 [(62, I (ln x.Conditions)), (63, I 0)] 6 rfl rfl ?_
     refine LP_end _ rfl ?_
     refine W_block ?_
     obtain ⟨J470, m471, Hx472, H⟩ := H
     refine W_loop (S := Bool × Int) (fun s ρ' w' => J470 s.1 s.2 ∧ ∃ (ρ : Env), ρ' = setAll [(0, pb b49), (1, I k), (2, I left), (9, I n), (10, .bool s.1), (61, sl a x.Conditions c), (62, I (ln x.Conditions)), (63, I s.2)] ρ ∧ But M w w' ∧ Sub hx w' ∧ Sub (bx b 3 [I x356]) w' ∧ Sub hx17 w' ∧ Sub (bx b22 22 [sl a20 c15 c21]) w' ∧ Sub (bx b24 65 [.func (.func 56) #[] #[pb b22]]) w' ∧ Sub (bx b33 22 [sl a388 x357 c389]) w' ∧ Sub (bx b42 22 [sl a390 x363 c391]) w' ∧ Sub (bx b44 74 [.func (.func 90) #[] #[pb b24, pb b33, pb b42]]) w' ∧ Sub (bx b47 3 [I c46]) w' ∧ Sub (bx b49 103 [sl a x.Conditions c, sl a392 counts369 c393, sl a394 sums375 c395, .func (.func 64) #[] #[pb b, pb b44, pb b47]]) w' ∧ Sub hx359 w' ∧ Sub hx365 w' ∧ Sub hx371 w' ∧ Sub hx377 w') (fun s => m471 s.1 s.2) (true, 0) ⟨Hx472, _, env_eq ⟨rfl, rfl, rfl, rfl, rfl, rfl, rfl, rfl, trivial⟩, X447, ex382, ex396, ex383, ex384, ex385, ex397, ex398, ex386, ex387, ex399, ex361, ex367, ex373, ex379⟩ ?_
     rintro ⟨fits, x453⟩ _ wx454 ⟨Hi, ρ, rfl, HF⟩
     revert HF
     refine bb9 fun X469 ex455 ex456 ex457 ex458 ex459 ex460 ex461 => ?_
     refine bb7 fun ex462 ex463 ex464 ex465 ex466 ex467 ex468 => ?_
     have H := H fits x453 Hi
     refine W_seq ?_
     refine W_region ?_
     refine LP_ev ok 0 [(64, .bool (decide (x453 < (ln x.Conditions))))] 1 rfl rfl ?_
     refine LP_end _ rfl ?_
     refine W_seq ?_
     refine W_cond (decide (x453 < (ln x.Conditions))) rfl (fun hc474 => ?_) (fun hc474 => ?_)
     ·have H := H.1 hc474
      refine W_skip ?_
      obtain ⟨k492, hk493, H⟩ := jn_elim H
      refine W_join2 (S := Bool) (fun s ρ' w' => k492 s ∧ ∃ (ρ : Env), ρ' = setAll [(0, pb b49), (1, I k), (2, I left), (9, I n), (10, .bool s), (61, sl a x.Conditions c), (62, I (ln x.Conditions)), (63, I x453)] ρ ∧ But M w w' ∧ Sub hx w' ∧ Sub (bx b 3 [I x356]) w' ∧ Sub hx17 w' ∧ Sub (bx b22 22 [sl a20 c15 c21]) w' ∧ Sub (bx b24 65 [.func (.func 56) #[] #[pb b22]]) w' ∧ Sub (bx b33 22 [sl a388 x357 c389]) w' ∧ Sub (bx b42 22 [sl a390 x363 c391]) w' ∧ Sub (bx b44 74 [.func (.func 90) #[] #[pb b24, pb b33, pb b42]]) w' ∧ Sub (bx b47 3 [I c46]) w' ∧ Sub (bx b49 103 [sl a x.Conditions c, sl a392 counts369 c393, sl a394 sums375 c395, .func (.func 64) #[] #[pb b, pb b44, pb b47]]) w' ∧ Sub hx359 w' ∧ Sub hx365 w' ∧ Sub hx371 w' ∧ Sub hx377 w') ?_ ?_
      ·refine W_block ?_
       refine W_seq ?_
       refine W_region ?_
       refine LP_ev ok 0 [(65, I x453)] 1 rfl rfl ?_
       obtain ⟨x494, hi495, hx496, H⟩ := H
       refine LP_index 1 rfl rfl rfl Try.underlying99 ti_124 rfl rfl r hi495 hx496 fun a497 cs498 r499 d500 => ?_
       have d501 := d500
       obtain ⟨u502, rfl, r503⟩ := Condition_rd d501
       obtain ⟨a504, c505, rfl⟩ := r503.shape
       refine LP_load 2 rfl rfl rfl ti_124 ag_124 rfl r499 d500 ex455 fun vx506 r507 => ?_
       obtain ⟨u508, rfl, r509⟩ := Condition_rv r507
       obtain ⟨a510, c511, rfl⟩ := r509.shape
       refine LP_alloc 3 rfl rfl rfl ti_124 rfl fun b512 wx513 x514 ex515 f516 => ?_
       refine LP_ev ok 4 [(11, I x453)] 5 rfl rfl ?_
       refine LP_stbox 5 (vs := [sl a510 x494.Amounts c511, I x494.Value]) (cs' := [sl a510 x494.Amounts c511, I x494.Value]) rfl rfl rfl ti_124 rfl rfl rfl rfl rfl ex515 rfl rfl fun wx517 ex518 y519 => ?_
       refine LP_end _ rfl ?_
       refine W_quiet mix (by kernel_rfl) ?_
       refine QP_ev ok 0 [(68, .bool fits), (69, .bool fits)] 2 rfl rfl ?_
       refine QP_split 69 (fits) rfl (fun hc520 => ?_) (fun hc520 => ?_)
       ·have H := H.1 hc520
        refine QP_ev ok 2 [(70, pb b49), (71, pb b49), (72, .pointer (some ⟨b49, 2, none⟩))] 5 rfl rfl ?_
        have ex521 := ((ex464.ext x514).but y519 (Dj.of_fresh ex464 f516).symm)
        refine QP_ldbox 5 (v := sl a394 sums375 c395) rfl rfl rfl ti_22 ag_22 (fun _ => rfl) rfl ex521 rfl rfl ?_
        refine QP_ev ok 6 [(74, I x453)] 7 rfl rfl ?_
        obtain ⟨x522, hi523, hx524, H⟩ := H
        refine QP_index 7 rfl rfl rfl Try.underlying22 ti_3 rfl rfl o378.readf hi523 hx524 fun a525 cs526 r527 d528 => ?_
        have ex529 := ((ex468.ext x514).but y519 (Dj.of_fresh ex468 f516).symm)
        refine QP_load 8 rfl rfl rfl ti_3 ag_3 rfl r527 d528 ex529 fun vx530 r531 => ?_
        obtain rfl := r531.int
        refine QP_ev ok 9 [(77, I n), (78, pb b512)] 11 rfl rfl ?_
        refine QP_ldbox 11 (v := sl a510 x494.Amounts c511) rfl rfl rfl ti_22 ag_22 (fun _ => rfl) rfl ex518 rfl rfl ?_
        refine QP_ev ok 12 [(80, I k)] 13 rfl rfl ?_
        obtain ⟨x532, hi533, hx534, H⟩ := H
        refine QP_index 13 rfl rfl rfl Try.underlying22 ti_3 rfl rfl r509 hi533 hx534 fun a535 cs536 r537 d538 => ?_
        have ex539 := ((ex455.ext x514).but y519 (Dj.of_fresh ex455 f516).symm)
        refine QP_load 14 rfl rfl rfl ti_3 ag_3 rfl r537 d538 ex539 fun vx540 r541 => ?_
        obtain rfl := r541.int
        refine QP_ev ok 15 [(83, I (wr (n * x532))), (84, I (wr (x522 + (wr (n * x532))))), (85, .pointer (some ⟨b512, 1, none⟩))] 18 rfl rfl ?_
        refine QP_ldbox 18 (v := I x494.Value) rfl rfl rfl ti_3 ag_3 (fun _ => rfl) rfl ex518 rfl rfl ?_
        refine QP_ev ok 19 [(87, .bool (decide ((wr (x522 + (wr (n * x532)))) ≤ x494.Value))), (88, .bool (decide ((wr (x522 + (wr (n * x532)))) ≤ x494.Value))), (10, .bool (decide ((wr (x522 + (wr (n * x532)))) ≤ x494.Value)))] 22 rfl rfl ?_
        refine QP_end _ rfl fun wx542 x543 => ?_
        try refine W_forget [(0, pb b49), (1, I k), (2, I left), (9, I n), (10, .bool (decide ((wr (x522 + (wr (n * x532)))) ≤ x494.Value))), (61, sl a x.Conditions c), (62, I (ln x.Conditions)), (63, I x453), (70, pb b49), (71, pb b49), (72, .pointer (some ⟨b49, 2, none⟩)), (73, sl a394 sums375 c395), (74, I x453), (75, .pointer (some a525)), (76, I x522), (77, I n), (78, pb b512), (79, sl a510 x494.Amounts c511), (80, I k), (81, .pointer (some a535)), (82, I x532), (83, I (wr (n * x532))), (84, I (wr (x522 + (wr (n * x532))))), (85, .pointer (some ⟨b512, 1, none⟩)), (86, I x494.Value), (87, .bool (decide ((wr (x522 + (wr (n * x532)))) ≤ x494.Value)))] ⟨rfl, rfl, rfl, rfl, rfl, rfl, rfl, rfl, rfl, rfl, rfl, rfl, rfl, rfl, rfl, rfl, rfl, rfl, rfl, rfl, rfl, rfl, rfl, rfl, rfl, rfl, trivial⟩ fun ρ => ?_
        have f544 := f516.mono X469.size
        have X545 := (((X469.stepx x514).step y519 (f544.dom _)).stepx x543)
        have ex546 := (ex539.ext x543)
        have ex547 := (((ex456.ext x514).but y519 (Dj.of_fresh ex456 f516).symm).ext x543)
        have ex548 := (((ex457.ext x514).but y519 (Dj.of_fresh ex457 f516).symm).ext x543)
        have ex549 := (((ex458.ext x514).but y519 (Dj.of_fresh ex458 f516).symm).ext x543)
        have ex550 := (((ex459.ext x514).but y519 (Dj.of_fresh ex459 f516).symm).ext x543)
        have ex551 := (((ex460.ext x514).but y519 (Dj.of_fresh ex460 f516).symm).ext x543)
        have ex552 := (((ex461.ext x514).but y519 (Dj.of_fresh ex461 f516).symm).ext x543)
        have ex553 := (((ex462.ext x514).but y519 (Dj.of_fresh ex462 f516).symm).ext x543)
        have ex554 := (((ex463.ext x514).but y519 (Dj.of_fresh ex463 f516).symm).ext x543)
        have ex555 := (ex521.ext x543)
        have ex556 := (((ex465.ext x514).but y519 (Dj.of_fresh ex465 f516).symm).ext x543)
        have ex557 := (((ex466.ext x514).but y519 (Dj.of_fresh ex466 f516).symm).ext x543)
        have ex558 := (((ex467.ext x514).but y519 (Dj.of_fresh ex467 f516).symm).ext x543)
        have ex559 := (ex529.ext x543)
        exact ⟨decide ((wr (x522 + (wr (n * x532)))) ≤ x494.Value), H, _, env_eq ⟨rfl, rfl, rfl, rfl, rfl, rfl, rfl, rfl, trivial⟩, X545, ex546, ex547, ex548, ex549, ex550, ex551, ex552, ex553, ex554, ex555, ex556, ex557, ex558, ex559⟩
       have H := H.2 hc520
       refine QP_ev ok 2 [(70, undef), (71, undef), (72, undef), (73, undef), (74, undef), (75, undef), (76, undef), (77, undef), (78, undef), (79, undef), (80, undef), (81, undef), (82, undef), (83, undef), (84, undef), (85, undef), (86, undef), (87, undef), (88, .bool false), (10, .bool false)] 22 rfl rfl ?_
       refine QP_end _ rfl fun wx560 x561 => ?_
       try refine W_forget [(0, pb b49), (1, I k), (2, I left), (9, I n), (10, .bool false), (61, sl a x.Conditions c), (62, I (ln x.Conditions)), (63, I x453)] ⟨rfl, rfl, rfl, rfl, rfl, rfl, rfl, rfl, trivial⟩ fun ρ => ?_
       have f562 := f516.mono X469.size
       have X563 := (((X469.stepx x514).step y519 (f562.dom _)).stepx x561)
       have ex564 := (((ex455.ext x514).but y519 (Dj.of_fresh ex455 f516).symm).ext x561)
       have ex565 := (((ex456.ext x514).but y519 (Dj.of_fresh ex456 f516).symm).ext x561)
       have ex566 := (((ex457.ext x514).but y519 (Dj.of_fresh ex457 f516).symm).ext x561)
       have ex567 := (((ex458.ext x514).but y519 (Dj.of_fresh ex458 f516).symm).ext x561)
       have ex568 := (((ex459.ext x514).but y519 (Dj.of_fresh ex459 f516).symm).ext x561)
       have ex569 := (((ex460.ext x514).but y519 (Dj.of_fresh ex460 f516).symm).ext x561)
       have ex570 := (((ex461.ext x514).but y519 (Dj.of_fresh ex461 f516).symm).ext x561)
       have ex571 := (((ex462.ext x514).but y519 (Dj.of_fresh ex462 f516).symm).ext x561)
       have ex572 := (((ex463.ext x514).but y519 (Dj.of_fresh ex463 f516).symm).ext x561)
       have ex573 := (((ex464.ext x514).but y519 (Dj.of_fresh ex464 f516).symm).ext x561)
       have ex574 := (((ex465.ext x514).but y519 (Dj.of_fresh ex465 f516).symm).ext x561)
       have ex575 := (((ex466.ext x514).but y519 (Dj.of_fresh ex466 f516).symm).ext x561)
       have ex576 := (((ex467.ext x514).but y519 (Dj.of_fresh ex467 f516).symm).ext x561)
       have ex577 := (((ex468.ext x514).but y519 (Dj.of_fresh ex468 f516).symm).ext x561)
       exact ⟨false, H, _, env_eq ⟨rfl, rfl, rfl, rfl, rfl, rfl, rfl, rfl, trivial⟩, X563, ex564, ex565, ex566, ex567, ex568, ex569, ex570, ex571, ex572, ex573, ex574, ex575, ex576, ex577⟩
      rintro fits475 _ wx476 ⟨H, ρ, rfl, HF⟩
      revert HF
      refine bb9 fun X491 ex477 ex478 ex479 ex480 ex481 ex482 ex483 => ?_
      refine bb7 fun ex484 ex485 ex486 ex487 ex488 ex489 ex490 => ?_
      subst hk493
      refine W_region ?_
      refine LP_ev ok 0 [(89, I (wr (x453 + 1))), (63, I (wr (x453 + 1)))] 2 rfl rfl ?_
      refine LP_end _ rfl ?_
      exact ⟨(fits475, wr (x453 + 1)), ⟨H.1, _, env_eq ⟨rfl, rfl, rfl, rfl, rfl, rfl, rfl, rfl, trivial⟩, X491, ex477, ex478, ex479, ex480, ex481, ex482, ex483, ex484, ex485, ex486, ex487, ex488, ex489, ex490⟩, H.2⟩
     have H := H.2 hc474
     refine W_exit ?_
     refine (if_pos rfl).mpr ?_
     refine W_seq ?_
     refine W_seq ?_
     refine W_region ?_
     refine LP_ev ok 0 [(90, .bool fits), (91, .bool (!fits))] 2 rfl rfl ?_
     refine LP_end _ rfl ?_
     refine W_cond (!fits) rfl (fun hc578 => ?_) (fun hc578 => ?_)
     ·have H := H.1 hc578
      refine W_exit ?_
      refine (if_neg (by decide)).mpr ?_
      refine (if_pos rfl).mpr ?_
      exact ⟨(x356, x357, x363, counts369, sums375), H, _, sl a388 x357 c389, hx359, sl a390 x363 c391, hx365, sl a392 counts369 c393, hx371, sl a394 sums375 c395, hx377, env_eq trivial, X469, o360, ex465, f362, o366, ex466, f368, o372, ex467, f374, o378, ex468, f380, ex455, ex457, ex458, ex459, ex462, ex463, ex456, ex460, ex461, ex464, d400, d401, d402, d403, d404, d405, d406, d407, d408, d409, d410, d411, d412, d413, d414, d415, d416, d417, d418, d419, d420, d421, d422, d423, d424, d425, d426, d427, d428, d429, d430, d431, d432, d433, d434, d435, d436, d437, d438, d439, d440, d441, d442, d443, d444, d445, cn446⟩
     have H := H.2 hc578
     refine W_skip ?_
     refine W_seq ?_
     refine W_region ?_
     refine LP_ev ok 0 [(92, pb b49), (93, I k), (94, I n)] 3 rfl rfl ?_
     refine LP_call 3 rfl rfl rfl cal_96 rfl (impl_search_add_impl_solutions_1_impl_ranges_1_impl_AnswerRange_1_w _ _ _ _ _ _ _ _ _ H wx454 r ex455 o372 ex467 o378 ex468 ex456 r18 ex457 ex458 ex459 o360.readf ex465 ex460 o366.readf ex466 ex461 ex462 ex463 ex464 d445.symm d430 d442 d421 d427 d422 d423 d424 d431 d428 d432 d429 d425 d426 d433 d439 d434 d435 d436 d443 d440 d444 d441 d437 d438 (Dj.box d120) (Dj.box (Dj.box d67.symm).symm).symm (Dj.box d121) (Dj.box d122) (Dj.box d123) d409.symm (Dj.box (Dj.box d74.symm).symm).symm d419.symm (Dj.box (Dj.box d77.symm).symm).symm (Dj.box d124) (Dj.box d125)) ?_
     rintro _ wx581 ⟨r579, r580, vx587, hx583, vx592, hx588, H, rfl, x582, HF⟩
     revert HF
     refine bb9 fun o584 ex585 dm586 o589 ex590 dm591 ex593 d594 => ?_
     refine bb2 fun d595 d596 => ?_
     obtain ⟨a597, c598, rfl⟩ := o584.shape
     obtain ⟨a599, c600, rfl⟩ := o589.shape
     refine LP_end _ rfl ?_
     refine W_seq ?_
     refine W_region ?_
     refine LP_ev ok 0 [(96, pb b49), (97, I k), (98, I (wr (k + 1))), (99, I left), (100, I n), (101, I (wr (left - n)))] 6 rfl rfl ?_
     have ex607 := (ex455.but x582 (Dj.un_l d421 (Dj.un_l d433 (Dj.box d120))))
     have ex608 := (ex456.but x582 (Dj.un_l d427 (Dj.un_l d439 (Dj.box (Dj.box d67.symm).symm).symm)))
     have ex609 := (ex457.but x582 (Dj.un_l d422 (Dj.un_l d434 (Dj.box d121))))
     have ex610 := (ex458.but x582 (Dj.un_l d423 (Dj.un_l d435 (Dj.box d122))))
     have ex611 := (ex459.but x582 (Dj.un_l d424 (Dj.un_l d436 (Dj.box d123))))
     have ex612 := (ex465.but x582 (Dj.un_l d431 (Dj.un_l d443 d409.symm)))
     have ex613 := (ex460.but x582 (Dj.un_l d428 (Dj.un_l d440 (Dj.box (Dj.box d74.symm).symm).symm)))
     have ex614 := (ex466.but x582 (Dj.un_l d432 (Dj.un_l d444 d419.symm)))
     have ex615 := (ex461.but x582 (Dj.un_l d429 (Dj.un_l d441 (Dj.box (Dj.box d77.symm).symm).symm)))
     have ex616 := (ex462.but x582 (Dj.un_l d425 (Dj.un_l d437 (Dj.box d124))))
     have ex617 := (ex463.but x582 (Dj.un_l d426 (Dj.un_l d438 (Dj.box d125))))
     refine LP_call 6 rfl rfl rfl cal_65 rfl (ih _ _ _ _ _ _ _ _ _ H.1 (Nat.lt_of_lt_of_le H.2 (Nat.le_of_lt_succ hm)) wx581 r ex607 o584 ex585 o589 ex590 ex608 r18 ex609 ex610 ex611 o360 ex612 cn446 ex613 o366 ex614 ex615 ex616 ex617 ex593 d594 (DomLe.dj dm586 (Dj.un_l d427 (Dj.un_l d439 (Dj.box (Dj.box d67.symm).symm).symm)) ex456) (DomLe.dj dm586 (Dj.un_l d431 (Dj.un_l d443 d409.symm)) ex465) (DomLe.dj dm586 (Dj.un_l d428 (Dj.un_l d440 (Dj.box (Dj.box d74.symm).symm).symm)) ex460) (DomLe.dj dm586 (Dj.un_l d432 (Dj.un_l d444 d419.symm)) ex466) (DomLe.dj dm586 (Dj.un_l d429 (Dj.un_l d441 (Dj.box (Dj.box d77.symm).symm).symm)) ex461) d595 (DomLe.dj dm591 (Dj.un_l d427 (Dj.un_l d439 (Dj.box (Dj.box d67.symm).symm).symm)) ex456) (DomLe.dj dm591 (Dj.un_l d431 (Dj.un_l d443 d409.symm)) ex465) (DomLe.dj dm591 (Dj.un_l d428 (Dj.un_l d440 (Dj.box (Dj.box d74.symm).symm).symm)) ex460) (DomLe.dj dm591 (Dj.un_l d432 (Dj.un_l d444 d419.symm)) ex466) (DomLe.dj dm591 (Dj.un_l d429 (Dj.un_l d441 (Dj.box (Dj.box d77.symm).symm).symm)) ex461) d596 d406.symm (Dj.box (Dj.box d64).symm).symm d416.symm (Dj.box (Dj.box d66).symm).symm (Dj.box (Dj.box d67).symm).symm d407 d420.symm d408 (Dj.box d409.symm).symm d417.symm (Dj.box (Dj.box d73).symm).symm (Dj.box (Dj.box d74).symm).symm d418 (Dj.box d419.symm).symm (Dj.box (Dj.box d77).symm).symm (DomLe.dj dm586 (Dj.un_l d421 (Dj.un_l d433 (Dj.box d120))) ex455) (DomLe.dj dm586 (Dj.un_l d422 (Dj.un_l d434 (Dj.box d121))) ex457) (DomLe.dj dm586 (Dj.un_l d423 (Dj.un_l d435 (Dj.box d122))) ex458) (DomLe.dj dm586 (Dj.un_l d424 (Dj.un_l d436 (Dj.box d123))) ex459) (DomLe.dj dm586 (Dj.un_l d425 (Dj.un_l d437 (Dj.box d124))) ex462) (DomLe.dj dm586 (Dj.un_l d426 (Dj.un_l d438 (Dj.box d125))) ex463) (DomLe.dj dm591 (Dj.un_l d421 (Dj.un_l d433 (Dj.box d120))) ex455) (DomLe.dj dm591 (Dj.un_l d422 (Dj.un_l d434 (Dj.box d121))) ex457) (DomLe.dj dm591 (Dj.un_l d423 (Dj.un_l d435 (Dj.box d122))) ex458) (DomLe.dj dm591 (Dj.un_l d424 (Dj.un_l d436 (Dj.box d123))) ex459) (DomLe.dj dm591 (Dj.un_l d425 (Dj.un_l d437 (Dj.box d124))) ex462) (DomLe.dj dm591 (Dj.un_l d426 (Dj.un_l d438 (Dj.box d125))) ex463) (Dj.box d90) (Dj.box d91) (Dj.box d92) (Dj.box d93) (Dj.box d94) (Dj.box d95) d400 d401 d402 d403 d404 d405 (Dj.box d102) (Dj.box d103) (Dj.box d104) (Dj.box d105) (Dj.box d106) (Dj.box d107) d410 d411 d412 d413 d414 d415 (Dj.box d114) (Dj.box d115) (Dj.box d116) (Dj.box d117) (Dj.box d118) (Dj.box d119) (Dj.box d120) (Dj.box d121) (Dj.box d122) (Dj.box d123) (Dj.box d124) (Dj.box d125)) ?_
     rintro _ wx618 ⟨r601, r602, r603, r604, r605, r606, vx624, hx620, vx629, hx625, vx635, hx631, vx641, hx637, H, rfl, x619, HF⟩
     revert HF
     refine bb9 fun o621 ex622 dm623 o626 ex627 dm628 ex630 o632 => ?_
     refine bb9 fun ex633 dm634 ex636 o638 ex639 dm640 ex642 ex643 => ?_
     refine bb9 fun d644 d645 d646 d647 d648 d649 d650 d651 => ?_
     refine bb9 fun d652 d653 d654 d655 d656 d657 d658 d659 => ?_
     refine bb7 fun d660 d661 d662 d663 d664 d665 cn666 => ?_
     obtain ⟨a667, c668, rfl⟩ := o621.shape
     obtain ⟨a669, c670, rfl⟩ := o626.shape
     obtain ⟨a671, c672, rfl⟩ := o632.shape
     obtain ⟨a673, c674, rfl⟩ := o638.shape
     refine LP_ev ok 7 [(13, .bool r601)] 8 rfl rfl ?_
     refine LP_end _ rfl ?_
     refine W_seq ?_
     refine W_region ?_
     refine LP_ev ok 0 [(103, pb b49), (104, I k), (105, I n), (106, I (wr (0 - n)))] 4 rfl rfl ?_
     have ex677 := (ex607.but x619 (Dj.un_l (DomLe.dj dm586 (Dj.un_l d421 (Dj.un_l d433 (Dj.box d120))) ex455) (Dj.un_l (DomLe.dj dm591 (Dj.un_l d421 (Dj.un_l d433 (Dj.box d120))) ex455) (Dj.un_l (Dj.box d90) (Dj.un_l d400 (Dj.un_l (Dj.box d102) (Dj.un_l d410 (Dj.un_l (Dj.box d114) (Dj.box d120)))))))))
     have ex678 := (ex609.but x619 (Dj.un_l (DomLe.dj dm586 (Dj.un_l d422 (Dj.un_l d434 (Dj.box d121))) ex457) (Dj.un_l (DomLe.dj dm591 (Dj.un_l d422 (Dj.un_l d434 (Dj.box d121))) ex457) (Dj.un_l (Dj.box d91) (Dj.un_l d401 (Dj.un_l (Dj.box d103) (Dj.un_l d411 (Dj.un_l (Dj.box d115) (Dj.box d121)))))))))
     have ex679 := (ex610.but x619 (Dj.un_l (DomLe.dj dm586 (Dj.un_l d423 (Dj.un_l d435 (Dj.box d122))) ex458) (Dj.un_l (DomLe.dj dm591 (Dj.un_l d423 (Dj.un_l d435 (Dj.box d122))) ex458) (Dj.un_l (Dj.box d92) (Dj.un_l d402 (Dj.un_l (Dj.box d104) (Dj.un_l d412 (Dj.un_l (Dj.box d116) (Dj.box d122)))))))))
     have ex680 := (ex611.but x619 (Dj.un_l (DomLe.dj dm586 (Dj.un_l d424 (Dj.un_l d436 (Dj.box d123))) ex459) (Dj.un_l (DomLe.dj dm591 (Dj.un_l d424 (Dj.un_l d436 (Dj.box d123))) ex459) (Dj.un_l (Dj.box d93) (Dj.un_l d403 (Dj.un_l (Dj.box d105) (Dj.un_l d413 (Dj.un_l (Dj.box d117) (Dj.box d123)))))))))
     have ex681 := (ex616.but x619 (Dj.un_l (DomLe.dj dm586 (Dj.un_l d425 (Dj.un_l d437 (Dj.box d124))) ex462) (Dj.un_l (DomLe.dj dm591 (Dj.un_l d425 (Dj.un_l d437 (Dj.box d124))) ex462) (Dj.un_l (Dj.box d94) (Dj.un_l d404 (Dj.un_l (Dj.box d106) (Dj.un_l d414 (Dj.un_l (Dj.box d118) (Dj.box d124)))))))))
     have ex682 := (ex617.but x619 (Dj.un_l (DomLe.dj dm586 (Dj.un_l d426 (Dj.un_l d438 (Dj.box d125))) ex463) (Dj.un_l (DomLe.dj dm591 (Dj.un_l d426 (Dj.un_l d438 (Dj.box d125))) ex463) (Dj.un_l (Dj.box d95) (Dj.un_l d405 (Dj.un_l (Dj.box d107) (Dj.un_l d415 (Dj.un_l (Dj.box d119) (Dj.box d125)))))))))
     refine LP_call 4 rfl rfl rfl cal_96 rfl (impl_search_add_impl_solutions_1_impl_ranges_1_impl_AnswerRange_1_w _ _ _ _ _ _ _ _ _ H wx618 r ex677 o621 ex622 o626 ex627 ex630 r18 ex678 ex679 ex680 o632.readf ex633 ex636 o638.readf ex639 ex642 ex681 ex682 ex643 d644 d650 d656 (DomLe.dj dm623 (Dj.un_l (DomLe.dj dm586 (Dj.un_l d421 (Dj.un_l d433 (Dj.box d120))) ex455) (Dj.un_l (DomLe.dj dm591 (Dj.un_l d421 (Dj.un_l d433 (Dj.box d120))) ex455) (Dj.un_l (Dj.box d90) (Dj.un_l d400 (Dj.un_l (Dj.box d102) (Dj.un_l d410 (Dj.un_l (Dj.box d114) (Dj.box d120)))))))) ex607) d645 (DomLe.dj dm623 (Dj.un_l (DomLe.dj dm586 (Dj.un_l d422 (Dj.un_l d434 (Dj.box d121))) ex457) (Dj.un_l (DomLe.dj dm591 (Dj.un_l d422 (Dj.un_l d434 (Dj.box d121))) ex457) (Dj.un_l (Dj.box d91) (Dj.un_l d401 (Dj.un_l (Dj.box d103) (Dj.un_l d411 (Dj.un_l (Dj.box d115) (Dj.box d121)))))))) ex609) (DomLe.dj dm623 (Dj.un_l (DomLe.dj dm586 (Dj.un_l d423 (Dj.un_l d435 (Dj.box d122))) ex458) (Dj.un_l (DomLe.dj dm591 (Dj.un_l d423 (Dj.un_l d435 (Dj.box d122))) ex458) (Dj.un_l (Dj.box d92) (Dj.un_l d402 (Dj.un_l (Dj.box d104) (Dj.un_l d412 (Dj.un_l (Dj.box d116) (Dj.box d122)))))))) ex610) (DomLe.dj dm623 (Dj.un_l (DomLe.dj dm586 (Dj.un_l d424 (Dj.un_l d436 (Dj.box d123))) ex459) (Dj.un_l (DomLe.dj dm591 (Dj.un_l d424 (Dj.un_l d436 (Dj.box d123))) ex459) (Dj.un_l (Dj.box d93) (Dj.un_l d403 (Dj.un_l (Dj.box d105) (Dj.un_l d413 (Dj.un_l (Dj.box d117) (Dj.box d123)))))))) ex611) d646 d647 d648 d649 (DomLe.dj dm623 (Dj.un_l (DomLe.dj dm586 (Dj.un_l d425 (Dj.un_l d437 (Dj.box d124))) ex462) (Dj.un_l (DomLe.dj dm591 (Dj.un_l d425 (Dj.un_l d437 (Dj.box d124))) ex462) (Dj.un_l (Dj.box d94) (Dj.un_l d404 (Dj.un_l (Dj.box d106) (Dj.un_l d414 (Dj.un_l (Dj.box d118) (Dj.box d124)))))))) ex616) (DomLe.dj dm623 (Dj.un_l (DomLe.dj dm586 (Dj.un_l d426 (Dj.un_l d438 (Dj.box d125))) ex463) (Dj.un_l (DomLe.dj dm591 (Dj.un_l d426 (Dj.un_l d438 (Dj.box d125))) ex463) (Dj.un_l (Dj.box d95) (Dj.un_l d405 (Dj.un_l (Dj.box d107) (Dj.un_l d415 (Dj.un_l (Dj.box d119) (Dj.box d125)))))))) ex617) (DomLe.dj dm628 (Dj.un_l (DomLe.dj dm586 (Dj.un_l d421 (Dj.un_l d433 (Dj.box d120))) ex455) (Dj.un_l (DomLe.dj dm591 (Dj.un_l d421 (Dj.un_l d433 (Dj.box d120))) ex455) (Dj.un_l (Dj.box d90) (Dj.un_l d400 (Dj.un_l (Dj.box d102) (Dj.un_l d410 (Dj.un_l (Dj.box d114) (Dj.box d120)))))))) ex607) d651 (DomLe.dj dm628 (Dj.un_l (DomLe.dj dm586 (Dj.un_l d422 (Dj.un_l d434 (Dj.box d121))) ex457) (Dj.un_l (DomLe.dj dm591 (Dj.un_l d422 (Dj.un_l d434 (Dj.box d121))) ex457) (Dj.un_l (Dj.box d91) (Dj.un_l d401 (Dj.un_l (Dj.box d103) (Dj.un_l d411 (Dj.un_l (Dj.box d115) (Dj.box d121)))))))) ex609) (DomLe.dj dm628 (Dj.un_l (DomLe.dj dm586 (Dj.un_l d423 (Dj.un_l d435 (Dj.box d122))) ex458) (Dj.un_l (DomLe.dj dm591 (Dj.un_l d423 (Dj.un_l d435 (Dj.box d122))) ex458) (Dj.un_l (Dj.box d92) (Dj.un_l d402 (Dj.un_l (Dj.box d104) (Dj.un_l d412 (Dj.un_l (Dj.box d116) (Dj.box d122)))))))) ex610) (DomLe.dj dm628 (Dj.un_l (DomLe.dj dm586 (Dj.un_l d424 (Dj.un_l d436 (Dj.box d123))) ex459) (Dj.un_l (DomLe.dj dm591 (Dj.un_l d424 (Dj.un_l d436 (Dj.box d123))) ex459) (Dj.un_l (Dj.box d93) (Dj.un_l d403 (Dj.un_l (Dj.box d105) (Dj.un_l d413 (Dj.un_l (Dj.box d117) (Dj.box d123)))))))) ex611) d652 d653 d654 d655 (DomLe.dj dm628 (Dj.un_l (DomLe.dj dm586 (Dj.un_l d425 (Dj.un_l d437 (Dj.box d124))) ex462) (Dj.un_l (DomLe.dj dm591 (Dj.un_l d425 (Dj.un_l d437 (Dj.box d124))) ex462) (Dj.un_l (Dj.box d94) (Dj.un_l d404 (Dj.un_l (Dj.box d106) (Dj.un_l d414 (Dj.un_l (Dj.box d118) (Dj.box d124)))))))) ex616) (DomLe.dj dm628 (Dj.un_l (DomLe.dj dm586 (Dj.un_l d426 (Dj.un_l d438 (Dj.box d125))) ex463) (Dj.un_l (DomLe.dj dm591 (Dj.un_l d426 (Dj.un_l d438 (Dj.box d125))) ex463) (Dj.un_l (Dj.box d95) (Dj.un_l d405 (Dj.un_l (Dj.box d107) (Dj.un_l d415 (Dj.un_l (Dj.box d119) (Dj.box d125)))))))) ex617) (Dj.box d120) (Dj.box (Dj.box d67.symm).symm).symm (Dj.box d121) (Dj.box d122) (Dj.box d123) d662.symm (Dj.box (Dj.box d74.symm).symm).symm d665.symm (Dj.box (Dj.box d77.symm).symm).symm (Dj.box d124) (Dj.box d125)) ?_
     rintro _ wx683 ⟨r675, r676, vx689, hx685, vx694, hx690, H, rfl, x684, HF⟩
     revert HF
     refine bb9 fun o686 ex687 dm688 o691 ex692 dm693 ex695 d696 => ?_
     refine bb2 fun d697 d698 => ?_
     obtain ⟨a699, c700, rfl⟩ := o686.shape
     obtain ⟨a701, c702, rfl⟩ := o691.shape
     refine LP_end _ rfl ?_
     refine W_seq ?_
     refine W_region ?_
     refine LP_ev ok 0 [(108, .bool r601), (109, .bool (!r601))] 2 rfl rfl ?_
     refine LP_end _ rfl ?_
     refine W_cond (!r601) rfl (fun hc703 => ?_) (fun hc703 => ?_)
     ·have H := H.1 hc703
      refine W_seq ?_
      refine W_region ?_
      refine LP_ev ok 0 [(6, .bool false)] 1 rfl rfl ?_
      refine LP_end _ rfl ?_
      refine W_ret ?_
      have X704 := (X469.step x582 (DomLe.un f374 (DomLe.un f380 (DomLe.dom D132 single_dom))))
      have X705 := (X704.step x619 (DomLe.un (DomLe.trans (DomLe.un f374 (DomLe.un f380 (DomLe.dom D132 single_dom))) dm586 X469.size) (DomLe.un (DomLe.trans (DomLe.un f374 (DomLe.un f380 (DomLe.dom D132 single_dom))) dm591 X469.size) (DomLe.un (DomLe.dom D127 single_dom) (DomLe.un f362 (DomLe.un (DomLe.dom D129 single_dom) (DomLe.un f368 (DomLe.un (DomLe.dom D131 single_dom) (DomLe.dom D132 single_dom)))))))))
      have ex706 := (ex630.but x684 (Dj.un_l d645 (Dj.un_l d651 (Dj.box (Dj.box d67.symm).symm).symm)))
      have ex707 := (ex633.but x684 (Dj.un_l d646 (Dj.un_l d652 d662.symm)))
      have ex708 := (ex636.but x684 (Dj.un_l d647 (Dj.un_l d653 (Dj.box (Dj.box d74.symm).symm).symm)))
      have ex709 := (ex639.but x684 (Dj.un_l d648 (Dj.un_l d654 d665.symm)))
      have ex710 := (ex642.but x684 (Dj.un_l d649 (Dj.un_l d655 (Dj.box (Dj.box d77.symm).symm).symm)))
      have X711 := (X705.step x684 (DomLe.un (DomLe.trans (DomLe.un (DomLe.trans (DomLe.un f374 (DomLe.un f380 (DomLe.dom D132 single_dom))) dm586 X469.size) (DomLe.un (DomLe.trans (DomLe.un f374 (DomLe.un f380 (DomLe.dom D132 single_dom))) dm591 X469.size) (DomLe.un (DomLe.dom D127 single_dom) (DomLe.un f362 (DomLe.un (DomLe.dom D129 single_dom) (DomLe.un f368 (DomLe.un (DomLe.dom D131 single_dom) (DomLe.dom D132 single_dom)))))))) dm623 X704.size) (DomLe.un (DomLe.trans (DomLe.un (DomLe.trans (DomLe.un f374 (DomLe.un f380 (DomLe.dom D132 single_dom))) dm586 X469.size) (DomLe.un (DomLe.trans (DomLe.un f374 (DomLe.un f380 (DomLe.dom D132 single_dom))) dm591 X469.size) (DomLe.un (DomLe.dom D127 single_dom) (DomLe.un f362 (DomLe.un (DomLe.dom D129 single_dom) (DomLe.un f368 (DomLe.un (DomLe.dom D131 single_dom) (DomLe.dom D132 single_dom)))))))) dm628 X704.size) (DomLe.dom D132 single_dom))))
      subst hM
      exact ⟨_, Ret_of [.bool false] ⟨⟨rfl, rfl⟩, trivial⟩, _, _, _, _, _, _, _, _, _, _, _, _, _, _, H, rfl, X711, o686, ex687, (DomLe.trans (DomLe.un (DomLe.trans (DomLe.un (DomLe.trans (DomLe.un f374 (DomLe.un f380 (DomLe.dom D132 single_dom))) dm586 X469.size) (DomLe.un (DomLe.trans (DomLe.un f374 (DomLe.un f380 (DomLe.dom D132 single_dom))) dm591 X469.size) (DomLe.un (DomLe.dom D127 single_dom) (DomLe.un f362 (DomLe.un (DomLe.dom D129 single_dom) (DomLe.un f368 (DomLe.un (DomLe.dom D131 single_dom) (DomLe.dom D132 single_dom)))))))) dm623 X704.size) (DomLe.un (DomLe.trans (DomLe.un (DomLe.trans (DomLe.un f374 (DomLe.un f380 (DomLe.dom D132 single_dom))) dm586 X469.size) (DomLe.un (DomLe.trans (DomLe.un f374 (DomLe.un f380 (DomLe.dom D132 single_dom))) dm591 X469.size) (DomLe.un (DomLe.dom D127 single_dom) (DomLe.un f362 (DomLe.un (DomLe.dom D129 single_dom) (DomLe.un f368 (DomLe.un (DomLe.dom D131 single_dom) (DomLe.dom D132 single_dom)))))))) dm628 X704.size) (DomLe.dom D132 single_dom))) dm688 X705.size), o691, ex692, (DomLe.trans (DomLe.un (DomLe.trans (DomLe.un (DomLe.trans (DomLe.un f374 (DomLe.un f380 (DomLe.dom D132 single_dom))) dm586 X469.size) (DomLe.un (DomLe.trans (DomLe.un f374 (DomLe.un f380 (DomLe.dom D132 single_dom))) dm591 X469.size) (DomLe.un (DomLe.dom D127 single_dom) (DomLe.un f362 (DomLe.un (DomLe.dom D129 single_dom) (DomLe.un f368 (DomLe.un (DomLe.dom D131 single_dom) (DomLe.dom D132 single_dom)))))))) dm623 X704.size) (DomLe.un (DomLe.trans (DomLe.un (DomLe.trans (DomLe.un f374 (DomLe.un f380 (DomLe.dom D132 single_dom))) dm586 X469.size) (DomLe.un (DomLe.trans (DomLe.un f374 (DomLe.un f380 (DomLe.dom D132 single_dom))) dm591 X469.size) (DomLe.un (DomLe.dom D127 single_dom) (DomLe.un f362 (DomLe.un (DomLe.dom D129 single_dom) (DomLe.un f368 (DomLe.un (DomLe.dom D131 single_dom) (DomLe.dom D132 single_dom)))))))) dm628 X704.size) (DomLe.dom D132 single_dom))) dm693 X705.size), ex706, o632, ex707, (DomLe.trans (DomLe.un (DomLe.trans (DomLe.un f374 (DomLe.un f380 (DomLe.dom D132 single_dom))) dm586 X469.size) (DomLe.un (DomLe.trans (DomLe.un f374 (DomLe.un f380 (DomLe.dom D132 single_dom))) dm591 X469.size) (DomLe.un (DomLe.dom D127 single_dom) (DomLe.un f362 (DomLe.un (DomLe.dom D129 single_dom) (DomLe.un f368 (DomLe.un (DomLe.dom D131 single_dom) (DomLe.dom D132 single_dom)))))))) dm634 X704.size), ex708, o638, ex709, (DomLe.trans (DomLe.un (DomLe.trans (DomLe.un f374 (DomLe.un f380 (DomLe.dom D132 single_dom))) dm586 X469.size) (DomLe.un (DomLe.trans (DomLe.un f374 (DomLe.un f380 (DomLe.dom D132 single_dom))) dm591 X469.size) (DomLe.un (DomLe.dom D127 single_dom) (DomLe.un f362 (DomLe.un (DomLe.dom D129 single_dom) (DomLe.un f368 (DomLe.un (DomLe.dom D131 single_dom) (DomLe.dom D132 single_dom)))))))) dm640 X704.size), ex710, ex695, d696, (DomLe.dj dm688 (Dj.un_l d645 (Dj.un_l d651 (Dj.box (Dj.box d67.symm).symm).symm)) ex630), (DomLe.dj dm688 (Dj.un_l d646 (Dj.un_l d652 d662.symm)) ex633), (DomLe.dj dm688 (Dj.un_l d647 (Dj.un_l d653 (Dj.box (Dj.box d74.symm).symm).symm)) ex636), (DomLe.dj dm688 (Dj.un_l d648 (Dj.un_l d654 d665.symm)) ex639), (DomLe.dj dm688 (Dj.un_l d649 (Dj.un_l d655 (Dj.box (Dj.box d77.symm).symm).symm)) ex642), d697, (DomLe.dj dm693 (Dj.un_l d645 (Dj.un_l d651 (Dj.box (Dj.box d67.symm).symm).symm)) ex630), (DomLe.dj dm693 (Dj.un_l d646 (Dj.un_l d652 d662.symm)) ex633), (DomLe.dj dm693 (Dj.un_l d647 (Dj.un_l d653 (Dj.box (Dj.box d74.symm).symm).symm)) ex636), (DomLe.dj dm693 (Dj.un_l d648 (Dj.un_l d654 d665.symm)) ex639), (DomLe.dj dm693 (Dj.un_l d649 (Dj.un_l d655 (Dj.box (Dj.box d77.symm).symm).symm)) ex642), d698, d657, d658, d659, d660, d661, (Dj.box d662.symm).symm, d663, d664, (Dj.box d665.symm).symm, cn666⟩
     have H := H.2 hc703
     refine W_skip ?_
     refine W_region ?_
     refine LP_ev ok 0 [(56, I n), (57, I (wr (n + 1))), (9, I (wr (n + 1)))] 3 rfl rfl ?_
     refine LP_end _ rfl ?_
     try refine W_forget [(0, pb b49), (1, I k), (2, I left), (9, I (wr (n + 1)))] ⟨rfl, rfl, rfl, rfl, trivial⟩ fun ρ => ?_
     have X712 := (X469.step x582 (DomLe.un f374 (DomLe.un f380 (DomLe.dom D132 single_dom))))
     have X713 := (((X469.step x582 (DomLe.un f374 (DomLe.un f380 (DomLe.dom D132 single_dom)))).step x619 (DomLe.un (DomLe.trans (DomLe.un f374 (DomLe.un f380 (DomLe.dom D132 single_dom))) dm586 X469.size) (DomLe.un (DomLe.trans (DomLe.un f374 (DomLe.un f380 (DomLe.dom D132 single_dom))) dm591 X469.size) (DomLe.un (DomLe.dom D127 single_dom) (DomLe.un f362 (DomLe.un (DomLe.dom D129 single_dom) (DomLe.un f368 (DomLe.un (DomLe.dom D131 single_dom) (DomLe.dom D132 single_dom))))))))).step x684 (DomLe.un (DomLe.trans (DomLe.un (DomLe.trans (DomLe.un f374 (DomLe.un f380 (DomLe.dom D132 single_dom))) dm586 X469.size) (DomLe.un (DomLe.trans (DomLe.un f374 (DomLe.un f380 (DomLe.dom D132 single_dom))) dm591 X469.size) (DomLe.un (DomLe.dom D127 single_dom) (DomLe.un f362 (DomLe.un (DomLe.dom D129 single_dom) (DomLe.un f368 (DomLe.un (DomLe.dom D131 single_dom) (DomLe.dom D132 single_dom)))))))) dm623 X712.size) (DomLe.un (DomLe.trans (DomLe.un (DomLe.trans (DomLe.un f374 (DomLe.un f380 (DomLe.dom D132 single_dom))) dm586 X469.size) (DomLe.un (DomLe.trans (DomLe.un f374 (DomLe.un f380 (DomLe.dom D132 single_dom))) dm591 X469.size) (DomLe.un (DomLe.dom D127 single_dom) (DomLe.un f362 (DomLe.un (DomLe.dom D129 single_dom) (DomLe.un f368 (DomLe.un (DomLe.dom D131 single_dom) (DomLe.dom D132 single_dom)))))))) dm628 X712.size) (DomLe.dom D132 single_dom))))
     have ex714 := (ex633.but x684 (Dj.un_l d646 (Dj.un_l d652 d662.symm)))
     have ex715 := (ex639.but x684 (Dj.un_l d648 (Dj.un_l d654 d665.symm)))
     have X716 := (X712.step x619 (DomLe.un (DomLe.trans (DomLe.un f374 (DomLe.un f380 (DomLe.dom D132 single_dom))) dm586 X469.size) (DomLe.un (DomLe.trans (DomLe.un f374 (DomLe.un f380 (DomLe.dom D132 single_dom))) dm591 X469.size) (DomLe.un (DomLe.dom D127 single_dom) (DomLe.un f362 (DomLe.un (DomLe.dom D129 single_dom) (DomLe.un f368 (DomLe.un (DomLe.dom D131 single_dom) (DomLe.dom D132 single_dom)))))))))
     have ex717 := (ex677.but x684 (Dj.un_l (DomLe.dj dm623 (Dj.un_l (DomLe.dj dm586 (Dj.un_l d421 (Dj.un_l d433 (Dj.box d120))) ex455) (Dj.un_l (DomLe.dj dm591 (Dj.un_l d421 (Dj.un_l d433 (Dj.box d120))) ex455) (Dj.un_l (Dj.box d90) (Dj.un_l d400 (Dj.un_l (Dj.box d102) (Dj.un_l d410 (Dj.un_l (Dj.box d114) (Dj.box d120)))))))) ex607) (Dj.un_l (DomLe.dj dm628 (Dj.un_l (DomLe.dj dm586 (Dj.un_l d421 (Dj.un_l d433 (Dj.box d120))) ex455) (Dj.un_l (DomLe.dj dm591 (Dj.un_l d421 (Dj.un_l d433 (Dj.box d120))) ex455) (Dj.un_l (Dj.box d90) (Dj.un_l d400 (Dj.un_l (Dj.box d102) (Dj.un_l d410 (Dj.un_l (Dj.box d114) (Dj.box d120)))))))) ex607) (Dj.box d120))))
     have ex718 := (ex678.but x684 (Dj.un_l (DomLe.dj dm623 (Dj.un_l (DomLe.dj dm586 (Dj.un_l d422 (Dj.un_l d434 (Dj.box d121))) ex457) (Dj.un_l (DomLe.dj dm591 (Dj.un_l d422 (Dj.un_l d434 (Dj.box d121))) ex457) (Dj.un_l (Dj.box d91) (Dj.un_l d401 (Dj.un_l (Dj.box d103) (Dj.un_l d411 (Dj.un_l (Dj.box d115) (Dj.box d121)))))))) ex609) (Dj.un_l (DomLe.dj dm628 (Dj.un_l (DomLe.dj dm586 (Dj.un_l d422 (Dj.un_l d434 (Dj.box d121))) ex457) (Dj.un_l (DomLe.dj dm591 (Dj.un_l d422 (Dj.un_l d434 (Dj.box d121))) ex457) (Dj.un_l (Dj.box d91) (Dj.un_l d401 (Dj.un_l (Dj.box d103) (Dj.un_l d411 (Dj.un_l (Dj.box d115) (Dj.box d121)))))))) ex609) (Dj.box d121))))
     have ex719 := (ex679.but x684 (Dj.un_l (DomLe.dj dm623 (Dj.un_l (DomLe.dj dm586 (Dj.un_l d423 (Dj.un_l d435 (Dj.box d122))) ex458) (Dj.un_l (DomLe.dj dm591 (Dj.un_l d423 (Dj.un_l d435 (Dj.box d122))) ex458) (Dj.un_l (Dj.box d92) (Dj.un_l d402 (Dj.un_l (Dj.box d104) (Dj.un_l d412 (Dj.un_l (Dj.box d116) (Dj.box d122)))))))) ex610) (Dj.un_l (DomLe.dj dm628 (Dj.un_l (DomLe.dj dm586 (Dj.un_l d423 (Dj.un_l d435 (Dj.box d122))) ex458) (Dj.un_l (DomLe.dj dm591 (Dj.un_l d423 (Dj.un_l d435 (Dj.box d122))) ex458) (Dj.un_l (Dj.box d92) (Dj.un_l d402 (Dj.un_l (Dj.box d104) (Dj.un_l d412 (Dj.un_l (Dj.box d116) (Dj.box d122)))))))) ex610) (Dj.box d122))))
     have ex720 := (ex680.but x684 (Dj.un_l (DomLe.dj dm623 (Dj.un_l (DomLe.dj dm586 (Dj.un_l d424 (Dj.un_l d436 (Dj.box d123))) ex459) (Dj.un_l (DomLe.dj dm591 (Dj.un_l d424 (Dj.un_l d436 (Dj.box d123))) ex459) (Dj.un_l (Dj.box d93) (Dj.un_l d403 (Dj.un_l (Dj.box d105) (Dj.un_l d413 (Dj.un_l (Dj.box d117) (Dj.box d123)))))))) ex611) (Dj.un_l (DomLe.dj dm628 (Dj.un_l (DomLe.dj dm586 (Dj.un_l d424 (Dj.un_l d436 (Dj.box d123))) ex459) (Dj.un_l (DomLe.dj dm591 (Dj.un_l d424 (Dj.un_l d436 (Dj.box d123))) ex459) (Dj.un_l (Dj.box d93) (Dj.un_l d403 (Dj.un_l (Dj.box d105) (Dj.un_l d413 (Dj.un_l (Dj.box d117) (Dj.box d123)))))))) ex611) (Dj.box d123))))
     have ex721 := (ex681.but x684 (Dj.un_l (DomLe.dj dm623 (Dj.un_l (DomLe.dj dm586 (Dj.un_l d425 (Dj.un_l d437 (Dj.box d124))) ex462) (Dj.un_l (DomLe.dj dm591 (Dj.un_l d425 (Dj.un_l d437 (Dj.box d124))) ex462) (Dj.un_l (Dj.box d94) (Dj.un_l d404 (Dj.un_l (Dj.box d106) (Dj.un_l d414 (Dj.un_l (Dj.box d118) (Dj.box d124)))))))) ex616) (Dj.un_l (DomLe.dj dm628 (Dj.un_l (DomLe.dj dm586 (Dj.un_l d425 (Dj.un_l d437 (Dj.box d124))) ex462) (Dj.un_l (DomLe.dj dm591 (Dj.un_l d425 (Dj.un_l d437 (Dj.box d124))) ex462) (Dj.un_l (Dj.box d94) (Dj.un_l d404 (Dj.un_l (Dj.box d106) (Dj.un_l d414 (Dj.un_l (Dj.box d118) (Dj.box d124)))))))) ex616) (Dj.box d124))))
     have ex722 := (ex682.but x684 (Dj.un_l (DomLe.dj dm623 (Dj.un_l (DomLe.dj dm586 (Dj.un_l d426 (Dj.un_l d438 (Dj.box d125))) ex463) (Dj.un_l (DomLe.dj dm591 (Dj.un_l d426 (Dj.un_l d438 (Dj.box d125))) ex463) (Dj.un_l (Dj.box d95) (Dj.un_l d405 (Dj.un_l (Dj.box d107) (Dj.un_l d415 (Dj.un_l (Dj.box d119) (Dj.box d125)))))))) ex617) (Dj.un_l (DomLe.dj dm628 (Dj.un_l (DomLe.dj dm586 (Dj.un_l d426 (Dj.un_l d438 (Dj.box d125))) ex463) (Dj.un_l (DomLe.dj dm591 (Dj.un_l d426 (Dj.un_l d438 (Dj.box d125))) ex463) (Dj.un_l (Dj.box d95) (Dj.un_l d405 (Dj.un_l (Dj.box d107) (Dj.un_l d415 (Dj.un_l (Dj.box d119) (Dj.box d125)))))))) ex617) (Dj.box d125))))
     have ex723 := (ex630.but x684 (Dj.un_l d645 (Dj.un_l d651 (Dj.box (Dj.box d67.symm).symm).symm)))
     have ex724 := (ex636.but x684 (Dj.un_l d647 (Dj.un_l d653 (Dj.box (Dj.box d74.symm).symm).symm)))
     have ex725 := (ex642.but x684 (Dj.un_l d649 (Dj.un_l d655 (Dj.box (Dj.box d77.symm).symm).symm)))
     exact ⟨(wr (n + 1), r604, r605, r606, r675, r676), ⟨H.1, _, sl a671 r605 c672, hx631, sl a673 r606 c674, hx637, sl a699 r675 c700, hx685, sl a701 r676 c702, hx690, env_eq ⟨rfl, rfl, rfl, rfl, trivial⟩, X713, o632, ex714, (DomLe.trans (DomLe.un (DomLe.trans (DomLe.un f374 (DomLe.un f380 (DomLe.dom D132 single_dom))) dm586 X469.size) (DomLe.un (DomLe.trans (DomLe.un f374 (DomLe.un f380 (DomLe.dom D132 single_dom))) dm591 X469.size) (DomLe.un (DomLe.dom D127 single_dom) (DomLe.un f362 (DomLe.un (DomLe.dom D129 single_dom) (DomLe.un f368 (DomLe.un (DomLe.dom D131 single_dom) (DomLe.dom D132 single_dom)))))))) dm634 X712.size), o638, ex715, (DomLe.trans (DomLe.un (DomLe.trans (DomLe.un f374 (DomLe.un f380 (DomLe.dom D132 single_dom))) dm586 X469.size) (DomLe.un (DomLe.trans (DomLe.un f374 (DomLe.un f380 (DomLe.dom D132 single_dom))) dm591 X469.size) (DomLe.un (DomLe.dom D127 single_dom) (DomLe.un f362 (DomLe.un (DomLe.dom D129 single_dom) (DomLe.un f368 (DomLe.un (DomLe.dom D131 single_dom) (DomLe.dom D132 single_dom)))))))) dm640 X712.size), o686, ex687, (DomLe.trans (DomLe.un (DomLe.trans (DomLe.un (DomLe.trans (DomLe.un f374 (DomLe.un f380 (DomLe.dom D132 single_dom))) dm586 X469.size) (DomLe.un (DomLe.trans (DomLe.un f374 (DomLe.un f380 (DomLe.dom D132 single_dom))) dm591 X469.size) (DomLe.un (DomLe.dom D127 single_dom) (DomLe.un f362 (DomLe.un (DomLe.dom D129 single_dom) (DomLe.un f368 (DomLe.un (DomLe.dom D131 single_dom) (DomLe.dom D132 single_dom)))))))) dm623 X712.size) (DomLe.un (DomLe.trans (DomLe.un (DomLe.trans (DomLe.un f374 (DomLe.un f380 (DomLe.dom D132 single_dom))) dm586 X469.size) (DomLe.un (DomLe.trans (DomLe.un f374 (DomLe.un f380 (DomLe.dom D132 single_dom))) dm591 X469.size) (DomLe.un (DomLe.dom D127 single_dom) (DomLe.un f362 (DomLe.un (DomLe.dom D129 single_dom) (DomLe.un f368 (DomLe.un (DomLe.dom D131 single_dom) (DomLe.dom D132 single_dom)))))))) dm628 X712.size) (DomLe.dom D132 single_dom))) dm688 X716.size), o691, ex692, (DomLe.trans (DomLe.un (DomLe.trans (DomLe.un (DomLe.trans (DomLe.un f374 (DomLe.un f380 (DomLe.dom D132 single_dom))) dm586 X469.size) (DomLe.un (DomLe.trans (DomLe.un f374 (DomLe.un f380 (DomLe.dom D132 single_dom))) dm591 X469.size) (DomLe.un (DomLe.dom D127 single_dom) (DomLe.un f362 (DomLe.un (DomLe.dom D129 single_dom) (DomLe.un f368 (DomLe.un (DomLe.dom D131 single_dom) (DomLe.dom D132 single_dom)))))))) dm623 X712.size) (DomLe.un (DomLe.trans (DomLe.un (DomLe.trans (DomLe.un f374 (DomLe.un f380 (DomLe.dom D132 single_dom))) dm586 X469.size) (DomLe.un (DomLe.trans (DomLe.un f374 (DomLe.un f380 (DomLe.dom D132 single_dom))) dm591 X469.size) (DomLe.un (DomLe.dom D127 single_dom) (DomLe.un f362 (DomLe.un (DomLe.dom D129 single_dom) (DomLe.un f368 (DomLe.un (DomLe.dom D131 single_dom) (DomLe.dom D132 single_dom)))))))) dm628 X712.size) (DomLe.dom D132 single_dom))) dm693 X716.size), ex717, ex718, ex719, ex720, ex721, ex722, ex723, ex724, ex725, ex695, (DomLe.dj dm634 (Dj.un_l (DomLe.dj dm586 (Dj.un_l d421 (Dj.un_l d433 (Dj.box d120))) ex455) (Dj.un_l (DomLe.dj dm591 (Dj.un_l d421 (Dj.un_l d433 (Dj.box d120))) ex455) (Dj.un_l (Dj.box d90) (Dj.un_l d400 (Dj.un_l (Dj.box d102) (Dj.un_l d410 (Dj.un_l (Dj.box d114) (Dj.box d120)))))))) ex607), (DomLe.dj dm634 (Dj.un_l (DomLe.dj dm586 (Dj.un_l d422 (Dj.un_l d434 (Dj.box d121))) ex457) (Dj.un_l (DomLe.dj dm591 (Dj.un_l d422 (Dj.un_l d434 (Dj.box d121))) ex457) (Dj.un_l (Dj.box d91) (Dj.un_l d401 (Dj.un_l (Dj.box d103) (Dj.un_l d411 (Dj.un_l (Dj.box d115) (Dj.box d121)))))))) ex609), (DomLe.dj dm634 (Dj.un_l (DomLe.dj dm586 (Dj.un_l d423 (Dj.un_l d435 (Dj.box d122))) ex458) (Dj.un_l (DomLe.dj dm591 (Dj.un_l d423 (Dj.un_l d435 (Dj.box d122))) ex458) (Dj.un_l (Dj.box d92) (Dj.un_l d402 (Dj.un_l (Dj.box d104) (Dj.un_l d412 (Dj.un_l (Dj.box d116) (Dj.box d122)))))))) ex610), (DomLe.dj dm634 (Dj.un_l (DomLe.dj dm586 (Dj.un_l d424 (Dj.un_l d436 (Dj.box d123))) ex459) (Dj.un_l (DomLe.dj dm591 (Dj.un_l d424 (Dj.un_l d436 (Dj.box d123))) ex459) (Dj.un_l (Dj.box d93) (Dj.un_l d403 (Dj.un_l (Dj.box d105) (Dj.un_l d413 (Dj.un_l (Dj.box d117) (Dj.box d123)))))))) ex611), (DomLe.dj dm634 (Dj.un_l (DomLe.dj dm586 (Dj.un_l d425 (Dj.un_l d437 (Dj.box d124))) ex462) (Dj.un_l (DomLe.dj dm591 (Dj.un_l d425 (Dj.un_l d437 (Dj.box d124))) ex462) (Dj.un_l (Dj.box d94) (Dj.un_l d404 (Dj.un_l (Dj.box d106) (Dj.un_l d414 (Dj.un_l (Dj.box d118) (Dj.box d124)))))))) ex616), (DomLe.dj dm634 (Dj.un_l (DomLe.dj dm586 (Dj.un_l d426 (Dj.un_l d438 (Dj.box d125))) ex463) (Dj.un_l (DomLe.dj dm591 (Dj.un_l d426 (Dj.un_l d438 (Dj.box d125))) ex463) (Dj.un_l (Dj.box d95) (Dj.un_l d405 (Dj.un_l (Dj.box d107) (Dj.un_l d415 (Dj.un_l (Dj.box d119) (Dj.box d125)))))))) ex617), d657.symm, d659, d661, (Dj.box d662.symm).symm, (DomLe.dj dm640 (Dj.un_l (DomLe.dj dm586 (Dj.un_l d421 (Dj.un_l d433 (Dj.box d120))) ex455) (Dj.un_l (DomLe.dj dm591 (Dj.un_l d421 (Dj.un_l d433 (Dj.box d120))) ex455) (Dj.un_l (Dj.box d90) (Dj.un_l d400 (Dj.un_l (Dj.box d102) (Dj.un_l d410 (Dj.un_l (Dj.box d114) (Dj.box d120)))))))) ex607), (DomLe.dj dm640 (Dj.un_l (DomLe.dj dm586 (Dj.un_l d422 (Dj.un_l d434 (Dj.box d121))) ex457) (Dj.un_l (DomLe.dj dm591 (Dj.un_l d422 (Dj.un_l d434 (Dj.box d121))) ex457) (Dj.un_l (Dj.box d91) (Dj.un_l d401 (Dj.un_l (Dj.box d103) (Dj.un_l d411 (Dj.un_l (Dj.box d115) (Dj.box d121)))))))) ex609), (DomLe.dj dm640 (Dj.un_l (DomLe.dj dm586 (Dj.un_l d423 (Dj.un_l d435 (Dj.box d122))) ex458) (Dj.un_l (DomLe.dj dm591 (Dj.un_l d423 (Dj.un_l d435 (Dj.box d122))) ex458) (Dj.un_l (Dj.box d92) (Dj.un_l d402 (Dj.un_l (Dj.box d104) (Dj.un_l d412 (Dj.un_l (Dj.box d116) (Dj.box d122)))))))) ex610), (DomLe.dj dm640 (Dj.un_l (DomLe.dj dm586 (Dj.un_l d424 (Dj.un_l d436 (Dj.box d123))) ex459) (Dj.un_l (DomLe.dj dm591 (Dj.un_l d424 (Dj.un_l d436 (Dj.box d123))) ex459) (Dj.un_l (Dj.box d93) (Dj.un_l d403 (Dj.un_l (Dj.box d105) (Dj.un_l d413 (Dj.un_l (Dj.box d117) (Dj.box d123)))))))) ex611), (DomLe.dj dm640 (Dj.un_l (DomLe.dj dm586 (Dj.un_l d425 (Dj.un_l d437 (Dj.box d124))) ex462) (Dj.un_l (DomLe.dj dm591 (Dj.un_l d425 (Dj.un_l d437 (Dj.box d124))) ex462) (Dj.un_l (Dj.box d94) (Dj.un_l d404 (Dj.un_l (Dj.box d106) (Dj.un_l d414 (Dj.un_l (Dj.box d118) (Dj.box d124)))))))) ex616), (DomLe.dj dm640 (Dj.un_l (DomLe.dj dm586 (Dj.un_l d426 (Dj.un_l d438 (Dj.box d125))) ex463) (Dj.un_l (DomLe.dj dm591 (Dj.un_l d426 (Dj.un_l d438 (Dj.box d125))) ex463) (Dj.un_l (Dj.box d95) (Dj.un_l d405 (Dj.un_l (Dj.box d107) (Dj.un_l d415 (Dj.un_l (Dj.box d119) (Dj.box d125)))))))) ex617), d658.symm, d663.symm, d664, (Dj.box d665.symm).symm, d660.symm, (DomLe.dj dm688 (Dj.un_l (DomLe.dj dm623 (Dj.un_l (DomLe.dj dm586 (Dj.un_l d421 (Dj.un_l d433 (Dj.box d120))) ex455) (Dj.un_l (DomLe.dj dm591 (Dj.un_l d421 (Dj.un_l d433 (Dj.box d120))) ex455) (Dj.un_l (Dj.box d90) (Dj.un_l d400 (Dj.un_l (Dj.box d102) (Dj.un_l d410 (Dj.un_l (Dj.box d114) (Dj.box d120)))))))) ex607) (Dj.un_l (DomLe.dj dm628 (Dj.un_l (DomLe.dj dm586 (Dj.un_l d421 (Dj.un_l d433 (Dj.box d120))) ex455) (Dj.un_l (DomLe.dj dm591 (Dj.un_l d421 (Dj.un_l d433 (Dj.box d120))) ex455) (Dj.un_l (Dj.box d90) (Dj.un_l d400 (Dj.un_l (Dj.box d102) (Dj.un_l d410 (Dj.un_l (Dj.box d114) (Dj.box d120)))))))) ex607) (Dj.box d120))) ex677), (DomLe.dj dm688 (Dj.un_l (DomLe.dj dm623 (Dj.un_l (DomLe.dj dm586 (Dj.un_l d422 (Dj.un_l d434 (Dj.box d121))) ex457) (Dj.un_l (DomLe.dj dm591 (Dj.un_l d422 (Dj.un_l d434 (Dj.box d121))) ex457) (Dj.un_l (Dj.box d91) (Dj.un_l d401 (Dj.un_l (Dj.box d103) (Dj.un_l d411 (Dj.un_l (Dj.box d115) (Dj.box d121)))))))) ex609) (Dj.un_l (DomLe.dj dm628 (Dj.un_l (DomLe.dj dm586 (Dj.un_l d422 (Dj.un_l d434 (Dj.box d121))) ex457) (Dj.un_l (DomLe.dj dm591 (Dj.un_l d422 (Dj.un_l d434 (Dj.box d121))) ex457) (Dj.un_l (Dj.box d91) (Dj.un_l d401 (Dj.un_l (Dj.box d103) (Dj.un_l d411 (Dj.un_l (Dj.box d115) (Dj.box d121)))))))) ex609) (Dj.box d121))) ex678), (DomLe.dj dm688 (Dj.un_l (DomLe.dj dm623 (Dj.un_l (DomLe.dj dm586 (Dj.un_l d423 (Dj.un_l d435 (Dj.box d122))) ex458) (Dj.un_l (DomLe.dj dm591 (Dj.un_l d423 (Dj.un_l d435 (Dj.box d122))) ex458) (Dj.un_l (Dj.box d92) (Dj.un_l d402 (Dj.un_l (Dj.box d104) (Dj.un_l d412 (Dj.un_l (Dj.box d116) (Dj.box d122)))))))) ex610) (Dj.un_l (DomLe.dj dm628 (Dj.un_l (DomLe.dj dm586 (Dj.un_l d423 (Dj.un_l d435 (Dj.box d122))) ex458) (Dj.un_l (DomLe.dj dm591 (Dj.un_l d423 (Dj.un_l d435 (Dj.box d122))) ex458) (Dj.un_l (Dj.box d92) (Dj.un_l d402 (Dj.un_l (Dj.box d104) (Dj.un_l d412 (Dj.un_l (Dj.box d116) (Dj.box d122)))))))) ex610) (Dj.box d122))) ex679), (DomLe.dj dm688 (Dj.un_l (DomLe.dj dm623 (Dj.un_l (DomLe.dj dm586 (Dj.un_l d424 (Dj.un_l d436 (Dj.box d123))) ex459) (Dj.un_l (DomLe.dj dm591 (Dj.un_l d424 (Dj.un_l d436 (Dj.box d123))) ex459) (Dj.un_l (Dj.box d93) (Dj.un_l d403 (Dj.un_l (Dj.box d105) (Dj.un_l d413 (Dj.un_l (Dj.box d117) (Dj.box d123)))))))) ex611) (Dj.un_l (DomLe.dj dm628 (Dj.un_l (DomLe.dj dm586 (Dj.un_l d424 (Dj.un_l d436 (Dj.box d123))) ex459) (Dj.un_l (DomLe.dj dm591 (Dj.un_l d424 (Dj.un_l d436 (Dj.box d123))) ex459) (Dj.un_l (Dj.box d93) (Dj.un_l d403 (Dj.un_l (Dj.box d105) (Dj.un_l d413 (Dj.un_l (Dj.box d117) (Dj.box d123)))))))) ex611) (Dj.box d123))) ex680), (DomLe.dj dm688 (Dj.un_l (DomLe.dj dm623 (Dj.un_l (DomLe.dj dm586 (Dj.un_l d425 (Dj.un_l d437 (Dj.box d124))) ex462) (Dj.un_l (DomLe.dj dm591 (Dj.un_l d425 (Dj.un_l d437 (Dj.box d124))) ex462) (Dj.un_l (Dj.box d94) (Dj.un_l d404 (Dj.un_l (Dj.box d106) (Dj.un_l d414 (Dj.un_l (Dj.box d118) (Dj.box d124)))))))) ex616) (Dj.un_l (DomLe.dj dm628 (Dj.un_l (DomLe.dj dm586 (Dj.un_l d425 (Dj.un_l d437 (Dj.box d124))) ex462) (Dj.un_l (DomLe.dj dm591 (Dj.un_l d425 (Dj.un_l d437 (Dj.box d124))) ex462) (Dj.un_l (Dj.box d94) (Dj.un_l d404 (Dj.un_l (Dj.box d106) (Dj.un_l d414 (Dj.un_l (Dj.box d118) (Dj.box d124)))))))) ex616) (Dj.box d124))) ex681), (DomLe.dj dm688 (Dj.un_l (DomLe.dj dm623 (Dj.un_l (DomLe.dj dm586 (Dj.un_l d426 (Dj.un_l d438 (Dj.box d125))) ex463) (Dj.un_l (DomLe.dj dm591 (Dj.un_l d426 (Dj.un_l d438 (Dj.box d125))) ex463) (Dj.un_l (Dj.box d95) (Dj.un_l d405 (Dj.un_l (Dj.box d107) (Dj.un_l d415 (Dj.un_l (Dj.box d119) (Dj.box d125)))))))) ex617) (Dj.un_l (DomLe.dj dm628 (Dj.un_l (DomLe.dj dm586 (Dj.un_l d426 (Dj.un_l d438 (Dj.box d125))) ex463) (Dj.un_l (DomLe.dj dm591 (Dj.un_l d426 (Dj.un_l d438 (Dj.box d125))) ex463) (Dj.un_l (Dj.box d95) (Dj.un_l d405 (Dj.un_l (Dj.box d107) (Dj.un_l d415 (Dj.un_l (Dj.box d119) (Dj.box d125)))))))) ex617) (Dj.box d125))) ex682), (DomLe.dj dm688 (Dj.un_l d645 (Dj.un_l d651 (Dj.box (Dj.box d67.symm).symm).symm)) ex630), (DomLe.dj dm688 (Dj.un_l d647 (Dj.un_l d653 (Dj.box (Dj.box d74.symm).symm).symm)) ex636), (DomLe.dj dm688 (Dj.un_l d649 (Dj.un_l d655 (Dj.box (Dj.box d77.symm).symm).symm)) ex642), d697, (DomLe.dj dm688 (Dj.un_l d646 (Dj.un_l d652 d662.symm)) ex633), (DomLe.dj dm688 (Dj.un_l d648 (Dj.un_l d654 d665.symm)) ex639), (DomLe.dj dm693 (Dj.un_l (DomLe.dj dm623 (Dj.un_l (DomLe.dj dm586 (Dj.un_l d421 (Dj.un_l d433 (Dj.box d120))) ex455) (Dj.un_l (DomLe.dj dm591 (Dj.un_l d421 (Dj.un_l d433 (Dj.box d120))) ex455) (Dj.un_l (Dj.box d90) (Dj.un_l d400 (Dj.un_l (Dj.box d102) (Dj.un_l d410 (Dj.un_l (Dj.box d114) (Dj.box d120)))))))) ex607) (Dj.un_l (DomLe.dj dm628 (Dj.un_l (DomLe.dj dm586 (Dj.un_l d421 (Dj.un_l d433 (Dj.box d120))) ex455) (Dj.un_l (DomLe.dj dm591 (Dj.un_l d421 (Dj.un_l d433 (Dj.box d120))) ex455) (Dj.un_l (Dj.box d90) (Dj.un_l d400 (Dj.un_l (Dj.box d102) (Dj.un_l d410 (Dj.un_l (Dj.box d114) (Dj.box d120)))))))) ex607) (Dj.box d120))) ex677), (DomLe.dj dm693 (Dj.un_l (DomLe.dj dm623 (Dj.un_l (DomLe.dj dm586 (Dj.un_l d422 (Dj.un_l d434 (Dj.box d121))) ex457) (Dj.un_l (DomLe.dj dm591 (Dj.un_l d422 (Dj.un_l d434 (Dj.box d121))) ex457) (Dj.un_l (Dj.box d91) (Dj.un_l d401 (Dj.un_l (Dj.box d103) (Dj.un_l d411 (Dj.un_l (Dj.box d115) (Dj.box d121)))))))) ex609) (Dj.un_l (DomLe.dj dm628 (Dj.un_l (DomLe.dj dm586 (Dj.un_l d422 (Dj.un_l d434 (Dj.box d121))) ex457) (Dj.un_l (DomLe.dj dm591 (Dj.un_l d422 (Dj.un_l d434 (Dj.box d121))) ex457) (Dj.un_l (Dj.box d91) (Dj.un_l d401 (Dj.un_l (Dj.box d103) (Dj.un_l d411 (Dj.un_l (Dj.box d115) (Dj.box d121)))))))) ex609) (Dj.box d121))) ex678), (DomLe.dj dm693 (Dj.un_l (DomLe.dj dm623 (Dj.un_l (DomLe.dj dm586 (Dj.un_l d423 (Dj.un_l d435 (Dj.box d122))) ex458) (Dj.un_l (DomLe.dj dm591 (Dj.un_l d423 (Dj.un_l d435 (Dj.box d122))) ex458) (Dj.un_l (Dj.box d92) (Dj.un_l d402 (Dj.un_l (Dj.box d104) (Dj.un_l d412 (Dj.un_l (Dj.box d116) (Dj.box d122)))))))) ex610) (Dj.un_l (DomLe.dj dm628 (Dj.un_l (DomLe.dj dm586 (Dj.un_l d423 (Dj.un_l d435 (Dj.box d122))) ex458) (Dj.un_l (DomLe.dj dm591 (Dj.un_l d423 (Dj.un_l d435 (Dj.box d122))) ex458) (Dj.un_l (Dj.box d92) (Dj.un_l d402 (Dj.un_l (Dj.box d104) (Dj.un_l d412 (Dj.un_l (Dj.box d116) (Dj.box d122)))))))) ex610) (Dj.box d122))) ex679), (DomLe.dj dm693 (Dj.un_l (DomLe.dj dm623 (Dj.un_l (DomLe.dj dm586 (Dj.un_l d424 (Dj.un_l d436 (Dj.box d123))) ex459) (Dj.un_l (DomLe.dj dm591 (Dj.un_l d424 (Dj.un_l d436 (Dj.box d123))) ex459) (Dj.un_l (Dj.box d93) (Dj.un_l d403 (Dj.un_l (Dj.box d105) (Dj.un_l d413 (Dj.un_l (Dj.box d117) (Dj.box d123)))))))) ex611) (Dj.un_l (DomLe.dj dm628 (Dj.un_l (DomLe.dj dm586 (Dj.un_l d424 (Dj.un_l d436 (Dj.box d123))) ex459) (Dj.un_l (DomLe.dj dm591 (Dj.un_l d424 (Dj.un_l d436 (Dj.box d123))) ex459) (Dj.un_l (Dj.box d93) (Dj.un_l d403 (Dj.un_l (Dj.box d105) (Dj.un_l d413 (Dj.un_l (Dj.box d117) (Dj.box d123)))))))) ex611) (Dj.box d123))) ex680), (DomLe.dj dm693 (Dj.un_l (DomLe.dj dm623 (Dj.un_l (DomLe.dj dm586 (Dj.un_l d425 (Dj.un_l d437 (Dj.box d124))) ex462) (Dj.un_l (DomLe.dj dm591 (Dj.un_l d425 (Dj.un_l d437 (Dj.box d124))) ex462) (Dj.un_l (Dj.box d94) (Dj.un_l d404 (Dj.un_l (Dj.box d106) (Dj.un_l d414 (Dj.un_l (Dj.box d118) (Dj.box d124)))))))) ex616) (Dj.un_l (DomLe.dj dm628 (Dj.un_l (DomLe.dj dm586 (Dj.un_l d425 (Dj.un_l d437 (Dj.box d124))) ex462) (Dj.un_l (DomLe.dj dm591 (Dj.un_l d425 (Dj.un_l d437 (Dj.box d124))) ex462) (Dj.un_l (Dj.box d94) (Dj.un_l d404 (Dj.un_l (Dj.box d106) (Dj.un_l d414 (Dj.un_l (Dj.box d118) (Dj.box d124)))))))) ex616) (Dj.box d124))) ex681), (DomLe.dj dm693 (Dj.un_l (DomLe.dj dm623 (Dj.un_l (DomLe.dj dm586 (Dj.un_l d426 (Dj.un_l d438 (Dj.box d125))) ex463) (Dj.un_l (DomLe.dj dm591 (Dj.un_l d426 (Dj.un_l d438 (Dj.box d125))) ex463) (Dj.un_l (Dj.box d95) (Dj.un_l d405 (Dj.un_l (Dj.box d107) (Dj.un_l d415 (Dj.un_l (Dj.box d119) (Dj.box d125)))))))) ex617) (Dj.un_l (DomLe.dj dm628 (Dj.un_l (DomLe.dj dm586 (Dj.un_l d426 (Dj.un_l d438 (Dj.box d125))) ex463) (Dj.un_l (DomLe.dj dm591 (Dj.un_l d426 (Dj.un_l d438 (Dj.box d125))) ex463) (Dj.un_l (Dj.box d95) (Dj.un_l d405 (Dj.un_l (Dj.box d107) (Dj.un_l d415 (Dj.un_l (Dj.box d119) (Dj.box d125)))))))) ex617) (Dj.box d125))) ex682), (DomLe.dj dm693 (Dj.un_l d645 (Dj.un_l d651 (Dj.box (Dj.box d67.symm).symm).symm)) ex630), (DomLe.dj dm693 (Dj.un_l d647 (Dj.un_l d653 (Dj.box (Dj.box d74.symm).symm).symm)) ex636), (DomLe.dj dm693 (Dj.un_l d649 (Dj.un_l d655 (Dj.box (Dj.box d77.symm).symm).symm)) ex642), d698, (DomLe.dj dm693 (Dj.un_l d646 (Dj.un_l d652 d662.symm)) ex633), (DomLe.dj dm693 (Dj.un_l d648 (Dj.un_l d654 d665.symm)) ex639), d696.symm, cn666⟩, H.2⟩
    have H := H.2 hc452
    refine W_exit ?_
    refine (if_pos rfl).mpr ?_
    exact ⟨(x356, x357, x363, counts369, sums375), H, _, sl a388 x357 c389, hx359, sl a390 x363 c391, hx365, sl a392 counts369 c393, hx371, sl a394 sums375 c395, hx377, env_eq trivial, X447, o360, ex361, f362, o366, ex367, f368, o372, ex373, f374, o378, ex379, f380, ex382, ex383, ex384, ex385, ex386, ex387, ex396, ex397, ex398, ex399, d400, d401, d402, d403, d404, d405, d406, d407, d408, d409, d410, d411, d412, d413, d414, d415, d416, d417, d418, d419, d420, d421, d422, d423, d424, d425, d426, d427, d428, d429, d430, d431, d432, d433, d434, d435, d436, d437, d438, d439, d440, d441, d442, d443, d444, d445, cn446⟩
   rintro ⟨x265, x266, x272, counts, sums⟩ _ wx288 ⟨H, ρ, vx267, hx268, vx273, hx274, vx278, hx279, vx283, hx284, rfl, HF⟩
   revert HF
   refine bb9 fun X354 o269 ex270 f271 o275 ex276 f277 o280 => ?_
   refine bb9 fun ex281 f282 o285 ex286 f287 ex289 ex290 ex291 => ?_
   refine bb9 fun ex292 ex293 ex294 ex303 ex304 ex305 ex306 d307 => ?_
   refine bb9 fun d308 d309 d310 d311 d312 d313 d314 d315 => ?_
   refine bb9 fun d316 d317 d318 d319 d320 d321 d322 d323 => ?_
   refine bb9 fun d324 d325 d326 d327 d328 d329 d330 d331 => ?_
   refine bb9 fun d332 d333 d334 d335 d336 d337 d338 d339 => ?_
   refine bb9 fun d340 d341 d342 d343 d344 d345 d346 d347 => ?_
   refine bb6 fun d348 d349 d350 d351 d352 cn353 => ?_
   subst hk
   obtain ⟨a295, c296, rfl⟩ := o269.shape
   obtain ⟨a297, c298, rfl⟩ := o275.shape
   obtain ⟨a299, c300, rfl⟩ := o280.shape
   obtain ⟨a301, c302, rfl⟩ := o285.shape
   refine W_seq ?_
   refine W_region ?_
   refine LP_ev ok 0 [(6, .bool true)] 1 rfl rfl ?_
   refine LP_end _ rfl ?_
   refine W_ret ?_
   subst hM
   exact ⟨_, Ret_of [.bool true] ⟨⟨rfl, rfl⟩, trivial⟩, _, _, _, _, _, _, _, _, _, _, _, _, _, _, H, rfl, X354, o280, ex281, f282, o285, ex286, f287, ex303, o269, ex270, f271, ex304, o275, ex276, f277, ex305, ex306, d352.symm, d334, d338, d335, d339, d336, d337, d346, d350, d347, d351, d348, d349, d313.symm, d323.symm, d314, d327.symm, d315, d316, d324.symm, d325, d326, cn353⟩
 exact key _ x c13 c15 c26 c35 c46 k left Q H0 (Nat.lt_succ_self _) w r ex r3 ex4 r9 ex10 ex14 r18 ex19 ex23 ex25 r29 ex30 cn ex34 r38 ex39 ex43 ex45 ex48 ex50 d d51 d52 d53 d54 d55 d56 d57 d58 d59 d60 d61 d62 d63 d64 d65 d66 d67 d68 d69 d70 d71 d72 d73 d74 d75 d76 d77 d78 d79 d80 d81 d82 d83 d84 d85 d86 d87 d88 d89 d90 d91 d92 d93 d94 d95 d96 d97 d98 d99 d100 d101 d102 d103 d104 d105 d106 d107 d108 d109 d110 d111 d112 d113 d114 d115 d116 d117 d118 d119 d120 d121 d122 d123 d124 d125

theorem impl_solutions_impl_ranges_1_impl_AnswerRange_1_w (g : Geo) (sx : List Variable) (pubs : List Published) (n : Int) (most : Int) (c13 : List Int) (c23 : List Int) (c32 : List Int) (Q : Int → (List Int) → (List Int) → Prop) (H : impl_solutions_impl_ranges_1_impl_AnswerRange_1 g sx pubs n most c13 c23 c32 Q) (w : World) {vx : Value} {hx : PH} (r : RS hx vx g.Parents) (ex : Sub hx w) {vx1 : Value} {hx2 : PH} (r3 : RS hx2 vx1 sx) (ex4 : Sub hx2 w) {vx7 : Value} {hx8 : PH} (r9 : RS hx8 vx7 pubs) (ex10 : Sub hx8 w) {vx14 : Value} {hx15 : PH} (r16 : RS hx15 vx14 c13) (ex17 : Sub hx15 w) {b : Nat} (ex20 : Sub (bx b 22 [vx14]) w) {b21 : Nat} (ex22 : Sub (bx b21 65 [.func (.func 56) #[] #[pb b]]) w) {vx24 : Value} {hx25 : PH} (r26 : OS 3 hx25 emp vx24 c23) (ex27 : Sub hx25 w) (cn : CanV vx24 c23) {b30 : Nat} (ex31 : Sub (bx b30 22 [vx24]) w) {vx33 : Value} {hx34 : PH} (r35 : OS 3 hx34 emp vx33 c32) (ex36 : Sub hx34 w) {b39 : Nat} (ex40 : Sub (bx b39 22 [vx33]) w) (d : Dj hx25 (bx b30 22 [vx24])) (d41 : Dj hx25 hx34) (d42 : Dj hx25 (bx b39 22 [vx33])) (d43 : Dj (bx b30 22 [vx24]) hx34) (d44 : Dj (bx b30 22 [vx24]) (bx b39 22 [vx33])) (d45 : Dj hx34 (bx b39 22 [vx33])) (d46 : Dj hx25 hx) (d47 : Dj hx25 hx2) (d48 : Dj hx25 hx8) (d49 : Dj hx25 hx15) (d50 : Dj hx25 (bx b 22 [vx14])) (d51 : Dj hx25 (bx b21 65 [.func (.func 56) #[] #[pb b]])) (d52 : Dj (bx b30 22 [vx24]) hx) (d53 : Dj (bx b30 22 [vx24]) hx2) (d54 : Dj (bx b30 22 [vx24]) hx8) (d55 : Dj (bx b30 22 [vx24]) hx15) (d56 : Dj (bx b30 22 [vx24]) (bx b 22 [vx14])) (d57 : Dj (bx b30 22 [vx24]) (bx b21 65 [.func (.func 56) #[] #[pb b]])) (d58 : Dj hx34 hx) (d59 : Dj hx34 hx2) (d60 : Dj hx34 hx8) (d61 : Dj hx34 hx15) (d62 : Dj hx34 (bx b 22 [vx14])) (d63 : Dj hx34 (bx b21 65 [.func (.func 56) #[] #[pb b]])) (d64 : Dj (bx b39 22 [vx33]) hx) (d65 : Dj (bx b39 22 [vx33]) hx2) (d66 : Dj (bx b39 22 [vx33]) hx8) (d67 : Dj (bx b39 22 [vx33]) hx15) (d68 : Dj (bx b39 22 [vx33]) (bx b 22 [vx14])) (d69 : Dj (bx b39 22 [vx33]) (bx b21 65 [.func (.func 56) #[] #[pb b]])) :
  CallsTo Try.prog 35 #[.agg #[vx], vx1, vx7, I n, I most, .func (.func 90) #[] #[pb b21, pb b30, pb b39]] w fun v w' => ∃ r0 m1 m3 v1_ k1 v3_ k3, Q r0 m1 m3 ∧ v = I r0 ∧ But (un hx25 (un (bx b30 22 [vx24]) (un hx34 (bx b39 22 [vx33])))) w w' ∧ OS 3 k1 emp v1_ m1 ∧ Sub k1 w' ∧ DomLe (un hx25 (un (bx b30 22 [vx24]) (un hx34 (bx b39 22 [vx33])))) w.heap.size k1 ∧ Sub (bx b30 22 [v1_]) w' ∧ OS 3 k3 emp v3_ m3 ∧ Sub k3 w' ∧ DomLe (un hx25 (un (bx b30 22 [vx24]) (un hx34 (bx b39 22 [vx33])))) w.heap.size k3 ∧ Sub (bx b39 22 [v3_]) w' ∧ Dj k1 (bx b30 22 [v1_]) ∧ Dj k1 k3 ∧ Dj k1 (bx b39 22 [v3_]) ∧ Dj (bx b30 22 [v1_]) k3 ∧ Dj k3 (bx b39 22 [v3_]) ∧ CanV v1_ m1 := by
 obtain ⟨a, c, rfl⟩ := r.shape
 obtain ⟨a5, c6, rfl⟩ := r3.shape
 obtain ⟨a11, c12, rfl⟩ := r9.shape
 obtain ⟨a18, c19, rfl⟩ := r16.shape
 obtain ⟨a28, c29, rfl⟩ := r26.shape
 obtain ⟨a37, c38, rfl⟩ := r35.shape
 refine enter (args := [.agg #[sl a g.Parents c], sl a5 sx c6, sl a11 pubs c12, I n, I most, .func (.func 90) #[] #[pb b21, pb b30, pb b39]]) 33 Try.func35 rfl rfl rfl ?_
 refine W_forget [(0, .agg #[sl a g.Parents c]), (1, sl a5 sx c6), (2, sl a11 pubs c12), (3, I n), (4, I most), (5, .func (.func 90) #[] #[pb b21, pb b30, pb b39])] ⟨rfl, rfl, rfl, rfl, rfl, rfl, trivial⟩ fun ρ => ?_
 obtain ⟨M, hM⟩ : ∃ M : PH, M = (un hx25 (un (bx b30 22 [sl a28 c23 c29]) (un hx34 (bx b39 22 [sl a37 c32 c38])))) := ⟨_, rfl⟩
 have D : Dom M hx25 := by subst hM; exact (Dom.l _ _)
 have D70 : Dom M (bx b30 22 [sl a28 c23 c29]) := by subst hM; exact (Dom.trans (Dom.r _ _) (Dom.l _ _))
 have D71 : Dom M hx34 := by subst hM; exact (Dom.trans (Dom.r _ _) (Dom.trans (Dom.r _ _) (Dom.l _ _)))
 have D72 : Dom M (bx b39 22 [sl a37 c32 c38]) := by subst hM; exact (Dom.trans (Dom.r _ _) (Dom.trans (Dom.r _ _) (Dom.trans (Dom.r _ _) (Dom.refl _))))
 have X := But.refl M w
 refine W_seq ?_
 refine W_region ?_
 refine LP_box 0 (cs := [sl a g.Parents c]) rfl rfl rfl rfl rfl fun b73 wx x ex74 f => ?_
 refine LP_box 1 (cs := [I most]) rfl rfl rfl rfl rfl fun b75 wx76 x77 ex78 f79 => ?_
 refine LP_box 2 (cs := [.func (.func 90) #[] #[pb b21, pb b30, pb b39]]) rfl rfl rfl rfl rfl fun b80 wx81 x82 ex83 f84 => ?_
 refine LP_ev ok 3 [(12, I 0)] 4 rfl rfl ?_
 refine LP_end _ rfl ?_
 refine W_seq ?_
 refine W_region ?_
 have ex85 := ((ex74.ext x77).ext x82)
 refine LP_ldbox 0 (v := .agg #[sl a g.Parents c]) rfl rfl rfl ti_32 ag_32 (fun h => by cases h) rfl ex85 rfl rfl ?_
 refine LP_ev ok 1 [(17, sl a5 sx c6), (18, sl a11 pubs c12)] 3 rfl rfl ?_
 have ex87 := (((ex.ext x).ext x77).ext x82)
 have ex88 := (((ex4.ext x).ext x77).ext x82)
 have ex89 := (((ex10.ext x).ext x77).ext x82)
 refine LP_call 3 rfl rfl rfl cal_63 rfl (impl_conditionsOf_w _ _ _ _ H wx81 r ex87 r3 ex88 r9 ex89) ?_
 rintro _ wx90 ⟨r86, vx92, hx93, H, rfl, x91, o, ex94, f95⟩
 obtain ⟨a96, c97, rfl⟩ := o.shape
 refine LP_ev ok 4 [(13, sl a96 r86 c97)] 5 rfl rfl ?_
 refine LP_end _ rfl ?_
 refine W_seq ?_
 refine W_region ?_
 refine LP_alloc 0 rfl rfl rfl ti_3 rfl fun b98 wx99 x100 ex101 f102 => ?_
 refine LP_stbox 1 (vs := [I 0]) (cs' := [I 0]) rfl rfl rfl ti_3 rfl rfl rfl rfl rfl ex101 rfl rfl fun wx103 ex104 y => ?_
 refine LP_end _ rfl ?_
 refine W_seq ?_
 refine W_open mix fun wx105 x106 => ?_
 refine AP_gameT 11 [[], [], [], [1, 2], [1, 2, 3], [], [5], [5, 6], [], [0, 1, 2, 3, 4, 5, 6, 7, 8], [], [0, 1, 2, 3, 4, 5, 6, 7, 8, 9, 10]] [[(13, none)], [(6, none)], [(1, none)], [(21, some 1), (22, some 2)], [(23, some 3)], [(13, none)], [(25, some 5)], [(26, some 6)], [(10, none), (11, none), (14, none)], [(20, some 0), (24, some 4), (27, some 7), (28, some 8)], []] [(3, none), (14, none), (15, some 10), (29, some 9)] [0, 1, 2, 3, 4, 5, 6, 7, 8, 9, 10] (by kernel_rfl) (by kernel_rfl) 11 ?_
 refine GT_ev 0 ok [(13, sl a96 r86 c97)] (sl a96 r86 c97) rfl (by kernel_rfl) rfl (fun _ h => h) (fun _ => rfl) ?_
 have ex107 := (ex85.ext x91)
 have ex108 := ((((ex85.ext x91).ext x100).but y (Dj.of_fresh ex107 f102).symm).ext x106)
 refine GT_r1 1 [(6, pb b73)] (.agg #[sl a g.Parents c]) rfl (by kernel_rfl) rfl (fun _ h => h) (fun _ w e => ex_ldbox rfl ti_32 ag_32 (fun h => by cases h) rfl e rfl rfl) ex108 ?_
 refine GT_ev 2 ok [(1, sl a5 sx c6)] (sl a5 sx c6) rfl (by kernel_rfl) rfl (fun _ h => h) (fun _ => rfl) ?_
 obtain ⟨r109, Hd, H⟩ := H
 have ex110 := (ex87.ext x91)
 have ex111 := ((((ex87.ext x91).ext x100).but y (Dj.of_fresh ex110 f102).symm).ext x106)
 have ex112 := (ex88.ext x91)
 have ex113 := ((((ex88.ext x91).ext x100).but y (Dj.of_fresh ex112 f102).symm).ext x106)
 refine GT_q 3 [(21, .agg #[sl a g.Parents c]), (22, sl a5 sx c6)] (I r109) [hx, hx2] [.agg #[sl a g.Parents c], sl a5 sx c6] rfl (by kernel_rfl) rfl (fun _ h => h) rfl cal_52 (fun _ => rfl) (fun w e => (impl_typeCount_w _ _ _ Hd w r e.1 r3 e.2.1).mono (fun _ _ h => by obtain ⟨_, rfl, rfl, x⟩ := h; exact ⟨rfl, x⟩)) ⟨ex111, ex113, trivial⟩ ?_
 refine GT_ev 5 ok [(13, sl a96 r86 c97)] (sl a96 r86 c97) rfl (by kernel_rfl) rfl (fun _ h => h) (fun _ => rfl) ?_
 refine GT_ev 6 ok [(25, sl a96 r86 c97)] (I (ln r86)) rfl (by kernel_rfl) rfl (fun _ h => h) (fun _ => rfl) ?_
 refine GT_ev 8 ok [(10, pb b75), (11, pb b80), (14, pb b98)] (.func (.func 64) #[] #[pb b98, pb b80, pb b75]) rfl (by kernel_rfl) rfl (fun _ h => h) (fun _ => rfl) ?_
 refine GT_hd [4, 7, 10] (by kernel_rfl) ⟨?_, ?_, ?_, trivial⟩
 ·have H := H.1
  refine GT_lp [(23, I r109)] rfl (by kernel_rfl) rfl (fun _ h => h) rfl fun ρ wx114 x115 => ?_
  obtain ⟨hn, hb, H⟩ := H
  refine LP_make (α := Int) 0 rfl rfl rfl Try.underlying22 ti_3 (x0 := (0 : Int)) rfl rfl hn (by first | omega | (simp only [ln] at *; omega)) (by first | omega | (simp only [ln] at *; omega)) fun hx116 vx117 wx118 x119 o120 ex121 f122 => ?_
  obtain ⟨a123, c124, rfl⟩ := o120.shape
  refine LP_gs ⟨⟨.inl rfl, .inl rfl, .inl rfl, trivial⟩, ?_⟩
  refine GT_hd [7, 10] (by kernel_rfl) ⟨?_, ?_, trivial⟩
  ·have H := H
   refine GT_lp [(26, I (ln r86))] rfl (by kernel_rfl) rfl (fun _ h => h) rfl fun ρ wx125 x126 => ?_
   obtain ⟨hn127, hb128, H⟩ := H
   refine LP_make (α := Int) 0 rfl rfl rfl Try.underlying22 ti_3 (x0 := (0 : Int)) rfl rfl hn127 (by first | omega | (simp only [ln] at *; omega)) (by first | omega | (simp only [ln] at *; omega)) fun hx129 vx130 wx131 x132 o133 ex134 f135 => ?_
   obtain ⟨a136, c137, rfl⟩ := o133.shape
   have ex138 := ((((ex111.ext x115).ext x119).ext x126).ext x132)
   have ex139 := ((((ex113.ext x115).ext x119).ext x126).ext x132)
   have ex140 := ((((ex108.ext x115).ext x119).ext x126).ext x132)
   refine LP_gs ⟨⟨.inr ex138, .inr ex139, .inr ex140, trivial⟩, ?_⟩
   refine GT_ev 9 ok [(20, sl a96 r86 c97), (24, .slice a123 (List.length (List.replicate (Int.toNat r109) ((0 : Int)))) c124), (27, .slice a136 (List.length (List.replicate (Int.toNat (ln r86)) ((0 : Int)))) c137), (28, .func (.func 64) #[] #[pb b98, pb b80, pb b75])] (.agg #[sl a96 r86 c97, .slice a123 (List.length (List.replicate (Int.toNat r109) ((0 : Int)))) c124, .slice a136 (List.length (List.replicate (Int.toNat (ln r86)) ((0 : Int)))) c137, .func (.func 64) #[] #[pb b98, pb b80, pb b75]]) rfl (by kernel_rfl) rfl (fun _ h => h) (fun _ => rfl) ?_
   refine GT_hd [10] (by kernel_rfl) ⟨GT_lp [] rfl (by kernel_rfl) rfl (fun _ h => h) rfl fun ρ wx141 x142 => ?_, trivial⟩
   refine LP_alloc 0 rfl rfl rfl ti_103 rfl fun b143 wx144 x145 ex146 f147 => ?_
   have ex148 := ((ex138.ext x142).ext x145)
   have ex149 := ((ex139.ext x142).ext x145)
   have ex150 := ((ex140.ext x142).ext x145)
   refine LP_gs ⟨⟨.inr ex148, .inr ex149, .inr ex150, trivial⟩, ?_⟩
   refine GT_end (by kernel_rfl) ?_
   intro wx151 x152 ρ hn153
   refine AP_forget [(3, I n), (14, pb b98), (15, pb b143), (29, .agg #[sl a96 r86 c97, .slice a123 (List.length (List.replicate (Int.toNat r109) ((0 : Int)))) c124, .slice a136 (List.length (List.replicate (Int.toNat (ln r86)) ((0 : Int)))) c137, .func (.func 64) #[] #[pb b98, pb b80, pb b75]])] (by exact hn153) fun ρ => ?_
   refine AP_tail 11 [[], [], [], [1, 2], [1, 2, 3], [], [5], [5, 6], [], [0, 1, 2, 3, 4, 5, 6, 7, 8], [], [0, 1, 2, 3, 4, 5, 6, 7, 8, 9, 10]] (by kernel_rfl) ?_
   have ex157 := (ex146.ext x152)
   refine LP_stbox 11 (vs := [sl a96 r86 c97, .slice a123 (List.length (List.replicate (Int.toNat r109) ((0 : Int)))) c124, .slice a136 (List.length (List.replicate (Int.toNat (ln r86)) ((0 : Int)))) c137, .func (.func 64) #[] #[pb b98, pb b80, pb b75]]) (cs' := [sl a96 r86 c97, .slice a123 (List.length (List.replicate (Int.toNat r109) ((0 : Int)))) c124, .slice a136 (List.length (List.replicate (Int.toNat (ln r86)) ((0 : Int)))) c137, .func (.func 64) #[] #[pb b98, pb b80, pb b75]]) rfl rfl rfl ti_103 rfl rfl rfl rfl rfl ex157 rfl rfl fun wx154 ex155 y156 => ?_
   refine LP_end _ rfl ?_
   refine W_seq ?_
   refine W_region ?_
   refine LP_ev ok 0 [(30, I n)] 1 rfl rfl ?_
   have ex158 := (ex121.ext x126)
   have ex159 := ((ex104.ext x106).ext x115)
   have ex160 := ((((ex27.ext x).ext x77).ext x82).ext x91)
   have ex161 := ((((((((ex27.ext x).ext x77).ext x82).ext x91).ext x100).but y (Dj.of_fresh ex160 f102).symm).ext x106).ext x115)
   have ex162 := ((((ex31.ext x).ext x77).ext x82).ext x91)
   have ex163 := ((((((((ex31.ext x).ext x77).ext x82).ext x91).ext x100).but y (Dj.of_fresh ex162 f102).symm).ext x106).ext x115)
   have ex164 := ((((ex36.ext x).ext x77).ext x82).ext x91)
   have ex165 := ((((((((ex36.ext x).ext x77).ext x82).ext x91).ext x100).but y (Dj.of_fresh ex164 f102).symm).ext x106).ext x115)
   have ex166 := ((((ex40.ext x).ext x77).ext x82).ext x91)
   have ex167 := ((((((((ex40.ext x).ext x77).ext x82).ext x91).ext x100).but y (Dj.of_fresh ex166 f102).symm).ext x106).ext x115)
   have ex168 := ((ex158.ext x132).ext x142)
   have ex169 := ((ex159.ext x119).ext x126)
   have ex170 := ((ex161.ext x119).ext x126)
   have ex171 := ((ex163.ext x119).ext x126)
   have ex172 := ((ex165.ext x119).ext x126)
   have ex173 := ((ex167.ext x119).ext x126)
   have ex174 := (ex134.ext x142)
   have ex175 := ((ex169.ext x132).ext x142)
   have ex176 := ((ex170.ext x132).ext x142)
   have ex177 := ((ex171.ext x132).ext x142)
   have ex178 := ((ex172.ext x132).ext x142)
   have ex179 := ((ex173.ext x132).ext x142)
   have ex180 := ((((ex94.ext x100).but y (Dj.of_fresh ex94 f102).symm).ext x106).ext x115)
   have ex181 := ((((ex17.ext x).ext x77).ext x82).ext x91)
   have ex182 := ((((((((ex17.ext x).ext x77).ext x82).ext x91).ext x100).but y (Dj.of_fresh ex181 f102).symm).ext x106).ext x115)
   have ex183 := ((((ex20.ext x).ext x77).ext x82).ext x91)
   have ex184 := ((((((((ex20.ext x).ext x77).ext x82).ext x91).ext x100).but y (Dj.of_fresh ex183 f102).symm).ext x106).ext x115)
   have ex185 := ((((ex22.ext x).ext x77).ext x82).ext x91)
   have ex186 := ((((((((ex22.ext x).ext x77).ext x82).ext x91).ext x100).but y (Dj.of_fresh ex185 f102).symm).ext x106).ext x115)
   have ex187 := (ex83.ext x91)
   have ex188 := (((((ex83.ext x91).ext x100).but y (Dj.of_fresh ex187 f102).symm).ext x106).ext x115)
   have ex189 := ((ex78.ext x82).ext x91)
   have ex190 := ((((((ex78.ext x82).ext x91).ext x100).but y (Dj.of_fresh ex189 f102).symm).ext x106).ext x115)
   have ex191 := ((ex180.ext x119).ext x126)
   have ex192 := ((ex182.ext x119).ext x126)
   have ex193 := ((ex184.ext x119).ext x126)
   have ex194 := ((ex186.ext x119).ext x126)
   have ex195 := ((ex188.ext x119).ext x126)
   have ex196 := ((ex190.ext x119).ext x126)
   have ex197 := (((ex27.ext x).ext x77).ext x82)
   have ex198 := ((ex27.ext x).ext x77)
   have ex199 := (ex27.ext x)
   have ex200 := (((ex31.ext x).ext x77).ext x82)
   have ex201 := ((ex31.ext x).ext x77)
   have ex202 := (ex31.ext x)
   have ex203 := (((ex36.ext x).ext x77).ext x82)
   have ex204 := ((ex36.ext x).ext x77)
   have ex205 := (ex36.ext x)
   have ex206 := (((ex40.ext x).ext x77).ext x82)
   have ex207 := ((ex40.ext x).ext x77)
   have ex208 := (ex40.ext x)
   have ex209 := ((ex191.ext x132).ext x142)
   have ex210 := ((ex192.ext x132).ext x142)
   have ex211 := ((ex193.ext x132).ext x142)
   have ex212 := ((ex194.ext x132).ext x142)
   have ex213 := ((ex195.ext x132).ext x142)
   have ex214 := ((ex196.ext x132).ext x142)
   have ex221 := (((ex209.ext x145).ext x152).but y156 (Dj.of_fresh ex209 f147).symm)
   have ex222 := (((ex168.ext x145).ext x152).but y156 (Dj.of_fresh ex168 f147).symm)
   have ex223 := (((ex174.ext x145).ext x152).but y156 (Dj.of_fresh ex174 f147).symm)
   have ex224 := (((ex175.ext x145).ext x152).but y156 (Dj.of_fresh ex175 f147).symm)
   have ex225 := (((ex210.ext x145).ext x152).but y156 (Dj.of_fresh ex210 f147).symm)
   have ex226 := (((ex211.ext x145).ext x152).but y156 (Dj.of_fresh ex211 f147).symm)
   have ex227 := (((ex212.ext x145).ext x152).but y156 (Dj.of_fresh ex212 f147).symm)
   have ex228 := (((ex176.ext x145).ext x152).but y156 (Dj.of_fresh ex176 f147).symm)
   have ex229 := (((ex177.ext x145).ext x152).but y156 (Dj.of_fresh ex177 f147).symm)
   have ex230 := (((ex178.ext x145).ext x152).but y156 (Dj.of_fresh ex178 f147).symm)
   have ex231 := (((ex179.ext x145).ext x152).but y156 (Dj.of_fresh ex179 f147).symm)
   have ex232 := (((ex213.ext x145).ext x152).but y156 (Dj.of_fresh ex213 f147).symm)
   have ex233 := (((ex214.ext x145).ext x152).but y156 (Dj.of_fresh ex214 f147).symm)
   refine LP_call 1 rfl rfl rfl cal_65 rfl (impl_search_from_impl_solutions_1_impl_ranges_1_impl_AnswerRange_1_w _ _ _ _ _ _ _ _ _ H wx154 o.readf ex221 o120 ex222 o133 ex223 ex224 r16 ex225 ex226 ex227 r26 ex228 cn ex229 r35 ex230 ex231 ex232 ex233 ex155 (Dj.of_fresh ex158 f135) (Dj.of_fresh ex159 f122).symm (Dj.of_fresh ex161 f122).symm (Dj.of_fresh ex163 f122).symm (Dj.of_fresh ex165 f122).symm (Dj.of_fresh ex167 f122).symm (Dj.box (Dj.of_fresh ex168 f147).symm).symm (Dj.of_fresh ex169 f135).symm (Dj.of_fresh ex170 f135).symm (Dj.of_fresh ex171 f135).symm (Dj.of_fresh ex172 f135).symm (Dj.of_fresh ex173 f135).symm (Dj.box (Dj.of_fresh ex174 f147).symm).symm (Dj.box (Dj.of_fresh ex160 f102).symm) (Dj.box (Dj.of_fresh ex162 f102).symm) (Dj.box (Dj.of_fresh ex164 f102).symm) (Dj.box (Dj.of_fresh ex166 f102).symm) (Dj.box (Dj.of_fresh ex175 f147).symm).symm d d41 d42 (Dj.box (Dj.of_fresh ex176 f147).symm).symm d43 d44 (Dj.box (Dj.of_fresh ex177 f147).symm).symm d45 (Dj.box (Dj.of_fresh ex178 f147).symm).symm (Dj.box (Dj.of_fresh ex179 f147).symm).symm (Dj.of_fresh ex180 f122).symm (Dj.of_fresh ex182 f122).symm (Dj.of_fresh ex184 f122).symm (Dj.of_fresh ex186 f122).symm (Dj.of_fresh ex188 f122).symm (Dj.of_fresh ex190 f122).symm (Dj.of_fresh ex191 f135).symm (Dj.of_fresh ex192 f135).symm (Dj.of_fresh ex193 f135).symm (Dj.of_fresh ex194 f135).symm (Dj.of_fresh ex195 f135).symm (Dj.of_fresh ex196 f135).symm (Dj.box (Dj.of_fresh ex94 f102).symm) (Dj.box (Dj.of_fresh ex181 f102).symm) (Dj.box (Dj.of_fresh ex183 f102).symm) (Dj.box (Dj.of_fresh ex185 f102).symm) (Dj.box (Dj.of_fresh ex187 f102).symm) (Dj.box (Dj.of_fresh ex189 f102).symm) (Dj.of_fresh ex197 f95) d49 d50 d51 (Dj.of_fresh ex198 f84) (Dj.of_fresh ex199 f79) (Dj.of_fresh ex200 f95) d55 d56 d57 (Dj.of_fresh ex201 f84) (Dj.of_fresh ex202 f79) (Dj.of_fresh ex203 f95) d61 d62 d63 (Dj.of_fresh ex204 f84) (Dj.of_fresh ex205 f79) (Dj.of_fresh ex206 f95) d67 d68 d69 (Dj.of_fresh ex207 f84) (Dj.of_fresh ex208 f79) (Dj.box (Dj.of_fresh ex209 f147).symm) (Dj.box (Dj.of_fresh ex210 f147).symm) (Dj.box (Dj.of_fresh ex211 f147).symm) (Dj.box (Dj.of_fresh ex212 f147).symm) (Dj.box (Dj.of_fresh ex213 f147).symm) (Dj.box (Dj.of_fresh ex214 f147).symm)) ?_
   rintro _ wx234 ⟨r215, r216, r217, r218, r219, r220, vx239, hx236, vx244, hx240, vx250, hx246, vx256, hx252, H, rfl, x235, HF⟩
   revert HF
   refine bb9 fun o237 ex238 dm o241 ex242 dm243 ex245 o247 => ?_
   refine bb9 fun ex248 dm249 ex251 o253 ex254 dm255 ex257 ex258 => ?_
   refine bb9 fun d259 d260 d261 d262 d263 d264 d265 d266 => ?_
   refine bb9 fun d267 d268 d269 d270 d271 d272 d273 d274 => ?_
   refine bb7 fun d275 d276 d277 d278 d279 d280 cn281 => ?_
   obtain ⟨a282, c283, rfl⟩ := o237.shape
   obtain ⟨a284, c285, rfl⟩ := o241.shape
   obtain ⟨a286, c287, rfl⟩ := o247.shape
   obtain ⟨a288, c289, rfl⟩ := o253.shape
   refine LP_end _ rfl ?_
   refine W_seq ?_
   refine W_region ?_
   refine LP_ldbox 0 (v := I r218) rfl rfl rfl ti_3 ag_3 (fun _ => rfl) rfl ex245 rfl rfl ?_
   refine LP_ev ok 1 [(12, I r218)] 2 rfl rfl ?_
   refine LP_end _ rfl ?_
   refine W_ret ?_
   have X292 := ((((X.stepx x).stepx x77).stepx x82).stepx x91)
   have f291 := f102.mono X292.size
   have X293 := ((((((((X.stepx x).stepx x77).stepx x82).stepx x91).stepx x100).step y (f291.dom _)).stepx x106).stepx x115)
   have f290 := f122.mono X293.size
   have X295 := ((X293.stepx x119).stepx x126)
   have f294 := f135.mono X295.size
   have X297 := ((X295.stepx x132).stepx x142)
   have f296 := f147.mono X297.size
   have X298 := (((X297.stepx x145).stepx x152).step y156 (f296.dom _))
   have X299 := (X298.step x235 (DomLe.un (f290.dom _) (DomLe.un (f294.dom _) (DomLe.un ((Fresh.box f291).dom _) (DomLe.un (Dom.le D _) (DomLe.un (Dom.le D70 _) (DomLe.un (Dom.le D71 _) (DomLe.un (Dom.le D72 _) ((Fresh.box f296).dom _)))))))))
   subst hM
   exact ⟨_, Ret_of [I r218] ⟨⟨rfl, rfl⟩, trivial⟩, _, _, _, _, _, _, _, H, rfl, X299, o247, ex248, (DomLe.trans (DomLe.un (f290.dom _) (DomLe.un (f294.dom _) (DomLe.un ((Fresh.box f291).dom _) (DomLe.un (Dom.le D _) (DomLe.un (Dom.le D70 _) (DomLe.un (Dom.le D71 _) (DomLe.un (Dom.le D72 _) ((Fresh.box f296).dom _)))))))) dm249 X298.size), ex251, o253, ex254, (DomLe.trans (DomLe.un (f290.dom _) (DomLe.un (f294.dom _) (DomLe.un ((Fresh.box f291).dom _) (DomLe.un (Dom.le D _) (DomLe.un (Dom.le D70 _) (DomLe.un (Dom.le D71 _) (DomLe.un (Dom.le D72 _) ((Fresh.box f296).dom _)))))))) dm255 X298.size), ex257, d274, d275, d276, d278, d279, cn281⟩
  ·have H := H
   refine GT_lp [] rfl (by kernel_rfl) rfl (fun _ h => h) rfl fun ρ wx125 x126 => ?_
   refine LP_alloc 0 rfl rfl rfl ti_103 rfl fun b127 wx128 x129 ex130 f131 => ?_
   have ex132 := ((((ex111.ext x115).ext x119).ext x126).ext x129)
   have ex133 := ((((ex113.ext x115).ext x119).ext x126).ext x129)
   have ex134 := ((((ex108.ext x115).ext x119).ext x126).ext x129)
   refine LP_gs ⟨⟨.inr ex132, .inr ex133, .inr ex134, trivial⟩, ?_⟩
   refine GT_hd [7] (by kernel_rfl) ⟨GT_lp [(26, I (ln r86))] rfl (by kernel_rfl) rfl (fun _ h => h) rfl fun ρ wx135 x136 => ?_, trivial⟩
   obtain ⟨hn137, hb138, H⟩ := H
   refine LP_make (α := Int) 0 rfl rfl rfl Try.underlying22 ti_3 (x0 := (0 : Int)) rfl rfl hn137 (by first | omega | (simp only [ln] at *; omega)) (by first | omega | (simp only [ln] at *; omega)) fun hx139 vx140 wx141 x142 o143 ex144 f145 => ?_
   obtain ⟨a146, c147, rfl⟩ := o143.shape
   have ex148 := ((ex132.ext x136).ext x142)
   have ex149 := ((ex133.ext x136).ext x142)
   have ex150 := ((ex134.ext x136).ext x142)
   refine LP_gs ⟨⟨.inr ex148, .inr ex149, .inr ex150, trivial⟩, ?_⟩
   refine GT_ev 9 ok [(20, sl a96 r86 c97), (24, .slice a123 (List.length (List.replicate (Int.toNat r109) ((0 : Int)))) c124), (27, .slice a146 (List.length (List.replicate (Int.toNat (ln r86)) ((0 : Int)))) c147), (28, .func (.func 64) #[] #[pb b98, pb b80, pb b75])] (.agg #[sl a96 r86 c97, .slice a123 (List.length (List.replicate (Int.toNat r109) ((0 : Int)))) c124, .slice a146 (List.length (List.replicate (Int.toNat (ln r86)) ((0 : Int)))) c147, .func (.func 64) #[] #[pb b98, pb b80, pb b75]]) rfl (by kernel_rfl) rfl (fun _ h => h) (fun _ => rfl) ?_
   refine GT_end (by kernel_rfl) ?_
   intro wx151 x152 ρ hn153
   refine AP_forget [(3, I n), (14, pb b98), (15, pb b127), (29, .agg #[sl a96 r86 c97, .slice a123 (List.length (List.replicate (Int.toNat r109) ((0 : Int)))) c124, .slice a146 (List.length (List.replicate (Int.toNat (ln r86)) ((0 : Int)))) c147, .func (.func 64) #[] #[pb b98, pb b80, pb b75]])] (by exact hn153) fun ρ => ?_
   refine AP_tail 11 [[], [], [], [1, 2], [1, 2, 3], [], [5], [5, 6], [], [0, 1, 2, 3, 4, 5, 6, 7, 8], [], [0, 1, 2, 3, 4, 5, 6, 7, 8, 9, 10]] (by kernel_rfl) ?_
   have ex157 := (((ex130.ext x136).ext x142).ext x152)
   refine LP_stbox 11 (vs := [sl a96 r86 c97, .slice a123 (List.length (List.replicate (Int.toNat r109) ((0 : Int)))) c124, .slice a146 (List.length (List.replicate (Int.toNat (ln r86)) ((0 : Int)))) c147, .func (.func 64) #[] #[pb b98, pb b80, pb b75]]) (cs' := [sl a96 r86 c97, .slice a123 (List.length (List.replicate (Int.toNat r109) ((0 : Int)))) c124, .slice a146 (List.length (List.replicate (Int.toNat (ln r86)) ((0 : Int)))) c147, .func (.func 64) #[] #[pb b98, pb b80, pb b75]]) rfl rfl rfl ti_103 rfl rfl rfl rfl rfl ex157 rfl rfl fun wx154 ex155 y156 => ?_
   refine LP_end _ rfl ?_
   refine W_seq ?_
   refine W_region ?_
   refine LP_ev ok 0 [(30, I n)] 1 rfl rfl ?_
   have ex158 := (((ex121.ext x126).ext x129).ext x136)
   have ex159 := ((ex104.ext x106).ext x115)
   have ex160 := ((((ex27.ext x).ext x77).ext x82).ext x91)
   have ex161 := ((((((((ex27.ext x).ext x77).ext x82).ext x91).ext x100).but y (Dj.of_fresh ex160 f102).symm).ext x106).ext x115)
   have ex162 := ((((ex31.ext x).ext x77).ext x82).ext x91)
   have ex163 := ((((((((ex31.ext x).ext x77).ext x82).ext x91).ext x100).but y (Dj.of_fresh ex162 f102).symm).ext x106).ext x115)
   have ex164 := ((((ex36.ext x).ext x77).ext x82).ext x91)
   have ex165 := ((((((((ex36.ext x).ext x77).ext x82).ext x91).ext x100).but y (Dj.of_fresh ex164 f102).symm).ext x106).ext x115)
   have ex166 := ((((ex40.ext x).ext x77).ext x82).ext x91)
   have ex167 := ((((((((ex40.ext x).ext x77).ext x82).ext x91).ext x100).but y (Dj.of_fresh ex166 f102).symm).ext x106).ext x115)
   have ex168 := (ex121.ext x126)
   have ex169 := ((((ex159.ext x119).ext x126).ext x129).ext x136)
   have ex170 := ((((ex161.ext x119).ext x126).ext x129).ext x136)
   have ex171 := ((((ex163.ext x119).ext x126).ext x129).ext x136)
   have ex172 := ((((ex165.ext x119).ext x126).ext x129).ext x136)
   have ex173 := ((((ex167.ext x119).ext x126).ext x129).ext x136)
   have ex174 := (ex130.ext x136)
   have ex175 := ((ex159.ext x119).ext x126)
   have ex176 := ((ex161.ext x119).ext x126)
   have ex177 := ((ex163.ext x119).ext x126)
   have ex178 := ((ex165.ext x119).ext x126)
   have ex179 := ((ex167.ext x119).ext x126)
   have ex180 := ((((ex94.ext x100).but y (Dj.of_fresh ex94 f102).symm).ext x106).ext x115)
   have ex181 := ((((ex17.ext x).ext x77).ext x82).ext x91)
   have ex182 := ((((((((ex17.ext x).ext x77).ext x82).ext x91).ext x100).but y (Dj.of_fresh ex181 f102).symm).ext x106).ext x115)
   have ex183 := ((((ex20.ext x).ext x77).ext x82).ext x91)
   have ex184 := ((((((((ex20.ext x).ext x77).ext x82).ext x91).ext x100).but y (Dj.of_fresh ex183 f102).symm).ext x106).ext x115)
   have ex185 := ((((ex22.ext x).ext x77).ext x82).ext x91)
   have ex186 := ((((((((ex22.ext x).ext x77).ext x82).ext x91).ext x100).but y (Dj.of_fresh ex185 f102).symm).ext x106).ext x115)
   have ex187 := (ex83.ext x91)
   have ex188 := (((((ex83.ext x91).ext x100).but y (Dj.of_fresh ex187 f102).symm).ext x106).ext x115)
   have ex189 := ((ex78.ext x82).ext x91)
   have ex190 := ((((((ex78.ext x82).ext x91).ext x100).but y (Dj.of_fresh ex189 f102).symm).ext x106).ext x115)
   have ex191 := ((((ex180.ext x119).ext x126).ext x129).ext x136)
   have ex192 := ((((ex182.ext x119).ext x126).ext x129).ext x136)
   have ex193 := ((((ex184.ext x119).ext x126).ext x129).ext x136)
   have ex194 := ((((ex186.ext x119).ext x126).ext x129).ext x136)
   have ex195 := ((((ex188.ext x119).ext x126).ext x129).ext x136)
   have ex196 := ((((ex190.ext x119).ext x126).ext x129).ext x136)
   have ex197 := (((ex27.ext x).ext x77).ext x82)
   have ex198 := ((ex27.ext x).ext x77)
   have ex199 := (ex27.ext x)
   have ex200 := (((ex31.ext x).ext x77).ext x82)
   have ex201 := ((ex31.ext x).ext x77)
   have ex202 := (ex31.ext x)
   have ex203 := (((ex36.ext x).ext x77).ext x82)
   have ex204 := ((ex36.ext x).ext x77)
   have ex205 := (ex36.ext x)
   have ex206 := (((ex40.ext x).ext x77).ext x82)
   have ex207 := ((ex40.ext x).ext x77)
   have ex208 := (ex40.ext x)
   have ex209 := ((ex180.ext x119).ext x126)
   have ex210 := ((ex182.ext x119).ext x126)
   have ex211 := ((ex184.ext x119).ext x126)
   have ex212 := ((ex186.ext x119).ext x126)
   have ex213 := ((ex188.ext x119).ext x126)
   have ex214 := ((ex190.ext x119).ext x126)
   have ex221 := (((ex191.ext x142).ext x152).but y156 (Dj.of_fresh ex209 f131).symm)
   have ex222 := (((ex158.ext x142).ext x152).but y156 (Dj.of_fresh ex168 f131).symm)
   have ex223 := ((ex144.ext x152).but y156 (Dj.of_fresh ex174 f145))
   have ex224 := (((ex169.ext x142).ext x152).but y156 (Dj.of_fresh ex175 f131).symm)
   have ex225 := (((ex192.ext x142).ext x152).but y156 (Dj.of_fresh ex210 f131).symm)
   have ex226 := (((ex193.ext x142).ext x152).but y156 (Dj.of_fresh ex211 f131).symm)
   have ex227 := (((ex194.ext x142).ext x152).but y156 (Dj.of_fresh ex212 f131).symm)
   have ex228 := (((ex170.ext x142).ext x152).but y156 (Dj.of_fresh ex176 f131).symm)
   have ex229 := (((ex171.ext x142).ext x152).but y156 (Dj.of_fresh ex177 f131).symm)
   have ex230 := (((ex172.ext x142).ext x152).but y156 (Dj.of_fresh ex178 f131).symm)
   have ex231 := (((ex173.ext x142).ext x152).but y156 (Dj.of_fresh ex179 f131).symm)
   have ex232 := (((ex195.ext x142).ext x152).but y156 (Dj.of_fresh ex213 f131).symm)
   have ex233 := (((ex196.ext x142).ext x152).but y156 (Dj.of_fresh ex214 f131).symm)
   refine LP_call 1 rfl rfl rfl cal_65 rfl (impl_search_from_impl_solutions_1_impl_ranges_1_impl_AnswerRange_1_w _ _ _ _ _ _ _ _ _ H wx154 o.readf ex221 o120 ex222 o143 ex223 ex224 r16 ex225 ex226 ex227 r26 ex228 cn ex229 r35 ex230 ex231 ex232 ex233 ex155 (Dj.of_fresh ex158 f145) (Dj.of_fresh ex159 f122).symm (Dj.of_fresh ex161 f122).symm (Dj.of_fresh ex163 f122).symm (Dj.of_fresh ex165 f122).symm (Dj.of_fresh ex167 f122).symm (Dj.box (Dj.of_fresh ex168 f131).symm).symm (Dj.of_fresh ex169 f145).symm (Dj.of_fresh ex170 f145).symm (Dj.of_fresh ex171 f145).symm (Dj.of_fresh ex172 f145).symm (Dj.of_fresh ex173 f145).symm (Dj.box (Dj.of_fresh ex174 f145).symm.symm).symm (Dj.box (Dj.of_fresh ex160 f102).symm) (Dj.box (Dj.of_fresh ex162 f102).symm) (Dj.box (Dj.of_fresh ex164 f102).symm) (Dj.box (Dj.of_fresh ex166 f102).symm) (Dj.box (Dj.of_fresh ex175 f131).symm).symm d d41 d42 (Dj.box (Dj.of_fresh ex176 f131).symm).symm d43 d44 (Dj.box (Dj.of_fresh ex177 f131).symm).symm d45 (Dj.box (Dj.of_fresh ex178 f131).symm).symm (Dj.box (Dj.of_fresh ex179 f131).symm).symm (Dj.of_fresh ex180 f122).symm (Dj.of_fresh ex182 f122).symm (Dj.of_fresh ex184 f122).symm (Dj.of_fresh ex186 f122).symm (Dj.of_fresh ex188 f122).symm (Dj.of_fresh ex190 f122).symm (Dj.of_fresh ex191 f145).symm (Dj.of_fresh ex192 f145).symm (Dj.of_fresh ex193 f145).symm (Dj.of_fresh ex194 f145).symm (Dj.of_fresh ex195 f145).symm (Dj.of_fresh ex196 f145).symm (Dj.box (Dj.of_fresh ex94 f102).symm) (Dj.box (Dj.of_fresh ex181 f102).symm) (Dj.box (Dj.of_fresh ex183 f102).symm) (Dj.box (Dj.of_fresh ex185 f102).symm) (Dj.box (Dj.of_fresh ex187 f102).symm) (Dj.box (Dj.of_fresh ex189 f102).symm) (Dj.of_fresh ex197 f95) d49 d50 d51 (Dj.of_fresh ex198 f84) (Dj.of_fresh ex199 f79) (Dj.of_fresh ex200 f95) d55 d56 d57 (Dj.of_fresh ex201 f84) (Dj.of_fresh ex202 f79) (Dj.of_fresh ex203 f95) d61 d62 d63 (Dj.of_fresh ex204 f84) (Dj.of_fresh ex205 f79) (Dj.of_fresh ex206 f95) d67 d68 d69 (Dj.of_fresh ex207 f84) (Dj.of_fresh ex208 f79) (Dj.box (Dj.of_fresh ex209 f131).symm) (Dj.box (Dj.of_fresh ex210 f131).symm) (Dj.box (Dj.of_fresh ex211 f131).symm) (Dj.box (Dj.of_fresh ex212 f131).symm) (Dj.box (Dj.of_fresh ex213 f131).symm) (Dj.box (Dj.of_fresh ex214 f131).symm)) ?_
   rintro _ wx234 ⟨r215, r216, r217, r218, r219, r220, vx239, hx236, vx244, hx240, vx250, hx246, vx256, hx252, H, rfl, x235, HF⟩
   revert HF
   refine bb9 fun o237 ex238 dm o241 ex242 dm243 ex245 o247 => ?_
   refine bb9 fun ex248 dm249 ex251 o253 ex254 dm255 ex257 ex258 => ?_
   refine bb9 fun d259 d260 d261 d262 d263 d264 d265 d266 => ?_
   refine bb9 fun d267 d268 d269 d270 d271 d272 d273 d274 => ?_
   refine bb7 fun d275 d276 d277 d278 d279 d280 cn281 => ?_
   obtain ⟨a282, c283, rfl⟩ := o237.shape
   obtain ⟨a284, c285, rfl⟩ := o241.shape
   obtain ⟨a286, c287, rfl⟩ := o247.shape
   obtain ⟨a288, c289, rfl⟩ := o253.shape
   refine LP_end _ rfl ?_
   refine W_seq ?_
   refine W_region ?_
   refine LP_ldbox 0 (v := I r218) rfl rfl rfl ti_3 ag_3 (fun _ => rfl) rfl ex245 rfl rfl ?_
   refine LP_ev ok 1 [(12, I r218)] 2 rfl rfl ?_
   refine LP_end _ rfl ?_
   refine W_ret ?_
   have X292 := ((((X.stepx x).stepx x77).stepx x82).stepx x91)
   have f291 := f102.mono X292.size
   have X293 := ((((((((X.stepx x).stepx x77).stepx x82).stepx x91).stepx x100).step y (f291.dom _)).stepx x106).stepx x115)
   have f290 := f122.mono X293.size
   have X295 := ((((X293.stepx x119).stepx x126).stepx x129).stepx x136)
   have f294 := f145.mono X295.size
   have X297 := ((X293.stepx x119).stepx x126)
   have f296 := f131.mono X297.size
   have X298 := (((X295.stepx x142).stepx x152).step y156 (f296.dom _))
   have X299 := (X298.step x235 (DomLe.un (f290.dom _) (DomLe.un (f294.dom _) (DomLe.un ((Fresh.box f291).dom _) (DomLe.un (Dom.le D _) (DomLe.un (Dom.le D70 _) (DomLe.un (Dom.le D71 _) (DomLe.un (Dom.le D72 _) ((Fresh.box f296).dom _)))))))))
   subst hM
   exact ⟨_, Ret_of [I r218] ⟨⟨rfl, rfl⟩, trivial⟩, _, _, _, _, _, _, _, H, rfl, X299, o247, ex248, (DomLe.trans (DomLe.un (f290.dom _) (DomLe.un (f294.dom _) (DomLe.un ((Fresh.box f291).dom _) (DomLe.un (Dom.le D _) (DomLe.un (Dom.le D70 _) (DomLe.un (Dom.le D71 _) (DomLe.un (Dom.le D72 _) ((Fresh.box f296).dom _)))))))) dm249 X298.size), ex251, o253, ex254, (DomLe.trans (DomLe.un (f290.dom _) (DomLe.un (f294.dom _) (DomLe.un ((Fresh.box f291).dom _) (DomLe.un (Dom.le D _) (DomLe.un (Dom.le D70 _) (DomLe.un (Dom.le D71 _) (DomLe.un (Dom.le D72 _) ((Fresh.box f296).dom _)))))))) dm255 X298.size), ex257, d274, d275, d276, d278, d279, cn281⟩
 ·have H := H.2.1
  refine GT_lp [(26, I (ln r86))] rfl (by kernel_rfl) rfl (fun _ h => h) rfl fun ρ wx300 x301 => ?_
  obtain ⟨hn302, hb303, H⟩ := H
  refine LP_make (α := Int) 0 rfl rfl rfl Try.underlying22 ti_3 (x0 := (0 : Int)) rfl rfl hn302 (by first | omega | (simp only [ln] at *; omega)) (by first | omega | (simp only [ln] at *; omega)) fun hx304 vx305 wx306 x307 o308 ex309 f310 => ?_
  obtain ⟨a311, c312, rfl⟩ := o308.shape
  have ex313 := ((ex111.ext x301).ext x307)
  have ex314 := ((ex113.ext x301).ext x307)
  have ex315 := ((ex108.ext x301).ext x307)
  refine LP_gs ⟨⟨.inr ex313, .inr ex314, .inr ex315, trivial⟩, ?_⟩
  refine GT_hd [4, 10] (by kernel_rfl) ⟨?_, ?_, trivial⟩
  ·have H := H
   refine GT_lp [(23, I r109)] rfl (by kernel_rfl) rfl (fun _ h => h) rfl fun ρ wx316 x317 => ?_
   obtain ⟨hn318, hb319, H⟩ := H
   refine LP_make (α := Int) 0 rfl rfl rfl Try.underlying22 ti_3 (x0 := (0 : Int)) rfl rfl hn318 (by first | omega | (simp only [ln] at *; omega)) (by first | omega | (simp only [ln] at *; omega)) fun hx320 vx321 wx322 x323 o324 ex325 f326 => ?_
   obtain ⟨a327, c328, rfl⟩ := o324.shape
   refine LP_gs ⟨⟨.inl rfl, .inl rfl, .inl rfl, trivial⟩, ?_⟩
   refine GT_ev 9 ok [(20, sl a96 r86 c97), (24, .slice a327 (List.length (List.replicate (Int.toNat r109) ((0 : Int)))) c328), (27, .slice a311 (List.length (List.replicate (Int.toNat (ln r86)) ((0 : Int)))) c312), (28, .func (.func 64) #[] #[pb b98, pb b80, pb b75])] (.agg #[sl a96 r86 c97, .slice a327 (List.length (List.replicate (Int.toNat r109) ((0 : Int)))) c328, .slice a311 (List.length (List.replicate (Int.toNat (ln r86)) ((0 : Int)))) c312, .func (.func 64) #[] #[pb b98, pb b80, pb b75]]) rfl (by kernel_rfl) rfl (fun _ h => h) (fun _ => rfl) ?_
   refine GT_hd [10] (by kernel_rfl) ⟨GT_lp [] rfl (by kernel_rfl) rfl (fun _ h => h) rfl fun ρ wx329 x330 => ?_, trivial⟩
   refine LP_alloc 0 rfl rfl rfl ti_103 rfl fun b331 wx332 x333 ex334 f335 => ?_
   have ex336 := ((((ex313.ext x317).ext x323).ext x330).ext x333)
   have ex337 := ((((ex314.ext x317).ext x323).ext x330).ext x333)
   have ex338 := ((((ex315.ext x317).ext x323).ext x330).ext x333)
   refine LP_gs ⟨⟨.inr ex336, .inr ex337, .inr ex338, trivial⟩, ?_⟩
   refine GT_end (by kernel_rfl) ?_
   intro wx339 x340 ρ hn341
   refine AP_forget [(3, I n), (14, pb b98), (15, pb b331), (29, .agg #[sl a96 r86 c97, .slice a327 (List.length (List.replicate (Int.toNat r109) ((0 : Int)))) c328, .slice a311 (List.length (List.replicate (Int.toNat (ln r86)) ((0 : Int)))) c312, .func (.func 64) #[] #[pb b98, pb b80, pb b75]])] (by exact hn341) fun ρ => ?_
   refine AP_tail 11 [[], [], [], [1, 2], [1, 2, 3], [], [5], [5, 6], [], [0, 1, 2, 3, 4, 5, 6, 7, 8], [], [0, 1, 2, 3, 4, 5, 6, 7, 8, 9, 10]] (by kernel_rfl) ?_
   have ex345 := (ex334.ext x340)
   refine LP_stbox 11 (vs := [sl a96 r86 c97, .slice a327 (List.length (List.replicate (Int.toNat r109) ((0 : Int)))) c328, .slice a311 (List.length (List.replicate (Int.toNat (ln r86)) ((0 : Int)))) c312, .func (.func 64) #[] #[pb b98, pb b80, pb b75]]) (cs' := [sl a96 r86 c97, .slice a327 (List.length (List.replicate (Int.toNat r109) ((0 : Int)))) c328, .slice a311 (List.length (List.replicate (Int.toNat (ln r86)) ((0 : Int)))) c312, .func (.func 64) #[] #[pb b98, pb b80, pb b75]]) rfl rfl rfl ti_103 rfl rfl rfl rfl rfl ex345 rfl rfl fun wx342 ex343 y344 => ?_
   refine LP_end _ rfl ?_
   refine W_seq ?_
   refine W_region ?_
   refine LP_ev ok 0 [(30, I n)] 1 rfl rfl ?_
   have ex346 := (ex309.ext x317)
   have ex347 := ((((ex104.ext x106).ext x301).ext x307).ext x317)
   have ex348 := ((((ex27.ext x).ext x77).ext x82).ext x91)
   have ex349 := ((((((((((ex27.ext x).ext x77).ext x82).ext x91).ext x100).but y (Dj.of_fresh ex348 f102).symm).ext x106).ext x301).ext x307).ext x317)
   have ex350 := ((((ex31.ext x).ext x77).ext x82).ext x91)
   have ex351 := ((((((((((ex31.ext x).ext x77).ext x82).ext x91).ext x100).but y (Dj.of_fresh ex350 f102).symm).ext x106).ext x301).ext x307).ext x317)
   have ex352 := ((((ex36.ext x).ext x77).ext x82).ext x91)
   have ex353 := ((((((((((ex36.ext x).ext x77).ext x82).ext x91).ext x100).but y (Dj.of_fresh ex352 f102).symm).ext x106).ext x301).ext x307).ext x317)
   have ex354 := ((((ex40.ext x).ext x77).ext x82).ext x91)
   have ex355 := ((((((((((ex40.ext x).ext x77).ext x82).ext x91).ext x100).but y (Dj.of_fresh ex354 f102).symm).ext x106).ext x301).ext x307).ext x317)
   have ex356 := (ex325.ext x330)
   have ex357 := ((ex104.ext x106).ext x301)
   have ex358 := ((((ex348.ext x100).but y (Dj.of_fresh ex348 f102).symm).ext x106).ext x301)
   have ex359 := ((((ex350.ext x100).but y (Dj.of_fresh ex350 f102).symm).ext x106).ext x301)
   have ex360 := ((((ex352.ext x100).but y (Dj.of_fresh ex352 f102).symm).ext x106).ext x301)
   have ex361 := ((((ex354.ext x100).but y (Dj.of_fresh ex354 f102).symm).ext x106).ext x301)
   have ex362 := ((ex346.ext x323).ext x330)
   have ex363 := ((ex347.ext x323).ext x330)
   have ex364 := ((ex349.ext x323).ext x330)
   have ex365 := ((ex351.ext x323).ext x330)
   have ex366 := ((ex353.ext x323).ext x330)
   have ex367 := ((ex355.ext x323).ext x330)
   have ex368 := ((((((ex94.ext x100).but y (Dj.of_fresh ex94 f102).symm).ext x106).ext x301).ext x307).ext x317)
   have ex369 := ((((ex17.ext x).ext x77).ext x82).ext x91)
   have ex370 := ((((((((((ex17.ext x).ext x77).ext x82).ext x91).ext x100).but y (Dj.of_fresh ex369 f102).symm).ext x106).ext x301).ext x307).ext x317)
   have ex371 := ((((ex20.ext x).ext x77).ext x82).ext x91)
   have ex372 := ((((((((((ex20.ext x).ext x77).ext x82).ext x91).ext x100).but y (Dj.of_fresh ex371 f102).symm).ext x106).ext x301).ext x307).ext x317)
   have ex373 := ((((ex22.ext x).ext x77).ext x82).ext x91)
   have ex374 := ((((((((((ex22.ext x).ext x77).ext x82).ext x91).ext x100).but y (Dj.of_fresh ex373 f102).symm).ext x106).ext x301).ext x307).ext x317)
   have ex375 := (ex83.ext x91)
   have ex376 := (((((((ex83.ext x91).ext x100).but y (Dj.of_fresh ex375 f102).symm).ext x106).ext x301).ext x307).ext x317)
   have ex377 := ((ex78.ext x82).ext x91)
   have ex378 := ((((((((ex78.ext x82).ext x91).ext x100).but y (Dj.of_fresh ex377 f102).symm).ext x106).ext x301).ext x307).ext x317)
   have ex379 := ((((ex94.ext x100).but y (Dj.of_fresh ex94 f102).symm).ext x106).ext x301)
   have ex380 := ((((ex369.ext x100).but y (Dj.of_fresh ex369 f102).symm).ext x106).ext x301)
   have ex381 := ((((ex371.ext x100).but y (Dj.of_fresh ex371 f102).symm).ext x106).ext x301)
   have ex382 := ((((ex373.ext x100).but y (Dj.of_fresh ex373 f102).symm).ext x106).ext x301)
   have ex383 := ((((ex375.ext x100).but y (Dj.of_fresh ex375 f102).symm).ext x106).ext x301)
   have ex384 := ((((ex377.ext x100).but y (Dj.of_fresh ex377 f102).symm).ext x106).ext x301)
   have ex385 := (((ex27.ext x).ext x77).ext x82)
   have ex386 := ((ex27.ext x).ext x77)
   have ex387 := (ex27.ext x)
   have ex388 := (((ex31.ext x).ext x77).ext x82)
   have ex389 := ((ex31.ext x).ext x77)
   have ex390 := (ex31.ext x)
   have ex391 := (((ex36.ext x).ext x77).ext x82)
   have ex392 := ((ex36.ext x).ext x77)
   have ex393 := (ex36.ext x)
   have ex394 := (((ex40.ext x).ext x77).ext x82)
   have ex395 := ((ex40.ext x).ext x77)
   have ex396 := (ex40.ext x)
   have ex397 := ((ex368.ext x323).ext x330)
   have ex398 := ((ex370.ext x323).ext x330)
   have ex399 := ((ex372.ext x323).ext x330)
   have ex400 := ((ex374.ext x323).ext x330)
   have ex401 := ((ex376.ext x323).ext x330)
   have ex402 := ((ex378.ext x323).ext x330)
   have ex409 := (((ex397.ext x333).ext x340).but y344 (Dj.of_fresh ex397 f335).symm)
   have ex410 := (((ex356.ext x333).ext x340).but y344 (Dj.of_fresh ex356 f335).symm)
   have ex411 := (((ex362.ext x333).ext x340).but y344 (Dj.of_fresh ex362 f335).symm)
   have ex412 := (((ex363.ext x333).ext x340).but y344 (Dj.of_fresh ex363 f335).symm)
   have ex413 := (((ex398.ext x333).ext x340).but y344 (Dj.of_fresh ex398 f335).symm)
   have ex414 := (((ex399.ext x333).ext x340).but y344 (Dj.of_fresh ex399 f335).symm)
   have ex415 := (((ex400.ext x333).ext x340).but y344 (Dj.of_fresh ex400 f335).symm)
   have ex416 := (((ex364.ext x333).ext x340).but y344 (Dj.of_fresh ex364 f335).symm)
   have ex417 := (((ex365.ext x333).ext x340).but y344 (Dj.of_fresh ex365 f335).symm)
   have ex418 := (((ex366.ext x333).ext x340).but y344 (Dj.of_fresh ex366 f335).symm)
   have ex419 := (((ex367.ext x333).ext x340).but y344 (Dj.of_fresh ex367 f335).symm)
   have ex420 := (((ex401.ext x333).ext x340).but y344 (Dj.of_fresh ex401 f335).symm)
   have ex421 := (((ex402.ext x333).ext x340).but y344 (Dj.of_fresh ex402 f335).symm)
   refine LP_call 1 rfl rfl rfl cal_65 rfl (impl_search_from_impl_solutions_1_impl_ranges_1_impl_AnswerRange_1_w _ _ _ _ _ _ _ _ _ H wx342 o.readf ex409 o324 ex410 o308 ex411 ex412 r16 ex413 ex414 ex415 r26 ex416 cn ex417 r35 ex418 ex419 ex420 ex421 ex343 (Dj.of_fresh ex346 f326).symm (Dj.of_fresh ex347 f326).symm (Dj.of_fresh ex349 f326).symm (Dj.of_fresh ex351 f326).symm (Dj.of_fresh ex353 f326).symm (Dj.of_fresh ex355 f326).symm (Dj.box (Dj.of_fresh ex356 f335).symm).symm (Dj.of_fresh ex357 f310).symm (Dj.of_fresh ex358 f310).symm (Dj.of_fresh ex359 f310).symm (Dj.of_fresh ex360 f310).symm (Dj.of_fresh ex361 f310).symm (Dj.box (Dj.of_fresh ex362 f335).symm).symm (Dj.box (Dj.of_fresh ex348 f102).symm) (Dj.box (Dj.of_fresh ex350 f102).symm) (Dj.box (Dj.of_fresh ex352 f102).symm) (Dj.box (Dj.of_fresh ex354 f102).symm) (Dj.box (Dj.of_fresh ex363 f335).symm).symm d d41 d42 (Dj.box (Dj.of_fresh ex364 f335).symm).symm d43 d44 (Dj.box (Dj.of_fresh ex365 f335).symm).symm d45 (Dj.box (Dj.of_fresh ex366 f335).symm).symm (Dj.box (Dj.of_fresh ex367 f335).symm).symm (Dj.of_fresh ex368 f326).symm (Dj.of_fresh ex370 f326).symm (Dj.of_fresh ex372 f326).symm (Dj.of_fresh ex374 f326).symm (Dj.of_fresh ex376 f326).symm (Dj.of_fresh ex378 f326).symm (Dj.of_fresh ex379 f310).symm (Dj.of_fresh ex380 f310).symm (Dj.of_fresh ex381 f310).symm (Dj.of_fresh ex382 f310).symm (Dj.of_fresh ex383 f310).symm (Dj.of_fresh ex384 f310).symm (Dj.box (Dj.of_fresh ex94 f102).symm) (Dj.box (Dj.of_fresh ex369 f102).symm) (Dj.box (Dj.of_fresh ex371 f102).symm) (Dj.box (Dj.of_fresh ex373 f102).symm) (Dj.box (Dj.of_fresh ex375 f102).symm) (Dj.box (Dj.of_fresh ex377 f102).symm) (Dj.of_fresh ex385 f95) d49 d50 d51 (Dj.of_fresh ex386 f84) (Dj.of_fresh ex387 f79) (Dj.of_fresh ex388 f95) d55 d56 d57 (Dj.of_fresh ex389 f84) (Dj.of_fresh ex390 f79) (Dj.of_fresh ex391 f95) d61 d62 d63 (Dj.of_fresh ex392 f84) (Dj.of_fresh ex393 f79) (Dj.of_fresh ex394 f95) d67 d68 d69 (Dj.of_fresh ex395 f84) (Dj.of_fresh ex396 f79) (Dj.box (Dj.of_fresh ex397 f335).symm) (Dj.box (Dj.of_fresh ex398 f335).symm) (Dj.box (Dj.of_fresh ex399 f335).symm) (Dj.box (Dj.of_fresh ex400 f335).symm) (Dj.box (Dj.of_fresh ex401 f335).symm) (Dj.box (Dj.of_fresh ex402 f335).symm)) ?_
   rintro _ wx422 ⟨r403, r404, r405, r406, r407, r408, vx428, hx424, vx433, hx429, vx439, hx435, vx445, hx441, H, rfl, x423, HF⟩
   revert HF
   refine bb9 fun o425 ex426 dm427 o430 ex431 dm432 ex434 o436 => ?_
   refine bb9 fun ex437 dm438 ex440 o442 ex443 dm444 ex446 ex447 => ?_
   refine bb9 fun d448 d449 d450 d451 d452 d453 d454 d455 => ?_
   refine bb9 fun d456 d457 d458 d459 d460 d461 d462 d463 => ?_
   refine bb7 fun d464 d465 d466 d467 d468 d469 cn470 => ?_
   obtain ⟨a471, c472, rfl⟩ := o425.shape
   obtain ⟨a473, c474, rfl⟩ := o430.shape
   obtain ⟨a475, c476, rfl⟩ := o436.shape
   obtain ⟨a477, c478, rfl⟩ := o442.shape
   refine LP_end _ rfl ?_
   refine W_seq ?_
   refine W_region ?_
   refine LP_ldbox 0 (v := I r406) rfl rfl rfl ti_3 ag_3 (fun _ => rfl) rfl ex434 rfl rfl ?_
   refine LP_ev ok 1 [(12, I r406)] 2 rfl rfl ?_
   refine LP_end _ rfl ?_
   refine W_ret ?_
   have X481 := ((((X.stepx x).stepx x77).stepx x82).stepx x91)
   have f480 := f102.mono X481.size
   have X482 := ((((((((((X.stepx x).stepx x77).stepx x82).stepx x91).stepx x100).step y (f480.dom _)).stepx x106).stepx x301).stepx x307).stepx x317)
   have f479 := f326.mono X482.size
   have X484 := ((((X481.stepx x100).step y (f480.dom _)).stepx x106).stepx x301)
   have f483 := f310.mono X484.size
   have X486 := ((X482.stepx x323).stepx x330)
   have f485 := f335.mono X486.size
   have X487 := (((X486.stepx x333).stepx x340).step y344 (f485.dom _))
   have X488 := (X487.step x423 (DomLe.un (f479.dom _) (DomLe.un (f483.dom _) (DomLe.un ((Fresh.box f480).dom _) (DomLe.un (Dom.le D _) (DomLe.un (Dom.le D70 _) (DomLe.un (Dom.le D71 _) (DomLe.un (Dom.le D72 _) ((Fresh.box f485).dom _)))))))))
   subst hM
   exact ⟨_, Ret_of [I r406] ⟨⟨rfl, rfl⟩, trivial⟩, _, _, _, _, _, _, _, H, rfl, X488, o436, ex437, (DomLe.trans (DomLe.un (f479.dom _) (DomLe.un (f483.dom _) (DomLe.un ((Fresh.box f480).dom _) (DomLe.un (Dom.le D _) (DomLe.un (Dom.le D70 _) (DomLe.un (Dom.le D71 _) (DomLe.un (Dom.le D72 _) ((Fresh.box f485).dom _)))))))) dm438 X487.size), ex440, o442, ex443, (DomLe.trans (DomLe.un (f479.dom _) (DomLe.un (f483.dom _) (DomLe.un ((Fresh.box f480).dom _) (DomLe.un (Dom.le D _) (DomLe.un (Dom.le D70 _) (DomLe.un (Dom.le D71 _) (DomLe.un (Dom.le D72 _) ((Fresh.box f485).dom _)))))))) dm444 X487.size), ex446, d463, d464, d465, d467, d468, cn470⟩
  ·have H := H
   refine GT_lp [] rfl (by kernel_rfl) rfl (fun _ h => h) rfl fun ρ wx316 x317 => ?_
   refine LP_alloc 0 rfl rfl rfl ti_103 rfl fun b318 wx319 x320 ex321 f322 => ?_
   have ex323 := ((ex313.ext x317).ext x320)
   have ex324 := ((ex314.ext x317).ext x320)
   have ex325 := ((ex315.ext x317).ext x320)
   refine LP_gs ⟨⟨.inr ex323, .inr ex324, .inr ex325, trivial⟩, ?_⟩
   refine GT_hd [4] (by kernel_rfl) ⟨GT_lp [(23, I r109)] rfl (by kernel_rfl) rfl (fun _ h => h) rfl fun ρ wx326 x327 => ?_, trivial⟩
   obtain ⟨hn328, hb329, H⟩ := H
   refine LP_make (α := Int) 0 rfl rfl rfl Try.underlying22 ti_3 (x0 := (0 : Int)) rfl rfl hn328 (by first | omega | (simp only [ln] at *; omega)) (by first | omega | (simp only [ln] at *; omega)) fun hx330 vx331 wx332 x333 o334 ex335 f336 => ?_
   obtain ⟨a337, c338, rfl⟩ := o334.shape
   refine LP_gs ⟨⟨.inl rfl, .inl rfl, .inl rfl, trivial⟩, ?_⟩
   refine GT_ev 9 ok [(20, sl a96 r86 c97), (24, .slice a337 (List.length (List.replicate (Int.toNat r109) ((0 : Int)))) c338), (27, .slice a311 (List.length (List.replicate (Int.toNat (ln r86)) ((0 : Int)))) c312), (28, .func (.func 64) #[] #[pb b98, pb b80, pb b75])] (.agg #[sl a96 r86 c97, .slice a337 (List.length (List.replicate (Int.toNat r109) ((0 : Int)))) c338, .slice a311 (List.length (List.replicate (Int.toNat (ln r86)) ((0 : Int)))) c312, .func (.func 64) #[] #[pb b98, pb b80, pb b75]]) rfl (by kernel_rfl) rfl (fun _ h => h) (fun _ => rfl) ?_
   refine GT_end (by kernel_rfl) ?_
   intro wx339 x340 ρ hn341
   refine AP_forget [(3, I n), (14, pb b98), (15, pb b318), (29, .agg #[sl a96 r86 c97, .slice a337 (List.length (List.replicate (Int.toNat r109) ((0 : Int)))) c338, .slice a311 (List.length (List.replicate (Int.toNat (ln r86)) ((0 : Int)))) c312, .func (.func 64) #[] #[pb b98, pb b80, pb b75]])] (by exact hn341) fun ρ => ?_
   refine AP_tail 11 [[], [], [], [1, 2], [1, 2, 3], [], [5], [5, 6], [], [0, 1, 2, 3, 4, 5, 6, 7, 8], [], [0, 1, 2, 3, 4, 5, 6, 7, 8, 9, 10]] (by kernel_rfl) ?_
   have ex345 := (((ex321.ext x327).ext x333).ext x340)
   refine LP_stbox 11 (vs := [sl a96 r86 c97, .slice a337 (List.length (List.replicate (Int.toNat r109) ((0 : Int)))) c338, .slice a311 (List.length (List.replicate (Int.toNat (ln r86)) ((0 : Int)))) c312, .func (.func 64) #[] #[pb b98, pb b80, pb b75]]) (cs' := [sl a96 r86 c97, .slice a337 (List.length (List.replicate (Int.toNat r109) ((0 : Int)))) c338, .slice a311 (List.length (List.replicate (Int.toNat (ln r86)) ((0 : Int)))) c312, .func (.func 64) #[] #[pb b98, pb b80, pb b75]]) rfl rfl rfl ti_103 rfl rfl rfl rfl rfl ex345 rfl rfl fun wx342 ex343 y344 => ?_
   refine LP_end _ rfl ?_
   refine W_seq ?_
   refine W_region ?_
   refine LP_ev ok 0 [(30, I n)] 1 rfl rfl ?_
   have ex346 := (((ex309.ext x317).ext x320).ext x327)
   have ex347 := ((((((ex104.ext x106).ext x301).ext x307).ext x317).ext x320).ext x327)
   have ex348 := ((((ex27.ext x).ext x77).ext x82).ext x91)
   have ex349 := ((((((((((((ex27.ext x).ext x77).ext x82).ext x91).ext x100).but y (Dj.of_fresh ex348 f102).symm).ext x106).ext x301).ext x307).ext x317).ext x320).ext x327)
   have ex350 := ((((ex31.ext x).ext x77).ext x82).ext x91)
   have ex351 := ((((((((((((ex31.ext x).ext x77).ext x82).ext x91).ext x100).but y (Dj.of_fresh ex350 f102).symm).ext x106).ext x301).ext x307).ext x317).ext x320).ext x327)
   have ex352 := ((((ex36.ext x).ext x77).ext x82).ext x91)
   have ex353 := ((((((((((((ex36.ext x).ext x77).ext x82).ext x91).ext x100).but y (Dj.of_fresh ex352 f102).symm).ext x106).ext x301).ext x307).ext x317).ext x320).ext x327)
   have ex354 := ((((ex40.ext x).ext x77).ext x82).ext x91)
   have ex355 := ((((((((((((ex40.ext x).ext x77).ext x82).ext x91).ext x100).but y (Dj.of_fresh ex354 f102).symm).ext x106).ext x301).ext x307).ext x317).ext x320).ext x327)
   have ex356 := (ex321.ext x327)
   have ex357 := ((ex104.ext x106).ext x301)
   have ex358 := ((((ex348.ext x100).but y (Dj.of_fresh ex348 f102).symm).ext x106).ext x301)
   have ex359 := ((((ex350.ext x100).but y (Dj.of_fresh ex350 f102).symm).ext x106).ext x301)
   have ex360 := ((((ex352.ext x100).but y (Dj.of_fresh ex352 f102).symm).ext x106).ext x301)
   have ex361 := ((((ex354.ext x100).but y (Dj.of_fresh ex354 f102).symm).ext x106).ext x301)
   have ex362 := (ex309.ext x317)
   have ex363 := ((ex357.ext x307).ext x317)
   have ex364 := ((ex358.ext x307).ext x317)
   have ex365 := ((ex359.ext x307).ext x317)
   have ex366 := ((ex360.ext x307).ext x317)
   have ex367 := ((ex361.ext x307).ext x317)
   have ex368 := ((((((((ex94.ext x100).but y (Dj.of_fresh ex94 f102).symm).ext x106).ext x301).ext x307).ext x317).ext x320).ext x327)
   have ex369 := ((((ex17.ext x).ext x77).ext x82).ext x91)
   have ex370 := ((((((((((((ex17.ext x).ext x77).ext x82).ext x91).ext x100).but y (Dj.of_fresh ex369 f102).symm).ext x106).ext x301).ext x307).ext x317).ext x320).ext x327)
   have ex371 := ((((ex20.ext x).ext x77).ext x82).ext x91)
   have ex372 := ((((((((((((ex20.ext x).ext x77).ext x82).ext x91).ext x100).but y (Dj.of_fresh ex371 f102).symm).ext x106).ext x301).ext x307).ext x317).ext x320).ext x327)
   have ex373 := ((((ex22.ext x).ext x77).ext x82).ext x91)
   have ex374 := ((((((((((((ex22.ext x).ext x77).ext x82).ext x91).ext x100).but y (Dj.of_fresh ex373 f102).symm).ext x106).ext x301).ext x307).ext x317).ext x320).ext x327)
   have ex375 := (ex83.ext x91)
   have ex376 := (((((((((ex83.ext x91).ext x100).but y (Dj.of_fresh ex375 f102).symm).ext x106).ext x301).ext x307).ext x317).ext x320).ext x327)
   have ex377 := ((ex78.ext x82).ext x91)
   have ex378 := ((((((((((ex78.ext x82).ext x91).ext x100).but y (Dj.of_fresh ex377 f102).symm).ext x106).ext x301).ext x307).ext x317).ext x320).ext x327)
   have ex379 := ((((ex94.ext x100).but y (Dj.of_fresh ex94 f102).symm).ext x106).ext x301)
   have ex380 := ((((ex369.ext x100).but y (Dj.of_fresh ex369 f102).symm).ext x106).ext x301)
   have ex381 := ((((ex371.ext x100).but y (Dj.of_fresh ex371 f102).symm).ext x106).ext x301)
   have ex382 := ((((ex373.ext x100).but y (Dj.of_fresh ex373 f102).symm).ext x106).ext x301)
   have ex383 := ((((ex375.ext x100).but y (Dj.of_fresh ex375 f102).symm).ext x106).ext x301)
   have ex384 := ((((ex377.ext x100).but y (Dj.of_fresh ex377 f102).symm).ext x106).ext x301)
   have ex385 := (((ex27.ext x).ext x77).ext x82)
   have ex386 := ((ex27.ext x).ext x77)
   have ex387 := (ex27.ext x)
   have ex388 := (((ex31.ext x).ext x77).ext x82)
   have ex389 := ((ex31.ext x).ext x77)
   have ex390 := (ex31.ext x)
   have ex391 := (((ex36.ext x).ext x77).ext x82)
   have ex392 := ((ex36.ext x).ext x77)
   have ex393 := (ex36.ext x)
   have ex394 := (((ex40.ext x).ext x77).ext x82)
   have ex395 := ((ex40.ext x).ext x77)
   have ex396 := (ex40.ext x)
   have ex397 := ((ex379.ext x307).ext x317)
   have ex398 := ((ex380.ext x307).ext x317)
   have ex399 := ((ex381.ext x307).ext x317)
   have ex400 := ((ex382.ext x307).ext x317)
   have ex401 := ((ex383.ext x307).ext x317)
   have ex402 := ((ex384.ext x307).ext x317)
   have ex409 := (((ex368.ext x333).ext x340).but y344 (Dj.of_fresh ex397 f322).symm)
   have ex410 := ((ex335.ext x340).but y344 (Dj.of_fresh ex356 f336))
   have ex411 := (((ex346.ext x333).ext x340).but y344 (Dj.of_fresh ex362 f322).symm)
   have ex412 := (((ex347.ext x333).ext x340).but y344 (Dj.of_fresh ex363 f322).symm)
   have ex413 := (((ex370.ext x333).ext x340).but y344 (Dj.of_fresh ex398 f322).symm)
   have ex414 := (((ex372.ext x333).ext x340).but y344 (Dj.of_fresh ex399 f322).symm)
   have ex415 := (((ex374.ext x333).ext x340).but y344 (Dj.of_fresh ex400 f322).symm)
   have ex416 := (((ex349.ext x333).ext x340).but y344 (Dj.of_fresh ex364 f322).symm)
   have ex417 := (((ex351.ext x333).ext x340).but y344 (Dj.of_fresh ex365 f322).symm)
   have ex418 := (((ex353.ext x333).ext x340).but y344 (Dj.of_fresh ex366 f322).symm)
   have ex419 := (((ex355.ext x333).ext x340).but y344 (Dj.of_fresh ex367 f322).symm)
   have ex420 := (((ex376.ext x333).ext x340).but y344 (Dj.of_fresh ex401 f322).symm)
   have ex421 := (((ex378.ext x333).ext x340).but y344 (Dj.of_fresh ex402 f322).symm)
   refine LP_call 1 rfl rfl rfl cal_65 rfl (impl_search_from_impl_solutions_1_impl_ranges_1_impl_AnswerRange_1_w _ _ _ _ _ _ _ _ _ H wx342 o.readf ex409 o334 ex410 o308 ex411 ex412 r16 ex413 ex414 ex415 r26 ex416 cn ex417 r35 ex418 ex419 ex420 ex421 ex343 (Dj.of_fresh ex346 f336).symm (Dj.of_fresh ex347 f336).symm (Dj.of_fresh ex349 f336).symm (Dj.of_fresh ex351 f336).symm (Dj.of_fresh ex353 f336).symm (Dj.of_fresh ex355 f336).symm (Dj.box (Dj.of_fresh ex356 f336).symm.symm).symm (Dj.of_fresh ex357 f310).symm (Dj.of_fresh ex358 f310).symm (Dj.of_fresh ex359 f310).symm (Dj.of_fresh ex360 f310).symm (Dj.of_fresh ex361 f310).symm (Dj.box (Dj.of_fresh ex362 f322).symm).symm (Dj.box (Dj.of_fresh ex348 f102).symm) (Dj.box (Dj.of_fresh ex350 f102).symm) (Dj.box (Dj.of_fresh ex352 f102).symm) (Dj.box (Dj.of_fresh ex354 f102).symm) (Dj.box (Dj.of_fresh ex363 f322).symm).symm d d41 d42 (Dj.box (Dj.of_fresh ex364 f322).symm).symm d43 d44 (Dj.box (Dj.of_fresh ex365 f322).symm).symm d45 (Dj.box (Dj.of_fresh ex366 f322).symm).symm (Dj.box (Dj.of_fresh ex367 f322).symm).symm (Dj.of_fresh ex368 f336).symm (Dj.of_fresh ex370 f336).symm (Dj.of_fresh ex372 f336).symm (Dj.of_fresh ex374 f336).symm (Dj.of_fresh ex376 f336).symm (Dj.of_fresh ex378 f336).symm (Dj.of_fresh ex379 f310).symm (Dj.of_fresh ex380 f310).symm (Dj.of_fresh ex381 f310).symm (Dj.of_fresh ex382 f310).symm (Dj.of_fresh ex383 f310).symm (Dj.of_fresh ex384 f310).symm (Dj.box (Dj.of_fresh ex94 f102).symm) (Dj.box (Dj.of_fresh ex369 f102).symm) (Dj.box (Dj.of_fresh ex371 f102).symm) (Dj.box (Dj.of_fresh ex373 f102).symm) (Dj.box (Dj.of_fresh ex375 f102).symm) (Dj.box (Dj.of_fresh ex377 f102).symm) (Dj.of_fresh ex385 f95) d49 d50 d51 (Dj.of_fresh ex386 f84) (Dj.of_fresh ex387 f79) (Dj.of_fresh ex388 f95) d55 d56 d57 (Dj.of_fresh ex389 f84) (Dj.of_fresh ex390 f79) (Dj.of_fresh ex391 f95) d61 d62 d63 (Dj.of_fresh ex392 f84) (Dj.of_fresh ex393 f79) (Dj.of_fresh ex394 f95) d67 d68 d69 (Dj.of_fresh ex395 f84) (Dj.of_fresh ex396 f79) (Dj.box (Dj.of_fresh ex397 f322).symm) (Dj.box (Dj.of_fresh ex398 f322).symm) (Dj.box (Dj.of_fresh ex399 f322).symm) (Dj.box (Dj.of_fresh ex400 f322).symm) (Dj.box (Dj.of_fresh ex401 f322).symm) (Dj.box (Dj.of_fresh ex402 f322).symm)) ?_
   rintro _ wx422 ⟨r403, r404, r405, r406, r407, r408, vx428, hx424, vx433, hx429, vx439, hx435, vx445, hx441, H, rfl, x423, HF⟩
   revert HF
   refine bb9 fun o425 ex426 dm427 o430 ex431 dm432 ex434 o436 => ?_
   refine bb9 fun ex437 dm438 ex440 o442 ex443 dm444 ex446 ex447 => ?_
   refine bb9 fun d448 d449 d450 d451 d452 d453 d454 d455 => ?_
   refine bb9 fun d456 d457 d458 d459 d460 d461 d462 d463 => ?_
   refine bb7 fun d464 d465 d466 d467 d468 d469 cn470 => ?_
   obtain ⟨a471, c472, rfl⟩ := o425.shape
   obtain ⟨a473, c474, rfl⟩ := o430.shape
   obtain ⟨a475, c476, rfl⟩ := o436.shape
   obtain ⟨a477, c478, rfl⟩ := o442.shape
   refine LP_end _ rfl ?_
   refine W_seq ?_
   refine W_region ?_
   refine LP_ldbox 0 (v := I r406) rfl rfl rfl ti_3 ag_3 (fun _ => rfl) rfl ex434 rfl rfl ?_
   refine LP_ev ok 1 [(12, I r406)] 2 rfl rfl ?_
   refine LP_end _ rfl ?_
   refine W_ret ?_
   have X481 := ((((X.stepx x).stepx x77).stepx x82).stepx x91)
   have f480 := f102.mono X481.size
   have X482 := ((((((((((((X.stepx x).stepx x77).stepx x82).stepx x91).stepx x100).step y (f480.dom _)).stepx x106).stepx x301).stepx x307).stepx x317).stepx x320).stepx x327)
   have f479 := f336.mono X482.size
   have X484 := ((((X481.stepx x100).step y (f480.dom _)).stepx x106).stepx x301)
   have f483 := f310.mono X484.size
   have X486 := ((X484.stepx x307).stepx x317)
   have f485 := f322.mono X486.size
   have X487 := (((X482.stepx x333).stepx x340).step y344 (f485.dom _))
   have X488 := (X487.step x423 (DomLe.un (f479.dom _) (DomLe.un (f483.dom _) (DomLe.un ((Fresh.box f480).dom _) (DomLe.un (Dom.le D _) (DomLe.un (Dom.le D70 _) (DomLe.un (Dom.le D71 _) (DomLe.un (Dom.le D72 _) ((Fresh.box f485).dom _)))))))))
   subst hM
   exact ⟨_, Ret_of [I r406] ⟨⟨rfl, rfl⟩, trivial⟩, _, _, _, _, _, _, _, H, rfl, X488, o436, ex437, (DomLe.trans (DomLe.un (f479.dom _) (DomLe.un (f483.dom _) (DomLe.un ((Fresh.box f480).dom _) (DomLe.un (Dom.le D _) (DomLe.un (Dom.le D70 _) (DomLe.un (Dom.le D71 _) (DomLe.un (Dom.le D72 _) ((Fresh.box f485).dom _)))))))) dm438 X487.size), ex440, o442, ex443, (DomLe.trans (DomLe.un (f479.dom _) (DomLe.un (f483.dom _) (DomLe.un ((Fresh.box f480).dom _) (DomLe.un (Dom.le D _) (DomLe.un (Dom.le D70 _) (DomLe.un (Dom.le D71 _) (DomLe.un (Dom.le D72 _) ((Fresh.box f485).dom _)))))))) dm444 X487.size), ex446, d463, d464, d465, d467, d468, cn470⟩
 ·have H := H.2.2
  refine GT_lp [] rfl (by kernel_rfl) rfl (fun _ h => h) rfl fun ρ wx489 x490 => ?_
  refine LP_alloc 0 rfl rfl rfl ti_103 rfl fun b491 wx492 x493 ex494 f495 => ?_
  have ex496 := ((ex111.ext x490).ext x493)
  have ex497 := ((ex113.ext x490).ext x493)
  have ex498 := ((ex108.ext x490).ext x493)
  refine LP_gs ⟨⟨.inr ex496, .inr ex497, .inr ex498, trivial⟩, ?_⟩
  refine GT_hd [4, 7] (by kernel_rfl) ⟨?_, ?_, trivial⟩
  ·have H := H.1
   refine GT_lp [(23, I r109)] rfl (by kernel_rfl) rfl (fun _ h => h) rfl fun ρ wx499 x500 => ?_
   obtain ⟨hn501, hb502, H⟩ := H
   refine LP_make (α := Int) 0 rfl rfl rfl Try.underlying22 ti_3 (x0 := (0 : Int)) rfl rfl hn501 (by first | omega | (simp only [ln] at *; omega)) (by first | omega | (simp only [ln] at *; omega)) fun hx503 vx504 wx505 x506 o507 ex508 f509 => ?_
   obtain ⟨a510, c511, rfl⟩ := o507.shape
   refine LP_gs ⟨⟨.inl rfl, .inl rfl, .inl rfl, trivial⟩, ?_⟩
   refine GT_hd [7] (by kernel_rfl) ⟨GT_lp [(26, I (ln r86))] rfl (by kernel_rfl) rfl (fun _ h => h) rfl fun ρ wx512 x513 => ?_, trivial⟩
   obtain ⟨hn514, hb515, H⟩ := H
   refine LP_make (α := Int) 0 rfl rfl rfl Try.underlying22 ti_3 (x0 := (0 : Int)) rfl rfl hn514 (by first | omega | (simp only [ln] at *; omega)) (by first | omega | (simp only [ln] at *; omega)) fun hx516 vx517 wx518 x519 o520 ex521 f522 => ?_
   obtain ⟨a523, c524, rfl⟩ := o520.shape
   have ex525 := ((((ex496.ext x500).ext x506).ext x513).ext x519)
   have ex526 := ((((ex497.ext x500).ext x506).ext x513).ext x519)
   have ex527 := ((((ex498.ext x500).ext x506).ext x513).ext x519)
   refine LP_gs ⟨⟨.inr ex525, .inr ex526, .inr ex527, trivial⟩, ?_⟩
   refine GT_ev 9 ok [(20, sl a96 r86 c97), (24, .slice a510 (List.length (List.replicate (Int.toNat r109) ((0 : Int)))) c511), (27, .slice a523 (List.length (List.replicate (Int.toNat (ln r86)) ((0 : Int)))) c524), (28, .func (.func 64) #[] #[pb b98, pb b80, pb b75])] (.agg #[sl a96 r86 c97, .slice a510 (List.length (List.replicate (Int.toNat r109) ((0 : Int)))) c511, .slice a523 (List.length (List.replicate (Int.toNat (ln r86)) ((0 : Int)))) c524, .func (.func 64) #[] #[pb b98, pb b80, pb b75]]) rfl (by kernel_rfl) rfl (fun _ h => h) (fun _ => rfl) ?_
   refine GT_end (by kernel_rfl) ?_
   intro wx528 x529 ρ hn530
   refine AP_forget [(3, I n), (14, pb b98), (15, pb b491), (29, .agg #[sl a96 r86 c97, .slice a510 (List.length (List.replicate (Int.toNat r109) ((0 : Int)))) c511, .slice a523 (List.length (List.replicate (Int.toNat (ln r86)) ((0 : Int)))) c524, .func (.func 64) #[] #[pb b98, pb b80, pb b75]])] (by exact hn530) fun ρ => ?_
   refine AP_tail 11 [[], [], [], [1, 2], [1, 2, 3], [], [5], [5, 6], [], [0, 1, 2, 3, 4, 5, 6, 7, 8], [], [0, 1, 2, 3, 4, 5, 6, 7, 8, 9, 10]] (by kernel_rfl) ?_
   have ex534 := (((((ex494.ext x500).ext x506).ext x513).ext x519).ext x529)
   refine LP_stbox 11 (vs := [sl a96 r86 c97, .slice a510 (List.length (List.replicate (Int.toNat r109) ((0 : Int)))) c511, .slice a523 (List.length (List.replicate (Int.toNat (ln r86)) ((0 : Int)))) c524, .func (.func 64) #[] #[pb b98, pb b80, pb b75]]) (cs' := [sl a96 r86 c97, .slice a510 (List.length (List.replicate (Int.toNat r109) ((0 : Int)))) c511, .slice a523 (List.length (List.replicate (Int.toNat (ln r86)) ((0 : Int)))) c524, .func (.func 64) #[] #[pb b98, pb b80, pb b75]]) rfl rfl rfl ti_103 rfl rfl rfl rfl rfl ex534 rfl rfl fun wx531 ex532 y533 => ?_
   refine LP_end _ rfl ?_
   refine W_seq ?_
   refine W_region ?_
   refine LP_ev ok 0 [(30, I n)] 1 rfl rfl ?_
   have ex535 := (ex508.ext x513)
   have ex536 := ((((ex104.ext x106).ext x490).ext x493).ext x500)
   have ex537 := ((((ex27.ext x).ext x77).ext x82).ext x91)
   have ex538 := ((((((((((ex27.ext x).ext x77).ext x82).ext x91).ext x100).but y (Dj.of_fresh ex537 f102).symm).ext x106).ext x490).ext x493).ext x500)
   have ex539 := ((((ex31.ext x).ext x77).ext x82).ext x91)
   have ex540 := ((((((((((ex31.ext x).ext x77).ext x82).ext x91).ext x100).but y (Dj.of_fresh ex539 f102).symm).ext x106).ext x490).ext x493).ext x500)
   have ex541 := ((((ex36.ext x).ext x77).ext x82).ext x91)
   have ex542 := ((((((((((ex36.ext x).ext x77).ext x82).ext x91).ext x100).but y (Dj.of_fresh ex541 f102).symm).ext x106).ext x490).ext x493).ext x500)
   have ex543 := ((((ex40.ext x).ext x77).ext x82).ext x91)
   have ex544 := ((((((((((ex40.ext x).ext x77).ext x82).ext x91).ext x100).but y (Dj.of_fresh ex543 f102).symm).ext x106).ext x490).ext x493).ext x500)
   have ex545 := (ex494.ext x500)
   have ex546 := ((ex536.ext x506).ext x513)
   have ex547 := ((ex538.ext x506).ext x513)
   have ex548 := ((ex540.ext x506).ext x513)
   have ex549 := ((ex542.ext x506).ext x513)
   have ex550 := ((ex544.ext x506).ext x513)
   have ex551 := ((ex545.ext x506).ext x513)
   have ex552 := ((ex104.ext x106).ext x490)
   have ex553 := ((((ex537.ext x100).but y (Dj.of_fresh ex537 f102).symm).ext x106).ext x490)
   have ex554 := ((((ex539.ext x100).but y (Dj.of_fresh ex539 f102).symm).ext x106).ext x490)
   have ex555 := ((((ex541.ext x100).but y (Dj.of_fresh ex541 f102).symm).ext x106).ext x490)
   have ex556 := ((((ex543.ext x100).but y (Dj.of_fresh ex543 f102).symm).ext x106).ext x490)
   have ex557 := ((((((ex94.ext x100).but y (Dj.of_fresh ex94 f102).symm).ext x106).ext x490).ext x493).ext x500)
   have ex558 := ((((ex17.ext x).ext x77).ext x82).ext x91)
   have ex559 := ((((((((((ex17.ext x).ext x77).ext x82).ext x91).ext x100).but y (Dj.of_fresh ex558 f102).symm).ext x106).ext x490).ext x493).ext x500)
   have ex560 := ((((ex20.ext x).ext x77).ext x82).ext x91)
   have ex561 := ((((((((((ex20.ext x).ext x77).ext x82).ext x91).ext x100).but y (Dj.of_fresh ex560 f102).symm).ext x106).ext x490).ext x493).ext x500)
   have ex562 := ((((ex22.ext x).ext x77).ext x82).ext x91)
   have ex563 := ((((((((((ex22.ext x).ext x77).ext x82).ext x91).ext x100).but y (Dj.of_fresh ex562 f102).symm).ext x106).ext x490).ext x493).ext x500)
   have ex564 := (ex83.ext x91)
   have ex565 := (((((((ex83.ext x91).ext x100).but y (Dj.of_fresh ex564 f102).symm).ext x106).ext x490).ext x493).ext x500)
   have ex566 := ((ex78.ext x82).ext x91)
   have ex567 := ((((((((ex78.ext x82).ext x91).ext x100).but y (Dj.of_fresh ex566 f102).symm).ext x106).ext x490).ext x493).ext x500)
   have ex568 := ((ex557.ext x506).ext x513)
   have ex569 := ((ex559.ext x506).ext x513)
   have ex570 := ((ex561.ext x506).ext x513)
   have ex571 := ((ex563.ext x506).ext x513)
   have ex572 := ((ex565.ext x506).ext x513)
   have ex573 := ((ex567.ext x506).ext x513)
   have ex574 := (((ex27.ext x).ext x77).ext x82)
   have ex575 := ((ex27.ext x).ext x77)
   have ex576 := (ex27.ext x)
   have ex577 := (((ex31.ext x).ext x77).ext x82)
   have ex578 := ((ex31.ext x).ext x77)
   have ex579 := (ex31.ext x)
   have ex580 := (((ex36.ext x).ext x77).ext x82)
   have ex581 := ((ex36.ext x).ext x77)
   have ex582 := (ex36.ext x)
   have ex583 := (((ex40.ext x).ext x77).ext x82)
   have ex584 := ((ex40.ext x).ext x77)
   have ex585 := (ex40.ext x)
   have ex586 := ((((ex94.ext x100).but y (Dj.of_fresh ex94 f102).symm).ext x106).ext x490)
   have ex587 := ((((ex558.ext x100).but y (Dj.of_fresh ex558 f102).symm).ext x106).ext x490)
   have ex588 := ((((ex560.ext x100).but y (Dj.of_fresh ex560 f102).symm).ext x106).ext x490)
   have ex589 := ((((ex562.ext x100).but y (Dj.of_fresh ex562 f102).symm).ext x106).ext x490)
   have ex590 := ((((ex564.ext x100).but y (Dj.of_fresh ex564 f102).symm).ext x106).ext x490)
   have ex591 := ((((ex566.ext x100).but y (Dj.of_fresh ex566 f102).symm).ext x106).ext x490)
   have ex598 := (((ex568.ext x519).ext x529).but y533 (Dj.of_fresh ex586 f495).symm)
   have ex599 := (((ex535.ext x519).ext x529).but y533 (Dj.of_fresh ex545 f509))
   have ex600 := ((ex521.ext x529).but y533 (Dj.of_fresh ex551 f522))
   have ex601 := (((ex546.ext x519).ext x529).but y533 (Dj.of_fresh ex552 f495).symm)
   have ex602 := (((ex569.ext x519).ext x529).but y533 (Dj.of_fresh ex587 f495).symm)
   have ex603 := (((ex570.ext x519).ext x529).but y533 (Dj.of_fresh ex588 f495).symm)
   have ex604 := (((ex571.ext x519).ext x529).but y533 (Dj.of_fresh ex589 f495).symm)
   have ex605 := (((ex547.ext x519).ext x529).but y533 (Dj.of_fresh ex553 f495).symm)
   have ex606 := (((ex548.ext x519).ext x529).but y533 (Dj.of_fresh ex554 f495).symm)
   have ex607 := (((ex549.ext x519).ext x529).but y533 (Dj.of_fresh ex555 f495).symm)
   have ex608 := (((ex550.ext x519).ext x529).but y533 (Dj.of_fresh ex556 f495).symm)
   have ex609 := (((ex572.ext x519).ext x529).but y533 (Dj.of_fresh ex590 f495).symm)
   have ex610 := (((ex573.ext x519).ext x529).but y533 (Dj.of_fresh ex591 f495).symm)
   refine LP_call 1 rfl rfl rfl cal_65 rfl (impl_search_from_impl_solutions_1_impl_ranges_1_impl_AnswerRange_1_w _ _ _ _ _ _ _ _ _ H wx531 o.readf ex598 o507 ex599 o520 ex600 ex601 r16 ex602 ex603 ex604 r26 ex605 cn ex606 r35 ex607 ex608 ex609 ex610 ex532 (Dj.of_fresh ex535 f522) (Dj.of_fresh ex536 f509).symm (Dj.of_fresh ex538 f509).symm (Dj.of_fresh ex540 f509).symm (Dj.of_fresh ex542 f509).symm (Dj.of_fresh ex544 f509).symm (Dj.box (Dj.of_fresh ex545 f509).symm.symm).symm (Dj.of_fresh ex546 f522).symm (Dj.of_fresh ex547 f522).symm (Dj.of_fresh ex548 f522).symm (Dj.of_fresh ex549 f522).symm (Dj.of_fresh ex550 f522).symm (Dj.box (Dj.of_fresh ex551 f522).symm.symm).symm (Dj.box (Dj.of_fresh ex537 f102).symm) (Dj.box (Dj.of_fresh ex539 f102).symm) (Dj.box (Dj.of_fresh ex541 f102).symm) (Dj.box (Dj.of_fresh ex543 f102).symm) (Dj.box (Dj.of_fresh ex552 f495).symm).symm d d41 d42 (Dj.box (Dj.of_fresh ex553 f495).symm).symm d43 d44 (Dj.box (Dj.of_fresh ex554 f495).symm).symm d45 (Dj.box (Dj.of_fresh ex555 f495).symm).symm (Dj.box (Dj.of_fresh ex556 f495).symm).symm (Dj.of_fresh ex557 f509).symm (Dj.of_fresh ex559 f509).symm (Dj.of_fresh ex561 f509).symm (Dj.of_fresh ex563 f509).symm (Dj.of_fresh ex565 f509).symm (Dj.of_fresh ex567 f509).symm (Dj.of_fresh ex568 f522).symm (Dj.of_fresh ex569 f522).symm (Dj.of_fresh ex570 f522).symm (Dj.of_fresh ex571 f522).symm (Dj.of_fresh ex572 f522).symm (Dj.of_fresh ex573 f522).symm (Dj.box (Dj.of_fresh ex94 f102).symm) (Dj.box (Dj.of_fresh ex558 f102).symm) (Dj.box (Dj.of_fresh ex560 f102).symm) (Dj.box (Dj.of_fresh ex562 f102).symm) (Dj.box (Dj.of_fresh ex564 f102).symm) (Dj.box (Dj.of_fresh ex566 f102).symm) (Dj.of_fresh ex574 f95) d49 d50 d51 (Dj.of_fresh ex575 f84) (Dj.of_fresh ex576 f79) (Dj.of_fresh ex577 f95) d55 d56 d57 (Dj.of_fresh ex578 f84) (Dj.of_fresh ex579 f79) (Dj.of_fresh ex580 f95) d61 d62 d63 (Dj.of_fresh ex581 f84) (Dj.of_fresh ex582 f79) (Dj.of_fresh ex583 f95) d67 d68 d69 (Dj.of_fresh ex584 f84) (Dj.of_fresh ex585 f79) (Dj.box (Dj.of_fresh ex586 f495).symm) (Dj.box (Dj.of_fresh ex587 f495).symm) (Dj.box (Dj.of_fresh ex588 f495).symm) (Dj.box (Dj.of_fresh ex589 f495).symm) (Dj.box (Dj.of_fresh ex590 f495).symm) (Dj.box (Dj.of_fresh ex591 f495).symm)) ?_
   rintro _ wx611 ⟨r592, r593, r594, r595, r596, r597, vx617, hx613, vx622, hx618, vx628, hx624, vx634, hx630, H, rfl, x612, HF⟩
   revert HF
   refine bb9 fun o614 ex615 dm616 o619 ex620 dm621 ex623 o625 => ?_
   refine bb9 fun ex626 dm627 ex629 o631 ex632 dm633 ex635 ex636 => ?_
   refine bb9 fun d637 d638 d639 d640 d641 d642 d643 d644 => ?_
   refine bb9 fun d645 d646 d647 d648 d649 d650 d651 d652 => ?_
   refine bb7 fun d653 d654 d655 d656 d657 d658 cn659 => ?_
   obtain ⟨a660, c661, rfl⟩ := o614.shape
   obtain ⟨a662, c663, rfl⟩ := o619.shape
   obtain ⟨a664, c665, rfl⟩ := o625.shape
   obtain ⟨a666, c667, rfl⟩ := o631.shape
   refine LP_end _ rfl ?_
   refine W_seq ?_
   refine W_region ?_
   refine LP_ldbox 0 (v := I r595) rfl rfl rfl ti_3 ag_3 (fun _ => rfl) rfl ex623 rfl rfl ?_
   refine LP_ev ok 1 [(12, I r595)] 2 rfl rfl ?_
   refine LP_end _ rfl ?_
   refine W_ret ?_
   have X670 := ((((X.stepx x).stepx x77).stepx x82).stepx x91)
   have f669 := f102.mono X670.size
   have X671 := ((((((((((X.stepx x).stepx x77).stepx x82).stepx x91).stepx x100).step y (f669.dom _)).stepx x106).stepx x490).stepx x493).stepx x500)
   have f668 := f509.mono X671.size
   have X673 := ((X671.stepx x506).stepx x513)
   have f672 := f522.mono X673.size
   have X675 := ((((X670.stepx x100).step y (f669.dom _)).stepx x106).stepx x490)
   have f674 := f495.mono X675.size
   have X676 := (((X673.stepx x519).stepx x529).step y533 (f674.dom _))
   have X677 := (X676.step x612 (DomLe.un (f668.dom _) (DomLe.un (f672.dom _) (DomLe.un ((Fresh.box f669).dom _) (DomLe.un (Dom.le D _) (DomLe.un (Dom.le D70 _) (DomLe.un (Dom.le D71 _) (DomLe.un (Dom.le D72 _) ((Fresh.box f674).dom _)))))))))
   subst hM
   exact ⟨_, Ret_of [I r595] ⟨⟨rfl, rfl⟩, trivial⟩, _, _, _, _, _, _, _, H, rfl, X677, o625, ex626, (DomLe.trans (DomLe.un (f668.dom _) (DomLe.un (f672.dom _) (DomLe.un ((Fresh.box f669).dom _) (DomLe.un (Dom.le D _) (DomLe.un (Dom.le D70 _) (DomLe.un (Dom.le D71 _) (DomLe.un (Dom.le D72 _) ((Fresh.box f674).dom _)))))))) dm627 X676.size), ex629, o631, ex632, (DomLe.trans (DomLe.un (f668.dom _) (DomLe.un (f672.dom _) (DomLe.un ((Fresh.box f669).dom _) (DomLe.un (Dom.le D _) (DomLe.un (Dom.le D70 _) (DomLe.un (Dom.le D71 _) (DomLe.un (Dom.le D72 _) ((Fresh.box f674).dom _)))))))) dm633 X676.size), ex635, d652, d653, d654, d656, d657, cn659⟩
  ·have H := H.2
   refine GT_lp [(26, I (ln r86))] rfl (by kernel_rfl) rfl (fun _ h => h) rfl fun ρ wx678 x679 => ?_
   obtain ⟨hn680, hb681, H⟩ := H
   refine LP_make (α := Int) 0 rfl rfl rfl Try.underlying22 ti_3 (x0 := (0 : Int)) rfl rfl hn680 (by first | omega | (simp only [ln] at *; omega)) (by first | omega | (simp only [ln] at *; omega)) fun hx682 vx683 wx684 x685 o686 ex687 f688 => ?_
   obtain ⟨a689, c690, rfl⟩ := o686.shape
   have ex691 := ((ex496.ext x679).ext x685)
   have ex692 := ((ex497.ext x679).ext x685)
   have ex693 := ((ex498.ext x679).ext x685)
   refine LP_gs ⟨⟨.inr ex691, .inr ex692, .inr ex693, trivial⟩, ?_⟩
   refine GT_hd [4] (by kernel_rfl) ⟨GT_lp [(23, I r109)] rfl (by kernel_rfl) rfl (fun _ h => h) rfl fun ρ wx694 x695 => ?_, trivial⟩
   obtain ⟨hn696, hb697, H⟩ := H
   refine LP_make (α := Int) 0 rfl rfl rfl Try.underlying22 ti_3 (x0 := (0 : Int)) rfl rfl hn696 (by first | omega | (simp only [ln] at *; omega)) (by first | omega | (simp only [ln] at *; omega)) fun hx698 vx699 wx700 x701 o702 ex703 f704 => ?_
   obtain ⟨a705, c706, rfl⟩ := o702.shape
   refine LP_gs ⟨⟨.inl rfl, .inl rfl, .inl rfl, trivial⟩, ?_⟩
   refine GT_ev 9 ok [(20, sl a96 r86 c97), (24, .slice a705 (List.length (List.replicate (Int.toNat r109) ((0 : Int)))) c706), (27, .slice a689 (List.length (List.replicate (Int.toNat (ln r86)) ((0 : Int)))) c690), (28, .func (.func 64) #[] #[pb b98, pb b80, pb b75])] (.agg #[sl a96 r86 c97, .slice a705 (List.length (List.replicate (Int.toNat r109) ((0 : Int)))) c706, .slice a689 (List.length (List.replicate (Int.toNat (ln r86)) ((0 : Int)))) c690, .func (.func 64) #[] #[pb b98, pb b80, pb b75]]) rfl (by kernel_rfl) rfl (fun _ h => h) (fun _ => rfl) ?_
   refine GT_end (by kernel_rfl) ?_
   intro wx707 x708 ρ hn709
   refine AP_forget [(3, I n), (14, pb b98), (15, pb b491), (29, .agg #[sl a96 r86 c97, .slice a705 (List.length (List.replicate (Int.toNat r109) ((0 : Int)))) c706, .slice a689 (List.length (List.replicate (Int.toNat (ln r86)) ((0 : Int)))) c690, .func (.func 64) #[] #[pb b98, pb b80, pb b75]])] (by exact hn709) fun ρ => ?_
   refine AP_tail 11 [[], [], [], [1, 2], [1, 2, 3], [], [5], [5, 6], [], [0, 1, 2, 3, 4, 5, 6, 7, 8], [], [0, 1, 2, 3, 4, 5, 6, 7, 8, 9, 10]] (by kernel_rfl) ?_
   have ex713 := (((((ex494.ext x679).ext x685).ext x695).ext x701).ext x708)
   refine LP_stbox 11 (vs := [sl a96 r86 c97, .slice a705 (List.length (List.replicate (Int.toNat r109) ((0 : Int)))) c706, .slice a689 (List.length (List.replicate (Int.toNat (ln r86)) ((0 : Int)))) c690, .func (.func 64) #[] #[pb b98, pb b80, pb b75]]) (cs' := [sl a96 r86 c97, .slice a705 (List.length (List.replicate (Int.toNat r109) ((0 : Int)))) c706, .slice a689 (List.length (List.replicate (Int.toNat (ln r86)) ((0 : Int)))) c690, .func (.func 64) #[] #[pb b98, pb b80, pb b75]]) rfl rfl rfl ti_103 rfl rfl rfl rfl rfl ex713 rfl rfl fun wx710 ex711 y712 => ?_
   refine LP_end _ rfl ?_
   refine W_seq ?_
   refine W_region ?_
   refine LP_ev ok 0 [(30, I n)] 1 rfl rfl ?_
   have ex714 := (ex687.ext x695)
   have ex715 := ((((((ex104.ext x106).ext x490).ext x493).ext x679).ext x685).ext x695)
   have ex716 := ((((ex27.ext x).ext x77).ext x82).ext x91)
   have ex717 := ((((((((((((ex27.ext x).ext x77).ext x82).ext x91).ext x100).but y (Dj.of_fresh ex716 f102).symm).ext x106).ext x490).ext x493).ext x679).ext x685).ext x695)
   have ex718 := ((((ex31.ext x).ext x77).ext x82).ext x91)
   have ex719 := ((((((((((((ex31.ext x).ext x77).ext x82).ext x91).ext x100).but y (Dj.of_fresh ex718 f102).symm).ext x106).ext x490).ext x493).ext x679).ext x685).ext x695)
   have ex720 := ((((ex36.ext x).ext x77).ext x82).ext x91)
   have ex721 := ((((((((((((ex36.ext x).ext x77).ext x82).ext x91).ext x100).but y (Dj.of_fresh ex720 f102).symm).ext x106).ext x490).ext x493).ext x679).ext x685).ext x695)
   have ex722 := ((((ex40.ext x).ext x77).ext x82).ext x91)
   have ex723 := ((((((((((((ex40.ext x).ext x77).ext x82).ext x91).ext x100).but y (Dj.of_fresh ex722 f102).symm).ext x106).ext x490).ext x493).ext x679).ext x685).ext x695)
   have ex724 := (((ex494.ext x679).ext x685).ext x695)
   have ex725 := ((((ex104.ext x106).ext x490).ext x493).ext x679)
   have ex726 := ((((((ex716.ext x100).but y (Dj.of_fresh ex716 f102).symm).ext x106).ext x490).ext x493).ext x679)
   have ex727 := ((((((ex718.ext x100).but y (Dj.of_fresh ex718 f102).symm).ext x106).ext x490).ext x493).ext x679)
   have ex728 := ((((((ex720.ext x100).but y (Dj.of_fresh ex720 f102).symm).ext x106).ext x490).ext x493).ext x679)
   have ex729 := ((((((ex722.ext x100).but y (Dj.of_fresh ex722 f102).symm).ext x106).ext x490).ext x493).ext x679)
   have ex730 := (ex494.ext x679)
   have ex731 := ((ex104.ext x106).ext x490)
   have ex732 := ((((ex716.ext x100).but y (Dj.of_fresh ex716 f102).symm).ext x106).ext x490)
   have ex733 := ((((ex718.ext x100).but y (Dj.of_fresh ex718 f102).symm).ext x106).ext x490)
   have ex734 := ((((ex720.ext x100).but y (Dj.of_fresh ex720 f102).symm).ext x106).ext x490)
   have ex735 := ((((ex722.ext x100).but y (Dj.of_fresh ex722 f102).symm).ext x106).ext x490)
   have ex736 := ((((((((ex94.ext x100).but y (Dj.of_fresh ex94 f102).symm).ext x106).ext x490).ext x493).ext x679).ext x685).ext x695)
   have ex737 := ((((ex17.ext x).ext x77).ext x82).ext x91)
   have ex738 := ((((((((((((ex17.ext x).ext x77).ext x82).ext x91).ext x100).but y (Dj.of_fresh ex737 f102).symm).ext x106).ext x490).ext x493).ext x679).ext x685).ext x695)
   have ex739 := ((((ex20.ext x).ext x77).ext x82).ext x91)
   have ex740 := ((((((((((((ex20.ext x).ext x77).ext x82).ext x91).ext x100).but y (Dj.of_fresh ex739 f102).symm).ext x106).ext x490).ext x493).ext x679).ext x685).ext x695)
   have ex741 := ((((ex22.ext x).ext x77).ext x82).ext x91)
   have ex742 := ((((((((((((ex22.ext x).ext x77).ext x82).ext x91).ext x100).but y (Dj.of_fresh ex741 f102).symm).ext x106).ext x490).ext x493).ext x679).ext x685).ext x695)
   have ex743 := (ex83.ext x91)
   have ex744 := (((((((((ex83.ext x91).ext x100).but y (Dj.of_fresh ex743 f102).symm).ext x106).ext x490).ext x493).ext x679).ext x685).ext x695)
   have ex745 := ((ex78.ext x82).ext x91)
   have ex746 := ((((((((((ex78.ext x82).ext x91).ext x100).but y (Dj.of_fresh ex745 f102).symm).ext x106).ext x490).ext x493).ext x679).ext x685).ext x695)
   have ex747 := ((((((ex94.ext x100).but y (Dj.of_fresh ex94 f102).symm).ext x106).ext x490).ext x493).ext x679)
   have ex748 := ((((((ex737.ext x100).but y (Dj.of_fresh ex737 f102).symm).ext x106).ext x490).ext x493).ext x679)
   have ex749 := ((((((ex739.ext x100).but y (Dj.of_fresh ex739 f102).symm).ext x106).ext x490).ext x493).ext x679)
   have ex750 := ((((((ex741.ext x100).but y (Dj.of_fresh ex741 f102).symm).ext x106).ext x490).ext x493).ext x679)
   have ex751 := ((((((ex743.ext x100).but y (Dj.of_fresh ex743 f102).symm).ext x106).ext x490).ext x493).ext x679)
   have ex752 := ((((((ex745.ext x100).but y (Dj.of_fresh ex745 f102).symm).ext x106).ext x490).ext x493).ext x679)
   have ex753 := (((ex27.ext x).ext x77).ext x82)
   have ex754 := ((ex27.ext x).ext x77)
   have ex755 := (ex27.ext x)
   have ex756 := (((ex31.ext x).ext x77).ext x82)
   have ex757 := ((ex31.ext x).ext x77)
   have ex758 := (ex31.ext x)
   have ex759 := (((ex36.ext x).ext x77).ext x82)
   have ex760 := ((ex36.ext x).ext x77)
   have ex761 := (ex36.ext x)
   have ex762 := (((ex40.ext x).ext x77).ext x82)
   have ex763 := ((ex40.ext x).ext x77)
   have ex764 := (ex40.ext x)
   have ex765 := ((((ex94.ext x100).but y (Dj.of_fresh ex94 f102).symm).ext x106).ext x490)
   have ex766 := ((((ex737.ext x100).but y (Dj.of_fresh ex737 f102).symm).ext x106).ext x490)
   have ex767 := ((((ex739.ext x100).but y (Dj.of_fresh ex739 f102).symm).ext x106).ext x490)
   have ex768 := ((((ex741.ext x100).but y (Dj.of_fresh ex741 f102).symm).ext x106).ext x490)
   have ex769 := ((((ex743.ext x100).but y (Dj.of_fresh ex743 f102).symm).ext x106).ext x490)
   have ex770 := ((((ex745.ext x100).but y (Dj.of_fresh ex745 f102).symm).ext x106).ext x490)
   have ex777 := (((ex736.ext x701).ext x708).but y712 (Dj.of_fresh ex765 f495).symm)
   have ex778 := ((ex703.ext x708).but y712 (Dj.of_fresh ex724 f704))
   have ex779 := (((ex714.ext x701).ext x708).but y712 (Dj.of_fresh ex730 f688))
   have ex780 := (((ex715.ext x701).ext x708).but y712 (Dj.of_fresh ex731 f495).symm)
   have ex781 := (((ex738.ext x701).ext x708).but y712 (Dj.of_fresh ex766 f495).symm)
   have ex782 := (((ex740.ext x701).ext x708).but y712 (Dj.of_fresh ex767 f495).symm)
   have ex783 := (((ex742.ext x701).ext x708).but y712 (Dj.of_fresh ex768 f495).symm)
   have ex784 := (((ex717.ext x701).ext x708).but y712 (Dj.of_fresh ex732 f495).symm)
   have ex785 := (((ex719.ext x701).ext x708).but y712 (Dj.of_fresh ex733 f495).symm)
   have ex786 := (((ex721.ext x701).ext x708).but y712 (Dj.of_fresh ex734 f495).symm)
   have ex787 := (((ex723.ext x701).ext x708).but y712 (Dj.of_fresh ex735 f495).symm)
   have ex788 := (((ex744.ext x701).ext x708).but y712 (Dj.of_fresh ex769 f495).symm)
   have ex789 := (((ex746.ext x701).ext x708).but y712 (Dj.of_fresh ex770 f495).symm)
   refine LP_call 1 rfl rfl rfl cal_65 rfl (impl_search_from_impl_solutions_1_impl_ranges_1_impl_AnswerRange_1_w _ _ _ _ _ _ _ _ _ H wx710 o.readf ex777 o702 ex778 o686 ex779 ex780 r16 ex781 ex782 ex783 r26 ex784 cn ex785 r35 ex786 ex787 ex788 ex789 ex711 (Dj.of_fresh ex714 f704).symm (Dj.of_fresh ex715 f704).symm (Dj.of_fresh ex717 f704).symm (Dj.of_fresh ex719 f704).symm (Dj.of_fresh ex721 f704).symm (Dj.of_fresh ex723 f704).symm (Dj.box (Dj.of_fresh ex724 f704).symm.symm).symm (Dj.of_fresh ex725 f688).symm (Dj.of_fresh ex726 f688).symm (Dj.of_fresh ex727 f688).symm (Dj.of_fresh ex728 f688).symm (Dj.of_fresh ex729 f688).symm (Dj.box (Dj.of_fresh ex730 f688).symm.symm).symm (Dj.box (Dj.of_fresh ex716 f102).symm) (Dj.box (Dj.of_fresh ex718 f102).symm) (Dj.box (Dj.of_fresh ex720 f102).symm) (Dj.box (Dj.of_fresh ex722 f102).symm) (Dj.box (Dj.of_fresh ex731 f495).symm).symm d d41 d42 (Dj.box (Dj.of_fresh ex732 f495).symm).symm d43 d44 (Dj.box (Dj.of_fresh ex733 f495).symm).symm d45 (Dj.box (Dj.of_fresh ex734 f495).symm).symm (Dj.box (Dj.of_fresh ex735 f495).symm).symm (Dj.of_fresh ex736 f704).symm (Dj.of_fresh ex738 f704).symm (Dj.of_fresh ex740 f704).symm (Dj.of_fresh ex742 f704).symm (Dj.of_fresh ex744 f704).symm (Dj.of_fresh ex746 f704).symm (Dj.of_fresh ex747 f688).symm (Dj.of_fresh ex748 f688).symm (Dj.of_fresh ex749 f688).symm (Dj.of_fresh ex750 f688).symm (Dj.of_fresh ex751 f688).symm (Dj.of_fresh ex752 f688).symm (Dj.box (Dj.of_fresh ex94 f102).symm) (Dj.box (Dj.of_fresh ex737 f102).symm) (Dj.box (Dj.of_fresh ex739 f102).symm) (Dj.box (Dj.of_fresh ex741 f102).symm) (Dj.box (Dj.of_fresh ex743 f102).symm) (Dj.box (Dj.of_fresh ex745 f102).symm) (Dj.of_fresh ex753 f95) d49 d50 d51 (Dj.of_fresh ex754 f84) (Dj.of_fresh ex755 f79) (Dj.of_fresh ex756 f95) d55 d56 d57 (Dj.of_fresh ex757 f84) (Dj.of_fresh ex758 f79) (Dj.of_fresh ex759 f95) d61 d62 d63 (Dj.of_fresh ex760 f84) (Dj.of_fresh ex761 f79) (Dj.of_fresh ex762 f95) d67 d68 d69 (Dj.of_fresh ex763 f84) (Dj.of_fresh ex764 f79) (Dj.box (Dj.of_fresh ex765 f495).symm) (Dj.box (Dj.of_fresh ex766 f495).symm) (Dj.box (Dj.of_fresh ex767 f495).symm) (Dj.box (Dj.of_fresh ex768 f495).symm) (Dj.box (Dj.of_fresh ex769 f495).symm) (Dj.box (Dj.of_fresh ex770 f495).symm)) ?_
   rintro _ wx790 ⟨r771, r772, r773, r774, r775, r776, vx796, hx792, vx801, hx797, vx807, hx803, vx813, hx809, H, rfl, x791, HF⟩
   revert HF
   refine bb9 fun o793 ex794 dm795 o798 ex799 dm800 ex802 o804 => ?_
   refine bb9 fun ex805 dm806 ex808 o810 ex811 dm812 ex814 ex815 => ?_
   refine bb9 fun d816 d817 d818 d819 d820 d821 d822 d823 => ?_
   refine bb9 fun d824 d825 d826 d827 d828 d829 d830 d831 => ?_
   refine bb7 fun d832 d833 d834 d835 d836 d837 cn838 => ?_
   obtain ⟨a839, c840, rfl⟩ := o793.shape
   obtain ⟨a841, c842, rfl⟩ := o798.shape
   obtain ⟨a843, c844, rfl⟩ := o804.shape
   obtain ⟨a845, c846, rfl⟩ := o810.shape
   refine LP_end _ rfl ?_
   refine W_seq ?_
   refine W_region ?_
   refine LP_ldbox 0 (v := I r774) rfl rfl rfl ti_3 ag_3 (fun _ => rfl) rfl ex802 rfl rfl ?_
   refine LP_ev ok 1 [(12, I r774)] 2 rfl rfl ?_
   refine LP_end _ rfl ?_
   refine W_ret ?_
   have X849 := ((((X.stepx x).stepx x77).stepx x82).stepx x91)
   have f848 := f102.mono X849.size
   have X850 := ((((((((((((X.stepx x).stepx x77).stepx x82).stepx x91).stepx x100).step y (f848.dom _)).stepx x106).stepx x490).stepx x493).stepx x679).stepx x685).stepx x695)
   have f847 := f704.mono X850.size
   have X852 := ((((((X849.stepx x100).step y (f848.dom _)).stepx x106).stepx x490).stepx x493).stepx x679)
   have f851 := f688.mono X852.size
   have X854 := ((((X849.stepx x100).step y (f848.dom _)).stepx x106).stepx x490)
   have f853 := f495.mono X854.size
   have X855 := (((X850.stepx x701).stepx x708).step y712 (f853.dom _))
   have X856 := (X855.step x791 (DomLe.un (f847.dom _) (DomLe.un (f851.dom _) (DomLe.un ((Fresh.box f848).dom _) (DomLe.un (Dom.le D _) (DomLe.un (Dom.le D70 _) (DomLe.un (Dom.le D71 _) (DomLe.un (Dom.le D72 _) ((Fresh.box f853).dom _)))))))))
   subst hM
   exact ⟨_, Ret_of [I r774] ⟨⟨rfl, rfl⟩, trivial⟩, _, _, _, _, _, _, _, H, rfl, X856, o804, ex805, (DomLe.trans (DomLe.un (f847.dom _) (DomLe.un (f851.dom _) (DomLe.un ((Fresh.box f848).dom _) (DomLe.un (Dom.le D _) (DomLe.un (Dom.le D70 _) (DomLe.un (Dom.le D71 _) (DomLe.un (Dom.le D72 _) ((Fresh.box f853).dom _)))))))) dm806 X855.size), ex808, o810, ex811, (DomLe.trans (DomLe.un (f847.dom _) (DomLe.un (f851.dom _) (DomLe.un ((Fresh.box f848).dom _) (DomLe.un (Dom.le D _) (DomLe.un (Dom.le D70 _) (DomLe.un (Dom.le D71 _) (DomLe.un (Dom.le D72 _) ((Fresh.box f853).dom _)))))))) dm812 X855.size), ex814, d831, d832, d833, d835, d836, cn838⟩

theorem impl_ranges_impl_AnswerRange_1_w (g : Geo) (sx : List Variable) (pubs : List Published) (n : Int) (c13 : List Int) (Q : (List Int) → (List Int) → Bool → Prop) (H : impl_ranges_impl_AnswerRange_1 g sx pubs n c13 Q) (w : World) {vx : Value} {hx : PH} (r : RS hx vx g.Parents) (ex : Sub hx w) {vx1 : Value} {hx2 : PH} (r3 : RS hx2 vx1 sx) (ex4 : Sub hx2 w) {vx7 : Value} {hx8 : PH} (r9 : RS hx8 vx7 pubs) (ex10 : Sub hx8 w) {vx14 : Value} {hx15 : PH} (r16 : RS hx15 vx14 c13) (ex17 : Sub hx15 w) {b : Nat} (ex20 : Sub (bx b 22 [vx14]) w) :
  CallsTo Try.prog 55 #[.agg #[vx], vx1, vx7, I n, .func (.func 56) #[] #[pb b]] w fun v w' => ∃ r0 r1 r2 u0 g0 u1 g1, Q r0 r1 r2 ∧ v = .tuple #[u0, u1, .bool r2] ∧ Ext w w' ∧ OS 3 g0 emp u0 r0 ∧ Sub g0 w' ∧ Fresh w.heap.size g0 ∧ OS 3 g1 emp u1 r1 ∧ Sub g1 w' ∧ Fresh w.heap.size g1 ∧ Dj g0 g1 := by
 obtain ⟨a, c, rfl⟩ := r.shape
 obtain ⟨a5, c6, rfl⟩ := r3.shape
 obtain ⟨a11, c12, rfl⟩ := r9.shape
 obtain ⟨a18, c19, rfl⟩ := r16.shape
 refine enter (args := [.agg #[sl a g.Parents c], sl a5 sx c6, sl a11 pubs c12, I n, .func (.func 56) #[] #[pb b]]) 30 Try.func55 rfl rfl rfl ?_
 refine W_forget [(0, .agg #[sl a g.Parents c]), (1, sl a5 sx c6), (2, sl a11 pubs c12), (3, I n), (4, .func (.func 56) #[] #[pb b])] ⟨rfl, rfl, rfl, rfl, rfl, trivial⟩ fun ρ => ?_
 have X := But.refl emp w
 refine W_seq ?_
 refine W_region ?_
 refine LP_box 0 (cs := [sl a g.Parents c]) rfl rfl rfl rfl rfl fun b21 wx x ex22 f => ?_
 refine LP_box 1 (cs := [.func (.func 56) #[] #[pb b]]) rfl rfl rfl rfl rfl fun b23 wx24 x25 ex26 f27 => ?_
 refine LP_ev ok 2 [(10, .slice none 0 0), (11, .slice none 0 0), (12, .bool false)] 5 rfl rfl ?_
 refine LP_end _ rfl ?_
 refine W_seq ?_
 refine W_region ?_
 refine LP_alloc 0 rfl rfl rfl ti_22 rfl fun b28 wx29 x30 ex31 f32 => ?_
 refine LP_alloc 1 rfl rfl rfl ti_22 rfl fun b33 wx34 x35 ex36 f37 => ?_
 refine LP_end _ rfl ?_
 refine W_seq ?_
 refine W_region ?_
 have ex38 := (((ex22.ext x25).ext x30).ext x35)
 refine LP_ldbox 0 (v := .agg #[sl a g.Parents c]) rfl rfl rfl ti_32 ag_32 (fun h => by cases h) rfl ex38 rfl rfl ?_
 refine LP_ev ok 1 [(17, sl a5 sx c6), (18, sl a11 pubs c12), (19, I n), (20, .func (.func 90) #[] #[pb b23, pb b28, pb b33])] 5 rfl rfl ?_
 have ex39 := ((ex.ext x).ext x25)
 have ex40 := ((ex4.ext x).ext x25)
 have ex41 := ((ex10.ext x).ext x25)
 have ex42 := ((ex17.ext x).ext x25)
 have ex43 := ((ex20.ext x).ext x25)
 have ex44 := (ex39.ext x30)
 have ex45 := (ex40.ext x30)
 have ex46 := (ex41.ext x30)
 have ex47 := (ex42.ext x30)
 have ex48 := (ex43.ext x30)
 have ex49 := (ex26.ext x30)
 have ex53 := (ex44.ext x35)
 have ex54 := (ex45.ext x35)
 have ex55 := (ex46.ext x35)
 have ex56 := (ex47.ext x35)
 have ex57 := (ex48.ext x35)
 have ex58 := (ex49.ext x35)
 have ex59 := (ex31.ext x35)
 refine LP_call 5 rfl rfl rfl cal_35 rfl (impl_solutions_impl_ranges_1_impl_AnswerRange_1_w _ _ _ _ _ _ _ _ _ H wx34 r ex53 r3 ex54 r9 ex55 r16 ex56 ex57 ex58 (OS.nil (E := 3) (g := emp)) (emp_sub _) CanV.nil ex59 (OS.nil (E := 3) (g := emp)) (emp_sub _) ex36 (Dj.emp_l _) (Dj.emp_l _) (Dj.emp_l _) (Dj.emp_r _) (Dj.of_fresh ex31 f37) (Dj.emp_l _) (Dj.emp_l _) (Dj.emp_l _) (Dj.emp_l _) (Dj.emp_l _) (Dj.emp_l _) (Dj.emp_l _) (Dj.of_fresh ex39 f32).symm (Dj.of_fresh ex40 f32).symm (Dj.of_fresh ex41 f32).symm (Dj.of_fresh ex42 f32).symm (Dj.of_fresh ex43 f32).symm (Dj.of_fresh ex26 f32).symm (Dj.emp_l _) (Dj.emp_l _) (Dj.emp_l _) (Dj.emp_l _) (Dj.emp_l _) (Dj.emp_l _) (Dj.of_fresh ex44 f37).symm (Dj.of_fresh ex45 f37).symm (Dj.of_fresh ex46 f37).symm (Dj.of_fresh ex47 f37).symm (Dj.of_fresh ex48 f37).symm (Dj.of_fresh ex49 f37).symm) ?_
 rintro _ wx60 ⟨r50, r51, r52, vx64, hx62, vx70, hx66, H, rfl, x61, HF⟩
 revert HF
 refine bb9 fun o ex63 dm ex65 o67 ex68 dm69 ex71 => ?_
 refine bb6 fun d d72 d73 d74 d75 cn => ?_
 obtain ⟨a76, c77, rfl⟩ := o.shape
 obtain ⟨a78, c79, rfl⟩ := o67.shape
 refine LP_ev ok 6 [(15, I r50)] 7 rfl rfl ?_
 refine LP_end _ rfl ?_
 refine W_seq ?_
 obtain ⟨k, hk, H⟩ := jn_elim H
 refine W_join2 (S := Bool) (fun s ρ' w' => k s ∧ ∃ (ρ : Env), ρ' = setAll [(13, pb b28), (14, pb b33), (27, .bool s)] ρ ∧ wx60 = w') ?_ ?_
 ·refine W_region ?_
  refine LP_ev ok 0 [(22, I r50), (23, .bool (r50 == 0)), (24, .bool (r50 == 0))] 3 rfl rfl ?_
  refine LP_split 24 (r50 == 0) rfl (fun hc => ?_) (fun hc => ?_)
  ·have H := H.1 hc
   refine LP_ev ok 3 [(25, undef), (26, undef), (27, .bool true)] 6 rfl rfl ?_
   refine LP_end _ rfl ?_
   exact ⟨true, H, _, env_eq ⟨rfl, rfl, rfl, trivial⟩, rfl⟩
  have H := H.2 hc
  refine LP_ev ok 3 [(25, I r50), (26, .bool (decide (r50 > 20000))), (27, .bool (decide (r50 > 20000)))] 6 rfl rfl ?_
  refine LP_end _ rfl ?_
  exact ⟨decide (r50 > 20000), H, _, env_eq ⟨rfl, rfl, rfl, trivial⟩, rfl⟩
 rintro x80 _ _ ⟨H, ρ, rfl, rfl⟩
 subst hk
 refine W_cond (x80) rfl (fun hc82 => ?_) (fun hc82 => ?_)
 ·have H := H.1 hc82
  refine W_seq ?_
  refine W_region ?_
  refine LP_ev ok 0 [(10, .slice none 0 0), (11, .slice none 0 0), (12, .bool false)] 3 rfl rfl ?_
  refine LP_end _ rfl ?_
  refine W_ret ?_
  have X84 := ((X.stepx x).stepx x25)
  have f83 := f32.mono X84.size
  have X86 := (X84.stepx x30)
  have f85 := f37.mono X86.size
  have X87 := (((((X.stepx x).stepx x25).stepx x30).stepx x35).step x61 (DomLe.un (fun _ _ _ => rfl) (DomLe.un (f83.dom _) (DomLe.un (fun _ _ _ => rfl) (f85.dom _)))))
  exact ⟨_, Ret_of [.slice none 0 0, .slice none 0 0, .bool false] ⟨⟨rfl, rfl⟩, ⟨rfl, rfl⟩, ⟨rfl, rfl⟩, trivial⟩, _, _, _, _, emp, _, emp, H, rfl, X87.ext, OS.nil, (emp_sub _), (emp_fresh _), OS.nil, (emp_sub _), (emp_fresh _), (Dj.emp_l _)⟩
 have H := H.2 hc82
 refine W_skip ?_
 refine W_seq ?_
 refine W_quiet mix (by kernel_rfl) ?_
 refine QP_ldbox 0 (v := sl a76 r51 c77) rfl rfl rfl ti_22 ag_22 (fun _ => rfl) rfl ex65 rfl rfl ?_
 refine QP_ldbox 1 (v := sl a78 r52 c79) rfl rfl rfl ti_22 ag_22 (fun _ => rfl) rfl ex71 rfl rfl ?_
 refine QP_ev ok 2 [(10, sl a76 r51 c77), (11, sl a78 r52 c79), (12, .bool true)] 5 rfl rfl ?_
 refine QP_end _ rfl fun wx88 x89 => ?_
 refine W_ret ?_
 have ex90 := (ex63.ext x89)
 have X92 := ((X.stepx x).stepx x25)
 have f91 := f32.mono X92.size
 have X94 := (X92.stepx x30)
 have f93 := f37.mono X94.size
 have X96 := (X94.stepx x35)
 have f95 := DomLe.fresh dm (Fresh.un (emp_fresh _) (Fresh.un f91 (Fresh.un (emp_fresh _) f93))) X96.size
 have ex97 := (ex68.ext x89)
 have f98 := DomLe.fresh dm69 (Fresh.un (emp_fresh _) (Fresh.un f91 (Fresh.un (emp_fresh _) f93))) X96.size
 have X99 := ((X96.step x61 (DomLe.un (fun _ _ _ => rfl) (DomLe.un (f91.dom _) (DomLe.un (fun _ _ _ => rfl) (f93.dom _))))).stepx x89)
 exact ⟨_, Ret_of [sl a76 r51 c77, sl a78 r52 c79, .bool true] ⟨⟨rfl, rfl⟩, ⟨rfl, rfl⟩, ⟨rfl, rfl⟩, trivial⟩, _, _, _, _, _, _, _, H, rfl, X99.ext, o, ex90, f95, o67, ex97, f98, d72⟩

theorem impl_AnswerRange_w (g : Geo) (sx : List Variable) (pubs : List Published) (n : Int) (t : Table) (i : Int) (Q : Int → Int → Bool → Prop) (H : impl_AnswerRange g sx pubs n t i Q) (w : World) {vx : Value} {hx : PH} (r : RS hx vx g.Parents) (ex : Sub hx w) {vx1 : Value} {hx2 : PH} (r3 : RS hx2 vx1 sx) (ex4 : Sub hx2 w) {vx7 : Value} {hx8 : PH} (r9 : RS hx8 vx7 pubs) (ex10 : Sub hx8 w) {vx13 : Value} {hx14 : PH} (r15 : RS hx14 vx13 t.Vars) (ex16 : Sub hx14 w) {vx19 : Value} {hx20 : PH} (r21 : RS hx20 vx19 t.Where) (ex22 : Sub hx20 w) :
  CallsTo Try.prog 22 #[.agg #[vx], vx1, vx7, I n, .agg #[I t.Level, vx13, vx19, I t.Sum], I i] w fun v w' => ∃ r0 r1 r2, Q r0 r1 r2 ∧ v = .tuple #[I r0, I r1, .bool r2] ∧ Ext w w' := by
 obtain ⟨a, c, rfl⟩ := r.shape
 obtain ⟨a5, c6, rfl⟩ := r3.shape
 obtain ⟨a11, c12, rfl⟩ := r9.shape
 obtain ⟨a17, c18, rfl⟩ := r15.shape
 obtain ⟨a23, c24, rfl⟩ := r21.shape
 refine enter (args := [.agg #[sl a g.Parents c], sl a5 sx c6, sl a11 pubs c12, I n, .agg #[I t.Level, sl a17 t.Vars c18, sl a23 t.Where c24, I t.Sum], I i]) 97 Try.func22 rfl rfl rfl ?_
 refine W_forget [(0, .agg #[sl a g.Parents c]), (1, sl a5 sx c6), (2, sl a11 pubs c12), (3, I n), (4, .agg #[I t.Level, sl a17 t.Vars c18, sl a23 t.Where c24, I t.Sum]), (5, I i)] ⟨rfl, rfl, rfl, rfl, rfl, rfl, trivial⟩ fun ρ => ?_
 have X := But.refl emp w
 refine W_seq ?_
 refine W_region ?_
 refine LP_box 0 (cs := [sl a g.Parents c]) rfl rfl rfl rfl rfl fun b wx x ex25 f => ?_
 refine LP_box 1 (cs := [I t.Level, sl a17 t.Vars c18, sl a23 t.Where c24, I t.Sum]) rfl rfl rfl rfl rfl fun b26 wx27 x28 ex29 f30 => ?_
 refine LP_ev ok 2 [(12, I 0), (13, I 0), (14, .bool false)] 5 rfl rfl ?_
 refine LP_end _ rfl ?_
 refine W_seq ?_
 obtain ⟨k, hk, H⟩ := jn_elim H
 refine W_join2 (S := Bool) (fun s ρ' w' => k s ∧ ∃ (ρ : Env), ρ' = setAll [(1, sl a5 sx c6), (2, sl a11 pubs c12), (3, I n), (5, I i), (6, pb b), (10, pb b26), (50, .bool s)] ρ ∧ But emp w w' ∧ Sub hx w' ∧ Sub hx2 w' ∧ Sub hx8 w' ∧ Sub hx14 w' ∧ Sub hx20 w' ∧ Sub (bx b 32 [sl a g.Parents c]) w' ∧ Sub (bx b26 50 [I t.Level, sl a17 t.Vars c18, sl a23 t.Where c24, I t.Sum]) w') ?_ ?_
 ·refine W_region ?_
  have ex41 := (ex25.ext x28)
  refine LP_ldbox 0 (v := .agg #[sl a g.Parents c]) rfl rfl rfl ti_32 ag_32 (fun h => by cases h) rfl ex41 rfl rfl ?_
  refine LP_ev ok 1 [(23, sl a5 sx c6), (24, sl a11 pubs c12)] 3 rfl rfl ?_
  have ex43 := ((ex.ext x).ext x28)
  have ex44 := ((ex4.ext x).ext x28)
  have ex45 := ((ex10.ext x).ext x28)
  refine LP_call 3 rfl rfl rfl cal_33 rfl (impl_areAttacked_w _ _ _ _ H wx27 r ex43 r3 ex44 r9 ex45) ?_
  rintro _ wx46 ⟨r42, H, rfl, x47⟩
  refine LP_ev ok 4 [(26, .bool (!r42)), (27, .bool (!r42))] 6 rfl rfl ?_
  refine LP_split 27 (!r42) rfl (fun hc => ?_) (fun hc => ?_)
  ·have H := H.1 hc
   refine LP_ev ok 6 [(28, undef), (29, undef), (30, undef), (31, .bool true), (32, .bool true), (33, undef), (34, undef), (35, undef), (36, undef), (37, undef), (38, .bool true), (39, .bool true), (40, undef), (41, undef), (42, .bool true), (43, .bool true), (44, undef), (45, undef), (46, undef), (47, undef), (48, undef), (49, undef), (50, .bool true)] 29 rfl rfl ?_
   refine LP_end _ rfl ?_
   try refine W_forget [(1, sl a5 sx c6), (2, sl a11 pubs c12), (3, I n), (5, I i), (6, pb b), (10, pb b26), (50, .bool true)] ⟨rfl, rfl, rfl, rfl, rfl, rfl, rfl, trivial⟩ fun ρ => ?_
   have X48 := (((X.stepx x).stepx x28).stepx x47)
   have ex49 := (ex43.ext x47)
   have ex50 := (ex44.ext x47)
   have ex51 := (ex45.ext x47)
   have ex52 := (((ex16.ext x).ext x28).ext x47)
   have ex53 := (((ex22.ext x).ext x28).ext x47)
   have ex54 := (ex41.ext x47)
   have ex55 := (ex29.ext x47)
   exact ⟨true, H, _, env_eq ⟨rfl, rfl, rfl, rfl, rfl, rfl, rfl, trivial⟩, X48, ex49, ex50, ex51, ex52, ex53, ex54, ex55⟩
  have H := H.2 hc
  refine LP_ev ok 6 [(28, I n)] 7 rfl rfl ?_
  refine LP_call 7 rfl rfl rfl cal_34 rfl (impl_isPersons_w _ _ H wx46 ) ?_
  rintro _ wx57 ⟨r56, H, rfl, x58⟩
  refine LP_ev ok 8 [(30, .bool (!r56)), (31, .bool (!r56)), (32, .bool (!r56))] 11 rfl rfl ?_
  refine LP_split 32 (!r56) rfl (fun hc59 => ?_) (fun hc59 => ?_)
  ·have H := H.1 hc59
   refine LP_ev ok 11 [(33, undef), (34, undef), (35, undef), (36, undef), (37, undef), (38, .bool true), (39, .bool true), (40, undef), (41, undef), (42, .bool true), (43, .bool true), (44, undef), (45, undef), (46, undef), (47, undef), (48, undef), (49, undef), (50, .bool true)] 29 rfl rfl ?_
   refine LP_end _ rfl ?_
   try refine W_forget [(1, sl a5 sx c6), (2, sl a11 pubs c12), (3, I n), (5, I i), (6, pb b), (10, pb b26), (50, .bool true)] ⟨rfl, rfl, rfl, rfl, rfl, rfl, rfl, trivial⟩ fun ρ => ?_
   have X60 := ((((X.stepx x).stepx x28).stepx x47).stepx x58)
   have ex61 := ((ex43.ext x47).ext x58)
   have ex62 := ((ex44.ext x47).ext x58)
   have ex63 := ((ex45.ext x47).ext x58)
   have ex64 := ((((ex16.ext x).ext x28).ext x47).ext x58)
   have ex65 := ((((ex22.ext x).ext x28).ext x47).ext x58)
   have ex66 := ((ex41.ext x47).ext x58)
   have ex67 := ((ex29.ext x47).ext x58)
   exact ⟨true, H, _, env_eq ⟨rfl, rfl, rfl, rfl, rfl, rfl, rfl, trivial⟩, X60, ex61, ex62, ex63, ex64, ex65, ex66, ex67⟩
  have H := H.2 hc59
  have ex68 := ((ex41.ext x47).ext x58)
  refine LP_ldbox 11 (v := .agg #[sl a g.Parents c]) rfl rfl rfl ti_32 ag_32 (fun h => by cases h) rfl ex68 rfl rfl ?_
  refine LP_ev ok 12 [(34, sl a5 sx c6)] 13 rfl rfl ?_
  have ex69 := ((ex29.ext x47).ext x58)
  refine LP_ldbox 13 (v := .agg #[I t.Level, sl a17 t.Vars c18, sl a23 t.Where c24, I t.Sum]) rfl rfl rfl ti_50 ag_50 (fun h => by cases h) rfl ex69 rfl rfl ?_
  have ex71 := ((ex43.ext x47).ext x58)
  have ex72 := ((ex44.ext x47).ext x58)
  have ex73 := ((((ex16.ext x).ext x28).ext x47).ext x58)
  have ex74 := ((((ex22.ext x).ext x28).ext x47).ext x58)
  refine LP_call 14 rfl rfl rfl cal_50 rfl (impl_isTable_w _ _ _ _ H wx57 r ex71 r3 ex72 r15 ex73 r21 ex74) ?_
  rintro _ wx75 ⟨r70, H, rfl, x76⟩
  refine LP_ev ok 15 [(37, .bool (!r70)), (38, .bool (!r70)), (39, .bool (!r70))] 18 rfl rfl ?_
  refine LP_split 39 (!r70) rfl (fun hc77 => ?_) (fun hc77 => ?_)
  ·have H := H.1 hc77
   refine LP_ev ok 18 [(40, undef), (41, undef), (42, .bool true), (43, .bool true), (44, undef), (45, undef), (46, undef), (47, undef), (48, undef), (49, undef), (50, .bool true)] 29 rfl rfl ?_
   refine LP_end _ rfl ?_
   try refine W_forget [(1, sl a5 sx c6), (2, sl a11 pubs c12), (3, I n), (5, I i), (6, pb b), (10, pb b26), (50, .bool true)] ⟨rfl, rfl, rfl, rfl, rfl, rfl, rfl, trivial⟩ fun ρ => ?_
   have X78 := (((((X.stepx x).stepx x28).stepx x47).stepx x58).stepx x76)
   have ex79 := (ex71.ext x76)
   have ex80 := (ex72.ext x76)
   have ex81 := (((ex45.ext x47).ext x58).ext x76)
   have ex82 := (ex73.ext x76)
   have ex83 := (ex74.ext x76)
   have ex84 := (ex68.ext x76)
   have ex85 := (ex69.ext x76)
   exact ⟨true, H, _, env_eq ⟨rfl, rfl, rfl, rfl, rfl, rfl, rfl, trivial⟩, X78, ex79, ex80, ex81, ex82, ex83, ex84, ex85⟩
  have H := H.2 hc77
  refine LP_ev ok 18 [(40, I i), (41, .bool (decide (i < 0))), (42, .bool (decide (i < 0))), (43, .bool (decide (i < 0)))] 22 rfl rfl ?_
  refine LP_split 43 (decide (i < 0)) rfl (fun hc86 => ?_) (fun hc86 => ?_)
  ·have H := H.1 hc86
   refine LP_ev ok 22 [(44, undef), (45, undef), (46, undef), (47, undef), (48, undef), (49, undef), (50, .bool true)] 29 rfl rfl ?_
   refine LP_end _ rfl ?_
   try refine W_forget [(1, sl a5 sx c6), (2, sl a11 pubs c12), (3, I n), (5, I i), (6, pb b), (10, pb b26), (50, .bool true)] ⟨rfl, rfl, rfl, rfl, rfl, rfl, rfl, trivial⟩ fun ρ => ?_
   have X87 := (((((X.stepx x).stepx x28).stepx x47).stepx x58).stepx x76)
   have ex88 := (ex71.ext x76)
   have ex89 := (ex72.ext x76)
   have ex90 := (((ex45.ext x47).ext x58).ext x76)
   have ex91 := (ex73.ext x76)
   have ex92 := (ex74.ext x76)
   have ex93 := (ex68.ext x76)
   have ex94 := (ex69.ext x76)
   exact ⟨true, H, _, env_eq ⟨rfl, rfl, rfl, rfl, rfl, rfl, rfl, trivial⟩, X87, ex88, ex89, ex90, ex91, ex92, ex93, ex94⟩
  have H := H.2 hc86
  refine LP_ev ok 22 [(44, I i)] 23 rfl rfl ?_
  have ex95 := (ex68.ext x76)
  refine LP_ldbox 23 (v := .agg #[sl a g.Parents c]) rfl rfl rfl ti_32 ag_32 (fun h => by cases h) rfl ex95 rfl rfl ?_
  refine LP_ev ok 24 [(46, sl a5 sx c6)] 25 rfl rfl ?_
  have ex96 := (ex69.ext x76)
  refine LP_ldbox 25 (v := .agg #[I t.Level, sl a17 t.Vars c18, sl a23 t.Where c24, I t.Sum]) rfl rfl rfl ti_50 ag_50 (fun h => by cases h) rfl ex96 rfl rfl ?_
  have ex98 := (ex71.ext x76)
  have ex99 := (ex72.ext x76)
  have ex100 := (ex73.ext x76)
  have ex101 := (ex74.ext x76)
  refine LP_call 26 rfl rfl rfl cal_51 rfl (impl_cellCount_w _ _ _ _ H wx75 r ex98 r3 ex99 r15 ex100 r21 ex101) ?_
  rintro _ wx102 ⟨r97, H, rfl, x103⟩
  refine LP_ev ok 27 [(49, .bool (decide (i ≥ r97))), (50, .bool (decide (i ≥ r97)))] 29 rfl rfl ?_
  refine LP_end _ rfl ?_
  try refine W_forget [(1, sl a5 sx c6), (2, sl a11 pubs c12), (3, I n), (5, I i), (6, pb b), (10, pb b26), (50, .bool (decide (i ≥ r97)))] ⟨rfl, rfl, rfl, rfl, rfl, rfl, rfl, trivial⟩ fun ρ => ?_
  have X104 := ((((((X.stepx x).stepx x28).stepx x47).stepx x58).stepx x76).stepx x103)
  have ex105 := (ex98.ext x103)
  have ex106 := (ex99.ext x103)
  have ex107 := ((((ex45.ext x47).ext x58).ext x76).ext x103)
  have ex108 := (ex100.ext x103)
  have ex109 := (ex101.ext x103)
  have ex110 := (ex95.ext x103)
  have ex111 := (ex96.ext x103)
  exact ⟨decide (i ≥ r97), H, _, env_eq ⟨rfl, rfl, rfl, rfl, rfl, rfl, rfl, trivial⟩, X104, ex105, ex106, ex107, ex108, ex109, ex110, ex111⟩
 rintro x31 _ wx32 ⟨H, ρ, rfl, HF⟩
 revert HF
 refine bb8 fun X40 ex33 ex34 ex35 ex36 ex37 ex38 ex39 => ?_
 subst hk
 refine W_cond (x31) rfl (fun hc112 => ?_) (fun hc112 => ?_)
 ·have H := H.1 hc112
  refine W_seq ?_
  refine W_region ?_
  refine LP_ev ok 0 [(12, I 0), (13, I 0), (14, .bool false)] 3 rfl rfl ?_
  refine LP_end _ rfl ?_
  refine W_ret ?_
  exact ⟨_, Ret_of [I 0, I 0, .bool false] ⟨⟨rfl, rfl⟩, ⟨rfl, rfl⟩, ⟨rfl, rfl⟩, trivial⟩, _, _, _, H, rfl, X40.ext⟩
 have H := H.2 hc112
 refine W_skip ?_
 refine W_seq ?_
 refine W_region ?_
 refine LP_ldbox 0 (v := .agg #[sl a g.Parents c]) rfl rfl rfl ti_32 ag_32 (fun h => by cases h) rfl ex38 rfl rfl ?_
 refine LP_ev ok 1 [(52, sl a5 sx c6)] 2 rfl rfl ?_
 refine LP_call 2 rfl rfl rfl cal_52 rfl (impl_typeCount_w _ _ _ H wx32 r ex33 r3 ex34) ?_
 rintro _ wx114 ⟨r113, H, rfl, x115⟩
 obtain ⟨hn, hb, H⟩ := H
 refine LP_make (α := Int) 3 rfl rfl rfl Try.underlying22 ti_3 (x0 := (0 : Int)) rfl rfl hn (by first | omega | (simp only [ln] at *; omega)) (by first | omega | (simp only [ln] at *; omega)) fun hx116 vx117 wx118 x119 o ex120 f121 => ?_
 obtain ⟨a122, c123, rfl⟩ := o.shape
 refine LP_alloc 4 rfl rfl rfl ti_22 rfl fun b124 wx125 x126 ex127 f128 => ?_
 refine LP_stbox 5 (vs := [.slice a122 (List.length (List.replicate (Int.toNat r113) ((0 : Int)))) c123]) (cs' := [.slice a122 (List.length (List.replicate (Int.toNat r113) ((0 : Int)))) c123]) rfl rfl rfl ti_22 rfl rfl rfl rfl rfl ex127 rfl rfl fun wx129 ex130 y => ?_
 refine LP_end _ rfl ?_
 refine W_seq ?_
 refine W_seq ?_
 refine W_region ?_
 refine LP_ldbox 0 (v := .slice a122 (List.length (List.replicate (Int.toNat r113) ((0 : Int)))) c123) rfl rfl rfl ti_22 ag_22 (fun _ => rfl) rfl ex130 rfl rfl ?_
 refine LP_ev ok 1 [(56, I (ln (List.replicate (Int.toNat r113) ((0 : Int))))), (57, I 0)] 3 rfl rfl ?_
 refine LP_end _ rfl ?_
 refine W_block ?_
 have X156 := ((X40.stepx x115).stepx x119)
 have f155 := f128.mono X156.size
 have X157 := ((((X40.stepx x115).stepx x119).stepx x126).step y (f155.dom _))
 have ex158 := ((ex120.ext x126).but y (Dj.of_fresh ex120 f128).symm)
 have X160 := (X40.stepx x115)
 have f159 := f121.mono X160.size
 have ex161 := ((ex33.ext x115).ext x119)
 have ex162 := ((((ex33.ext x115).ext x119).ext x126).but y (Dj.of_fresh ex161 f128).symm)
 have ex163 := ((ex34.ext x115).ext x119)
 have ex164 := ((((ex34.ext x115).ext x119).ext x126).but y (Dj.of_fresh ex163 f128).symm)
 have ex165 := ((ex35.ext x115).ext x119)
 have ex166 := ((((ex35.ext x115).ext x119).ext x126).but y (Dj.of_fresh ex165 f128).symm)
 have ex167 := ((ex36.ext x115).ext x119)
 have ex168 := ((((ex36.ext x115).ext x119).ext x126).but y (Dj.of_fresh ex167 f128).symm)
 have ex169 := ((ex37.ext x115).ext x119)
 have ex170 := ((((ex37.ext x115).ext x119).ext x126).but y (Dj.of_fresh ex169 f128).symm)
 have ex171 := ((ex38.ext x115).ext x119)
 have ex172 := ((((ex38.ext x115).ext x119).ext x126).but y (Dj.of_fresh ex171 f128).symm)
 have ex173 := ((ex39.ext x115).ext x119)
 have ex174 := ((((ex39.ext x115).ext x119).ext x126).but y (Dj.of_fresh ex173 f128).symm)
 have ex175 := (ex33.ext x115)
 have ex176 := (ex34.ext x115)
 have ex177 := (ex35.ext x115)
 have ex178 := (ex36.ext x115)
 have ex179 := (ex37.ext x115)
 have ex180 := (ex38.ext x115)
 have ex181 := (ex39.ext x115)
 obtain ⟨J, m, Hx, H⟩ := H
 refine W_loop (S := Int × (List Int)) (fun s ρ' w' => J s.1 s.2 ∧ ∃ (ρ : Env) (hx134 : PH), ρ' = setAll [(1, sl a5 sx c6), (2, sl a11 pubs c12), (3, I n), (5, I i), (6, pb b), (10, pb b26), (15, pb b124), (56, I (ln (List.replicate (Int.toNat r113) ((0 : Int))))), (57, I s.1)] ρ ∧ But emp w w' ∧ OS 3 hx134 emp (.slice a122 (List.length (List.replicate (Int.toNat r113) ((0 : Int)))) c123) s.2 ∧ Sub hx134 w' ∧ Fresh w.heap.size hx134 ∧ Sub hx w' ∧ Sub hx2 w' ∧ Sub hx8 w' ∧ Sub hx14 w' ∧ Sub hx20 w' ∧ Sub (bx b 32 [sl a g.Parents c]) w' ∧ Sub (bx b26 50 [I t.Level, sl a17 t.Vars c18, sl a23 t.Where c24, I t.Sum]) w' ∧ Sub (bx b124 22 [.slice a122 (List.length (List.replicate (Int.toNat r113) ((0 : Int)))) c123]) w' ∧ Dj hx134 hx ∧ Dj hx134 hx2 ∧ Dj hx134 hx8 ∧ Dj hx134 hx14 ∧ Dj hx134 hx20 ∧ Dj hx134 (bx b 32 [sl a g.Parents c]) ∧ Dj hx134 (bx b26 50 [I t.Level, sl a17 t.Vars c18, sl a23 t.Where c24, I t.Sum]) ∧ Dj hx134 (bx b124 22 [.slice a122 (List.length (List.replicate (Int.toNat r113) ((0 : Int)))) c123])) (fun s => m s.1 s.2) (0, List.replicate (Int.toNat r113) ((0 : Int))) ⟨Hx, _, hx116, env_eq ⟨rfl, rfl, rfl, rfl, rfl, rfl, rfl, rfl, rfl, trivial⟩, X157, o, ex158, f159, ex162, ex164, ex166, ex168, ex170, ex172, ex174, ex130, (Dj.of_fresh ex175 f121).symm, (Dj.of_fresh ex176 f121).symm, (Dj.of_fresh ex177 f121).symm, (Dj.of_fresh ex178 f121).symm, (Dj.of_fresh ex179 f121).symm, (Dj.of_fresh ex180 f121).symm, (Dj.of_fresh ex181 f121).symm, (Dj.box (Dj.of_fresh ex120 f128).symm).symm⟩ ?_
 rintro ⟨x131, x132⟩ _ wx138 ⟨Hi, ρ, hx134, rfl, HF⟩
 revert HF
 refine bb9 fun X154 o135 ex136 f137 ex139 ex140 ex141 ex142 => ?_
 refine bb9 fun ex143 ex144 ex145 ex146 d d147 d148 d149 => ?_
 refine bb4 fun d150 d151 d152 d153 => ?_
 have H := H x131 x132 Hi
 refine W_seq ?_
 refine W_region ?_
 refine LP_ev ok 0 [(58, .bool (decide (x131 < (ln (List.replicate (Int.toNat r113) ((0 : Int)))))))] 1 rfl rfl ?_
 refine LP_end _ rfl ?_
 refine W_seq ?_
 refine W_cond (decide (x131 < (ln (List.replicate (Int.toNat r113) ((0 : Int)))))) rfl (fun hc182 => ?_) (fun hc182 => ?_)
 ·have H := H.1 hc182
  refine W_skip ?_
  obtain ⟨k207, hk208, H⟩ := jn_elim H
  refine W_join2 (S := (List Int)) (fun s ρ' w' => k207 s ∧ ∃ (ρ : Env) (hx185 : PH), ρ' = setAll [(1, sl a5 sx c6), (2, sl a11 pubs c12), (3, I n), (5, I i), (6, pb b), (10, pb b26), (15, pb b124), (56, I (ln (List.replicate (Int.toNat r113) ((0 : Int))))), (57, I x131)] ρ ∧ But emp w w' ∧ OS 3 hx185 emp (.slice a122 (List.length (List.replicate (Int.toNat r113) ((0 : Int)))) c123) s ∧ Sub hx185 w' ∧ Fresh w.heap.size hx185 ∧ Sub hx w' ∧ Sub hx2 w' ∧ Sub hx8 w' ∧ Sub hx14 w' ∧ Sub hx20 w' ∧ Sub (bx b 32 [sl a g.Parents c]) w' ∧ Sub (bx b26 50 [I t.Level, sl a17 t.Vars c18, sl a23 t.Where c24, I t.Sum]) w' ∧ Sub (bx b124 22 [.slice a122 (List.length (List.replicate (Int.toNat r113) ((0 : Int)))) c123]) w' ∧ Dj hx185 hx ∧ Dj hx185 hx2 ∧ Dj hx185 hx8 ∧ Dj hx185 hx14 ∧ Dj hx185 hx20 ∧ Dj hx185 (bx b 32 [sl a g.Parents c]) ∧ Dj hx185 (bx b26 50 [I t.Level, sl a17 t.Vars c18, sl a23 t.Where c24, I t.Sum]) ∧ Dj hx185 (bx b124 22 [.slice a122 (List.length (List.replicate (Int.toNat r113) ((0 : Int)))) c123])) ?_ ?_
  ·refine W_block ?_
   refine W_seq ?_
   refine W_region ?_
   refine LP_ev ok 0 [(59, I x131), (16, I x131)] 2 rfl rfl ?_
   refine LP_end _ rfl ?_
   refine W_seq ?_
   refine W_open mix fun wx209 x210 => ?_
   refine AP_game 12 [[], [], [], [], [], [], [3, 4, 5], [0, 1, 2, 3, 4, 5, 6], [0, 1, 2, 3, 4, 5, 6, 7], [0, 1, 2, 3, 4, 5, 6, 7, 8], [0, 1, 2, 3, 4, 5, 6, 7, 8], [0, 1, 2, 3, 4, 5, 6, 7, 8, 9], [0, 1, 2, 3, 4, 5, 6, 7, 8, 9, 10, 11]] [[(6, none)], [(1, none)], [(10, none)], [(6, none)], [(1, none)], [(16, none)], [(64, some 3), (65, some 4), (66, some 5)], [(61, some 0), (62, some 1), (63, some 2), (67, some 6)], [(68, some 7)], [(60, some 8)], [(60, some 8)], [(69, some 9)]] [(1, none), (2, none), (3, none), (5, none), (6, none), (10, none), (15, none), (16, none), (17, some 11), (56, none), (57, none), (70, some 10)] [(0, false), (1, false), (2, false), (3, false), (4, false), (5, false), (6, true), (7, false), (8, false), (9, false), (10, false), (11, false)] (by kernel_rfl) (by kernel_rfl) ?_
   have ex211 := (ex144.ext x210)
   refine GS_r1 [(6, pb b)] (.agg #[sl a g.Parents c]) rfl rfl (fun _ h => h) (fun _ w e => ex_ldbox rfl ti_32 ag_32 (fun h => by cases h) rfl e rfl rfl) ex211 ?_
   refine GS_ev ok [(1, sl a5 sx c6)] (sl a5 sx c6) rfl rfl (fun _ h => h) (fun _ => rfl) ?_
   have ex212 := (ex145.ext x210)
   refine GS_r1 [(10, pb b26)] (.agg #[I t.Level, sl a17 t.Vars c18, sl a23 t.Where c24, I t.Sum]) rfl rfl (fun _ h => h) (fun _ w e => ex_ldbox rfl ti_50 ag_50 (fun h => by cases h) rfl e rfl rfl) ex212 ?_
   refine GS_r1 [(6, pb b)] (.agg #[sl a g.Parents c]) rfl rfl (fun _ h => h) (fun _ w e => ex_ldbox rfl ti_32 ag_32 (fun h => by cases h) rfl e rfl rfl) ex211 ?_
   refine GS_ev ok [(1, sl a5 sx c6)] (sl a5 sx c6) rfl rfl (fun _ h => h) (fun _ => rfl) ?_
   refine GS_ev ok [(16, I x131)] (I x131) rfl rfl (fun _ h => h) (fun _ => rfl) ?_
   refine GS_lp [(64, .agg #[sl a g.Parents c]), (65, sl a5 sx c6), (66, I x131)] rfl rfl (fun _ h => h) rfl fun ρ wx213 x214 => ?_
   have ex216 := ((ex139.ext x210).ext x214)
   have ex217 := ((ex140.ext x210).ext x214)
   refine LP_call 0 rfl rfl rfl cal_54 rfl (impl_typeAt_w _ _ _ _ H wx213 r ex216 r3 ex217) ?_
   rintro _ wx218 ⟨r215, vx220, hx221, H, rfl, x219, o222, ex223, f224⟩
   obtain ⟨a225, c226, rfl⟩ := o222.shape
   have ex227 := ((ex212.ext x214).ext x219)
   have ex228 := ((ex211.ext x214).ext x219)
   refine LP_gs ⟨⟨.inl rfl, .inr ex227, .inr ex228, trivial⟩, ?_⟩
   obtain ⟨r229, r230, Hd, H⟩ := H
   have ex231 := (ex216.ext x219)
   have ex232 := (ex217.ext x219)
   have ex233 := (((ex142.ext x210).ext x214).ext x219)
   have ex234 := (((ex143.ext x210).ext x214).ext x219)
   refine GS_q [(61, .agg #[sl a g.Parents c]), (62, sl a5 sx c6), (63, .agg #[I t.Level, sl a17 t.Vars c18, sl a23 t.Where c24, I t.Sum]), (67, .agg #[I r215.Area, I r215.House, sl a225 r215.Values c226])] (.tuple #[I r229, I r230]) [hx, hx2, hx14, hx20, hx221] [.agg #[sl a g.Parents c], sl a5 sx c6, .agg #[I t.Level, sl a17 t.Vars c18, sl a23 t.Where c24, I t.Sum], .agg #[I r215.Area, I r215.House, sl a225 r215.Values c226]] rfl rfl (fun _ h => h) rfl cal_53 (fun _ => rfl) (fun w e => (impl_contribution_w _ _ _ _ _ Hd w r e.1 r3 e.2.1 r15 e.2.2.1 r21 e.2.2.2.1 o222.readf e.2.2.2.2.1).mono (fun _ _ h => by obtain ⟨_, _, ⟨rfl, rfl⟩, rfl, x⟩ := h; exact ⟨rfl, x⟩)) ⟨ex231, ex232, ex233, ex234, ex223, trivial⟩ ?_
   refine GS_ev ok [(68, .tuple #[I r229, I r230])] (.tuple #[I r229, I r230]) rfl rfl (fun _ h => h) (fun _ => rfl) ?_
   refine GS_ev ok [(60, .tuple #[I r229, I r230])] (I r229) rfl rfl (fun _ h => h) (fun _ => rfl) ?_
   refine GS_ev ok [(60, .tuple #[I r229, I r230])] (I r230) rfl rfl (fun _ h => h) (fun _ => rfl) ?_
   refine GS_ev ok [(69, I r229)] (I r229) rfl rfl (fun _ h => h) (fun _ => rfl) ?_
   intro wx235 x236 ρ hn237
   refine AP_forget [(1, sl a5 sx c6), (2, sl a11 pubs c12), (3, I n), (5, I i), (6, pb b), (10, pb b26), (15, pb b124), (16, I x131), (17, I r229), (56, I (ln (List.replicate (Int.toNat r113) ((0 : Int))))), (57, I x131), (70, I r230)] (by exact hn237) fun ρ => ?_
   refine AP_tail 12 [[], [], [], [], [], [], [3, 4, 5], [0, 1, 2, 3, 4, 5, 6], [0, 1, 2, 3, 4, 5, 6, 7], [0, 1, 2, 3, 4, 5, 6, 7, 8], [0, 1, 2, 3, 4, 5, 6, 7, 8], [0, 1, 2, 3, 4, 5, 6, 7, 8, 9], [0, 1, 2, 3, 4, 5, 6, 7, 8, 9, 10, 11]] (by kernel_rfl) ?_
   refine LP_ev ok 12 [(18, I r230)] 13 rfl rfl ?_
   refine LP_end _ rfl ?_
   refine W_seq ?_
   refine W_region ?_
   refine LP_ev ok 0 [(71, I r229), (72, I i), (73, .bool (r229 == i))] 3 rfl rfl ?_
   refine LP_end _ rfl ?_
   refine W_cond (r229 == i) rfl (fun hc238 => ?_) (fun hc238 => ?_)
   ·have H := H.1 hc238
    refine W_region ?_
    have ex239 := ((((ex146.ext x210).ext x214).ext x219).ext x236)
    refine LP_ldbox 0 (v := .slice a122 (List.length (List.replicate (Int.toNat r113) ((0 : Int)))) c123) rfl rfl rfl ti_22 ag_22 (fun _ => rfl) rfl ex239 rfl rfl ?_
    refine LP_ev ok 1 [(75, I x131), (76, I r230)] 3 rfl rfl ?_
    obtain ⟨hi, hl, H⟩ := H
    refine LP_indexw (v := .slice a122 (List.length (List.replicate (Int.toNat r113) ((0 : Int)))) c123) 3 rfl rfl rfl Try.underlying22 ti_3 rfl rfl o135 hi hl fun a240 wa => ?_
    have ex246 := ((((ex136.ext x210).ext x214).ext x219).ext x236)
    refine LP_set 4 rfl rfl rfl rfl rfl wa (Le.refl emp) ⟨_, rfl, rfl⟩ ex246 fun hx241 wx242 o243 ex244 y245 dm => ?_
    refine LP_end _ rfl ?_
    have X247 := (((((X154.stepx x210).stepx x214).stepx x219).stepx x236).step y245 (f137.dom _))
    have X249 := ((((X154.stepx x210).stepx x214).stepx x219).stepx x236)
    have f248 := (dm _).fresh f137 X249.size
    have ex250 := ((ex231.ext x236).but y245 d)
    have ex251 := ((ex232.ext x236).but y245 d147)
    have ex252 := (((((ex141.ext x210).ext x214).ext x219).ext x236).but y245 d148)
    have ex253 := ((ex233.ext x236).but y245 d149)
    have ex254 := ((ex234.ext x236).but y245 d150)
    have ex255 := ((((ex211.ext x214).ext x219).ext x236).but y245 d151)
    have ex256 := ((((ex212.ext x214).ext x219).ext x236).but y245 d152)
    have ex257 := (ex239.but y245 d153)
    have ex258 := (ex231.ext x236)
    have ex259 := (ex232.ext x236)
    have ex260 := ((((ex141.ext x210).ext x214).ext x219).ext x236)
    have ex261 := (ex233.ext x236)
    have ex262 := (ex234.ext x236)
    have ex263 := (((ex211.ext x214).ext x219).ext x236)
    have ex264 := (((ex212.ext x214).ext x219).ext x236)
    exact ⟨List.set x132 (Int.toNat x131) r230, H, _, hx241, env_eq ⟨rfl, rfl, rfl, rfl, rfl, rfl, rfl, rfl, rfl, trivial⟩, X247, o243, ex244, f248, ex250, ex251, ex252, ex253, ex254, ex255, ex256, ex257, (DomLe.dj (dm _) d ex258), (DomLe.dj (dm _) d147 ex259), (DomLe.dj (dm _) d148 ex260), (DomLe.dj (dm _) d149 ex261), (DomLe.dj (dm _) d150 ex262), (DomLe.dj (dm _) d151 ex263), (DomLe.dj (dm _) d152 ex264), (DomLe.dj (dm _) d153 ex239)⟩
   have H := H.2 hc238
   refine W_skip ?_
   have X265 := ((((X154.stepx x210).stepx x214).stepx x219).stepx x236)
   have ex266 := ((((ex136.ext x210).ext x214).ext x219).ext x236)
   have ex267 := (ex231.ext x236)
   have ex268 := (ex232.ext x236)
   have ex269 := ((((ex141.ext x210).ext x214).ext x219).ext x236)
   have ex270 := (ex233.ext x236)
   have ex271 := (ex234.ext x236)
   have ex272 := (((ex211.ext x214).ext x219).ext x236)
   have ex273 := (((ex212.ext x214).ext x219).ext x236)
   have ex274 := ((((ex146.ext x210).ext x214).ext x219).ext x236)
   exact ⟨x132, H, _, hx134, env_eq ⟨rfl, rfl, rfl, rfl, rfl, rfl, rfl, rfl, rfl, trivial⟩, X265, o135, ex266, f137, ex267, ex268, ex269, ex270, ex271, ex272, ex273, ex274, d, d147, d148, d149, d150, d151, d152, d153⟩
  rintro x183 _ wx189 ⟨H, ρ, hx185, rfl, HF⟩
  revert HF
  refine bb9 fun X206 o186 ex187 f188 ex190 ex191 ex192 ex193 => ?_
  refine bb9 fun ex194 ex195 ex196 ex197 d198 d199 d200 d201 => ?_
  refine bb4 fun d202 d203 d204 d205 => ?_
  subst hk208
  refine W_region ?_
  refine LP_ev ok 0 [(78, I (wr (x131 + 1))), (57, I (wr (x131 + 1)))] 2 rfl rfl ?_
  refine LP_end _ rfl ?_
  exact ⟨(wr (x131 + 1), x183), ⟨H.1, _, hx185, env_eq ⟨rfl, rfl, rfl, rfl, rfl, rfl, rfl, rfl, rfl, trivial⟩, X206, o186, ex187, f188, ex190, ex191, ex192, ex193, ex194, ex195, ex196, ex197, d198, d199, d200, d201, d202, d203, d204, d205⟩, H.2⟩
 have H := H.2 hc182
 refine W_exit ?_
 refine (if_pos rfl).mpr ?_
 refine W_seq ?_
 refine W_region ?_
 refine LP_ldbox 0 (v := .agg #[sl a g.Parents c]) rfl rfl rfl ti_32 ag_32 (fun h => by cases h) rfl ex144 rfl rfl ?_
 refine LP_ev ok 1 [(81, sl a5 sx c6), (82, sl a11 pubs c12), (83, I n), (84, .func (.func 56) #[] #[pb b124])] 5 rfl rfl ?_
 refine LP_call 5 rfl rfl rfl cal_55 rfl (impl_ranges_impl_AnswerRange_1_w _ _ _ _ _ _ H wx138 r ex139 r3 ex140 r9 ex141 o135.readf ex136 ex146) ?_
 rintro _ wx278 ⟨r275, r276, r277, vx280, hx281, vx285, hx286, H, rfl, x279, HF⟩
 revert HF
 refine bb7 fun o282 ex283 f284 o287 ex288 f289 d290 => ?_
 obtain ⟨a291, c292, rfl⟩ := o282.shape
 obtain ⟨a293, c294, rfl⟩ := o287.shape
 refine LP_ev ok 6 [(79, .tuple #[sl a291 r275 c292, sl a293 r276 c294, .bool r277]), (86, sl a291 r275 c292), (87, sl a293 r276 c294), (88, .bool r277), (19, sl a291 r275 c292), (20, sl a293 r276 c294), (21, .bool r277)] 13 rfl rfl ?_
 refine LP_end _ rfl ?_
 refine W_seq ?_
 refine W_seq ?_
 refine W_region ?_
 refine LP_ev ok 0 [(89, .bool r277), (90, .bool (!r277))] 2 rfl rfl ?_
 refine LP_end _ rfl ?_
 refine W_cond (!r277) rfl (fun hc295 => ?_) (fun hc295 => ?_)
 ·have H := H.1 hc295
  refine W_seq ?_
  refine W_region ?_
  refine LP_ev ok 0 [(12, I 0), (13, I 0), (14, .bool false)] 3 rfl rfl ?_
  refine LP_end _ rfl ?_
  refine W_ret ?_
  have X296 := (X154.stepx x279)
  exact ⟨_, Ret_of [I 0, I 0, .bool false] ⟨⟨rfl, rfl⟩, ⟨rfl, rfl⟩, ⟨rfl, rfl⟩, trivial⟩, _, _, _, H, rfl, X296.ext⟩
 have H := H.2 hc295
 refine W_skip ?_
 refine W_seq ?_
 refine W_quiet mix (by kernel_rfl) ?_
 refine QP_ev ok 0 [(91, sl a291 r275 c292)] 1 rfl rfl ?_
 obtain ⟨x297, hi298, hx299, H⟩ := H
 refine QP_index 1 rfl rfl rfl Try.underlying22 ti_3 rfl rfl o282.readf hi298 hx299 fun a300 cs r301 d302 => ?_
 refine QP_load 2 rfl rfl rfl ti_3 ag_3 rfl r301 d302 ex283 fun vx303 r304 => ?_
 obtain rfl := r304.int
 refine QP_ev ok 3 [(94, sl a293 r276 c294)] 4 rfl rfl ?_
 obtain ⟨x305, hi306, hx307, H⟩ := H
 refine QP_index 4 rfl rfl rfl Try.underlying22 ti_3 rfl rfl o287.readf hi306 hx307 fun a308 cs309 r310 d311 => ?_
 refine QP_load 5 rfl rfl rfl ti_3 ag_3 rfl r310 d311 ex288 fun vx312 r313 => ?_
 obtain rfl := r313.int
 refine QP_ev ok 6 [(12, I x297), (13, I x305), (14, .bool true)] 9 rfl rfl ?_
 refine QP_end _ rfl fun wx314 x315 => ?_
 try refine W_forget [(12, I x297), (13, I x305), (14, .bool true)] ⟨rfl, rfl, rfl, trivial⟩ fun ρ => ?_
 refine W_ret ?_
 have X316 := ((X154.stepx x279).stepx x315)
 exact ⟨_, Ret_of [I x297, I x305, .bool true] ⟨⟨rfl, rfl⟩, ⟨rfl, rfl⟩, ⟨rfl, rfl⟩, trivial⟩, _, _, _, H, rfl, X316.ext⟩

theorem laws_eqIntS_w (a : List Int) (b : List Int) (Q : Bool → Prop) (H : laws_eqIntS a b Q) (w : World) {vx : Value} {hx : PH} (r : RS hx vx a) (ex : Sub hx w) {vx2 : Value} {hx3 : PH} (r4 : RS hx3 vx2 b) (ex5 : Sub hx3 w) :
  CallsTo Try.prog 37 #[vx, vx2] w fun v w' => ∃ r0, Q r0 ∧ v = .bool r0 ∧ Ext w w' := by
 obtain ⟨a1, c, rfl⟩ := r.shape
 obtain ⟨a6, c7, rfl⟩ := r4.shape
 refine enter (args := [sl a1 a c, sl a6 b c7]) 26 Try.func37 rfl rfl rfl ?_
 refine W_forget [(0, sl a1 a c), (1, sl a6 b c7)] ⟨rfl, rfl, trivial⟩ fun ρ => ?_
 have X := But.refl emp w
 refine W_seq ?_
 refine W_region ?_
 refine LP_ev ok 0 [(4, .bool false)] 1 rfl rfl ?_
 refine LP_end _ rfl ?_
 refine W_seq ?_
 refine W_seq ?_
 refine W_region ?_
 refine LP_ev ok 0 [(6, sl a1 a c), (7, I (ln a)), (8, sl a6 b c7), (9, I (ln b)), (10, .bool ((ln a) != (ln b)))] 5 rfl rfl ?_
 refine LP_end _ rfl ?_
 refine W_cond ((ln a) != (ln b)) rfl (fun hc => ?_) (fun hc => ?_)
 ·have H := H.1 hc
  refine W_seq ?_
  refine W_region ?_
  refine LP_ev ok 0 [(4, .bool false)] 1 rfl rfl ?_
  refine LP_end _ rfl ?_
  refine W_ret ?_
  exact ⟨_, Ret_of [.bool false] ⟨⟨rfl, rfl⟩, trivial⟩, _, H, rfl, X.ext⟩
 have H := H.2 hc
 refine W_skip ?_
 refine W_seq ?_
 refine W_seq ?_
 refine W_region ?_
 refine LP_ev ok 0 [(5, I 0)] 1 rfl rfl ?_
 refine LP_end _ rfl ?_
 refine W_block ?_
 obtain ⟨J, m, Hx, H⟩ := H
 refine W_loop (S := Int) (fun s ρ' w' => J s ∧ ∃ (ρ : Env), ρ' = setAll [(0, sl a1 a c), (1, sl a6 b c7), (5, I s)] ρ ∧ But emp w w' ∧ Sub hx w' ∧ Sub hx3 w') (fun s => m s) 0 ⟨Hx, _, env_eq ⟨rfl, rfl, rfl, trivial⟩, X, ex, ex5⟩ ?_
 rintro i _ wx ⟨Hi, ρ, rfl, X10, ex8, ex9⟩
 have H := H i Hi
 refine W_seq ?_
 refine W_seq ?_
 refine W_region ?_
 refine LP_ev ok 0 [(11, I i), (12, sl a1 a c), (13, I (ln a)), (14, .bool (decide (i < (ln a))))] 4 rfl rfl ?_
 refine LP_end _ rfl ?_
 refine W_cond (decide (i < (ln a))) rfl (fun hc11 => ?_) (fun hc11 => ?_)
 ·have H := H.1 hc11
  refine W_skip ?_
  refine W_seq ?_
  refine W_block ?_
  refine W_seq ?_
  refine W_quiet mix (by kernel_rfl) ?_
  refine QP_ev ok 0 [(17, sl a1 a c), (18, I i)] 2 rfl rfl ?_
  obtain ⟨x, hi, hx12, H⟩ := H
  refine QP_index 2 rfl rfl rfl Try.underlying22 ti_3 rfl rfl r hi hx12 fun a13 cs r14 d => ?_
  refine QP_load 3 rfl rfl rfl ti_3 ag_3 rfl r14 d ex8 fun vx15 r16 => ?_
  obtain rfl := r16.int
  refine QP_ev ok 4 [(21, sl a6 b c7), (22, I i)] 6 rfl rfl ?_
  obtain ⟨x17, hi18, hx19, H⟩ := H
  refine QP_index 6 rfl rfl rfl Try.underlying22 ti_3 rfl rfl r4 hi18 hx19 fun a20 cs21 r22 d23 => ?_
  refine QP_load 7 rfl rfl rfl ti_3 ag_3 rfl r22 d23 ex9 fun vx24 r25 => ?_
  obtain rfl := r25.int
  refine QP_ev ok 8 [(25, .bool (x != x17))] 9 rfl rfl ?_
  refine QP_end _ rfl fun wx26 x27 => ?_
  refine W_cond (x != x17) rfl (fun hc28 => ?_) (fun hc28 => ?_)
  ·have H := H.1 hc28
   refine W_seq ?_
   refine W_region ?_
   refine LP_ev ok 0 [(4, .bool false)] 1 rfl rfl ?_
   refine LP_end _ rfl ?_
   refine W_ret ?_
   have X29 := (X10.stepx x27)
   exact ⟨_, Ret_of [.bool false] ⟨⟨rfl, rfl⟩, trivial⟩, _, H, rfl, X29.ext⟩
  have H := H.2 hc28
  refine W_skip ?_
  refine W_region ?_
  refine LP_ev ok 0 [(15, I i), (16, I (wr (i + 1))), (5, I (wr (i + 1)))] 3 rfl rfl ?_
  refine LP_end _ rfl ?_
  have X30 := (X10.stepx x27)
  have ex31 := (ex8.ext x27)
  have ex32 := (ex9.ext x27)
  exact ⟨wr (i + 1), ⟨H.1, _, env_eq ⟨rfl, rfl, rfl, trivial⟩, X30, ex31, ex32⟩, H.2⟩
 have H := H.2 hc11
 refine W_exit ?_
 refine (if_pos rfl).mpr ?_
 refine W_seq ?_
 refine W_region ?_
 refine LP_ev ok 0 [(4, .bool true)] 1 rfl rfl ?_
 refine LP_end _ rfl ?_
 refine W_ret ?_
 exact ⟨_, Ret_of [.bool true] ⟨⟨rfl, rfl⟩, trivial⟩, _, H, rfl, X10.ext⟩

theorem laws_eqGeo_w (a : Geo) (b : Geo) (Q : Bool → Prop) (H : laws_eqGeo a b Q) (w : World) {vx : Value} {hx : PH} (r : RS hx vx a.Parents) (ex : Sub hx w) {vx2 : Value} {hx3 : PH} (r4 : RS hx3 vx2 b.Parents) (ex5 : Sub hx3 w) :
  CallsTo Try.prog 14 #[.agg #[vx], .agg #[vx2]] w fun v w' => ∃ r0, Q r0 ∧ v = .bool r0 ∧ Ext w w' := by
 obtain ⟨a1, c, rfl⟩ := r.shape
 obtain ⟨a6, c7, rfl⟩ := r4.shape
 refine enter (args := [.agg #[sl a1 a.Parents c], .agg #[sl a6 b.Parents c7]]) 11 Try.func14 rfl rfl rfl ?_
 refine W_forget [(0, .agg #[sl a1 a.Parents c]), (1, .agg #[sl a6 b.Parents c7])] ⟨rfl, rfl, trivial⟩ fun ρ => ?_
 have X := But.refl emp w
 refine W_seq ?_
 refine W_region ?_
 refine LP_box 0 (cs := [sl a1 a.Parents c]) rfl rfl rfl rfl rfl fun b8 wx x ex9 f => ?_
 refine LP_box 1 (cs := [sl a6 b.Parents c7]) rfl rfl rfl rfl rfl fun b10 wx11 x12 ex13 f14 => ?_
 refine LP_ev ok 2 [(4, .bool false)] 3 rfl rfl ?_
 refine LP_end _ rfl ?_
 refine W_seq ?_
 refine W_seq ?_
 refine W_region ?_
 refine LP_ev ok 0 [(5, pb b8)] 1 rfl rfl ?_
 have ex15 := (ex9.ext x12)
 refine LP_ldbox 1 (v := sl a1 a.Parents c) rfl rfl rfl ti_22 ag_22 (fun _ => rfl) rfl ex15 rfl rfl ?_
 refine LP_ev ok 2 [(7, pb b10)] 3 rfl rfl ?_
 refine LP_ldbox 3 (v := sl a6 b.Parents c7) rfl rfl rfl ti_22 ag_22 (fun _ => rfl) rfl ex13 rfl rfl ?_
 have ex17 := ((ex.ext x).ext x12)
 have ex18 := ((ex5.ext x).ext x12)
 refine LP_call 4 rfl rfl rfl cal_37 rfl (laws_eqIntS_w _ _ _ H wx11 r ex17 r4 ex18) ?_
 rintro _ wx19 ⟨r16, H, rfl, x20⟩
 refine LP_ev ok 5 [(10, .bool (!r16))] 6 rfl rfl ?_
 refine LP_end _ rfl ?_
 refine W_cond (!r16) rfl (fun hc => ?_) (fun hc => ?_)
 ·have H := H.1 hc
  refine W_seq ?_
  refine W_region ?_
  refine LP_ev ok 0 [(4, .bool false)] 1 rfl rfl ?_
  refine LP_end _ rfl ?_
  refine W_ret ?_
  have X21 := (((X.stepx x).stepx x12).stepx x20)
  exact ⟨_, Ret_of [.bool false] ⟨⟨rfl, rfl⟩, trivial⟩, _, H, rfl, X21.ext⟩
 have H := H.2 hc
 refine W_skip ?_
 refine W_seq ?_
 refine W_region ?_
 refine LP_ev ok 0 [(4, .bool true)] 1 rfl rfl ?_
 refine LP_end _ rfl ?_
 refine W_ret ?_
 have X22 := (((X.stepx x).stepx x12).stepx x20)
 exact ⟨_, Ret_of [.bool true] ⟨⟨rfl, rfl⟩, trivial⟩, _, H, rfl, X22.ext⟩

theorem laws_eqVariable_w (a : Variable) (b : Variable) (Q : Bool → Prop) (H : laws_eqVariable a b Q) (w : World)  :
  CallsTo Try.prog 38 #[.agg #[.string a.Name, I a.Levels], .agg #[.string b.Name, I b.Levels]] w fun v w' => ∃ r0, Q r0 ∧ v = .bool r0 ∧ Ext w w' := by
 refine enter (args := [.agg #[.string a.Name, I a.Levels], .agg #[.string b.Name, I b.Levels]]) 15 Try.func38 rfl rfl rfl ?_
 refine W_forget [(0, .agg #[.string a.Name, I a.Levels]), (1, .agg #[.string b.Name, I b.Levels])] ⟨rfl, rfl, trivial⟩ fun ρ => ?_
 have X := But.refl emp w
 refine W_seq ?_
 refine W_region ?_
 refine LP_box 0 (cs := [.string a.Name, I a.Levels]) rfl rfl rfl rfl rfl fun b1 wx x ex f => ?_
 refine LP_box 1 (cs := [.string b.Name, I b.Levels]) rfl rfl rfl rfl rfl fun b2 wx3 x4 ex5 f6 => ?_
 refine LP_ev ok 2 [(4, .bool false)] 3 rfl rfl ?_
 refine LP_end _ rfl ?_
 refine W_seq ?_
 refine W_seq ?_
 refine W_region ?_
 refine LP_ev ok 0 [(5, pb b1)] 1 rfl rfl ?_
 have ex7 := (ex.ext x4)
 refine LP_ldbox 1 (v := .string a.Name) rfl rfl rfl ti_9 ag_9 (fun _ => rfl) rfl ex7 rfl rfl ?_
 refine LP_ev ok 2 [(7, pb b2)] 3 rfl rfl ?_
 refine LP_ldbox 3 (v := .string b.Name) rfl rfl rfl ti_9 ag_9 (fun _ => rfl) rfl ex5 rfl rfl ?_
 refine LP_ev ok 4 [(9, .bool (!streq a.Name b.Name))] 5 rfl rfl ?_
 refine LP_end _ rfl ?_
 refine W_cond (!streq a.Name b.Name) rfl (fun hc => ?_) (fun hc => ?_)
 ·have H := H.1 hc
  refine W_seq ?_
  refine W_region ?_
  refine LP_ev ok 0 [(4, .bool false)] 1 rfl rfl ?_
  refine LP_end _ rfl ?_
  refine W_ret ?_
  have X8 := ((X.stepx x).stepx x4)
  exact ⟨_, Ret_of [.bool false] ⟨⟨rfl, rfl⟩, trivial⟩, _, H, rfl, X8.ext⟩
 have H := H.2 hc
 refine W_skip ?_
 refine W_seq ?_
 refine W_seq ?_
 refine W_region ?_
 refine LP_ev ok 0 [(10, .pointer (some ⟨b1, 1, none⟩))] 1 rfl rfl ?_
 refine LP_ldbox 1 (v := I a.Levels) rfl rfl rfl ti_3 ag_3 (fun _ => rfl) rfl ex7 rfl rfl ?_
 refine LP_ev ok 2 [(12, .pointer (some ⟨b2, 1, none⟩))] 3 rfl rfl ?_
 refine LP_ldbox 3 (v := I b.Levels) rfl rfl rfl ti_3 ag_3 (fun _ => rfl) rfl ex5 rfl rfl ?_
 refine LP_ev ok 4 [(14, .bool (a.Levels != b.Levels))] 5 rfl rfl ?_
 refine LP_end _ rfl ?_
 refine W_cond (a.Levels != b.Levels) rfl (fun hc9 => ?_) (fun hc9 => ?_)
 ·have H := H.1 hc9
  refine W_seq ?_
  refine W_region ?_
  refine LP_ev ok 0 [(4, .bool false)] 1 rfl rfl ?_
  refine LP_end _ rfl ?_
  refine W_ret ?_
  have X10 := ((X.stepx x).stepx x4)
  exact ⟨_, Ret_of [.bool false] ⟨⟨rfl, rfl⟩, trivial⟩, _, H, rfl, X10.ext⟩
 have H := H.2 hc9
 refine W_skip ?_
 refine W_seq ?_
 refine W_region ?_
 refine LP_ev ok 0 [(4, .bool true)] 1 rfl rfl ?_
 refine LP_end _ rfl ?_
 refine W_ret ?_
 have X11 := ((X.stepx x).stepx x4)
 exact ⟨_, Ret_of [.bool true] ⟨⟨rfl, rfl⟩, trivial⟩, _, H, rfl, X11.ext⟩

theorem laws_eqVariableS_w (a : List Variable) (b : List Variable) (Q : Bool → Prop) (H : laws_eqVariableS a b Q) (w : World) {vx : Value} {hx : PH} (r : RS hx vx a) (ex : Sub hx w) {vx2 : Value} {hx3 : PH} (r4 : RS hx3 vx2 b) (ex5 : Sub hx3 w) :
  CallsTo Try.prog 15 #[vx, vx2] w fun v w' => ∃ r0, Q r0 ∧ v = .bool r0 ∧ Ext w w' := by
 obtain ⟨a1, c, rfl⟩ := r.shape
 obtain ⟨a6, c7, rfl⟩ := r4.shape
 refine enter (args := [sl a1 a c, sl a6 b c7]) 27 Try.func15 rfl rfl rfl ?_
 refine W_forget [(0, sl a1 a c), (1, sl a6 b c7)] ⟨rfl, rfl, trivial⟩ fun ρ => ?_
 have X := But.refl emp w
 refine W_seq ?_
 refine W_region ?_
 refine LP_ev ok 0 [(4, .bool false)] 1 rfl rfl ?_
 refine LP_end _ rfl ?_
 refine W_seq ?_
 refine W_seq ?_
 refine W_region ?_
 refine LP_ev ok 0 [(6, sl a1 a c), (7, I (ln a)), (8, sl a6 b c7), (9, I (ln b)), (10, .bool ((ln a) != (ln b)))] 5 rfl rfl ?_
 refine LP_end _ rfl ?_
 refine W_cond ((ln a) != (ln b)) rfl (fun hc => ?_) (fun hc => ?_)
 ·have H := H.1 hc
  refine W_seq ?_
  refine W_region ?_
  refine LP_ev ok 0 [(4, .bool false)] 1 rfl rfl ?_
  refine LP_end _ rfl ?_
  refine W_ret ?_
  exact ⟨_, Ret_of [.bool false] ⟨⟨rfl, rfl⟩, trivial⟩, _, H, rfl, X.ext⟩
 have H := H.2 hc
 refine W_skip ?_
 refine W_seq ?_
 refine W_seq ?_
 refine W_region ?_
 refine LP_ev ok 0 [(5, I 0)] 1 rfl rfl ?_
 refine LP_end _ rfl ?_
 refine W_block ?_
 obtain ⟨J, m, Hx, H⟩ := H
 refine W_loop (S := Int) (fun s ρ' w' => J s ∧ ∃ (ρ : Env), ρ' = setAll [(0, sl a1 a c), (1, sl a6 b c7), (5, I s)] ρ ∧ But emp w w' ∧ Sub hx w' ∧ Sub hx3 w') (fun s => m s) 0 ⟨Hx, _, env_eq ⟨rfl, rfl, rfl, trivial⟩, X, ex, ex5⟩ ?_
 rintro i _ wx ⟨Hi, ρ, rfl, X10, ex8, ex9⟩
 have H := H i Hi
 refine W_seq ?_
 refine W_seq ?_
 refine W_region ?_
 refine LP_ev ok 0 [(11, I i), (12, sl a1 a c), (13, I (ln a)), (14, .bool (decide (i < (ln a))))] 4 rfl rfl ?_
 refine LP_end _ rfl ?_
 refine W_cond (decide (i < (ln a))) rfl (fun hc11 => ?_) (fun hc11 => ?_)
 ·have H := H.1 hc11
  refine W_skip ?_
  refine W_seq ?_
  refine W_block ?_
  refine W_seq ?_
  refine W_quiet mix (by kernel_rfl) ?_
  refine QP_ev ok 0 [(17, sl a1 a c), (18, I i)] 2 rfl rfl ?_
  obtain ⟨x, hi, hx12, H⟩ := H
  refine QP_index 2 rfl rfl rfl Try.underlying34 ti_66 rfl rfl r hi hx12 fun a13 cs r14 d => ?_
  refine QP_load 3 rfl rfl rfl ti_66 ag_66 rfl r14 d ex8 fun vx15 r16 => ?_
  obtain rfl := Variable_rv r16
  refine QP_ev ok 4 [(21, sl a6 b c7), (22, I i)] 6 rfl rfl ?_
  obtain ⟨x17, hi18, hx19, H⟩ := H
  refine QP_index 6 rfl rfl rfl Try.underlying34 ti_66 rfl rfl r4 hi18 hx19 fun a20 cs21 r22 d23 => ?_
  refine QP_load 7 rfl rfl rfl ti_66 ag_66 rfl r22 d23 ex9 fun vx24 r25 => ?_
  obtain rfl := Variable_rv r25
  obtain ⟨r26, Hd, H⟩ := H
  refine QP_call (.bool r26) 8 rfl rfl rfl cal_38 rfl (fun wx27 x28 => (laws_eqVariable_w _ _ _ Hd wx27 ).mono ?_) ?_
  ·rintro _ _ ⟨_, rfl, rfl, x⟩; exact ⟨rfl, x⟩
  refine QP_ev ok 9 [(26, .bool (!r26))] 10 rfl rfl ?_
  refine QP_end _ rfl fun wx29 x30 => ?_
  refine W_cond (!r26) rfl (fun hc31 => ?_) (fun hc31 => ?_)
  ·have H := H.1 hc31
   refine W_seq ?_
   refine W_region ?_
   refine LP_ev ok 0 [(4, .bool false)] 1 rfl rfl ?_
   refine LP_end _ rfl ?_
   refine W_ret ?_
   have X32 := (X10.stepx x30)
   exact ⟨_, Ret_of [.bool false] ⟨⟨rfl, rfl⟩, trivial⟩, _, H, rfl, X32.ext⟩
  have H := H.2 hc31
  refine W_skip ?_
  refine W_region ?_
  refine LP_ev ok 0 [(15, I i), (16, I (wr (i + 1))), (5, I (wr (i + 1)))] 3 rfl rfl ?_
  refine LP_end _ rfl ?_
  have X33 := (X10.stepx x30)
  have ex34 := (ex8.ext x30)
  have ex35 := (ex9.ext x30)
  exact ⟨wr (i + 1), ⟨H.1, _, env_eq ⟨rfl, rfl, rfl, trivial⟩, X33, ex34, ex35⟩, H.2⟩
 have H := H.2 hc11
 refine W_exit ?_
 refine (if_pos rfl).mpr ?_
 refine W_seq ?_
 refine W_region ?_
 refine LP_ev ok 0 [(4, .bool true)] 1 rfl rfl ?_
 refine LP_end _ rfl ?_
 refine W_ret ?_
 exact ⟨_, Ret_of [.bool true] ⟨⟨rfl, rfl⟩, trivial⟩, _, H, rfl, X10.ext⟩

theorem laws_eqTable_w (a : Table) (b : Table) (Q : Bool → Prop) (H : laws_eqTable a b Q) (w : World) {vx : Value} {hx : PH} (r : RS hx vx a.Vars) (ex : Sub hx w) {vx2 : Value} {hx3 : PH} (r4 : RS hx3 vx2 a.Where) (ex5 : Sub hx3 w) {vx8 : Value} {hx9 : PH} (r10 : RS hx9 vx8 b.Vars) (ex11 : Sub hx9 w) {vx14 : Value} {hx15 : PH} (r16 : RS hx15 vx14 b.Where) (ex17 : Sub hx15 w) :
  CallsTo Try.prog 23 #[.agg #[I a.Level, vx, vx2, I a.Sum], .agg #[I b.Level, vx8, vx14, I b.Sum]] w fun v w' => ∃ r0, Q r0 ∧ v = .bool r0 ∧ Ext w w' := by
 obtain ⟨a1, c, rfl⟩ := r.shape
 obtain ⟨a6, c7, rfl⟩ := r4.shape
 obtain ⟨a12, c13, rfl⟩ := r10.shape
 obtain ⟨a18, c19, rfl⟩ := r16.shape
 refine enter (args := [.agg #[I a.Level, sl a1 a.Vars c, sl a6 a.Where c7, I a.Sum], .agg #[I b.Level, sl a12 b.Vars c13, sl a18 b.Where c19, I b.Sum]]) 27 Try.func23 rfl rfl rfl ?_
 refine W_forget [(0, .agg #[I a.Level, sl a1 a.Vars c, sl a6 a.Where c7, I a.Sum]), (1, .agg #[I b.Level, sl a12 b.Vars c13, sl a18 b.Where c19, I b.Sum])] ⟨rfl, rfl, trivial⟩ fun ρ => ?_
 have X := But.refl emp w
 refine W_seq ?_
 refine W_region ?_
 refine LP_box 0 (cs := [I a.Level, sl a1 a.Vars c, sl a6 a.Where c7, I a.Sum]) rfl rfl rfl rfl rfl fun b20 wx x ex21 f => ?_
 refine LP_box 1 (cs := [I b.Level, sl a12 b.Vars c13, sl a18 b.Where c19, I b.Sum]) rfl rfl rfl rfl rfl fun b22 wx23 x24 ex25 f26 => ?_
 refine LP_ev ok 2 [(4, .bool false)] 3 rfl rfl ?_
 refine LP_end _ rfl ?_
 refine W_seq ?_
 refine W_seq ?_
 refine W_region ?_
 refine LP_ev ok 0 [(5, pb b20)] 1 rfl rfl ?_
 have ex27 := (ex21.ext x24)
 refine LP_ldbox 1 (v := I a.Level) rfl rfl rfl ti_3 ag_3 (fun _ => rfl) rfl ex27 rfl rfl ?_
 refine LP_ev ok 2 [(7, pb b22)] 3 rfl rfl ?_
 refine LP_ldbox 3 (v := I b.Level) rfl rfl rfl ti_3 ag_3 (fun _ => rfl) rfl ex25 rfl rfl ?_
 refine LP_ev ok 4 [(9, .bool (a.Level != b.Level))] 5 rfl rfl ?_
 refine LP_end _ rfl ?_
 refine W_cond (a.Level != b.Level) rfl (fun hc => ?_) (fun hc => ?_)
 ·have H := H.1 hc
  refine W_seq ?_
  refine W_region ?_
  refine LP_ev ok 0 [(4, .bool false)] 1 rfl rfl ?_
  refine LP_end _ rfl ?_
  refine W_ret ?_
  have X28 := ((X.stepx x).stepx x24)
  exact ⟨_, Ret_of [.bool false] ⟨⟨rfl, rfl⟩, trivial⟩, _, H, rfl, X28.ext⟩
 have H := H.2 hc
 refine W_skip ?_
 refine W_seq ?_
 refine W_seq ?_
 refine W_region ?_
 refine LP_ev ok 0 [(10, .pointer (some ⟨b20, 1, none⟩))] 1 rfl rfl ?_
 refine LP_ldbox 1 (v := sl a1 a.Vars c) rfl rfl rfl ti_22 ag_22 (fun _ => rfl) rfl ex27 rfl rfl ?_
 refine LP_ev ok 2 [(12, .pointer (some ⟨b22, 1, none⟩))] 3 rfl rfl ?_
 refine LP_ldbox 3 (v := sl a12 b.Vars c13) rfl rfl rfl ti_22 ag_22 (fun _ => rfl) rfl ex25 rfl rfl ?_
 have ex30 := ((ex.ext x).ext x24)
 have ex31 := ((ex11.ext x).ext x24)
 refine LP_call 4 rfl rfl rfl cal_37 rfl (laws_eqIntS_w _ _ _ H wx23 r ex30 r10 ex31) ?_
 rintro _ wx32 ⟨r29, H, rfl, x33⟩
 refine LP_ev ok 5 [(15, .bool (!r29))] 6 rfl rfl ?_
 refine LP_end _ rfl ?_
 refine W_cond (!r29) rfl (fun hc34 => ?_) (fun hc34 => ?_)
 ·have H := H.1 hc34
  refine W_seq ?_
  refine W_region ?_
  refine LP_ev ok 0 [(4, .bool false)] 1 rfl rfl ?_
  refine LP_end _ rfl ?_
  refine W_ret ?_
  have X35 := (((X.stepx x).stepx x24).stepx x33)
  exact ⟨_, Ret_of [.bool false] ⟨⟨rfl, rfl⟩, trivial⟩, _, H, rfl, X35.ext⟩
 have H := H.2 hc34
 refine W_skip ?_
 refine W_seq ?_
 refine W_seq ?_
 refine W_region ?_
 refine LP_ev ok 0 [(16, .pointer (some ⟨b20, 2, none⟩))] 1 rfl rfl ?_
 have ex36 := (ex27.ext x33)
 refine LP_ldbox 1 (v := sl a6 a.Where c7) rfl rfl rfl ti_22 ag_22 (fun _ => rfl) rfl ex36 rfl rfl ?_
 refine LP_ev ok 2 [(18, .pointer (some ⟨b22, 2, none⟩))] 3 rfl rfl ?_
 have ex37 := (ex25.ext x33)
 refine LP_ldbox 3 (v := sl a18 b.Where c19) rfl rfl rfl ti_22 ag_22 (fun _ => rfl) rfl ex37 rfl rfl ?_
 have ex39 := (((ex5.ext x).ext x24).ext x33)
 have ex40 := (((ex17.ext x).ext x24).ext x33)
 refine LP_call 4 rfl rfl rfl cal_37 rfl (laws_eqIntS_w _ _ _ H wx32 r4 ex39 r16 ex40) ?_
 rintro _ wx41 ⟨r38, H, rfl, x42⟩
 refine LP_ev ok 5 [(21, .bool (!r38))] 6 rfl rfl ?_
 refine LP_end _ rfl ?_
 refine W_cond (!r38) rfl (fun hc43 => ?_) (fun hc43 => ?_)
 ·have H := H.1 hc43
  refine W_seq ?_
  refine W_region ?_
  refine LP_ev ok 0 [(4, .bool false)] 1 rfl rfl ?_
  refine LP_end _ rfl ?_
  refine W_ret ?_
  have X44 := ((((X.stepx x).stepx x24).stepx x33).stepx x42)
  exact ⟨_, Ret_of [.bool false] ⟨⟨rfl, rfl⟩, trivial⟩, _, H, rfl, X44.ext⟩
 have H := H.2 hc43
 refine W_skip ?_
 refine W_seq ?_
 refine W_seq ?_
 refine W_region ?_
 refine LP_ev ok 0 [(22, .pointer (some ⟨b20, 3, none⟩))] 1 rfl rfl ?_
 have ex45 := (ex36.ext x42)
 refine LP_ldbox 1 (v := I a.Sum) rfl rfl rfl ti_3 ag_3 (fun _ => rfl) rfl ex45 rfl rfl ?_
 refine LP_ev ok 2 [(24, .pointer (some ⟨b22, 3, none⟩))] 3 rfl rfl ?_
 have ex46 := (ex37.ext x42)
 refine LP_ldbox 3 (v := I b.Sum) rfl rfl rfl ti_3 ag_3 (fun _ => rfl) rfl ex46 rfl rfl ?_
 refine LP_ev ok 4 [(26, .bool (a.Sum != b.Sum))] 5 rfl rfl ?_
 refine LP_end _ rfl ?_
 try refine W_forget [(26, .bool (a.Sum != b.Sum))] ⟨rfl, trivial⟩ fun ρ => ?_
 refine W_cond (a.Sum != b.Sum) rfl (fun hc47 => ?_) (fun hc47 => ?_)
 ·have H := H.1 hc47
  refine W_seq ?_
  refine W_region ?_
  refine LP_ev ok 0 [(4, .bool false)] 1 rfl rfl ?_
  refine LP_end _ rfl ?_
  refine W_ret ?_
  have X48 := ((((X.stepx x).stepx x24).stepx x33).stepx x42)
  exact ⟨_, Ret_of [.bool false] ⟨⟨rfl, rfl⟩, trivial⟩, _, H, rfl, X48.ext⟩
 have H := H.2 hc47
 refine W_skip ?_
 refine W_seq ?_
 refine W_region ?_
 refine LP_ev ok 0 [(4, .bool true)] 1 rfl rfl ?_
 refine LP_end _ rfl ?_
 refine W_ret ?_
 have X49 := ((((X.stepx x).stepx x24).stepx x33).stepx x42)
 exact ⟨_, Ret_of [.bool true] ⟨⟨rfl, rfl⟩, trivial⟩, _, H, rfl, X49.ext⟩

theorem laws_eqPublished_w (a : Published) (b : Published) (Q : Bool → Prop) (H : laws_eqPublished a b Q) (w : World) {vx : Value} {hx : PH} (r : RS hx vx a.Table.Vars) (ex : Sub hx w) {vx2 : Value} {hx3 : PH} (r4 : RS hx3 vx2 a.Table.Where) (ex5 : Sub hx3 w) {vx8 : Value} {hx9 : PH} (r10 : RS hx9 vx8 a.Cells) (ex11 : Sub hx9 w) {vx14 : Value} {hx15 : PH} (r16 : RS hx15 vx14 b.Table.Vars) (ex17 : Sub hx15 w) {vx20 : Value} {hx21 : PH} (r22 : RS hx21 vx20 b.Table.Where) (ex23 : Sub hx21 w) {vx26 : Value} {hx27 : PH} (r28 : RS hx27 vx26 b.Cells) (ex29 : Sub hx27 w) :
  CallsTo Try.prog 39 #[.agg #[I a.Table.Level, vx, vx2, I a.Table.Sum, vx8], .agg #[I b.Table.Level, vx14, vx20, I b.Table.Sum, vx26]] w fun v w' => ∃ r0, Q r0 ∧ v = .bool r0 ∧ Ext w w' := by
 obtain ⟨a1, c, rfl⟩ := r.shape
 obtain ⟨a6, c7, rfl⟩ := r4.shape
 obtain ⟨a12, c13, rfl⟩ := r10.shape
 obtain ⟨a18, c19, rfl⟩ := r16.shape
 obtain ⟨a24, c25, rfl⟩ := r22.shape
 obtain ⟨a30, c31, rfl⟩ := r28.shape
 refine enter (args := [.agg #[I a.Table.Level, sl a1 a.Table.Vars c, sl a6 a.Table.Where c7, I a.Table.Sum, sl a12 a.Cells c13], .agg #[I b.Table.Level, sl a18 b.Table.Vars c19, sl a24 b.Table.Where c25, I b.Table.Sum, sl a30 b.Cells c31]]) 17 Try.func39 rfl rfl rfl ?_
 refine W_forget [(0, .agg #[I a.Table.Level, sl a1 a.Table.Vars c, sl a6 a.Table.Where c7, I a.Table.Sum, sl a12 a.Cells c13]), (1, .agg #[I b.Table.Level, sl a18 b.Table.Vars c19, sl a24 b.Table.Where c25, I b.Table.Sum, sl a30 b.Cells c31])] ⟨rfl, rfl, trivial⟩ fun ρ => ?_
 have X := But.refl emp w
 refine W_seq ?_
 refine W_region ?_
 refine LP_box 0 (cs := [I a.Table.Level, sl a1 a.Table.Vars c, sl a6 a.Table.Where c7, I a.Table.Sum, sl a12 a.Cells c13]) rfl rfl rfl rfl rfl fun b32 wx x ex33 f => ?_
 refine LP_box 1 (cs := [I b.Table.Level, sl a18 b.Table.Vars c19, sl a24 b.Table.Where c25, I b.Table.Sum, sl a30 b.Cells c31]) rfl rfl rfl rfl rfl fun b34 wx35 x36 ex37 f38 => ?_
 refine LP_ev ok 2 [(4, .bool false)] 3 rfl rfl ?_
 refine LP_end _ rfl ?_
 refine W_seq ?_
 refine W_seq ?_
 refine W_region ?_
 refine LP_ev ok 0 [(5, pb b32)] 1 rfl rfl ?_
 have ex39 := (ex33.ext x36)
 refine LP_ldbox 1 (v := .agg #[I a.Table.Level, sl a1 a.Table.Vars c, sl a6 a.Table.Where c7, I a.Table.Sum]) rfl rfl rfl ti_50 ag_50 (fun h => by cases h) rfl ex39 rfl rfl ?_
 refine LP_ev ok 2 [(7, pb b34)] 3 rfl rfl ?_
 refine LP_ldbox 3 (v := .agg #[I b.Table.Level, sl a18 b.Table.Vars c19, sl a24 b.Table.Where c25, I b.Table.Sum]) rfl rfl rfl ti_50 ag_50 (fun h => by cases h) rfl ex37 rfl rfl ?_
 have ex41 := ((ex.ext x).ext x36)
 have ex42 := ((ex5.ext x).ext x36)
 have ex43 := ((ex17.ext x).ext x36)
 have ex44 := ((ex23.ext x).ext x36)
 refine LP_call 4 rfl rfl rfl cal_23 rfl (laws_eqTable_w _ _ _ H wx35 r ex41 r4 ex42 r16 ex43 r22 ex44) ?_
 rintro _ wx45 ⟨r40, H, rfl, x46⟩
 refine LP_ev ok 5 [(10, .bool (!r40))] 6 rfl rfl ?_
 refine LP_end _ rfl ?_
 refine W_cond (!r40) rfl (fun hc => ?_) (fun hc => ?_)
 ·have H := H.1 hc
  refine W_seq ?_
  refine W_region ?_
  refine LP_ev ok 0 [(4, .bool false)] 1 rfl rfl ?_
  refine LP_end _ rfl ?_
  refine W_ret ?_
  have X47 := (((X.stepx x).stepx x36).stepx x46)
  exact ⟨_, Ret_of [.bool false] ⟨⟨rfl, rfl⟩, trivial⟩, _, H, rfl, X47.ext⟩
 have H := H.2 hc
 refine W_skip ?_
 refine W_seq ?_
 refine W_seq ?_
 refine W_region ?_
 refine LP_ev ok 0 [(11, .pointer (some ⟨b32, 4, none⟩))] 1 rfl rfl ?_
 have ex48 := (ex39.ext x46)
 refine LP_ldbox 1 (v := sl a12 a.Cells c13) rfl rfl rfl ti_22 ag_22 (fun _ => rfl) rfl ex48 rfl rfl ?_
 refine LP_ev ok 2 [(13, .pointer (some ⟨b34, 4, none⟩))] 3 rfl rfl ?_
 have ex49 := (ex37.ext x46)
 refine LP_ldbox 3 (v := sl a30 b.Cells c31) rfl rfl rfl ti_22 ag_22 (fun _ => rfl) rfl ex49 rfl rfl ?_
 have ex51 := (((ex11.ext x).ext x36).ext x46)
 have ex52 := (((ex29.ext x).ext x36).ext x46)
 refine LP_call 4 rfl rfl rfl cal_37 rfl (laws_eqIntS_w _ _ _ H wx45 r10 ex51 r28 ex52) ?_
 rintro _ wx53 ⟨r50, H, rfl, x54⟩
 refine LP_ev ok 5 [(16, .bool (!r50))] 6 rfl rfl ?_
 refine LP_end _ rfl ?_
 refine W_cond (!r50) rfl (fun hc55 => ?_) (fun hc55 => ?_)
 ·have H := H.1 hc55
  refine W_seq ?_
  refine W_region ?_
  refine LP_ev ok 0 [(4, .bool false)] 1 rfl rfl ?_
  refine LP_end _ rfl ?_
  refine W_ret ?_
  have X56 := ((((X.stepx x).stepx x36).stepx x46).stepx x54)
  exact ⟨_, Ret_of [.bool false] ⟨⟨rfl, rfl⟩, trivial⟩, _, H, rfl, X56.ext⟩
 have H := H.2 hc55
 refine W_skip ?_
 refine W_seq ?_
 refine W_region ?_
 refine LP_ev ok 0 [(4, .bool true)] 1 rfl rfl ?_
 refine LP_end _ rfl ?_
 refine W_ret ?_
 have X57 := ((((X.stepx x).stepx x36).stepx x46).stepx x54)
 exact ⟨_, Ret_of [.bool true] ⟨⟨rfl, rfl⟩, trivial⟩, _, H, rfl, X57.ext⟩

theorem laws_eqPublishedS_w (a : List Published) (b : List Published) (Q : Bool → Prop) (H : laws_eqPublishedS a b Q) (w : World) {vx : Value} {hx : PH} (r : RS hx vx a) (ex : Sub hx w) {vx2 : Value} {hx3 : PH} (r4 : RS hx3 vx2 b) (ex5 : Sub hx3 w) :
  CallsTo Try.prog 16 #[vx, vx2] w fun v w' => ∃ r0, Q r0 ∧ v = .bool r0 ∧ Ext w w' := by
 obtain ⟨a1, c, rfl⟩ := r.shape
 obtain ⟨a6, c7, rfl⟩ := r4.shape
 refine enter (args := [sl a1 a c, sl a6 b c7]) 27 Try.func16 rfl rfl rfl ?_
 refine W_forget [(0, sl a1 a c), (1, sl a6 b c7)] ⟨rfl, rfl, trivial⟩ fun ρ => ?_
 have X := But.refl emp w
 refine W_seq ?_
 refine W_region ?_
 refine LP_ev ok 0 [(4, .bool false)] 1 rfl rfl ?_
 refine LP_end _ rfl ?_
 refine W_seq ?_
 refine W_seq ?_
 refine W_region ?_
 refine LP_ev ok 0 [(6, sl a1 a c), (7, I (ln a)), (8, sl a6 b c7), (9, I (ln b)), (10, .bool ((ln a) != (ln b)))] 5 rfl rfl ?_
 refine LP_end _ rfl ?_
 refine W_cond ((ln a) != (ln b)) rfl (fun hc => ?_) (fun hc => ?_)
 ·have H := H.1 hc
  refine W_seq ?_
  refine W_region ?_
  refine LP_ev ok 0 [(4, .bool false)] 1 rfl rfl ?_
  refine LP_end _ rfl ?_
  refine W_ret ?_
  exact ⟨_, Ret_of [.bool false] ⟨⟨rfl, rfl⟩, trivial⟩, _, H, rfl, X.ext⟩
 have H := H.2 hc
 refine W_skip ?_
 refine W_seq ?_
 refine W_seq ?_
 refine W_region ?_
 refine LP_ev ok 0 [(5, I 0)] 1 rfl rfl ?_
 refine LP_end _ rfl ?_
 refine W_block ?_
 obtain ⟨J, m, Hx, H⟩ := H
 refine W_loop (S := Int) (fun s ρ' w' => J s ∧ ∃ (ρ : Env), ρ' = setAll [(0, sl a1 a c), (1, sl a6 b c7), (5, I s)] ρ ∧ But emp w w' ∧ Sub hx w' ∧ Sub hx3 w') (fun s => m s) 0 ⟨Hx, _, env_eq ⟨rfl, rfl, rfl, trivial⟩, X, ex, ex5⟩ ?_
 rintro i _ wx ⟨Hi, ρ, rfl, X10, ex8, ex9⟩
 have H := H i Hi
 refine W_seq ?_
 refine W_seq ?_
 refine W_region ?_
 refine LP_ev ok 0 [(11, I i), (12, sl a1 a c), (13, I (ln a)), (14, .bool (decide (i < (ln a))))] 4 rfl rfl ?_
 refine LP_end _ rfl ?_
 refine W_cond (decide (i < (ln a))) rfl (fun hc11 => ?_) (fun hc11 => ?_)
 ·have H := H.1 hc11
  refine W_skip ?_
  refine W_seq ?_
  refine W_block ?_
  refine W_seq ?_
  refine W_quiet mix (by kernel_rfl) ?_
  refine QP_ev ok 0 [(17, sl a1 a c), (18, I i)] 2 rfl rfl ?_
  obtain ⟨x, hi, hx12, H⟩ := H
  refine QP_index 2 rfl rfl rfl Try.underlying36 ti_69 rfl rfl r hi hx12 fun a13 cs r14 d => ?_
  have d15 := d
  obtain ⟨u, u17, u19, rfl, r16, r18, r20⟩ := Published_rd d15
  obtain ⟨a21, c22, rfl⟩ := r16.shape
  obtain ⟨a23, c24, rfl⟩ := r18.shape
  obtain ⟨a25, c26, rfl⟩ := r20.shape
  refine QP_load 3 rfl rfl rfl ti_69 ag_69 rfl r14 d ex8 fun vx27 r28 => ?_
  obtain ⟨u29, u31, u33, rfl, r30, r32, r34⟩ := Published_rv r28
  obtain ⟨a35, c36, rfl⟩ := r30.shape
  obtain ⟨a37, c38, rfl⟩ := r32.shape
  obtain ⟨a39, c40, rfl⟩ := r34.shape
  refine QP_ev ok 4 [(21, sl a6 b c7), (22, I i)] 6 rfl rfl ?_
  obtain ⟨x41, hi42, hx43, H⟩ := H
  refine QP_index 6 rfl rfl rfl Try.underlying36 ti_69 rfl rfl r4 hi42 hx43 fun a44 cs45 r46 d47 => ?_
  have d48 := d47
  obtain ⟨u49, u51, u53, rfl, r50, r52, r54⟩ := Published_rd d48
  obtain ⟨a55, c56, rfl⟩ := r50.shape
  obtain ⟨a57, c58, rfl⟩ := r52.shape
  obtain ⟨a59, c60, rfl⟩ := r54.shape
  refine QP_load 7 rfl rfl rfl ti_69 ag_69 rfl r46 d47 ex9 fun vx61 r62 => ?_
  obtain ⟨u63, u65, u67, rfl, r64, r66, r68⟩ := Published_rv r62
  obtain ⟨a69, c70, rfl⟩ := r64.shape
  obtain ⟨a71, c72, rfl⟩ := r66.shape
  obtain ⟨a73, c74, rfl⟩ := r68.shape
  obtain ⟨r75, Hd, H⟩ := H
  refine QP_call (.bool r75) 8 rfl rfl rfl cal_39 rfl (fun wx76 x77 => (laws_eqPublished_w _ _ _ Hd wx76 r30 (ex8.ext x77) r32 (ex8.ext x77) r34 (ex8.ext x77) r64 (ex9.ext x77) r66 (ex9.ext x77) r68 (ex9.ext x77)).mono ?_) ?_
  ·rintro _ _ ⟨_, rfl, rfl, x⟩; exact ⟨rfl, x⟩
  refine QP_ev ok 9 [(26, .bool (!r75))] 10 rfl rfl ?_
  refine QP_end _ rfl fun wx78 x79 => ?_
  refine W_cond (!r75) rfl (fun hc80 => ?_) (fun hc80 => ?_)
  ·have H := H.1 hc80
   refine W_seq ?_
   refine W_region ?_
   refine LP_ev ok 0 [(4, .bool false)] 1 rfl rfl ?_
   refine LP_end _ rfl ?_
   refine W_ret ?_
   have X81 := (X10.stepx x79)
   exact ⟨_, Ret_of [.bool false] ⟨⟨rfl, rfl⟩, trivial⟩, _, H, rfl, X81.ext⟩
  have H := H.2 hc80
  refine W_skip ?_
  refine W_region ?_
  refine LP_ev ok 0 [(15, I i), (16, I (wr (i + 1))), (5, I (wr (i + 1)))] 3 rfl rfl ?_
  refine LP_end _ rfl ?_
  have X82 := (X10.stepx x79)
  have ex83 := (ex8.ext x79)
  have ex84 := (ex9.ext x79)
  exact ⟨wr (i + 1), ⟨H.1, _, env_eq ⟨rfl, rfl, rfl, trivial⟩, X82, ex83, ex84⟩, H.2⟩
 have H := H.2 hc11
 refine W_exit ?_
 refine (if_pos rfl).mpr ?_
 refine W_seq ?_
 refine W_region ?_
 refine LP_ev ok 0 [(4, .bool true)] 1 rfl rfl ?_
 refine LP_end _ rfl ?_
 refine W_ret ?_
 exact ⟨_, Ret_of [.bool true] ⟨⟨rfl, rfl⟩, trivial⟩, _, H, rfl, X10.ext⟩

theorem laws_FnExactAnswerRange_w (aG : Geo) (aS : List Variable) (aPubs : List Published) (aN : Int) (aT : Table) (aI : Int) (Q : Bool → Prop) (H : laws_FnExactAnswerRange aG aS aPubs aN aT aI Q) (w : World) {vx : Value} {hx : PH} (r : RS hx vx aG.Parents) (ex : Sub hx w) {vx1 : Value} {hx2 : PH} (r3 : RS hx2 vx1 aS) (ex4 : Sub hx2 w) {vx7 : Value} {hx8 : PH} (r9 : RS hx8 vx7 aPubs) (ex10 : Sub hx8 w) {vx13 : Value} {hx14 : PH} (r15 : RS hx14 vx13 aT.Vars) (ex16 : Sub hx14 w) {vx19 : Value} {hx20 : PH} (r21 : RS hx20 vx19 aT.Where) (ex22 : Sub hx20 w) :
  CallsTo Try.prog 5 #[.agg #[vx], vx1, vx7, I aN, .agg #[I aT.Level, vx13, vx19, I aT.Sum], I aI] w fun v w' => ∃ r0, Q r0 ∧ v = .bool r0 ∧ Ext w w' := by
 obtain ⟨a, c, rfl⟩ := r.shape
 obtain ⟨a5, c6, rfl⟩ := r3.shape
 obtain ⟨a11, c12, rfl⟩ := r9.shape
 obtain ⟨a17, c18, rfl⟩ := r15.shape
 obtain ⟨a23, c24, rfl⟩ := r21.shape
 refine enter (args := [.agg #[sl a aG.Parents c], sl a5 aS c6, sl a11 aPubs c12, I aN, .agg #[I aT.Level, sl a17 aT.Vars c18, sl a23 aT.Where c24, I aT.Sum], I aI]) 111 Try.func5 rfl rfl rfl ?_
 refine W_forget [(0, .agg #[sl a aG.Parents c]), (1, sl a5 aS c6), (2, sl a11 aPubs c12), (3, I aN), (4, .agg #[I aT.Level, sl a17 aT.Vars c18, sl a23 aT.Where c24, I aT.Sum]), (5, I aI)] ⟨rfl, rfl, rfl, rfl, rfl, rfl, trivial⟩ fun ρ => ?_
 have X := But.refl emp w
 refine W_seq ?_
 refine W_region ?_
 refine LP_box 0 (cs := [sl a aG.Parents c]) rfl rfl rfl rfl rfl fun b wx x ex25 f => ?_
 refine LP_box 1 (cs := [I aT.Level, sl a17 aT.Vars c18, sl a23 aT.Where c24, I aT.Sum]) rfl rfl rfl rfl rfl fun b26 wx27 x28 ex29 f30 => ?_
 refine LP_ev ok 2 [(12, .bool false)] 3 rfl rfl ?_
 refine LP_end _ rfl ?_
 refine W_seq ?_
 refine W_region ?_
 refine LP_ev ok 0 [(13, I 1048576)] 1 rfl rfl ?_
 refine LP_end _ rfl ?_
 refine W_seq ?_
 refine W_region ?_
 have ex31 := (ex25.ext x28)
 refine LP_ldbox 0 (v := .agg #[sl a aG.Parents c]) rfl rfl rfl ti_24 ag_24 (fun h => by cases h) rfl ex31 rfl rfl ?_
 refine LP_ev ok 1 [(25, I 1048576)] 2 rfl rfl ?_
 have ex33 := ((ex.ext x).ext x28)
 refine LP_call 2 rfl rfl rfl cal_6 rfl (laws_szGeo_w _ _ _ H wx27 r ex33) ?_
 rintro _ wx34 ⟨r32, H, rfl, x35⟩
 refine LP_ev ok 3 [(13, I r32)] 4 rfl rfl ?_
 refine LP_end _ rfl ?_
 refine W_seq ?_
 refine W_seq ?_
 refine W_region ?_
 refine LP_ev ok 0 [(27, I r32), (28, .bool (decide (r32 < 0)))] 2 rfl rfl ?_
 refine LP_end _ rfl ?_
 refine W_cond (decide (r32 < 0)) rfl (fun hc => ?_) (fun hc => ?_)
 ·have H := H.1 hc
  refine W_seq ?_
  refine W_region ?_
  refine LP_ev ok 0 [(12, .bool true)] 1 rfl rfl ?_
  refine LP_end _ rfl ?_
  refine W_ret ?_
  have X36 := (((X.stepx x).stepx x28).stepx x35)
  exact ⟨_, Ret_of [.bool true] ⟨⟨rfl, rfl⟩, trivial⟩, _, H, rfl, X36.ext⟩
 have H := H.2 hc
 refine W_skip ?_
 refine W_seq ?_
 refine W_region ?_
 refine LP_ev ok 0 [(29, sl a5 aS c6), (30, I r32)] 2 rfl rfl ?_
 have ex38 := (((ex4.ext x).ext x28).ext x35)
 refine LP_call 2 rfl rfl rfl cal_7 rfl (laws_szVariableS_w _ _ _ H wx34 r3 ex38) ?_
 rintro _ wx39 ⟨r37, H, rfl, x40⟩
 refine LP_ev ok 3 [(13, I r37)] 4 rfl rfl ?_
 refine LP_end _ rfl ?_
 refine W_seq ?_
 refine W_seq ?_
 refine W_region ?_
 refine LP_ev ok 0 [(32, I r37), (33, .bool (decide (r37 < 0)))] 2 rfl rfl ?_
 refine LP_end _ rfl ?_
 refine W_cond (decide (r37 < 0)) rfl (fun hc41 => ?_) (fun hc41 => ?_)
 ·have H := H.1 hc41
  refine W_seq ?_
  refine W_region ?_
  refine LP_ev ok 0 [(12, .bool true)] 1 rfl rfl ?_
  refine LP_end _ rfl ?_
  refine W_ret ?_
  have X42 := ((((X.stepx x).stepx x28).stepx x35).stepx x40)
  exact ⟨_, Ret_of [.bool true] ⟨⟨rfl, rfl⟩, trivial⟩, _, H, rfl, X42.ext⟩
 have H := H.2 hc41
 refine W_skip ?_
 refine W_seq ?_
 refine W_region ?_
 refine LP_ev ok 0 [(34, sl a11 aPubs c12), (35, I r37)] 2 rfl rfl ?_
 have ex44 := ((((ex10.ext x).ext x28).ext x35).ext x40)
 refine LP_call 2 rfl rfl rfl cal_8 rfl (laws_szPublishedS_w _ _ _ H wx39 r9 ex44) ?_
 rintro _ wx45 ⟨r43, H, rfl, x46⟩
 refine LP_ev ok 3 [(13, I r43)] 4 rfl rfl ?_
 refine LP_end _ rfl ?_
 refine W_seq ?_
 refine W_seq ?_
 refine W_region ?_
 refine LP_ev ok 0 [(37, I r43), (38, .bool (decide (r43 < 0)))] 2 rfl rfl ?_
 refine LP_end _ rfl ?_
 refine W_cond (decide (r43 < 0)) rfl (fun hc47 => ?_) (fun hc47 => ?_)
 ·have H := H.1 hc47
  refine W_seq ?_
  refine W_region ?_
  refine LP_ev ok 0 [(12, .bool true)] 1 rfl rfl ?_
  refine LP_end _ rfl ?_
  refine W_ret ?_
  have X48 := (((((X.stepx x).stepx x28).stepx x35).stepx x40).stepx x46)
  exact ⟨_, Ret_of [.bool true] ⟨⟨rfl, rfl⟩, trivial⟩, _, H, rfl, X48.ext⟩
 have H := H.2 hc47
 refine W_skip ?_
 refine W_seq ?_
 refine W_region ?_
 have ex49 := (((ex29.ext x35).ext x40).ext x46)
 refine LP_ldbox 0 (v := .agg #[I aT.Level, sl a17 aT.Vars c18, sl a23 aT.Where c24, I aT.Sum]) rfl rfl rfl ti_46 ag_46 (fun h => by cases h) rfl ex49 rfl rfl ?_
 refine LP_ev ok 1 [(40, I r43)] 2 rfl rfl ?_
 have ex51 := (((((ex16.ext x).ext x28).ext x35).ext x40).ext x46)
 have ex52 := (((((ex22.ext x).ext x28).ext x35).ext x40).ext x46)
 refine LP_call 2 rfl rfl rfl cal_19 rfl (laws_szTable_w _ _ _ H wx45 r15 ex51 r21 ex52) ?_
 rintro _ wx53 ⟨r50, H, rfl, x54⟩
 refine LP_ev ok 3 [(13, I r50)] 4 rfl rfl ?_
 refine LP_end _ rfl ?_
 try refine W_forget [(1, sl a5 aS c6), (2, sl a11 aPubs c12), (3, I aN), (5, I aI), (6, pb b), (10, pb b26), (13, I r50)] ⟨rfl, rfl, rfl, rfl, rfl, rfl, rfl, trivial⟩ fun ρ => ?_
 refine W_seq ?_
 refine W_seq ?_
 refine W_region ?_
 refine LP_ev ok 0 [(42, I r50), (43, .bool (decide (r50 < 0)))] 2 rfl rfl ?_
 refine LP_end _ rfl ?_
 refine W_cond (decide (r50 < 0)) rfl (fun hc55 => ?_) (fun hc55 => ?_)
 ·have H := H.1 hc55
  refine W_seq ?_
  refine W_region ?_
  refine LP_ev ok 0 [(12, .bool true)] 1 rfl rfl ?_
  refine LP_end _ rfl ?_
  refine W_ret ?_
  have X56 := ((((((X.stepx x).stepx x28).stepx x35).stepx x40).stepx x46).stepx x54)
  exact ⟨_, Ret_of [.bool true] ⟨⟨rfl, rfl⟩, trivial⟩, _, H, rfl, X56.ext⟩
 have H := H.2 hc55
 refine W_skip ?_
 refine W_seq ?_
 refine W_open mix fun wx57 x58 => ?_
 refine AP_game 17 [[], [0], [], [0, 1, 2], [], [0, 1, 2, 3, 4], [], [], [0, 1, 2, 3, 4, 5, 7], [], [0, 1, 2, 3, 4, 5, 6, 7, 8, 9], [0, 1, 2, 3, 4, 5, 6, 7, 8, 9, 10], [0, 1, 2, 3, 4, 5, 6, 7, 8, 9, 10, 11], [0, 1, 2, 3, 4, 5, 6, 7, 8, 9, 10, 11], [0, 1, 2, 3, 4, 5, 6, 7, 8, 9, 10, 11], [0, 1, 2, 3, 4, 5, 6, 7, 8, 9, 10, 11, 12], [0, 1, 2, 3, 4, 5, 6, 7, 8, 9, 10, 11, 12, 13, 15], [0, 1, 2, 3, 4, 5, 6, 7, 8, 9, 10, 11, 12, 13, 14, 15, 16]] [[(6, none)], [(45, some 0)], [(1, none)], [(47, some 2)], [(2, none)], [(49, some 4)], [(3, none)], [(10, none)], [(52, some 7)], [(5, none)], [(46, some 1), (48, some 3), (50, some 5), (51, some 6), (53, some 8), (54, some 9)], [(55, some 10)], [(44, some 11)], [(44, some 11)], [(44, some 11)], [(56, some 12)], [(57, some 13)]] [(1, none), (2, none), (3, none), (5, none), (6, none), (10, none), (14, some 15), (15, some 16), (58, some 14)] [(0, false), (2, false), (4, false), (6, false), (7, false), (9, false), (1, true), (3, true), (5, true), (8, true), (10, false), (11, false), (12, false), (13, false), (14, false), (15, false), (16, false)] (by kernel_rfl) (by kernel_rfl) ?_
 have ex59 := (((((ex31.ext x35).ext x40).ext x46).ext x54).ext x58)
 refine GS_r1 [(6, pb b)] (.agg #[sl a aG.Parents c]) rfl rfl (fun _ h => h) (fun _ w e => ex_ldbox rfl ti_24 ag_24 (fun h => by cases h) rfl e rfl rfl) ex59 ?_
 refine GS_ev ok [(1, sl a5 aS c6)] (sl a5 aS c6) rfl rfl (fun _ h => h) (fun _ => rfl) ?_
 refine GS_ev ok [(2, sl a11 aPubs c12)] (sl a11 aPubs c12) rfl rfl (fun _ h => h) (fun _ => rfl) ?_
 refine GS_ev ok [(3, I aN)] (I aN) rfl rfl (fun _ h => h) (fun _ => rfl) ?_
 have ex60 := ((ex49.ext x54).ext x58)
 refine GS_r1 [(10, pb b26)] (.agg #[I aT.Level, sl a17 aT.Vars c18, sl a23 aT.Where c24, I aT.Sum]) rfl rfl (fun _ h => h) (fun _ w e => ex_ldbox rfl ti_46 ag_46 (fun h => by cases h) rfl e rfl rfl) ex60 ?_
 refine GS_ev ok [(5, I aI)] (I aI) rfl rfl (fun _ h => h) (fun _ => rfl) ?_
 refine GS_lp [(45, .agg #[sl a aG.Parents c])] rfl rfl (fun _ h => h) rfl fun ρ wx61 x62 => ?_
 have ex64 := ((((((ex33.ext x35).ext x40).ext x46).ext x54).ext x58).ext x62)
 refine LP_call 0 rfl rfl rfl cal_10 rfl (laws_toGeo_w _ _ H wx61 r ex64) ?_
 rintro _ wx65 ⟨r63, vx67, hx68, H, rfl, x66, o, ex69, f70⟩
 obtain ⟨a71, c72, rfl⟩ := o.shape
 have ex73 := ((ex60.ext x62).ext x66)
 refine LP_gs ⟨⟨.inr ex73, .inl rfl, trivial⟩, ?_⟩
 refine GS_lp [(47, sl a5 aS c6)] rfl rfl (fun _ h => h) rfl fun ρ wx74 x75 => ?_
 have ex77 := (((((((ex38.ext x40).ext x46).ext x54).ext x58).ext x62).ext x66).ext x75)
 refine LP_call 0 rfl rfl rfl cal_11 rfl (laws_toVariableS_w _ _ H wx74 r3 ex77) ?_
 rintro _ wx78 ⟨r76, vx80, hx81, H, rfl, x79, o82, ex83, f84⟩
 obtain ⟨a85, c86, rfl⟩ := o82.shape
 have ex87 := ((ex73.ext x75).ext x79)
 refine LP_gs ⟨⟨.inr ex87, .inl rfl, trivial⟩, ?_⟩
 refine GS_lp [(49, sl a11 aPubs c12)] rfl rfl (fun _ h => h) rfl fun ρ wx88 x89 => ?_
 have ex91 := ((((((((ex44.ext x46).ext x54).ext x58).ext x62).ext x66).ext x75).ext x79).ext x89)
 refine LP_call 0 rfl rfl rfl cal_12 rfl (laws_toPublishedS_w _ _ H wx88 r9 ex91) ?_
 rintro _ wx92 ⟨r90, vx94, hx95, H, rfl, x93, o96, ex97, f98⟩
 obtain ⟨a99, c100, rfl⟩ := o96.shape
 have ex101 := ((ex87.ext x89).ext x93)
 refine LP_gs ⟨⟨.inr ex101, .inl rfl, trivial⟩, ?_⟩
 refine GS_lp [(52, .agg #[I aT.Level, sl a17 aT.Vars c18, sl a23 aT.Where c24, I aT.Sum])] rfl rfl (fun _ h => h) rfl fun ρ wx102 x103 => ?_
 have ex105 := (((((((((ex51.ext x54).ext x58).ext x62).ext x66).ext x75).ext x79).ext x89).ext x93).ext x103)
 have ex106 := (((((((((ex52.ext x54).ext x58).ext x62).ext x66).ext x75).ext x79).ext x89).ext x93).ext x103)
 refine LP_call 0 rfl rfl rfl cal_21 rfl (laws_toTable_w _ _ H wx102 r15 ex105 r21 ex106) ?_
 rintro _ wx107 ⟨r104, vx109, hx110, vx114, hx115, H, rfl, x108, HF⟩
 revert HF
 refine bb7 fun o111 ex112 f113 o116 ex117 f118 d => ?_
 obtain ⟨a119, c120, rfl⟩ := o111.shape
 obtain ⟨a121, c122, rfl⟩ := o116.shape
 refine LP_gs ⟨⟨.inl rfl, .inl rfl, trivial⟩, ?_⟩
 obtain ⟨r123, r124, r125, Hd, H⟩ := H
 have ex126 := ((((((ex69.ext x75).ext x79).ext x89).ext x93).ext x103).ext x108)
 have ex127 := ((((ex83.ext x89).ext x93).ext x103).ext x108)
 have ex128 := ((ex97.ext x103).ext x108)
 refine GS_q [(46, .agg #[sl a71 r63.Parents c72]), (48, sl a85 r76 c86), (50, sl a99 r90 c100), (51, I aN), (53, .agg #[I r104.Level, sl a119 r104.Vars c120, sl a121 r104.Where c122, I r104.Sum]), (54, I aI)] (.tuple #[I r123, I r124, .bool r125]) [hx68, hx81, hx95, hx110, hx115] [.agg #[sl a71 r63.Parents c72], sl a85 r76 c86, sl a99 r90 c100, I aN, .agg #[I r104.Level, sl a119 r104.Vars c120, sl a121 r104.Where c122, I r104.Sum], I aI] rfl rfl (fun _ h => h) rfl cal_20 (fun _ => rfl) (fun w e => (spec_AnswerRange_w _ _ _ _ _ _ _ Hd w o.readf e.1 o82.readf e.2.1 o96.readf e.2.2.1 o111.readf e.2.2.2.1 o116.readf e.2.2.2.2.1).mono (fun _ _ h => by obtain ⟨_, _, _, ⟨rfl, rfl, rfl⟩, rfl, x⟩ := h; exact ⟨rfl, x⟩)) ⟨ex126, ex127, ex128, ex112, ex117, trivial⟩ ?_
 refine GS_ev ok [(55, .tuple #[I r123, I r124, .bool r125])] (.tuple #[I r123, I r124, .bool r125]) rfl rfl (fun _ h => h) (fun _ => rfl) ?_
 refine GS_ev ok [(44, .tuple #[I r123, I r124, .bool r125])] (I r123) rfl rfl (fun _ h => h) (fun _ => rfl) ?_
 refine GS_ev ok [(44, .tuple #[I r123, I r124, .bool r125])] (I r124) rfl rfl (fun _ h => h) (fun _ => rfl) ?_
 refine GS_ev ok [(44, .tuple #[I r123, I r124, .bool r125])] (.bool r125) rfl rfl (fun _ h => h) (fun _ => rfl) ?_
 refine GS_ev ok [(56, I r123)] (I r123) rfl rfl (fun _ h => h) (fun _ => rfl) ?_
 refine GS_ev ok [(57, I r124)] (I r124) rfl rfl (fun _ h => h) (fun _ => rfl) ?_
 intro wx129 x130 ρ hn
 refine AP_forget [(1, sl a5 aS c6), (2, sl a11 aPubs c12), (3, I aN), (5, I aI), (6, pb b), (10, pb b26), (14, I r123), (15, I r124), (58, .bool r125)] (by exact hn) fun ρ => ?_
 refine AP_tail 17 [[], [0], [], [0, 1, 2], [], [0, 1, 2, 3, 4], [], [], [0, 1, 2, 3, 4, 5, 7], [], [0, 1, 2, 3, 4, 5, 6, 7, 8, 9], [0, 1, 2, 3, 4, 5, 6, 7, 8, 9, 10], [0, 1, 2, 3, 4, 5, 6, 7, 8, 9, 10, 11], [0, 1, 2, 3, 4, 5, 6, 7, 8, 9, 10, 11], [0, 1, 2, 3, 4, 5, 6, 7, 8, 9, 10, 11], [0, 1, 2, 3, 4, 5, 6, 7, 8, 9, 10, 11, 12], [0, 1, 2, 3, 4, 5, 6, 7, 8, 9, 10, 11, 12, 13, 15], [0, 1, 2, 3, 4, 5, 6, 7, 8, 9, 10, 11, 12, 13, 14, 15, 16]] (by kernel_rfl) ?_
 refine LP_ev ok 17 [(16, .bool r125)] 18 rfl rfl ?_
 refine LP_end _ rfl ?_
 refine W_seq ?_
 refine W_region ?_
 have ex131 := (((((((((ex59.ext x62).ext x66).ext x75).ext x79).ext x89).ext x93).ext x103).ext x108).ext x130)
 refine LP_ldbox 0 (v := .agg #[sl a aG.Parents c]) rfl rfl rfl ti_24 ag_24 (fun h => by cases h) rfl ex131 rfl rfl ?_
 have ex133 := ((((((((ex64.ext x66).ext x75).ext x79).ext x89).ext x93).ext x103).ext x108).ext x130)
 refine LP_call 1 rfl rfl rfl cal_10 rfl (laws_toGeo_w _ _ H wx129 r ex133) ?_
 rintro _ wx134 ⟨r132, vx136, hx137, H, rfl, x135, o138, ex139, f140⟩
 obtain ⟨a141, c142, rfl⟩ := o138.shape
 refine LP_alloc 2 rfl rfl rfl ti_32 rfl fun b143 wx144 x145 ex146 f147 => ?_
 refine LP_stbox 3 (vs := [sl a141 r132.Parents c142]) (cs' := [sl a141 r132.Parents c142]) rfl rfl rfl ti_32 rfl rfl rfl rfl rfl ex146 rfl rfl fun wx148 ex149 y => ?_
 refine LP_end _ rfl ?_
 refine W_seq ?_
 refine W_region ?_
 refine LP_ev ok 0 [(61, sl a5 aS c6)] 1 rfl rfl ?_
 have ex151 := (((((((ex77.ext x79).ext x89).ext x93).ext x103).ext x108).ext x130).ext x135)
 have ex152 := (((((((((ex77.ext x79).ext x89).ext x93).ext x103).ext x108).ext x130).ext x135).ext x145).but y (Dj.of_fresh ex151 f147).symm)
 refine LP_call 1 rfl rfl rfl cal_11 rfl (laws_toVariableS_w _ _ H wx148 r3 ex152) ?_
 rintro _ wx153 ⟨r150, vx155, hx156, H, rfl, x154, o157, ex158, f159⟩
 obtain ⟨a160, c161, rfl⟩ := o157.shape
 refine LP_ev ok 2 [(18, sl a160 r150 c161)] 3 rfl rfl ?_
 refine LP_end _ rfl ?_
 refine W_seq ?_
 refine W_region ?_
 refine LP_ev ok 0 [(63, sl a11 aPubs c12)] 1 rfl rfl ?_
 have ex163 := (((((ex91.ext x93).ext x103).ext x108).ext x130).ext x135)
 have ex164 := ((((((((ex91.ext x93).ext x103).ext x108).ext x130).ext x135).ext x145).but y (Dj.of_fresh ex163 f147).symm).ext x154)
 refine LP_call 1 rfl rfl rfl cal_12 rfl (laws_toPublishedS_w _ _ H wx153 r9 ex164) ?_
 rintro _ wx165 ⟨r162, vx167, hx168, H, rfl, x166, o169, ex170, f171⟩
 obtain ⟨a172, c173, rfl⟩ := o169.shape
 refine LP_ev ok 2 [(19, sl a172 r162 c173)] 3 rfl rfl ?_
 refine LP_end _ rfl ?_
 refine W_seq ?_
 refine W_region ?_
 have ex174 := ((((((((((ex60.ext x62).ext x66).ext x75).ext x79).ext x89).ext x93).ext x103).ext x108).ext x130).ext x135)
 have ex175 := ((((((((((((((ex60.ext x62).ext x66).ext x75).ext x79).ext x89).ext x93).ext x103).ext x108).ext x130).ext x135).ext x145).but y (Dj.of_fresh ex174 f147).symm).ext x154).ext x166)
 refine LP_ldbox 0 (v := .agg #[I aT.Level, sl a17 aT.Vars c18, sl a23 aT.Where c24, I aT.Sum]) rfl rfl rfl ti_46 ag_46 (fun h => by cases h) rfl ex175 rfl rfl ?_
 have ex177 := (((ex105.ext x108).ext x130).ext x135)
 have ex178 := (((((((ex105.ext x108).ext x130).ext x135).ext x145).but y (Dj.of_fresh ex177 f147).symm).ext x154).ext x166)
 have ex179 := (((ex106.ext x108).ext x130).ext x135)
 have ex180 := (((((((ex106.ext x108).ext x130).ext x135).ext x145).but y (Dj.of_fresh ex179 f147).symm).ext x154).ext x166)
 refine LP_call 1 rfl rfl rfl cal_21 rfl (laws_toTable_w _ _ H wx165 r15 ex178 r21 ex180) ?_
 rintro _ wx181 ⟨r176, vx183, hx184, vx188, hx189, H, rfl, x182, HF⟩
 revert HF
 refine bb7 fun o185 ex186 f187 o190 ex191 f192 d193 => ?_
 obtain ⟨a194, c195, rfl⟩ := o185.shape
 obtain ⟨a196, c197, rfl⟩ := o190.shape
 refine LP_alloc 2 rfl rfl rfl ti_50 rfl fun b198 wx199 x200 ex201 f202 => ?_
 refine LP_stbox 3 (vs := [I r176.Level, sl a194 r176.Vars c195, sl a196 r176.Where c197, I r176.Sum]) (cs' := [I r176.Level, sl a194 r176.Vars c195, sl a196 r176.Where c197, I r176.Sum]) rfl rfl rfl ti_50 rfl rfl rfl rfl rfl ex201 rfl rfl fun wx203 ex204 y205 => ?_
 refine LP_end _ rfl ?_
 refine W_seq ?_
 refine W_region ?_
 have ex206 := (((ex149.ext x154).ext x166).ext x182)
 have ex207 := (((((ex149.ext x154).ext x166).ext x182).ext x200).but y205 (Dj.of_fresh ex206 f202).symm)
 refine LP_ldbox 0 (v := .agg #[sl a141 r132.Parents c142]) rfl rfl rfl ti_32 ag_32 (fun h => by cases h) rfl ex207 rfl rfl ?_
 refine LP_ev ok 1 [(69, sl a160 r150 c161), (70, sl a172 r162 c173), (71, I aN)] 4 rfl rfl ?_
 refine LP_ldbox 4 (v := .agg #[I r176.Level, sl a194 r176.Vars c195, sl a196 r176.Where c197, I r176.Sum]) rfl rfl rfl ti_50 ag_50 (fun h => by cases h) rfl ex204 rfl rfl ?_
 refine LP_ev ok 5 [(73, I aI)] 6 rfl rfl ?_
 have ex211 := (((((ex139.ext x145).but y (Dj.of_fresh ex139 f147).symm).ext x154).ext x166).ext x182)
 have ex212 := (((((((ex139.ext x145).but y (Dj.of_fresh ex139 f147).symm).ext x154).ext x166).ext x182).ext x200).but y205 (Dj.of_fresh ex211 f202).symm)
 have ex213 := ((ex158.ext x166).ext x182)
 have ex214 := ((((ex158.ext x166).ext x182).ext x200).but y205 (Dj.of_fresh ex213 f202).symm)
 have ex215 := (ex170.ext x182)
 have ex216 := (((ex170.ext x182).ext x200).but y205 (Dj.of_fresh ex215 f202).symm)
 have ex217 := ((ex186.ext x200).but y205 (Dj.of_fresh ex186 f202).symm)
 have ex218 := ((ex191.ext x200).but y205 (Dj.of_fresh ex191 f202).symm)
 refine LP_call 6 rfl rfl rfl cal_22 rfl (impl_AnswerRange_w _ _ _ _ _ _ _ H wx203 o138.readf ex212 o157.readf ex214 o169.readf ex216 o185.readf ex217 o190.readf ex218) ?_
 rintro _ wx219 ⟨r208, r209, r210, H, rfl, x220⟩
 refine LP_ev ok 7 [(67, .tuple #[I r208, I r209, .bool r210]), (75, I r208), (76, I r209), (77, .bool r210), (21, I r208), (22, I r209), (23, .bool r210)] 14 rfl rfl ?_
 refine LP_end _ rfl ?_
 try refine W_forget [(1, sl a5 aS c6), (2, sl a11 aPubs c12), (6, pb b), (10, pb b26), (14, I r123), (15, I r124), (16, .bool r125), (17, pb b143), (18, sl a160 r150 c161), (19, sl a172 r162 c173), (20, pb b198), (21, I r208), (22, I r209), (23, .bool r210)] ⟨rfl, rfl, rfl, rfl, rfl, rfl, rfl, rfl, rfl, rfl, rfl, rfl, rfl, rfl, trivial⟩ fun ρ => ?_
 refine W_seq ?_
 obtain ⟨k, hk, H⟩ := jn_elim H
 refine W_join2 (S := Bool) (fun s ρ' w' => k s ∧ ∃ (ρ : Env), ρ' = setAll [(1, sl a5 aS c6), (2, sl a11 aPubs c12), (6, pb b), (10, pb b26), (17, pb b143), (18, sl a160 r150 c161), (19, sl a172 r162 c173), (20, pb b198), (90, .bool s)] ρ ∧ wx219 = w') ?_ ?_
 ·refine W_region ?_
  refine LP_ev ok 0 [(78, I r208), (79, I r123), (80, .bool (r208 != r123)), (81, .bool (r208 != r123))] 4 rfl rfl ?_
  refine LP_split 81 (r208 != r123) rfl (fun hc223 => ?_) (fun hc223 => ?_)
  ·have H := H.1 hc223
   refine LP_ev ok 4 [(82, undef), (83, undef), (84, undef), (85, .bool true), (86, .bool true), (87, undef), (88, undef), (89, undef), (90, .bool true)] 13 rfl rfl ?_
   refine LP_end _ rfl ?_
   exact ⟨true, H, _, env_eq ⟨rfl, rfl, rfl, rfl, rfl, rfl, rfl, rfl, rfl, trivial⟩, rfl⟩
  have H := H.2 hc223
  refine LP_ev ok 4 [(82, I r209), (83, I r124), (84, .bool (r209 != r124)), (85, .bool (r209 != r124)), (86, .bool (r209 != r124))] 9 rfl rfl ?_
  refine LP_split 86 (r209 != r124) rfl (fun hc224 => ?_) (fun hc224 => ?_)
  ·have H := H.1 hc224
   refine LP_ev ok 9 [(87, undef), (88, undef), (89, undef), (90, .bool true)] 13 rfl rfl ?_
   refine LP_end _ rfl ?_
   exact ⟨true, H, _, env_eq ⟨rfl, rfl, rfl, rfl, rfl, rfl, rfl, rfl, rfl, trivial⟩, rfl⟩
  have H := H.2 hc224
  refine LP_ev ok 9 [(87, .bool r210), (88, .bool r125), (89, .bool (r210 != r125)), (90, .bool (r210 != r125))] 13 rfl rfl ?_
  refine LP_end _ rfl ?_
  exact ⟨r210 != r125, H, _, env_eq ⟨rfl, rfl, rfl, rfl, rfl, rfl, rfl, rfl, rfl, trivial⟩, rfl⟩
 rintro x221 _ _ ⟨H, ρ, rfl, rfl⟩
 subst hk
 refine W_cond (x221) rfl (fun hc225 => ?_) (fun hc225 => ?_)
 ·have H := H.1 hc225
  refine W_seq ?_
  refine W_region ?_
  refine LP_ev ok 0 [(12, .bool false)] 1 rfl rfl ?_
  refine LP_end _ rfl ?_
  refine W_ret ?_
  have X227 := (((((((((((((((((X.stepx x).stepx x28).stepx x35).stepx x40).stepx x46).stepx x54).stepx x58).stepx x62).stepx x66).stepx x75).stepx x79).stepx x89).stepx x93).stepx x103).stepx x108).stepx x130).stepx x135)
  have f226 := f147.mono X227.size
  have X229 := (((((X227.stepx x145).step y (f226.dom _)).stepx x154).stepx x166).stepx x182)
  have f228 := f202.mono X229.size
  have X230 := (((((((((((((((((((((((((X.stepx x).stepx x28).stepx x35).stepx x40).stepx x46).stepx x54).stepx x58).stepx x62).stepx x66).stepx x75).stepx x79).stepx x89).stepx x93).stepx x103).stepx x108).stepx x130).stepx x135).stepx x145).step y (f226.dom _)).stepx x154).stepx x166).stepx x182).stepx x200).step y205 (f228.dom _)).stepx x220)
  exact ⟨_, Ret_of [.bool false] ⟨⟨rfl, rfl⟩, trivial⟩, _, H, rfl, X230.ext⟩
 have H := H.2 hc225
 refine W_skip ?_
 refine W_seq ?_
 refine W_seq ?_
 refine W_open mix fun wx231 x232 => ?_
 refine AP_game 3 [[], [], [1], [0, 1, 2], [0, 1, 2, 3]] [[(17, none)], [(6, none)], [(92, some 1)]] [(1, none), (2, none), (10, none), (18, none), (19, none), (20, none), (91, some 0), (93, some 2)] [(0, false), (1, false), (2, true)] (by kernel_rfl) (by kernel_rfl) ?_
 have ex233 := ((ex207.ext x220).ext x232)
 refine GS_r1 [(17, pb b143)] (.agg #[sl a141 r132.Parents c142]) rfl rfl (fun _ h => h) (fun _ w e => ex_ldbox rfl ti_32 ag_32 (fun h => by cases h) rfl e rfl rfl) ex233 ?_
 have ex234 := (ex131.ext x135)
 have ex235 := (((((ex234.ext x145).but y (Dj.of_fresh ex234 f147).symm).ext x154).ext x166).ext x182)
 have ex236 := ((((((((((ex131.ext x135).ext x145).but y (Dj.of_fresh ex234 f147).symm).ext x154).ext x166).ext x182).ext x200).but y205 (Dj.of_fresh ex235 f202).symm).ext x220).ext x232)
 refine GS_r1 [(6, pb b)] (.agg #[sl a aG.Parents c]) rfl rfl (fun _ h => h) (fun _ w e => ex_ldbox rfl ti_24 ag_24 (fun h => by cases h) rfl e rfl rfl) ex236 ?_
 refine GS_lp [(92, .agg #[sl a aG.Parents c])] rfl rfl (fun _ h => h) rfl fun ρ wx237 x238 => ?_
 have ex240 := (ex133.ext x135)
 have ex241 := (((((ex240.ext x145).but y (Dj.of_fresh ex240 f147).symm).ext x154).ext x166).ext x182)
 have ex242 := (((((((((((ex133.ext x135).ext x145).but y (Dj.of_fresh ex240 f147).symm).ext x154).ext x166).ext x182).ext x200).but y205 (Dj.of_fresh ex241 f202).symm).ext x220).ext x232).ext x238)
 refine LP_call 0 rfl rfl rfl cal_10 rfl (laws_toGeo_w _ _ H wx237 r ex242) ?_
 rintro _ wx243 ⟨r239, vx245, hx246, H, rfl, x244, o247, ex248, f249⟩
 obtain ⟨a250, c251, rfl⟩ := o247.shape
 have ex252 := ((ex233.ext x238).ext x244)
 refine LP_gs ⟨⟨.inl rfl, .inr ex252, trivial⟩, ?_⟩
 intro wx253 x254 ρ hn255
 refine AP_forget [(1, sl a5 aS c6), (2, sl a11 aPubs c12), (10, pb b26), (18, sl a160 r150 c161), (19, sl a172 r162 c173), (20, pb b198), (91, .agg #[sl a141 r132.Parents c142]), (93, .agg #[sl a250 r239.Parents c251])] (by exact hn255) fun ρ => ?_
 refine AP_tail 3 [[], [], [1], [0, 1, 2], [0, 1, 2, 3]] (by kernel_rfl) ?_
 have ex257 := (((((ex212.ext x220).ext x232).ext x238).ext x244).ext x254)
 have ex258 := (ex248.ext x254)
 refine LP_call 3 rfl rfl rfl cal_14 rfl (laws_eqGeo_w _ _ _ H wx253 o138.readf ex257 o247.readf ex258) ?_
 rintro _ wx259 ⟨r256, H, rfl, x260⟩
 refine LP_ev ok 4 [(95, .bool (!r256))] 5 rfl rfl ?_
 refine LP_end _ rfl ?_
 refine W_cond (!r256) rfl (fun hc261 => ?_) (fun hc261 => ?_)
 ·have H := H.1 hc261
  refine W_seq ?_
  refine W_region ?_
  refine LP_ev ok 0 [(12, .bool false)] 1 rfl rfl ?_
  refine LP_end _ rfl ?_
  refine W_ret ?_
  have X263 := (((((((((((((((((X.stepx x).stepx x28).stepx x35).stepx x40).stepx x46).stepx x54).stepx x58).stepx x62).stepx x66).stepx x75).stepx x79).stepx x89).stepx x93).stepx x103).stepx x108).stepx x130).stepx x135)
  have f262 := f147.mono X263.size
  have X265 := (((((X263.stepx x145).step y (f262.dom _)).stepx x154).stepx x166).stepx x182)
  have f264 := f202.mono X265.size
  have X266 := ((((((((((((((((((((((((((((((X.stepx x).stepx x28).stepx x35).stepx x40).stepx x46).stepx x54).stepx x58).stepx x62).stepx x66).stepx x75).stepx x79).stepx x89).stepx x93).stepx x103).stepx x108).stepx x130).stepx x135).stepx x145).step y (f262.dom _)).stepx x154).stepx x166).stepx x182).stepx x200).step y205 (f264.dom _)).stepx x220).stepx x232).stepx x238).stepx x244).stepx x254).stepx x260)
  exact ⟨_, Ret_of [.bool false] ⟨⟨rfl, rfl⟩, trivial⟩, _, H, rfl, X266.ext⟩
 have H := H.2 hc261
 refine W_skip ?_
 refine W_seq ?_
 refine W_seq ?_
 refine W_region ?_
 refine LP_ev ok 0 [(96, sl a160 r150 c161), (97, sl a5 aS c6)] 2 rfl rfl ?_
 have ex268 := (((ex152.ext x154).ext x166).ext x182)
 have ex269 := (((((((((((ex152.ext x154).ext x166).ext x182).ext x200).but y205 (Dj.of_fresh ex268 f202).symm).ext x220).ext x232).ext x238).ext x244).ext x254).ext x260)
 refine LP_call 2 rfl rfl rfl cal_11 rfl (laws_toVariableS_w _ _ H wx259 r3 ex269) ?_
 rintro _ wx270 ⟨r267, vx272, hx273, H, rfl, x271, o274, ex275, f276⟩
 obtain ⟨a277, c278, rfl⟩ := o274.shape
 have ex280 := (((((((ex214.ext x220).ext x232).ext x238).ext x244).ext x254).ext x260).ext x271)
 refine LP_call 3 rfl rfl rfl cal_15 rfl (laws_eqVariableS_w _ _ _ H wx270 o157.readf ex280 o274.readf ex275) ?_
 rintro _ wx281 ⟨r279, H, rfl, x282⟩
 refine LP_ev ok 4 [(100, .bool (!r279))] 5 rfl rfl ?_
 refine LP_end _ rfl ?_
 refine W_cond (!r279) rfl (fun hc283 => ?_) (fun hc283 => ?_)
 ·have H := H.1 hc283
  refine W_seq ?_
  refine W_region ?_
  refine LP_ev ok 0 [(12, .bool false)] 1 rfl rfl ?_
  refine LP_end _ rfl ?_
  refine W_ret ?_
  have X285 := (((((((((((((((((X.stepx x).stepx x28).stepx x35).stepx x40).stepx x46).stepx x54).stepx x58).stepx x62).stepx x66).stepx x75).stepx x79).stepx x89).stepx x93).stepx x103).stepx x108).stepx x130).stepx x135)
  have f284 := f147.mono X285.size
  have X287 := (((((X285.stepx x145).step y (f284.dom _)).stepx x154).stepx x166).stepx x182)
  have f286 := f202.mono X287.size
  have X288 := ((((((((((((((((((((((((((((((((X.stepx x).stepx x28).stepx x35).stepx x40).stepx x46).stepx x54).stepx x58).stepx x62).stepx x66).stepx x75).stepx x79).stepx x89).stepx x93).stepx x103).stepx x108).stepx x130).stepx x135).stepx x145).step y (f284.dom _)).stepx x154).stepx x166).stepx x182).stepx x200).step y205 (f286.dom _)).stepx x220).stepx x232).stepx x238).stepx x244).stepx x254).stepx x260).stepx x271).stepx x282)
  exact ⟨_, Ret_of [.bool false] ⟨⟨rfl, rfl⟩, trivial⟩, _, H, rfl, X288.ext⟩
 have H := H.2 hc283
 refine W_skip ?_
 refine W_seq ?_
 refine W_seq ?_
 refine W_region ?_
 refine LP_ev ok 0 [(101, sl a172 r162 c173), (102, sl a11 aPubs c12)] 2 rfl rfl ?_
 have ex290 := ((ex164.ext x166).ext x182)
 have ex291 := ((((((((((((ex164.ext x166).ext x182).ext x200).but y205 (Dj.of_fresh ex290 f202).symm).ext x220).ext x232).ext x238).ext x244).ext x254).ext x260).ext x271).ext x282)
 refine LP_call 2 rfl rfl rfl cal_12 rfl (laws_toPublishedS_w _ _ H wx281 r9 ex291) ?_
 rintro _ wx292 ⟨r289, vx294, hx295, H, rfl, x293, o296, ex297, f298⟩
 obtain ⟨a299, c300, rfl⟩ := o296.shape
 have ex302 := (((((((((ex216.ext x220).ext x232).ext x238).ext x244).ext x254).ext x260).ext x271).ext x282).ext x293)
 refine LP_call 3 rfl rfl rfl cal_16 rfl (laws_eqPublishedS_w _ _ _ H wx292 o169.readf ex302 o296.readf ex297) ?_
 rintro _ wx303 ⟨r301, H, rfl, x304⟩
 refine LP_ev ok 4 [(105, .bool (!r301))] 5 rfl rfl ?_
 refine LP_end _ rfl ?_
 refine W_cond (!r301) rfl (fun hc305 => ?_) (fun hc305 => ?_)
 ·have H := H.1 hc305
  refine W_seq ?_
  refine W_region ?_
  refine LP_ev ok 0 [(12, .bool false)] 1 rfl rfl ?_
  refine LP_end _ rfl ?_
  refine W_ret ?_
  have X307 := (((((((((((((((((X.stepx x).stepx x28).stepx x35).stepx x40).stepx x46).stepx x54).stepx x58).stepx x62).stepx x66).stepx x75).stepx x79).stepx x89).stepx x93).stepx x103).stepx x108).stepx x130).stepx x135)
  have f306 := f147.mono X307.size
  have X309 := (((((X307.stepx x145).step y (f306.dom _)).stepx x154).stepx x166).stepx x182)
  have f308 := f202.mono X309.size
  have X310 := ((((((((((((((((((((((((((((((((((X.stepx x).stepx x28).stepx x35).stepx x40).stepx x46).stepx x54).stepx x58).stepx x62).stepx x66).stepx x75).stepx x79).stepx x89).stepx x93).stepx x103).stepx x108).stepx x130).stepx x135).stepx x145).step y (f306.dom _)).stepx x154).stepx x166).stepx x182).stepx x200).step y205 (f308.dom _)).stepx x220).stepx x232).stepx x238).stepx x244).stepx x254).stepx x260).stepx x271).stepx x282).stepx x293).stepx x304)
  exact ⟨_, Ret_of [.bool false] ⟨⟨rfl, rfl⟩, trivial⟩, _, H, rfl, X310.ext⟩
 have H := H.2 hc305
 refine W_skip ?_
 refine W_seq ?_
 refine W_seq ?_
 refine W_open mix fun wx311 x312 => ?_
 refine AP_game 3 [[], [], [1], [0, 1, 2], [0, 1, 2, 3]] [[(20, none)], [(10, none)], [(107, some 1)]] [(106, some 0), (108, some 2)] [(0, false), (1, false), (2, true)] (by kernel_rfl) (by kernel_rfl) ?_
 have ex313 := (((((((((((ex204.ext x220).ext x232).ext x238).ext x244).ext x254).ext x260).ext x271).ext x282).ext x293).ext x304).ext x312)
 refine GS_r1 [(20, pb b198)] (.agg #[I r176.Level, sl a194 r176.Vars c195, sl a196 r176.Where c197, I r176.Sum]) rfl rfl (fun _ h => h) (fun _ w e => ex_ldbox rfl ti_50 ag_50 (fun h => by cases h) rfl e rfl rfl) ex313 ?_
 have ex314 := (ex175.ext x182)
 have ex315 := ((((((((((((((ex175.ext x182).ext x200).but y205 (Dj.of_fresh ex314 f202).symm).ext x220).ext x232).ext x238).ext x244).ext x254).ext x260).ext x271).ext x282).ext x293).ext x304).ext x312)
 refine GS_r1 [(10, pb b26)] (.agg #[I aT.Level, sl a17 aT.Vars c18, sl a23 aT.Where c24, I aT.Sum]) rfl rfl (fun _ h => h) (fun _ w e => ex_ldbox rfl ti_46 ag_46 (fun h => by cases h) rfl e rfl rfl) ex315 ?_
 refine GS_lp [(107, .agg #[I aT.Level, sl a17 aT.Vars c18, sl a23 aT.Where c24, I aT.Sum])] rfl rfl (fun _ h => h) rfl fun ρ wx316 x317 => ?_
 have ex319 := (ex178.ext x182)
 have ex320 := (((((((((((((((ex178.ext x182).ext x200).but y205 (Dj.of_fresh ex319 f202).symm).ext x220).ext x232).ext x238).ext x244).ext x254).ext x260).ext x271).ext x282).ext x293).ext x304).ext x312).ext x317)
 have ex321 := (ex180.ext x182)
 have ex322 := (((((((((((((((ex180.ext x182).ext x200).but y205 (Dj.of_fresh ex321 f202).symm).ext x220).ext x232).ext x238).ext x244).ext x254).ext x260).ext x271).ext x282).ext x293).ext x304).ext x312).ext x317)
 refine LP_call 0 rfl rfl rfl cal_21 rfl (laws_toTable_w _ _ H wx316 r15 ex320 r21 ex322) ?_
 rintro _ wx323 ⟨r318, vx325, hx326, vx330, hx331, H, rfl, x324, HF⟩
 revert HF
 refine bb7 fun o327 ex328 f329 o332 ex333 f334 d335 => ?_
 obtain ⟨a336, c337, rfl⟩ := o327.shape
 obtain ⟨a338, c339, rfl⟩ := o332.shape
 have ex340 := ((ex313.ext x317).ext x324)
 refine LP_gs ⟨⟨.inl rfl, .inr ex340, trivial⟩, ?_⟩
 intro wx341 x342 ρ hn343
 refine AP_forget [(106, .agg #[I r176.Level, sl a194 r176.Vars c195, sl a196 r176.Where c197, I r176.Sum]), (108, .agg #[I r318.Level, sl a336 r318.Vars c337, sl a338 r318.Where c339, I r318.Sum])] (by exact hn343) fun ρ => ?_
 refine AP_tail 3 [[], [], [1], [0, 1, 2], [0, 1, 2, 3]] (by kernel_rfl) ?_
 have ex345 := ((((((((((((((ex217.ext x220).ext x232).ext x238).ext x244).ext x254).ext x260).ext x271).ext x282).ext x293).ext x304).ext x312).ext x317).ext x324).ext x342)
 have ex346 := ((((((((((((((ex218.ext x220).ext x232).ext x238).ext x244).ext x254).ext x260).ext x271).ext x282).ext x293).ext x304).ext x312).ext x317).ext x324).ext x342)
 have ex347 := (ex328.ext x342)
 have ex348 := (ex333.ext x342)
 refine LP_call 3 rfl rfl rfl cal_23 rfl (laws_eqTable_w _ _ _ H wx341 o185.readf ex345 o190.readf ex346 o327.readf ex347 o332.readf ex348) ?_
 rintro _ wx349 ⟨r344, H, rfl, x350⟩
 refine LP_ev ok 4 [(110, .bool (!r344))] 5 rfl rfl ?_
 refine LP_end _ rfl ?_
 refine W_cond (!r344) rfl (fun hc351 => ?_) (fun hc351 => ?_)
 ·have H := H.1 hc351
  refine W_seq ?_
  refine W_region ?_
  refine LP_ev ok 0 [(12, .bool false)] 1 rfl rfl ?_
  refine LP_end _ rfl ?_
  refine W_ret ?_
  have X353 := (((((((((((((((((X.stepx x).stepx x28).stepx x35).stepx x40).stepx x46).stepx x54).stepx x58).stepx x62).stepx x66).stepx x75).stepx x79).stepx x89).stepx x93).stepx x103).stepx x108).stepx x130).stepx x135)
  have f352 := f147.mono X353.size
  have X355 := (((((X353.stepx x145).step y (f352.dom _)).stepx x154).stepx x166).stepx x182)
  have f354 := f202.mono X355.size
  have X356 := (((((((((((((((((((((((((((((((((((((((X.stepx x).stepx x28).stepx x35).stepx x40).stepx x46).stepx x54).stepx x58).stepx x62).stepx x66).stepx x75).stepx x79).stepx x89).stepx x93).stepx x103).stepx x108).stepx x130).stepx x135).stepx x145).step y (f352.dom _)).stepx x154).stepx x166).stepx x182).stepx x200).step y205 (f354.dom _)).stepx x220).stepx x232).stepx x238).stepx x244).stepx x254).stepx x260).stepx x271).stepx x282).stepx x293).stepx x304).stepx x312).stepx x317).stepx x324).stepx x342).stepx x350)
  exact ⟨_, Ret_of [.bool false] ⟨⟨rfl, rfl⟩, trivial⟩, _, H, rfl, X356.ext⟩
 have H := H.2 hc351
 refine W_skip ?_
 refine W_seq ?_
 refine W_region ?_
 refine LP_ev ok 0 [(12, .bool true)] 1 rfl rfl ?_
 refine LP_end _ rfl ?_
 refine W_ret ?_
 have X358 := (((((((((((((((((X.stepx x).stepx x28).stepx x35).stepx x40).stepx x46).stepx x54).stepx x58).stepx x62).stepx x66).stepx x75).stepx x79).stepx x89).stepx x93).stepx x103).stepx x108).stepx x130).stepx x135)
 have f357 := f147.mono X358.size
 have X360 := (((((X358.stepx x145).step y (f357.dom _)).stepx x154).stepx x166).stepx x182)
 have f359 := f202.mono X360.size
 have X361 := (((((((((((((((((((((((((((((((((((((((X.stepx x).stepx x28).stepx x35).stepx x40).stepx x46).stepx x54).stepx x58).stepx x62).stepx x66).stepx x75).stepx x79).stepx x89).stepx x93).stepx x103).stepx x108).stepx x130).stepx x135).stepx x145).step y (f357.dom _)).stepx x154).stepx x166).stepx x182).stepx x200).step y205 (f359.dom _)).stepx x220).stepx x232).stepx x238).stepx x244).stepx x254).stepx x260).stepx x271).stepx x282).stepx x293).stepx x304).stepx x312).stepx x317).stepx x324).stepx x342).stepx x350)
 exact ⟨_, Ret_of [.bool true] ⟨⟨rfl, rfl⟩, trivial⟩, _, H, rfl, X361.ext⟩

end Go.Proofs.Ytkebfmobfeponaa
