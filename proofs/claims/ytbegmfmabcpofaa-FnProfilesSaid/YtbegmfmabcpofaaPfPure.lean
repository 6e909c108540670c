/- FnProfiles, plainly: shares, distances and indices, drawn, agree and keep their laws. -/
import Derived.Test.YtbegmfmabcpofaaDr
import Derived.Test.YtbegmfmabcpofaaRp
set_option linter.unusedVariables false
set_option autoImplicit false
namespace Go.Proofs.Ytbegmfmabcpofaa
open Go Go.RowKit Go.Gv

theorem counts_ok {code : List B8} {a s n : Int} {Q : List Int → Int → Int → Prop} (hc : bytesOk code) (hn : 0 ≤ n ∧ n ≤ 9) (ha : 0 ≤ a ∧ a ≤ 999999990000)
    (h : ∀ out a' s', out.length ≤ 200 → 0 ≤ a' → a' ≤ a + 1000 → Q out a' s') : spec_l1Cur_counts ⟨code, a, s⟩ n Q := by
  unfold spec_l1Cur_counts
  dsimp only
  refine ⟨fun n3 l a1 s1 => 0 ≤ n3 ∧ n3 ≤ n ∧ (l.length : Int) = n - n3 ∧ 0 ≤ a1 ∧ a1 ≤ a + 4 * (n - n3), fun n3 _ _ _ => n3.toNat, ⟨by omega, by omega, by simp, by omega, by omega⟩, ?_⟩
  rintro n3 l a1 s1 ⟨h0, h1, h2, h3, h4⟩
  refine br_dec (fun g => ?_) (fun g => ?_)
  · refine pick_ok hc (by unfold atOk; omega) fun r a2 s2 _ _ _ l0 l1 => among_ok hc (by unfold atOk; omega) (by simp) fun r2 _ a3 s3 m0 m1 => ⟨by unfold ln; simp; omega, ?_⟩
    rw [wr_in (by omega) (by omega)]
    refine ⟨⟨by omega, by omega, by simp; omega, m0, by omega⟩, ?_⟩
    show (n3 - 1).toNat < n3.toNat
    omega
  · refine jn_bool3 (fun o a' s' => o.length ≤ 200 ∧ 0 ≤ a' ∧ a' ≤ a + 1000) (fun o a' s' ⟨p1, p2, p3⟩ => h o a' s' p1 p2 p3) fun k hk => ?_
    refine pick_ok hc (by unfold atOk; omega) fun r a2 s2 r0 r1 _ l0 l1 => br_eq (fun _ => ?_) (fun _ => br_eq (fun _ => ?_) (fun _ => hk _ _ _ ⟨by omega, l0, by omega⟩))
    · exact among_ok hc (by unfold atOk; omega) (by simp) fun r2 _ a3 s3 m0 m1 => ⟨by unfold ln; simp; omega, hk _ _ _ ⟨by simp; omega, m0, by omega⟩⟩
    · refine ⟨fun o b _ => l.length ≤ o.length ∧ o.length ≤ 101 ∧ 0 ≤ b ∧ b ≤ a2 + 2 * ((o.length : Int) - l.length), fun o _ _ => 102 - o.length, ⟨by omega, by omega, by omega, by omega⟩, ?_⟩
      rintro o b t ⟨k0, k1, k2, k3⟩
      refine pick_ok hc (by unfold atOk; omega) fun r2 b2 t2 q0 q1 _ m0 m1 => ?_
      rw [wr_in (x := 100 + r2) (by omega) (by omega)]
      refine br_dec (fun g2 => ?_) (fun g2 => hk _ _ _ ⟨by omega, m0, by omega⟩)
      unfold ln at g2
      refine ⟨by unfold ln; simp; omega, ⟨by simp; omega, by simp; omega, m0, by simp; omega⟩, ?_⟩
      show 102 - (o ++ [1]).length < 102 - o.length
      simp; omega
theorem drawDissimilarityOf_ok {code : List B8} {Q : List Int → List Int → Prop} (hc : bytesOk code) (h : ∀ a b, a.length ≤ 1048576 → b.length ≤ 1048576 → Q a b) : spec_DrawDissimilarityOf code Q := by
  unfold spec_DrawDissimilarityOf
  refine pick_ok hc (by unfold atOk; omega) fun r a s r0 r1 _ l0 l1 => ?_
  rw [wr_in (by omega) (by omega)]
  exact counts_ok hc (by omega) (by omega) fun x a2 s2 x1 m0 m1 => counts_ok hc (by omega) (by omega) fun y a3 s3 y1 n0 n1 => h _ _ (by omega) (by omega)
theorem drawCountShares_ok {code : List B8} {Q : List Int → Prop} (hc : bytesOk code) (h : ∀ a, a.length ≤ 1048576 → Q a) : spec_DrawCountShares code Q := by
  unfold spec_DrawCountShares
  exact pick_ok hc (by unfold atOk; omega) fun r a s r0 r1 _ l0 l1 => counts_ok hc (by omega) (by omega) fun x a2 s2 x1 m0 m1 => h _ (by omega)
theorem drawGiniOf_ok {code : List B8} {Q : List Int → Prop} (hc : bytesOk code) (h : ∀ a, a.length ≤ 1048576 → Q a) : spec_DrawGiniOf code Q := by
  unfold spec_DrawGiniOf; exact drawCountShares_ok hc h
theorem drawQuotientOf_ok {code : List B8} {Q : List Int → List Int → Int → Prop} (hc : bytesOk code) (h : ∀ a b i, a.length ≤ 1048576 → b.length ≤ 1048576 → Q a b i) : spec_DrawQuotientOf code Q := by
  unfold spec_DrawQuotientOf
  refine pick_ok hc (by unfold atOk; omega) fun r a s r0 r1 _ l0 l1 => ?_
  rw [wr_in (x := 1 + r) (by omega) (by omega)]
  exact counts_ok hc (by omega) (by omega) fun x a2 s2 x1 m0 m1 => counts_ok hc (by omega) (by omega) fun y a3 s3 y1 n0 n1 => pick_ok hc (by unfold atOk; omega) fun i a4 s4 _ _ _ _ _ => h _ _ _ (by omega) (by omega)
theorem gnIn_cnt {l : List Int} (h : gnIn l = true) : cntIn l = true := by
  unfold gnIn at h; split at h
  · rename_i c; exact c
  · cases h
theorem cs_ok {l : List Int} (h : cntIn l = true) : csOf l = sh l ∧ l.length ≤ 100 ∧ ∀ f ∈ sh l, fOk f := by
  obtain ⟨h0, h1, hx, hs⟩ := cntIn_of h
  refine ⟨by unfold csOf; rw [h, if_pos rfl], by omega, fun f hf => ?_⟩
  obtain ⟨v, hv, rfl⟩ := List.mem_map.1 hf
  exact share_ok (hx v hv) hs
theorem lawPf_ok (code more : List B8) (hw : Wf.wf code) (hw2 : Wf.wf more) : laws_FnProfiles code more (fun b => b = true) := by
  have c1 : bytesOk code := hw.2
  have c2 : bytesOk more := hw2.2
  unfold laws_FnProfiles
  refine br_dec (fun _ => rfl) (fun _ => ?_)
  refine drawDissimilarityOf_ok c1 fun a b ha hb => implDs_ok ha hb (specDs_ok ha hb ?_)
  refine drawGiniOf_ok c2 fun l hl => implGn_ok hl (specGn_ok hl (implCo_ok hl (specCo_ok hl ?_)))
  refine drawQuotientOf_ok c2 fun x y i hx hy => implQu_ok hx hy (specQu_ok hx hy ?_)
  have rest : br (!(dsAll a b).2) (true = true) <|
      impl_DissimilarityOf b a fun r394 r395 =>
      jn (fun (k408 : Bool → Prop) => br (decide ((dsAll a b).1.Num ≥ 0)) (br (decide ((dsAll a b).1.Num ≤ (dsAll a b).1.Den)) (br (r395) (k408 (((r394.Num == (dsAll a b).1.Num) && (r394.Den == (dsAll a b).1.Den)))) <|
      k408 false) <|
      k408 false) <|
      k408 false) <|
      fun (x406 : Bool) => x406 = true := by
    refine br_nb (fun _ => rfl) (fun g => ?_)
    refine implDs_ok hb ha ?_
    have hf := ds_frac g
    rw [ds_swap a b]
    refine jn_bool true rfl fun k hk => br_dec (fun _ => br_dec (fun _ => br_true g ?_) (fun c => absurd hf.2 c)) (fun c => absurd hf.1 c)
    rw [show ((dsAll a b).1.Num == (dsAll a b).1.Num && (dsAll a b).1.Den == (dsAll a b).1.Den) = true by simp]; exact hk
  refine jn_bool false (br_false rfl ?_) fun k hk => br_false (by simp) (br_false (by simp) (br_false (by simp) (br_false (by simp) (br_false (by simp) (br_false (by simp) (br_false (by simp) ?_))))))
  · refine jn_of (br_bo (fun g => ?_) (fun _ => rest))
    have hc := gnIn_cnt g
    obtain ⟨e, hl2, hff⟩ := cs_ok hc
    have hg := gn_frac g
    refine implCs_ok hl ?_
    rw [e]
    refine sumFracs_ok (by unfold sh; simp; omega) hff ?_
    refine jn_bool false (br_false rfl rest) fun k hk => br_false (by simp [hc]) ?_
    have tail : br (decide ((gnOf l).Num < 0)) (k true) (k (decide ((gnOf l).Num ≥ (gnOf l).Den))) := br_no (by omega) (by
      rw [show decide ((gnOf l).Num ≥ (gnOf l).Den) = false from decide_eq_false (by omega)]; exact hk)
    refine br_bo (fun s => ?_) (fun _ => tail)
    rw [sum_one hc s]
    exact br_false (by simp) tail
  · rw [show (!((quOf x y i).Num == (quOf x y i).Num && (quOf x y i).Den == (quOf x y i).Den)) = false by simp]; exact hk
end Go.Proofs.Ytbegmfmabcpofaa
