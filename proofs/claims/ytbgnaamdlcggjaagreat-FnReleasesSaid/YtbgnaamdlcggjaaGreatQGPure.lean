import Derived.Test.YtbgnaamdlcggjaaGreatQF
set_option linter.unusedVariables false
set_option autoImplicit false
namespace Go.Proofs.YtbgnaamdlcggjaaGreat
open Go Go.RowKit Go.Gv
def BG8(p:List Int)(sx:List A0)(l:List B0)(n:Int):Bool:=AN3 p sx l&&inb 0 8 n
def csN(p:List Int)(sx:List A0)(l:List B0)(n:Int):Nat:=if BG8 p sx l n=true/\(AA9 p sx l n.toNat).length<=20000 then (AA9 p sx l n.toNat).length else 0
def csB(p:List Int)(sx:List A0)(l:List B0)(n:Int):Bool:=BG8 p sx l n&&decide ((AA9 p sx l n.toNat).length<=20000)
structure WD (p:List Int) (sx:List A0) (l:List B0):Prop where
  p:p.length<=1048576
  s:sx.length<=1048576/\∀ x∈sx,x.Name.size<=1048576
  b:Wp l
theorem CC2{p:List Int}{sx:List A0}{l:List B0}{n:Int}{Q:Int->Bool->Prop}(w:WD p sx l)(hq:Q (csN p sx l n:Int) (csB p sx l n)):S8 ⟨p⟩ sx l n Q:=by
  unfold S8
  refine D3 (!BG8 p sx l n) ?_ fun k hk=>AQ4 (p:=p) w.p w.s.1 w.b (F8 (fun g=>?_) (fun g=>BM1 ?_))
  · refine F8 (fun g=>?_) (fun g'=>?_)
    · unfold csN csB at hq
      rw [g] at hq
      simpa using hq
    · have gg:=g'
      unfold BG8 at gg
      simp only [Bool.and_eq_true] at gg
      have hn:=U2.1 gg.2
      have en:((n.toNat:Nat):Int)=n:=by omega
      unfold csN csB at hq
      rw [g'] at hq
      have goal:G6 ⟨p⟩ sx l ((n.toNat:Nat):Int) ((20001:Nat):Int) (fun r41=>br (decide (r41>20000)) (Q 0 false) (Q r41 true)):=by
        refine CP4 (p:=p) (M:=20001) gg.1 (by omega) (by omega) (by omega) (E1 (fun g2=>?_) (fun g2=>?_))
        · have:¬ (AA9 p sx l n.toNat).length<=20000:=by omega
          rw [if_neg (fun c=>this c.2),decide_eq_false this] at hq; exact hq
        · have:(AA9 p sx l n.toNat).length<=20000:=by omega
          rw [if_pos ⟨rfl,this⟩,decide_eq_true this] at hq
          rw [Nat.min_eq_right (by omega)]; exact hq
      rw [en] at goal
      exact goal
  · unfold BG8 at hk; rw [g] at hk; exact hk
  · unfold BG8 at hk; rw [g,Bool.true_and] at hk; exact hk
end Go.Proofs.YtbgnaamdlcggjaaGreat
