/- The plain law of 'FnFederated': what the walk computes answers true, whatever the bytes. -/
import Derived.Test.YtbgnaamdlcggjaaGreatFD
set_option linter.unusedVariables false
set_option autoImplicit false
namespace Go.Proofs.YtbgnaamdlcggjaaGreat
open Go Go.RowKit Go.Gv
theorem el_smGoC {C s:List (List Int)} {r m:Int} {n:Nat} (f:FP C s r m n) (hq:seedsIn s=true) {t:Nat} (ht:t<n):∀ j,j≤C.length→el (smGo m (shs C s r m) j) t=sumN (fun i=>el (C.getD i []) t+sumN (ctr s r m t i) s.length) j % m
  | 0,_=>by
    have h0:0<C.length:=by have:=f.c; have:=f.hs.1; omega
    have hN:shN (shs C s r m)=n:=by
      unfold shN shs
      rw [getD_get (by simpa using h0)]
      simp only [List.getElem_map,List.getElem_range]
      exact (shr1_ok f h0).1
    simp [smGo,sumN,el,List.getD_eq_getElem?_getD,hN,ht]
  | j+1,hj=>by
    have ih:=el_smGoC f hq ht j (by omega)
    have hin:=shs_in f
    have hg:=smGo_in hin j (by simp [shs]; omega)
    have hN:shN (shs C s r m)=n:=by
      have h0:0<C.length:=by omega
      unfold shN shs
      rw [getD_get (by simpa using h0)]
      simp only [List.getElem_map,List.getElem_range]
      exact (shr1_ok f h0).1
    rw [hN] at hg
    have hrow:(shs C s r m).getD j []=shr1 C s r m j:=by
      rw [getD_get (by simp [shs]; omega)]; simp [shs]
    have he:=f.e _ (List.getElem_mem (show j<C.length by omega))
    have hs1:=(shr1_ok f (show j<C.length by omega)).1
    rw [smGo,sumN,hrow,el_cmb (by omega) (by omega),ih,Int.one_mul,emod_step]
    unfold shr1
    rw [getD_get (show j<C.length by omega),el_cmb (by omega) (by rw [mkOf_length]; omega),Int.one_mul]
    unfold mkOf
    rw [el_mkGo (by omega),Int.add_comm (el C[j] t),emod_step,Int.add_comm,emod_step]
    congr 1
    omega
theorem fed_sum {C s:List (List Int)} {r m:Int} {n:Nat} (f:FP C s r m n) (hq:seedsIn s=true) {t:Nat} (ht:t<n):el (smOf m (shs C s r m)) t=sumN (fun i=>el (C.getD i []) t) C.length % m:=by
  have hl:(shs C s r m).length=C.length:=by simp [shs]
  unfold smOf
  rw [hl,el_smGoC f hq ht C.length (Nat.le_refl _),sumN_add,f.c,sumN_anti fun i k hi hk=>ctr_anti hq hi hk,Int.add_zero]
end Go.Proofs.YtbgnaamdlcggjaaGreat
