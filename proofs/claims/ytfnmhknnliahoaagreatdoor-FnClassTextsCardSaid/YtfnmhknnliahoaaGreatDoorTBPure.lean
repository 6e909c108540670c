/- The plain law of MapText. -/
import Derived.Test.YtfnmhknnliahoaaGreatDoorTA
set_option linter.unusedVariables false
set_option autoImplicit false
namespace Go.Proofs.YtfnmhknnliahoaaGreatDoor
open Go Go.RowKit Go.Gv
def mln (p:List Int) (i:Nat) (k:Int):List UInt8:=Lib.repeatL [32,32] (dep p i)++dd i++(if k>0 then [32] else [])++Lib.repeatL [35] k.toNat++[10]
def mtx (p cs:List Int):Nat→List UInt8
  | 0=>[]
  | i+1=>mtx p cs i++mln p i (gi cs i)
theorem mln_len {p:List Int} {i:Nat} {k:Int} (h:gOk p=true) (hi:i<p.length) (hk:k≤8):(mln p i k).length≤100:=by
  have h1:=dep_le h i hi
  have h2:=(gOk_of h).1
  have h3:=dd_lenk 1 i (by omega)
  have h4:(if k>0 then [(32:UInt8)] else []).length≤1:=by split <;> simp
  unfold mln
  simp only [List.length_append,Lib.repeatL_length,List.length_cons,List.length_nil]
  omega
theorem mtx_len {p cs:List Int} (h:gOk p=true) (hc:∀ i,i<p.length→gi cs i≤8):∀ i,i≤p.length→(mtx p cs i).length≤100 * i
  | 0,_=>by simp [mtx]
  | i+1,hi=>by
    have h1:=mtx_len h hc i (by omega)
    have h2:=mln_len h (show i<p.length by omega) (hc i (by omega))
    unfold mtx
    rw [List.length_append]; omega
def mapIn (p cs:List Int):Bool:=gOk p&&(decide (cs.length=p.length)&&cs.all (inb 0 8))
def mapV (p cs:List Int):ByteArray:=if mapIn p cs=true then mb (mtx p cs cs.length) else mb []
theorem mapIn_of {p cs:List Int} (h:mapIn p cs=true):gOk p=true∧cs.length=p.length∧(∀ x∈cs,0≤x∧x≤8):=by
  unfold mapIn at h
  simp only [Bool.and_eq_true,decide_eq_true_eq] at h
  exact ⟨h.1,h.2.1,inb_all h.2.2⟩
theorem down_ok {R:ByteArray→Prop} (u o:List UInt8) (n:Nat) (hn:n≤100) (hu:u.length≤10) (ho:o.length≤100000) (h:R (mb (o++Lib.repeatL u n))) :
    Loop2 (fun (out:ByteArray) (d:Int) nx=>br (decide (d>0)) (sln out+sln (mb u)≤9223372036854775807∧(nx (out++mb u) (wr (d-1)))) (R out)) (mb o) (n:Int):=by
  refine ⟨fun out d=>∃ k:Nat,d=(k:Int)∧k≤n∧out=mb (o++Lib.repeatL u (n-k)),fun _ d=>d.toNat,⟨n,rfl,Nat.le_refl _,by rw [Nat.sub_self]; simp [Lib.repeatL]⟩,?_⟩
  rintro _ _ ⟨k,rfl,hk,rfl⟩
  have hl:(n-k) * u.length≤100 * 10:=Nat.mul_le_mul (by omega) hu
  refine br_dec (fun g=>⟨?_,⟨k-1,?_,by omega,?_⟩,?_⟩) (fun g=>?_)
  · rw [sln_mb,sln_mb,List.length_append,Lib.repeatL_length]; omega
  · rw [wr_in (by omega) (by omega)]; omega
  · rw [mb_app,List.append_assoc,← rep_succ,show n-k+1=n-(k-1) by omega]
  · rw [wr_in (by omega) (by omega)]
    show ((k:Int)-1).toNat<((k:Nat):Int).toNat
    omega
  · have:k=0:=by omega
    subst this; exact h
theorem sMap_ok {p cs:List Int} {Q:ByteArray→Bool→Prop} (hp:p.length≤1048576) (hc:cs.length≤1048576) (hq:Q (mapV p cs) (mapIn p cs)):spec_MapText ⟨p⟩ cs Q:=by
  unfold spec_MapText
  refine jn_bool (!mapIn p cs) ?_ fun k hk=>gGood_ok (p:=p) hp (br_nb (fun g=>?_) (fun g=>br_ne (fun g1=>?_) (fun g1=>l1All_ok hc ?_)))
  · refine br_nb (fun g=>?_) (fun g=>?_)
    · unfold mapV at hq; rw [g] at hq; exact hq
    · have ⟨hg,hl,hx⟩:=mapIn_of g
      have hlen:=(gOk_of hg).1
      have hcs:∀ i,i<p.length→gi cs i≤8:=fun i hi=>by rw [gi_at (show i<cs.length by omega)]; exact (hx _ (List.getElem_mem _)).2
      unfold mapV at hq; rw [g,if_pos rfl] at hq
      refine loop2_list (by omega) (fun out i=>out=mb (mtx p cs i)) rfl ?_ ?_
      · rintro _ i nx hi rfl hx'
        have hb:=mtx_len hg hcs i (by omega)
        have hdl:=dep_le hg i (by omega)
        have hdd:=dd_lenk 1 i (by omega)
        obtain ⟨c,hcc⟩:∃ c:Nat,cs[i]=(c:Int):=⟨cs[i].toNat,by have:=(hx _ (List.getElem_mem hi)).1; omega⟩
        have hc8:=(hx _ (List.getElem_mem hi)).2
        refine idx_at hi (gDepth_ok (p:=p) hg (by omega) (down_ok [32,32] _ (dep p i) (by omega) (by simp) (by omega) (l1Num_ok (by omega) ⟨?_,?_⟩)))
        · rw [sln_mb,sln_mb,List.length_append,Lib.repeatL_length]; simp only [List.length_cons,List.length_nil]; omega
        rw [mb_app]
        refine jn_bool (mb (mtx p cs i++Lib.repeatL [32,32] (dep p i)++dd i++if cs[i]>0 then [32] else [])) ?_ fun k hk=>br_dec (fun g1=>⟨?_,?_⟩) (fun g1=>?_)
        · have h4:(if cs[i]>0 then [(32:UInt8)] else []).length≤1:=by split <;> simp
          rw [hcc]
          rw [hcc] at h4
          refine down_ok [35] _ c (by omega) (by simp) ?_ ⟨?_,hx' _ ?_⟩
          · simp only [List.length_append,Lib.repeatL_length,List.length_cons,List.length_nil]; omega
          · rw [sln_mb,show sln (ByteArray.mk #[10])=1 from rfl]; simp only [List.length_append,Lib.repeatL_length,List.length_cons,List.length_nil]; omega
          · show mb _++mb [10]=_
            rw [mb_app,mtx,gi_at hi,mln,hcc,Int.toNat_natCast]
            simp only [List.append_assoc]
        · rw [sln_mb,show sln (ByteArray.mk #[32])=1 from rfl]; simp only [List.length_append,Lib.repeatL_length,List.length_cons,List.length_nil]; omega
        · rw [if_pos g1] at hk
          have:=mb_app (mtx p cs i++Lib.repeatL [32,32] (dep p i)++dd i) [32]
          rw [← this] at hk; exact hk
        · rw [if_neg g1,List.append_nil] at hk; exact hk
      · rintro _ rfl; exact hq
  · have:mapIn p cs=false:=by unfold mapIn; rw [g]; rfl
    rw [this] at hk; exact hk
  · have:mapIn p cs=false:=by unfold mapIn; rw [decide_eq_false (by unfold ln at g1; dsimp only at g1; omega:¬ cs.length=p.length)]; simp
    rw [this] at hk; exact hk
  · have:mapIn p cs=cs.all (inb 0 8):=by unfold mapIn; rw [g,decide_eq_true (by unfold ln at g1; dsimp only at g1; omega:cs.length=p.length)]; rfl
    rw [this] at hk; exact hk
theorem iMap_ok {p cs:List Int} {Q:ByteArray→Bool→Prop} (hp:p.length≤1048576) (hc:cs.length≤1048576) (hq:Q (mapV p cs) (mapIn p cs)):impl_MapText ⟨p⟩ cs Q:=by
  unfold impl_MapText
  refine jn_bool (!mapIn p cs) ?_ fun k hk=>IsGeo_ok (p:=p) hp (br_nb (fun g=>?_) (fun g=>br_ne (fun g1=>?_) (fun g1=>awithin_ok hc ?_)))
  · refine br_nb (fun g=>?_) (fun g=>?_)
    · unfold mapV at hq; rw [g] at hq; exact hq
    · have ⟨hg,hl,hx⟩:=mapIn_of g
      have hlen:=(gOk_of hg).1
      have hcs:∀ i,i<p.length→gi cs i≤8:=fun i hi=>by rw [gi_at (show i<cs.length by omega)]; exact (hx _ (List.getElem_mem _)).2
      unfold mapV at hq; rw [g,if_pos rfl] at hq
      refine loop2_list (by omega) (fun out i=>out=mb (mtx p cs i)) rfl ?_ ?_
      · rintro _ i nx hi rfl hx'
        have hb:=mtx_len hg hcs i (by omega)
        have hdl:=dep_le hg i (by omega)
        have hdd:=dd_lenk 1 i (by omega)
        obtain ⟨c,hcc⟩:∃ c:Nat,cs[i]=(c:Int):=⟨cs[i].toNat,by have:=(hx _ (List.getElem_mem hi)).1; omega⟩
        have hc8:=(hx _ (List.getElem_mem hi)).2
        refine idx_at hi (depthOf_ok (p:=p) hg (by omega) (Repeat_ok (l:=[32,32]) (n:=dep p i) (by simp) (by omega) (Itoa_ok (by omega) ⟨?_,?_⟩)))
        · rw [sln_mb,sln_mb,Lib.repeatL_length]; simp only [List.length_cons,List.length_nil]; omega
        rw [mb_app,mb_app]
        refine ⟨?_,?_⟩
        · rw [sln_mb,sln_mb,List.length_append,Lib.repeatL_length]; simp only [List.length_cons,List.length_nil]; omega
        refine jn_bool (mb (mtx p cs i++(Lib.repeatL [32,32] (dep p i)++dd i)++((if cs[i]>0 then [32] else [])++Lib.repeatL [35] cs[i].toNat))) ?_ fun k hk=>br_dec (fun g1=>?_) (fun g1=>?_)
        · have h4:(if cs[i]>0 then [(32:UInt8)] else []).length≤1:=by split <;> simp
          refine ⟨?_,hx' _ ?_⟩
          · rw [sln_mb]; simp only [List.length_append,Lib.repeatL_length,List.length_cons,List.length_nil]; omega
          · show mb _++mb [10]=_
            rw [mb_app,mtx,gi_at hi,mln]
            simp only [List.append_assoc]
        · rw [if_pos g1,hcc,Int.toNat_natCast] at hk
          rw [hcc]
          refine Repeat_ok (l:=[35]) (n:=c) (by simp) (by omega) ⟨?_,?_⟩
          · rw [sln_mb,show sln (ByteArray.mk #[32])=1 from rfl,Lib.repeatL_length]; simp only [List.length_cons,List.length_nil]; omega
          · rw [show ByteArray.mk #[32]=mb [32] from rfl,mb_app,mb_app]
            refine ⟨?_,hk⟩
            rw [sln_mb,sln_mb]; simp only [List.length_append,Lib.repeatL_length,List.length_cons,List.length_nil]; omega
        · rw [if_neg g1,show cs[i].toNat=0 by omega] at hk
          simpa [Lib.repeatL] using hk
      · rintro _ rfl; exact hq
  · have:mapIn p cs=false:=by unfold mapIn; rw [g]; rfl
    rw [this] at hk; exact hk
  · have:mapIn p cs=false:=by unfold mapIn; rw [decide_eq_false (by unfold ln at g1; dsimp only at g1; omega:¬ cs.length=p.length)]; simp
    rw [this] at hk; exact hk
  · have:mapIn p cs=cs.all (inb 0 8):=by unfold mapIn; rw [g,decide_eq_true (by unfold ln at g1; dsimp only at g1; omega:cs.length=p.length)]; rfl
    rw [this] at hk; exact hk
end Go.Proofs.YtfnmhknnliahoaaGreatDoor
