/- The plain law of ProfileText. -/
import Derived.Test.YtfnmhknnliahoaaGreatDoorTA
import Derived.Test.YtfnmhknnliahoaaGreatDoorFR
import Derived.Test.YtfnmhknnliahoaaGreatDoorSCPure
set_option linter.unusedVariables false
set_option autoImplicit false
namespace Go.Proofs.YtfnmhknnliahoaaGreatDoor
open Go Go.RowKit Go.Gv
def ftl (f:Frac):List UInt8:=dd f.Num.toNat++(if f.Den=1 then [] else 47 :: dd f.Den.toNat)
theorem fr_facts {v s:Int} (h0:0≤v) (h1:v≤s) (hs:0<s) (h2:s≤10000000):frIn v s=true∧fOk (frOf v s)∧0≤(frOf v s).Num:=by
  have hg:=gcd_pos' (n:=v) (d:=s) (by omega)
  have b1:=tdiv_abs_le (n:=v) hg
  have b2:=tdiv_abs_le (n:=s) hg
  have nn:0≤v.tdiv (Int.gcd v s):=Int.tdiv_nonneg h0 (by omega)
  have e1:frNum v s=v.tdiv (Int.gcd v s):=by unfold frNum; rw [if_neg (by omega)]
  have e2:=frDen_pos (n:=v) hs
  have hi:frIn v s=true:=by unfold frIn; rw [e1,e2]; exact decide_eq_true ⟨by omega,by omega,by omega⟩
  refine ⟨hi,fOk_of (by omega) hi,?_⟩
  unfold frOf; rw [if_pos hi]
  show 0≤frNum v s
  rw [e1]; exact nn
theorem ftl_len {f:Frac} (hf:fOk f) (h0:0≤f.Num):(ftl f).length≤39:=by
  have ⟨a,b,c⟩:=hf
  have h1:=dd_len f.Num.toNat (by omega)
  have h2:=dd_len f.Den.toNat (by omega)
  unfold ftl
  rw [List.length_append]
  split <;> simp <;> omega
theorem l1Int_ok {n:Nat} {Q:ByteArray→Prop} (hn:n≤9223372036854775000) (h:Q (mb (dd n))):spec_l1Int (n:Int) Q:=by
  unfold spec_l1Int
  exact br_dec (fun g=>by omega) (fun _=>l1Num_ok hn h)
theorem fText_ok {f:Frac} {Q:ByteArray→Prop} (hf:fOk f) (h0:0≤f.Num) (h:Q (mb (ftl f))):spec_fText f Q:=by
  have ⟨a,b,c⟩:=hf
  obtain ⟨n,hn⟩:∃ n:Nat,f.Num=n:=⟨f.Num.toNat,by omega⟩
  obtain ⟨d,hd⟩:∃ d:Nat,f.Den=d:=⟨f.Den.toNat,by omega⟩
  have l1:=dd_len n (by omega)
  have l2:=dd_len d (by omega)
  unfold spec_fText
  unfold ftl at h
  rw [hn,hd] at h ⊢
  rw [Int.toNat_natCast,Int.toNat_natCast] at h
  refine br_eq (fun g=>?_) (fun g=>?_)
  · rw [if_pos g,List.append_nil] at h
    exact l1Int_ok (by omega) h
  · rw [if_neg g] at h
    refine det1_of (mb (dd n)) (l1Int_ok (by omega) rfl) ⟨?_,det1_of (mb (dd d)) (l1Num_ok (by omega) rfl) ⟨?_,?_⟩⟩
    · rw [sln_mb,show sln (ByteArray.mk #[47])=1 from rfl]; omega
    · rw [show ByteArray.mk #[47]=mb [47] from rfl,mb_app,sln_mb,sln_mb,List.length_append]; simp only [List.length_cons,List.length_nil]; omega
    · rw [show ByteArray.mk #[47]=mb [47] from rfl,mb_app,mb_app,List.append_assoc]; exact h
theorem fracText_ok {f:Frac} {Q:ByteArray→Prop} (hf:fOk f) (h0:0≤f.Num) (h:Q (mb (ftl f))):impl_fracText f Q:=by
  have ⟨a,b,c⟩:=hf
  obtain ⟨n,hn⟩:∃ n:Nat,f.Num=n:=⟨f.Num.toNat,by omega⟩
  obtain ⟨d,hd⟩:∃ d:Nat,f.Den=d:=⟨f.Den.toNat,by omega⟩
  have l1:=dd_len n (by omega)
  have l2:=dd_len d (by omega)
  unfold impl_fracText impl_FracText
  refine isFrac_yes (f:=f) hf (br_false rfl ?_)
  unfold ftl at h
  dsimp only
  rw [hn,hd] at h ⊢
  rw [Int.toNat_natCast,Int.toNat_natCast] at h
  refine Itoa_ok (by omega) (jn_bool (mb (dd n++if (d:Int)=1 then [] else 47 :: dd d)) h fun k hk=>br_ne (fun g=>Itoa_ok (by omega) ?_) (fun g=>?_))
  · rw [if_neg g] at hk
    rw [show ByteArray.mk #[47]=mb [47] from rfl,mb_app,mb_app]
    refine ⟨?_,?_,hk⟩
    · rw [sln_mb,sln_mb]; simp only [List.length_cons,List.length_nil]; omega
    · rw [sln_mb,sln_mb,List.length_append]; simp only [List.length_cons,List.length_nil]; omega
  · rw [if_pos g,List.append_nil] at hk; exact hk
def ownC (cs:List Int) (n i:Nat):List Int:=(cs.drop (i * n)).take n
def pce (s x:Int):List UInt8:=32 :: (if s>0 then ftl (frOf x s) else [45])
def pcs (s:Int) (l:List Int):List UInt8:=(l.map (pce s)).flatten
def pln (a:Int) (l:List Int):List UInt8:=dd a.toNat++[58,32]++dd l.sum.toNat++pcs l.sum l++[10]
def ptx (ars cs:List Int) (n:Nat):Nat→List UInt8
  | 0=>[]
  | i+1=>ptx ars cs n i++pln (gi ars i) (ownC cs n i)
theorem pce_len {s x:Int} (h0:0≤x) (h1:x≤s) (h2:s≤10000000):(pce s x).length≤40:=by
  unfold pce
  rw [List.length_cons]
  split
  · have ⟨_,a,b⟩:=fr_facts h0 h1 (by assumption) h2
    have:=ftl_len a b; omega
  · simp
theorem pcs_len {s:Int} (h2:s≤10000000):∀ l:List Int,(∀ x∈l,0≤x∧x≤s)→(pcs s l).length≤40 * l.length
  | [],_=>by simp [pcs]
  | x :: l,h=>by
    have h3:=h x (List.mem_cons_self ..)
    have h4:=pce_len h3.1 h3.2 h2
    have h5:=pcs_len h2 l fun y hy=>h y (List.mem_cons_of_mem _ hy)
    unfold pcs at *
    rw [List.map_cons,List.flatten_cons,List.length_append,List.length_cons]; omega
theorem pcs_tk {s:Int} {l:List Int} {i:Nat} (hi:i<l.length):pcs s (l.take (i+1))=pcs s (l.take i)++pce s l[i]:=by
  unfold pcs
  rw [List.take_add_one,List.getElem?_eq_getElem hi,List.map_append,List.flatten_append]; simp
theorem mem_sum {l:List Int} (h:∀ x∈l,0≤x):∀ x∈l,x≤l.sum:=by
  induction l with
  | nil=>intro x hx; cases hx
  | cons a l ih =>
    intro x hx
    have h1:=h a (List.mem_cons_self ..)
    have hn:0≤l.sum:=by
      clear ih hx
      induction l with
      | nil=>simp
      | cons b l ih=>rw [List.sum_cons]; have:=h b (by simp); have:=ih (fun x hx=>h x (by simp at hx; rcases hx with e | e <;> simp [e])); omega
    rw [List.sum_cons]
    rcases List.mem_cons.1 hx with rfl | hx
    · omega
    · have:=ih (fun y hy=>h y (List.mem_cons_of_mem _ hy)) x hx; omega
structure OwnOk (l:List Int):Prop where
  len:l.length≤600
  in_:∀ x∈l,0≤x∧x≤10000
  sum:0≤l.sum∧l.sum≤6000000
  le:∀ x∈l,0≤x∧x≤l.sum
theorem ownC_ok {cs:List Int} {n:Nat} (i:Nat) (hn:n≤600) (hx:∀ x∈cs,0≤x∧x≤10000):OwnOk (ownC cs n i):=by
  have h1:(ownC cs n i).length≤600:=by unfold ownC; rw [List.length_take]; omega
  have h2:∀ x∈ownC cs n i,0≤x∧x≤10000:=fun x h=>hx x (List.mem_of_mem_drop (List.mem_of_mem_take h))
  have h3:=sum_in h1 h2
  exact ⟨h1,h2,by omega,fun x h=>⟨(h2 x h).1,mem_sum (fun y hy=>(h2 y hy).1) x h⟩⟩
theorem pln_len {a:Int} {l:List Int} (ha:0≤a∧a≤1000) (o:OwnOk l):(pln a l).length≤25000:=by
  have h1:=dd_len a.toNat (by omega)
  have h2:=dd_len l.sum.toNat (by have:=o.sum; omega)
  have h3:=pcs_len (s:=l.sum) (by have:=o.sum; omega) l o.le
  have h4:=o.len
  unfold pln
  simp only [List.length_append,List.length_cons,List.length_nil]; omega
theorem ptx_len {ars cs:List Int} {n:Nat} (hn:n≤600) (hx:∀ x∈cs,0≤x∧x≤10000) (ha:∀ x∈ars,0≤x∧x≤1000):∀ i,i≤ars.length→(ptx ars cs n i).length≤25000 * i
  | 0,_=>by simp [ptx]
  | i+1,hi=>by
    have h1:=ptx_len hn hx ha i (by omega)
    have h2:=pln_len (a:=gi ars i) (by rw [gi_at (show i<ars.length by omega)]; exact ha _ (List.getElem_mem _)) (ownC_ok i hn hx)
    unfold ptx
    rw [List.length_append]; omega
def proIn (p:List Int) (sx:List Variable) (t:Table) (cs:List Int):Bool:=((gOk p&&schOk sx)&&tOk p sx t)&&(decide (cs.length=cellN p sx t)&&cs.all (inb 0 10000))
def proV (p:List Int) (sx:List Variable) (t:Table) (cs:List Int):ByteArray:=if proIn p sx t cs=true then mb (ptx (lev p t.Level) cs (cnt (part sx t.Vars)) (lev p t.Level).length) else mb []
structure ProOk (p:List Int) (sx:List Variable) (t:Table) (cs:List Int):Prop where
  g:gOk p=true
  s:Lok sx
  v:Vin sx.length t.Vars
  len:cs.length=(lev p t.Level).length * cnt (part sx t.Vars)
  in_:∀ x∈cs,0≤x∧x≤10000
  n:cnt (part sx t.Vars)≤600
  c:cs.length≤600
  a:(lev p t.Level).length≤30∧0<(lev p t.Level).length
  ars:∀ x∈lev p t.Level,0≤x∧x≤1000
theorem proIn_of {p:List Int} {sx:List Variable} {t:Table} {cs:List Int} (h:proIn p sx t cs=true):ProOk p sx t cs:=by
  unfold proIn at h
  simp only [Bool.and_eq_true,decide_eq_true_eq] at h
  obtain ⟨⟨⟨h1,h2⟩,h3⟩,h4,h5⟩:=h
  have h3':=h3
  unfold tOk at h3'
  simp only [Bool.and_eq_true,decide_eq_true_eq] at h3'
  have hL:=Lok_of h2
  have hV:=Vin_of h3'.1.1.1
  have hc:=(cnt_small' (part_Lok hL hV)).1
  have hlen:=(gOk_of h1).1
  have hpl:=pick_len (f:=fun i=>decide ((dep p i:Int)=t.Level)) (n:=p.length)
  have hpos:0<(lev p t.Level).length:=by
    refine Nat.pos_of_ne_zero fun e=>?_
    have:=h3'.2.1; unfold cellN at this; rw [e] at this; simp at this
  have hle:cnt (part sx t.Vars)≤cellN p sx t:=by unfold cellN; exact Nat.le_mul_of_pos_left _ hpos
  refine ⟨h1,hL,hV,h4,inb_all h5,by omega,by omega,⟨by unfold lev; omega,hpos⟩,fun x hx=>?_⟩
  obtain ⟨i,rfl,hi,_⟩:=mem_pick.1 hx
  omega
theorem iPro_ok {p:List Int} {sx:List Variable} {t:Table} {cs:List Int} {Q:ByteArray→Bool→Prop} (hp:p.length≤1048576) (hs:sx.length≤1048576) (hv:t.Vars.length≤1048576) (hc:cs.length≤1048576) (hq:Q (proV p sx t cs) (proIn p sx t cs)):impl_ProfileText ⟨p⟩ sx t cs Q:=by
  unfold impl_ProfileText
  refine jn_bool (!proIn p sx t cs) ?_ fun k hk=>areTabled_ok (p:=p) (t:=t) hp hs hv (br_nb (fun g=>?_) (fun g=>?_))
  · refine br_nb (fun g=>?_) (fun g=>?_)
    · unfold proV at hq; rw [g] at hq; exact hq
    · have o:=proIn_of g
      unfold proV at hq; rw [g,if_pos rfl] at hq
      have ha:=o.a
      have hn:=o.n
      refine areasAt_ok (p:=p) o.g ?_
      generalize hA:lev p t.Level=ars at *
      generalize hN:cnt (part sx t.Vars)=n at *
      have hlen:=o.len
      rw [hA,hN] at hlen
      have hin:=o.in_
      have has:=o.ars
      rw [hA] at has
      have hcl:=o.c
      refine ⟨by unfold ln; omega,?_⟩
      have ed:wr (Int.tdiv (ln cs) (ln ars))=(n:Int):=by
        have e:ln cs=(ars.length:Int) * (n:Int):=by unfold ln; rw [hlen,Int.natCast_mul]
        rw [e,show ln ars=(ars.length:Int) from rfl,Int.mul_tdiv_cancel_left _ (by omega),wr_in (by omega) (by omega)]
      rw [ed]
      refine loop2_list (by omega) (fun out i=>out=mb (ptx ars cs n i)) rfl ?_ ?_
      · rintro _ i nx hi rfl hx
        have hb:=ptx_len hn hin has i (by omega)
        have hmul:(i+1) * n≤cs.length:=by rw [hlen]; exact Nat.mul_le_mul_right _ hi
        have hsm:(i+1) * n=i * n+n:=Nat.succ_mul i n
        have e1:wr ((i:Int) * (n:Int))=((i * n:Nat):Int):=by rw [← Int.natCast_mul,wr_in (by omega) (by omega)]
        have e2:wr (wr ((i:Int)+1) * (n:Int))=(((i+1) * n:Nat):Int):=by
          rw [wr_in (x:=(i:Int)+1) (by omega) (by omega),show (i:Int)+1=((i+1:Nat):Int) by omega,← Int.natCast_mul,wr_in (by omega) (by omega)]
        rw [e1,e2]
        have e3:List.take (Int.toNat (((i+1) * n:Nat):Int)-Int.toNat ((i * n:Nat):Int)) (List.drop (Int.toNat ((i * n:Nat):Int)) cs)=ownC cs n i:=by
          rw [Int.toNat_natCast,Int.toNat_natCast,show (i+1) * n-i * n=n by omega]; rfl
        rw [e3]
        have w:=ownC_ok (cs:=cs) i hn hin
        have w1:=w.len
        have w2:=w.sum
        have hai:=has _ (List.getElem_mem hi)
        obtain ⟨a,haa⟩:∃ a:Nat,ars[i]=(a:Int):=⟨ars[i].toNat,by omega⟩
        have hpl:ptx ars cs n (i+1)=ptx ars cs n i++pln ars[i] (ownC cs n i):=by rw [ptx,gi_at hi]
        have hb2:=pln_len hai w
        unfold pln at hpl hb2
        generalize ownC cs n i=l at *
        obtain ⟨s,hss⟩:∃ s:Nat,l.sum=(s:Int):=⟨l.sum.toNat,by omega⟩
        refine idx_at hi ⟨by omega,by omega,by unfold ln; omega,total_okT (by omega) w.in_ ?_⟩
        have d1:=dd_len a (by omega)
        have d2:=dd_len s (by omega)
        have hle:=w.le
        rw [haa] at hpl hb2 ⊢
        rw [hss] at hpl hb2 hle ⊢
        rw [Int.toNat_natCast,Int.toNat_natCast] at hpl hb2
        have hb3:=hb2
        simp only [List.length_append,List.length_cons,List.length_nil] at hb3
        refine Itoa_ok (by omega) ?_
        rw [show ByteArray.mk #[58,32]=mb [58,32] from rfl,mb_app]
        refine ⟨by rw [sln_mb,sln_mb]; simp only [List.length_cons,List.length_nil]; omega,Itoa_ok (by omega) ?_⟩
        rw [mb_app,mb_app]
        refine ⟨by rw [sln_mb,sln_mb]; simp only [List.length_append,List.length_cons,List.length_nil]; omega,by rw [sln_mb,sln_mb]; simp only [List.length_append,List.length_cons,List.length_nil]; omega,?_⟩
        refine loop2_list (by omega) (fun out j=>out=mb (ptx ars cs n i++(dd a++[58,32]++dd s)++pcs (s:Int) (l.take j))) (by simp [pcs]) ?_ ?_
        · rintro _ j nx2 hj rfl hx2
          have hj2:=hle _ (List.getElem_mem hj)
          have q1:=pcs_len (s:=(s:Int)) (by omega) (l.take j) fun x hx=>hle x (List.mem_of_mem_take hx)
          have q2:=pce_len hj2.1 hj2.2 (by omega)
          rw [List.length_take] at q1
          refine idx_at hj (jn_bool (mb (if (s:Int)>0 then ftl (frOf l[j] s) else [45])) ⟨?_,?_⟩ fun k hk=>br_dec (fun g1=>?_) (fun g1=>?_))
          · unfold pce at q2
            rw [List.length_cons] at q2
            rw [sln_mb,show sln (ByteArray.mk #[32])=1 from rfl]; omega
          · rw [show ByteArray.mk #[32]=mb [32] from rfl,mb_app,mb_app]
            refine ⟨?_,hx2 _ ?_⟩
            · unfold pce at q2
              rw [List.length_cons] at q2
              rw [sln_mb,sln_mb]; simp only [List.length_append,List.length_cons,List.length_nil]; omega
            · rw [pcs_tk hj]; unfold pce; simp only [List.append_assoc]; rfl
          · have ⟨f1,f2,f3⟩:=fr_facts hj2.1 hj2.2 g1 (by omega)
            refine reduced_ok (by unfold sml; omega) (by unfold sml; omega) (by omega) ?_
            rw [f1]
            refine br_false rfl (fracText_ok (f:=frOf l[j] s) f2 f3 ?_)
            rw [if_pos g1] at hk; exact hk
          · rw [if_neg g1] at hk; exact hk
        · rintro _ rfl
          rw [List.take_length]
          refine ⟨?_,hx _ ?_⟩
          · rw [sln_mb]; simp only [List.length_append,List.length_cons,List.length_nil]; omega
          · show mb _++mb [10]=_
            rw [mb_app,hpl]; simp only [List.append_assoc]
      · rintro _ rfl; exact hq
  · have:proIn p sx t cs=false:=by unfold proIn; rw [g]; rfl
    rw [this] at hk; exact hk
  · have g':=g
    simp only [Bool.and_eq_true] at g'
    have hT:=g'.2
    unfold tOk at hT
    simp only [Bool.and_eq_true,decide_eq_true_eq] at hT
    refine cellCount_ok (p:=p) (t:=t) g'.1.1 (Lok_of g'.1.2) (Vin_of hT.1.1.1) (br_ne (fun g1=>?_) (fun g1=>awithin_ok hc ?_))
    · have:proIn p sx t cs=false:=by unfold proIn; rw [decide_eq_false (by unfold ln at g1; omega:¬ cs.length=cellN p sx t)]; simp
      rw [this] at hk; exact hk
    · have:proIn p sx t cs=cs.all (inb 0 10000):=by unfold proIn; rw [g,decide_eq_true (by unfold ln at g1; omega:cs.length=cellN p sx t)]; rfl
      rw [this] at hk; exact hk
theorem sPro_ok {p:List Int} {sx:List Variable} {t:Table} {cs:List Int} {Q:ByteArray→Bool→Prop} (hp:p.length≤1048576) (hs:sx.length≤1048576∧∀ x∈sx,x.Name.size≤1048576) (hv:t.Vars.length≤1048576) (hc:cs.length≤1048576) (hq:Q (proV p sx t cs) (proIn p sx t cs)):spec_ProfileText ⟨p⟩ sx t cs Q:=by
  unfold spec_ProfileText
  refine jn_bool (!proIn p sx t cs) ?_ fun k hk=>uGood_ok (p:=p) (t:=t) hp hs.1 hs.2 hv (br_nb (fun g=>?_) (fun g=>?_))
  · refine br_nb (fun g=>?_) (fun g=>?_)
    · unfold proV at hq; rw [g] at hq; exact hq
    · have o:=proIn_of g
      unfold proV at hq; rw [g,if_pos rfl] at hq
      have ha:=o.a
      have hn:=o.n
      refine sPart_ok o.s o.v (sCount_ok (part_Lok o.s o.v) (gLevel_ok (p:=p) o.g ?_))
      generalize hA:lev p t.Level=ars at *
      generalize hN:cnt (part sx t.Vars)=n at *
      have hlen:=o.len
      rw [hA,hN] at hlen
      have hin:=o.in_
      have has:=o.ars
      rw [hA] at has
      have hcl:=o.c
      refine loop2_list (by omega) (fun out i=>out=mb (ptx ars cs n i)) rfl ?_ ?_
      · rintro _ i nx hi rfl hx
        have hb:=ptx_len hn hin has i (by omega)
        have hmul:(i+1) * n≤cs.length:=by rw [hlen]; exact Nat.mul_le_mul_right _ hi
        have hsm:(i+1) * n=i * n+n:=Nat.succ_mul i n
        have e1:wr ((i:Int) * (n:Int))=((i * n:Nat):Int):=by rw [← Int.natCast_mul,wr_in (by omega) (by omega)]
        have e2:wr (wr ((i:Int)+1) * (n:Int))=(((i+1) * n:Nat):Int):=by
          rw [wr_in (x:=(i:Int)+1) (by omega) (by omega),show (i:Int)+1=((i+1:Nat):Int) by omega,← Int.natCast_mul,wr_in (by omega) (by omega)]
        rw [e1,e2]
        have e3:List.take (Int.toNat (((i+1) * n:Nat):Int)-Int.toNat ((i * n:Nat):Int)) (List.drop (Int.toNat ((i * n:Nat):Int)) cs)=ownC cs n i:=by
          rw [Int.toNat_natCast,Int.toNat_natCast,show (i+1) * n-i * n=n by omega]; rfl
        rw [e3]
        have w:=ownC_ok (cs:=cs) i hn hin
        have w1:=w.len
        have w2:=w.sum
        have hai:=has _ (List.getElem_mem hi)
        obtain ⟨a,haa⟩:∃ a:Nat,ars[i]=(a:Int):=⟨ars[i].toNat,by omega⟩
        have hpl:ptx ars cs n (i+1)=ptx ars cs n i++pln ars[i] (ownC cs n i):=by rw [ptx,gi_at hi]
        have hb2:=pln_len hai w
        unfold pln at hpl hb2
        generalize ownC cs n i=l at *
        obtain ⟨s,hss⟩:∃ s:Nat,l.sum=(s:Int):=⟨l.sum.toNat,by omega⟩
        refine idx_at hi ⟨by omega,by omega,by unfold ln; omega,tSum_okT (by omega) w.in_ ?_⟩
        have d1:=dd_len a (by omega)
        have d2:=dd_len s (by omega)
        have hle:=w.le
        rw [haa] at hpl hb2 ⊢
        rw [hss] at hpl hb2 hle ⊢
        rw [Int.toNat_natCast,Int.toNat_natCast] at hpl hb2
        have hb3:=hb2
        simp only [List.length_append,List.length_cons,List.length_nil] at hb3
        refine l1Num_ok (by omega) ?_
        rw [show ByteArray.mk #[58,32]=mb [58,32] from rfl,mb_app]
        refine ⟨by rw [sln_mb,sln_mb]; simp only [List.length_cons,List.length_nil]; omega,l1Num_ok (by omega) ?_⟩
        rw [mb_app,mb_app]
        refine ⟨by rw [sln_mb,sln_mb]; simp only [List.length_append,List.length_cons,List.length_nil]; omega,by rw [sln_mb,sln_mb]; simp only [List.length_append,List.length_cons,List.length_nil]; omega,?_⟩
        refine loop2_list (by omega) (fun out j=>out=mb (ptx ars cs n i++(dd a++[58,32]++dd s)++pcs (s:Int) (l.take j))) (by simp [pcs]) ?_ ?_
        · rintro _ j nx2 hj rfl hx2
          have hj2:=hle _ (List.getElem_mem hj)
          have q1:=pcs_len (s:=(s:Int)) (by omega) (l.take j) fun x hx=>hle x (List.mem_of_mem_take hx)
          have q2:=pce_len hj2.1 hj2.2 (by omega)
          rw [List.length_take] at q1
          refine jn_bool (mb (ptx ars cs n i++(dd a++[58,32]++dd s)++pcs (s:Int) (l.take j)++pce s l[j])) (hx2 _ (by rw [pcs_tk hj]; simp only [List.append_assoc])) fun k hk=>idx_at hj (br_eq (fun g1=>⟨?_,?_⟩) (fun g1=>?_))
          · rw [sln_mb,show sln (ByteArray.mk #[32,45])=2 from rfl]; simp only [List.length_append,List.length_cons,List.length_nil]; omega
          · unfold pce at hk
            rw [if_neg (by omega)] at hk
            rw [show ByteArray.mk #[32,45]=mb [32,45] from rfl,mb_app]; exact hk
          · have ⟨f1,f2,f3⟩:=fr_facts hj2.1 hj2.2 (by omega) (by omega)
            refine fMake_ok (by unfold sml; omega) (by unfold sml; omega) ?_
            rw [if_neg g1]
            refine fText_ok (f:=frOf l[j] s) f2 f3 ?_
            have q3:=ftl_len f2 f3
            unfold pce at hk
            rw [if_pos (by omega)] at hk
            rw [show ByteArray.mk #[32]=mb [32] from rfl,mb_app,mb_app]
            refine ⟨?_,?_,hk⟩
            · rw [sln_mb,sln_mb]; simp only [List.length_append,List.length_cons,List.length_nil]; omega
            · rw [sln_mb,sln_mb]; simp only [List.length_append,List.length_cons,List.length_nil]; omega
        · rintro _ rfl
          rw [List.take_length]
          refine ⟨?_,hx _ ?_⟩
          · rw [sln_mb,show sln (ByteArray.mk #[10])=1 from rfl]; simp only [List.length_append,List.length_cons,List.length_nil]; omega
          · show mb _++mb [10]=_
            rw [mb_app,hpl]; simp only [List.append_assoc]
      · rintro _ rfl; exact hq
  · have:proIn p sx t cs=false:=by unfold proIn; rw [g]; rfl
    rw [this] at hk; exact hk
  · have g':=g
    simp only [Bool.and_eq_true] at g'
    have hT:=g'.2
    unfold tOk at hT
    simp only [Bool.and_eq_true,decide_eq_true_eq] at hT
    refine uCount_ok (p:=p) (t:=t) g'.1.1 (Lok_of g'.1.2) (Vin_of hT.1.1.1) (br_ne (fun g1=>?_) (fun g1=>l1All_ok hc ?_))
    · have:proIn p sx t cs=false:=by unfold proIn; rw [decide_eq_false (by unfold ln at g1; omega:¬ cs.length=cellN p sx t)]; simp
      rw [this] at hk; exact hk
    · have:proIn p sx t cs=cs.all (inb 0 10000):=by unfold proIn; rw [g,decide_eq_true (by unfold ln at g1; omega:cs.length=cellN p sx t)]; rfl
      rw [this] at hk; exact hk
end Go.Proofs.YtfnmhknnliahoaaGreatDoor
