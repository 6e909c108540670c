/- Plain facts: the program's search gives the edits that the reference's search gives. -/
import Derived.Test.YtbgnaamdlcggjaaGreatPG
set_option linter.unusedVariables false
set_option autoImplicit false
namespace Go.Proofs.YtbgnaamdlcggjaaGreat
open Go Go.RowKit Go.Gv
def keyN:Nat→List Variable→List Int→Nat
  | a,x :: r,s :: t=>keyN (a * 2 ^ lv x+s.toNat) r t
  | a,_,_=>a
def keyI (sx:List Variable) (t:List Int):Int:=(keyN 0 sx t:Int)
/-- Sets of levels. -/
def inB:List Variable→List Int→Prop
  | [],[]=>True
  | x :: r,s :: t=>(0≤s∧s≤full x)∧inB r t
  | _,_=>False
theorem inB_length:∀ {r:List Variable} {t:List Int},inB r t→t.length=r.length
  | [],[],_=>rfl
  | x :: r,s :: t,h=>by simp [inB_length h.2]
theorem inB_at:∀ {r:List Variable} {t:List Int} (i:Nat) (h:inB r t) (hi:i<r.length) (hi':i<t.length),0≤t[i]∧t[i]≤full r[i]
  | x :: r,s :: t,0,h,_,_=>h.1
  | x :: r,s :: t,i+1,h,hi,hi'=>by simpa using inB_at (r:=r) (t:=t) i h.2 (by simpa using hi) (by simpa using hi')
theorem inE_B {v:Int}:∀ {r:List Variable} {n:Nat} {t:List Int},Rok r→inE v n r t→inB r t
  | [],_,[],_,_=>trivial
  | x :: r,n,s :: t,hr,h=>by
    have ⟨_,h3,_,_⟩:=hr.head
    have:=frs_at (v:=v) (n:=n) h3
    exact ⟨by have:=h.1; omega,inE_B hr.tail h.2⟩
theorem inB_Sb {sx:List Variable} {t:List Int} (hL:Lok sx) (h:inB sx t):Sb t:=fun s hs=>by
  obtain ⟨i,hi,rfl⟩:=List.mem_iff_getElem.1 hs
  have hl:=inB_length h
  have:=inB_at i h (by omega) hi
  have:=full_at hL (show i<sx.length by omega)
  omega
theorem key_inj:∀ {r:List Variable} {t t':List Int} {a a':Nat},Rok r→inB r t→inB r t'→keyN a r t=keyN a' r t'→a=a'∧t=t'
  | [],[],[],a,a',_,_,_,h=>⟨h,rfl⟩
  | x :: r,s :: t,s' :: t',a,a',hr,h1,h2,h=>by
    have ⟨h3,h4⟩:=key_inj (r:=r) hr.tail h1.2 h2.2 h
    have ⟨_,_,_,h5⟩:=hr.head
    have b1:s.toNat<2 ^ lv x:=by have:=h1.1; omega
    have b2:s'.toNat<2 ^ lv x:=by have:=h2.1; omega
    have hp:0<2 ^ lv x:=Nat.pow_pos (by decide)
    have e1:a=a':=by
      have:=congrArg (· / 2 ^ lv x) h3
      simp only [Nat.mul_comm _ (2 ^ lv x)] at this
      rwa [Nat.mul_add_div hp,Nat.mul_add_div hp,Nat.div_eq_of_lt b1,Nat.div_eq_of_lt b2,Nat.add_zero,Nat.add_zero] at this
    subst e1
    have:=h1.1; have:=h2.1
    have e2:s=s':=by omega
    subst e2 h4
    exact ⟨rfl,rfl⟩
theorem keyI_inj {sx:List Variable} {t t':List Int} (hL:Lok sx) (h1:inB sx t) (h2:inB sx t') (h:keyI sx t=keyI sx t'):t=t' :=
  (key_inj (a:=0) (a':=0) hL.2 h1 h2 (by unfold keyI at h; omega)).2
theorem editKey_ok {sx:List Variable} {t:List Int} {Q:Int→Prop} (hL:Lok sx) (h:inB sx t) (hq:Q (keyI sx t)):impl_editKey sx t Q:=by
  have h0:=hL.1
  have hl:=inB_length h
  unfold impl_editKey
  refine loop2_list (by omega) (fun k i=>∃ a:Nat,k=(a:Int)∧a<2 ^ (8 * i)∧keyN a (sx.drop i) (t.drop i)=keyN 0 sx t) ⟨0,rfl,by simp,rfl⟩ ?_ ?_
  · rintro _ i nx hi ⟨a,rfl,ha,hk⟩ hx
    have hi':i<sx.length:=by omega
    have ⟨e,h1,h2⟩:=lv_at hL hi'
    have hb:=inB_at i h hi' hi
    have hf:=full_at hL hi'
    refine idx_at hi (idx_at hi' ⟨by omega,?_⟩)
    have hp8:=pow8 h2
    have hpe:((2 ^ lv sx[i]:Nat):Int)=full sx[i]+1:=by unfold full; omega
    have hs:t[i].toNat<2 ^ lv sx[i]:=by omega
    have hlt:a * 2 ^ lv sx[i]+t[i].toNat<2 ^ (8 * (i+1)):=by
      have e1:(2:Nat) ^ (8 * (i+1))=2 ^ (8 * i) * 256:=by rw [Nat.mul_add,Nat.pow_add]
      have e2:(a+1) * 2 ^ lv sx[i]≤2 ^ (8 * i) * 256:=Nat.mul_le_mul ha hp8
      rw [Nat.add_mul,Nat.one_mul] at e2
      omega
    have hle:(2:Nat) ^ (8 * (i+1))≤2 ^ 48:=Nat.pow_le_pow_right (by decide) (by omega)
    have e48:(2:Nat) ^ 48=281474976710656:=by decide
    have e62:(2:Nat) ^ 62=4611686018427387904:=by decide
    have e63:(2:Nat) ^ 63=9223372036854775808:=by decide
    have eor:a * 2 ^ lv sx[i] ||| t[i].toNat=a * 2 ^ lv sx[i]+t[i].toNat:=by
      rw [Nat.mul_comm,Nat.two_pow_add_eq_or_of_lt hs]
    have ek:bits .or .i64 (shl .i64 (a:Int) sx[i].Levels) t[i]=((a * 2 ^ lv sx[i]+t[i].toNat:Nat):Int):=by
      rw [← e,shl_nat (by omega) (by omega)]
      have:=or_nat (a:=a * 2 ^ lv sx[i]) (b:=t[i].toNat) (by omega) (by omega)
      rw [eor,show ((t[i].toNat:Nat):Int)=t[i] by omega] at this
      exact this
    rw [ek]
    refine hx _ ⟨_,rfl,hlt,?_⟩
    rw [List.drop_eq_getElem_cons hi',List.drop_eq_getElem_cons hi] at hk
    exact hk
  · rintro _ ⟨a,rfl,ha,hk⟩
    rw [List.drop_eq_nil_of_le (Nat.le_refl t.length)] at hk
    have:a=keyN 0 sx t:=by
      rw [← hk]; cases List.drop t.length sx <;> rfl
    rw [this]; exact hq
theorem mget_mput {m:List (Int×Bool)} {i k:Int}:mget (mput m i true) k false=(decide (k=i) || mget m k false):=by
  induction m with
  | nil=>simp only [mput,mget]; split <;> simp [*]
  | cons p m ih =>
    obtain ⟨j,b⟩:=p
    simp only [mput]
    split
    · subst_vars; simp only [mget]; split <;> simp [*]
    · simp only [mget]; split
      · rename_i h1 h2
        have:¬ k=i:=by omega
        simp [this]
      · exact ih
def addM (sx:List Variable) (m:List (Int×Bool)) (A:List (List Int)):List (Int×Bool):=A.foldl (fun m t=>mput m (keyI sx t) true) m
theorem mget_addM {sx:List Variable} {k:Int}:∀ {A:List (List Int)} {m:List (Int×Bool)},mget (addM sx m A) k false=(A.any (fun t=>decide (k=keyI sx t)) || mget m k false)
  | [],m=>by simp [addM]
  | t :: A,m=>by
    have:=mget_addM (sx:=sx) (k:=k) (A:=A) (m:=mput m (keyI sx t) true)
    unfold addM at *
    rw [List.foldl_cons,this,mget_mput,List.any_cons]
    cases A.any _ <;> cases decide (k=keyI sx t) <;> rfl
theorem addM_append {sx:List Variable} {m:List (Int×Bool)} {A B:List (List Int)}:addM sx (addM sx m A) B=addM sx m (A++B):=by unfold addM; rw [List.foldl_append]
def in0 (sx:List Variable) (l:List Edit):List Bool:=(List.range (cnt sx)).map fun i=>failsB l (vals sx i)
theorem failing_ok {sx:List Variable} {l:List Edit} {Q:List Bool→Prop} (hL:Lok sx) (he:Eok sx.length l) (hq:Q (in0 sx l)):impl_failing sx l Q:=by
  have h0:=hL.1
  have hc:=cnt_small' hL
  unfold impl_failing
  refine combinations_ok hL ⟨by omega,by omega,?_⟩
  have hlen:(List.replicate (Int.toNat (cnt sx:Int)) false).length=cnt sx:=by simp
  refine loop2_list (by omega) (fun o i=>o.length=cnt sx∧o.take i=(in0 sx l).take i) ⟨by simp,by simp⟩ (fun o i nx hi ⟨h1,h2⟩ hx=>?_) (fun o ⟨h1,h2⟩=>?_)
  · have hi':i<cnt sx:=by omega
    refine valuesAt_ok hL (by omega) (failsOne_ok (by rw [vals_length]; exact he) (vals_ok i hL.2) (by rw [vals_length]; omega) ⟨by omega,by omega,?_⟩)
    have hl:(in0 sx l).length=cnt sx:=by simp [in0]
    refine hx _ ⟨by simpa using h1,?_⟩
    have:=set_done (xs:=o) (ys:=in0 sx l) (i:=i) (by omega) (by omega) h2
    rw [Int.toNat_natCast]
    have e:(in0 sx l)[i]'(by omega)=failsB l (vals sx i):=by simp [in0]
    rw [e] at this; exact this
  · have:o=in0 sx l:=eq_of_take (n:=cnt sx) (by rw [hlen] at h2; exact h2) h1 (by simp [in0])
    rw [this]; exact hq
def stp (x:Variable) (inx:List Bool) (s:Int):List Bool :=
  (List.range (inx.length / lv x)).map fun (i:Nat)=>(List.range (lv x)).all fun (y:Nat) => !tb s (y:Int) || inx.getD (y * (inx.length / lv x)+i) false
def fs:List Variable→List Bool→List Int→Bool
  | [],inx,_=>inx.getD 0 false
  | x :: r,inx,s :: t=>fs r (stp x inx s) t
  | _ :: _,_,[]=>false
def resI (v:Int) (n:Nat) (r:List Variable) (inx:List Bool) (sets:List Int):List (List Int):=((enum v n r).filter (fs r inx)).map fun t=>sets++t
theorem resI_nil {v:Int} {n:Nat} {inx:List Bool} {sets:List Int}:resI v n [] inx sets=if inx.getD 0 false then [sets] else []:=by
  unfold resI enum
  cases h:inx.getD 0 false <;> simp only [List.filter_cons,List.filter_nil,fs,h] <;> simp
theorem resI_cons {v:Int} {n:Nat} {x:Variable} {r:List Variable} {inx:List Bool} {sets:List Int}:resI v n (x :: r) inx sets=(chs v n x).flatMap fun s=>resI v (n+1) r (stp x inx s) (sets++[s]):=by
  unfold resI
  simp only [enum,List.filter_flatMap,List.map_flatMap,List.filter_map,List.map_map]
  congr 1; funext s
  simp only [Function.comp_def,List.append_assoc,List.singleton_append,fs]
theorem resI_length {v:Int} {n:Nat} {r:List Variable} {inx:List Bool} {sets:List Int}:(resI v n r inx sets).length≤(enum v n r).length:=by
  unfold resI; rw [List.length_map]; exact List.length_filter_le ..
theorem bit_in {s:Int} {L:Nat} (h:1≤s) (h2:s<((2 ^ L:Nat):Int)):∃ y:Nat,y<L∧tb s (y:Int)=true:=by
  obtain ⟨y,hy⟩:=Nat.exists_testBit_of_ne_zero (x:=s.toNat) (by omega)
  refine ⟨y,?_,by unfold tb; rw [Int.toNat_natCast]; exact hy⟩
  apply Nat.lt_of_not_le
  intro hL
  have:=Nat.testBit_lt_two_pow (x:=s.toNat) (i:=y) (Nat.lt_of_lt_of_le (by omega) (Nat.pow_le_pow_right (by decide) hL))
  rw [this] at hy; cases hy
theorem getD_none {l:List Bool} (h:∀ b∈l,b=false) (i:Nat):l.getD i false=false:=by
  rw [List.getD_eq_getElem?_getD]
  cases e:l[i]? with
  | none=>rfl
  | some b=>exact h b (List.mem_of_getElem? e)
theorem fs_none {v:Int}:∀ {r:List Variable} {n:Nat} {inx:List Bool} {t:List Int},Rok r→(∀ b∈inx,b=false)→inE v n r t→fs r inx t=false
  | [],_,inx,_,_,h,_=>getD_none h 0
  | x :: r,n,inx,s :: t,hr,h,hi=>by
    have ⟨_,h3,_,h5⟩:=hr.head
    have:=frs_at (v:=v) (n:=n) h3
    refine fs_none (v:=v) (r:=r) hr.tail (fun b hb=>?_) hi.2
    obtain ⟨i,hi2,rfl⟩:=List.mem_map.1 hb
    obtain ⟨y,hy,hy2⟩:=bit_in (s:=s) (L:=lv x) (by have:=hi.1; omega) (by have:=hi.1; omega)
    exact range_all_no hy (by rw [hy2,getD_none h]; rfl)
theorem getD_range {n:Nat} {f:Nat→Bool} {i:Nat} (h:i<n):((List.range n).map f).getD i false=f i:=by
  rw [List.getD_eq_getElem?_getD]; simp [h]
/-- What the search's steps come to. -/
theorem fs_eq {v:Int}:∀ {r:List Variable} {n:Nat} {inx:List Bool} {t:List Int},Rok r→inx.length=cnt r→inE v n r t →
    fs r inx t=(List.range (cnt r)).all fun i => !boxIn t (vals r i) || inx.getD i false
  | [],_,inx,[],_,h,_=>by simp [fs,cnt,vals,boxIn]
  | x :: r,n,inx,s :: t,hr,h,hi=>by
    have hcr:=(cnt_le hr.tail).1
    have ⟨⟨h1,h2⟩,_⟩:=hr.head
    have hd:inx.length / lv x=cnt r:=by rw [h]; simp only [cnt]; exact Nat.mul_div_cancel_left _ (by omega)
    have hlen:(stp x inx s).length=cnt r:=by simp [stp,hd]
    have hr1:∀ y∈r,1≤lv y:=fun y hy=>by have:=hr.tail y hy; unfold lv; omega
    simp only [fs]
    rw [fs_eq hr.tail hlen hi.2,Bool.eq_iff_iff,List.all_eq_true,List.all_eq_true]
    have key:∀ y i,y<lv x→i<cnt r→boxIn (s :: t) (vals (x :: r) (y * cnt r+i))=(tb s (y:Int)&&boxIn t (vals r i)):=fun y i hy hi=>by
      simp only [vals,boxIn_cons]
      rw [vals_add r y i hr1,Nat.mul_comm y,Nat.mul_add_div (by omega),Nat.div_eq_of_lt hi,Nat.add_zero,Nat.mod_eq_of_lt hy]
    constructor
    · intro hA j hj
      have hj:=List.mem_range.1 hj
      simp only [cnt] at hj
      have hy:j / cnt r<lv x:=Nat.div_lt_of_lt_mul (by rw [Nat.mul_comm]; exact hj)
      have hi':j % cnt r<cnt r:=Nat.mod_lt _ (by omega)
      have ej:j=j / cnt r * cnt r+j % cnt r:=by rw [Nat.mul_comm]; exact (Nat.div_add_mod j (cnt r)).symm
      have:=hA (j % cnt r) (List.mem_range.2 hi')
      unfold stp at this
      rw [hd,getD_range hi'] at this
      rw [ej,key _ _ hy hi']
      cases b1:boxIn t (vals r (j % cnt r)) with
      | false=>simp
      | true =>
        rw [b1,Bool.not_true,Bool.false_or] at this
        have:=range_all_at this hy
        simpa using this
    · intro hA i hi'
      have hi':=List.mem_range.1 hi'
      unfold stp
      rw [hd,getD_range hi']
      cases b1:boxIn t (vals r i) with
      | false=>rfl
      | true =>
        rw [Bool.not_true,Bool.false_or]
        refine List.all_eq_true.2 fun y hy=>?_
        have hy:=List.mem_range.1 hy
        have hlt:y * cnt r+i<lv x * cnt r:=by
          have:(y+1) * cnt r≤lv x * cnt r:=Nat.mul_le_mul_right _ hy
          rw [Nat.add_mul,Nat.one_mul] at this; omega
        have:=hA (y * cnt r+i) (List.mem_range.2 hlt)
        rw [key y i hy hi',b1,Bool.and_true] at this
        exact this
theorem getD_at {l:List Bool} {i:Nat} (h:i<l.length):l.getD i false=l[i]:=by simp [List.getD_eq_getElem?_getD,h]
theorem Clone_ok {l:List Int} {Q:List Int→Prop} (hl:l.length≤1048576) (hq:Q l):slices_Clone_int_int l Q:=by
  unfold slices_Clone_int_int nilq
  intro b hb
  refine br_bo (fun g=>?_) (fun g=>⟨by unfold ln; simp; omega,by simpa using hq⟩)
  rw [hb g] at hq; exact hq
end Go.Proofs.YtbgnaamdlcggjaaGreat
