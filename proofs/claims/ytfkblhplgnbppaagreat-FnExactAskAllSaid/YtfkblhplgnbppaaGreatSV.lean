/- The laws' own functions over servers: counts, copies, comparisons, marks. -/
import Derived.Test.YtfkblhplgnbppaaGreatFR
set_option linter.unusedVariables false
set_option autoImplicit false
namespace Go.Proofs.YtfkblhplgnbppaaGreat
open Go Go.RowKit Go.Gv
def cS {α:Type} (c:α→Int):List α→Int
  | []=>0
  | x :: l=>c x+cS c l
def mS {α:Type} (f:Int→α→α) (c:α→Int):Int→List α→List α
  | _,[]=>[]
  | k,x :: l=>f k x :: mS f c (k+c x) l
theorem cS_append {α:Type} {c:α→Int}:∀ a b,cS c (a++b)=cS c a+cS c b
  | [],b=>by simp [cS]
  | x :: l,b=>by simp only [List.cons_append,cS,cS_append l b]; omega
theorem cS_nonneg {α:Type} {c:α→Int} (hc:∀ x,0≤c x):∀ l,0≤cS c l
  | []=>by simp [cS]
  | x :: l=>by have:=cS_nonneg hc l; have:=hc x; simp only [cS]; omega
theorem cS_take_succ {α:Type} {c:α→Int} {l:List α} {i:Nat} (hi:i<l.length):cS c (l.take (i+1))=cS c (l.take i)+c l[i]:=by
  rw [List.take_succ_eq_append_getElem hi,cS_append]; simp [cS]
theorem cS_take_le {α:Type} {c:α→Int} (hc:∀ x,0≤c x) (l:List α) (i:Nat):cS c (l.take i)≤cS c l:=by
  have:=cS_append (c:=c) (l.take i) (l.drop i)
  rw [List.take_append_drop] at this
  have:=cS_nonneg hc (l.drop i)
  omega
theorem mS_length {α:Type} {f:Int→α→α} {c:α→Int}:∀ k l,(mS f c k l).length=l.length
  | _,[]=>rfl
  | k,x :: l=>by simp only [mS,List.length_cons,mS_length]
theorem mS_get {α:Type} {f:Int→α→α} {c:α→Int}:∀ (k:Int) (l:List α) (i:Nat) (h:i<l.length),(mS f c k l)[i]'(by rw [mS_length]; exact h)=f (k+cS c (l.take i)) l[i]
  | k,x :: l,0,h=>by simp [mS,cS]
  | k,x :: l,i+1,h=>by
    have:=mS_get (f:=f) (c:=c) (k+c x) l i (by simpa using h)
    simp only [mS,List.getElem_cons_succ,List.take_succ_cons,cS]
    rw [this,Int.add_assoc]
theorem cS_le {α:Type} {c:α→Int} {b:Nat}:∀ {l:List α},(∀ x∈l,c x≤(b:Int))→cS c l≤(l.length:Int) * (b:Int)
  | [],_=>by simp [cS]
  | x :: l,h=>by
    have h1:=h x (List.mem_cons_self ..)
    have:=cS_le (l:=l) fun y hy=>h y (List.mem_cons_of_mem _ hy)
    simp only [cS,List.length_cons]
    rw [Int.natCast_add,Int.add_mul]; omega
theorem idx_s {α:Type} {xs:List α} {i:Nat} {x:α} {K:α→Prop} (h:xs[i]?=some x) (k:K x):idx xs (i:Int) K:=⟨x,by omega,h,k⟩
theorem markS_loop {α:Type} {f:Int→α→α} {c:α→Int} (hc:∀ x,0≤c x) {a:List α} {k:Int} {B:List α→Int→Int→(List α→Int→Int→Prop)→Prop} {E:List α→Int→Int→Prop} (hl:a.length≤1048576)
    (hB:∀ (n:Nat) (hn:n<a.length) (a2:List α) (k2:Int) (nx:List α→Int→Int→Prop),n<a2.length→a2[n]?=some a[n]→k≤k2→k2+c a[n]≤k+cS c a→nx (a2.set n (f k2 a[n])) (k2+c a[n]) (wr ((n:Int)+1))→B a2 k2 (n:Int) nx)
    (hE:E (mS f c k a) (k+cS c a) (a.length:Int)):Loop3 (fun a2 k6 i nx=>br (decide (i<ln a)) (B a2 k6 i nx) (E a2 k6 i)) a k 0:=by
  have hml:=mS_length (f:=f) (c:=c) k a
  refine loop3_list (by omega) (fun a2 k2 n=>k2=k+cS c (a.take n)∧a2=(mS f c k a).take n++a.drop n) ⟨by simp [cS],by simp⟩ ?_ ?_
  · rintro a2 k2 n nx hn ⟨rfl,rfl⟩ hx
    have hs:=cS_take_succ (c:=c) hn
    have hle2:=cS_take_le hc a (n+1)
    have hnn:=cS_nonneg hc (a.take n)
    have ht:((mS f c k a).take n).length=n:=by rw [List.length_take]; omega
    have hi:n<((mS f c k a).take n++a.drop n).length:=by rw [List.length_append,ht,List.length_drop]; omega
    have hget:((mS f c k a).take n++a.drop n)[n]?=some a[n]:=by
      rw [List.getElem?_append_right (by omega),ht]; simp
    refine hB n hn _ _ nx hi hget (by omega) (by omega) (hx _ _ ⟨by omega,?_⟩)
    rw [List.set_append_right n _ (by omega),ht,Nat.sub_self,List.drop_eq_getElem_cons hn,List.set_cons_zero,List.take_succ_eq_append_getElem (by omega),List.append_assoc,mS_get k a n hn]
    rfl
  · rintro a2 k2 ⟨rfl,rfl⟩
    rw [List.take_of_length_le (by omega),List.take_of_length_le (by omega),List.drop_of_length_le (by omega),List.append_nil]; exact hE
theorem heldS_loop {α:Type} {f:Int→α→α} {c:α→Int} (hc:∀ x,0≤c x) {a:List α} {k:Int} {B:Int→Int→(Int→Int→Prop)→Prop} {E:Int→Int→Prop} (hl:a.length≤1048576)
    (hB:∀ (n:Nat) (hn:n<a.length) (k2:Int) (nx:Int→Int→Prop),(mS f c k a)[n]?=some (f k2 a[n])→k≤k2→k2+c a[n]≤k+cS c a→nx (k2+c a[n]) (wr ((n:Int)+1))→B k2 (n:Int) nx)
    (hE:E (k+cS c a) (a.length:Int)):Loop2 (fun k6 i nx=>br (decide (i<ln (mS f c k a))) (B k6 i nx) (E k6 i)) k 0:=by
  have hml:=mS_length (f:=f) (c:=c) k a
  refine loop2_list (by omega) (fun k2 n=>k2=k+cS c (a.take n)) (by simp [cS]) ?_ ?_
  · rintro k2 n nx hn rfl hx
    have hn':n<a.length:=by omega
    have hs:=cS_take_succ (c:=c) hn'
    have hle2:=cS_take_le hc a (n+1)
    have hnn:=cS_nonneg hc (a.take n)
    refine hB n hn' _ nx ?_ (by omega) (by omega) (hx _ (by omega))
    rw [List.getElem?_eq_getElem hn,mS_get k a n hn']
  · rintro k2 rfl
    rw [hml,List.take_of_length_le (by omega)]; exact hE
def mdg (k:Nat) (out:ByteArray):ByteArray :=
  if h:k=0 then out else mdg (k / 10) (b2s [B8.mk (IntKind.u8.wrap (wr (48+Int.tmod (k:Int) 10)))]++out)
termination_by k
decreasing_by omega
def mtx (k:Int):ByteArray:=if k≤0 then ByteArray.mk #[109,48] else ByteArray.mk #[109]++mdg k.toNat (ByteArray.mk #[])
theorem markText_is {k:Int} {Q:ByteArray→Prop} (hk:k≤1000000000) (h:Q (mtx k)):laws_markText k Q:=by
  unfold laws_markText
  unfold mtx at h
  refine br_dec (fun g=>?_) (fun g=>?_)
  · rw [if_pos g] at h; exact h
  rw [if_neg g] at h
  have h1:∀ y,sln (b2s ([B8.mk (IntKind.u8.wrap y)]))=1:=fun y=>rfl
  refine ⟨fun x out=>0≤x∧x≤1000000000∧sln out≤1000000000-x∧mdg x.toNat out=mdg k.toNat (ByteArray.mk #[]),fun x _=>x.toNat,⟨by omega,hk,by show (0:Int)≤_; omega,rfl⟩,fun x out ⟨a1,a2,a3,a4⟩=>br_dec (fun g2=>?_) (fun g2=>?_)⟩
  · rw [h1]
    have e1:Int.tdiv x 10=x / 10:=Int.tdiv_eq_ediv_of_nonneg (by omega)
    refine ⟨by omega,?_⟩
    rw [e1,wr_in (x:=x / 10) (by omega) (by omega)]
    refine ⟨⟨by omega,by omega,?_,?_⟩,?_⟩
    · have e2:∀ y,sln (b2s [B8.mk (IntKind.u8.wrap y)]++out)=1+sln out:=fun y=>by
        unfold sln; rw [ByteArray.size_append]; simp; rfl
      rw [e2]; omega
    · rw [← a4]
      conv=>rhs; unfold mdg
      rw [dif_neg (by omega),show ((x.toNat:Nat):Int)=x by omega,show (x / 10).toNat=x.toNat / 10 by omega]
    · show (x / 10).toNat<x.toNat
      omega
  · have e0:x.toNat=0:=by omega
    rw [e0] at a4
    rw [show mdg 0 out=out by unfold mdg; rfl] at a4
    rw [← a4] at h
    refine ⟨?_,h⟩
    have:sln (ByteArray.mk #[109])=1:=rfl
    omega
def mV (k:Int) (_:Variable):Variable:=⟨mtx k,k+1⟩
def cV (_:Variable):Int:=2
theorem cV_nn (x:Variable):0≤cV x:=by unfold cV; omega
theorem cV_le (l:List Variable):cS cV l≤2 * (l.length:Int):=by
  have:=cS_le (c:=cV) (b:=2) (l:=l) fun x _=>by unfold cV; omega
  omega
theorem markVs_ok {a:List Variable} {k:Int} {Q:Int→List Variable→Prop} (hl:a.length≤1048576) (hk:0≤k∧k≤100000000) (h:Q (k+cS cV a) (mS mV cV k a)):laws_markVariableS a k Q:=by
  have hb:=cV_le a
  unfold laws_markVariableS
  refine markS_loop cV_nn hl (fun n hn a2 k2 nx h1 h2 h3 h4 hx=>?_) h
  rw [show cV a[n]=2 from rfl] at h4 hx
  refine markText_is (by omega) (idx_s h2 (idxSet (by omega) (by simpa using h1) ?_))
  rw [wr_in (x:=k2+1) (by omega) (by omega),wr_in (x:=k2+1+1) (by omega) (by omega)]
  simp only [Int.toNat_natCast,List.set_set]
  rw [show k2+1+1=k2+2 by omega]
  exact hx
theorem heldVs_ok {a:List Variable} {k:Int} {Q:Int→Prop} (hl:a.length≤1048576) (hk:0≤k∧k≤100000000) (h:Q (k+cS cV a)):laws_heldVariableS (mS mV cV k a) k Q:=by
  have hb:=cV_le a
  unfold laws_heldVariableS
  refine heldS_loop cV_nn hl (fun n hn k2 nx h2 h3 h4 hx=>?_) h
  rw [show cV a[n]=2 from rfl] at h4 hx
  refine idx_s h2 (det1_of (mtx k2) (markText_is (by omega) rfl) (br_false (by rw [streq_eq]; simp [mV]) (idx_s h2 ?_)))
  rw [wr_in (x:=k2+1) (by omega) (by omega),wr_in (x:=k2+1+1) (by omega) (by omega)]
  rw [show k2+1+1=k2+2 by omega]
  exact br_false (by simp [mV]) hx
def mR (k:Int) (r:Record):Record:=⟨k,k+1,marks (k+2) r.Values.length⟩
def cR (r:Record):Int:=2+r.Values.length
theorem cR_nn (x:Record):0≤cR x:=by unfold cR; omega
theorem cR_le {l:List Record} (h:smR l):cS cR l≤10000000000000:=by
  have h0:=h.1
  have:=cS_le (c:=cR) (b:=1048578) (l:=l) fun x hx=>by have:=h.2 x hx; unfold cR; omega
  omega
theorem markRs_ok {a:List Record} {k:Int} {Q:Int→List Record→Prop} (hl:smR a) (hk:0≤k∧k≤100000000000000) (h:Q (k+cS cR a) (mS mR cR k a)):laws_markRecordS a k Q:=by
  have hb:=cR_le hl
  unfold laws_markRecordS
  refine markS_loop cR_nn hl.1 (fun n hn a2 k2 nx h1 h2 h3 h4 hx=>?_) h
  have hv:=hl.2 _ (List.getElem_mem hn)
  rw [show cR a[n]=2+((a[n].Values.length:Nat):Int) from rfl] at h4 hx
  refine idx_s h2 (idxSet (by omega) (by simpa using h1) (idxSet (by omega) (by simpa using h1) ?_))
  rw [wr_in (x:=k2+1) (by omega) (by omega),wr_in (x:=k2+1+1) (by omega) (by omega)]
  refine markIntS_ok (by show a[n].Values.length≤_; omega) (by omega) (by omega) ?_
  simp only [Int.toNat_natCast,List.set_set]
  rw [show k2+1+1=k2+2 by omega,show k2+2+((a[n].Values.length:Nat):Int)=k2+(2+(a[n].Values.length:Int)) by omega]
  exact hx
theorem heldRs_ok {a:List Record} {k:Int} {Q:Int→Prop} (hl:smR a) (hk:0≤k∧k≤100000000000000) (h:Q (k+cS cR a)):laws_heldRecordS (mS mR cR k a) k Q:=by
  have hb:=cR_le hl
  unfold laws_heldRecordS
  refine heldS_loop cR_nn hl.1 (fun n hn k2 nx h2 h3 h4 hx=>?_) h
  have hv:=hl.2 _ (List.getElem_mem hn)
  rw [show cR a[n]=2+((a[n].Values.length:Nat):Int) from rfl] at h4 hx
  refine idx_s h2 (br_false (by simp [mR]) (idx_s h2 ?_))
  rw [wr_in (x:=k2+1) (by omega) (by omega),wr_in (x:=k2+1+1) (by omega) (by omega)]
  refine br_false (by simp [mR]) (idx_s h2 ?_)
  show laws_heldIntS (marks (k2+2) a[n].Values.length) (k2+1+1) _
  rw [show k2+1+1=k2+2 by omega]
  refine heldIntS_ok (by omega) (by omega) (by omega) (br_dec (fun g=>by omega) (fun g=>?_))
  rw [show k2+2+((a[n].Values.length:Nat):Int)=k2+(2+(a[n].Values.length:Int)) by omega]
  exact hx
def smT (l:List Table):Prop:=l.length≤1048576∧∀ t∈l,t.Vars.length≤1048576∧t.Where.length≤1048576
def mT (k:Int) (t:Table):Table:=⟨k,marks (k+1) t.Vars.length,marks (k+1+(t.Vars.length:Int)) t.Where.length,k+1+(t.Vars.length:Int)+(t.Where.length:Int)⟩
def cT (t:Table):Int:=2+t.Vars.length+t.Where.length
theorem cT_nn (x:Table):0≤cT x:=by unfold cT; omega
theorem cT_le {l:List Table} (h:smT l):cS cT l≤10000000000000:=by
  have h0:=h.1
  have:=cS_le (c:=cT) (b:=2097154) (l:=l) fun x hx=>by have:=h.2 x hx; unfold cT; omega
  omega
theorem markTs_ok {a:List Table} {k:Int} {Q:Int→List Table→Prop} (hl:smT a) (hk:0≤k∧k≤100000000000000) (h:Q (k+cS cT a) (mS mT cT k a)):laws_markTableS a k Q:=by
  have hb:=cT_le hl
  unfold laws_markTableS
  refine markS_loop cT_nn hl.1 (fun n hn a2 k2 nx h1 h2 h3 h4 hx=>?_) h
  have ⟨hv,hw⟩:=hl.2 _ (List.getElem_mem hn)
  rw [show cT a[n]=2+((a[n].Vars.length:Nat):Int)+((a[n].Where.length:Nat):Int) from rfl] at h4 hx
  refine idx_s h2 (idxSet (by omega) (by simpa using h1) ?_)
  rw [wr_in (x:=k2+1) (by omega) (by omega)]
  refine markIntS_ok (by show a[n].Vars.length≤_; omega) (by omega) (by omega) (idxSet (by omega) (by simpa using h1) ?_)
  refine markIntS_ok (by show a[n].Where.length≤_; omega) (by show _≤k2+1+((a[n].Vars.length:Nat):Int); omega) (by show k2+1+((a[n].Vars.length:Nat):Int)≤_; omega) (idxSet (by omega) (by simpa using h1) ?_)
  simp only [Int.toNat_natCast,List.set_set]
  rw [wr_in (x:=k2+1+((a[n].Vars.length:Nat):Int)+((a[n].Where.length:Nat):Int)+1) (by omega) (by omega)]
  rw [show k2+1+((a[n].Vars.length:Nat):Int)+((a[n].Where.length:Nat):Int)+1=k2+(2+(a[n].Vars.length:Int)+(a[n].Where.length:Int)) by omega]
  exact hx
theorem heldTs_ok {a:List Table} {k:Int} {Q:Int→Prop} (hl:smT a) (hk:0≤k∧k≤100000000000000) (h:Q (k+cS cT a)):laws_heldTableS (mS mT cT k a) k Q:=by
  have hb:=cT_le hl
  unfold laws_heldTableS
  refine heldS_loop cT_nn hl.1 (fun n hn k2 nx h2 h3 h4 hx=>?_) h
  have ⟨hv,hw⟩:=hl.2 _ (List.getElem_mem hn)
  rw [show cT a[n]=2+((a[n].Vars.length:Nat):Int)+((a[n].Where.length:Nat):Int) from rfl] at h4 hx
  refine idx_s h2 (br_false (by simp [mT]) (idx_s h2 ?_))
  rw [wr_in (x:=k2+1) (by omega) (by omega)]
  refine heldIntS_ok (n:=a[n].Vars.length) (by omega) (by omega) (by omega) (br_dec (fun g=>by omega) (fun g=>idx_s h2 ?_))
  refine heldIntS_ok (n:=a[n].Where.length) (by omega) (by omega) (by omega) (br_dec (fun g=>by omega) (fun g=>idx_s h2 (br_false (by simp [mT]) ?_)))
  rw [wr_in (x:=k2+1+((a[n].Vars.length:Nat):Int)+((a[n].Where.length:Nat):Int)+1) (by omega) (by omega)]
  rw [show k2+1+((a[n].Vars.length:Nat):Int)+((a[n].Where.length:Nat):Int)+1=k2+(2+(a[n].Vars.length:Int)+(a[n].Where.length:Int)) by omega]
  exact hx
theorem szTableS_ok {a:List Table} {left:Int} {Q:Int→Prop} (hw:a.length≤maxLen∧∀ t∈a,t.Vars.length≤maxLen∧t.Where.length≤maxLen) (hl:0≤left∧left≤1048576) (h:∀ n,n≤left→(0≤n→smT a)→Q n):laws_szTableS a left Q :=
  szL_ok (C:=laws_szTable) (W:=fun t=>t.Vars.length≤maxLen∧t.Where.length≤maxLen) (S:=fun t=>t.Vars.length≤1048576∧t.Where.length≤1048576) (fun x hx l Q h1 h2=>szT_ok (t:=x) hx.1 hx.2 h1 h2) hw hl h
theorem toTableS_ok {a:List Table} {Q:List Table→Prop} (hl:smT a) (h:Q a):laws_toTableS a Q :=
  toL_ok (C:=laws_toTable) (S:=fun t=>t.Vars.length≤1048576∧t.Where.length≤1048576) (fun x hx Q h=>toT_ok (t:=x) hx.1 hx.2 h) (by omega) hl h
theorem eqTableS_same {a:List Table} {Q:Bool→Prop} (hl:smT a) (h:Q true):laws_eqTableS a a Q:=by
  have h1:=hl.1
  unfold laws_eqTableS
  refine br_false (by simp) (loop1_list (by omega) (fun _=>True) trivial (fun i nx hi _ hx=>idx_at hi (idx_at hi ?_)) fun _=>h)
  have ⟨a,b⟩:=hl.2 _ (List.getElem_mem hi)
  exact det1_of true (eqT_same a b rfl) (br_false rfl (hx trivial))
theorem toLoss_ok {a:Loss} {Q:Loss→Prop} (h:Q a):laws_toLoss a Q:=h
theorem eqLoss_same {a:Loss} {Q:Bool→Prop} (h:Q true):laws_eqLoss a a Q:=by
  unfold laws_eqLoss laws_eqFrac
  exact br_false (by simp) (br_false (by simp) (br_false rfl (br_false (by simp) (br_false (by simp) (br_false rfl h)))))
structure Sm (x:Server):Prop where
  p:x.G.Parents.length≤1048576
  s:x.S.length≤1048576
  d:smR x.Data
  l:smT x.Plan
  a:smT x.Asked
theorem eqServer_same {x:Server} {Q:Bool→Prop} (w:Sm x) (h:Q true):laws_eqServer x x Q:=by
  unfold laws_eqServer
  exact eqG_same (a:=x.G) w.p (br_false rfl (eqVariableS_same w.s (br_false rfl (eqRecordS_same w.d (br_false rfl (eqTableS_same w.l (br_false rfl (eqLoss_same (a:=x.Cost) (br_false rfl (eqLoss_same (a:=x.Budget) (br_false rfl (br_false (by simp) (eqTableS_same w.a (br_false rfl h))))))))))))))
def cSv (x:Server):Int:=(x.G.Parents.length:Int)+cS cV x.S+cS cR x.Data+cS cT x.Plan+cS cT x.Asked
end Go.Proofs.YtfkblhplgnbppaaGreat
