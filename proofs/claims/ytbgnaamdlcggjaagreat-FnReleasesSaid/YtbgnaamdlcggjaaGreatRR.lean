import Derived.Test.YtbgnaamdlcggjaaGreatRX
import Derived.Test.YtbgnaamdlcggjaaGreatRFPure
set_option linter.unusedVariables false
set_option autoImplicit false
namespace Go.Proofs.YtbgnaamdlcggjaaGreat
open Go Go.RowKit Go.Gv
def CT9(p:List Int)(sx:List A0)(l:List Record)(t:Table):B0:=⟨t,BU1 p sx t l⟩
def BH8(p:List Int)(sx:List A0)(l:List Record)(ts:List Table):Bool:=((gOk p&&L7 sx)&&AD2 p sx l)&&(decide (ts.length<=20)&&ts.all (tOk p sx))
def ptV(p:List Int)(sx:List A0)(l:List Record)(ts:List Table):List B0:=if BH8 p sx l ts=true then ts.map (CT9 p sx l) else []
theorem BF7{p:List Int}{sx:List A0}{l:List Record}{ts:List Table}(h:BH8 p sx l ts=true):gOk p=true/\L7 sx=true/\AD2 p sx l=true/\ts.length<=20/\ts.all (tOk p sx)=true:=by
  unfold BH8 at h
  simp only [Bool.and_eq_true,decide_eq_true_eq] at h
  exact ⟨h.1.1.1,h.1.1.2,h.1.2,h.2.1,h.2.2⟩
theorem CP0{p:List Int}{sx:List A0}{l:List Record}{ts:List Table}(h:¬ (gOk p=true/\L7 sx=true/\AD2 p sx l=true/\ts.length<=20/\ts.all (tOk p sx)=true)):BH8 p sx l ts=false:=by
  rw [Bool.eq_false_iff]; exact fun c=>h (BF7 c)
theorem CL0{l:List Int}{Q:List Int->Prop}(hl:l.length<=1048576)(hq:Q l):N4 l Q:=⟨by unfold ln; simp; omega,by simpa using hq⟩
theorem AQ3{l:List Int}{Q:List Int->Prop}(hl:l.length<=1048576)(hq:Q l):P2 l Q:=by
  unfold P2
  intro b hb
  refine K0 (fun g=>?_) (fun g=>⟨by unfold ln; simp; omega,hq⟩)
  rw [hb g] at hq; exact hq
structure WP2 (p:List Int) (sx:List A0) (l:List Record) (ts:List Table):Prop where
  p:p.length<=1048576
  s:sx.length<=1048576
  n:∀ x∈sx,x.Name.size<=1048576
  l:l.length<=1048576
  t:ts.length<=1048576
  tt:∀ t∈ts,t.Vars.length<=1048576/\t.Where.length<=1048576
theorem CR7{p:List Int}{sx:List A0}{l:List Record}{ts:List Table}{Q:List B0->Bool->Prop}(w:WP2 p sx l ts)(hq:Q (ptV p sx l ts) (BH8 p sx l ts)):L4 ⟨p⟩ sx l ts Q:=by
  have h0:=w.t
  unfold L4
  refine D3 (!(((gOk p&&L7 sx)&&AD2 p sx l)&&decide (ts.length<=20))) (F8 (fun g=>?_) (fun g=>?_)) fun k hk=>CD9 (p:=p) w.p w.s w.n w.l (F8 (fun g=>?_) (fun g=>?_))
  · have:BH8 p sx l ts=false:=CP0 fun c=>by rw [c.1,c.2.1,c.2.2.1,decide_eq_true c.2.2.2.1] at g; cases g
    unfold ptV at hq; rw [this] at hq; exact hq
  · simp only [Bool.and_eq_true,decide_eq_true_eq] at g
    have ⟨⟨⟨g1,g2⟩,g3⟩,g4⟩:=g
    refine F4 (by omega) (fun out i=>out=(ts.take i).map (CT9 p sx l)/\(ts.take i).all (tOk p sx)=true) (by simp) ?_ ?_
    · rintro out i nx hi ⟨rfl,hj⟩ hx
      have ht:=w.tt _ (List.getElem_mem hi)
      refine C4 hi (CC3 (p:=p) (t:=ts[i]) w.p w.s w.n ht.1 ?_)
      rw [g1,g2,Bool.true_and,Bool.true_and]
      refine F8 (fun g5=>?_) (fun g5=>CL0 (l:=ts[i].Vars) ht.1 (CL0 (l:=ts[i].Where) ht.2 (CJ0 (p:=p) (t:=ts[i]) g1 (AE2 g2) g5 g3 ⟨by unfold ln; simp; omega,hx _ ⟨?_,CD4 hi hj g5⟩⟩)))
      · have:BH8 p sx l ts=false:=CP0 fun c=>by rw [BK4 hi g5] at c; cases c.2.2.2.2
        unfold ptV at hq; rw [this] at hq; exact hq
      · rw [List.take_add_one,List.getElem?_eq_getElem hi,List.map_append]; rfl
    · rintro out ⟨rfl,hj⟩
      rw [List.take_length] at hj ⊢
      have:BH8 p sx l ts=true:=by unfold BH8; rw [g1,g2,g3,decide_eq_true g4,hj]; rfl
      unfold ptV at hq; rw [this,if_pos rfl] at hq; exact hq
  · rw [g] at hk; exact hk
  · rw [g,Bool.true_and,← decide_not] at hk
    rw [show decide (ln ts>20)=decide (¬ ts.length<=20) from by rw [Bool.eq_iff_iff]; unfold ln; simp only [decide_eq_true_eq]; omega]; exact hk
theorem CM8{p:List Int}{sx:List A0}{ts:List Table}{Q:Bool->Prop}(hp:p.length<=1048576)(hs:sx.length<=1048576)(hl:ts.length<=1048576)(htt:∀ t∈ts,t.Vars.length<=1048576)(hq:Q (decide (ts.length<=20)&&((gOk p&&L7 sx)&&ts.all (tOk p sx)))):AG8 ⟨p⟩ sx ts Q:=by
  unfold AG8 BE1
  refine D3 _ hq fun k hk=>E1 (fun g=>?_) (fun g=>?_)
  · have gl:ts.length<=20:=by unfold ln at g; omega
    rw [decide_eq_true gl,Bool.true_and] at hk
    refine D3 (!(gOk p&&L7 sx)) (F8 (fun g1=>?_) (fun g1=>?_)) fun k2 hk2=>CU0 (p:=p) hp (F8 (fun g1=>?_) (fun g1=>BS7 hs (F8 (fun g2=>?_) (fun g2=>?_))))
    · rw [g1,Bool.false_and] at hk; exact hk
    · rw [g1,Bool.true_and] at hk
      simp only [Bool.and_eq_true] at g1
      refine F2 (by omega) (fun i=>(ts.take i).all (tOk p sx)=true) (by simp) (fun i nx hi hj hx=>C4 hi (CD2 (p:=p) (t:=ts[i]) g1.1 (AE2 g1.2) (htt _ (List.getElem_mem hi)) (F8 (fun g=>?_) (fun g=>hx (CD4 hi hj g))))) (fun hj=>?_)
      · rw [BK4 hi g] at hk; exact hk
      · rw [List.take_length] at hj; rw [hj] at hk; exact hk
    · rw [g1] at hk2; exact hk2
    · rw [g1,g2] at hk2; exact hk2
    · rw [decide_eq_false (by unfold ln; omega)]; rw [g1,g2] at hk2; exact hk2
  · rw [decide_eq_false (by unfold ln at g; omega),Bool.false_and] at hk; exact hk
theorem DF2{α β:Type}{f:α->β}{a:List β}{b:List α}{i:Nat}(hl:a.length=b.length)(hi:i<b.length)(h:a.take i=(b.take i).map f):(a.set i (f b[i])).take (i+1)=(b.take (i+1)).map f:=by
  rw [List.take_add_one,List.take_set_of_le (Nat.le_refl _),h,List.getElem?_set_self (by omega),List.take_add_one,List.getElem?_eq_getElem hi,List.map_append]; rfl
theorem CU3{p:List Int}{sx:List A0}{l:List Record}{ts:List Table}{Q:List B0->Bool->Prop}(w:WP2 p sx l ts)(hq:Q (ptV p sx l ts) (BH8 p sx l ts)):W0 ⟨p⟩ sx l ts Q:=by
  have h0:=w.t
  unfold W0
  refine D3 (!BH8 p sx l ts) (F8 (fun g=>?_) (fun g=>?_)) fun k hk=>CM8 (p:=p) w.p w.s w.t (fun t ht=>(w.tt t ht).1) (F8 (fun g=>?_) (fun g=>?_))
  · unfold ptV at hq; rw [g] at hq; exact hq
  · unfold ptV at hq; rw [g,if_pos rfl] at hq
    have ⟨g1,g2,g3,g4,g5⟩:=BF7 g
    unfold AE5
    refine ⟨by unfold ln; omega,by unfold ln; omega,?_⟩
    refine F4 (by omega) (fun out i=>out.length=ts.length/\out.take i=(ts.take i).map (CT9 p sx l)) ⟨by unfold ln; simp,by simp⟩ ?_ ?_
    · rintro out i nx hi ⟨n1,n2⟩ hx
      have ht:=w.tt _ (List.getElem_mem hi)
      have hok:=List.all_eq_true.1 g5 _ (List.getElem_mem hi)
      refine C4 hi (AQ3 (l:=ts[i].Vars) ht.1 (AQ3 (l:=ts[i].Where) ht.2 (CZ2 (p:=p) (t:=ts[i]) g1 (AE2 g2) hok g3 ⟨by omega,by omega,?_⟩)))
      rw [Int.toNat_natCast]
      exact hx _ ⟨by simpa using n1,DF2 (f:=CT9 p sx l) n1 hi n2⟩
    · rintro out ⟨n1,n2⟩
      rw [List.take_length,List.take_of_length_le (by omega)] at n2
      rw [n2]; exact hq
  · have:BH8 p sx l ts=false:=CP0 fun c=>by rw [c.1,c.2.1,decide_eq_true c.2.2.2.1,c.2.2.2.2] at g; cases g
    rw [this] at hk; exact hk
  · simp only [Bool.and_eq_true,decide_eq_true_eq] at g
    refine BT4 (p:=p) g.2.1.1 (AE2 g.2.1.2) w.l ?_
    have:BH8 p sx l ts=AD2 p sx l:=by unfold BH8; rw [g.2.1.1,g.2.1.2,decide_eq_true g.1,g.2.2]; simp
    rw [this] at hk; exact hk
def hid(t v:Int):Int:=if 1<=v/\v<t then -1 else v
def AS4(b:B0)(t:Int):Bool:=decide (b.Cells.length<=600)&&(b.Cells.all (inb (-1) 1000000)&&inb 0 1000000 t)
def hdV(b:B0)(t:Int):B0:=if AS4 b t=true then ⟨b.Table,b.Cells.map (hid t)⟩ else ⟨⟨0,[],[],0⟩,[]⟩
theorem CT7{v t:Int}{k:Int->Prop}(h:k (hid t v)):jn (fun (k326:Bool->Prop)=>br (decide (v>=1)) (k326 (decide (v<t)))<|k326 false) fun (x324:Bool)=>br (x324) (k ((-1)))<|k v:=by
  unfold hid at h
  refine D3 (decide (1<=v/\v<t)) (E1 (fun g=>?_) (fun g=>?_)) fun k' hk=>E1 (fun g=>?_) (fun g=>?_)
  · rw [if_pos g] at h; exact h
  · rw [if_neg g] at h; exact h
  · rw [show decide (v<t)=decide (1<=v/\v<t) from by rw [Bool.eq_iff_iff]; simp only [decide_eq_true_eq]; omega]; exact hk
  · rw [decide_eq_false (by omega:¬ (1<=v/\v<t))] at hk; exact hk
theorem DP7{l:List Int}{lo hi:Int}{Q:Bool->Prop}(hl:l.length<=1048576)(h:Q (l.all (inb lo hi))):AE7 l lo hi Q:=by
  unfold AE7
  refine F2 (by omega) (fun i=>(l.take i).all (inb lo hi)=true) (by simp) (fun i nx hi' hj hx=>C4 hi' (T6 (F8 (fun g=>?_) (fun g=>hx (CD4 hi' hj g))))) (fun hj=>?_)
  · rw [BK4 hi' g] at h; exact h
  · rw [List.take_length] at hj; rw [hj] at h; exact h
theorem DQ0{b:B0}{t:Int}{Q:B0->Bool->Prop}(h1:b.Table.Vars.length<=1048576)(h2:b.Table.Where.length<=1048576)(hc:b.Cells.length<=1048576)(hq:Q (hdV b t) (AS4 b t)):R6 b t Q:=by
  unfold R6
  unfold hdV at hq
  refine D3 (!AS4 b t) (F8 (fun g=>?_) (fun g=>?_)) fun k hk=>E1 (fun g=>?_) (fun g=>DP7 (by omega) (F8 (fun g1=>?_) (fun g1=>T6 ?_)))
  · rw [g] at hq; exact hq
  · rw [g,if_pos rfl] at hq
    refine CL0 (l:=b.Table.Vars) h1 (CL0 (l:=b.Table.Where) h2 ?_)
    refine AM3 (by omega) (fun out i=>out=(b.Cells.take i).map (hid t)) (by simp) ?_ ?_
    · rintro out i nx hi rfl hx
      refine C4 hi (AW6 (CT7 (k:=fun n=>(ln ((b.Cells.take i).map (hid t))+ln [n]) * 8<=140737488355328/\nx (wr ((i:Int)+1)) ((b.Cells.take i).map (hid t)++[n])) ⟨by unfold ln; simp; omega,hx _ ?_⟩))
      rw [List.take_add_one,List.getElem?_eq_getElem hi,List.map_append]; rfl
    · rintro out rfl
      rw [List.take_length]; exact hq
  · unfold AS4 at hk; rw [decide_eq_false (by unfold ln at g; omega),Bool.false_and] at hk; exact hk
  · unfold AS4 at hk; rw [decide_eq_true (by unfold ln at g; omega:b.Cells.length<=600),g1,Bool.true_and] at hk; exact hk
  · unfold AS4 at hk; rw [decide_eq_true (by unfold ln at g; omega:b.Cells.length<=600),g1,Bool.true_and,Bool.true_and] at hk; exact hk
theorem DR8{b:B0}{t:Int}{Q:B0->Bool->Prop}(h1:b.Table.Vars.length<=1048576)(h2:b.Table.Where.length<=1048576)(hc:b.Cells.length<=1048576)(hq:Q (hdV b t) (AS4 b t)):AG4 b t Q:=by
  unfold AG4
  unfold hdV at hq
  refine D3 (!AS4 b t) (F8 (fun g=>?_) (fun g=>?_)) fun k hk=>E1 (fun g=>?_) (fun g=>BC0 (by omega) (F8 (fun g1=>?_) (fun g1=>E1 (fun g2=>?_) (fun g2=>?_))))
  · rw [g] at hq; exact hq
  · rw [g,if_pos rfl] at hq
    have body:J6 (fun (x281:Int) (cells282:List Int) nx =>
        br (decide (x281<(ln b.Cells))) (idx b.Cells x281 fun x293 =>
        jn (fun (k322:Int->Prop)=>jn (fun (k326:Bool->Prop)=>br (decide (x293>=1)) (k326 (decide (x293<t)))<|k326 false) <|
        fun (x324:Bool)=>br (x324) (k322 ((-1)))<|k322 x293) <|
        fun (vx320:Int)=>(0:Int)<=x281/\Int.toNat x281<List.length cells282/\(nx (wr (x281+1)) (List.set cells282 (Int.toNat x281) vx320))) <|
        Q ((B0.mk ((Table.mk b.Table.Level b.Table.Vars b.Table.Where b.Table.Sum)) cells282)) true) 0 (List.replicate (Int.toNat (ln b.Cells)) ((0:Int))):=by
      refine AM3 (by omega) (fun out i=>out.length=b.Cells.length/\out.take i=(b.Cells.take i).map (hid t)) ⟨by unfold ln; simp,by simp⟩ ?_ ?_
      · rintro out i nx hi ⟨n1,n2⟩ hx
        refine C4 hi (AW6 (CT7 (k:=fun n=>(0:Int)<=(i:Int)/\Int.toNat (i:Int)<List.length out/\nx (wr ((i:Int)+1)) (List.set out (Int.toNat (i:Int)) n)) ⟨by omega,by omega,?_⟩))
        rw [Int.toNat_natCast]
        exact hx _ ⟨by simpa using n1,DF2 (f:=hid t) n1 hi n2⟩
      · rintro out ⟨n1,n2⟩
        rw [List.take_length,List.take_of_length_le (by omega)] at n2
        rw [n2]; exact hq
    unfold AQ8
    refine AW6 ⟨?_,?_⟩
    · exact AQ3 h1 (AQ3 h2 ⟨by show 0<=ln b.Cells; unfold ln; omega,by show 8 * ln b.Cells<=_; unfold ln; omega,body⟩)
    · exact ⟨by show 0<=ln b.Cells; unfold ln; omega,by show 8 * ln b.Cells<=_; unfold ln; omega,AQ3 h1 (AQ3 h2 body)⟩
  · unfold AS4 at hk; rw [decide_eq_false (by unfold ln at g; omega),Bool.false_and] at hk; exact hk
  · unfold AS4 at hk; rw [decide_eq_true (by unfold ln at g; omega:b.Cells.length<=600),g1,Bool.true_and] at hk; exact hk
  · unfold AS4 at hk; rw [show inb 0 1000000 t=false by unfold inb; rw [decide_eq_false (by omega)]; rfl,Bool.and_false,Bool.and_false] at hk; exact hk
  · unfold AS4 at hk; rw [decide_eq_true (by unfold ln at g; omega:b.Cells.length<=600),g1,Bool.true_and,Bool.true_and] at hk
    rw [show decide (t>1000000)=!inb 0 1000000 t by unfold inb; rw [decide_eq_true (by omega:0<=t),Bool.true_and,← decide_not,Bool.eq_iff_iff]; simp only [decide_eq_true_eq]; omega]; exact hk
theorem DG8{α:Type}{f g:α->Bool}(h:∀ x,f x=true->g x=true):∀ l:List α,(l.filter f).length<=(l.filter g).length
  | []=>Nat.le_refl _
  | x :: l=>by
    have:=DG8 h l
    rw [List.filter_cons,List.filter_cons]
    by_cases e:f x=true
    · rw [if_pos e,if_pos (h x e)]; simpa using this
    · rw [if_neg e]
      split
      · rw [List.length_cons]; omega
      · exact this
theorem DN1{p:List Int}{sx:List A0}{b:B0}{l:List B0}{n:Nat}:(AA9 p sx (b :: l) n).length<=(AA9 p sx l n).length:=by
  unfold AA9 L8
  rw [List.length_map,List.length_map]
  refine DG8 (fun t h=>?_) _
  unfold okR L1 at h ⊢
  rw [List.flatMap_cons,List.all_append,Bool.and_eq_true] at h
  exact h.2
end Go.Proofs.YtbgnaamdlcggjaaGreat
