import Derived.Test.YtbgnaamdlcggjaaGreatPS
set_option linter.unusedVariables false
set_option autoImplicit false
namespace Go.Proofs.YtbgnaamdlcggjaaGreat
open Go Go.RowKit Go.Gv
theorem BS7{sx:List A0}{Q:Bool->Prop}(hl:sx.length<=1048576)(h:Q (L7 sx)):AD0 sx Q:=by
  unfold AD0
  refine D3 (!(decide (1<=sx.length)&&decide (sx.length<=6))) ?_ fun k hk=>E1 (fun g=>?_) (fun g=>?_)
  · refine F8 (fun g=>?_) (fun g=>?_)
    · have:L7 sx=false:=by unfold L7; rw [g]; rfl
      rw [this] at h; exact h
    · have g':1<=sx.length/\sx.length<=6:=by simpa using g
      refine F2 (by omega) (fun i=>(List.range i).all (AZ5 sx)=true) (by simp) (fun i nx hi hj hx=>C4 hi ?_) (fun hj=>?_)
      · refine D3 (!(Z1 sx[i].Name&&CW2 sx[i])) ?_ fun k hk=>DN7 (F8 (fun g1=>?_) (fun g1=>E1 (fun g2=>?_) (fun g2=>?_)))
        · refine F8 (fun g1=>?_) (fun g1=>⟨by omega,by omega,by unfold ln; omega,?_⟩)
          · have:AZ5 sx i=false:=by unfold AZ5; rw [R2 hi,g1]; rfl
            have:L7 sx=false:=by unfold L7; rw [H3 hi this,Bool.and_false]
            rw [this] at h; exact h
          · have hd:List.take ((i:Int).toNat-(0:Int).toNat) (List.drop (0:Int).toNat sx)=sx.take i:=by simp
            rw [hd]
            have hv:∀ j,j<i->vAt (sx.take i) j=vAt sx j:=fun j hj=>by
              unfold vAt; simp [List.getD_eq_getElem?_getD,hj]
            have hlt:(sx.take i).length=i:=by rw [List.length_take]; omega
            refine F2 (xs:=sx.take i) (by omega) (fun j=>∀ m,m<j->(vAt sx m).Name≠sx[i].Name) (fun m hm=>by omega) (fun j nx2 hj2 hjj hx2=>C4 hj2 ?_) (fun hjj=>hx (H2 hj ?_))
            · rw [CT5]
              have e:(sx.take i)[j]=vAt sx j:=by rw [← hv j (by omega),R2 hj2]
              rw [e]
              refine E1 (fun g2=>?_) (fun g2=>hx2 fun m hm=>?_)
              · have:BW4 sx i=false:=H3 (show j<i by omega) (by rw [R2 hi,decide_eq_true g2]; rfl)
                have:AZ5 sx i=false:=by unfold AZ5; rw [this,Bool.and_false]
                have:L7 sx=false:=by unfold L7; rw [H3 hi this,Bool.and_false]
                rw [this] at h; exact h
              · by_cases em:m=j
                · subst em; exact g2
                · exact hjj m (by omega)
            · unfold AZ5
              rw [R2 hi,g1,Bool.true_and]
              refine List.all_eq_true.2 fun m hm=>?_
              have:=hjj m (by rw [hlt]; exact List.mem_range.1 hm)
              rw [R2 hi,decide_eq_false this]; rfl
        · rw [g1] at hk; simpa using hk
        · have:CW2 sx[i]=false:=by unfold CW2; rw [decide_eq_false (by omega)]; rfl
          rw [this,Bool.and_false] at hk; exact hk
        · have:(!(Z1 sx[i].Name&&CW2 sx[i]))=decide (sx[i].Levels>8):=by
            unfold CW2; rw [g1,decide_eq_true (by omega:2<=sx[i].Levels),Bool.true_and,Bool.true_and,← decide_not]; congr 1; simp
          rw [this] at hk; exact hk
      · have:L7 sx=true:=by unfold L7; rw [g,hj]; rfl
        rw [this] at h; exact h
  · have:decide (1<=sx.length)=false:=decide_eq_false (by unfold ln at g; omega)
    rw [this] at hk; simpa using hk
  · have:(!(decide (1<=sx.length)&&decide (sx.length<=6)))=decide (ln sx>6):=by
      rw [decide_eq_true (show 1<=sx.length by unfold ln at g; omega),Bool.true_and,← decide_not]; congr 1; unfold ln; simp; omega
    rw [this] at hk; exact hk
def lv(v:A0):Nat:=v.Levels.toNat
def cnt:List A0->Nat
  | []=>1
  | x :: r=>lv x * cnt r
theorem CD0:∀ a b,cnt (a++b)=cnt a * cnt b
  | [],b=>by simp [cnt]
  | x :: r,b=>by simp only [List.cons_append,cnt,CD0 r b,Nat.mul_assoc]
def Lok(sx:List A0):Prop:=sx.length<=6/\∀ x∈sx,2<=x.Levels/\x.Levels<=8
theorem AE2{sx:List A0}(h:L7 sx=true):Lok sx:=⟨(CR4 h).1.2,fun x hx=>by
  obtain ⟨i,hi,rfl⟩:=List.mem_iff_getElem.1 hx
  exact DT8 h hi⟩
theorem DZ2:∀ {sx:List A0},(∀ x∈sx,2<=x.Levels/\x.Levels<=8)->1<=cnt sx/\cnt sx<=8 ^ sx.length
  | [],_=>by simp [cnt]
  | x :: r,h=>by
    have ⟨h1,h2⟩:=DZ2 (sx:=r) fun y hy=>h y (List.mem_cons_of_mem _ hy)
    have ⟨h3,h4⟩:=h x (List.mem_cons_self ..)
    have h5:1<=lv x/\lv x<=8:=by unfold lv; omega
    simp only [cnt,List.length_cons]
    refine ⟨Nat.mul_pos h5.1 h1,?_⟩
    rw [Nat.pow_succ,Nat.mul_comm (8 ^ _)]
    exact Nat.mul_le_mul h5.2 h2
theorem CK2{sx:List A0}(h:Lok sx)(i:Nat):1<=cnt (sx.take i)/\cnt (sx.take i)<=262144:=by
  have ⟨h1,h2⟩:=DZ2 (sx:=sx.take i) fun y hy=>h.2 y (List.mem_of_mem_take hy)
  have h0:=h.1
  have h3:(8:Nat) ^ (sx.take i).length<=8 ^ 6:=Nat.pow_le_pow_right (by decide) (by rw [List.length_take]; omega)
  have:(8:Nat) ^ 6=262144:=by decide
  omega
theorem AB0{sx:List A0}(h:Lok sx):1<=cnt sx/\cnt sx<=262144:=by
  have:=CK2 h sx.length; rw [List.take_length] at this; exact this
theorem BD5{sx:List A0}(h:Lok sx){i:Nat}(hi:i<sx.length):(lv sx[i]:Int)=sx[i].Levels/\2<=lv sx[i]/\lv sx[i]<=8:=by
  have:=h.2 _ (List.getElem_mem hi)
  unfold lv; omega
theorem CF6{sx:List A0}{i:Nat}(hi:i<sx.length):cnt (sx.take (i+1))=cnt (sx.take i) * lv sx[i]:=by
  rw [List.take_succ_eq_append_getElem hi,CD0]; simp [cnt]
theorem CR9{sx:List A0}(h:Lok sx){i:Nat}(hi:i<sx.length):wr ((cnt (sx.take i):Int) * sx[i].Levels)=(cnt (sx.take (i+1)):Int):=by
  have e:=CF6 hi
  have e2:=(BD5 h hi).1
  have h1:=CK2 h (i+1)
  have e3:(cnt (sx.take i):Int) * sx[i].Levels=(cnt (sx.take (i+1)):Int):=by rw [e,← e2,Int.natCast_mul]
  rw [e3]; exact E9 (by omega) (by omega)
theorem BF8{sx:List A0}{Q:Int->Prop}(h:Lok sx)(hq:Q (cnt sx:Int)):T7 sx Q:=by
  have h0:=h.1
  unfold T7
  refine F4 (by omega) (fun n i=>n=(cnt (sx.take i):Int)) (by simp [cnt]) (fun n i nx hi hn hx=>C4 hi ?_) (fun n hn=>?_)
  · rw [hn,CR9 h hi]; exact hx _ rfl
  · rw [List.take_length] at hn; rw [hn]; exact hq
theorem W7{sx:List A0}{Q:Int->Prop}(h:Lok sx)(hq:Q (cnt sx:Int)):K9 sx Q:=by
  have h0:=h.1
  unfold K9
  refine F4 (by omega) (fun n i=>n=(cnt (sx.take i):Int)) (by simp [cnt]) (fun n i nx hi hn hx=>C4 hi ?_) (fun n hn=>?_)
  · rw [hn,CR9 h hi]; exact hx _ rfl
  · rw [List.take_length] at hn; rw [hn]; exact hq
def BH5(v:A0):Int:=((2 ^ lv v:Nat):Int)-1
theorem FB5{n:Nat}(h:n<=8):2 ^ n<=256:=by
  have:=Nat.pow_le_pow_right (n:=2) (by decide) h
  have e:(2:Nat) ^ 8=256:=by decide
  omega
theorem FC3{n:Nat}(h:2<=n):4<=2 ^ n:=by
  have:=Nat.pow_le_pow_right (n:=2) (by decide) h
  have e:(2:Nat) ^ 2=4:=by decide
  omega
theorem DF5{sx:List A0}(h:Lok sx){i:Nat}(hi:i<sx.length):3<=BH5 sx[i]/\BH5 sx[i]<=255:=by
  have ⟨_,h1,h2⟩:=BD5 h hi
  have:=FB5 h2; have:=FC3 h1
  unfold BH5; omega
theorem DH0{sx:List A0}(h:Lok sx){i:Nat}(hi:i<sx.length):wr (shl .i64 1 sx[i].Levels-1)=BH5 sx[i]:=by
  have ⟨e,h1,h2⟩:=BD5 h hi
  have:=DF5 h hi
  rw [FB1 (by omega) (by omega)]
  exact E9 (by unfold BH5 at this; unfold lv at this; omega) (by unfold BH5 at this; unfold lv at this; omega)
theorem CW8{sx:List A0}{i:Nat}{Q:Int->Prop}(h:Lok sx)(hi:i<sx.length)(hq:Q (BH5 sx[i])):AP6 sx[i] Q:=by
  unfold AP6
  have ⟨e,h1,h2⟩:=BD5 h hi
  rw [DH0 h hi]
  exact ⟨by omega,hq⟩
def gi(l:List Int)(i:Nat):Int:=l.getD i 0
theorem H9{l:List Int}{i:Nat}(h:i<l.length):gi l i=l[i]:=by unfold gi; simp [List.getD_eq_getElem?_getD,h]
theorem CH4{α:Type}{p:α->Bool}{l:List α}{i:Nat}(hi:i<l.length)(h:(l.take i).all p=true)(hp:p l[i]=true):(l.take (i+1)).all p=true:=by
  rw [List.take_succ_eq_append_getElem hi,List.all_append,h]; simp [hp]
theorem DJ8{α:Type}{p:α->Bool}{l:List α}{i:Nat}(hi:i<l.length)(hp:p l[i]=false):l.all p=false:=by
  rw [List.all_eq_false]; exact ⟨l[i],List.getElem_mem hi,by simp [hp]⟩
def N2:List A0->Nat->List Int
  | [],_=>[]
  | x :: r,i=>((i / cnt r % lv x:Nat):Int) :: N2 r i
theorem BS8:∀ (sx:List A0) (i:Nat),(N2 sx i).length=sx.length
  | [],_=>rfl
  | x :: r,i=>by simp only [N2,List.length_cons,BS8 r i]
theorem CT6:∀ (sx:List A0) (m i:Nat),(∀ x∈sx,1<=lv x)->N2 sx (m * cnt sx+i)=N2 sx i
  | [],_,_,_=>rfl
  | x :: r,m,i,h=>by
    have hr:∀ y∈r,1<=lv y:=fun y hy=>h y (List.mem_cons_of_mem _ hy)
    have hc:∀ (r:List A0),(∀ y∈r,1<=lv y)->0<cnt r:=fun r=>by
      induction r with
      | nil=>intro _; exact Nat.one_pos
      | cons z r ih=>intro hz; exact Nat.mul_pos (hz z (List.mem_cons_self ..)) (ih fun y hy=>hz y (List.mem_cons_of_mem _ hy))
    have hc:=hc r hr
    simp only [N2,cnt]
    have e1:m * (lv x * cnt r)+i=(m * lv x) * cnt r+i:=by rw [Nat.mul_assoc]
    rw [e1,CT6 r _ _ hr]
    congr 2
    rw [Nat.add_comm,Nat.add_mul_div_right _ _ hc,Nat.add_mul_mod_self_right]
theorem EA1{sx:List A0}{k:Nat}(hk:k<sx.length):cnt (sx.drop k)=lv sx[k] * cnt (sx.drop (k+1)):=by
  rw [List.drop_eq_getElem_cons hk]; rfl
theorem DM2{sx:List A0}{k i:Nat}(hk:k<sx.length):N2 (sx.drop k) i=((i / cnt (sx.drop (k+1)) % lv sx[k]:Nat):Int) :: N2 (sx.drop (k+1)) i:=by
  rw [List.drop_eq_getElem_cons hk]; rfl
theorem DQ4{sx:List A0}{i:Nat}{Q:List Int->Prop}(h:Lok sx)(hi:i<=1000000)(hq:Q (N2 sx i)):BM5 sx (i:Int) Q:=by
  have h0:=h.1
  unfold BM5
  refine ⟨by unfold ln; omega,by unfold ln; omega,?_⟩
  rw [E9 (x:=ln sx-1) (by unfold ln; omega) (by unfold ln; omega)]
  refine ⟨fun a o k=>∃ n:Nat,k=(n:Int)-1/\n<=sx.length/\a=((i / cnt (sx.drop n):Nat):Int)/\o=List.replicate n 0++N2 (sx.drop n) i,fun _ _ k=>(k+1).toNat,⟨sx.length,rfl,Nat.le_refl _,by simp [cnt],by simp [N2,ln]⟩,?_⟩
  rintro a o k ⟨n,rfl,hn,rfl,rfl⟩
  refine E1 (fun g=>?_) (fun g=>?_)
  · obtain ⟨m,rfl⟩:∃ m,n=m+1:=⟨n-1,by omega⟩
    have ek:((m+1:Nat):Int)-1=(m:Int):=by omega
    rw [ek]
    have hm:m<sx.length:=hn
    have ⟨e,h1,h2⟩:=BD5 h hm
    refine C4 hm ⟨by omega,by omega,by simp; omega,C4 hm ⟨by omega,?_⟩⟩
    have hd:i / cnt (sx.drop (m+1))<=i:=Nat.div_le_self _ _
    have e1:Int.tdiv ((i / cnt (sx.drop (m+1)):Nat):Int) sx[m].Levels=((i / cnt (sx.drop m):Nat):Int):=by
      rw [← e,← Int.ofNat_tdiv,EA1 hm,Nat.div_div_eq_div_mul,Nat.mul_comm (lv _)]
    have e2:Int.tmod ((i / cnt (sx.drop (m+1)):Nat):Int) sx[m].Levels=((i / cnt (sx.drop (m+1)) % lv sx[m]:Nat):Int):=by
      rw [← e,← Int.ofNat_tmod]
    have hd2:((i / cnt (sx.drop m):Nat):Int)<=(i:Int):=Int.ofNat_le.2 (Nat.div_le_self _ _)
    have hd3:(0:Int)<=((i / cnt (sx.drop m):Nat):Int):=Int.natCast_nonneg _
    rw [e1,e2,E9 (by omega) (by omega),E9 (by omega) (by omega)]
    refine ⟨⟨m,rfl,by omega,rfl,?_⟩,?_⟩
    · rw [DM2 hm,List.replicate_succ',List.append_assoc,Int.toNat_natCast,List.set_append_right _ _ (by simp)]
      simp
    · show ((m:Int)-1+1).toNat<((m:Int)+1).toNat
      omega
  · have:n=0:=by omega
    subst this
    simpa using hq
theorem CS8{sx:List A0}{i:Nat}{Q:List Int->Prop}(h:Lok sx)(hi:i<=1000000)(hq:Q (N2 sx i)):AU5 sx (i:Int) Q:=DQ4 h hi hq
def Vok(vs:List Int):Prop:=∀ x∈vs,0<=x/\x<=60
theorem DQ8{α:Type}{p:α->Bool}{l:List α}{i:Nat}(hi:i<l.length)(hp:p l[i]=true):l.any p=true:=List.any_eq_true.2 ⟨l[i],List.getElem_mem hi,hp⟩
end Go.Proofs.YtbgnaamdlcggjaaGreat
