import Derived.Test.YtbgnaamdlcggjaaGreatRIPure
import Derived.Test.YtbgnaamdlcggjaaGreatSA
set_option linter.unusedVariables false
set_option autoImplicit false
namespace Go.Proofs.YtbgnaamdlcggjaaGreat
open Go Go.RowKit Go.Gv
def L0(code:List B8):Prop:=∀ x∈code,0<=x.v/\x.v<=255
def N0(a:Int):Prop:=0<=a/\a<=1000000000000
theorem u64_in{x:Int}(h0:0<=x)(h1:x<=18446744073709551615):IntKind.u64.wrap x=x:=IntWalk.u64_in x ⟨h0,h1⟩
theorem DR0(x:Int):0<=bits .and .u64 x 255/\bits .and .u64 x 255<=255:=by
  have h:((BitVec.ofInt 64 x) &&& (BitVec.ofInt 64 255)).toNat<=255:=by
    rw [BitVec.toNat_and]; exact Nat.le_trans Nat.and_le_right (by decide)
  have e:bits .and .u64 x 255=IntKind.u64.wrap ((((BitVec.ofInt 64 x) &&& (BitVec.ofInt 64 255)).toNat:Nat):Int):=rfl
  rw [e,u64_in (by omega) (by omega)]; omega
theorem DF4{code:List B8}{a s:Int}{Q:Int->Int->Int->Prop}(hc:L0 code)(ha:0<=a/\a<=2000000000000)(h:∀ r a' s',0<=r->r<=255->0<=a'->a'<=a+1->Q r a' s'):W8 ⟨code,a,s⟩ Q:=by
  unfold W8
  dsimp only
  have key:∀ b:Int,0<=b->b<=255->br (decide ((wr (a+1))<=(ln code))) (Q b (wr (a+1)) (IntKind.u64.wrap ((IntKind.u64.wrap ((IntKind.u64.wrap (s * 6364136223846793005))+(IntKind.u64.wrap b)))+1442695040888963407)))
      (Q (wr (bits .and .u64 (Int.fdiv (IntKind.u64.wrap ((IntKind.u64.wrap ((IntKind.u64.wrap (s * 6364136223846793005))+(IntKind.u64.wrap b)))+1442695040888963407)) (2 ^ 40)) 255)) (wr (a+1)) (IntKind.u64.wrap ((IntKind.u64.wrap ((IntKind.u64.wrap (s * 6364136223846793005))+(IntKind.u64.wrap b)))+1442695040888963407))):=by
    intro b hb0 hb1
    rw [E9 (x:=a+1) (by omega) (by omega)]
    refine E1 (fun _=>h _ _ _ hb0 hb1 (by omega) (by omega)) (fun _=>?_)
    have hb:=DR0 (Int.fdiv (IntKind.u64.wrap ((IntKind.u64.wrap ((IntKind.u64.wrap (s * 6364136223846793005))+(IntKind.u64.wrap b)))+1442695040888963407)) (2 ^ 40))
    rw [E9 (by omega) (by omega)]
    exact h _ _ _ hb.1 hb.2 (by omega) (by omega)
  by_cases g:a<ln code
  · have hi:a.toNat<code.length:=by unfold ln at g; omega
    have hv:=hc _ (List.getElem_mem hi)
    refine AW6 (BZ2 g (AE3 ha.1 hi ?_))
    rw [E9 (x:=code[a.toNat].v) (by omega) (by omega)]
    exact key _ hv.1 hv.2
  · exact AW6 (DG5 g (key 0 (by omega) (by omega)))
theorem H8{code:List B8}{a s n:Int}{Q:Int->Int->Int->Prop}(hc:L0 code)(ha:N0 a)(h:∀ r a' s',0<=r->(r<n∨r=0/\n<=1)->r<=65535->0<=a'->a'<=a+2->Q r a' s'):C7 ⟨code,a,s⟩ n Q:=by
  unfold C7
  dsimp only
  have ha':=ha
  unfold N0 at ha'
  refine E1 (fun g=>h _ _ _ (by omega) (by omega) (by omega) (by omega) (by omega)) (fun g=>DF4 hc (by omega) fun r a1 s1 h0 h1 h2 h3=>?_)
  have fin:∀ x a' s':Int,0<=x->x<=65535->0<=a'->a'<=a+2->n≠0/\Q (x.tmod n) a' s':=fun x a' s' x0 x1 y0 y1=>by
    have l:=Int.tmod_lt_of_pos x (show 0<n by omega)
    have p:=Int.tmod_nonneg n x0
    have q:x.tmod n<=x:=by
      rw [Int.tmod_eq_emod_of_nonneg x0]
      have e:=Int.emod_def x n
      have m:=Int.mul_nonneg (show 0<=n by omega) (Int.ediv_nonneg x0 (show 0<=n by omega))
      omega
    exact ⟨by omega,h _ _ _ p (.inl l) (by omega) y0 y1⟩
  by_cases g2:n>200
  · refine AW6 (BZ2 g2 (DF4 hc (by omega) fun r2 a2 s2 k0 k1 k2 k3=>?_))
    show n≠0/\_
    rw [E9 (x:=r * 256) (by omega) (by omega),E9 (by omega) (by omega)]
    exact fin _ _ _ (by omega) (by omega) k2 (by omega)
  · exact AW6 (DG5 g2 (fin _ _ _ h0 (by omega) h2 (by omega)))
theorem AA6{code:List B8}{a s:Int}{l:List Int}{Q:Int->Int->Int->Prop}(hc:L0 code)(ha:N0 a)(hl:0<l.length)(h:∀ r∈l,∀ a' s',0<=a'->a'<=a+2->Q r a' s'):G1 ⟨code,a,s⟩ l Q:=by
  unfold G1
  dsimp only
  refine H8 hc ha fun r a1 s1 h0 h1 _ h2 h3=>?_
  have hi:r.toNat<l.length:=by unfold ln at h1; omega
  exact AE3 h0 hi (h _ (List.getElem_mem hi) _ _ h2 h3)
theorem FA8{code:List B8}{a s:Int}{l:List ByteArray}{p:ByteArray->Prop}{Q:ByteArray->Int->Int->Prop}(hc:L0 code)(ha:N0 a)(hl:0<l.length)(hp:∀ r∈l,p r)(h:∀ r,p r->∀ a' s',0<=a'->a'<=a+2->Q r a' s'):AK7 ⟨code,a,s⟩ l Q:=by
  unfold AK7
  dsimp only
  refine H8 hc ha fun r a1 s1 h0 h1 _ h2 h3=>?_
  have hi:r.toNat<l.length:=by unfold ln at h1; omega
  exact AE3 h0 hi (h _ (hp _ (List.getElem_mem hi)) _ _ h2 h3)
theorem AR8{code:List B8}{a s n:Int}{Q:Bool->Int->Int->Prop}(hc:L0 code)(ha:N0 a)(h:∀ b a' s',0<=a'->a'<=a+2->Q b a' s'):J3 ⟨code,a,s⟩ n Q:=by
  unfold J3
  dsimp only
  exact H8 hc ha fun r a1 s1 h0 h1 _ h2 h3=>h _ _ _ h2 h3
def AU4(sx:List A0):Prop:=sx.length<=7/\∀ x∈sx,x.Name.size<=100
theorem AU4.wide{sx:List A0}(h:AU4 sx):sx.length<=1048576/\∀ x∈sx,x.Name.size<=1048576:=⟨by have:=h.1; omega,fun x hx=>by have:=h.2 x hx; omega⟩
theorem BP5{α:Type}{xs:List α}{i:Int}{K:α->Prop}(p:α->Prop)(hp:∀ x∈xs,p x)(h0:0<=i)(h:i.toNat<xs.length)(k:∀ x,p x->K x):idx xs i K:=AE3 h0 h (k _ (hp _ (List.getElem_mem h)))
theorem CK4{code:List B8}{a s:Int}{Q:List A0->Int->Int->Prop}(hc:L0 code)(ha:0<=a/\a<=900000000000)(h:∀ sx a' s',AU4 sx->1<=sx.length->0<=a'->a'<=a+20->Q sx a' s'):S7 ⟨code,a,s⟩ Q:=by
  unfold S7
  dsimp only
  refine ⟨fun out k at1 _=>∃ n:Nat,k=(n:Int)/\n<=3/\out.length=n/\(∀ x∈out,x.Name.size<=100)/\0<=at1/\at1<=a+4 * (n:Int),fun _ k _ _=>(3-k).toNat,⟨0,rfl,by omega,rfl,by simp,ha.1,by omega⟩,?_⟩
  rintro out k at1 s1 ⟨n,rfl,hn,hlo,hs,h0,h1⟩
  refine H8 hc (by unfold N0; omega) fun r a1 s2 g0 g1 _ g2 g3=>?_
  rw [E9 (by omega) (by omega)]
  refine E1 (fun g=>?_) (fun g=>h _ _ _ ⟨by omega,hs⟩ (by omega) g2 (by omega))
  refine BP5 (fun y=>y.size<=100) (by decide) (by omega) (by simp; omega) fun y hy=>?_
  refine H8 hc (by unfold N0; omega) fun r2 a2 s3 k0 k1 _ k2 k3=>?_
  refine ⟨by unfold ln; simp only [List.length_singleton]; omega,?_⟩
  rw [E9 (x:=(n:Int)+1) (by omega) (by omega)]
  refine ⟨⟨n+1,by omega,by omega,by simp; omega,fun x hx=>?_,k2,by omega⟩,by dsimp only; omega⟩
  rcases List.mem_append.1 hx with hx | hx
  · exact hs x hx
  · rw [List.mem_singleton.1 hx]; exact hy
theorem AU4.set{sx:List A0}(h:AU4 sx){i:Nat}{x:A0}(hx:x.Name.size<=100):AU4 (sx.set i x) :=
  ⟨by rw [List.length_set]; exact h.1,fun y hy=>by
    rcases List.mem_or_eq_of_mem_set hy with hy | rfl
    · exact h.2 y hy
    · exact hx⟩
theorem BN7{code:List B8}{a s:Int}{Q:List A0->Int->Int->Prop}(hc:L0 code)(ha:0<=a/\a<=800000000000)(h:∀ sx a' s',AU4 sx->0<=a'->a'<=a+60->Q sx a' s'):N7 ⟨code,a,s⟩ Q:=by
  unfold N7
  dsimp only
  refine CK4 hc (by omega) fun sx a1 s1 hs h1 g0 g1=>?_
  refine AW6 (H8 hc (by unfold N0; omega) fun r a2 s2 k0 k1 _ k2 k3=>?_)
  refine P8 (fun _=>?_) (fun _=>P8 (fun _=>?_) (fun _=>P8 (fun _=>h _ _ _ ⟨by simp,fun x hx=>by simp at hx⟩ k2 (by omega)) (fun _=>P8 (fun _=>?_) (fun _=>h _ _ _ hs k2 (by omega)))))
  · refine AA6 hc (by unfold N0; omega) (by simp) fun v hv a3 s3 q0 q1=>?_
    exact BP5 (fun y:A0=>y.Name.size<=100) hs.2 (by omega) (by show 0<sx.length; omega) fun y hy=>h _ _ _ (hs.set hy) q0 (by omega)
  · refine FA8 (p:=fun y=>y.size<=100) hc (by unfold N0; omega) (by simp) (by decide) fun v hv a3 s3 q0 q1=>?_
    exact BP5 (fun y:A0=>y.Name.size<=100) hs.2 (by omega) (by show 0<sx.length; omega) fun y hy=>h _ _ _ (hs.set hv) q0 (by omega)
  · refine ⟨fun t at1 _=>AU4 t/\0<=at1/\at1<=a2+2 * (t.length:Int),fun t _ _=>8-t.length,⟨hs,k2,by omega⟩,?_⟩
    rintro t at1 s3 ⟨ht,q0,q1⟩
    have htl:=ht.1
    refine H8 hc (by unfold N0; omega) fun r2 a3 s4 p0 p1 _ p2 p3=>?_
    rw [E9 (x:=6+r2) (by omega) (by omega)]
    refine E1 (fun g=>?_) (fun g=>h _ _ _ ht p2 (by omega))
    have hb:∀ y:B8,(b2s [y]).size=1:=fun y=>rfl
    unfold ln at g
    refine ⟨by unfold sln; rw [hb]; decide,by unfold ln; simp only [List.length_singleton]; omega,⟨⟨by simp; omega,fun x hx=>?_⟩,p2,by simp only [List.length_append,List.length_singleton]; omega⟩,by simp only [List.length_append,List.length_singleton]; omega⟩
    rcases List.mem_append.1 hx with hx | hx
    · exact ht.2 x hx
    · rw [List.mem_singleton.1 hx]
      dsimp only
      rw [ByteArray.size_append,hb]; decide
theorem CH3{code:List B8}{sx:List A0}{a s:Int}{Q:List Int->Int->Int->Prop}(hc:L0 code)(hl:sx.length<=7)(ha:0<=a/\a<=900000000000)(h:∀ l a' s',l.length=sx.length->0<=a'->a'<=a+14->Q l a' s'):T3 ⟨code,a,s⟩ sx Q:=by
  unfold T3
  dsimp only
  refine ⟨fun o x at1 _=>∃ n:Nat,x=(n:Int)/\n<=sx.length/\o.length=n/\0<=at1/\at1<=a+2 * (n:Int),fun _ x _ _=>((sx.length:Int)-x).toNat,⟨0,rfl,Nat.zero_le _,rfl,ha.1,by omega⟩,?_⟩
  rintro o _ at1 s1 ⟨n,rfl,hn,hlo,h0,h1⟩
  refine E1 (fun g=>?_) (fun g=>h _ _ _ (by unfold ln at g; omega) h0 (by omega))
  unfold ln at g
  refine C4 (by omega) (H8 hc (by unfold N0; omega) fun r a1 s2 _ _ _ k2 k3=>⟨by unfold ln; simp only [List.length_singleton]; omega,?_⟩)
  rw [E9 (by omega) (by omega)]
  exact ⟨⟨n+1,by omega,by omega,by simp; omega,k2,by omega⟩,by dsimp only; omega⟩
theorem AR9{α:Type}{p:α->Prop}{l:List α}{x:α}(h:∀ y∈l,p y)(hx:p x):∀ y∈l++[x],p y:=fun y hy=>by
  rcases List.mem_append.1 hy with hy | hy
  · exact h y hy
  · rw [List.mem_singleton.1 hy]; exact hx
theorem CH2{code:List B8}{sx:List A0}{a s:Int}{areas:List Int}{Q:Record->Int->Int->Prop}(hc:L0 code)(hl:sx.length<=7)(hA:0<areas.length)(ha:0<=a/\a<=800000000000)(h:∀ r a' s',r.Values.length<=8->0<=a'->a'<=a+20->Q r a' s'):S6 ⟨code,a,s⟩ sx areas Q:=by
  unfold S6
  dsimp only
  refine AA6 hc (by unfold N0; omega) hA fun v hv a1 s1 h0 h1=>H8 hc (by unfold N0; omega) fun r a2 s2 _ _ _ q0 q1=>CH3 hc hl (by omega) fun vs a3 s3 hv3 p0 p1=>h _ _ _ (by show vs.length<=8; omega) p0 (by omega)
end Go.Proofs.YtbgnaamdlcggjaaGreat
