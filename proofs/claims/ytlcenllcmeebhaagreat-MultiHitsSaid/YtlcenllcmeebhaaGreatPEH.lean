import Derived.Test.YtlcenllcmeebhaaGreatPEG
/-! What the statement leans on: texts joined and shortened by a program of mine. -/
set_option linter.unusedVariables false
set_option linter.unusedSimpArgs false
namespace Go.Proofs.YtlcenllcmeebhaaGreat.Mu
set_option maxRecDepth 100000
open Go.RX D
def Hq (c:CT):List Nat->MS->Prop
 |[], _=>True
 |N::l,S=> ∃a r,(∀k,k+1<N->(aP (vw 0 k (cA S 0 1 c)) 0).2.2=false)/\1<=N/\N<=9/\aP (vw 0 (N - 1) (cA S 0 1 c)) 0=(a,r,true)/\Dh a 0=0/\Hq c l a
theorem abJ {x:Int} (h:(Lit.int .u16 x).wf=true):0<=x/\x<65536:=by
 simp[Lit.wf,IntKind.min,IntKind.max,IntKind.bits,IntKind.signed] at h;omega
theorem MG.it {Q:Sys} {n k:Nat} {s:MS} (H:MG Q n k s) (i:Nat): ∀j,MG Q n (k+j) (vw i j s)
 |0=>H
 |j+1=>(MG.it H i j).step _
theorem D4 {a b:Int} (h:0<=a*b) (h':a*b<18446744073709551616):fy .u64 a b=a*b:=cY ⟨h,h'⟩
theorem DZ {a b:Int} (h:0<=a+b) (h':a+b<18446744073709551616):aL .u64 a b=a+b:=cY ⟨h,h'⟩
theorem abK {x d:Int} (h:0<=x/\x<65536):f_ (aG .u64 x) d=x % d:=by
 rw[cY (by omega)];unfold f_;exact Int.tmod_eq_emod_of_nonneg h.1
theorem Nk (p:Int) (m:(Lit.int .u16 p).wf=true) (l:Int) (g:(Lit.int .u8 l).wf=true) (a:Int) (z:(Lit.int .u8 a).wf=true) {w:World}:
 aC Tryz.prog 11 (.el (.one .bool)) [.int .u16 p,.int .u8 l,.int .u8 a] w (λb w'=>b=true/\Ext w w'):=by
 refine ai (C:=U6) (aS:=ux) (Eq.mpr (S5 p l a w _) ?_);rw[show aL .i64 1 (f_ (aG .i64 l) 8)= _ from acz g 1 8 (by decide) (by decide)];have g:1<=((1+l.toNat % 8:Nat):Int)/\((1+l.toNat % 8:Nat):Int)<=64:=by have:=Nat.mod_lt l.toNat (show 0<8 by decide);omega
 generalize ((1+l.toNat % 8:Nat):Int)=ln at g;have m:=abJ m;have z:=aaK z;have M:aG .u64 p=p:=cY (by omega);have O:f_ (aG .u64 a) 16=a % 16:=abK (by omega);have P:aL .u64 (fy .u64 16 p) (a % 16)=16*p+a % 16:=by
  rw[D4 (by omega) (by omega),DZ (by omega) (by omega)]
 rw[M,O,P];generalize A:a % 16=o;have A:0<=o/\o<16:=by omega
 have T:=(VY (f:=60) (n:=1) (l:=ln) (by omega) (by omega) g).2.2;refine BF (At.start [] w) 60 1 ln (by omega) (by omega) g λQ X R w1 H d=>an rfl ?_;obtain⟨F,e1,Bd⟩:=T.don (by omega) (by omega) (p:=p) (b:=1) m (by omega);obtain⟨h1,U,V,W,Y, _,r,Z,r8,h5,s⟩:=acp g Bd m A;have h:Hq (vx (16*p+o)) [6,2] (aP (cA (yd 60 1 ln) 0 1 (NO p 1)) 0).1:=
  ⟨U,V,λk hk=>h1 k (by omega),by omega,by omega,W,JL (c:=0) (x:=bD [(1,p,F,1,())]) (by rw[Y];rfl),Z,r8,λk hk=>by
   have:k=0:=by omega
   subst this;exact r,by omega,by omega,h5,JL (c:=0) (x:=bD [(1,p,F,1,())]) (by rw[s];rfl),trivial⟩
 refine nQ H 0 1 3 λw2 H=>?_;have q:MG Q 1 2 (cA (yd 60 1 ln) 0 1 (NO p 1)):=d.ask 0 1 (by decide) ⟨⟨m.1,by show p< _;omega⟩,(show cI 1 by decide),(show cI 0 by decide)⟩;refine jT H q (by omega) 0 λw3 H=>?_;have d:=q.step 0;generalize (aP (cA (yd 60 1 ln) 0 1 (NO p 1)) 0).1=S at H d h;refine⟨λB st t=> ∃(i:Nat) (S:MS),i<=2/\B=2 - i/\st.1=(i:Int)/\MG Q 1 (3+10*i) S/\Hq (vx (16*p+o)) ([6,2].drop i) S/\MU Q X [] [] w t R S [] [] [],⟨2,λt r=>⟨0,S,by omega,rfl,rfl,d,h,H.ext r⟩⟩,?_⟩;clear H d h;rintro B ⟨ii, _⟩ t ⟨i,S,xY,qs,hi,d,h,H⟩;have hi:ii=(i:Int):=hi;subst hi qs;dsimp only;refine ab (λD=>?_) (λD=>ZP H);have Tw:i<2:=by have:=of_decide_eq_true D;omega
 obtain⟨N,l',hN,E⟩: ∃(N:Nat) (l':List Nat),N=6 - 4*i/\[6,2].drop i=N::l'/\[6,2].drop (i+1)=l':=by
  have:i=0\/i=1:=by omega
  rcases this with rfl|rfl
  ·exact⟨6,[2],rfl,rfl,rfl⟩
  ·exact⟨2,[],rfl,rfl,rfl⟩
 rw[E.1] at h;obtain⟨G,rN,g1,g2,g3,I,g5,g6⟩:=h;refine nQ H 0 1 6 λw5 H=>?_;have q:=d.ask 0 1 (by decide) (ct:=vx (16*p+o)) ⟨⟨by show 0<=16*p+o;omega,by show 16*p+o< _;omega⟩,(show cI 0 by decide),(show cI 0 by decide)⟩;have H:MU Q X [] [] w w5 R (vw 0 0 (cA S 0 1 (vx (16*p+o)))) [] [] []:=H;refine⟨λJ st u=> ∃j:Nat,j<=N/\J=N - j/\st.1=(j:Int)/\st.2.1=decide (j=N)/\MU Q X [] [] w u R (vw 0 j (cA S 0 1 (vx (16*p+o)))) [] [] [],⟨N,λu s=>⟨0,by omega,rfl,rfl,(decide_eq_false (by omega)).symm,H.ext s⟩⟩,?_⟩;clear H;rintro J ⟨jj,dn, _⟩ u ⟨j,hj,uI,v,y,H⟩;have v:jj=(j:Int):=v;have y:dn=decide (j=N):=y;subst v uI y;dsimp only;refine ab (λc2=>?_) (λc2=>?_)
 ·have K:j<N:=by
   simp only[Bool.and_eq_true,Bool.not_eq_true',decide_eq_false_iff_not] at c2;omega
  refine jT H (q.it 0 j) (by omega) 0 λw7 H=>H.al λb w8 H=>H.st 0 rfl rfl rfl λw9 H nh Fk=>⟨N - (j+1),by omega,j+1,by omega,rfl,?_,?_,(H.sub (List.sublist_cons_self _ _)).ext Fk⟩
  ·rw[ax (by omega) (by omega)];omega
  ·by_cases e:j+1=N
   ·have e':j=N - 1:=by omega
    show(aP (vw 0 j (cA S 0 1 (vx (16*p+o)))) 0).2.2= _;rw[e',I,decide_eq_true (by omega)]
   ·show(aP (vw 0 j (cA S 0 1 (vx (16*p+o)))) 0).2.2= _;rw[g1 j (by omega),decide_eq_false e]
 ·have K:j=N:=by
   by_cases e:j=N
   ·exact e
   ·rw[decide_eq_false e,decide_eq_true (show(j:Int)<10 by omega)] at c2;cases c2
  subst K;have eN:vw 0 j (cA S 0 1 (vx (16*p+o)))=G:=by
   have:j=j - 1+1:=by omega
   rw[this];show(aP (vw 0 (j - 1) _) 0).1= _;rw[I]
  have L:=q.it 0 j;rw[eN] at H L;have e6:aZ .i64 6 (fy .i64 4 (i:Int))=(j:Int):=by
   have:i=0\/i=1:=by omega
   rcases this with rfl|rfl<;>rw[hN]<;>decide
  refine⟨_,λ_=>zj H 0,an ?_ λw7 h7=>⟨2 - (i+1),by omega,i+1,G,by omega,rfl,by rw[ax (by omega) (by omega)];omega,L.mono (by omega),by rw[E.2];exact g6,H.ext h7⟩⟩;rw[e6,g5];simp
end Go.Proofs.YtlcenllcmeebhaaGreat.Mu
