import Derived.Test.YtlcenllcmeebhaaGreatPFG
/-! What the statement leans on: texts joined and shortened by a program of mine. -/
set_option linter.unusedVariables false
set_option linter.unusedSimpArgs false
open Go.Proofs.Tryz renaming prog->A1
open Go renaming World->A2
open List renaming getElem?_eq_getElem->AB,getD_eq_getElem?_getD->AC,getElem?_eq_some_iff->AL,getElem?_set_self->AY,getElem?_set_ne->B4,eq_nil_of_length_eq_zero->Bx,getElem?_of_mem->CJ
open Eq renaming mpr->AM
open Option.some renaming inj->Ax
open Int renaming toNat->Ay,toNat_natCast->B2,tmod_eq_emod_of_nonneg->CK
open BitVec renaming ofInt->B1
open Go.IntKind renaming i64->B3
open Bool renaming false_ne_true->B5,and_eq_true->Bf
namespace Go.Proofs.YtlcenllcmeebhaaGreat.Mu
set_option maxRecDepth 100000
open Go.RX D
abbrev zMu:List Value:=[ag none,ag none,ag none,.slice none 0 0,.map none,.slice none 0 0]
def NM (w:A2) (p:Option Addr):Prop:=p=none\/ ∃b,p=some ⟨b,0,none⟩/\bN w b zMu
section
variable {w:A2} {p:Option Addr}
theorem NM.ext {w':A2} (h:NM w p) (e:Ext w w'):NM w' p:=by
 rcases h with h|⟨b,h1,a⟩
 ·exact .inl h
 ·exact .inr ⟨b,h1,a.ext e⟩
theorem tI (h:NM w p) (n:Int):ae A1 64 [ag p,aa n] w (ag none):=by
 refine ae.of (s:= .el (.one .ptr)) λw' h'=>ai (C:=U2) (aT:=λ_=>[]) (AM (P4 p n w' _) ?_);rcases h.ext h' with rfl|⟨b,rfl,hb⟩
 ·exact⟨λc=>by simp at c,λc=>by simp at c,(none,0,0),λc=>by simp at c,ay rfl λd a=>⟨rfl,a⟩⟩
 ·refine⟨λ_=>rfl,λ_=>rfl,aj.jC (x:=(none,0,0)) (At.start [] w') hb (by simp) rfl (ay ?_ λd a=>⟨rfl,a⟩)⟩;by_cases c:n<0
  ·rw[decide_eq_true c];rfl
  ·rw[decide_eq_true (show n>=((0:Nat):Int) by omega)];simp
theorem Cj (h:NM w p) (n:Int):aD A1 31 (.bu [.agg ik,.one .bool]) [ag p,aa n] w (λx w'=>x=((0,0,()),false,())/\Ext w w'):=by
 refine aQ (C:=U3) (aT:=λ_=>[]) (AM (Fc _ n w _) ?_);exact aM.go (At.start [] w) λb a H=>⟨none,tI (h.ext H.all) n,ay rfl (aC.all 0 H rfl rfl rfl λc H=>au.go H λd H=>aj.at 0 H rfl (show _=some (0,0,()) from rfl) ⟨rfl,H.all⟩)⟩
theorem Fw (h:NM w p) (n v k a b c:Int):aD A1 29 (.el (.one (.int .i64))) [ag p,aa n,aa v,.agg ⟨gg k a b c⟩] w (λx w'=>x=10/\Ext w w'):=by
 refine ai (C:=U2) (aT:=λ_=>[]) (AM (J0 p n v k a b c w _) ?_);refine aM.go (At.start [] w) λf d H=>⟨none,tI (h.ext H.all) n,?_⟩;rcases h.ext H.all with rfl|⟨g,rfl,hb⟩
 ·exact⟨λc=>by simp at c,λc=>by simp at c,none,λc=>by simp at c,ay rfl (au.go H λe H=>⟨rfl,H.all⟩)⟩
 ·exact⟨λ_=>rfl,λ_=>rfl,aj.jC (x:=none) (At.start [] d) hb (by simp) rfl (ay rfl (au.go H λe H=>⟨rfl,H.all⟩))⟩
theorem Ad (h:NM w p) (n:Int):ae A1 49 [ag p,aa n] w (aa 0):=
 ae.of (s:= .el (.one (.int .i64))) λw' h'=>ai (C:=U2) (aT:=λ_=>[]) (AM (BY p n w' _) ⟨none,tI (h.ext h') n,ay rfl λb a=>⟨rfl,a⟩⟩)
theorem NY (h:NM w p) (n:Int):ae A1 50 [ag p,aa n] w (aa 0):=
 ae.of (s:= .el (.one (.int .i64))) λw' h'=>ai (C:=U2) (aT:=λ_=>[]) (AM (Fe p n w' _) ⟨none,tI (h.ext h') n,ay rfl λb a=>⟨rfl,a⟩⟩)
theorem Ae (h:NM w p):ae A1 17 [ag p] w (ag none):=by
 refine ae.of (s:= .el (.one .ptr)) λw' h'=>ai (C:=U2) (aT:=λ_=>[]) (AM (B7 p w' _) ?_);rcases h.ext h' with rfl|⟨b,rfl,hb⟩
 ·exact ay rfl λc a=>⟨rfl,a⟩
 ·exact an rfl ⟨rfl,rfl,aj.jC (x:=none) (At.start [] w') hb (by simp) rfl λc a=>⟨rfl,a⟩⟩
theorem Ag (h:NM w p):aD A1 41 (.el (.one .slice)) [ag p] w (λx w'=>x.2.1=0/\Ext w w'):=by
 refine ai (C:=U2) (aT:=λ_=>[]) (AM (BZ p w _) ?_);rcases h with rfl|⟨b,rfl,hb⟩
 ·exact ay rfl λe a=>⟨rfl,a⟩
 ·refine an rfl ⟨rfl,rfl,aj.jC (x:=(none,0,0)) (At.start [] w) hb (by simp) rfl λw1 h1=>?_⟩;exact FO (Ls:=[]) (L:=[]) (M:=[]) (cF.start [] w1) (dv.nil YS) rfl (q:=(none,0,0)) (ys:=[]) rfl rfl rfl rfl (by decide) λs' f g hs c i d=>⟨hs.1,h1.trans (c.base.all.trans d)⟩
theorem II (h:NM w p) (n:Int):aD A1 51 (.el (.one .slice)) [ag p,aa n] w (λx w'=>x=(none,0,0)/\Ext w w'):=
 ai (C:=U2) (aT:=λ_=>[]) (AM (B6 p n w _) ⟨none,tI h n,ay rfl λb a=>⟨rfl,a⟩⟩)
theorem NZ:aD A1 32 (.el (.one .slice)) [ag none] w (λx w'=>x=(none,0,0)/\Ext w w'):=
 ai (C:=U2) (aT:=λ_=>[]) (AM (wR none w _) (ay rfl λb a=>⟨rfl,a⟩))
end
theorem TI (n:Int) (v:(Lit.int .i64 n).wf=true) (q:jq sCl) (y:lz sCl q) {w:A2}:
 aD A1 10 (.el (.one .bool)) [aa n,.agg ⟨bh _ q⟩] w (λb w'=>b=true/\Ext w w'):=by
 obtain⟨k,a,b,d,u⟩:=q;refine ai (C:=U6) (aT:=λ_=>[]) (AM (W6 n k a b d w _) ?_);have n0: ∀w,NM w none:=λ_=> .inl rfl;refine aM.go (At.start [] w) λz w1 H=>aM.go H λe A H=>?_;have c: ∀{w':A2} {L:List (Nat×List Value)},At [] w w' L->(e,zMu)∈L->NM w' (af e):=λH h=> .inr ⟨e,rfl,H.dp _ h⟩;refine aA.val H (s:= .bu [.agg ik,.one .bool]) ((0,0,()),false,()) (λf _=>Cj (n0 f) n) λf H=>aM.go H λB D H=>aC.all 0 H rfl rfl rfl λE H=>?_;refine aA.val H (s:= .bu [.agg ik,.one .bool]) ((0,0,()),false,()) (λo H=>Cj (c H (by simp)) n) λo H=>aM.go H λF G H=>aC.all 0 H rfl rfl rfl λI H=>?_;refine aj.at 1 H rfl (show _=some (0,0,()) from rfl) (aj.at 0 H rfl (show _=some (0,0,()) from rfl) (aj.at 3 H rfl (show _=some (k,a,b,d,()) from rfl) (ay rfl ?_)));refine aA.val H (s:= .el (.one (.int .i64))) 10 (λg _=>Fw (n0 g) n 1 k a b d) λg H=>aj.at 3 H rfl (show _=some (k,a,b,d,()) from rfl) (ay rfl ?_);refine aA.val H (s:= .el (.one (.int .i64))) 10 (λp H=>Fw (c H (by simp)) n 1 k a b d) λp H=>⟨0,λ_=>Ad (n0 _) n,0,λ_=>Ad (c H (by simp)) n,ay rfl ?_⟩;refine aA.quiet H (s:= .el (.one .slice)) (R:=λx:Option Addr×Nat×Nat=>x.2.1=0) (λi=>Ag (n0 i)) λx i hx H=>ay (by rw[hx];rfl) λJ j=>(Ag (c (H.ext j) (by simp))).mono λx K ⟨hx,r⟩=>ay (by rw[hx];rfl) ?_;have H:=(H.ext j).ext r;refine aA.val H (s:= .el (.one .slice)) (none,0,0) (λl _=>II (n0 l) n) λl H=>⟨0,λ_=>NY (c H (by simp)) n,none,λ_=>Ae (n0 _),none,λ_=>Ae (c H (by simp)),ay rfl ?_⟩;exact aA.val H (s:= .el (.one .slice)) (none,0,0) (λt _=>NZ) λt H=>ay rfl (aA.val H (s:= .el (.one .bool)) true (λm _=>Ci m) λm H=>au.go H λM H=>⟨rfl,H.all⟩)
end Go.Proofs.YtlcenllcmeebhaaGreat.Mu
namespace Go.Proofs.YtlcenllcmeebhaaGreat
set_option maxRecDepth 100000
open Go.RX D
section
variable {n:Nat} {p:Int} {s s':MS}
abbrev IW (p:Int):CT:=(6,16*p,0,0,())
abbrev Cy (p:Int):CT:=(4,p,0,0,())
structure Ld (n:Nat) (p:Int) (s:MS):Prop where
 x:uV n s
 pr:0<=p/\p<65536
 lv:aS s.h.g 1=true
 k6: ∀(c:Nat) (x:bG),1<=c->s.cs[c]? =some x->x.ph≠4/\(x.ph≠0->x.vm=1/\x.c=IW p)
 c0: ∀x:bG,s.cs[0]? =some x->x.ph=0\/x.ph=4
theorem Ld.acc (L:Ld n p s) {c:Nat} {x:bG} (hc:1<=c) (hx:s.cs[c]? =some x) (h0:x.ph≠0):jG s.h x=true:=by
 obtain⟨a,b⟩:=(L.k6 c x hc hx).2 h0;have:=L.pr;unfold jG;rw[a,b,L.lv];show(decide (a7 6>0)&&(true&&(fx 6 (16*p) 0 0&&decide (16*p<1048576))))=true;rw[decide_eq_true (show 16*p<1048576 by omega),show fx 6 (16*p) 0 0=true from rfl];rfl
theorem Qh: ∀(l:List Int) (s:MS),(l.foldl g_ s).h.g=s.h.g
 |[], _=>rfl
 |f::l,s=>by rw[List.foldl_cons,Qh l _];rfl
theorem aaI (s:MS):(cQ s).1.h.g=s.h.g:=Qh _ _
structure Lc (n:Nat) (p:Int) (s s':MS) (k:Nat) (x x':bG):Prop where
 hx:s.cs[k]? =some x
 C:Ch s s' k x x'
 P:Pg s s' k x x'
 k6:1<=k->x'.ph≠4/\(x'.ph≠0->x'.vm=1/\x'.c=IW p)
 i1:x.ph=1->x.c.1=6/\jG s.h x=true
 i3:x.ph=3->x.c.1=6
 c0:k=0->x'.ph=0\/x'.ph=4
theorem Ld.YQ (L:Ld n p s) {k:Nat} (j:k<n): ∃x x',Lc n p s (aR s (k:Int)).1 k x x':=by
 have X':=L.x.step (k:Int);obtain⟨gh,ta,M⟩:=L.x;obtain⟨x,hx⟩: ∃x,s.cs[k]? =some x:=⟨_,AB (by have:=M.lc;omega)⟩;have d:=(AL.1 hx).1;rw[pL hx] at X' ⊢;obtain⟨x',C⟩:=Go.Proofs.YtlcenllcmeebhaaGreat.YQ M hx;obtain⟨a,P⟩:=prog M hx;have e:a=x':=by
  have e:=P.cs;rw[C.cs] at e;have h:(s.cs.set k x')[k]? =(s.cs.set k a)[k]? :=by rw[e]
  rw[AY d,AY d] at h;exact(Ax h).symm
 subst e;obtain⟨_, _,M'⟩:=X';have l:=M'.ph a (by rw[C.cs];exact aB (AY d));refine⟨x,a,hx,C,P,λh1=>⟨λf=>?_,λh0=>?_⟩,λh1=>?_,λm=>?_,λh0=>?_⟩
 ·rcases C.p4 f with ⟨e, _⟩|⟨_,e, _⟩
  ·exact(L.k6 k x h1 hx).1 e
  ·rcases C.vc with b|⟨b, _, _⟩
   ·omega
   ·exact e (by rw[((L.k6 k x h1 hx).2 b).2])
 ·rcases C.vc with b|⟨b,g,i⟩
  ·exact absurd b h0
  ·rw[g,i];exact(L.k6 k x h1 hx).2 b
 ·have c:1<=k:=by
   by_cases e:k=0
   ·subst e;have:=L.c0 x hx;omega
   ·omega
  exact⟨by rw[((L.k6 k x c hx).2 (by omega)).2],L.acc c hx (by omega)⟩
 ·have c:1<=k:=by
   by_cases e:k=0
   ·subst e;have:=L.c0 x hx;omega
   ·omega
  rw[((L.k6 k x c hx).2 (by omega)).2]
 ·subst h0;have o:=L.c0 x hx;have a1:a.ph≠1:=λe=>by have:=P.one e;omega
  have q:a.ph≠2:=λe=>by have:=C.p2 e;omega
  have r:a.ph≠3:=λe=>by
   rcases(C.p3 e).2 with h|h<;>omega
  omega
theorem Lc.h {k:Nat} {x x':bG} (K:Lc n p s s' k x x'):(s'.h.s=s.h.s/\s'.h.g=s.h.g)\/s'.h=(cQ s).1.h:=by
 rcases K.C.md with h|h|⟨h1,h⟩|⟨a,b, _⟩
 ·left;rw[h];exact⟨rfl,rfl⟩
 ·exact .inr h
 ·left;rw[h,(K.i1 h1).1];exact do6 _ _ _ _ _
 ·have:=K.i3 a;omega
theorem Lc.g {k:Nat} {x x':bG} (K:Lc n p s s' k x x'):s'.h.g=s.h.g:=by
 rcases K.h with ⟨_,h⟩|h
 ·exact h
 ·rw[h];exact aaI s
theorem Lc.box {k:Nat} {x x':bG} (K:Lc n p s s' k x x') {j:Nat} (a:j≠k) {q:List AK} (b:s.bx[j]? =some q):s'.bx[j]? =some q:=by
 obtain⟨r,h1,c,d⟩:=K.C.bo j a q b;have:r=[]:=by
  by_cases e:x.ph=1
  ·exact c e (K.i1 e).1 (K.i1 e).2
  ·exact d e
 rw[this,List.append_nil] at h1;exact h1
theorem Lc.nu {k:Nat} {x x':bG} (K:Lc n p s s' k x x') (c:s.bx.length=n) {j:Nat} (a:j≠k) (d:j<n):Aq s' j=Aq s j/\bl s' j=bl s j:=by
 obtain⟨q,b⟩: ∃q,s.bx[j]? =some q:=⟨_,AB (by omega)⟩;have hb:bl s' j=bl s j:=by unfold bl;rw[AC,AC,K.box a b,b]
 refine⟨?_,hb⟩;unfold Aq gC;rw[hb,K.C.cs,AC,AC,B4 (λe=>a e.symm)]
theorem Lc.me {k:Nat} {x x':bG} (K:Lc n p s s' k x x'):Aq s' k<=Aq s k/\(0<Aq s k->Aq s' k<Aq s k)/\(0<n->qG x=0->bl s k=0->bl s' k=0):=by
 have c:gC s k=x:=by unfold gC;rw[AC,K.hx];rfl
 have d:gC s' k=x':=by unfold gC;rw[AC,K.C.cs,AY (AL.1 K.hx).1];rfl
 have h1:=K.P.me;have e:=K.P.lt;unfold Aq;rw[c,d];exact⟨h1,e,λ_ a b=>by omega⟩
theorem Ld.step (L:Ld n p s) {k:Nat} (b:k<n):Ld n p (aR s (k:Int)).1:=by
 obtain⟨x,x',K⟩:=L.YQ b;have d:=(AL.1 K.hx).1;refine⟨L.x.step _,L.pr,by rw[K.g];exact L.lv,λc y hc a=>?_,λy a=>?_⟩
 ·rw[K.C.cs] at a;rcases de a with ⟨rfl,rfl⟩|⟨_,a⟩
  ·exact K.k6 hc
  ·exact L.k6 c y hc a
 ·rw[K.C.cs] at a;rcases de a with ⟨e,rfl⟩|⟨_,a⟩
  ·exact K.c0 e.symm
  ·exact L.c0 y a
structure Pw (n:Nat) (p:Int) (h1:HS) (s:MS):Prop where
 l:Ld n p s
 hs:s.h.s=h1.s
 hg:s.h.g=h1.g
 n5: ∀(m:Nat) (d:DT),h1.s.2[m]? =some d->d.1≠5
 b0:bl s 0=0
 nu: ∀c,c<n->Aq s c<=6
 i0: ∀x:bG,s.cs[0]? =some x->x.ph=0
theorem vr (h:s.ep.ws=[]):(cQ s).1.h=s.h:=by
 have:my (e_ s.ep)=[]:=by
  unfold my;rw[show(e_ s.ep).ws=s.ep.ws by unfold e_;split<;>rfl,h];rfl
 unfold cQ;rw[this];rfl
theorem Pw.step {h1:HS} (R:Pw n p h1 s) {k:Nat} (b:k<n) (h0:1<=k):Pw n p h1 (aR s (k:Int)).1:=by
 obtain⟨x,x',K⟩:=R.l.YQ b;have q:s.ep.ws=[]:=by
  obtain⟨gh,ta,M⟩:=R.l.x;refine List.eq_nil_iff_forall_not_mem.2 λe r=>?_;obtain⟨m,d, _,f,t⟩:=M.k5 _ (M.wk e r).1;rw[R.hs] at f;exact R.n5 m d f t
 have i:(aR s (k:Int)).1.h.s=s.h.s/\(aR s (k:Int)).1.h.g=s.h.g:=by
  rcases K.h with h|h
  ·exact h
  ·rw[h,vr q];exact⟨rfl,rfl⟩
 have o:s.bx.length=n:=by obtain⟨gh,ta,M⟩:=R.l.x;exact M.lb
 refine⟨R.l.step b,i.1.trans R.hs,i.2.trans R.hg,R.n5,?_,λc hc=>?_,λy a=>?_⟩
 ·rw[(K.nu o (j:=0) (by omega) (by omega)).2];exact R.b0
 ·by_cases e:c=k
  ·subst e;have:=K.me.1;have:=R.nu c hc;omega
  ·rw[(K.nu o e hc).1];exact R.nu c hc
 ·rw[K.C.cs] at a;rcases de a with ⟨e, _⟩|⟨_,a⟩
  ·omega
  ·exact R.i0 y a
structure Rl (n:Nat) (p:Int) (B:Nat->Nat) (s:MS):Prop where
 r:KF n s
 l:Ld n p s
 b0:bl s 0=0
 i4: ∀x:bG,s.cs[0]? =some x->x.ph=4
 nu: ∀c,1<=c->c<n->Aq s c<=B c
theorem aaJ {c:bG} {i:Nat} (hv:c.vm≠0):nJ s i c=false:=by
 unfold nJ;rw[List.any_eq_false];intro j _;split
 ·exact B5
 ·rw[decide_eq_false (λk=>hv k.2)];exact B5
theorem C9 (b:s.bx.length=n) {c:Nat} (hc:c<n): ∃q,s.bx[c]? =some q/\bl s c=q.length:=by
 obtain⟨q,a⟩: ∃q,s.bx[c]? =some q:=⟨_,AB (by omega)⟩;exact⟨q,a,by unfold bl;rw[AC,a];rfl⟩
theorem acf (X:uV n s) {c:Nat} {x:bG} (hx:s.cs[c]? =some x):qG x<=6:=by
 obtain⟨gh,ta,M⟩:=X;refine ac1 λa=>?_;obtain⟨l,w1,b, _⟩:=M.wl hx a;omega
theorem Pw.ac' {h1:HS} (R:Pw n p h1 s) (Z:2<=n/\n<=8) (C:mM h1 1 p=0) (only: ∀i q g,lY h1 i q=some g->i=1/\q=p):Rl n p (λ_=>7) (aR (cP s 0 1 (Cy p)) 0).1:=by
 have D:cg (Cy p).2.1/\cg (Cy p).2.2.1/\cg (Cy p).2.2.2.1:=⟨⟨R.l.pr.1,by have:=R.l.pr;show p< _;omega⟩,(show cg 0 by decide),(show cg 0 by decide)⟩;have X':=(R.l.x.ask 0 1 D).step 0;have E:=R.l.x;obtain⟨gh,ta,M⟩:=E;obtain⟨x,hx⟩: ∃x,s.cs[0]? =some x:=⟨_,AB (by have:=M.lc;omega)⟩;have A:=(AL.1 hx).1;obtain⟨q0,F,G⟩:=C9 M.lb (c:=0) (by omega);have H:s.bx[0]? =some []:=by
  have:=R.b0;rw[G] at this;rw[F,Bx this]
 have a1:cP s 0 1 (Cy p)=bS s 0 {x with ph:=1,vm:=1,c:=Cy p}:=(pM hx (R.i0 x hx) 1 (Cy p)).1;rw[a1] at X' ⊢;generalize o:({x with ph:=1,vm:=1,c:=Cy p}:bG)=y at X' ⊢;have I:y.ph=1:=by rw[<-o]
 have r:y.c=Cy p:=by rw[<-o]
 have d:y.vm=1:=by rw[<-o]
 have hg:(bS s 0 y).cs[0]? =some y:=AY A;have t:mM s.h 1 p=0:=by
  have:mM s.h 1 p=mM h1 1 p:=by
   unfold mM gi;rw[R.hs,R.hg]
  rw[this];exact C
 have J: ∀i q g,lY s.h i q=some g->i=1/\q=p:=λi q g h=>only i q g (by
  rw[eo, <-Fk R.hs R.hg, <-eo];exact h)
 have K:aE .i64 p=p:=bJ (by have:=R.l.pr;omega);have L:gw s.h 1 4 p 0 0=0:=by
  unfold gw;rw[R.l.lv,show fx 4 p 0 0=true from rfl];rfl
 obtain⟨d1,d2,d3⟩:=y8 L;have d1:iX s.h 1 4 p 0 0=ki s.h 1 p:=d1;have d2:oO s.h 1 4 p 0 0=0:=d2.trans (show(yy s.h 1 p).2=0 by unfold yy;rw[aw t]);have N: ∀q∈s.bx.eraseIdx 0,¬ (q.length==16)=true:=λq b=>by
  obtain⟨c,hc⟩:=CJ (List.mem_of_mem_eraseIdx b);have j:c<n:=by have:=(AL.1 hc).1;rw[M.lb] at this;exact this
  obtain⟨P,B,e⟩:=C9 M.lb j;rw[hc] at B;have:=R.nu c j;have u:q=P:=Ax B;unfold Aq at this;rw[u];simp;omega
 have Q:cz s.bx s.op 0 1 p=((s.op.length:Int)+1,s.bx.zipIdx.map (λ(q,i)=>if i=0 then q else q++[((s.op.length:Int)+1,1,p,())]),s.op++[(s.bx.length:Int) - 1]):=by
  unfold cz;rw[ao (by have:=R.l.pr;omega),ao (by rw[List.any_eq_true];exact λ⟨q,h1,S⟩=>N q h1 S)]
 have T:(aR (bS s 0 y) 0).1=mg s (ki s.h 1 p) 0 y 1 p (qF s.h 1 4 p 0 0,0) (s.ms++[(1,1,0,Cy p,qF s.h 1 4 p 0 0,0)]):=by
  have U:aR (bS s 0 y) 0=Go.Proofs.YtlcenllcmeebhaaGreat.iB (bS s 0 y) 0 y:=pL (c:=0) hg;rw[U];unfold Go.Proofs.YtlcenllcmeebhaaGreat.iB;rw[ao (by omega)];unfold tq;rw[show(bS s 0 y).bx[0]? =some [] from H];dsimp only;unfold bO;rw[ao (by omega),aw I];unfold cZ;have V:jG (bS s 0 y).h y=false:=by unfold jG;rw[r];rfl
  rw[V,aaJ (by rw[d];decide),ao (by decide),ao (by decide),ao (λk=>by rw[d] at k;exact absurd k.1 (by decide))];unfold fp;dsimp only;rw[r,d,aw (.inr (.inl rfl)),ao (by show ¬ oO s.h 1 4 p 0 0≠0;rw[d2];decide),K];unfold il mg bS;dsimp only;rw[ao (by decide),show iX s.h 1 4 p 0 0=ki s.h 1 p from d1,show oO s.h 1 4 p 0 0=0 from d2,List.set_set];simp only[ao (show ¬ (4:Int)=2 by decide),r,d];rfl
 rw[T] at X' ⊢;have hb: ∀c,1<=c-> ∀q,s.bx[c]? =some q->(cz s.bx s.op 0 1 p).2.1[c]? =some (q++[((s.op.length:Int)+1,1,p,())]):=λc hc q b=>by
  rw[Q];have:=post_at (i:=0) (x:=(((s.op.length:Int)+1,1,p,()):AK)) b;rw[ao (by omega)] at this;exact this
 have eA: ∀c,1<=c-> ∀z,(s.cs.set 0 z)[c]? =s.cs[c]? :=λc hc z=>B4 (by omega);have v: ∀(c:Nat) (z:bG),1<=c->(mg s (ki s.h 1 p) 0 y 1 p (qF s.h 1 4 p 0 0,0) (s.ms++[(1,1,0,Cy p,qF s.h 1 4 p 0 0,0)])).cs[c]? =some z->s.cs[c]? =some z:=λc z hc a=>by
  unfold mg at a;rw[eA c hc] at a;exact a
 have m: ∀z:bG,(mg s (ki s.h 1 p) 0 y 1 p (qF s.h 1 4 p 0 0,0) (s.ms++[(1,1,0,Cy p,qF s.h 1 4 p 0 0,0)])).cs[0]? =some z->z.ph=4:=λz a=>by
  unfold mg at a;rw[AY A] at a;rw[<-Ax a]
 have W:(ki s.h 1 p).g=s.h.g:=by
  obtain⟨dy,f,H',O, _⟩:=M.hi.C5 R.l.lv t;exact O.g
 refine⟨⟨X',qO.rec M.hi R.l.lv t J,λc z hc a=>?_,λz a=> .inr (m z a),λc z a h3=>?_⟩,⟨X',R.l.pr,by show aS (ki s.h 1 p).g 1=true;rw[W];exact R.l.lv,λc z hc a=>R.l.k6 c z hc (v c z hc a),λz a=> .inr (m z a)⟩,?_,m,λc hc j=>?_⟩
 ·obtain⟨w,u⟩:=R.l.k6 c z hc (v c z hc a);exact⟨w,λh0=>by rw[(u h0).2]⟩
 ·by_cases hc:1<=c
  ·have X:=v c z hc a;obtain⟨q,b, _⟩:=C9 M.lb (c:=c) (by have:=(AL.1 X).1;have:=M.lc;omega);show(cz s.bx s.op 0 1 p).2.1[c]? ≠some [];rw[hb c hc q b];intro k;have:=Ax k;simp at this
  ·have:c=0:=by omega
   subst this;have:=m z a;omega
 ·show((cz s.bx s.op 0 1 p).2.1.getD 0 []).length=0;rw[(ub _ _ _ _ _ 0).2 rfl];exact R.b0
 ·have Y:=R.nu c j;have w:Aq (mg s (ki s.h 1 p) 0 y 1 p (qF s.h 1 4 p 0 0,0) (s.ms++[(1,1,0,Cy p,qF s.h 1 4 p 0 0,0)])) c=((cz s.bx s.op 0 1 p).2.1.getD c []).length+qG (gC s c):=by
   unfold Aq bl gC mg;dsimp only;rw[AC (l:=s.cs.set 0 _),eA c hc, <-AC]
  have:=(ub s.bx s.op 0 1 p c).1;unfold Aq bl at Y;rw[w];omega
theorem Rl.step {B a:Nat->Nat} (R:Rl n p B s) {k:Nat} (b:k<n) (h0: ∀x:bG,(aR s (k:Int)).1.cs[0]? =some x->x.ph=4) (g: ∀c,1<=c->c≠k->B c<=a c) (h:B k<=a k+1):Rl n p a (aR s (k:Int)).1:=by
 obtain⟨x,x',K⟩:=R.l.YQ b;have f:s.bx.length=n:=by obtain⟨gh,ta,M⟩:=R.l.x;exact M.lb
 refine⟨R.r.step _,R.l.step b,?_,h0,λc hc d=>?_⟩
 ·by_cases e:k=0
  ·subst e;refine K.me.2.2 b ?_ R.b0;unfold qG;have:=R.i4 x K.hx;rw[ao (by omega),ao (by omega),ao (by omega)]
  ·rw[(K.nu f (j:=0) (by omega) (by omega)).2];exact R.b0
 ·by_cases e:c=k
  ·subst e;have h1:=K.me;have i:=R.nu c hc d;by_cases e:0<Aq s c
   ·have:=h1.2.1 e;omega
   ·have:=h1.1;omega
  ·rw[(K.nu f e d).1];exact Nat.le_trans (R.nu c hc d) (g c hc e)
theorem Rl.done {B:Nat->Nat} (R:Rl n p B s) (g:0<n) (h0: ∀c,1<=c->c<n->B c=0) {x:bG} (hx:(aR s 0).1.cs[0]? =some x):x.ph=0:=by
 obtain⟨gh,ta,M⟩:=R.l.x;obtain⟨y,a⟩: ∃y,s.cs[0]? =some y:=⟨_,AB (by have:=M.lc;omega)⟩;have h:=(AL.1 a).1;have i:=R.i4 y a;have d: ∀(c:Nat) (q:List AK),s.bx[c]? =some q->q=[]:=λc q b=>by
  have hc:c<n:=by have:=(AL.1 b).1;rw[M.lb] at this;exact this
  have hb:bl s c=0:=by
   by_cases e:1<=c
   ·have:=R.nu c e hc;rw[h0 c e hc] at this;unfold Aq at this;omega
   ·have:c=0:=by omega
    subst this;exact R.b0
  unfold bl at hb;rw[AC,b] at hb;exact Bx hb
 obtain⟨j,f, _⟩:=C9 M.lb g;have k:tC s y.ak=true:=by
  obtain⟨h1,m, _⟩:=M.wt y (aB a) i;unfold tC;rw[decide_eq_true ⟨h1,m⟩,M.oc (y.ak - 1).toNat (by omega)];have:s.bx.countP (λq=>jt q (((y.ak - 1).toNat:Int)+1))=0:=by
   refine List.countP_eq_zero.2 λq b=>?_;obtain⟨c,hc⟩:=CJ b;rw[d c q hc];exact B5
  rw[this];rfl
 have o:aR s 0=Go.Proofs.YtlcenllcmeebhaaGreat.iB s 0 y:=pL (c:=0) a;rw[o] at hx;unfold Go.Proofs.YtlcenllcmeebhaaGreat.iB at hx;rw[ao (by omega)] at hx;unfold tq at hx;rw[f,d 0 j f] at hx;dsimp only at hx;unfold bO at hx;rw[ao (by omega),ao (by omega),ao (by omega),ao (by omega)] at hx;unfold h_ at hx;rw[k,aw rfl,eT (by exact a)] at hx;dsimp only at hx;rw[AY h] at hx;rw[<-Ax hx];rfl
end
end Go.Proofs.YtlcenllcmeebhaaGreat
namespace Go.Proofs.YtlcenllcmeebhaaGreat.Mu
set_option maxRecDepth 100000
open Go.RX D
def Hq (c:CT):List Nat->MS->Prop
 |[], _=>True
 |N::l,S=> ∃a r,(∀k,k+1<N->(aR (itM 0 k (cP S 0 1 c)) 0).2.2=false)/\1<=N/\N<=9/\aR (itM 0 (N - 1) (cP S 0 1 c)) 0=(a,r,true)/\s9 a 0=0/\Hq c l a
theorem EE {a b:Int} (h:0<=a*b) (h':a*b<18446744073709551616):gq .u64 a b=a*b:=dK ⟨h,h'⟩
theorem ach {x d:Int} (h:0<=x/\x<65536):dz (aE .u64 x) d=x % d:=by
 rw[dK (by omega)];unfold dz;exact CK h.1
def wX:Nat->a6:=(λ|9=>[(11,Go.RX.El.one (Go.RX.Sc.int B3))]|13=>[(12,Go.RX.El.one (Go.RX.Sc.int B3))]|18=>[(13,Go.RX.El.one (Go.RX.Sc.int B3))]|29=>[(15,Go.RX.El.one (Go.RX.Sc.int B3))]|33=>[(17,Go.RX.El.one (Go.RX.Sc.int B3))]| _=>[])
theorem W7 (n:Int) (p:Option Addr) (m c:Nat) (g:Int) (w:A2) (h:Bool->A2->Prop):(aJ U6 wX 9 [.int .u8 n,.slice p m c,.int .u8 g] w h)=(
 aA A1 15 (.bu [.one .ptr,.one .bool]) [aa 60,aa (aH .i64 2 (dz (aE .i64 n) 7)),aa 4] w λx a=>aI (!x.2.1) (au a (h false)) (aA A1 29 (.el aV) [ag x.1,aa 0,aa 1,.agg ⟨[aa 3,az (dz (aE .u64 g) 4),az 3,az 0]⟩] a λ(y:Int) a=>aA A1 31 (.bu [.agg [.int .u64,.int .i64],.one .bool]) [ag x.1,aa 0] a λ(z:(Int×Int×Unit)×Bool×Unit) a=> ∃(I:Nat->Int×Unit->A2->Prop),(∃n, ∀w1,Ext a w1->I n (1,()) w1)/\ ∀(q:
 Nat) (s:Int×Unit) (w1:A2),I q s w1->aI (decide (s.1<aH .i64 2 (dz (aE .i64 n) 7))) (aA A1 29 (.el aV) [ag x.1,aa s.1,aa 1,.agg ⟨[aa 6,az (gq .u64 16 (dz (aE .u64 g) 4)),az 0,az 0]⟩] w1 λ(x:Int) a=> ∀b,Ext a b-> ∃(d:Nat),d<q/\I d (aH .i64 s.1 1,()) b) (∃(I:Nat->Int×Unit->A2->Prop),(∃n, ∀i,Ext w1 i->I n (0,()) i)/\ ∀(r:Nat) (s:Int×Unit) (w1:A2),I r s w1->aI (decide (s.1<(↑m:Int))&&decide (s.1<40)) ((p.isSome
 =true/\0<=s.1/\s.1<(↑m:Int))/\(ad p (Ay s.1*7)).isSome=true/\aj w1 none (ad (ad p (Ay s.1*7)) 0) aV λ(t:Int)=>aX .i64 (aH .i64 2 (dz (aE .i64 n) 7)) 1≠0/\aA A1 31 (.bu [.agg [.int .u64,.int .i64],.one .bool]) [ag x.1,aa (aH .i64 1 (dz (ny .i64 t 7) (aX .i64 (aH .i64 2 (dz (aE .i64 n) 7)) 1)))] w1 λ(x:(Int×Int×Unit)×Bool×Unit) a=> ∀b,Ext a b-> ∃(d:Nat),d<r/\I d (aH .i64 s.1 1,()) b) (aA A1 29 (.el aV) [ag x.1,aa 0,aa 1,
 .agg ⟨[aa 4,az (dz (aE .u64 g) 4),az 0,az 0]⟩] w1 λ(t:Int) a=> ∃(I:Nat->Int×Unit->A2->Prop),(∃n, ∀w1,Ext a w1->I n (0,()) w1)/\ ∀(j:Nat) (s:Int×Unit) (w1:A2),I j s w1-> ∃(u:Int),(decide (s.1<100)=true->ae A1 49 [ag x.1,aa 0] w1 (aa u))/\aI (decide (s.1<100)&&u != 0) (aA A1 31 (.bu [.agg [.int .u64,.int .i64],.one .bool]) [ag x.1,aa 0] w1 λ(l:(Int×Int×Unit)×Bool×Unit) a=>aX .i64 (aH .i64 2 (dz (aE .i64 n)
 7)) 1≠0/\aI (decide (s.1<(↑m:Int))&&decide (s.1<40)) ((p.isSome=true/\0<=s.1/\s.1<(↑m:Int))/\(ad p (Ay s.1*7)).isSome=true/\aj a none (ad (ad p (Ay s.1*7)) 0) aV λ(e:Int)=>aX .i64 (aH .i64 2 (dz (aE .i64 n) 7)) 1≠0/\ ∃(k:Int),ae A1 49 [ag x.1,aa 0] a (aa k)/\aI (k != 0) (aA A1 31 (.bu [.agg [.int .u64,.int .i64],.one .bool]) [ag x.1,aa (aH .i64 1 (dz (ny .i64 e 7) (aX .i64 (aH .i64 2 (dz (aE .i64 n) 7)) 1)))] a λ(x:(Int×Int×
 Unit)×Bool×Unit) a=> ∀b,Ext a b-> ∃(d:Nat),d<j/\I d (aH .i64 s.1 1,()) b) (∀b,Ext a b-> ∃(d:Nat),d<j/\I d (aH .i64 s.1 1,()) b)) (∃(e:Int),ae A1 49 [ag x.1,aa 0] a (aa e)/\aI (e != 0) (aA A1 31 (.bu [.agg [.int .u64,.int .i64],.one .bool]) [ag x.1,aa (aH .i64 1 (dz s.1 (aX .i64 (aH .i64 2 (dz (aE .i64 n) 7)) 1)))] a λ(x:(Int×Int×Unit)×Bool×Unit) a=> ∀b,Ext a b-> ∃(d:Nat),d<j/\I d (aH .i64 s.1 1,()) b) (∀
 b,Ext a b-> ∃(d:Nat),d<j/\I d (aH .i64 s.1 1,()) b))) (∃(l:Int),ae A1 49 [ag x.1,aa 0] w1 (aa l)/\aI (l != 0) (au w1 (h false)) (∃(I:Nat->Int×Unit->A2->Prop),(∃n, ∀i,Ext w1 i->I n (0,()) i)/\ ∀(v:Nat) (s:Int×Unit) (w1:A2),I v s w1->aI (decide (s.1<aH .i64 2 (dz (aE .i64 n) 7))) (aA A1 51 (.el eH) [ag x.1,aa s.1] w1 λe a=> ∃(o:Nat->Int×Unit->A2->Prop),(∃n, ∀w1,Ext a w1->o n (0,()) w1)/\ ∀(n:Nat)
 (f:Int×Unit) (w1:A2),o n f w1->aI (decide (f.1<(↑e.2.1:Int))) ((e.1.isSome=true/\0<=f.1/\f.1<(↑e.2.1:Int))/\(ad e.1 (Ay f.1*4)).isSome=true/\aj w1 none (ad (ad e.1 (Ay f.1*4)) 1) aV λ(x:Int)=>aI (x==aE .i64 (dz (aE .u64 g) 4)) (au w1 (h false)) (∀b,Ext w1 b-> ∃(d:Nat),d<n/\o d (aH .i64 f.1 1,()) b)) (∃(k:Int),ae A1 49 [ag x.1,aa s.1] w1 (aa k)/\aI (k==3) (au w1 (h false)) (∀b,Ext w1 b-> ∃(d:Nat),d<v/\
 I d (aH .i64 s.1 1,()) b))) (aA A1 46 (.el rJ) [] w1 λx a=>au a (h x)))))))):=by kernel_rfl
end Go.Proofs.YtlcenllcmeebhaaGreat.Mu
namespace Go.Proofs.YtlcenllcmeebhaaGreat
set_option maxRecDepth 100000
open Go.RX D
section
variable {n:Nat} {p:Int} {s:MS} {h1:HS}
structure As (n:Nat) (p:Int) (h1:HS) (c:Nat) (s:MS):Prop where
 pw:Pw n p h1 s
 bz: ∀j,j<n->bl s j=0
 id: ∀(j:Nat) (x:bG),c<=j->s.cs[j]? =some x->x.ph=0
theorem As.ask {c:Nat} (A:As n p h1 c s) (hc:1<=c) (g:c<n):As n p h1 (c+1) (cP s (c:Int) 1 (IW p)):=by
 have d:cg (IW p).2.1/\cg (IW p).2.2.1/\cg (IW p).2.2.2.1:=⟨⟨by have:=A.pw.l.pr;show 0<=16*p;omega,by have:=A.pw.l.pr;show 16*p< _;omega⟩,(show cg 0 by decide),(show cg 0 by decide)⟩;have X':=A.pw.l.x.ask (c:Int) 1 d;obtain⟨x,hx⟩: ∃x,s.cs[c]? =some x:=⟨_,AB (by obtain⟨gh,ta,M⟩:=A.pw.l.x;have:=M.lc;omega)⟩;have h:=(AL.1 hx).1;have e:cP s (c:Int) 1 (IW p)=bS s c {x with ph:=1,vm:=1,c:=IW p}:=(pM hx (A.id c x (Nat.le_refl _) hx) 1 (IW p)).1;rw[e] at X' ⊢;refine⟨⟨⟨X',A.pw.l.pr,A.pw.l.lv,λj z b a=>?_,λz a=>?_⟩,A.pw.hs,A.pw.hg,A.pw.n5,A.pw.b0,λj b=>?_,λz a=>?_⟩,A.bz,λj z b a=>?_⟩
 ·rcases de (show(s.cs.set c _)[j]? =some z from a) with ⟨_,rfl⟩|⟨_,a⟩
  ·exact⟨show ¬ (1:Int)=4 by decide,λ_=>⟨rfl,rfl⟩⟩
  ·exact A.pw.l.k6 j z b a
 ·rcases de (show(s.cs.set c _)[0]? =some z from a) with ⟨e, _⟩|⟨_,a⟩
  ·omega
  ·exact A.pw.l.c0 z a
 ·have hb:=A.bz j b;have:Aq (bS s c {x with ph:=1,vm:=1,c:=IW p}) j=bl s j+qG (gC (bS s c {x with ph:=1,vm:=1,c:=IW p}) j):=rfl;rw[this,hb];obtain⟨z,a⟩: ∃z,(bS s c {x with ph:=1,vm:=1,c:=IW p}).cs[j]? =some z:=⟨_,AB (by obtain⟨gh,ta,M⟩:=X';have:=M.lc;omega)⟩;have f:gC (bS s c {x with ph:=1,vm:=1,c:=IW p}) j=z:=by unfold gC;rw[AC,a];rfl
  rw[f];have:=acf X' a;omega
 ·rcases de (show(s.cs.set c _)[0]? =some z from a) with ⟨e, _⟩|⟨_,a⟩
  ·omega
  ·exact A.pw.i0 z a
 ·rcases de (show(s.cs.set c _)[j]? =some z from a) with ⟨e, _⟩|⟨_,a⟩
  ·omega
  ·exact A.id j z (by omega) a
theorem Bd.adq {f:Nat} {l F:Int} (a:Bd f n l p 3 F s) (E:2<=n) (y:0<=p/\p<65536):As n p s.h 1 s/\mM s.h 1 p=0:=by
 have b:aS s.h.g 1=true:=(a.live 1).2 (by omega);have eA: ∀(j:Nat) (x:bG),s.cs[j]? =some x->x=cv []:=λj x hx=>by
  rw[a.cs] at hx;exact List.eq_of_mem_replicate (aB hx)
 have i: ∀j,bl s j=0:=λj=>by
  unfold bl;rw[a.bx,AC,List.getElem?_replicate];split<;>rfl
 refine⟨⟨⟨⟨a.x,y,b,λc x _ hx=>?_,λx hx=>?_⟩,rfl,rfl,λm d z A=>?_,i 0,λc hc=>?_,λx hx=>?_⟩,λj _=>i j,λj x _ hx=>?_⟩,?_⟩
 ·rw[eA c x hx];exact⟨show ¬ (0:Int)=4 by decide,λh=>absurd rfl h⟩
 ·rw[eA 0 x hx];exact .inl rfl
 ·obtain⟨gh,ta,M⟩:=a.x;have:=(M.kd z A).1;rw[a.kn] at this;cases this
 ·obtain⟨x,hx⟩: ∃x,s.cs[c]? =some x:=⟨_,AB (by obtain⟨gh,ta,M⟩:=a.x;have:=M.lc;omega)⟩;have e:gC s c=x:=by unfold gC;rw[AC,hx];rfl
  unfold Aq;rw[i,e,eA c x hx];decide
 ·rw[eA 0 x hx];rfl
 ·rw[eA j x hx];rfl
 ·obtain⟨m,d,t,o,G,B,C⟩:=a.fr;obtain⟨gh,ta,M⟩:=a.x;have q:=a.pg;obtain⟨u,d',r,w,H,k4, _⟩:=M.hi.WH (v:=1) (p:=p) b (by show(gT s.h 1 p).2.2.1=0;rw[q]);have D:u=m:=by
   have r:(gT s.h 1 p).1=(u:Int):=r;rw[q,t] at r;omega
  subst D;rw[o] at w;cases w;unfold mM;rw[ao (by omega),WC b,show gT s.h (1:Int).toNat p=(F,3,0,()) from q,ao (λk=>k rfl),ao (by rw[k4.1 B];decide),ao];have:oN s.h.s.2 F=d:=by
   rw[t];unfold oN;rw[ao (by have:=(AL.1 o).1;omega),B2,AC,o];rfl
  show ¬ (oN s.h.s.2 F).2.2.1>0;rw[this,C];decide
end
def xD (m i c:Nat):Nat:=(List.range i).countP λt=>decide (40<=t)&&decide (t % m=c)
theorem Ck (m i c:Nat):xD m (i+1) c=xD m i c+if 40<=i/\i % m=c then 1 else 0:=by
 unfold xD;rw[List.range_succ,List.countP_append,List.countP_singleton];by_cases h:40<=i<;>by_cases a:i % m=c<;>simp[h,a]
theorem W8: ∀m,m<8-> ∀c,c<m->7<=xD m 89 c:=by decide+kernel
namespace Mu
theorem abi (x:Int):0<=ny .i64 x 7/\ny .i64 x 7<=7:=by
 have h:(B1 64 x &&& B1 64 7).toNat<=7:=by
  rw[BitVec.toNat_and];exact Nat.and_le_right
 generalize b:(B1 64 x &&& B1 64 7).toNat=N at h;have e:ny .i64 x 7=(N:Int):=by
  rw[<-b];exact bJ (a:=((B1 64 x &&& B1 64 7).toNat:Int)) (by rw[b];omega)
 rw[e];omega
theorem C_ {n:Nat} (c:2<=n/\n<=8) {y:Int} (a:0<=y/\y<=1000):aH .i64 1 (dz y (aX .i64 (n:Int) 1))=((1+y.toNat % (n - 1):Nat):Int)/\y.toNat % (n - 1)<n - 1/\aX .i64 (n:Int) 1≠0:=by
 have h1:aX .i64 (n:Int) 1=((n - 1:Nat):Int):=by rw[bC (by omega) (by omega)];omega
 have d:=Nat.mod_lt y.toNat (show 0<n - 1 by omega);have b:dz y ((n - 1:Nat):Int)=((y.toNat % (n - 1):Nat):Int):=by
  unfold dz;rw[CK a.1,Int.natCast_emod,Int.toNat_of_nonneg a.1]
 rw[h1,b,av (by omega) (by omega)];omega
end Mu
end Go.Proofs.YtlcenllcmeebhaaGreat
namespace Go.Proofs.YtlcenllcmeebhaaGreat.Mu
set_option maxRecDepth 100000
open Go.RX D
theorem MG.ld {Q:Sys} {n k:Nat} {s:MS} (H:MG Q n k s) (c:Int) {p:Int} (a:0<=p/\p<65536):MG Q n k (cP s c 1 (IW p)):=
 H.ask c 1 (by decide) ⟨⟨by show 0<=16*p;omega,by show 16*p< _;omega⟩,(show cg 0 by decide),(show cg 0 by decide)⟩
theorem OQ {s:MS} {x:bG} (hx:s.cs[0]? =some x):s9 s 0=x.ph:=Kp (c:=0) hx
theorem aaK {n:Nat} {p:Int} {j:Nat} {s:MS} (d:2<=n/\n<=8) (f:j<=89) (R:Rl n p (λc=>7 - xD (n - 1) j (c - 1)) s):(KF n (aR s 0).1/\s9 (aR s 0).1 0=0)\/(j<=88/\Rl n p (λc=>7 - xD (n - 1) j (c - 1)) (aR s 0).1):=by
 have RS:=R.r.step 0;obtain⟨gh,ta,M⟩:=RS.x;obtain⟨x,hx⟩: ∃x,(aR s 0).1.cs[0]? =some x:=⟨_,AB (by have:=M.lc;omega)⟩;by_cases h0:x.ph=0
 ·exact .inl ⟨RS,(OQ hx).trans h0⟩
 ·right;have a:x.ph=4:=by have:=RS.c0 x hx;omega
  refine⟨?_,R.step (k:=0) (by omega) (λy b=>by have e:some x=some y:=hx.symm.trans b;rw[<-Ax e];exact a) (λc _ _=>Nat.le_refl _) (Nat.le_succ _)⟩;by_cases e:j=89
  ·subst e;refine absurd (R.done (by omega) (λc hc g=>?_) hx) h0;have:=W8 (n - 1) (by omega) (c - 1) (by omega);show 7 - _=0;omega
  ·omega
theorem W9 {n:Nat} {p:Int} {j k:Nat} {s:MS} (d:2<=n/\n<=8) (R:Rl n p (λc=>7 - xD (n - 1) j (c - 1)) s) (e:k<n - 1) (b:j<40\/k=j % (n - 1)):Rl n p (λc=>7 - xD (n - 1) (j+1) (c - 1)) (aR s ((1+k:Nat):Int)).1:=by
 obtain⟨x,x',K⟩:=R.l.YQ (k:=1+k) (by omega);refine R.step (k:=1+k) (by omega) (λy a=>?_) (λc hc f=>?_) ?_
 ·rw[K.C.cs,B4 (by omega)] at a;exact R.i4 y a
 ·show 7 - _<=7 - _;rw[Ck,ao]
  ·omega
  ·rintro⟨h1,g⟩;rcases b with h|h<;>omega
 ·show 7 - _<=7 - _+1;rw[Ck];split<;>omega
theorem TJ (D:Int) (h8:(Lit.int .u8 D).wf=true) (p:Option Addr) (m c:Nat) (xs:List (jq sOp)) (hm:m=xs.length) (hmx:m<=maxLen) {w:A2} (hs:Sl w (.agg sOp) p xs) (hxs: ∀x∈xs,lz sOp x) (g:Int) (hg:(Lit.int .u8 g).wf=true):
 aD A1 9 (.el (.one .bool)) [.int .u8 D,.slice p m c,.int .u8 g] w (λb w'=>b=true/\Ext w w'):=by
 refine ai (C:=U6) (aT:=wX) (AM (W7 D p m c g w _) ?_);have hg:=abh hg;rw[show aH .i64 2 (dz (aE .i64 D) 7)= _ from ac_ h8 2 7 (by decide) (by decide),show dz (aE .u64 g) 4=g % 4 from ach (by omega)];have v:2<=2+D.toNat % 7/\2+D.toNat % 7<=8:=by have:=Nat.mod_lt D.toNat (show 0<7 by decide);omega
 generalize 2+D.toNat % 7=n at v;have J:0<=g % 4/\g % 4<65536:=by omega
 generalize g % 4=q at J;rw[show gq .u64 16 q=16*q from EE (by omega) (by omega)];have Bs:=(WN (f:=60) (n:=n) (l:=4) (by omega) (by omega) (by omega)).2.2;refine Cg (At.start [] w) 60 n 4 (by omega) (by omega) (by omega) λQ X R w1 H a=>an rfl ?_;obtain⟨F,e1,Bd⟩:=Bs.don (by omega) (by omega) (p:=q) (b:=3) J (by omega);obtain⟨A,M⟩:=Bd.adq v.1 J;have hon:=Bd.only;refine mn H 0 1 3 λw2 H=>?_;have G:MG Q n 2 (cP (AT 60 n 4) 0 1 (TY q 3)):=a.ask 0 1 (by decide) ⟨⟨J.1,by show q< _;omega⟩,(show cg 3 by decide),(show cg 0 by decide)⟩;refine gP H G (by omega) 0 λw3 H=>?_;have a:=G.step 0;generalize (aR (cP (AT 60 n 4) 0 1 (TY q 3)) 0).1=S at H a A M hon;clear Bs Bd e1 G;have hMh:=A.pw.l.x;generalize DU:S.h=h1 at A M hon;clear DU;refine⟨λt st w4=> ∃(c:Nat) (s:MS),1<=c/\c<=n/\t=n - c/\st.1=(c:Int)/\MG Q n 3 s/\As n q h1 c s/\MU Q X [] [] w w4 R s [] [] [],⟨n - 1,λw4 h4=>⟨1,S,by omega,by omega,by omega,rfl,a,A,H.ext h4⟩⟩,?_⟩;clear H a A hMh S;rintro t ⟨z, _⟩ w4 ⟨K,s,Uc,Ky,N,hi,a,A,H⟩;have hi:z=(K:Int):=hi;subst hi N;dsimp only;refine ab (λd=>?_) (λd=>?_)
 ·have Ow:K<n:=by have:=of_decide_eq_true d;omega
  exact mn H K 1 6 λY H w6 h6=>⟨n - (K+1),by omega,K+1, _,by omega,by omega,rfl,by rw[av (by omega) (by omega)];omega,a.ld K J,A.ask Uc Ow,H.ext h6⟩
 have I:=A.pw;clear A d Uc Ky;refine⟨λt st Y=> ∃(j:Nat) (s:MS),j<=m/\j<=40/\t=m - j/\st.1=(j:Int)/\MG Q n (3+j) s/\Pw n q h1 s/\MU Q X [] [] w Y R s [] [] [],⟨m,λY h5=>⟨0,s,by omega,by omega,rfl,rfl,a,I,H.ext h5⟩⟩,?_⟩;clear H a I s;rintro t ⟨z, _⟩ Y ⟨j,s,hj,On,N,hi,a,I,H⟩;have hi:z=(j:Int):=hi;subst hi N;dsimp only;have Xc: ∀{w1:A2} {s:MS} {T:List (Nat×List Value)} {j:Nat} {o:OpT},xs[j]? =some o->MU Q X [] [] w w1 R s T [] []->p.isSome=true/\cL w1 (ad (ad p (j*7)) 0) (.one (.int .i64)) o.1:=λL H=>⟨(H.op hs L).1,Qt (H.op hs L).2 (by decide) rfl⟩;refine ab (λd=>?_) (λd=>?_)
 ·have hjm:j<m/\j<40:=by
   simp only[Bf,decide_eq_true_eq] at d;omega
  obtain⟨o,L⟩: ∃o,xs[j]? =some o:=⟨_,AB (by omega)⟩;obtain⟨a1,a2⟩:=Xc L H;have O:=abi o.1;obtain⟨P,Z,k3⟩:=C_ v (y:=ny .i64 o.1 7) (by omega);refine⟨⟨a1,by omega,by omega⟩,Bt a1 _,aj.of o.1 (by rw[B2];exact a2) ⟨k3,?_⟩⟩;rw[P];exact gP H a (by omega) _ λw6 H w7 O=>⟨m - (j+1),by omega,j+1, _,by omega,by omega,rfl,by rw[av (by omega) (by omega)];omega,a.step _,I.step (by omega) (by omega),H.ext O⟩
 clear d;refine mn H 0 1 4 λw6 H=>?_;have G:MG Q n 43 (cP s 0 1 (Cy q)):=(a.ask 0 1 (by decide) ⟨⟨J.1,by show q< _;omega⟩,(show cg 0 by decide),(show cg 0 by decide)⟩).mono (by omega);have E:=I.ac' v M hon;have Am:s9 (cP s 0 1 (Cy q)) 0≠0:=by
  obtain⟨x,hx⟩: ∃x,s.cs[0]? =some x:=⟨_,AB (by have:=a.lc;omega)⟩;have a1:cP s 0 1 (Cy q)=bS s 0 {x with ph:=1,vm:=1,c:=Cy q}:=(pM hx (I.i0 x hx) 1 (Cy q)).1;rw[a1,OQ (AY (AL.1 hx).1)];exact(show ¬ (1:Int)=0 by decide)
 generalize cP s 0 1 (Cy q)=S at H G E Am;clear a I;refine⟨λt st w7=> ∃(j:Nat) (s:MS),j<=100/\t=100 - j/\st.1=(j:Int)/\MG Q n (43+2*j) s/\MU Q X [] [] w w7 R s [] [] []/\((j=0/\s=S)\/(j<=89/\Rl n q (λc=>7 - xD (n - 1) j (c - 1)) s)\/(KF n s/\s9 s 0=0)),⟨100,λw7 O=>⟨0,S,by omega,rfl,rfl,G,H.ext O,.inl ⟨rfl,rfl⟩⟩⟩,?_⟩;clear H G;rintro t ⟨z, _⟩ w7 ⟨j,s,hj,N,hi,a,H,Jg⟩;have hi:z=(j:Int):=hi;subst hi N;dsimp only;have A4:(j<100/\s9 s 0≠0)\/(KF n s/\s9 s 0=0):=by
  rcases Jg with ⟨rfl,rfl⟩|⟨h1,U⟩|h
  ·exact .inl ⟨by omega,Am⟩
  ·obtain⟨x,hx⟩: ∃x,s.cs[0]? =some x:=⟨_,AB (by have:=a.lc;omega)⟩;exact .inl ⟨by omega,by rw[OQ hx,U.i4 x hx];decide⟩
  ·exact .inr h
 refine⟨_,λ_=>lI H 0,ab (λd=>?_) (λd=>?_)⟩
 ·rw[Bf,decide_eq_true_eq,bne_iff_ne] at d;obtain⟨yl,hp0⟩:=d;have yl:j<100:=by omega
  have En:(KF n (aR s 0).1/\s9 (aR s 0).1 0=0)\/(j<=88/\Rl n q (λc=>7 - xD (n - 1) j (c - 1)) (aR s 0).1):=by
   rcases Jg with ⟨rfl,rfl⟩|⟨h1,U⟩|h
   ·refine .inr ⟨by omega,⟨E.r,E.l,E.b0,E.i4,λc h1 U=>?_⟩⟩;show _<=7 - 0;exact E.nu c h1 U
   ·exact aaK v h1 U
   ·exact absurd h.2 hp0
  clear Jg A4 hp0 E Am;refine gP H a (by omega) 0 λw8 H=>?_;have a:=a.step 0;generalize (aR s 0).1=s at H a En;have hz:aX .i64 (n:Int) 1≠0:=(C_ v (y:=0) (by omega)).2.2;have stop: ∀{u},MU Q X [] [] w u R s [] [] []->s9 s 0=0-> ∃t,t<100 - j/\ ∃(e:Nat) (s':MS),e<=100/\t=100 - e/\aH .i64 (j:Int) 1=(e:Int)/\MG Q n (43+2*e) s'/\MU Q X [] [] w u R s' [] [] []/\((e=0/\s'=S)\/(e<=89/\Rl n q (λc=>7 - xD (n - 1) e (c - 1)) s')\/(KF n s'/\s9 s' 0=0)):=λH h0=>by
   refine⟨100 - (j+1),by omega,j+1,s,by omega,rfl,by rw[av (by omega) (by omega)];omega,a.mono (by omega),H,.inr (.inr ?_)⟩;rcases En with h|⟨_,h⟩
   ·exact h
   ·obtain⟨x,hx⟩: ∃x,s.cs[0]? =some x:=⟨_,AB (by have:=a.lc;omega)⟩;have:=h.i4 x hx;rw[OQ hx] at h0;omega
  have go: ∀{k:Nat},s9 s 0≠0->k<n - 1->(j<40\/k=j % (n - 1))-> ∀{u},MU Q X [] [] w u R (aR s ((1+k:Nat):Int)).1 [] [] []-> ∃t,t<100 - j/\ ∃(e:Nat) (s':MS),e<=100/\t=100 - e/\aH .i64 (j:Int) 1=(e:Int)/\MG Q n (43+2*e) s'/\MU Q X [] [] w u R s' [] [] []/\((e=0/\s'=S)\/(e<=89/\Rl n q (λc=>7 - xD (n - 1) e (c - 1)) s')\/(KF n s'/\s9 s' 0=0)):=λ{k} h0 hk hkj u H=>by
   refine⟨100 - (j+1),by omega,j+1, _,by omega,rfl,by rw[av (by omega) (by omega)];omega,(a.step _).mono (by omega),H,?_⟩;rcases En with h|⟨h1,h⟩
   ·exact absurd h.2 h0
   ·exact .inr (.inl ⟨by omega,W9 v h hk hkj⟩)
  refine⟨hz,ab (λd=>?_) (λd=>?_)⟩
  ·have hjm:j<m/\j<40:=by
    simp only[Bf,decide_eq_true_eq] at d;omega
   obtain⟨o,L⟩: ∃o,xs[j]? =some o:=⟨_,AB (by omega)⟩;obtain⟨a1,a2⟩:=Xc L H;have O:=abi o.1;obtain⟨P,Z,k3⟩:=C_ v (y:=ny .i64 o.1 7) (by omega);refine⟨⟨a1,by omega,by omega⟩,Bt a1 _,aj.of o.1 (by rw[B2];exact a2) ⟨k3, _,lI H 0,ab (λc0=>?_) (λc0 u h9=>stop (H.ext h9) (by simpa using c0))⟩⟩;rw[P];exact gP H a (by omega) _ λu H V W=>go (by simpa using c0) Z (.inl hjm.2) (H.ext W)
  ·obtain⟨P,Z,k3⟩:=C_ v (y:=(j:Int)) (by omega);refine⟨_,lI H 0,ab (λc0=>?_) (λc0 u h9=>stop (H.ext h9) (by simpa using c0))⟩;rw[P];exact gP H a (by omega) _ λu H V W=>go (by simpa using c0) Z (.inr (by rw[B2])) (H.ext W)
 ·have M:KF n s/\s9 s 0=0:=by
   rcases A4 with h|h
   ·exfalso;rw[Bool.and_eq_false_iff,decide_eq_false_iff_not,bne_eq_false_iff_eq] at d;rcases d with h'|h'
    ·omega
    ·exact h.2 h'
   ·exact h
  clear Jg A4 E Am d;obtain⟨RS,h0⟩:=M;refine⟨_,lI H 0,an (by rw[h0];rfl) ?_⟩;have hlc:=a.lc;have B:=a.bn (by omega);refine⟨λi st w8=> ∃k:Nat,k<=n/\i=n - k/\st.1=(k:Int)/\MU Q X [] [] w w8 R s [] [] [],⟨n,λw8 h8=>⟨0,by omega,rfl,rfl,H.ext h8⟩⟩,?_⟩;clear H;rintro i ⟨z, _⟩ w8 ⟨k,hk,TM,hi,H⟩;have hi:z=(k:Int):=hi;subst hi TM;dsimp only;refine ab (λd=>?_) (λd=>aaH H);have Yo:k<n:=by have:=of_decide_eq_true d;omega
  obtain⟨y,hy⟩: ∃y,s.cs[k]? =some y:=⟨_,AB (by omega)⟩;obtain⟨e1,e3⟩:=RS.ends (λx hx=>by rw[<-OQ hx];exact h0) hy;have hln:XB s (k:Int)=[]:=by unfold XB;rw[ao (by omega),B2,hy];exact e1
  refine vE H B.sz B.ls k λr Lr u hs9 H=>?_;have hr:r.2.1=0:=by rw[hs9.1,hln];rfl
  refine⟨λn2 st V=>st.1=(0:Int)/\MU Q X [] [] w V R s (Lr++[]) [] [],⟨0,λV W=>⟨rfl,H.ext W⟩⟩,?_⟩;clear H;rintro n2 ⟨z, _⟩ V ⟨hi,H⟩;have hi:z=0:=hi;subst hi;dsimp only;refine an (by rw[hr];rfl) ⟨_,lI H k,an (by rw[Kp hy];simpa using e3) λnv FW=>⟨n - (k+1),by omega,k+1,by omega,rfl,by rw[av (by omega) (by omega)];omega,(H.sub (List.nil_sublist _)).ext FW⟩⟩
end Go.Proofs.YtlcenllcmeebhaaGreat.Mu
