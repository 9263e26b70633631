import Derived.Test.YtlcenllcmeebhaaGreatPAG
/-! What the statement leans on: texts joined and shortened by a program of mine. -/
set_option linter.unusedVariables false
set_option linter.unusedSimpArgs false
open Go.Proofs.Tryz renaming prog->A0
open Go renaming World->A2,Value->AF
open List renaming getElem?_eq_some_iff->AC,getElem?_eq_getElem->AM,getElem?_set_ne->Ae,getElem?_set_self->Aq,length_map->B5,foldl_cons->BW,sublist_cons_self->Bs,mem_append_right->Bx,mem_cons_self->Cg,getD_eq_getElem?_getD->Ci
open BitVec renaming ofInt->AJ
open Bool renaming and_eq_true->Ar
open Go.IntKind renaming min->B1,max->B2,bits->B3,signed->B4
namespace Go.Proofs.YtlcenllcmeebhaaGreat.Mu
set_option maxRecDepth 100000
open Go.RX D
section
variable {Q:Sys} {X:HX} {D G:List Nat} {w0 w w1:A2} {R:MR} {s:MS} {T L:List (Nat×List AF)} {M:List (Nat×Obj)} {n k:Nat}
theorem MU.ldm (H:MU Q X D G w0 w R s T L M) {g:Option Bool} {el:El} {K:el.T->Prop} {b o:Nat} {l:List AF} {x:el.T} (a:(b,l)∈T) (hv:ly l o el=some x) (k:K x):aj w g (some ⟨b,o,none⟩) el K:=by
 obtain⟨i,hi⟩:=List.getElem?_of_mem a;exact H.ld i hi hv k
theorem MU.sl (H:MU Q X D G w0 w R s T L M) {e:El} {r:Option Addr×Nat×Nat} {xs:List e.T} {a:List (Nat×List AF)} (hs:dv e r xs a) (b: ∀x∈a,x∈T) {i:Nat} {x:e.T} (hx:xs[i]? =some x):r.1.isSome=true/\cU w (ad r.1 (i*aD e)) e x:=by
 obtain⟨L0,K,h⟩:=H.base;exact hs.sl K (λy c=>h y (b y c)) i x hx
theorem Ty {f c l:Int} (d:4<=f/\f<=4096) (e:1<=l/\l<=64) (hc:c<1\/c>8) {K:Option Addr×Int×Unit->A2->Prop} (k: ∀w1,Ext w w1->K (none,1,()) w1):
 aA A0 52 (.bA [.one .ptr,.one (.int .i64)]) [aa f,aa c,aa l] w K:=λw1 h1=>
 xB (At.start [] w1) f c l d e (λ_ g H=>k g (Ext.trans h1 H.all)) (λa b=>by omega) w1 (Ext.refl w1)
theorem WJ: ∃(c sA e f:MS) (sD:Nat->MS) (g sF sG d a b:MS),c=yf 30 2 4/\(sA=cB c 0 1 (3,5,3,0,())/\e=(aL sA 0).1/\f=cB e 1 1 (7,81,7,0,())/\sD 0=f/\(∀j,sD (j+1)=(aL (sD j) 1).1)/\g=cB (sD 6) 0 1 (4,5,0,0,())/\sF=(aL g 0).1/\sG=(aL sF 0).1/\d=(aL sG 1).1/\a=(aL d 0).1/\b=F_ 2 3 a)/\
 (qS c 0=0/\qS sA 0=9/\(aL sA 0).2=((2,0),true)/\(∀j,j<6->IA (sD j) 1≠0)/\IA (sD 6) 1=0)/\
 ((aL sF 0).2.2=false/\Uq sG 1=1/\(lnN sG 1).length=1/\(aL d 0).2=((2,0),true)/\a.ep.ws.length=4/\a.ms.length=5/\a.ms[3]? =some (4,0,33,(0,0,0,0,()),7,0)/\lnN b 1=[]/\b.ep.ws=[]/\cg b.h.s.2 5=0/\IA b 2=0):=by
 have t1:=WH;unfold aa3 at t1;simp only[Ar,beq_iff_eq,bne_iff_ne,ne_eq] at t1;obtain⟨a1,i,k,l,p1,p2,p3,p4,m,n⟩:=t1;have t2:=WI;unfold aa4 at t2;simp only[Ar,beq_iff_eq] at t2;refine⟨_,kA,kB,kC,kD,kE,kF,kG,kH,kI',kJ,rfl,⟨rfl,rfl,rfl,rfl,λ_=>rfl,rfl,rfl,rfl,rfl,rfl,rfl⟩,⟨a1,i,k,λj o=>?_,n⟩,t2⟩;have:j=0\/j=1\/j=2\/j=3\/j=4\/j=5:=by omega
 rcases this with rfl|rfl|rfl|rfl|rfl|rfl
 ·exact l
 ·exact p1
 ·exact p2
 ·exact p3
 ·exact p4
 ·exact m
theorem Tz {s:MS} {c:Int} (h0: ¬ c<0) (h:qS s c≠0) (vm:Int) (ct:CT):cB s c vm ct=s:=by
 unfold cB;unfold qS at h;rw[ao h0] at h ⊢;cases hx:s.cs[c.toNat]? with
 |none=>rfl
 |some x=>
  rw[hx] at h;dsimp only at h ⊢;rw[ao λc=>h (av c)]
theorem NH (w:A2):aE A0 46 (.el (.one .bool)) [] w (λb w'=>b=true/\Ext w w'):=by
 obtain⟨s0,sA,O,P,sD,S,sF,sG,T,U,V,h0,⟨m,o,p,q,r,s,t,u,v,y,z⟩,⟨a1,A,W,Y,Z⟩,c1,c2,c3,c4,c5,c6,c7,c8,c9,Yy,c11⟩:=WJ;have d: ∀{a:Int},decide (0<=a/\a<18446744073709551616)=true->bT a:=λh=>of_decide_eq_true h;refine ai (C:=U4) (aW:=rD) (Eq.mpr (NE w _) ?_);refine BT (At.start [] w) 30 2 4 (by omega) (by omega) (by omega) λQ X R w1 H B=>Ty (by omega) (by omega) (by omega) λw2 h2=>?_;have H:=H.ext h2;rw[<-h0] at H B;clear h0;refine an rfl ?_;have GA:MG Q 2 2 sA:=by rw[m];exact B.ask 0 1 (by decide) ⟨d rfl,d rfl,d rfl⟩
 have GB:MG Q 2 3 O:=by rw[o];exact GA.step 0
 have GC:MG Q 2 3 P:=by rw[p];exact GB.ask 1 1 (by decide) ⟨d rfl,d rfl,d rfl⟩
 have D: ∀j:Nat,MG Q 2 (3+j) (sD j):=λj=>by
  induction j with
  |zero=>rw[q];exact GC
  |succ j ih=>rw[r];exact ih.step 1
 have GE:MG Q 2 9 S:=by rw[s];exact(D 6).ask 0 1 (by decide) ⟨d rfl,d rfl,d rfl⟩
 have E:MG Q 2 10 sF:=by rw[t];exact GE.step 0
 have f:MG Q 2 11 sG:=by rw[u];exact E.step 0
 have F:MG Q 2 12 T:=by rw[v];exact f.step 1
 have GI:MG Q 2 13 U:=by rw[y];exact F.step 0
 have g:MG Q 2 19 V:=by rw[z];exact GI.rnd 2 3
 refine kZ H 0 1 3 λw3 H=>?_;rw[a1];rw[<-m] at H;refine kZ H 0 1 15 λw4 H=>?_;rw[A];rw[Tz (by decide) (by rw[A];decide)] at H;refine js H GA (by decide) 0 λw5 H=>?_;rw[W];rw[<-o] at H;refine H.al λb w6 H=>H.st 0 rfl rfl rfl λw7 H=>kZ H 1 1 7 λw8 H=>?_;rw[<-p, <-q] at H;refine⟨λn st k=> ∃j:Nat,j<=6/\n=6 - j/\st.1=(j:Int)/\MU Q X [] [] w k R (sD j) [(b,[ax 2,aa 0])] [] [],⟨6,λk h9=>⟨0,by omega,rfl,rfl,H.ext h9⟩⟩,?_⟩;clear H;rintro n ⟨ii, _⟩ k ⟨j,hj,qH,hi,H⟩;have hi:ii=(j:Int):=hi;subst hi qH;dsimp only;refine⟨_,λ_=>EV H 1,ab (λc=>?_) (λc=>?_)⟩
 ·have hj6:j<6:=by
   by_cases e:j=6
   ·subst e;rw[Z] at c;simp at c
   ·omega
  refine js H (D j) (by omega) 1 λny H oO Im=>⟨6 - (j+1),by omega,j+1,by omega,rfl,?_,?_⟩
  ·rw[ay (by omega) (by omega)];omega
  ·rw[r];exact H.ext Im
 ·have:j=6:=by
   by_cases e:j=6
   ·exact e
   ·have h6:=Y j (by omega);have:(decide ((j:Int)<9)&&IA (sD j) 1 != 0)=true:=by
     rw[Ar,decide_eq_true_eq,bne_iff_ne];exact⟨by omega,h6⟩
    rw[this] at c;cases c
  subst this;refine kZ H 0 1 4 λny H=>?_;rw[<-s] at H;refine js H GE (by decide) 0 λoO H=>?_;rw[<-t] at H;refine js H E (by decide) 0 λDp H=>?_;rw[<-u] at H;refine H.al λG N8 H=>H.st 0 rfl rfl rfl λIo H=>⟨_,WG H (f.bn (by decide)).bn 1,?_⟩;rw[c2];refine BS H (f.bn (by decide)).sz (f.bn (by decide)).ls 1 λr11 I w15 acM H=>?_;have e11:r11.2.1=1:=by rw[acM.1,c3]
  refine js H f (by decide) 1 λYe H=>?_;rw[<-v] at H;refine js H F (by decide) 0 λw17 H=>?_;rw[c4];rw[<-y] at H;refine H.al λl w18 H=>H.st 0 rfl rfl rfl λw19 H=>wL H (GI.bn (by decide)).ws λr14 J w20 acN H=>?_;have e14:r14.2.1=4:=by rw[acN.1,jQ,B5,c5]
  refine NA H (by rw[c6];decide) λr15 K w21 L H=>?_;have M:r15.2.1=5:=by rw[L.1,B5,c6]
  refine NF H GI 2 3 (by decide) (by decide) (by decide) λw22 H=>?_;rw[<-z] at H;have De:(l,[ax 2,aa 0])∈K++(J++((l,[ax 2,aa 0])::(I++[(G,[ax (aL sF 0).2.1.1,aa (aL sF 0).2.1.2]),(b,[ax 2,aa 0])]))):=by simp
  have hb:(b,[ax 2,aa 0])∈K++(J++((l,[ax 2,aa 0])::(I++[(G,[ax (aL sF 0).2.1.1,aa (aL sF 0).2.1.2]),(b,[ax 2,aa 0])]))):=by simp
  refine H.ldm (x:=(2,0,())) hb rfl (aB ?_ ?_)
  ·dsimp only;rw[c1,e11];decide
  refine BS H (g.bn (by decide)).sz (g.bn (by decide)).ls 1 λr18 L18 w23 acO H=>?_;have e18:r18.2.1=0:=by rw[acO.1,c8];rfl
  refine H.ldm (x:=(2,0,())) (Bx _ De) rfl ?_;have N:=H.sl L (λx hx=>Bx _ (List.mem_append_left _ hx)) (i:=3) (x:=Yz (4,0,33,(0,0,0,0,()),7,0)) (by rw[List.getElem?_map,c7];rfl);refine⟨λ_=>⟨N.1,by decide,by rw[M];decide⟩,aj.of _ N.2 (aB ?_ ?_)⟩
  ·dsimp only;rw[e18,e14,M];decide
  refine wL H (g.bn (by decide)).ws λr21 L21 w24 acP H=>⟨_,λ_=>Tw H,?_⟩;have e21:r21.2.1=0:=by rw[acP.1,jQ,B5,c9];rfl
  refine aB (by rw[e21];rfl) (Ii H λbp bf c rest w25 H=>NG H Cg (List.mem_cons_of_mem _ Cg) 5 H.sys.2.2.1 λw26 H=>⟨_,λ_=>EV H 2,H.en λw27 H=>⟨?_,H.all⟩⟩);rw[Yy,c11];rfl
end
noncomputable def U5:dG A0:={U4 with quiet:=[25,19,21]++U4.quiet}
noncomputable def U6:dG A0:={U5 with quiet:=[27]++U5.quiet}
def wM:Nat->a7:=(λ|10=>[(10,Go.RX.El.one Go.RX.Sc.bool),(11,Go.RX.El.one (Go.RX.Sc.int Go.IntKind.i64))]| _=>[])
theorem WK (g v:Int) (p:Option Addr) (m c:Nat) (w:A2) (h:Bool->A2->Prop):(aI U6 wM 13 [.int .u8 g,ax v,.slice p m c] w h)=(
 aA A0 15 (.bA [.one .ptr,.one .bool]) [aa 80,aa 3,aa 4] w λx a=>aG (!x.2.1) (au a (h false)) (aA A0 29 (.el aX) [ah x.1,aa 0,aa 1,.agg ⟨[aa 3,ax (aJ .u64 g),ax 3,ax 0]⟩] a λ(l:Int) a=>aA A0 31 (.bA [.agg [.int .u64,.int .i64],.one .bool]) [ah x.1,aa 0] a λ(o:(Int×Int×Unit)×Bool×Unit) a=>aA A0 29 (.el aX) [ah x.1,aa 0,aa 1,.agg ⟨[aa 7,ax (aH .u64 (fX .u64 16 (aJ .u64 g)) 5),
 ax v,ax 0]⟩] a λ(q:Int) a=> ∃(I:Nat->Bool×Int×Unit->A2->Prop),(∃n, ∀w1,Ext a w1->I n (false,0,()) w1)/\ ∀(n:Nat) (s:Bool×Int×Unit) (w1:A2),I n s w1->aG (decide (s.2.1<60)) (aG (decide (s.2.1<(↑m:Int))) ((p.isSome=true/\0<=s.2.1/\s.2.1<(↑m:Int))/\aj w1 none (ad p (Int.toNat s.2.1*7)) (.agg [.int .i64,.bool,.int .i64,.int .i64,.int .u64,.int .u64,.int .u64]) λ(d:Int×Bool×Int×Int×Int×Int×Int×Unit)=>aN w1 ⟨[aa 0,.bool false,aa 0,aa 0,ax 0,.int
 .u64 0,ax 0]⟩ 33 λb a=>aC a (ae b) [aa d.1,.bool d.2.1,aa d.2.2.1,aa d.2.2.2.1,ax d.2.2.2.2.1,ax d.2.2.2.2.2.1,ax d.2.2.2.2.2.2.1] λa=>true=true/\aV a (ad (ae b) 0) λk=>true=true/\aC a (ad (ae b) 0) [aa (aH .i64 1 (mw .i64 k 1))] λa=>true=true/\aC a (ad (ae b) 2) [aa 2] λa=>aj a none (ae b) (.agg [.int .i64,.bool,.int .i64,.int .i64,.int .u64,.int .u64,.int .u64]) λ(i:Int×Bool×Int×Int×Int×Int×Int×Unit)=>aA
 A0 16 (.bA []) [ah x.1,.agg {toList:=[aa i.1,.bool i.2.1,aa i.2.2.1,aa i.2.2.2.1,ax i.2.2.2.2.1,ax i.2.2.2.2.2.1,ax i.2.2.2.2.2.2.1]}] a λr a=>aA A0 31 (.bA [.agg [.int .u64,.int .i64],.one .bool]) [ah x.1,aa 0] a λ(j:(Int×Int×Unit)×Bool×Unit) a=>aN a ⟨[ax 0,aa 0]⟩ 61 λb a=>aC a (ae b) [ax j.1.1,aa j.1.2.1] λa=>aG (j.2.1&&s.1) (aj a none (ae b) cA λ(x:Int×Int×Unit)=>aG (x.1==v&&(x.2.1
 ==0&&true)) (aA A0 46 (.el rO) [] a λx a=>au a (h x)) (au a (h false))) (aG j.2.1 (aA A0 29 (.el aX) [ah x.1,aa 0,aa 1,.agg ⟨[aa 6,ax (aH .u64 (fX .u64 16 (aJ .u64 g)) 5),ax 0,ax 0]⟩] a λ(x:Int) a=> ∀e,Ext a e-> ∃(f:Nat),f<n/\I f (true,aH .i64 s.2.1 1,()) e) (∀e,Ext a e-> ∃(f:Nat),f<n/\I f (s.1,aH .i64 s.2.1 1,()) e))) (aA A0 31 (.bA [.agg [.int .u64,.int .i64],.one .bool]) [ah x.1,aa 0] w1 λ(d:(Int
 ×Int×Unit)×Bool×Unit) a=>aN a ⟨[ax 0,aa 0]⟩ 61 λb a=>aC a (ae b) [ax d.1.1,aa d.1.2.1] λa=>aG (d.2.1&&s.1) (aj a none (ae b) cA λ(x:Int×Int×Unit)=>aG (x.1==v&&(x.2.1==0&&true)) (aA A0 46 (.el rO) [] a λx a=>au a (h x)) (au a (h false))) (aG d.2.1 (aA A0 29 (.el aX) [ah x.1,aa 0,aa 1,.agg ⟨[aa 6,ax (aH .u64 (fX .u64 16 (aJ .u64 g)) 5),ax 0,ax 0]⟩] a λ(x:Int) a=> ∀e,Ext a e-> ∃(f:Nat),f<
 n/\I f (true,aH .i64 s.2.1 1,()) e) (∀e,Ext a e-> ∃(f:Nat),f<n/\I f (s.1,aH .i64 s.2.1 1,()) e)))) (aA A0 31 (.bA [.agg [.int .u64,.int .i64],.one .bool]) [ah x.1,aa 0] w1 λ(x:(Int×Int×Unit)×Bool×Unit) a=>au a (h false)))):=by kernel_rfl
theorem acQ {x:Int} (h:(Lit.int .u8 x).wf=true):0<=x/\x<256:=by
 simp[Lit.wf,B1,B2,B3,B4] at h;omega
theorem Zj {x:Int} (h:(Lit.int .u64 x).wf=true):bT x:=by
 simp[Lit.wf,B1,B2,B3,B4] at h;unfold bT;omega
theorem acR {x:Int} (h:(Lit.int .i64 x).wf=true):x<9223372036854775808:=by
 simp[Lit.wf,B1,B2,B3,B4] at h;omega
theorem ab2 {o:jX sOp} (h:mh sOp o):aa5 o:=⟨acR h.2.2.1,Zj h.2.2.2.2.1,Zj h.2.2.2.2.2.1,Zj h.2.2.2.2.2.2.1⟩
section
variable {Q:Sys} {X:HX} {D G:List Nat} {w0 w w1:A2} {R:MR} {s:MS} {T L:List (Nat×List AF)} {M:List (Nat×Obj)} {n k:Nat}
theorem MU.op (H:MU Q X [] [] w0 w R s T L M) {e:El} {p:Option Addr} {xs:List e.T} (hx:Sl w0 e p xs) {i:Nat} {x:e.T} (hi:xs[i]? =some x):p.isSome=true/\cU w (ad p (i*aD e)) e x:=(hx.ext H.all) i x hi
theorem aau (H:MU Q X [] [] w0 w R s T L M):aA A0 46 (.el (.one .bool)) [] w λ(x:Bool) (a:A2)=>au a λ(w1:A2)=>x=true/\Ext w0 w1:=
 aA.val ((At.start [] w0).ext H.all) (s:= .el (.one .bool)) true (λb _=>NH b) λc H=>au.go H λd H=>⟨rfl,H.all⟩
end
end Go.Proofs.YtlcenllcmeebhaaGreat.Mu
namespace Go.Proofs.YtlcenllcmeebhaaGreat
set_option maxRecDepth 100000
open Go.RX D
section
variable {gh:Gh} {h h':HS} {p F:Int}
def GI (gr:List GT):Prop:= ∀x∈gr,x.1≠1
theorem GI.set {gr:List GT} (H:GI gr) (i:Nat) {y:GT} (a:y.1≠1):GI (gr.set i y):=λx hx=>by
 rcases gE hx with rfl|hx
 ·exact a
 ·exact H x hx
theorem GI.getD {gr:List GT} (H:GI gr) (i:Nat):(gr.getD i zG).1≠1:=by
 rw[Ci];cases h:gr[i]? with
 |none=>exact(show ¬ (0:Int)=1 by decide)
 |some x=>exact H x (az h)
theorem GI.take {gr:List GT} (H:GI gr) (i g:Int) (b:Bool):GI (dK gr i g b):=by
 unfold dK;split
 ·exact H.set _ (H.getD _)
 ·exact H
theorem GI.back {gr:List GT} (H:GI gr) (i g:Int):GI (dS gr i g):=by
 unfold dS;split
 ·exact H.set _ (H.getD _)
 ·exact H
structure Ow (h:HS) (p F:Int):Prop where
 pr:0<=p/\p<65536
 pg:fW h 1 p=(F,3,0,())
 tk:jd h 1=[]
 gi:GI h.gr
 lv:aQ h.g 1=true
theorem Ow.fr (O:Ow h p F):mg h 1 p=some F:=by rw[ku,O.pg];rfl
theorem Ow.ds (H:HI gh h) (O:Ow h p F): ∃(n:Nat) (d:DT),(n:Int)=F/\h.s.2[n]? =some d/\d.1=4/\d.2.1=1:=by
 obtain⟨n,d,h1,a,b,c⟩:=H.hc.own O.fr (by rw[O.tk];rfl);exact⟨n,d,h1,a,b,c⟩
theorem Ow.ne (H:HI gh h) (O:Ow h p F) {i:Nat} (hi:i≠1) {q f:Int} (j:mg h i q=some f):f≠F:=λe=>by
 subst e;obtain⟨n,d,h1,l,w,r⟩:=O.ds H;cases c:cq (jd h i) q with
 |none=>
  obtain⟨g,d',s,b,t,k4⟩:=H.hc.own j c;have:g=n:=by omega
  subst this;rw[l] at b;cases b;omega
 |some y=>
  obtain⟨a,f'⟩:=y;have m:=(H.hc.AL c).1;rw[j] at m;have:=Option.some.inj m;subst this;obtain⟨g,d',o,s,b,t,k4,k5,k,x,g1,u,v, _⟩:=H.hc.Zc c;have:g=n:=by omega
  subst this;rw[l] at b;cases b;exact O.gi x (az u) (by rw[v, <-k4];exact r)
theorem Ow.fin {g':Gh} (H:HI gh h) (O:Ow h p F) (a:HI g' h') {P:Nat->Int->Prop} {f:Int} (E:rJ h h' P f) (b: ∀q,¬ P 1 q) (r:F≠f) (c:jd h' 1=jd h 1) (e:aQ h'.g 1=aQ h.g 1) (hg:GI h'.gr):Ow h' p F/\ ∀i:Int,0<=i->i<16->cL h'.s.1 (16*F+i)=cL h.s.1 (16*F+i):=by
 have O':Ow h' p F:=⟨O.pr,by rw[E.pg.to (b p)];exact O.pg,by rw[c];exact O.tk,hg,by rw[e];exact O.lv⟩;refine⟨O',λi i0 i1=>?_⟩;obtain⟨n,d,h1,j,k, _⟩:=O.ds H;obtain⟨l,d',t,m,o, _⟩:=O'.ds a;have:l=n:=by omega
 subst this;rw[<-h1];exact E.ws j k m o (by omega) i i0 i1
theorem aav (O:GI h.gr) {k a b c:Int} (d:3<=k/\k<=16):GI (run h 2 k a b c).1.gr:=by
 have:k=3\/k=4\/k=5\/k=6\/k=7\/k=8\/k=9\/k=10\/k=11\/k=12\/k=13\/k=14\/k=15\/k=16:=by omega
 rcases this with rfl|rfl|rfl|rfl|rfl|rfl|rfl|rfl|rfl|rfl|rfl|rfl|rfl|rfl
 ·show GI (il h 2 a b).gr;unfold il;split
  ·exact O
  split
  ·exact O
  split
  ·exact O
  split<;>exact O
 ·show GI (mO h 2 a).gr;unfold mO;split<;>exact O
 ·show GI (iE h 2 a b).gr;unfold iE;split
  ·exact O
  split
  ·exact O
  split<;>exact O
 ·exact O
 ·show GI (jn h 2 a b).gr;unfold jn;split<;>exact O
 ·show GI (gz h 2 a b c).gr;unfold gz;split
  ·show GI (jh h.gr 2 a b (c==1));unfold jh;split
   ·exact O.set _ (show ¬ (2:Int)=1 by decide)
   ·exact O
  ·exact O
 ·show GI (iT h 2 a b c).gr;unfold iT;split
  ·exact O
  split
  ·exact O.take _ _ _
  ·exact(O.take _ _ _).back _ _
 ·show GI (eR h 2 a).gr;unfold eR;split
  ·exact O
  split
  ·exact O.back _ _
  ·exact O
 ·show GI (eY h 2 a).gr;unfold eY;split
  ·exact O
  ·show GI (j9 h.gr a 2);unfold j9;split
   ·exact O.set _ (show ¬ (0:Int)=1 by decide)
   ·exact O
 ·show GI (kO h 2 a).gr;unfold kO;split<;>exact O
 ·show GI (kQ h 2 a b).gr;unfold kQ;split
  ·exact O
  split<;>exact O
 ·show GI (kN h 2 a).gr;unfold kN;split<;>exact O
 ·exact O
 ·show GI (ir h 2 a).gr;unfold ir;split<;>exact O
theorem J0 (g:Nat->Option GV) {i j:Nat} (x:Option GV) (h:j≠i):a_ g i x j=g j:=ao h
theorem aaw (H:HI gh h) (O:Ow h p F) {k a b c:Int} (I:0<=a) (J:k=7-> ¬ (aQ h.g 2=true/\gu k a b c=true/\a<1048576)):Ow (ij h 2 k a b c) p F/\ ∀i:Int,0<=i->i<16->cL (ij h 2 k a b c).s.1 (16*F+i)=cL h.s.1 (16*F+i):=by
 obtain⟨g1,o⟩:=H.step 2 k b c I;have same:(ij h 2 k a b c).s=h.s->(ij h 2 k a b c).g=h.g->GI (ij h 2 k a b c).gr->Ow (ij h 2 k a b c) p F/\ ∀i:Int,0<=i->i<16->cL (ij h 2 k a b c).s.1 (16*F+i)=cL h.s.1 (16*F+i):=λw l K=>by
  obtain⟨n, _,h1, _⟩:=O.ds H;exact O.fin H o (rJ.of w l (λ_ _=>False) (-1)) (λ_ c=>c) (by omega) (by unfold jd;rw[l]) (by rw[l]) K
 by_cases r:fT h 2 k a b c=0
 case neg=>
  have e:ij h 2 k a b c=h:=ao r;exact same (by rw[e]) (by rw[e]) (by rw[e];exact O.gi)
 obtain⟨R,L,M⟩:=yM r;have e:ij h 2 k a b c=(run h 2 k a b c).1:=av r;have B:qM k=false:=by
  unfold fT at r;split at r
  ·exact absurd r (by decide)
  split at r
  ·exact absurd r (by decide)
  ·rename_i A;have l:((2:Int)==0)=false:=rfl;rw[l] at A;cases hc:qM k
   ·rfl
   ·rw[hc] at A;exact absurd rfl A
 have N:3<=k/\k<=16:=by
  refine Classical.byContradiction λc=>?_;have:k=1\/k=2\/k=17:=by omega
  rcases this with rfl|rfl|rfl<;>exact absurd B (by decide)
 have m:GI (ij h 2 k a b c).gr:=by rw[e];exact aav O.gi N
 by_cases C:qb h 2 k a b c=0
 case neg=>
  obtain⟨e, _⟩:=H.fail C;exact same e.1 e.2 m
 have j:=zm C r;by_cases hs:k=6\/k=8\/(11<=k/\k<=16)
 ·obtain⟨w,l⟩:=EM (h:=h) (v:=2) (a:=a) (b:=b) (c:=c) hs;exact same (by rw[e];exact w) (by rw[e];exact l) m
 have u:=L B;have y: ∀q,¬ ((1:Nat)=(2:Int).toNat/\q=a):=λq c=>absurd c.1 (by decide);have P: ∀q,¬ ((1:Nat)=(2:Int).toNat/\q=b):=λq c=>absurd c.1 (by decide);obtain⟨n,d,S,D,Q,T⟩:=O.ds H;rw[e] at m o ⊢;have:k=3\/k=4\/k=5\/k=7\/k=9\/k=10:=by omega
 rcases this with rfl|rfl|rfl|rfl|rfl|rfl
 ·have j:kX h 2 a b=0:=by
   have j:(oW h 2 a b).2=0:=j;unfold oW at j;split at j
   ·assumption
   ·exact j
  obtain⟨g',f,z,t, _⟩:=H.Cy u (a:=a) (b:=b) j;refine O.fin H o t.ef y (λc=>?_) ?_ ?_ m
  ·have:n=f:=by omega
   subst this;rw[t.fr] at D;cases D;exact absurd Q (by decide)
  ·show jd (il h 2 a b) 1= _;unfold jd;rw[t.g]
  ·show aQ (il h 2 a b).g 1= _;rw[t.g]
 ·have j:uX h 2 a=0:=by
   have j:(ye h 2 a).2=0:=j;unfold ye at j;split at j
   ·assumption
   ·exact j
  obtain⟨g',f,z,t, _⟩:=H.GL u (a:=a) j;refine O.fin H o t.ef y (by omega) ?_ ?_ m
  ·show jd (mO h 2 a) 1= _;unfold jd;rw[t.g]
  ·show aQ (mO h 2 a).g 1= _;rw[t.g]
 ·obtain⟨g',z,E, _, _,G, _⟩:=H.CS u (a:=a) (b:=b) j;refine O.fin H o E y (by omega) ?_ ?_ m
  ·show jd (iE h 2 a b) 1= _;unfold jd;rw[G]
  ·show aQ (iE h 2 a b).g 1= _;rw[G]
 ·exfalso;refine J rfl ⟨u,M,?_⟩;refine Classical.byContradiction λU=>?_;have j:nL h 2 a=0:=j;unfold nL iD at j;rw[av (show a>=1048576 by omega),av (show((0:Int),(2:Int)).2≠0 by decide)] at j;exact absurd j (show ¬ (2:Int)=0 by decide)
 ·obtain⟨w,g',z,E, _⟩:=H.GM u (a:=a) (b:=b) (c:=c) j;have l:(run h 2 9 a b c).1=fR h 2 a b c:=w;rw[l] at m o ⊢;have x:(fR h 2 a b c).g 1=h.g 1:=by
   unfold fR;dsimp only;exact J0 _ _ (show(1:Nat)≠(2:Int).toNat by decide)
  refine O.fin H o E P (by omega) ?_ ?_ m
  ·unfold jd;rw[x]
  ·unfold aQ;rw[show(1:Int).toNat=1 from rfl,x]
 ·obtain⟨g',z,E, _⟩:=H.CU u (a:=a) j;have l:(run h 2 10 a b c).1=eR h 2 a:=rfl;rw[l] at m o ⊢;have x:(eR h 2 a).g 1=h.g 1:=by
   unfold eR;split
   ·rfl
   split
   ·unfold dn;dsimp only;exact J0 _ _ (show(1:Nat)≠(2:Int).toNat by decide)
   ·rfl
  refine O.fin H o E y (by omega) ?_ ?_ m
  ·unfold jd;rw[x]
  ·unfold aQ;rw[show(1:Int).toNat=1 from rfl,x]
end
section
variable {n:Nat} {p:Int} {s s':MS}
abbrev ldR (p:Int):CT:=(6,16*p,0,0,())
structure Ld (n:Nat) (p:Int) (s:MS):Prop where
 x:x_ n s
 pr:0<=p/\p<65536
 lv:aQ s.h.g 1=true
 k6: ∀(c:Nat) (x:bG),1<=c->s.cs[c]? =some x->x.ph≠4/\(x.ph≠0->x.vm=1/\x.c=ldR p)
 c0: ∀x:bG,s.cs[0]? =some x->x.ph=0\/x.ph=4
theorem P4: ∀(l:List Int) (s:MS),(l.foldl jj s).h.g=s.h.g
 |[], _=>rfl
 |f::l,s=>by rw[BW,P4 l _];rfl
theorem aax (s:MS):(da s).1.h.g=s.h.g:=P4 _ _
structure Lc (n:Nat) (p:Int) (s s':MS) (k:Nat) (x x':bG):Prop where
 hx:s.cs[k]? =some x
 C:Ch s s' k x x'
 P:Pg s s' k x x'
 k6:1<=k->x'.ph≠4/\(x'.ph≠0->x'.vm=1/\x'.c=ldR p)
 i1:x.ph=1->x.c.1=6/\iA s.h x=true
 i3:x.ph=3->x.c.1=6
 c0:k=0->x'.ph=0\/x'.ph=4
structure Pw (n:Nat) (p:Int) (h1:HS) (s:MS):Prop where
 l:Ld n p s
 hs:s.h.s=h1.s
 hg:s.h.g=h1.g
 n5: ∀(m:Nat) (d:DT),h1.s.2[m]? =some d->d.1≠5
 b0:bl s 0=0
 nu: ∀c,c<n->Ab s c<=6
 i0: ∀x:bG,s.cs[0]? =some x->x.ph=0
structure Rl (n:Nat) (p:Int) (B:Nat->Nat) (s:MS):Prop where
 r:Ret n s
 l:Ld n p s
 b0:bl s 0=0
 i4: ∀x:bG,s.cs[0]? =some x->x.ph=4
 nu: ∀c,1<=c->c<n->Ab s c<=B c
end
section
variable {gh:Gh} {ta:Int->Bool} {s s':MS} {p F v a:Int} {i:Nat}
theorem TA {x:bG} (h1:x.ph=1) (b:iA s.h x=true):(Go.Proofs.YtlcenllcmeebhaaGreat.dZ s i x).1.h=s.h:=by
 unfold Go.Proofs.YtlcenllcmeebhaaGreat.dZ;rw[ao (by omega)];split
 ·rename_i a;unfold o8 at a;split at a
  ·cases a;rfl
  ·cases a
 ·unfold bE;rw[ao (by omega),av h1];unfold cQ;rw[av b];dsimp only;split<;>rfl
theorem J1: ∀(l:List Int) (s:MS),(l.foldl jj s).h.gr=s.h.gr
 |[], _=>rfl
 |f::l,s=>by rw[BW,J1 l _];rfl
structure OB (gh:Gh) (ta:Int->Bool) (p F:Int) (s:MS):Prop where
 m:MI gh ta 3 s
 o:Ow s.h p F
 ot: ∀(j:Nat) (y:bG),1<=j->s.cs[j]? =some y->(y.ph=0\/y.vm=2)/\(y.ph=3->y.fr≠F)/\ ∀l∈y.ls,l.2.2.1≠F
theorem Ow.same {h h':HS} (O:Ow h p F) (a: ∀q,fW h' 1 q=fW h 1 q) (hg:h'.g=h.g) (b:h'.gr=h.gr):Ow h' p F:=⟨O.pr,by rw[a];exact O.pg,by unfold jd;rw[hg];exact O.tk,by rw[b];exact O.gi,by rw[hg];exact O.lv⟩
theorem OB.ne (B:OB gh ta p F s) {q f r:Int} (h:fW s.h (2:Int).toNat q=(f,r,0,())):f≠F:=B.o.ne B.m.hi (i:=2) (by decide) (q:=q) (by rw[ku,show fW s.h 2 q= _ from h];rfl)
theorem OB.step (B:OB gh ta p F s) {k:Nat} (D:1<=k/\k<3) {u:bG} (h0:s.cs[0]? =some u): ∃cI E,OB cI E p F (aL s (k:Int)).1/\(aL s (k:Int)).1.cs[0]? =some u/\(∀(f:Int) (w:Int×Nat×Int),gh f=some w->w.1≠2->cI f=some w)/\
 ∀j:Int,0<=j->j<16->cL (aL s (k:Int)).1.h.s.1 (16*F+j)=cL s.h.s.1 (16*F+j):=by
 have M:=B.m;obtain⟨x,hx⟩: ∃x,s.cs[k]? =some x:=⟨_,AM (by have:=M.lc;omega)⟩;rw[gH hx];obtain⟨x',C⟩:=chg M hx;obtain⟨g',G,M',H,I⟩:=M.dZ hx;obtain⟨o1,J,v⟩:=B.ot k x D.1 hx;have K:=M.ar x (az hx);have z:Ow (Go.Proofs.YtlcenllcmeebhaaGreat.dZ s k x).1.h p F/\ ∀j:Int,0<=j->j<16->cL (Go.Proofs.YtlcenllcmeebhaaGreat.dZ s k x).1.h.s.1 (16*F+j)=cL s.h.s.1 (16*F+j):=by
  rcases C.md with h|h|⟨h1,h⟩|⟨g,Q,h⟩
  ·rw[h];exact⟨B.o,λ_ _ _=>rfl⟩
  ·rw[h];refine⟨B.o.same (λq=>M.Wx 1 q) (aax s) (J1 _ _),λj _ _=>?_⟩;unfold da;rw[show(∀(l:List Int) (s:MS),(l.foldl jj s).h.s.1=s.h.s.1) from λl=>by
    induction l with
    |nil=>intro _;rfl
    |cons f l L=>
     intro s;rw[BW,L];show(fQ s.h.s f).1= _;unfold fQ;split<;>rfl]
  ·cases b:iA s.h x with
   |true=>rw[TA h1 b];exact⟨B.o,λ_ _ _=>rfl⟩
   |false=>
    have hv:x.vm=2:=by omega
    rw[h,hv];refine aaw M.hi B.o K.1.1 λA c=>?_;unfold iA aT at b;rw[A,hv] at b;rw[A] at c;rw[c.1,c.2.1,decide_eq_true c.2.2] at b;exact absurd b (by decide)
  ·obtain⟨⟨m,d,f1,f2,f3⟩, _⟩:=M.rc hx g;obtain⟨_,Pg⟩:=M.hi.GO f2 (f3.imp id λc=>c.1) (o:=x.c.2.1 % 16) (by omega) x.c.2.2.1;have n:=J g;rw[h,f1];refine⟨B.o.same (λq=>Pg.to id) rfl rfl,λj R j1=>?_⟩;show cL (dC s.h.s.1 (16*(m:Int)+x.c.2.1 % 16) x.c.2.2.1) _= _;rw[mi (by omega)]
 have fe: ∀{j:Nat},j≠k->(Go.Proofs.YtlcenllcmeebhaaGreat.dZ s k x).1.cs[j]? =s.cs[j]? :=λt=>by rw[C.cs,Ae (λe=>t e.symm)]
 refine⟨g',G,⟨M',z.1,λj y t i=>?_⟩,by rw[fe (by omega)];exact h0,λf w n N=>?_,z.2⟩
 ·by_cases e:j=k
  ·subst e;rw[C.cs,Aq (AC.1 hx).1] at i;cases i;refine⟨?_,λg=>?_,λl O=>?_⟩
   ·rcases C.vc with e|⟨e,e', _⟩
    ·exact .inl e
    ·right;rw[e'];omega
   ·rcases(C.p3 g).2 with ⟨_,l,h1, _, _,a⟩|⟨P,r,a⟩
    ·rw[<-a];exact v l h1
    ·rw[show x.vm=2 by omega] at a;exact B.ne a
   ·rcases C.ls l O with h|⟨P, _, _, _,a⟩
    ·exact v l h
    ·rw[show x.vm=2 by omega] at a;exact B.ne a
  ·rw[fe e] at i;exact B.ot j y t i
 ·rcases o1 with h|h
  ·rw[H (by rw[h];rfl)];exact n
  ·exact I (by omega) f w n (by rw[h];exact N)
def OX (gh:Gh) (p F:Int) (c:CT) (x:bG):Prop:=x.vm=1/\x.c=c/\(x.ph=1\/(x.ph=2/\ ∃l:Nat,gh x.wk.1=some (1,l,px (l+1) p)/\x.wk.2.1=(l:Int))\/(x.ph=3/\x.fr=F))
theorem OB.c_ {cI:Gh} {a:Int->Bool} (B:OB gh ta p F s) (M:MI cI a 3 s') (O:Ow s'.h p F) (hc: ∀j:Nat,1<=j->s'.cs[j]? =s.cs[j]?):OB cI a p F s':=⟨M,O,λj y b c=>B.ot j y b (by rw[<-hc j b];exact c)⟩
theorem CC {x:bG} (hx:s.cs[i]? =some x):bh s i x=s:=by unfold bh;rw[pO hx]
theorem OB.me (B:OB gh ta p F s) {x:bG} (hx:s.cs[0]? =some x) {c:CT} (X:OX gh p F c x) (hc:c=(6,a,0,0,())\/c=(7,a,v,0,())) (ha:a / 16=p):
 ∃I,OB gh I p F (aL s 0).1/\(((aL s 0).2.2=false/\ ∃x',(aL s 0).1.cs[0]? =some x'/\OX gh p F c x'/\(aL s 0).1.h=s.h)\/
 ((aL s 0).2.2=true/\ ∃ls,(aL s 0).1.cs[0]? =some (bV ls)/\(c.1=6->(aL s 0).2.1=(cL s.h.s.1 (16*F+a % 16),0))/\(c.1=7->cL (aL s 0).1.h.s.1 (16*F+a % 16)=v))):=by
 have M:=B.m;have O:=B.o;have z:=(AC.1 hx).1;obtain⟨e,f,P⟩:=X;have J:x.c.2.1=a:=by rw[f];rcases hc with rfl|rfl<;>rfl
 have Q:=O.pr;have U:iA s.h x=true:=by
  unfold iA;rw[J,e,f,O.lv,decide_eq_true (show a<1048576 by omega)];rcases hc with rfl|rfl<;>rfl
 obtain⟨g',I,M',K, _⟩:=M.dZ hx;have K:=K (by rw[U,Bool.or_true]);rw[K] at M';clear K;have V:aL s 0=Go.Proofs.YtlcenllcmeebhaaGreat.dZ s 0 x:=gH (c:=0) hx;rw[<-V] at M';refine⟨I,?_⟩;have R: ∀{y:bG} {j:Nat},1<=j->(s.cs.set 0 y)[j]? =s.cs[j]? :=λA=>Ae (by omega);have S: ∀{y:bG},(s.cs.set 0 y)[0]? =some y:=Aq z;by_cases C:x.ph=3
 ·have W:x.fr=F:=by
   rcases P with h|⟨h, _⟩|⟨_,h⟩
   ·omega
   ·omega
   ·exact h
  by_cases D:x.c.1=7
  ·have r:=Tg z C D;rw[CC hx,W,J] at r;have r:aL s 0= _:=r;rw[r] at M' ⊢;obtain⟨n,d,f1,f2,f3, _⟩:=O.ds M.hi;obtain⟨_,Pg⟩:=M.hi.GO f2 (.inl f3) (o:=a % 16) (by omega) x.c.2.2.1;rw[f1] at Pg;refine⟨B.c_ M' (O.same (λq=>Pg.to id) rfl rfl) (λj A=>R A),.inr ⟨rfl,x.ls,S,λh6=>?_,λ_=>?_⟩⟩
   ·rw[f] at D;omega
   ·have Y:=M.hi.inv.len;have:=(AC.1 f2).1;show cL (dC s.h.s.1 (16*F+a % 16) x.c.2.2.1) _=v;rw[tx (iK (by omega) (by omega)),f];rw[f] at D;rcases hc with rfl|rfl
    ·exact absurd D (show ¬ (6:Int)=7 by decide)
    ·rfl
  ·have r:=Tf z C D;rw[CC hx,W,J] at r;have r:aL s 0= _:=r;rw[r] at M' ⊢;exact⟨B.c_ M' O (λj A=>R A),.inr ⟨rfl,x.ls,S,λ_=>rfl,λh=>absurd (by rw[f];exact h) D⟩⟩
 have fin: ∀{s1:MS} {y:bG},aL s 0=(s1,(0,0),false)->s1.cs=s.cs.set 0 y->s1.h=s.h->OX gh p F c y->OB gh I p F (aL s 0).1/\(((aL s 0).2.2=false/\ ∃x',(aL s 0).1.cs[0]? =some x'/\OX gh p F c x'/\(aL s 0).1.h=s.h)\/
  ((aL s 0).2.2=true/\ ∃ls,(aL s 0).1.cs[0]? =some (bV ls)/\(c.1=6->(aL s 0).2.1=(cL s.h.s.1 (16*F+a % 16),0))/\(c.1=7->cL (aL s 0).1.h.s.1 (16*F+a % 16)=v))):=λ{s1 y} r h1 E C=>by
  rw[r] at M' ⊢;exact⟨B.c_ M' (by show Ow s1.h p F;rw[E];exact O) (λj A=>by show s1.cs[j]? = _;rw[h1];exact R A),.inl ⟨rfl,y,by show s1.cs[0]? = _;rw[h1];exact S,C,E⟩⟩
 obtain⟨q,G⟩: ∃q,s.bx[0]? =some q:=⟨_,AM (by have:=M.lb;omega)⟩;cases q with
 |cons b q=>
  have r:aL s 0=(bh {s with bx:=s.bx.set 0 q,op:=s.op.set (b.1 - 1).toNat (s.op.getD (b.1 - 1).toNat 0 - 1)} 0 {x with ls:=iY x.ls b.2.1 b.2.2.1},(0,0),false):=by
   rw[V];unfold Go.Proofs.YtlcenllcmeebhaaGreat.dZ o8;rw[ao C,G]
  exact fin r rfl rfl ⟨e,f,P⟩
 |nil=>
  have u:x.c.2.1 / 16=p:=by rw[J];exact ha
  rcases P with h1|⟨E,l,Y,Fm⟩|⟨h, _⟩
  ·have r:=Te z G h1 U;rw[CC hx] at r;have r:aL s 0= _:=r;split at r
   ·rename_i i;refine fin r rfl rfl ⟨e,f,.inr (.inr ⟨rfl,?_⟩)⟩;show(ka x.ls x.vm (x.c.2.1 / 16) (aT x.c.1)).1=F;unfold ka at i ⊢;cases L:x.ls.find? (Aw x.vm (x.c.2.1 / 16)) with
    |none=>rw[L] at i;exact absurd i (show ¬ (4:Int)=0 by decide)
    |some l=>
     rw[L] at i;dsimp only at i ⊢;split at i
     ·exact absurd i (show ¬ (7:Int)=0 by decide)
     ·rename_i cc;rw[ao cc];have N:=List.find?_some L;unfold Aw at N;rw[Ar,beq_iff_eq,beq_iff_eq] at N;obtain⟨_,m,d,k1,k2,w⟩:=M.ln hx l (List.mem_of_find?_eq_some L);rcases w with ⟨_,w⟩|⟨_,qq,b,w,k4, _⟩
      ·rw[N.1,N.2,e,u,show fW s.h (1:Int).toNat p= _ from O.pg] at w;exact(congrArg (·.1) w).symm
      ·rw[G] at w;cases w;cases k4
   ·refine fin r rfl rfl ⟨e,f,.inr (.inl ⟨rfl,3,?_,rfl⟩)⟩;obtain⟨gv,g1,g2,g3, _⟩:=ql M O.lv;show gh (aR s.h.g x.vm)=some (1,3,px 4 p);rw[e,W7 Q,g2];exact g3
  ·obtain⟨lv',w1,w2,w3, _⟩:=M.wl hx E;have hl3:l<=3:=by omega
   have uO:(aT x.c.1=1\/aT x.c.1=2)/\dM true 3 false F (aT x.c.1)=true:=by
    obtain⟨n,d,f1,f2, _⟩:=O.ds M.hi;have hle:=M.hi.inv.le;have:=(AC.1 f2).1;have d1:decide (F>=0)=true:=decide_eq_true (by omega);have d2:decide (F<4096)=true:=decide_eq_true (by omega);rw[f];rcases hc with rfl|rfl
    ·exact⟨.inl rfl,by show dM true 3 false F 1=true;unfold dM bU;simp;refine⟨by omega,?_⟩;decide⟩
    ·exact⟨.inr rfl,by show dM true 3 false F 2=true;unfold dM bU;simp;refine⟨by omega,?_⟩;decide⟩
   obtain⟨Z,q2,q3⟩:=four M.hi O.lv (t:=aT x.c.1) Q (by omega) (by show(fW s.h 1 p).2.2.1=0;rw[O.pg]);rw[show fW s.h (1:Int).toNat p= _ from O.pg,uO.2,av rfl] at q3;have hr:=tU M.hi O.lv (t:=aT x.c.1) Q;have hwk:x.wk=fO s.h.s.1 (aR s.h.g 1) p (aT x.c.1) (3 - l):=by
    rcases hr (3 - l) with ⟨m,H,m2,m3,T⟩|⟨_,H⟩
    ·have:m=l:=by omega
     subst this;refine Prod.ext (M.hi.inv.inj Y T) (Prod.ext (Fm.trans m2.symm) (w3.trans m3.symm))
    ·rw[Z (3 - l) (by omega)] at H;omega
   have Zh:oY s.ep 0=s.ep:=by
    have:=M.pn hx;rw[av (.inl E)] at this;unfold oY;rw[ao (by omega)]
   have acT:fO s.h.s.1 (aR s.h.g x.vm) (x.c.2.1 / 16) (aT x.c.1) (3 - l)=x.wk:=by rw[e,u];exact hwk.symm
   have hs:fM s 0 x (3 - l)=s:=by
    unfold fM;rw[Zh,acT,show({x with ph:=2}:bG)=x by rw[<-E]];exact CC hx
   by_cases l0:l=0
   ·subst l0;have r:=Td z G (by rw[e,u];exact q2) (by rw[e,u];exact q3);have hs:fM s 0 x 3=s:=hs;rw[hs] at r;exact fin r rfl rfl ⟨e,f,.inr (.inr ⟨rfl,rfl⟩)⟩
   ·have i:=Z (3 - l+1) (by omega);have r:=Ww (k:=3 - l) z G (by rw[e,u,i];omega);rw[hs] at r;refine fin r rfl rfl ⟨e,f,.inr (.inl ⟨rfl,l - 1,?_,?_⟩)⟩
    ·rcases hr (3 - l+1) with ⟨m,H,m2,m3,T⟩|⟨_,H⟩
     ·have:m=l - 1:=by omega
      subst this;show gh (fO s.h.s.1 (aR s.h.g x.vm) (x.c.2.1 / 16) (aT x.c.1) (3 - l+1)).1= _;rw[e,u];exact T
     ·rw[i] at H;omega
    ·show(fO s.h.s.1 (aR s.h.g x.vm) (x.c.2.1 / 16) (aT x.c.1) (3 - l+1)).2.1= _;rw[e,u,i];congr 1;omega
  ·exact absurd h C
def OL (p F v a:Int) (b:Bool) (z:Nat) (s:MS):Prop:= ∃gh ta x,OB gh ta p F s/\s.cs[0]? =some x/\OX gh p F (if b=true then(6,a,0,0,()) else(7,a,v,0,())) x/\(b=true->cL s.h.s.1 (16*F+a % 16)=v)/\Ke s 0+Ab s 0+(if b=true then 0 else 13)<=z
theorem OL.up {b:Bool} {z:Nat} (L:OL p F v a b z s):OL p F v a b (z+1) s:=let ⟨gh,ta,x,B,hx,X,c,d⟩:=L;⟨gh,ta,x,B,hx,X,c,Nat.le_succ_of_le d⟩
theorem OX.up {cI:Gh} {c:CT} {x:bG} (X:OX gh p F c x) (h: ∀(f:Int) (w:Int×Nat×Int),gh f=some w->w.1≠2->cI f=some w):OX cI p F c x:=⟨X.1,X.2.1,X.2.2.imp id (Or.imp (λ⟨a,l,b,d⟩=>⟨a,l,h _ _ b (show ¬ (1:Int)=2 by decide),d⟩) id)⟩
theorem q_ {x:bG} (hx:s.cs[i]? =some x):gC s i=x:=by unfold gC;rw[Ci,hx];rfl
theorem OL.step {b:Bool} {z:Nat} (L:OL p F v a b z s) {k:Nat} (d:1<=k/\k<3):OL p F v a b (z+1) (aL s (k:Int)).1:=by
 obtain⟨gh,ta,x,B,hx,X,g,l⟩:=L;have ds:=(XL ⟨gh,ta,B.m⟩ d.2).mu 0;obtain⟨g',h,i,e,hg,j⟩:=B.step d hx;obtain⟨y,f⟩: ∃y,s.cs[k]? =some y:=⟨_,AM (by have:=B.m.lc;omega)⟩;obtain⟨n,P⟩:=prog B.m f;rw[<-gH f] at P;have hb:=P.box 0 (by omega);have o:o1 y<=1:=by unfold o1;split<;>omega
 refine⟨g',h,x,i,e,X.up hg,λc=>by rw[j _ (by omega) (by omega)];exact g c,?_⟩;have:Ab (aL s (k:Int)).1 0<=Ab s 0+1:=by unfold Ab;rw[q_ e,q_ hx];omega
 omega
theorem GQ {c:CT} {vm:Int} {x:bG} {k:Nat} (hx:s.cs[k]? =some x) (h0:x.ph=0):Dg (cB s (k:Int) vm c)=Dg s+1/\bl (cB s (k:Int) vm c) 0=bl s 0:=by
 rw[(m_ hx h0 vm c).1];refine⟨?_,rfl⟩;have a:=(AC.1 hx).1;unfold Dg bh;dsimp only;rw[List.countP_set a,(AC.1 hx).2,h0];rfl
theorem OL.ask {b:Bool} {z:Nat} (L:OL p F v a b z s) {k:Nat} (n:1<=k/\k<3) {c:CT} (hc:bT c.2.1/\bT c.2.2.1/\bT c.2.2.2.1):OL p F v a b (z+1) (cB s (k:Int) 2 c):=by
 obtain⟨gh,ta,x,B,hx,X,d,g⟩:=L;obtain⟨y,f⟩: ∃y,s.cs[k]? =some y:=⟨_,AM (by have:=B.m.lc;omega)⟩;have M':=B.m.ask (k:Int) 2 hc;by_cases h0:y.ph=0
 ·obtain⟨a1,i⟩:=GQ (c:=c) (vm:=2) f h0;have e:=(m_ f h0 2 c).1;rw[e] at M' a1 i ⊢;have l:(s.cs.set k {y with ph:=1,vm:=2,c:=c})[0]? =s.cs[0]? :=Ae (by omega);refine⟨gh,ta,x,⟨M',B.o,λj w q d=>?_⟩,l.trans hx,X,d,?_⟩
  ·rcases ju (show(s.cs.set k _)[j]? =some w from d) with ⟨_,rfl⟩|⟨_,d⟩
   ·exact⟨.inr rfl,λh=>absurd h (show ¬ (1:Int)=3 by decide),(B.ot k y n.1 f).2.2⟩
   ·exact B.ot j w q d
  ·unfold Ke Ab at g ⊢;rw[a1,i,q_ (show(bh s k _).cs[0]? =some x from l.trans hx)];rw[q_ hx] at g;omega
 ·rw[(busy f h0 2 c).2];exact⟨gh,ta,x,B,hx,X,d,by omega⟩
theorem OL.me {b:Bool} {z:Nat} (L:OL p F v a b z s) (A:a / 16=p) (C:bT a):2<=z/\(((aL s 0).2.2=false/\OL p F v a b (z - 2) (aL s 0).1)\/((aL s 0).2.2=true/\((b=true/\(aL s 0).2.1=(v,0))\/(b=false/\OL p F v a true (z - 2) (cB (aL s 0).1 0 1 (6,a,0,0,())))))):=by
 obtain⟨gh,ta,x,B,hx,X,g,n⟩:=L;have ds:=(XL ⟨gh,ta,B.m⟩ (k:=0) (by decide)).lt;obtain⟨x',P⟩:=prog B.m hx;rw[<-gH hx] at P;have J:0<qJ x:=by
  unfold qJ;rcases X.2.2 with h|⟨h, _⟩|⟨h, _⟩<;>rw[h]<;>simp<;>omega
 have D:0<Ab s 0:=by unfold Ab;rw[q_ hx];omega
 have q:Ke (aL s 0).1 0<Ke s 0:=ds D;have E:=(AC.1 hx).1;have G:(aL s 0).1.cs[0]? =some x':=by
  have:=P.cs;show(aL s ((0:Nat):Int)).1.cs[0]? = _;rw[this,Aq E]
 have r:Ab (aL s 0).1 0<Ab s 0:=by
  have:bl (aL s 0).1 0+qJ x'<bl s 0+qJ x:=P.lt (by omega);unfold Ab;rw[q_ G,q_ hx];omega
 have K:Ab s 0<=Ke s 0:=Nat.le_add_right _ _;refine⟨by omega,?_⟩;obtain⟨u,f,h⟩:=B.me hx X (by cases b;exact .inr rfl;exact .inl rfl) A;rcases h with ⟨h1,y,d,t,i⟩|⟨h1,ls,d,t,i⟩
 ·exact .inl ⟨h1,gh,u,y,f,d,t,λc=>by rw[i];exact g c,by omega⟩
 ·refine .inr ⟨h1,?_⟩;cases b with
  |true=>exact .inl ⟨rfl,by rw[t rfl,g rfl]⟩
  |false=>
   refine .inr ⟨rfl,?_⟩;generalize (aL s 0).1=s1 at f d i q r;obtain⟨a1,l⟩:=GQ (c:=(6,a,0,0,())) (vm:=1) d rfl;have M':=f.m.ask 0 1 (c:=(6,a,0,0,())) ⟨C,(show bT 0 by decide),(show bT 0 by decide)⟩;have e:cB s1 0 1 (6,a,0,0,())= _:=(m_ d rfl 1 (6,a,0,0,())).1;have H:=(AC.1 d).1;have a1:Dg (cB s1 0 1 (6,a,0,0,()))= _:=a1;have l:bl (cB s1 0 1 (6,a,0,0,())) 0= _:=l;rw[e] at M' a1 l ⊢;have hs:(bh s1 0 {bV ls with ph:=1,vm:=1,c:=(6,a,0,0,())}).cs[0]? =some _:=Aq H;refine⟨gh,u, _,⟨M',f.o,λj w I g=>f.ot j w I ?_⟩,hs,⟨rfl,rfl,.inl rfl⟩,λ_=>i rfl,?_⟩
   ·rw[<-g];exact(Ae (by omega)).symm
   ·unfold Ke Ab at n q ⊢;unfold Ab at r;rw[a1,l,q_ hs];rw[q_ d,show qJ (bV ls)=0 from rfl] at q r;show bl s1 0+6+(Dg s1+1)+(bl s1 0+6)+0<= _;have n:bl s 0+qJ (gC s 0)+Dg s+(bl s 0+qJ (gC s 0))+13<=z:=n;omega
theorem Bd.ol {f:Nat} {l:Int} (b:Bd f 3 l p 3 F s) (y:a / 16=p) (k:0<=p/\p<65536) (i:bT a/\bT v):OL p F v a false 26 (cB s 0 1 (7,a,v,0,())):=by
 obtain⟨gh,ta,M⟩:=b.x;have fe: ∀{j:Nat} {x:bG},s.cs[j]? =some x->x=bV []:=λhx=>by
  rw[b.cs] at hx;exact List.eq_of_mem_replicate (az hx)
 have hx:s.cs[0]? =some (bV []):=by rw[b.cs];rfl
 have m:=(AC.1 hx).1;have O:Ow s.h p F:=⟨k,b.pg,List.eq_nil_iff_forall_not_mem.2 λt n=>by
  obtain⟨_,o,q, _, _, _, _, _, _,h, _⟩:=M.hi.hc.AL (M.hi.hc.Kv n);exact q (b.only _ _ _ h).1,b.gr,(b.live 1).2 (by omega)⟩
 obtain⟨a1,d⟩:=GQ (c:=(7,a,v,0,())) (vm:=1) hx rfl;have M':=M.ask 0 1 (c:=(7,a,v,0,())) ⟨i.1,i.2,(show bT 0 by decide)⟩;have e:cB s 0 1 (7,a,v,0,())= _:=(m_ hx rfl 1 (7,a,v,0,())).1;have a1:Dg (cB s 0 1 (7,a,v,0,()))= _:=a1;have d:bl (cB s 0 1 (7,a,v,0,())) 0= _:=d;rw[e] at M' a1 d ⊢;have hs:(bh s 0 {bV [] with ph:=1,vm:=1,c:=(7,a,v,0,())}).cs[0]? =some _:=Aq m;refine⟨gh,ta, _,⟨M',O,λj w z g=>?_⟩,hs,⟨rfl,rfl,.inl rfl⟩,(λc=>by cases c),?_⟩
 ·have g:s.cs[j]? =some w:=by rw[<-g];exact(Ae (by omega)).symm
  rw[fe g];exact⟨.inl rfl,λh=>absurd h (show ¬ (0:Int)=3 by decide),λl r=>(by cases r)⟩
 ·unfold Ke Ab;rw[a1,d,q_ hs];have h1:Dg s=0:=by unfold Dg;rw[b.cs];rfl
  have u:bl s 0=0:=by unfold bl;rw[b.bx];rfl
  rw[h1,u];show 0+6+(0+1)+(0+6)+13<=26;decide
end
end Go.Proofs.YtlcenllcmeebhaaGreat
namespace Go.Proofs.YtlcenllcmeebhaaGreat.Mu
set_option maxRecDepth 100000
open Go.RX D
theorem MU.NQ {Q:Sys} {X:HX} {D G:List Nat} {w0 w:A2} {R:MR} {s:MS} {T L:List (Nat×List AF)} {M:List (Nat×Obj)} (H:MU Q X D G w0 w R s T L M) (i:Nat) {b n:Nat} {l:List AF} {x:AF} {K:A2->Prop} (a:T[i]? =some (b,l)) (c:x.oneCell'=true) (d:Nat.blt n l.length=true) (k: ∀w1,MU Q X D G w0 w1 R s (T.set i (b,l.set n x)) L M->K w1):aC w (ad (ae b) n) [x] K:=by
 obtain⟨B,e,H⟩:=H;obtain⟨R,f,H, _, _, _,J⟩:=H.tmp;have hi:=(AC.1 a).1;refine Mu.NQ H i (by rw[List.getElem?_append_left hi];exact a) c d λw1 H=>k w1 ⟨B,e,J ?_⟩;rw[List.set_append_left _ _ hi] at H;exact H
theorem acV (x:Int):aH .i64 1 (mw .i64 x 1)=1\/aH .i64 1 (mw .i64 x 1)=2:=by
 have h:(AJ 64 x &&& AJ 64 1).toNat<=1:=by
  rw[BitVec.toNat_and];exact Nat.and_le_right
 generalize b:(AJ 64 x &&& AJ 64 1).toNat=N at h;have e:mw .i64 x 1=(N:Int):=by
  rw[<-b];exact bP (a:=((AJ 64 x &&& AJ 64 1).toNat:Int)) (by rw[b];omega)
 rw[e,ay (by omega) (by omega)];omega
theorem TB (g:Int) (hg:(Lit.int .u8 g).wf=true) (v:Int) (hv:(Lit.int .u64 v).wf=true) (p:Option Addr) (m c:Nat) (xs:List (jX sOp)) (hm:m=xs.length) (hmx:m<=maxLen) {w:A2} (hs:Sl w (.agg sOp) p xs) (P: ∀x∈xs,mh sOp x):
 aE A0 13 (.el (.one .bool)) [.int .u8 g,ax v,.slice p m c] w (λb w'=>b=true/\Ext w w'):=by
 refine ai (C:=U6) (aW:=wM) (Eq.mpr (WK g v p m c w _) ?_);have hg:=acQ hg;have hv:bT v:=by
  simp[Lit.wf,B1,B2,B3,B4] at hv;unfold bT;omega
 rw[show aJ .u64 g=g from dU (by omega),show fX .u64 16 g=16*g from QM (by omega) (by omega),show aH .u64 (16*g) 5=16*g+5 from QL (by omega) (by omega)];have J:=(Wv (f:=80) (n:=3) (l:=4) (by omega) (by omega) (by omega)).2.2;refine BT (At.start [] w) 80 3 4 (by omega) (by omega) (by omega) λQ X R w1 H d=>an rfl ?_;obtain⟨F,T,Bd⟩:=J.don (by omega) (by omega) (p:=g) (b:=3) (by omega) (by omega);have u:bT (16*g+5):=by unfold bT;omega
 have B:(16*g+5) / 16=g:=by omega
 have O:=Bd.ol (v:=v) B (by omega) ⟨u,hv⟩;refine kZ H 0 1 3 λw2 H=>?_;have D:MG Q 3 2 (cB (yf 80 3 4) 0 1 (Oe g 3)):=d.ask 0 1 (by decide) ⟨⟨by show 0<=g;omega,by show g< _;omega⟩,(show bT 3 by decide),(show bT 0 by decide)⟩;refine js H D (by omega) 0 λw3 H=>kZ H 0 1 7 λw4 H=>?_;have d:MG Q 3 3 (cB (aL (cB (yf 80 3 4) 0 1 (Oe g 3)) 0).1 0 1 (7,16*g+5,v,0,())):=(D.step 0).ask 0 1 (by decide) ⟨u,hv,(show bT 0 by decide)⟩;generalize cB (aL (cB (yf 80 3 4) 0 1 (Oe g 3)) 0).1 0 1 (7,16*g+5,v,0,())=S at H d O;generalize 16*g+5=a at u B O;clear J Bd T D;refine⟨λK st E=> ∃(j:Nat) (b:Bool) (s:MS),K=60 - j/\st.1=b/\st.2.1=(j:Int)/\j<=26/\MG Q 3 (3+2*j) s/\OL g F v a b (26 - j) s/\MU Q X [] [] w E R s [] [] [],⟨60,λE U=>⟨0,false,S,rfl,rfl,rfl,by omega,d,O,H.ext U⟩⟩,?_⟩;clear H d O S;rintro K ⟨y,V, _⟩ E ⟨j,b,s,W,hb,hi,hj,d,O,H⟩;have hi:V=(j:Int):=hi;have hb:y=b:=hb;subst hi hb W;dsimp only;refine aB (decide_eq_true (by omega)) ?_;have es:26 - j+1 - 2=26 - (j+1):=by omega
 refine ab (λA=>?_) (λA=>?_)
 all_goals
  first
  |obtain⟨o,L⟩: ∃o,xs[j]? =some o:=⟨_,AM (by have:=of_decide_eq_true A;omega)⟩
   have M:=H.op hs L;have G:=ab2 (P o (List.mem_of_getElem? L));obtain⟨o1,h,Y,i,q,r,t,⟨⟩⟩:=o;have A:=of_decide_eq_true A;refine⟨⟨M.1,by omega,by omega⟩,aj.of (o1,h,Y,i,q,r,t,()) (by rw[Int.toNat_natCast];exact M.2) (H.al λb1 w6 H=>H.st 0 rfl rfl rfl λw7 H=>⟨rfl,H.cz 0 rfl (show _=some o1 from rfl) ⟨rfl,H.NQ 0 rfl rfl rfl λw8 H=>⟨rfl,H.NQ 0 rfl rfl rfl λw9 H=>H.ld 0 rfl (show _=some (aH .i64 1 (mw .i64 o1 1),h,2,i,q,r,t,()) from rfl) (aat H d (by omega) (aH .i64 1 (mw .i64 o1 1),h,2,i,q,r,t,()) λny H=>?_)⟩⟩⟩)⟩;have H:=H.sub (Bs _ _);have d:=d.op' (o:=(aH .i64 1 (mw .i64 o1 1),h,2,i,q,r,t,())) ⟨(show(2:Int)<9223372036854775808 by decide),G.2⟩;have O:OL g F v a y (26 - j+1) (YD s (aH .i64 1 (mw .i64 o1 1),h,2,i,q,r,t,())):=by
    unfold YD;rcases acV o1 with e|e<;>rw[e]<;>dsimp only<;>split
    ·exact O.ask (k:=1) (by omega) G.2
    ·exact O.step (k:=1) (by omega)
    ·exact O.ask (k:=2) (by omega) G.2
    ·exact O.step (k:=2) (by omega)
   generalize YD s (aH .i64 1 (mw .i64 o1 1),h,2,i,q,r,t,())=s at H d O
  |have O:=O.up
   have d:=d.mono (Nat.le_succ _)
  obtain⟨hz,N⟩:=O.me B u;rw[es] at N;refine js H d (by omega) 0 λoO H=>H.al λb2 Dp H=>H.st 0 rfl rfl rfl λN8 H=>?_;have d:=d.step 0;rcases N with ⟨h1,z⟩|⟨h1,⟨z,I⟩|⟨z,I⟩⟩
  ·exact an (by rw[h1];rfl) (an h1 λZ h14=>⟨60 - (j+1),by omega,j+1,y, _,rfl,rfl,by rw[ay (by omega) (by omega)];omega,by omega,d.mono (by omega),z,(H.sub (Bs _ _)).ext h14⟩)
  ·exact aB (by rw[h1,show y=true from z];rfl) (H.ld 0 rfl (show _=some ((aL s 0).2.1.1,(aL s 0).2.1.2,()) from rfl) (aB (by rw[I];simp) (aau H)))
  ·exact an (by rw[h1,show y=false from z];rfl) (aB h1 (kZ H 0 1 6 λZ H w15 h15=>⟨60 - (j+1),by omega,j+1,true, _,rfl,rfl,by rw[ay (by omega) (by omega)];omega,by omega,(d.ask 0 1 (by decide) ⟨u,(show bT 0 by decide),(show bT 0 by decide)⟩).mono (by omega),I,(H.sub (Bs _ _)).ext h15⟩))
end Go.Proofs.YtlcenllcmeebhaaGreat.Mu
