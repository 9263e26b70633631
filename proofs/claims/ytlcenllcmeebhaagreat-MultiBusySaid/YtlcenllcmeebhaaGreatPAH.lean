import Derived.Test.YtlcenllcmeebhaaGreatPAG
/-! What the statement leans on: texts joined and shortened by a program of mine. -/
set_option linter.unusedVariables false
set_option linter.unusedSimpArgs false
open Go renaming World->A2
open Go.Proofs.Tryz renaming prog->AB
open Int renaming toNat->AC,toNat_natCast->AF
open Nat renaming mod_lt->AG
open List renaming mem_append_right->AH,getElem?_eq_getElem->AT,mem_of_getElem?->Ap,mem_cons_self->Aq,sublist_cons_self->B5,getD_eq_getElem?_getD->BO
open Go.IntKind renaming i64->Ae,min->B1,max->B2,bits->B3,signed->B4
namespace Go.Proofs.YtlcenllcmeebhaaGreat.Mu
set_option maxRecDepth 100000
open Go.RX D
noncomputable def U5:dJ AB:={U4 with quiet:=[25,19,21]++U4.quiet}
abbrev sX3:List Sc:=[.int .u8,.int .u8,.int .u8]
def uE:Nat->aZ:=(λ|6=>[(10,Go.RX.El.one (Go.RX.Sc.int Ae))]|10=>[(11,Go.RX.El.one (Go.RX.Sc.int Ae))]| _=>[])
theorem Th (t x1 u k a b d:Int) (p:Option Addr) (m c:Nat) (w:A2) (l:Bool->A2->Prop):(aK U5 uE 12 [.agg ⟨[.int .u8 t,.int .u8 x1,.int .u8 u]⟩,.slice p m c,.agg ⟨[aa k,ay a,ay b,ay d]⟩] w l)=(
 aN w ⟨[.int .u8 t,.int .u8 x1,.int .u8 u]⟩ 22 λv e=>aN e ⟨[aa k,ay a,ay b,ay d]⟩ 31 λb e=>(true=true/\(0:Int)<=1/\1<(↑3:Int))/\aj e none (ad (af v) 1) (.one (.int .u8)) λ(x:Int)=>(true=true/\(0:Int)<=0/\0<(↑3:Int))/\aj e none (ad (af v) 0) (.one (.int .u8)) λ(A:Int)=>aA AB 15 (.bu [.one .ptr,.one .bool]) [aa (aJ .i64 20 (eZ (aF .i64 A) 60)),aa (aJ .i64 1 (eZ (aF .i64 x) 8)),aa 4] e λj e=>aI (!j.2.1) (au e (l false)) (∃(I:
 Nat->Int×Unit->A2->Prop),(∃n, ∀w1,Ext e w1->I n (0,()) w1)/\ ∀(n:Nat) (s:Int×Unit) (w1:A2),I n s w1->aI (decide (s.1<(↑m:Int))&&decide (s.1<100)) ((p.isSome=true/\0<=s.1/\s.1<(↑m:Int))/\aj w1 none (ad p (AC s.1*7)) (.agg [.int .i64,.bool,.int .i64,.int .i64,.int .u64,.int .u64,.int .u64]) λ(h:Int×Bool×Int×Int×Int×Int×Int×Unit)=>aA AB 16 (.bu []) [ag j.1,.agg {toList:=[aa h.1,.bool h.2.1,aa h.2.2.1,aa h.2.2.2.1,ay h.2.2.2.2.1,.int .u64
 h.2.2.2.2.2.1,ay h.2.2.2.2.2.2.1]}] w1 λB e=> ∃(o:Nat->Int×Unit->A2->Prop),(∃n, ∀w1,Ext e w1->o n (0,()) w1)/\ ∀(r:Nat) (i:Int×Unit) (w1:A2),o r i w1->aI (decide (i.1<aJ .i64 1 (eZ (aF .i64 x) 8))) (∃(x:Int),ae AB 49 [ag j.1,aa i.1] w1 (aa x)/\aI (x==0) (∀f,Ext w1 f-> ∃(g:Nat),g<r/\o g (aJ .i64 i.1 1,()) f) (aj w1 none (af b) s8 λ(q:Int×Int×Int×Int×Unit)=>aA AB 29 (.el aT) [ag j.1,.int .i64
 i.1,aa 1,.agg ⟨[aa q.1,ay q.2.1,ay q.2.2.1,ay q.2.2.2.1]⟩] w1 λ(y:Int) e=> ∃(z:Int),((!y != 9)=true->ae AB 49 [ag j.1,aa i.1] e (aa z))/\aI (y != 9||z != x) (au e (l false)) (∀f,Ext e f-> ∃(g:Nat),g<r/\o g (aJ .i64 i.1 1,()) f))) (∀f,Ext w1 f-> ∃(g:Nat),g<n/\I g (aJ .i64 s.1 1,()) f)) (aA AB 46 (.el rE) [] w1 λx e=>au e (l x)))):=by kernel_rfl
def rl:Nat->aZ:=(λ|6=>[(7,Go.RX.El.one (Go.RX.Sc.int Ae))]|10=>[(9,Go.RX.El.one (Go.RX.Sc.int Ae))]| _=>[])
theorem Nq (p:Option Addr) (c:Int) (w:A2) (h:Int->A2->Prop):(aK U5 rl 47 [ag p,aa c] w h)=(
 ∃(x:Option Addr),ae AB 17 [ag p] w (ag x)/\aI x.isNone (au w (h 0)) (aA AB 18 (.el kW) [ag x] w λq e=> ∃(I:Nat->Int×Unit->A2->Prop),(∃n, ∀w1,Ext e w1->I n (0,()) w1)/\ ∀(n:Nat) (s:Int×Unit) (w1:A2),I n s w1->aI (decide (s.1<c)) (aA AB 51 (.el ff) [ag p,aa s.1] w1 λd e=> ∃(l:Nat->Int×Unit->A2->Prop),(∃n, ∀w1,Ext e w1->l n (0,()) w1)/\ ∀(o:Nat) (a:Int×Unit) (w1:A2),l o a w1->aI (decide (a.1<(↑d.2.1:Int)))
 ((d.1.isSome=true/\0<=a.1/\a.1<(↑d.2.1:Int))/\(ad d.1 (AC a.1*4)).isSome=true/\aj w1 none (ad (ad d.1 (AC a.1*4)) 2) aT λ(r:Int)=> ∃(f:(Int×Int×Int×Int×Unit)×Bool×Unit),ae AB 25 [ag q,aa r] w1 (.tuple {toList:=[.agg ⟨[aa f.1.1,aa f.1.2.1,aa f.1.2.2.1,aa f.1.2.2.2.1]⟩,.bool f.2.1]})/\aN w1 ⟨[aa 0,aa 0,aa 0,aa 0]⟩ 52 λb e=>az e (af b) [aa f.1.1,aa f.1.2.1,aa f.1.2.2.1,
 aa f.1.2.2.2.1] λe=>((!!f.2.1)=true->true=true)/\aj e (some !!f.2.1) (ad (af b) 0) aT λ(m:Int)=>((!!f.2.1&&m != 4)=true->true=true)/\aj e (some (!!f.2.1&&m != 4)) (ad (af b) 0) aT λ(t:Int)=>aI (!f.2.1||m != 4&&t != 5) (au e (h s.1)) ((d.1.isSome=true/\0<=a.1/\a.1<(↑d.2.1:Int))/\(ad d.1 (AC a.1*4)).isSome=true/\aj e none (ad (ad d.1 (AC a.1*4)) 0) aT λ(u:Int)=>(d.1.isSome=true/\0<=a.1/\a.1<(↑d.2.1:Int))/\(ad d.1
 (AC a.1*4)).isSome=true/\aj e none (ad (ad d.1 (AC a.1*4)) 1) aT λ(v:Int)=>aA AB 81 (.bu [.one (.int .i64),.one (.int .i64),.one (.int .i64)]) [ag x,aa u,aa v] e λ(x:Int×Int×Int×Unit) e=> ∃(g:Int),ae AB 50 [ag p,aa s.1] e (aa g)/\((g==0&& !x.2.2.1 != 0)=true->d.1.isSome=true/\0<=a.1/\a.1<(↑d.2.1:Int))/\((g==0&& !x.2.2.1 != 0)=true->(ad d.1 (AC a.1*4)).isSome=true)/\aj e (some (g==0&& !x.2.2.1 != 0))
 (ad (ad d.1 (AC a.1*4)) 2) aT λ(k:Int)=>((g==0&& !(x.2.2.1 != 0||x.1 != k))=true->d.1.isSome=true/\0<=a.1/\a.1<(↑d.2.1:Int))/\((g==0&& !(x.2.2.1 != 0||x.1 != k))=true->(ad d.1 (AC a.1*4)).isSome=true)/\aj e (some (g==0&& !(x.2.2.1 != 0||x.1 != k))) (ad (ad d.1 (AC a.1*4)) 3) aT λ(y:Int)=>aI (g==0&&(x.2.2.1 != 0||x.1 != k||x.2.1 != y)) (au e (h s.1)) (∀i,Ext e i-> ∃(j:Nat),j<o/\l j (aJ .i64 a.1 1,()) i))) (∀i,
 Ext w1 i-> ∃(j:Nat),j<n/\I j (aJ .i64 s.1 1,()) i)) (au w1 (h (-1))))):=by kernel_rfl
def rm:Nat->aZ:=(λ|6=>[(8,Go.RX.El.one (Go.RX.Sc.int Ae))]| _=>[])
theorem Nr (g x1 h:Int) (p:Option Addr) (m c:Nat) (w:A2) (e:Bool->A2->Prop):(aK U5 rm 7 [.agg ⟨[.int .u8 g,.int .u8 x1,.int .u8 h]⟩,.slice p m c] w e)=(
 aN w ⟨[.int .u8 g,.int .u8 x1,.int .u8 h]⟩ 22 λb a=>(true=true/\(0:Int)<=1/\1<(↑3:Int))/\aj a none (ad (af b) 1) (.one (.int .u8)) λ(x:Int)=>(true=true/\(0:Int)<=0/\0<(↑3:Int))/\aj a none (ad (af b) 0) (.one (.int .u8)) λ(k:Int)=>(true=true/\(0:Int)<=2/\2<(↑3:Int))/\aj a none (ad (af b) 2) (.one (.int .u8)) λ(l:Int)=>aA AB 15 (.bu [.one .ptr,.one .bool]) [aa (aJ .i64 20 (eZ (aF .i64 k) 60)),aa (aJ .i64 1 (eZ (aF .i64 x) 8)),aa (aJ .i64 1 (eZ (aF .i64
 l) 8))] a λf a=>aI (!f.2.1) (au a (e false)) (∃(I:Nat->Int×Unit->A2->Prop),(∃n, ∀w1,Ext a w1->I n (0,()) w1)/\ ∀(n:Nat) (s:Int×Unit) (w1:A2),I n s w1->aI (decide (s.1<(↑m:Int))&&decide (s.1<300)) ((p.isSome=true/\0<=s.1/\s.1<(↑m:Int))/\aj w1 none (ad p (AC s.1*7)) (.agg [.int .i64,.bool,.int .i64,.int .i64,.int .u64,.int .u64,.int .u64]) λ(d:Int×Bool×Int×Int×Int×Int×Int×Unit)=>aA AB 16 (.bu []) [ag f.1,.agg {toList:=[aa d.1,.bool d.2.1,.int
 .i64 d.2.2.1,aa d.2.2.2.1,ay d.2.2.2.2.1,ay d.2.2.2.2.2.1,ay d.2.2.2.2.2.2.1]}] w1 λo a=>aA AB 47 (.el aT) [ag f.1,aa (aJ .i64 1 (eZ (aF .i64 x) 8))] a λ(x:Int) a=>aI (decide (x>=0)) (au a (e false)) (∀i,Ext a i-> ∃(j:Nat),j<n/\I j (aJ .i64 s.1 1,()) i)) (aA AB 46 (.el rE) [] w1 λx a=>au a (e x)))):=by kernel_rfl
theorem acw {x:Int} (h:(Lit.int .u8 x).wf=true):0<=x/\x<256:=by
 simp[Lit.wf,B1,B2,B3,B4] at h;omega
theorem YT {x:Int} (h:(Lit.int .u64 x).wf=true):cL x:=by
 simp[Lit.wf,B1,B2,B3,B4] at h;unfold cL;omega
theorem acx {x:Int} (h:(Lit.int .i64 x).wf=true):x<9223372036854775808:=by
 simp[Lit.wf,B1,B2,B3,B4] at h;omega
theorem acy {x d:Int} (h:0<=x/\x<256):eZ (aF .i64 x) d=x % d:=by
 rw[bL (by omega)];unfold eZ;exact Int.tmod_eq_emod_of_nonneg h.1
theorem Oo {x:Int} (h:(Lit.int .u8 x).wf=true) (a d:Nat) (b:0<d/\d<=1000) (c:a<=1000):aJ .i64 (a:Int) (eZ (aF .i64 x) (d:Int))=((a+x.toNat % d:Nat):Int):=by
 have h:=acw h;have:(((x.toNat % d:Nat)):Int)=x % (d:Int):=by rw[Int.natCast_emod,Int.toNat_of_nonneg h.1]
 have e:x.toNat % d<d:=AG _ b.1;rw[acy h, <-this,ax (by omega) (by omega)];omega
theorem Xp {o:gY WM} (h:iX WM o):aaI o:=⟨acx h.2.2.1,YT h.2.2.2.2.1,YT h.2.2.2.2.2.1,YT h.2.2.2.2.2.2.1⟩
section
variable {Q:Sys} {X:HX} {D G:List Nat} {w0 w w1:A2} {R:MR} {s:MS} {T L:List (Nat×List Value)} {M:List (Nat×Obj)} {n k:Nat}
theorem MU.op (H:MU Q X [] [] w0 w R s T L M) {e:El} {p:Option Addr} {xs:List e.T} (a:Sl w0 e p xs) {i:Nat} {x:e.T} (hi:xs[i]? =some x):p.isSome=true/\cI w (ad p (i*aD e)) e x:=(a.ext H.all) i x hi
theorem PN (H:MU Q X [] [] w0 w R s T L M):aA AB 46 (.el (.one .bool)) [] w λ(x:Bool) (a:A2)=>au a λ(w1:A2)=>x=true/\Ext w0 w1:=
 aA.val ((At.start [] w0).ext H.all) (s:= .el (.one .bool)) true (λb _=>Np b) λc H=>au.go H λd H=>⟨rfl,H.all⟩
theorem MU.ldl (H:MU Q X D G w0 w R s T L M) {g:Option Bool} {el:El} {K:el.T->Prop} {b o:Nat} {l:List Value} {x:el.T} (a:(b,l)∈L) (hv:kx l o el=some x) (k:K x):aj w g (some ⟨b,o,none⟩) el K:=by
 obtain⟨B,e,A,ca,la,h1,d,f,c⟩:=H;have:(b,l)∈T++(FE X B s++(gS B s (List.range s.cs.length)++(Fo Q X A ca la s.h++L))):=AH _ (AH _ (AH _ (AH _ a)));obtain⟨i,hi⟩:=List.getElem?_of_mem this;exact aj.at i c.base hi hv k
theorem Wi {c:Nat} {x:bW} (a:s.cs[c]? =some x):Fp s (c:Int)=x.ph:=by
 unfold Fp;rw[ao (by omega),AF,a]
theorem MG.lc (a:MG Q n k s):s.cs.length=n:=by
 obtain⟨gh,ta,M⟩:=a.Ts;exact M.lc
end
theorem Ns (x:gY sX3) (J:iX sX3 x) (p:Option Addr) (m c:Nat) (xs:List (gY WM)) (hm:m=xs.length) (hmx:m<=maxLen) {w:A2} (S:Sl w (.agg WM) p xs) (T: ∀x∈xs,iX WM x) (q:gY sCl) (hq:iX sCl q):
 aC AB 12 (.el (.one .bool)) [.agg ⟨a7 _ x⟩,.slice p m c,.agg ⟨a7 _ q⟩] w (λb w'=>b=true/\Ext w w'):=by
 obtain⟨a,x1,r,u⟩:=x;obtain⟨e,g,h,l,u'⟩:=q;refine ai (C:=U5) (aQ:=uE) (Eq.mpr (Th a x1 r e g h l p m c w _) ?_);refine aN.go (At.start [] w) λz w2 H=>aN.go H λb w3 H=>⟨⟨rfl,by decide,by decide⟩,aj.at 1 H rfl (show _=some x1 from rfl) ⟨⟨rfl,by decide,by decide⟩,aj.at 1 H rfl (show _=some a from rfl) ?_⟩⟩;rw[show aJ .i64 20 (eZ (aF .i64 a) 60)= _ from Oo J.1 20 60 (by decide) (by decide),show aJ .i64 1 (eZ (aF .i64 x1) 8)= _ from Oo J.2.1 1 8 (by decide) (by decide)];have K:1<=1+x1.toNat % 8/\1+x1.toNat % 8<=8:=by have:=AG x1.toNat (show 0<8 by decide);omega
 have L:20<=20+a.toNat % 60/\20+a.toNat % 60<=4096:=by have:=AG a.toNat (show 0<60 by decide);omega
 generalize 1+x1.toNat % 8=n at K;generalize 20+a.toNat % 60=f at L;refine vt H f n 4 L K (by omega) λQ X R w4 H d=>an rfl ?_;refine⟨λi st A=> ∃(j:Nat) (s:MS),j<=m/\j<=100/\i=m - j/\st.1=(j:Int)/\MG Q n (2+j) s/\MU Q X [] [] w A R s [] [(b,[aa e,ay g,ay h,ay l]),(z,[.int .u8 a,.int .u8 x1,.int .u8 r])] [],⟨m,λA U=>⟨0, _,by omega,by omega,rfl,rfl,d,H.ext U⟩⟩,?_⟩;clear H d;rintro i ⟨B, _⟩ A ⟨j,s,hj,Ii,V,hi,d,H⟩;have hi:B=(j:Int):=hi;subst hi V;dsimp only;refine ab (λt=>?_) (λt=>PN H);have hjm:j<m/\j<100:=by
  simp only[Bool.and_eq_true,decide_eq_true_eq] at t;omega
 obtain⟨o,M⟩: ∃o,xs[j]? =some o:=⟨_,AT (by omega)⟩;have N:=H.op S M;have W:=Xp (T o (Ap M));refine⟨⟨N.1,by omega,by omega⟩,aj.of o (by rw[AF];exact N.2) (PM H d (by omega) o λw6 H=>?_)⟩;have d:=d.op' W;generalize opM s o=s at H d;have hlc:=d.lc;refine⟨λi2 st D=> ∃k:Nat,k<=n/\i2=n - k/\st.1=(k:Int)/\MU Q X [] [] w D R s [] [(b,[aa e,ay g,ay h,ay l]),(z,[.int .u8 a,.int .u8 x1,.int .u8 r])] [],⟨n,λD Y=>⟨0,by omega,rfl,rfl,H.ext Y⟩⟩,?_⟩;clear H;rintro i2 ⟨B, _⟩ D ⟨k,hk,Z,hi,H⟩;have hi:B=(k:Int):=hi;subst hi Z;dsimp only;refine ab (λt=>?_) (λt E F=>⟨m - (j+1),by omega,j+1,s,by omega,by omega,rfl,?_,d,H.ext F⟩)
 ·have XF:k<n:=by have:=of_decide_eq_true t;omega
  obtain⟨y,O⟩: ∃y,s.cs[k]? =some y:=⟨_,AT (by omega)⟩;have FD:=Wi O;have next: ∀v,MU Q X [] [] w v R s [] [(b,[aa e,ay g,ay h,ay l]),(z,[.int .u8 a,.int .u8 x1,.int .u8 r])] []-> ∃P,P<n - k/\ ∃G:Nat,G<=n/\P=n - G/\aJ .i64 (k:Int) 1=(G:Int)/\MU Q X [] [] w v R s [] [(b,[aa e,ay g,ay h,ay l]),(z,[.int .u8 a,.int .u8 x1,.int .u8 r])] []:=λv H=>⟨n - (k+1),by omega,k+1,by omega,rfl,by rw[ax (by omega) (by omega)];omega,H⟩
  refine⟨_,tV H k,ab (λI=>λE F=>next E (H.ext F)) (λI=>?_)⟩;have hz:y.ph≠0:=by rw[FD] at I;simpa using I
  obtain⟨e1,e2⟩:=busy O hz 1 (e,g,h,l,());refine H.ldl Aq (show _=some (e,g,h,l,()) from rfl) (nO H k 1 e λE H=>?_);rw[e1];rw[e2] at H;refine⟨_,λ_=>tV H k,an (by simp) λv h9=>next v (H.ext h9)⟩
 ·rw[ax (by omega) (by omega)];omega
section
variable {Q:Sys} {X:HX} {D G:List Nat} {w0 w w1:A2} {R:MR} {s:MS} {T L:List (Nat×List Value)} {M:List (Nat×Obj)} {n k:Nat}
theorem Nt (H:MU Q X D G w0 w R s T L M) (v p:Int) {K:Int×Int×Int×Unit->A2->Prop} (k: ∀a,MU Q X D G w0 a R s T L M->K (fq s.h.g s.h.s v p) a):
 aA AB 81 (.bu [.one (.int .i64),.one (.int .i64),.one (.int .i64)]) [ag (af X.hb),aa v,aa p] w K:=by
 obtain⟨A,d,L0,S,b,c,J⟩:=H.sat;exact qn S b c v p λa S=>k a (J (T':=[]) S)
theorem Nu (H:MU Q X D G w0 w R s T L M) (o:MG Q n k s) (hk:k<=100000) {K:Int->A2->Prop} (kk: ∀p,MU Q X D G w0 p R s T L M->K (-1) p):
 aA AB 47 (.el (.one (.int .i64))) [ag (af R.mb),aa (n:Int)] w K:=by
 have hlc:=o.lc;have B:=o.bn hk;have Z5:n<=8:=by
  obtain⟨gh,ta,M⟩:=o.Ts;exact M.nn.2
 refine H.go λw1 H=>ai (C:=U5) (aQ:=rl) (Eq.mpr (Nq _ _ w1 K) ⟨_,ER H,an rfl (zU H λbp bf c rest p H=>?_)⟩);refine⟨λJ st t=> ∃j:Nat,j<=n/\J=n - j/\st.1=(j:Int)/\MU Q X D G w0 t R s ((bp,[.slice (af bf) s.h.s.2.length c])::(bf,flat eD s.h.s.2++rest)::T) L M,⟨n,λt u=>⟨0,Nat.zero_le _,rfl,rfl,H.ext u⟩⟩,?_⟩;clear H;rintro J ⟨v, _⟩ t ⟨j,hj,qy,hi,H⟩;have hi:v=(j:Int):=hi;subst hi qy;dsimp only;refine ab (λe=>?_) (λe=>H.en λN H=>kk N (H.sub (.cons _ (B5 _ _))));have hj:j<n:=by have:=of_decide_eq_true e;omega
 obtain⟨x,z⟩: ∃x,s.cs[j]? =some x:=⟨_,AT (by omega)⟩;have hln:WL s (j:Int)=x.ls:=by unfold WL;rw[ao (by omega),AF,z]
 have hll:=B.ls x (Ap z);have gW:=B.sz;refine vr H B.sz B.ls j λr O N A H=>?_;rw[hln] at A;have hr:=A.1;refine⟨λP st E=> ∃i:Nat,i<=x.ls.length/\P=x.ls.length - i/\st.1=(i:Int)/\MU Q X D G w0 E R s (O++((bp,[.slice (af bf) s.h.s.2.length c])::(bf,flat eD s.h.s.2++rest)::T)) L M,⟨x.ls.length,λE h5=>⟨0,Nat.zero_le _,rfl,rfl,H.ext h5⟩⟩,?_⟩;clear H;rintro P ⟨v, _⟩ E ⟨i,xW,xh,F,H⟩;have F:v=(i:Int):=F;subst F xh;dsimp only;refine ab (λe=>?_) (λe w6 h6=>⟨n - (j+1),by omega,j+1,by omega,rfl,by rw[ax (by omega) (by omega)];omega,(H.sub (List.sublist_append_right _ _)).ext h6⟩);have hi:i<x.ls.length:=by have:=of_decide_eq_true e;omega
 obtain⟨l,S⟩: ∃l,x.ls[i]? =some l:=⟨_,AT hi⟩;have hb: ∀{w w':A2},Ext w w'->r.1.isSome=true/\cI w (ad r.1 (i*4)) jQ l->cI w' (ad r.1 (i*4)) jQ l:=λh a=>pk h a.2;have I: ∀{w},MU Q X D G w0 w R s (O++((bp,[.slice (af bf) s.h.s.2.length c])::(bf,flat eD s.h.s.2++rest)::T)) L M->r.1.isSome=true/\cI w (ad r.1 (i*4)) jQ l:=λH=>H.sl A (λy hy=>List.mem_append_left _ hy) S;obtain⟨a1,a2⟩:=I H;have f:(ad r.1 (i*4)).isSome=true:=Ko a1 _;have g:r.1.isSome=true/\(0:Int)<=(i:Int)/\(i:Int)<(r.2.1:Int):=⟨a1,by omega,by omega⟩;rw[AF];obtain⟨lr,m,d,U,V,acz,hq⟩:=clean o.Ts z (Ap S);have hm:=(List.getElem?_eq_some_iff.1 V).1;have Wk:oH s.h.s.2 l.2.2.1=d:=by
  rw[U];unfold oH;rw[ao (by omega),AF,BO,V];rfl
 have uF:xk s.h.s.2 l.2.2.1=true:=by
  rw[U];unfold xk;rw[decide_eq_false (by omega)];rfl
 refine⟨g,f,aj.of l.2.2.1 (pq a2 (by decide) rfl) ⟨_,abG H (AH _ Aq) (AH _ (List.mem_cons_of_mem _ Aq)) l.2.2.1,H.al λb w6 H=>H.st 0 rfl rfl rfl λw7 H=>?_⟩⟩;dsimp only at H ⊢;rw[Wk] at H;rw[uF];refine⟨λ_=>rfl,H.cA 0 rfl (show _=some d.1 from rfl) ⟨λ_=>rfl,H.cA 0 rfl (show _=some d.1 from rfl) (an ?_ ?_)⟩⟩
 ·rcases acz with h|h<;>rw[h]<;>rfl
 have H:=H.sub (B5 _ _);obtain⟨_,W⟩:=I H;refine⟨g,f,aj.of l.1 (pq W (by decide) rfl) ⟨g,f,aj.of l.2.1 (pq W (by decide) rfl) (Nt H l.1 l.2.1 λw8 H=>⟨_,JO H B.bn j,λ_=>g,λ_=>f,?_⟩)⟩⟩;obtain⟨_,Y⟩:=I H;refine aj.of l.2.2.1 (pq Y (by decide) rfl) ⟨λ_=>g,λ_=>f,aj.of l.2.2.2.1 (pq Y (by decide) rfl) (an ?_ λw9 h9=>⟨x.ls.length - (i+1),by omega,i+1,by omega,rfl,by rw[ax (by omega) (by omega)];omega,H.ext h9⟩)⟩;have hbn:=B.bn;unfold On;rw[av (by omega),AF];obtain⟨q,Z⟩: ∃q,s.bx[j]? =some q:=⟨_,AT (by omega)⟩;rw[BO,Z];cases q with
 |cons y q=>rfl
 |nil=>
  obtain⟨_,h2,u⟩:=hq Z;rw[V3 h2,u];simp
end
theorem H_ (x:gY sX3) (g:iX sX3 x) (p:Option Addr) (m c:Nat) (xs:List (gY WM)) (I:m=xs.length) (J:m<=maxLen) {w:A2} (y:Sl w (.agg WM) p xs) (z: ∀x∈xs,iX WM x):
 aC AB 7 (.el (.one .bool)) [.agg ⟨a7 _ x⟩,.slice p m c] w (λb w'=>b=true/\Ext w w'):=by
 obtain⟨d,x1,e,u⟩:=x;refine ai (C:=U5) (aQ:=rm) (Eq.mpr (Nr d x1 e p m c w _) ?_);refine aN.go (At.start [] w) λA K H=>⟨⟨rfl,by decide,by decide⟩,aj.at 0 H rfl (show _=some x1 from rfl) ⟨⟨rfl,by decide,by decide⟩,aj.at 0 H rfl (show _=some d from rfl) ⟨⟨rfl,by decide,by decide⟩,aj.at 0 H rfl (show _=some e from rfl) ?_⟩⟩⟩;rw[show aJ .i64 20 (eZ (aF .i64 d) 60)= _ from Oo g.1 20 60 (by decide) (by decide),show aJ .i64 1 (eZ (aF .i64 x1) 8)= _ from Oo g.2.1 1 8 (by decide) (by decide),show aJ .i64 1 (eZ (aF .i64 e) 8)= _ from Oo g.2.2.1 1 8 (by decide) (by decide)];have k:1<=1+x1.toNat % 8/\1+x1.toNat % 8<=8:=by have:=AG x1.toNat (show 0<8 by decide);omega
 have l:1<=((1+e.toNat % 8:Nat):Int)/\((1+e.toNat % 8:Nat):Int)<=64:=by have:=AG e.toNat (show 0<8 by decide);omega
 have q:20<=20+d.toNat % 60/\20+d.toNat % 60<=4096:=by have:=AG d.toNat (show 0<60 by decide);omega
 generalize 1+x1.toNat % 8=n at k;generalize ((1+e.toNat % 8:Nat):Int)=ln at l;generalize 20+d.toNat % 60=f at q;refine vt H f n ln q k l λQ X R L H a=>an rfl ?_;refine⟨λi st h=> ∃(j:Nat) (s:MS),j<=m/\j<=300/\i=m - j/\st.1=(j:Int)/\MG Q n (2+j) s/\MU Q X [] [] w h R s [] [(A,[.int .u8 d,.int .u8 x1,.int .u8 e])] [],⟨m,λh B=>⟨0, _,by omega,by omega,rfl,rfl,a,H.ext B⟩⟩,?_⟩;clear H a;rintro i ⟨D, _⟩ h ⟨j,s,M,N,E,hi,a,H⟩;have hi:D=(j:Int):=hi;subst hi E;dsimp only;refine ab (λr=>?_) (λr=>PN H);have O:j<m/\j<300:=by
  simp only[Bool.and_eq_true,decide_eq_true_eq] at r;omega
 obtain⟨o,t⟩: ∃o,xs[j]? =some o:=⟨_,AT (by omega)⟩;have v:=H.op y t;have F:=Xp (z o (Ap t));refine⟨⟨v.1,by omega,by omega⟩,aj.of o (by rw[AF];exact v.2) (PM H a (by omega) o λP H=>?_)⟩;have a:=a.op' F;generalize opM s o=s at H a;exact Nu H a (by omega) λS H=>an rfl λT G=>⟨m - (j+1),by omega,j+1,s,by omega,by omega,rfl,by rw[ax (by omega) (by omega)];omega,a,H.ext G⟩
end Go.Proofs.YtlcenllcmeebhaaGreat.Mu
