import Derived.Test.YtlcenllcmeebhaaGreatPBG
/-! What the statement leans on: texts joined and shortened by a program of mine. -/
set_option linter.unusedVariables false
set_option linter.unusedSimpArgs false
open Go renaming World->A1,Addr->AM,Value->AP
open Go.Proofs.Tryz renaming prog->A2
open Int renaming toNat->AC,toNat_natCast->AL
open List renaming getElem?_eq_getElem->AY,mem_of_getElem?->Ap,range->Ar,mem_cons_self->B1,sublist_cons_self->B3,length_map->B5,mem_append_right->Be,nil_sublist->Bx,length_range->CB,mem_append_left->CD,mem_cons_of_mem->CF,getD_eq_getElem?_getD->Cf,getElem?_of_mem->DF,getElem?_eq_some_iff->DL
open Go.IntKind renaming i64->Am,min->Cp,max->DA,bits->DB,signed->DD
open Nat renaming mod_lt->Az,zero_le->B4
open Bool renaming and_eq_true->B2
namespace Go.Proofs.YtlcenllcmeebhaaGreat.Mu
set_option maxRecDepth 100000
open Go.RX D
abbrev YL:Type:=Int×Bool×Int×Int×Int×Int×Int×Unit
def opM (s:MS) (o:YL):MS:=if o.2.1=true then eB s o.1 o.2.2.1 (o.2.2.2.1,o.2.2.2.2.1,o.2.2.2.2.2.1,o.2.2.2.2.2.2.1,()) else(aX s o.1).1
def abc (o:YL):Prop:=o.2.2.1<9223372036854775808/\cJ o.2.2.2.2.1/\cJ o.2.2.2.2.2.1/\cJ o.2.2.2.2.2.2.1
section
variable {Q:Sys} {X:HX} {D G:List Nat} {w0 w w1:A1} {R:MR} {s:MS} {T L:List (Nat×List AP)} {M:List (Nat×Obj)} {n k:Nat}
theorem MG.op' (H:MG Q n k s) {o:YL} (a:abc o):MG Q n (k+1) (opM s o):=by
 unfold opM;split
 ·exact(H.ask _ _ a.1 a.2).mono (by omega)
 ·exact H.step _
theorem MU.dj (H:MU Q X D G w0 w R s T L M) {x:Nat×List AP} (a:x∈T):bK w x.1 x.2:=by
 obtain⟨L0,K,h⟩:=H.base;exact K.dj _ (h x a)
theorem kR (H:MU Q X D G w0 w R s T L M) (a:MG Q n k s) (b:k<=100000) (c:Int) {K:Cs->A1->Prop}
 (kk: ∀d,MU Q X D G w0 d R (aX s c).1 T L M->K (((aX s c).2.1.1,(aX s c).2.1.2,()),(aX s c).2.2,()) d):
 az A2 31 Oq [ag (af R.mb),aa c] w K:=
 TA H (a.bn b) a.rdy (λ_ _ e=>a.sx b e) c kk
theorem acb {f n:Nat} {l:Int} {j:Nat} {s:MS} (B:Bg f n l j s) (a:j<16) (b:j<f) (c:1<=n):(aX (eB s 0 0 xz) 0).2=((((j+1:Nat):Int),0),true)/\Bg f n l (j+1) (aX (eB s 0 0 xz) 0).1/\tD s 0=0:=B.D6 a b c
theorem vL (H:aM D G w0 w L) (f c:Nat) (l:Int) (p:20<=f/\f<=4096) (hc:1<=c/\c<=8) (a:1<=l/\l<=64) {K:Option AM×Bool×Unit->A1->Prop}
 (q: ∀Q X R w1,MU Q X D G w0 w1 R (D7 f c l) [] L []->MG Q c 2 (D7 f c l)->K (some ⟨R.mb,0,none⟩,true,()) w1):
 az A2 15 (.bu [.one .ptr,.one .bool]) [aa (f:Int),aa (c:Int),aa l] w K:=by
 refine az.go H λw1 H=>ai (C:=U4) (aR:=rE) (Eq.mpr (NM _ _ l w1 K) ?_);refine xY H _ _ l (by omega) a (λh=>by omega) λ_ _ Q X R F g H=>an rfl ?_;rw[AL,AL] at H;rw[AL] at g;have hb:D7 f c l=(aX (eB (aX (eB (m0 f c l) 0 0 xz) 0).1 0 0 xz) 0).1:=rfl;refine⟨λn st d=> ∃(j:Nat) (s:MS),j<=2/\n=2 - j/\st.1=(j:Int)/\Bg f c l j s/\(j=0->s=m0 f c l)/\(j=1->s=(aX (eB (m0 f c l) 0 0 xz) 0).1)/\(j=2->s=D7 f c l)/\MG Q c j s/\MU Q X D G w0 d R s [] L [],⟨2,λd r=>⟨0,m0 f c l,by omega,rfl,rfl,Bg.new p hc a,λ_=>rfl,λh=>(by cases h),λh=>(by cases h),MG.new (by omega) hc a g,H.ext r⟩⟩,?_⟩;clear H;rintro n ⟨t, _⟩ d ⟨j,s,I,u,hi,v,x,y,i,k,H⟩;have hi:t=(j:Int):=hi;subst hi u;dsimp only;refine ab (λe=>?_) (λe=>?_)
 ·have J:j<2:=by have:=of_decide_eq_true e;omega
  obtain⟨z,A,B⟩:=acb v (by omega) (by omega) hc.1;have m:MG Q c j (eB s 0 0 xz):=k.ask 0 0 (by decide) ⟨⟨by decide,by decide⟩,⟨by decide,by decide⟩,⟨by decide,by decide⟩⟩;refine qm H 0 0 1 λo H=>?_;rw[B];refine an rfl (kR H m (by omega) 0 λM H=>?_);rw[z];refine H.al λb N H=>H.st 0 rfl rfl rfl λO H=>⟨λ_=>rfl,H.cx 0 rfl (show _=some ((j+1:Nat):Int) from rfl) (an ?_ λP E=>⟨2 - (j+1),by omega,j+1,(aX (eB s 0 0 xz) 0).1,by omega,rfl,?_,A,λh=>(by omega),λh=>?_,λh=>?_,m.step 0,(MU.sub H (Bx _)).ext E⟩)⟩
  ·have:j=0\/j=1:=by omega
   rcases this with rfl|rfl<;>decide
  ·rw[aw (by omega) (by omega)];omega
  ·rw[x (by omega)]
  ·rw[hb,y (by omega)]
 ·have:j=2:=by have:=of_decide_eq_false e;omega
  subst this;refine H.en λo H=>q Q X R o (by rw[<-i rfl];exact H) (by rw[<-i rfl];exact k)
theorem Qd (H:MU Q X D G w0 w R s T L M) (f:MG Q n k s) (g:k<=100000) (o:YL) {K:Unit->A1->Prop} (kk: ∀d,MU Q X D G w0 d R (opM s o) T L M->K () d):
 az A2 16 (.bu []) [ag (af R.mb),.agg ⟨[aa o.1,.bool o.2.1,aa o.2.2.1,aa o.2.2.2.1,ay o.2.2.2.2.1,ay o.2.2.2.2.2.1,ay o.2.2.2.2.2.2.1]⟩] w K:=by
 obtain⟨a,b,v,q,x,y,z,⟨⟩⟩:=o;refine H.go λw1 H=>ai (C:=U4) (aR:=λ_=>[]) (Eq.mpr (aaA _ a b v q x y z w1 K) (H.al λi d H=>⟨rfl,H.cx 0 rfl (show _=some b from rfl) ?_⟩));unfold opM at kk;dsimp only at kk;refine ab (λc=>?_) (λc=>?_)
 ·rw[av c] at kk;refine⟨rfl,H.cx 0 rfl (show _=some a from rfl) ⟨rfl,H.cx 0 rfl (show _=some v from rfl) ⟨rfl,H.cx 0 rfl (show _=some (q,x,y,z,()) from rfl) (qm H a v q λh H=>H.en λe H=>kk e (H.sub (B3 _ _)))⟩⟩⟩
 ·rw[ao (by rw[c];decide)] at kk;exact⟨rfl,H.cx 0 rfl (show _=some a from rfl) (kR H f g a λh H=>H.en λe H=>kk e (H.sub (B3 _ _)))⟩
theorem MG.run: ∀(l:List Nat) {k:Nat} {s:MS},MG Q n k s->MG Q n (k+l.length) (iT s l)
 |[], _, _,h=>h
 |c::l,k,s,h=>by
  have:=MG.run l (h.step (c:Int));rw[List.length_cons,show k+(l.length+1)=k+1+l.length by omega];exact this
theorem MG.On (H:MG Q n k s) (m:Nat): ∀r,MG Q n (k+r*m) (fU m r s)
 |0=>by rw[Nat.zero_mul];exact H
 |r+1=>by
  have:=MG.run (Ar m) (MG.On H m r);rw[CB] at this;rw[Nat.succ_mul, <-Nat.add_assoc];exact this
theorem TB {m j:Nat} (s:MS) (h:j<m):iT s ((Ar m).take (j+1))=(aX (iT s ((Ar m).take j)) (j:Int)).1:=by
 unfold iT;rw[List.take_add_one,List.getElem?_range h,List.foldl_append];rfl
theorem vM (H:MU Q X D G w0 w R s T L M) (o:MG Q n k s) (m r:Nat) (B:k+r*m<=100000) (E:m<=1000) (F:r<=1000) {K:Unit->A1->Prop} (kk: ∀a,MU Q X D G w0 a R (fU m r s) T L M->K () a):
 az A2 48 (.bu []) [ag (af R.mb),aa (m:Int),aa (r:Int)] w K:=by
 refine H.go λw1 H=>ai (C:=U4) (aR:=rF) (Eq.mpr (NO _ _ _ w1 K) ?_);refine⟨λg st a=> ∃j:Nat,j<=r/\g=r - j/\st.1=(j:Int)/\MU Q X D G w0 a R (fU m j s) T L M,⟨r,λa p=>⟨0,B4 _,rfl,rfl,H.ext p⟩⟩,?_⟩;clear H;rintro g ⟨d, _⟩ a ⟨j,q,t,hi,H⟩;have hi:d=(j:Int):=hi;subst hi t;dsimp only;refine ab (λc=>?_) (λc=>?_)
 ·have q:j<r:=by have:=of_decide_eq_true c;omega
  have u:=o.On m j;have I:j*m+m<=r*m:=by
   have:=Nat.mul_le_mul_right m (show j+1<=r by omega);rw[Nat.succ_mul] at this;exact this
  refine⟨λh st b=> ∃i:Nat,i<=m/\h=m - i/\st.1=(i:Int)/\MU Q X D G w0 b R (iT (fU m j s) ((Ar m).take i)) T L M,⟨m,λb v=>⟨0,B4 _,rfl,rfl,H.ext v⟩⟩,?_⟩;clear H;rintro h ⟨d, _⟩ b ⟨i,J,x,f,H⟩;have f:d=(i:Int):=f;subst f x;dsimp only;refine ab (λc=>?_) (λc=>?_)
  ·have hi:i<m:=by have:=of_decide_eq_true c;omega
   have l:=MG.run ((Ar m).take i) u;rw[List.length_take,CB] at l;refine kR H l (by omega) (i:Int) λy H N z=>⟨m - (i+1),by omega,i+1,by omega,rfl,?_,?_⟩
   ·rw[aw (by omega) (by omega)];omega
   ·rw[TB _ hi];exact H.ext z
  ·have:i=m:=by have:=of_decide_eq_false c;omega
   subst this;refine λy A=>⟨r - (j+1),by omega,j+1,by omega,rfl,?_,?_⟩
   ·rw[aw (by omega) (by omega)];omega
   ·have e:(Ar i).take i=Ar i:=List.take_of_length_le (by rw[CB];exact Nat.le_refl _);rw[e] at H;exact H.ext A
 ·have:j=r:=by have:=of_decide_eq_false c;omega
  subst this;exact H.en λb H=>kk b H
theorem sV (H:MU Q X D G w0 w R s T L M) {K:Option AM->A1->Prop} (k: ∀bp bf c rest a,MU Q X D G w0 a R s ((bp,[.slice (af bf) s.h.s.2.length c])::(bf,flat eD s.h.s.2++rest)::T) L M->K (af bp) a):
 az A2 18 (.el (.one .ptr)) [ag (af X.hb)] w K:=by
 obtain⟨A,i,L0,S,b, _,J⟩:=H.sat;exact z5 S b λd e f g a S=>k d e f g a (J (T':=[_, _]) S)
theorem Cc (H:MU Q X D G w0 w R s T L M) {bp bf c:Nat} {ds:List DT} {rest:List AP} (h1:(bp,[.slice (af bf) ds.length c])∈T) (b:(bf,flat eD ds++rest)∈T) (v:Int) (d:ds.length<=4096) {K:Int->A1->Prop} (k: ∀a,MU Q X D G w0 a R s T L M->K (cd ds v:Int) a):
 az A2 30 (.el (.one (.int .i64))) [ag (af bp),aa v] w K:=by
 refine H.go λw1 H=>(EL (H.dj h1) (H.dj b) rfl d v).mono λx a ⟨e,h⟩=>?_;subst e;exact k a (H.ext h)
theorem acd (H:MU Q X D G w0 w R s T L M) {bp bf c:Nat} {ds:List DT} {rest:List AP} (h1:(bp,[.slice (af bf) ds.length c])∈T) (a:(bf,flat eD ds++rest)∈T) (f:Int):ae A2 25 [ag (af bp),aa f] w ((Sh.bu [eD,.one .bool]).gO (oV ds f,xR ds f,())):=
 ae.of λw' h'=>G4 ((H.dj h1).ext h') ((H.dj a).ext h') f
end
section
variable {Q:Sys} {X:HX} {D G:List Nat} {w0 w w1:A1} {R:MR} {s:MS} {T L:List (Nat×List AP)} {M:List (Nat×Obj)} {n k:Nat}
theorem MU.ldm (H:MU Q X D G w0 w R s T L M) {g:Option Bool} {el:El} {K:el.T->Prop} {b o:Nat} {l:List AP} {x:el.T} (a:(b,l)∈T) (hv:k9 l o el=some x) (k:K x):aj w g (some ⟨b,o,none⟩) el K:=by
 obtain⟨i,hi⟩:=DF a;exact H.ld i hi hv k
theorem MU.sl (H:MU Q X D G w0 w R s T L M) {e:El} {r:Option AM×Nat×Nat} {xs:List e.T} {a:List (Nat×List AP)} (b:dx e r xs a) (c: ∀x∈a,x∈T) {i:Nat} {x:e.T} (d:xs[i]? =some x):r.1.isSome=true/\cC w (ad r.1 (i*aF e)) e x:=by
 obtain⟨L0,K,h⟩:=H.base;exact b.sl K (λy f=>h y (c y f)) i x d
theorem TC {f c l:Int} (d:4<=f/\f<=4096) (e:1<=l/\l<=64) (hc:c<1\/c>8) {K:Option AM×Int×Unit->A1->Prop} (k: ∀w1,Ext w w1->K (none,1,()) w1):
 az A2 52 (.bu [.one .ptr,.one (.int .i64)]) [aa f,aa c,aa l] w K:=λw1 h1=>
 xY (At.start [] w1) f c l d e (λ_ g H=>k g (Ext.trans h1 H.all)) (λa b=>by omega) w1 (Ext.refl w1)
theorem WR: ∃(c sA e f:MS) (sD:Nat->MS) (g sF sG d a b:MS),c=D7 30 2 4/\(sA=eB c 0 1 (3,5,3,0,())/\e=(aX sA 0).1/\f=eB e 1 1 (7,81,7,0,())/\sD 0=f/\(∀j,sD (j+1)=(aX (sD j) 1).1)/\g=eB (sD 6) 0 1 (4,5,0,0,())/\sF=(aX g 0).1/\sG=(aX sF 0).1/\d=(aX sG 1).1/\a=(aX d 0).1/\b=fU 2 3 a)/\
 (tD c 0=0/\tD sA 0=9/\(aX sA 0).2=((2,0),true)/\(∀j,j<6->DO (sD j) 1≠0)/\DO (sD 6) 1=0)/\
 ((aX sF 0).2.2=false/\GK sG 1=1/\(TS sG 1).length=1/\(aX d 0).2=((2,0),true)/\a.ep.ws.length=4/\a.ms.length=5/\a.ms[3]? =some (4,0,33,(0,0,0,0,()),7,0)/\TS b 1=[]/\b.ep.ws=[]/\cd b.h.s.2 5=0/\DO b 2=0):=by
 have t1:=WO;unfold aba at t1;simp only[B2,beq_iff_eq,bne_iff_ne,ne_eq] at t1;obtain⟨a1,i,k,l,p1,p2,p3,p4,m,n⟩:=t1;have t2:=WQ;unfold abb at t2;simp only[B2,beq_iff_eq] at t2;refine⟨_,kA,kB,kC,kD,kE,kF,kG,kH,kI',kJ,rfl,⟨rfl,rfl,rfl,rfl,λ_=>rfl,rfl,rfl,rfl,rfl,rfl,rfl⟩,⟨a1,i,k,λj o=>?_,n⟩,t2⟩;have:j=0\/j=1\/j=2\/j=3\/j=4\/j=5:=by omega
 rcases this with rfl|rfl|rfl|rfl|rfl|rfl
 ·exact l
 ·exact p1
 ·exact p2
 ·exact p3
 ·exact p4
 ·exact m
theorem TD {s:MS} {c:Int} (h0: ¬ c<0) (h:tD s c≠0) (vm:Int) (ct:CT):eB s c vm ct=s:=by
 unfold eB;unfold tD at h;rw[ao h0] at h ⊢;cases a:s.cs[c.toNat]? with
 |none=>rfl
 |some x=>
  rw[a] at h;dsimp only at h ⊢;rw[ao λc=>h (av c)]
theorem NQ (w:A1):aE A2 46 (.el (.one .bool)) [] w (λb w'=>b=true/\Ext w w'):=by
 obtain⟨s0,sA,P,S,sD,T,sF,sG,U,V,W,h0,⟨o,p,q,r,s,t,u,v,y,z,A⟩,⟨a1,B,Y,Z,p6⟩,c1,c2,c3,c4,c5,c6,c7,c8,c9,YI,c11⟩:=WR;have d: ∀{a:Int},decide (0<=a/\a<18446744073709551616)=true->cJ a:=λh=>of_decide_eq_true h;refine ai (C:=U4) (aR:=rG) (Eq.mpr (NP w _) ?_);refine vL (At.start [] w) 30 2 4 (by omega) (by omega) (by omega) λQ X R w1 H D=>TC (by omega) (by omega) (by omega) λw2 h2=>?_;have H:=H.ext h2;rw[<-h0] at H D;clear h0;refine an rfl ?_;have GA:MG Q 2 2 sA:=by rw[o];exact D.ask 0 1 (by decide) ⟨d rfl,d rfl,d rfl⟩
 have GB:MG Q 2 3 P:=by rw[p];exact GA.step 0
 have GC:MG Q 2 3 S:=by rw[q];exact GB.ask 1 1 (by decide) ⟨d rfl,d rfl,d rfl⟩
 have E: ∀j:Nat,MG Q 2 (3+j) (sD j):=λj=>by
  induction j with
  |zero=>rw[r];exact GC
  |succ j ih=>rw[s];exact ih.step 1
 have GE:MG Q 2 9 T:=by rw[t];exact(E 6).ask 0 1 (by decide) ⟨d rfl,d rfl,d rfl⟩
 have F:MG Q 2 10 sF:=by rw[u];exact GE.step 0
 have f:MG Q 2 11 sG:=by rw[v];exact F.step 0
 have G:MG Q 2 12 U:=by rw[y];exact f.step 1
 have g:MG Q 2 13 V:=by rw[z];exact G.step 0
 have k:MG Q 2 19 W:=by rw[A];exact g.On 2 3
 refine qm H 0 1 3 λw3 H=>?_;rw[a1];rw[<-o] at H;refine qm H 0 1 15 λw4 H=>?_;rw[B];rw[TD (by decide) (by rw[B];decide)] at H;refine kR H GA (by decide) 0 λw5 H=>?_;rw[Y];rw[<-p] at H;refine H.al λb w6 H=>H.st 0 rfl rfl rfl λw7 H=>qm H 1 1 7 λw8 H=>?_;rw[<-q, <-r] at H;refine⟨λn st l=> ∃j:Nat,j<=6/\n=6 - j/\st.1=(j:Int)/\MU Q X [] [] w l R (sD j) [(b,[ay 2,aa 0])] [] [],⟨6,λl h9=>⟨0,by omega,rfl,rfl,H.ext h9⟩⟩,?_⟩;clear H;rintro n ⟨ii, _⟩ l ⟨j,hj,qK,hi,H⟩;have hi:ii=(j:Int):=hi;subst hi qK;dsimp only;refine⟨_,λ_=>zH H 1,ab (λc=>?_) (λc=>?_)⟩
 ·have hj6:j<6:=by
   by_cases e:j=6
   ·subst e;rw[p6] at c;simp at c
   ·omega
  refine kR H (E j) (by omega) 1 λl4 H og FN=>⟨6 - (j+1),by omega,j+1,by omega,rfl,?_,?_⟩
  ·rw[aw (by omega) (by omega)];omega
  ·rw[s];exact H.ext FN
 ·have:j=6:=by
   by_cases e:j=6
   ·exact e
   ·have h6:=Z j (by omega);have:(decide ((j:Int)<9)&&DO (sD j) 1 != 0)=true:=by
     rw[B2,decide_eq_true_eq,bne_iff_ne];exact⟨by omega,h6⟩
    rw[this] at c;cases c
  subst this;refine qm H 0 1 4 λl4 H=>?_;rw[<-t] at H;refine kR H GE (by decide) 0 λog H=>?_;rw[<-u] at H;refine kR H F (by decide) 0 λDI H=>?_;rw[<-v] at H;refine H.al λI Oi H=>H.st 0 rfl rfl rfl λNW H=>⟨_,Dj H (f.bn (by decide)).bn 1,?_⟩;rw[c2];refine qH H (f.bn (by decide)).sz (f.bn (by decide)).ls 1 λr11 J w15 ac1 H=>?_;have e11:r11.2.1=1:=by rw[ac1.1,c3]
  refine kR H f (by decide) 1 λYk H=>?_;rw[<-y] at H;refine kR H G (by decide) 0 λw17 H=>?_;rw[c4];rw[<-z] at H;refine H.al λm w18 H=>H.st 0 rfl rfl rfl λw19 H=>pZ H (g.bn (by decide)).ws λr14 K w20 ac2 H=>?_;have e14:r14.2.1=4:=by rw[ac2.1,iN,B5,c5]
  refine NL H (by rw[c6];decide) λr15 L w21 M H=>?_;have N:r15.2.1=5:=by rw[M.1,B5,c6]
  refine vM H g 2 3 (by decide) (by decide) (by decide) λw22 H=>?_;rw[<-A] at H;have Dw:(m,[ay 2,aa 0])∈L++(K++((m,[ay 2,aa 0])::(J++[(I,[ay (aX sF 0).2.1.1,aa (aX sF 0).2.1.2]),(b,[ay 2,aa 0])]))):=by simp
  have hb:(b,[ay 2,aa 0])∈L++(K++((m,[ay 2,aa 0])::(J++[(I,[ay (aX sF 0).2.1.1,aa (aX sF 0).2.1.2]),(b,[ay 2,aa 0])]))):=by simp
  refine H.ldm (x:=(2,0,())) hb rfl (aA ?_ ?_)
  ·dsimp only;rw[c1,e11];decide
  refine qH H (k.bn (by decide)).sz (k.bn (by decide)).ls 1 λr18 L18 w23 ac3 H=>?_;have e18:r18.2.1=0:=by rw[ac3.1,c8];rfl
  refine H.ldm (x:=(2,0,())) (Be _ Dw) rfl ?_;have O:=H.sl M (λx hx=>Be _ (CD _ hx)) (i:=3) (x:=YJ (4,0,33,(0,0,0,0,()),7,0)) (by rw[List.getElem?_map,c7];rfl);refine⟨λ_=>⟨O.1,by decide,by rw[N];decide⟩,aj.of _ O.2 (aA ?_ ?_)⟩
  ·dsimp only;rw[e18,e14,N];decide
  refine pZ H (k.bn (by decide)).ws λr21 L21 w24 ac4 H=>⟨_,λ_=>uo H,?_⟩;have e21:r21.2.1=0:=by rw[ac4.1,iN,B5,c9];rfl
  refine aA (by rw[e21];rfl) (sV H λbp bf c rest w25 H=>Cc H B1 (CF _ B1) 5 H.sys.2.2.1 λw26 H=>⟨_,λ_=>zH H 2,H.en λw27 H=>⟨?_,H.all⟩⟩);rw[YI,c11];rfl
end
noncomputable def U5:dJ A2:={U4 with quiet:=[25,19,21]++U4.quiet}
abbrev sX3:List Sc:=[.int .u8,.int .u8,.int .u8]
def WX:Nat->a6:=(λ|6=>[(10,Go.RX.El.one (Go.RX.Sc.int Am))]|10=>[(11,Go.RX.El.one (Go.RX.Sc.int Am))]| _=>[])
def rH:Nat->a6:=(λ|6=>[(7,Go.RX.El.one (Go.RX.Sc.int Am))]|10=>[(9,Go.RX.El.one (Go.RX.Sc.int Am))]| _=>[])
theorem NR (p:Option AM) (c:Int) (w:A1) (h:Int->A1->Prop):(aK U5 rH 47 [ag p,aa c] w h)=(
 ∃(x:Option AM),ae A2 17 [ag p] w (ag x)/\aI x.isNone (au w (h 0)) (az A2 18 (.el kM) [ag x] w λq e=> ∃(I:Nat->Int×Unit->A1->Prop),(∃n, ∀w1,Ext e w1->I n (0,()) w1)/\ ∀(n:Nat) (s:Int×Unit) (w1:A1),I n s w1->aI (decide (s.1<c)) (az A2 51 (.el eY) [ag p,aa s.1] w1 λd e=> ∃(l:Nat->Int×Unit->A1->Prop),(∃n, ∀w1,Ext e w1->l n (0,()) w1)/\ ∀(o:Nat) (a:Int×Unit) (w1:A1),l o a w1->aI (decide (a.1<(↑d.2.1:Int)))
 ((d.1.isSome=true/\0<=a.1/\a.1<(↑d.2.1:Int))/\(ad d.1 (AC a.1*4)).isSome=true/\aj w1 none (ad (ad d.1 (AC a.1*4)) 2) aS λ(r:Int)=> ∃(f:(Int×Int×Int×Int×Unit)×Bool×Unit),ae A2 25 [ag q,aa r] w1 (.tuple {toList:=[.agg ⟨[aa f.1.1,aa f.1.2.1,aa f.1.2.2.1,aa f.1.2.2.2.1]⟩,.bool f.2.1]})/\aN w1 ⟨[aa 0,aa 0,aa 0,aa 0]⟩ 52 λb e=>aC e (af b) [aa f.1.1,aa f.1.2.1,aa f.1.2.2.1,
 aa f.1.2.2.2.1] λe=>((!!f.2.1)=true->true=true)/\aj e (some !!f.2.1) (ad (af b) 0) aS λ(m:Int)=>((!!f.2.1&&m != 4)=true->true=true)/\aj e (some (!!f.2.1&&m != 4)) (ad (af b) 0) aS λ(t:Int)=>aI (!f.2.1||m != 4&&t != 5) (au e (h s.1)) ((d.1.isSome=true/\0<=a.1/\a.1<(↑d.2.1:Int))/\(ad d.1 (AC a.1*4)).isSome=true/\aj e none (ad (ad d.1 (AC a.1*4)) 0) aS λ(u:Int)=>(d.1.isSome=true/\0<=a.1/\a.1<(↑d.2.1:Int))/\(ad d.1
 (AC a.1*4)).isSome=true/\aj e none (ad (ad d.1 (AC a.1*4)) 1) aS λ(v:Int)=>az A2 81 (.bu [.one (.int .i64),.one (.int .i64),.one (.int .i64)]) [ag x,aa u,aa v] e λ(x:Int×Int×Int×Unit) e=> ∃(g:Int),ae A2 50 [ag p,aa s.1] e (aa g)/\((g==0&& !x.2.2.1 != 0)=true->d.1.isSome=true/\0<=a.1/\a.1<(↑d.2.1:Int))/\((g==0&& !x.2.2.1 != 0)=true->(ad d.1 (AC a.1*4)).isSome=true)/\aj e (some (g==0&& !x.2.2.1 != 0))
 (ad (ad d.1 (AC a.1*4)) 2) aS λ(k:Int)=>((g==0&& !(x.2.2.1 != 0||x.1 != k))=true->d.1.isSome=true/\0<=a.1/\a.1<(↑d.2.1:Int))/\((g==0&& !(x.2.2.1 != 0||x.1 != k))=true->(ad d.1 (AC a.1*4)).isSome=true)/\aj e (some (g==0&& !(x.2.2.1 != 0||x.1 != k))) (ad (ad d.1 (AC a.1*4)) 3) aS λ(y:Int)=>aI (g==0&&(x.2.2.1 != 0||x.1 != k||x.2.1 != y)) (au e (h s.1)) (∀i,Ext e i-> ∃(j:Nat),j<o/\l j (aH .i64 a.1 1,()) i))) (∀i,
 Ext w1 i-> ∃(j:Nat),j<n/\I j (aH .i64 s.1 1,()) i)) (au w1 (h (-1))))):=by kernel_rfl
def uV:Nat->a6:=(λ|6=>[(8,Go.RX.El.one (Go.RX.Sc.int Am))]|11=>[(9,Go.RX.El.one (Go.RX.Sc.int Am))]| _=>[])
theorem TE (i x1 j:Int) (p:Option AM) (m c:Nat) (w:A1) (e:Bool->A1->Prop):(aK U5 uV 8 [.agg ⟨[.int .u8 i,.int .u8 x1,.int .u8 j]⟩,.slice p m c] w e)=(
 aN w ⟨[.int .u8 i,.int .u8 x1,.int .u8 j]⟩ 22 λb a=>(true=true/\(0:Int)<=1/\1<(↑3:Int))/\aj a none (ad (af b) 1) (.one (.int .u8)) λ(x:Int)=>(true=true/\(0:Int)<=0/\0<(↑3:Int))/\aj a none (ad (af b) 0) (.one (.int .u8)) λ(l:Int)=>(true=true/\(0:Int)<=2/\2<(↑3:Int))/\aj a none (ad (af b) 2) (.one (.int .u8)) λ(o:Int)=>az A2 15 (.bu [.one .ptr,.one .bool]) [aa (aH .i64 20 (dX (aD .i64 l) 60)),aa (aH .i64 1 (dX (aD .i64 x) 8)),aa (aH .i64 1 (dX (aD .i64
 o) 8))] a λd a=>aI (!d.2.1) (au a (e false)) (∃(I:Nat->Int×Unit->A1->Prop),(∃n, ∀w1,Ext a w1->I n (0,()) w1)/\ ∀(n:Nat) (s:Int×Unit) (w1:A1),I n s w1->aI (decide (s.1<(↑m:Int))&&decide (s.1<300)) ((p.isSome=true/\0<=s.1/\s.1<(↑m:Int))/\aj w1 none (ad p (AC s.1*7)) (.agg [.int .i64,.bool,.int .i64,.int .i64,.int .u64,.int .u64,.int .u64]) λ(x:Int×Bool×Int×Int×Int×Int×Int×Unit)=>az A2 16 (.bu []) [ag d.1,.agg {toList:=[aa x.1,.bool x.2.1,.int .i64
 x.2.2.1,aa x.2.2.2.1,ay x.2.2.2.2.1,ay x.2.2.2.2.2.1,ay x.2.2.2.2.2.2.1]}] w1 λx a=> ∀f,Ext a f-> ∃(g:Nat),g<n/\I g (aH .i64 s.1 1,()) f) (az A2 48 (.bu []) [ag d.1,aa (aH .i64 1 (dX (aD .i64 x) 8)),aa 60] w1 λt a=> ∃(I:Nat->Int×Unit->A1->Prop),(∃n, ∀w1,Ext a w1->I n (0,()) w1)/\ ∀(n:Nat) (s:Int×Unit) (w1:A1),I n s w1->aI (decide (s.1<aH .i64 1 (dX (aD .i64 x) 8))) (∃(x:Int),ae A2 49 [ag d.1,aa s.1] w1
 (aa x)/\ ∃(h:Int),((!x != 0)=true->ae A2 50 [ag d.1,aa s.1] w1 (aa h))/\aI (x != 0||h != 0) (au w1 (e false)) (∀f,Ext w1 f-> ∃(g:Nat),g<n/\I g (aH .i64 s.1 1,()) f)) (az A2 32 (.el eY) [ag d.1] w1 λh a=> ∃(k:Option AM),(((↑h.2.1:Int)==0)=true->ae A2 17 [ag d.1] a (ag k))/\aI ((↑h.2.1:Int)==0) (az A2 18 (.el kM) [ag k] a λq a=>az A2 30 (.el aS) [ag q,aa 5] a λ(r:Int) a=>
 aI (r==0) (az A2 47 (.el aS) [ag d.1,aa (aH .i64 1 (dX (aD .i64 x) 8))] a λ(x:Int) a=>aI (decide (x<0)) (az A2 46 (.el qO) [] a λx a=>au a (e x)) (au a (e false))) (au a (e false))) (au a (e false)))))):=by kernel_rfl
theorem ac5 {x:Int} (h:(Lit.int .u8 x).wf=true):0<=x/\x<256:=by
 simp[Lit.wf,Cp,DA,DB,DD] at h;omega
theorem Zq {x:Int} (h:(Lit.int .u64 x).wf=true):cJ x:=by
 simp[Lit.wf,Cp,DA,DB,DD] at h;unfold cJ;omega
theorem ac6 {x:Int} (h:(Lit.int .i64 x).wf=true):x<9223372036854775808:=by
 simp[Lit.wf,Cp,DA,DB,DD] at h;omega
theorem ac7 {x d:Int} (h:0<=x/\x<256):dX (aD .i64 x) d=x % d:=by
 rw[bM (by omega)];unfold dX;exact Int.tmod_eq_emod_of_nonneg h.1
theorem KK {x:Int} (h:(Lit.int .u8 x).wf=true) (a d:Nat) (b:0<d/\d<=1000) (c:a<=1000):aH .i64 (a:Int) (dX (aD .i64 x) (d:Int))=((a+x.toNat % d:Nat):Int):=by
 have h:=ac5 h;have:(((x.toNat % d:Nat)):Int)=x % (d:Int):=by rw[Int.natCast_emod,Int.toNat_of_nonneg h.1]
 have e:x.toNat % d<d:=Az _ b.1;rw[ac7 h, <-this,aw (by omega) (by omega)];omega
theorem Pa {o:iA Ul} (h:jv Ul o):abc o:=⟨ac6 h.2.2.1,Zq h.2.2.2.2.1,Zq h.2.2.2.2.2.1,Zq h.2.2.2.2.2.2.1⟩
section
variable {Q:Sys} {X:HX} {D G:List Nat} {w0 w w1:A1} {R:MR} {s:MS} {T L:List (Nat×List AP)} {M:List (Nat×Obj)} {n k:Nat}
theorem MU.op (H:MU Q X [] [] w0 w R s T L M) {e:El} {p:Option AM} {xs:List e.T} (a:Sl w0 e p xs) {i:Nat} {x:e.T} (hi:xs[i]? =some x):p.isSome=true/\cC w (ad p (i*aF e)) e x:=(a.ext H.all) i x hi
theorem Qe (H:MU Q X [] [] w0 w R s T L M):az A2 46 (.el (.one .bool)) [] w λ(x:Bool) (a:A1)=>au a λ(w1:A1)=>x=true/\Ext w0 w1:=
 az.val ((At.start [] w0).ext H.all) (s:= .el (.one .bool)) true (λb _=>NQ b) λc H=>au.go H λd H=>⟨rfl,H.all⟩
theorem WT {c:Nat} {x:bP} (a:s.cs[c]? =some x):DO s (c:Int)=x.ph:=by
 unfold DO;rw[ao (by omega),AL,a]
theorem MG.lc (a:MG Q n k s):s.cs.length=n:=by
 obtain⟨gh,ta,M⟩:=a.IP;exact M.lc
end
section
variable {Q:Sys} {X:HX} {D G:List Nat} {w0 w w1:A1} {R:MR} {s:MS} {T L:List (Nat×List AP)} {M:List (Nat×Obj)} {n k:Nat}
theorem NS (H:MU Q X D G w0 w R s T L M) (v p:Int) {K:Int×Int×Int×Unit->A1->Prop} (k: ∀a,MU Q X D G w0 a R s T L M->K (fv s.h.g s.h.s v p) a):
 az A2 81 (.bu [.one (.int .i64),.one (.int .i64),.one (.int .i64)]) [ag (af X.hb),aa v,aa p] w K:=by
 obtain⟨A,d,L0,S,b,c,J⟩:=H.sat;exact qB S b c v p λa S=>k a (J (T':=[]) S)
theorem NT (H:MU Q X D G w0 w R s T L M) (o:MG Q n k s) (hk:k<=100000) {K:Int->A1->Prop} (kk: ∀p,MU Q X D G w0 p R s T L M->K (-1) p):
 az A2 47 (.el (.one (.int .i64))) [ag (af R.mb),aa (n:Int)] w K:=by
 have hlc:=o.lc;have B:=o.bn hk;have hnn:n<=8:=by
  obtain⟨gh,ta,M⟩:=o.IP;exact M.nn.2
 refine H.go λw1 H=>ai (C:=U5) (aR:=rH) (Eq.mpr (NR _ _ w1 K) ⟨_,uo H,an rfl (sV H λbp bf c rest p H=>?_)⟩);refine⟨λJ st t=> ∃j:Nat,j<=n/\J=n - j/\st.1=(j:Int)/\MU Q X D G w0 t R s ((bp,[.slice (af bf) s.h.s.2.length c])::(bf,flat eD s.h.s.2++rest)::T) L M,⟨n,λt u=>⟨0,B4 _,rfl,rfl,H.ext u⟩⟩,?_⟩;clear H;rintro J ⟨v, _⟩ t ⟨j,hj,qK,hi,H⟩;have hi:v=(j:Int):=hi;subst hi qK;dsimp only;refine ab (λe=>?_) (λe=>H.en λN H=>kk N (H.sub (.cons _ (B3 _ _))));have hj:j<n:=by have:=of_decide_eq_true e;omega
 obtain⟨x,z⟩: ∃x,s.cs[j]? =some x:=⟨_,AY (by omega)⟩;have YF:TS s (j:Int)=x.ls:=by unfold TS;rw[ao (by omega),AL,z]
 have hll:=B.ls x (Ap z);have h_:=B.sz;refine qH H B.sz B.ls j λr O N A H=>?_;rw[YF] at A;have hr:=A.1;refine⟨λP st E=> ∃i:Nat,i<=x.ls.length/\P=x.ls.length - i/\st.1=(i:Int)/\MU Q X D G w0 E R s (O++((bp,[.slice (af bf) s.h.s.2.length c])::(bf,flat eD s.h.s.2++rest)::T)) L M,⟨x.ls.length,λE h5=>⟨0,B4 _,rfl,rfl,H.ext h5⟩⟩,?_⟩;clear H;rintro P ⟨v, _⟩ E ⟨i,xN,vO,F,H⟩;have F:v=(i:Int):=F;subst F vO;dsimp only;refine ab (λe=>?_) (λe w6 h6=>⟨n - (j+1),by omega,j+1,by omega,rfl,by rw[aw (by omega) (by omega)];omega,(H.sub (List.sublist_append_right _ _)).ext h6⟩);have hi:i<x.ls.length:=by have:=of_decide_eq_true e;omega
 obtain⟨l,S⟩: ∃l,x.ls[i]? =some l:=⟨_,AY hi⟩;have hb: ∀{w w':A1},Ext w w'->r.1.isSome=true/\cC w (ad r.1 (i*4)) jP l->cC w' (ad r.1 (i*4)) jP l:=λh a=>pL h a.2;have I: ∀{w},MU Q X D G w0 w R s (O++((bp,[.slice (af bf) s.h.s.2.length c])::(bf,flat eD s.h.s.2++rest)::T)) L M->r.1.isSome=true/\cC w (ad r.1 (i*4)) jP l:=λH=>H.sl A (λy hy=>CD _ hy) S;obtain⟨a1,a2⟩:=I H;have f:(ad r.1 (i*4)).isSome=true:=Bt a1 _;have g:r.1.isSome=true/\(0:Int)<=(i:Int)/\(i:Int)<(r.2.1:Int):=⟨a1,by omega,by omega⟩;rw[AL];obtain⟨lr,m,d,U,V,abe,hq⟩:=clean o.IP z (Ap S);have hm:=(DL.1 V).1;have hov:oV s.h.s.2 l.2.2.1=d:=by
  rw[U];unfold oV;rw[ao (by omega),AL,Cf,V];rfl
 have uW:xR s.h.s.2 l.2.2.1=true:=by
  rw[U];unfold xR;rw[decide_eq_false (by omega)];rfl
 refine⟨g,f,aj.of l.2.2.1 (jZ a2 (by decide) rfl) ⟨_,acd H (Be _ B1) (Be _ (CF _ B1)) l.2.2.1,H.al λb w6 H=>H.st 0 rfl rfl rfl λw7 H=>?_⟩⟩;dsimp only at H ⊢;rw[hov] at H;rw[uW];refine⟨λ_=>rfl,H.cx 0 rfl (show _=some d.1 from rfl) ⟨λ_=>rfl,H.cx 0 rfl (show _=some d.1 from rfl) (an ?_ ?_)⟩⟩
 ·rcases abe with h|h<;>rw[h]<;>rfl
 have H:=H.sub (B3 _ _);obtain⟨_,W⟩:=I H;refine⟨g,f,aj.of l.1 (jZ W (by decide) rfl) ⟨g,f,aj.of l.2.1 (jZ W (by decide) rfl) (NS H l.1 l.2.1 λw8 H=>⟨_,Dj H B.bn j,λ_=>g,λ_=>f,?_⟩)⟩⟩;obtain⟨_,Y⟩:=I H;refine aj.of l.2.2.1 (jZ Y (by decide) rfl) ⟨λ_=>g,λ_=>f,aj.of l.2.2.2.1 (jZ Y (by decide) rfl) (an ?_ λw9 h9=>⟨x.ls.length - (i+1),by omega,i+1,by omega,rfl,by rw[aw (by omega) (by omega)];omega,H.ext h9⟩)⟩;have Xe:=B.bn;unfold GK;rw[av (by omega),AL];obtain⟨q,Z⟩: ∃q,s.bx[j]? =some q:=⟨_,AY (by omega)⟩;rw[Cf,Z];cases q with
 |cons y q=>rfl
 |nil=>
  obtain⟨_,h2,u⟩:=hq Z;rw[Wx h2,u];simp
end
theorem NU (x:iA sX3) (t:jv sX3 x) (p:Option AM) (m c:Nat) (xs:List (iA Ul)) (hm:m=xs.length) (hmx:m<=maxLen) {w:A1} (T:Sl w (.agg Ul) p xs) (U: ∀x∈xs,jv Ul x):
 aE A2 8 (.el (.one .bool)) [.agg ⟨a_ _ x⟩,.slice p m c] w (λb w'=>b=true/\Ext w w'):=by
 obtain⟨g,x1,k,u⟩:=x;refine ai (C:=U5) (aR:=uV) (Eq.mpr (TE g x1 k p m c w _) ?_);refine aN.go (At.start [] w) λG w2 H=>⟨⟨rfl,by decide,by decide⟩,aj.at 0 H rfl (show _=some x1 from rfl) ⟨⟨rfl,by decide,by decide⟩,aj.at 0 H rfl (show _=some g from rfl) ⟨⟨rfl,by decide,by decide⟩,aj.at 0 H rfl (show _=some k from rfl) ?_⟩⟩⟩;rw[show aH .i64 20 (dX (aD .i64 g) 60)= _ from KK t.1 20 60 (by decide) (by decide),show aH .i64 1 (dX (aD .i64 x1) 8)= _ from KK t.2.1 1 8 (by decide) (by decide),show aH .i64 1 (dX (aD .i64 k) 8)= _ from KK t.2.2.1 1 8 (by decide) (by decide)];have I:1<=1+x1.toNat % 8/\1+x1.toNat % 8<=8:=by have:=Az x1.toNat (show 0<8 by decide);omega
 have J:1<=((1+k.toNat % 8:Nat):Int)/\((1+k.toNat % 8:Nat):Int)<=64:=by have:=Az k.toNat (show 0<8 by decide);omega
 have K:20<=20+g.toNat % 60/\20+g.toNat % 60<=4096:=by have:=Az g.toNat (show 0<60 by decide);omega
 generalize 1+x1.toNat % 8=n at I;generalize ((1+k.toNat % 8:Nat):Int)=ln at J;generalize 20+g.toNat % 60=f at K;refine vL H f n ln K I J λQ X R w4 H a=>an rfl ?_;refine⟨λi st v=> ∃(j:Nat) (s:MS),j<=m/\j<=300/\i=m - j/\st.1=(j:Int)/\MG Q n (2+j) s/\MU Q X [] [] w v R s [] [(G,[.int .u8 g,.int .u8 x1,.int .u8 k])] [],⟨m,λv z=>⟨0, _,by omega,by omega,rfl,rfl,a,H.ext z⟩⟩,?_⟩;clear H a;rintro i ⟨A, _⟩ v ⟨j,s,V,II,D,hi,a,H⟩;have hi:A=(j:Int):=hi;subst hi D;dsimp only;refine ab (λl=>?_) (λl=>?_)
 ·have hjm:j<m/\j<300:=by
   simp only[B2,decide_eq_true_eq] at l;omega
  obtain⟨o,L⟩: ∃o,xs[j]? =some o:=⟨_,AY (by omega)⟩;have M:=H.op T L;have W:=Pa (U o (Ap L));exact⟨⟨M.1,by omega,by omega⟩,aj.of o (by rw[AL];exact M.2) (Qd H a (by omega) o λY H N E=>⟨m - (j+1),by omega,j+1, _,by omega,by omega,rfl,by rw[aw (by omega) (by omega)];omega,a.op' W,H.ext E⟩)⟩
 ·refine vM H a n 60 (by omega) (by omega) (by omega) λY H=>?_;have G0:=a;have a:=a.On n 60;have O:2+j+60*n<=100000:=by omega
  obtain⟨s',e, _,Z,hbx,vZ,z⟩:=ends G0.IP;rw[<-e] at H a;clear e;have B:=a.bn O;have hlc:=a.lc;have Xe:=B.bn;refine⟨λi st F=> ∃j:Nat,j<=n/\i=n - j/\st.1=(j:Int)/\MU Q X [] [] w F R s' [] [(G,[.int .u8 g,.int .u8 x1,.int .u8 k])] [],⟨n,λF h7=>⟨0,by omega,rfl,rfl,H.ext h7⟩⟩,?_⟩;clear H;rintro i ⟨A, _⟩ F ⟨j,V,D,hi,H⟩;have hi:A=(j:Int):=hi;subst hi D;dsimp only;refine ab (λl=>?_) (λl=>?_)
  ·have hjn:j<n:=by have:=of_decide_eq_true l;omega
   obtain⟨y,P⟩: ∃y,s'.cs[j]? =some y:=⟨_,AY (by omega)⟩;obtain⟨q,S⟩: ∃q,s'.bx[j]? =some q:=⟨_,AY (by omega)⟩;have e1:DO s' j=0:=by rw[WT P,Z j y P]
   have e2:GK s' j=0:=by
    unfold GK;rw[av (by omega),AL,Cf,S,hbx j q S];rfl
   refine⟨_,zH H j, _,λ_=>Dj H Xe j,an ?_ λN E=>⟨n - (j+1),by omega,j+1,by omega,rfl,by rw[aw (by omega) (by omega)];omega,H.ext E⟩⟩;rw[e1,e2];rfl
  ·refine pZ H B.ws λr Lr N hs8 H=>?_;have e0:r.2.1=0:=by rw[hs8.1,iN,B5,vZ];rfl
   refine⟨_,λ_=>uo H,aA (by rw[e0];rfl) (sV H λbp bf c rest w9 H=>Cc H B1 (CF _ B1) 5 H.sys.2.2.1 λl4 H=>?_)⟩;have e5:cd s'.h.s.2 5=0:=by
    unfold cd;refine List.countP_eq_zero.2 λd hd=>?_;obtain⟨i,hi⟩:=DF hd;have:=z i d hi;simpa using this
   rw[e5];exact aA rfl (NT H a O λog H=>aA rfl (Qe (H.sub (Bx _))))
noncomputable def U6:dJ A2:={U5 with quiet:=[27]++U5.quiet}
def xk:Nat->a6:=(λ|6=>[(8,Go.RX.El.one (Go.RX.Sc.int Am))]|11=>[(9,Go.RX.El.one (Go.RX.Sc.int Am))]|15=>[(11,Go.RX.El.one (Go.RX.Sc.int Am))]|19=>[(12,Go.RX.El.one Go.RX.Sc.bool),(13,Go.RX.El.one (Go.RX.Sc.int Am))]| _=>[])
theorem WU (t x1 u:Int) (p:Option AM) (m c:Nat) (w:A1) (q:Bool->A1->Prop):(aK U6 xk 14 [.agg ⟨[.int .u8 t,.int .u8 x1,.int .u8 u]⟩,.slice p m c] w q)=(
 aN w ⟨[.int .u8 t,.int .u8 x1,.int .u8 u]⟩ 22 λb a=>(true=true/\(0:Int)<=1/\1<(↑3:Int))/\aj a none (ad (af b) 1) (.one (.int .u8)) λ(x:Int)=>(true=true/\(0:Int)<=0/\0<(↑3:Int))/\aj a none (ad (af b) 0) (.one (.int .u8)) λ(z:Int)=>(true=true/\(0:Int)<=2/\2<(↑3:Int))/\aj a none (ad (af b) 2) (.one (.int .u8)) λ(A:Int)=>az A2 15 (.bu [.one .ptr,.one .bool]) [aa (aH .i64 20 (dX (aD .i64 z) 60)),aa (aH .i64 1 (dX (aD .i64 x) 8)),aa (aH .i64 1 (dX (aD .i64
 A) 8))] a λo a=>aI (!o.2.1) (au a (q false)) (∃(I:Nat->Int×Unit->A1->Prop),(∃n, ∀w1,Ext a w1->I n (0,()) w1)/\ ∀(n:Nat) (s:Int×Unit) (w1:A1),I n s w1->aI (decide (s.1<(↑m:Int))&&decide (s.1<200)) ((p.isSome=true/\0<=s.1/\s.1<(↑m:Int))/\aj w1 none (ad p (AC s.1*7)) (.agg [.int .i64,.bool,.int .i64,.int .i64,.int .u64,.int .u64,.int .u64]) λ(x:Int×Bool×Int×Int×Int×Int×Int×Unit)=>az A2 16 (.bu []) [ag o.1,.agg {toList:=[aa x.1,.bool x.2.1,.int .i64
 x.2.2.1,aa x.2.2.2.1,ay x.2.2.2.2.1,ay x.2.2.2.2.2.1,ay x.2.2.2.2.2.2.1]}] w1 λx a=> ∀h,Ext a h-> ∃(i:Nat),i<n/\I i (aH .i64 s.1 1,()) h) (az A2 48 (.bu []) [ag o.1,aa (aH .i64 1 (dX (aD .i64 x) 8)),aa 60] w1 λC a=> ∃(I:Nat->Int×Unit->A1->Prop),(∃n, ∀w1,Ext a w1->I n (0,()) w1)/\ ∀(n:Nat) (s:Int×Unit) (w1:A1),I n s w1->aI (decide (s.1<aH .i64 1 (dX (aD .i64 x) 8))) (az A2 51 (.el eY) [ag o.1,aa s.1] w1 λx
 a=> ∃(r:Nat->Int×Unit->A1->Prop),(∃n, ∀w1,Ext a w1->r n (0,()) w1)/\ ∀(v:Nat) (e:Int×Unit) (w1:A1),r v e w1->aI (decide (e.1<(↑x.2.1:Int))) (∃(I:Nat->Bool×Int×Unit->A1->Prop),(∃n, ∀y,Ext w1 y->I n (false,0,()) y)/\ ∀(n:Nat) (s:Bool×Int×Unit) (w1:A1),I n s w1->aI (decide (s.2.1<(↑m:Int))&&decide (s.2.1<200)) ((p.isSome=true/\0<=s.2.1/\s.2.1<(↑m:Int))/\aj w1 none (ad p (AC s.2.1*7)) (.agg [.int .i64,.bool,.int .i64,.int .i64,.int .u64,.int .u64,
 .int .u64]) λ(j:Int×Bool×Int×Int×Int×Int×Int×Unit)=>aN w1 ⟨[aa 0,.bool false,aa 0,aa 0,ay 0,ay 0,ay 0]⟩ 33 λb a=>aC a (af b) [aa j.1,.bool j.2.1,aa j.2.2.1,aa j.2.2.2.1,ay j.2.2.2.2.1,ay j.2.2.2.2.2.1,ay j.2.2.2.2.2.2.1] λa=>((!s.1)=true->true=true)/\aj a (some !s.1) (ad (af b) 1) qO λd=>((!s.1&&d)=true->true=true)/\aj a (some (!s.1&&d)) (ad (af b) 2) aS λ(f:Int)=>((!s.1&&d)=true->
 x.1.isSome=true/\0<=e.1/\e.1<(↑x.2.1:Int))/\((!s.1&&d)=true->(ad x.1 (AC e.1*4)).isSome=true)/\aj a (some (!s.1&&d)) (ad (ad x.1 (AC e.1*4)) 0) aS λ(g:Int)=>((!s.1&&(d&&f==g))=true->true=true)/\((!s.1&&(d&&f==g))=true->(ad (af b) 3).isSome=true)/\aj a (some (!s.1&&(d&&f==g))) (ad (ad (af b) 3) 0) aS λ(k:Int)=>((!s.1&&(d&&f==g)&& !k==6)=true->true=true)/\((!s.1&&(d&&f==g)&& !k==6)=true->(ad (af b) 3).isSome=
 true)/\aj a (some (!s.1&&(d&&f==g)&& !k==6)) (ad (ad (af b) 3) 0) aS λ(l:Int)=>((!s.1&&(d&&f==g&&(k==6||l==7)))=true->true=true)/\((!s.1&&(d&&f==g&&(k==6||l==7)))=true->(ad (af b) 3).isSome=true)/\aj a (some (!s.1&&(d&&f==g&&(k==6||l==7)))) (ad (ad (af b) 3) 1) qN λ(B:Int)=>((!s.1&&(d&&f==g&&(k==6||l==7)))=true->x.1.isSome=true/\0<=e.1/\e.1<(↑x.2.1:Int))/\((!s.1&&(d&&f==g&&(k==6||l==
 7)))=true->(ad x.1 (AC e.1*4)).isSome=true)/\aj a (some (!s.1&&(d&&f==g&&(k==6||l==7)))) (ad (ad x.1 (AC e.1*4)) 1) aS λ(x:Int)=> ∀h,Ext a h-> ∃(i:Nat),i<n/\I i (s.1||d&&f==g&&(k==6||l==7)&&tj .u64 B 16==aD .u64 x,aH .i64 s.2.1 1,()) h) (∃(j:Option AM),((!!s.1)=true->ae A2 17 [ag o.1] w1 (ag j))/\((!!s.1)=true->x.1.isSome=true/\0<=e.1/\e.1<(↑x.2.1:Int))/\((!!s.1)=true->(ad x.1 (AC e.1*
 4)).isSome=true)/\aj w1 (some !!s.1) (ad (ad x.1 (AC e.1*4)) 0) aS λ(x:Int)=> ∃d,((!!s.1)=true->ae A2 19 [ag j,aa x] w1 (.bool d))/\aI (!s.1|| !d) (au w1 (q false)) (∀h,Ext w1 h-> ∃(i:Nat),i<v/\r i (aH .i64 e.1 1,()) h))) (∀h,Ext w1 h-> ∃(i:Nat),i<n/\I i (aH .i64 s.1 1,()) h)) (az A2 46 (.el qO) [] w1 λx a=>au a (q x))))):=by kernel_rfl
theorem aaB {a:Int} (h:cJ a):tj .u64 a 16=a / 16:=by
 show aD .u64 (a.tdiv 16)= _;rw[Int.tdiv_eq_ediv_of_nonneg h.1];exact dH (by omega)
section
variable {Q:Sys} {X:HX} {D G:List Nat} {w0 w w1:A1} {R:MR} {s:MS} {T L:List (Nat×List AP)} {M:List (Nat×Obj)} {n k:Nat}
theorem WV (H:MU Q X D G w0 w R s T L M) (v:Int):ae A2 19 [ag (af X.hb),aa v] w (.bool (aV s.h.g v)):=by
 obtain⟨A,b,L0,S,a,c,J⟩:=H.sat;exact nT S a v
end
def nmd (xs:List YL) (t p:Int):Prop:= ∃(i:Nat) (o:YL),i<200/\xs[i]? =some o/\o.2.1=true/\o.2.2.1=t/\(o.2.2.2.1=6\/o.2.2.2.1=7)/\o.2.2.2.2.1 / 16=p
theorem TF (x:iA sX3) (M:jv sX3 x) (p:Option AM) (m c:Nat) (xs:List (iA Ul)) (hm:m=xs.length) (hmx:m<=maxLen) {w:A1} (hs:Sl w (.agg Ul) p xs) (Yn: ∀x∈xs,jv Ul x):
 aE A2 14 (.el (.one .bool)) [.agg ⟨a_ _ x⟩,.slice p m c] w (λb w'=>b=true/\Ext w w'):=by
 obtain⟨g,x1,k,u⟩:=x;refine ai (C:=U6) (aR:=xk) (Eq.mpr (WU g x1 k p m c w _) ?_);refine aN.go (At.start [] w) λE w2 H=>⟨⟨rfl,by decide,by decide⟩,aj.at 0 H rfl (show _=some x1 from rfl) ⟨⟨rfl,by decide,by decide⟩,aj.at 0 H rfl (show _=some g from rfl) ⟨⟨rfl,by decide,by decide⟩,aj.at 0 H rfl (show _=some k from rfl) ?_⟩⟩⟩;rw[show aH .i64 20 (dX (aD .i64 g) 60)= _ from KK M.1 20 60 (by decide) (by decide),show aH .i64 1 (dX (aD .i64 x1) 8)= _ from KK M.2.1 1 8 (by decide) (by decide),show aH .i64 1 (dX (aD .i64 k) 8)= _ from KK M.2.2.1 1 8 (by decide) (by decide)];have N:1<=1+x1.toNat % 8/\1+x1.toNat % 8<=8:=by have:=Az x1.toNat (show 0<8 by decide);omega
 have D:1<=((1+k.toNat % 8:Nat):Int)/\((1+k.toNat % 8:Nat):Int)<=64:=by have:=Az k.toNat (show 0<8 by decide);omega
 have J:20<=20+g.toNat % 60/\20+g.toNat % 60<=4096:=by have:=Az g.toNat (show 0<60 by decide);omega
 generalize 1+x1.toNat % 8=n at N;generalize ((1+k.toNat % 8:Nat):Int)=ln at D;generalize 20+g.toNat % 60=f at J;have Bs:=(WH J N D).2.2.nm (nmd xs);refine vL H f n ln J N D λQ X R w4 H a=>an rfl ?_;refine⟨λi st O=> ∃(j:Nat) (s:MS),j<=m/\j<=200/\i=m - j/\st.1=(j:Int)/\MG Q n (2+j) s/\Nm (nmd xs) s/\MU Q X [] [] w O R s [] [(E,[.int .u8 g,.int .u8 x1,.int .u8 k])] [],⟨m,λO h5=>⟨0, _,by omega,by omega,rfl,rfl,a,Bs,H.ext h5⟩⟩,?_⟩;clear H a Bs;rintro i ⟨I, _⟩ O ⟨j,s,hj,II,P,hi,a,F,H⟩;have hi:I=(j:Int):=hi;subst hi P;dsimp only;have Oc: ∀{w1:A1} {s:MS} {T:List (Nat×List AP)} {j:Nat} {o:YL},xs[j]? =some o->MU Q X [] [] w w1 R s T [(E,[.int .u8 g,.int .u8 x1,.int .u8 k])] []->p.isSome=true/\cC w1 (ad p (j*7)) (.agg Ul) o:=λv H=>H.op hs v;refine ab (λt=>?_) (λt=>?_)
 ·have hjm:j<m/\j<200:=by
   simp only[B2,decide_eq_true_eq] at t;omega
  obtain⟨o,v⟩: ∃o,xs[j]? =some o:=⟨_,AY (by omega)⟩;have hoo:=Pa (Yn o (Ap v));obtain⟨a1,a2⟩:=Oc v H;refine⟨⟨a1,by omega,by omega⟩,aj.of o (by rw[AL];exact a2) (Qd H a (by omega) o λw6 H w8 h8=>⟨m - (j+1),by omega,j+1, _,by omega,by omega,rfl,by rw[aw (by omega) (by omega)];omega,a.op' hoo,?_,H.ext h8⟩)⟩;unfold opM;split
  ·rename_i ha;exact F.ask _ _ λS=>⟨j,o,hjm.2,v,ha,rfl,S,rfl⟩
  ·exact F.step a.IP _
 ·refine vM H a n 60 (by omega) (by omega) (by omega) λw6 H=>?_;have F:=F.On a.IP 60;obtain⟨s',e,Mx,Cq,hbx,vZ,h5⟩:=ends a.IP;have a:=a.On n 60;rw[<-e] at H a F;clear e;have S:2+j+60*n<=100000:=by omega
  have B:=a.bn S;have hlc:=a.lc;have Xe:=B.bn;refine⟨λi st U=> ∃j:Nat,j<=n/\i=n - j/\st.1=(j:Int)/\MU Q X [] [] w U R s' [] [(E,[.int .u8 g,.int .u8 x1,.int .u8 k])] [],⟨n,λU h7=>⟨0,by omega,rfl,rfl,H.ext h7⟩⟩,?_⟩;clear H;rintro i ⟨I, _⟩ U ⟨j,hj,P,hi,H⟩;have hi:I=(j:Int):=hi;subst hi P;dsimp only;refine ab (λt=>?_) (λt=>Qe H);have hjn:j<n:=by have:=of_decide_eq_true t;omega
  obtain⟨y,G⟩: ∃y,s'.cs[j]? =some y:=⟨_,AY (by omega)⟩;obtain⟨q,hq⟩: ∃q,s'.bx[j]? =some q:=⟨_,AY (by omega)⟩;have YF:TS s' (j:Int)=y.ls:=by unfold TS;rw[ao (by omega),AL,G]
  have hll:=B.ls y (Ap G);have h_:=B.sz;refine qH H B.sz B.ls j λr V w8 W H=>?_;rw[YF] at W;have hr:=W.1;refine⟨λn2 st Y=> ∃i:Nat,i<=y.ls.length/\n2=y.ls.length - i/\st.1=(i:Int)/\MU Q X [] [] w Y R s' (V++[]) [(E,[.int .u8 g,.int .u8 x1,.int .u8 k])] [],⟨y.ls.length,λY h9=>⟨0,B4 _,rfl,rfl,H.ext h9⟩⟩,?_⟩;clear H;rintro n2 ⟨I, _⟩ Y ⟨i,xN,vO,Z,H⟩;have Z:I=(i:Int):=Z;subst Z vO;dsimp only;refine ab (λt=>?_) (λt K Dx=>⟨n - (j+1),by omega,j+1,by omega,rfl,by rw[aw (by omega) (by omega)];omega,(H.sub (Bx _)).ext Dx⟩);have hi:i<y.ls.length:=by have:=of_decide_eq_true t;omega
  obtain⟨l,D⟩: ∃l,y.ls[i]? =some l:=⟨_,AY hi⟩;have L: ∀{w1},MU Q X [] [] w w1 R s' (V++[]) [(E,[.int .u8 g,.int .u8 x1,.int .u8 k])] []->r.1.isSome=true/\cC w1 (ad r.1 (i*4)) jP l:=λH=>H.sl W (λy G=>CD _ G) D;have a1:=(L H).1;have a3:(ad r.1 (i*4)).isSome=true:=Bt a1 _;have Um:r.1.isSome=true/\(0:Int)<=(i:Int)/\(i:Int)<(r.2.1:Int):=⟨a1,by omega,by omega⟩;obtain⟨i0,o0,F3,ho0,c1,c2,c3,c4⟩:=F.ln y (Ap G) l (Ap D);have adk:=(DL.1 ho0).1;obtain⟨lr,md,d,J,hd,abe,Cj⟩:=clean Mx G (Ap D);obtain⟨_,yw, _⟩:=Cj (by rw[hq,hbx j q hq]);rw[AL];refine⟨λn3 st K=> ∃z:Nat,z<=m/\z<=200/\n3=m - z/\st.2.1=(z:Int)/\(i0<z->st.1=true)/\MU Q X [] [] w K R s' (V++[]) [(E,[.int .u8 g,.int .u8 x1,.int .u8 k])] [],⟨m,λK Dx=>⟨0,by omega,by omega,rfl,rfl,λh=>absurd h (Nat.not_lt_zero _),H.ext Dx⟩⟩,?_⟩;clear H;rintro n3 ⟨nb,zz, _⟩ K ⟨z,hz,Xc,hn3,hzz,A,H⟩;have hzz:zz=(z:Int):=hzz;have A:i0<z->nb=true:=A;subst hzz hn3;dsimp only;refine ab (λt=>?_) (λt=>?_)
  ·have hzm:z<m/\z<200:=by
    simp only[B2,decide_eq_true_eq] at t;omega
   obtain⟨o,v⟩: ∃o,xs[z]? =some o:=⟨_,AY (by omega)⟩;have hou:=(Pa (Yn o (Ap v))).2.1;obtain⟨b1',b2⟩:=Oc v H;refine⟨⟨b1',by omega,by omega⟩,aj.of o (by rw[AL];exact b2) (H.al λb og H=>H.st 0 rfl rfl rfl λDI H=>?_)⟩;obtain⟨oc,oa,ov,ok,ox,oy,oz,ou⟩:=o;refine⟨λ_=>rfl,H.cx 0 rfl (show _=some oa from rfl) ⟨λ_=>rfl,H.cx 0 rfl (show _=some ov from rfl) ⟨λ_=>Um,λ_=>a3,?_⟩⟩⟩;have H2:=H.sub (B3 _ _);refine aj.of l.1 (jZ (L H2).2 (by decide) rfl) ⟨λ_=>rfl,λ_=>rfl,H.ld 0 rfl (show _=some ok from rfl) ⟨λ_=>rfl,λ_=>rfl,H.ld 0 rfl (show _=some ok from rfl) ⟨λ_=>rfl,λ_=>rfl,H.ld 0 rfl (show _=some ox from rfl) ⟨λ_=>Um,λ_=>a3,aj.of l.2.1 (jZ (L H2).2 (by decide) rfl) λOi Yj=>⟨m - (z+1),by omega,z+1,by omega,by omega,rfl,by rw[aw (by omega) (by omega)];omega,λjn=>?_,H2.ext Yj⟩⟩⟩⟩⟩;by_cases e:i0<z
   ·have A:=A e;subst A;rfl
   ·have e:i0=z:=by omega
    subst e;rw[ho0] at v;cases v;have c1:oa=true:=c1;have c2:ov=l.1:=c2;have c3:ok=6\/ok=7:=c3;have c4:ox / 16=l.2.1:=c4;rw[aaB hou,dH (by omega),c1,c2,c4];rcases c3 with h|h<;>rw[h]<;>simp
  ·have A:=A (by
    simp only[Bool.and_eq_false_iff,decide_eq_false_iff_not] at t;omega)
   subst A;refine⟨_,λ_=>uo H,λ_=>Um,λ_=>a3,aj.of l.1 (jZ (L H).2 (by decide) rfl) ⟨_,λ_=>WV H l.1,?_⟩⟩;rw[yw];exact an rfl λog FN=>⟨y.ls.length - (i+1),by omega,i+1,by omega,rfl,by rw[aw (by omega) (by omega)];omega,H.ext FN⟩
end Go.Proofs.YtlcenllcmeebhaaGreat.Mu
