import Derived.Test.YtlcenllcmeebhaaGreatPCG
/-! What the statement leans on: texts joined and shortened by a program of mine. -/
set_option linter.unusedVariables false
set_option linter.unusedSimpArgs false
open List renaming mem_cons_of_mem->A2,mem_cons_self->AB,sublist_cons_self->AC,getElem?_eq_getElem->Ab,mem_append_right->Ax,mem_append_left->Az
open Int renaming toNat_natCast->AR
namespace Go.Proofs.YtlcenllcmeebhaaGreat.Mu
set_option maxRecDepth 100000
open Go.RX D
theorem PC {ds:List DT} {m:Nat} {d:DT} (a:ds[m]? =some d):mz ds (m:Int)=d/\xq ds (m:Int)=true:=by
 have b:=(List.getElem?_eq_some_iff.1 a).1;constructor
 ·unfold mz;rw[ao (by omega),AR,List.getD_eq_getElem?_getD,a];rfl
 ·unfold xq;rw[decide_eq_false (by omega)];rfl
theorem Nd (x:g_ sX3) (hx:js sX3 x) (p:Option Addr) (m c:Nat) (xs:List (g_ NI)) (W:m=xs.length) (hmx:m<=maxLen) {w:World} (hs:Sl w (.agg NI) p xs) (hxs: ∀x∈xs,js NI x) (g:Int) (Y:(Lit.int .u16 g).wf=true):
 aE Tryz.prog 3 (.el (.one .bool)) [.agg ⟨a9 _ x⟩,.slice p m c,.int .u16 g] w (λb w'=>b=true/\Ext w w'):=by
 obtain⟨D,x1,x2,u⟩:=x;have Y:=abI Y;refine ai (C:=U6) (aS:=rn) (Eq.mpr (Nb D x1 x2 p m c g w _) ?_);refine aL.go (At.start [] w) λb1 w2 H=>⟨⟨rfl,by decide,by decide⟩,aj.at 0 H rfl (show _=some x1 from rfl) ⟨⟨rfl,by decide,by decide⟩,aj.at 0 H rfl (show _=some D from rfl) ?_⟩⟩;rw[show aI .i64 20 (fb (aG .i64 D) 60)= _ from N_ hx.1 20 60 (by decide) (by decide),show aI .i64 1 (fb (aG .i64 x1) 8)= _ from N_ hx.2.1 1 8 (by decide) (by decide),bM (by omega)];have hn:1<=1+x1.toNat % 8/\1+x1.toNat % 8<=8:=by have:=Nat.mod_lt x1.toNat (show 0<8 by decide);omega
 have hf:20<=20+D.toNat % 60/\20+D.toNat % 60<=4096:=by have:=Nat.mod_lt D.toNat (show 0<60 by decide);omega
 generalize 1+x1.toNat % 8=n at hn;generalize 20+D.toNat % 60=f at hf;refine vo H f n 4 hf hn (by omega) λQ X R w4 H A=>an rfl ?_;generalize hL0:[(b1,[Value.int .u8 D,.int .u8 x1,.int .u8 x2])]=L0 at H;refine⟨λi st I=> ∃(j:Nat) (s:MS),j<=m/\j<=300/\i=m - j/\st.1=(j:Int)/\MG Q n (2+j) s/\MU Q X [] [] w I R s [] L0 [],⟨m,λI Z=>⟨0, _,by omega,by omega,rfl,rfl,A,H.ext Z⟩⟩,?_⟩;clear H A hL0;rintro i ⟨B, _⟩ I ⟨j,s,hj,Ic,Nf,hi,A,H⟩;have hi:B=(j:Int):=hi;subst hi Nf;dsimp only;refine ab (λa=>?_) (λa=>PA H);have hjm:j<m/\j<300:=by
  simp only[Bool.and_eq_true,decide_eq_true_eq] at a;omega
 obtain⟨o,ho⟩: ∃o,xs[j]? =some o:=⟨_,Ab (by omega)⟩;have FB:=H.op hs ho;have hoo:=Xg (hxs o (List.mem_of_getElem? ho));refine⟨⟨FB.1,by omega,by omega⟩,aj.of o (by rw[AR];exact FB.2) (ZU H A (by omega) o λw6 H=>?_)⟩;have A:=A.op' hoo;generalize opM s o=s at H A;clear ho FB hoo o a;refine⟨_,zk H,sg H λbp bf cf rest w6 H=>?_⟩;generalize hT:((bp,[Value.slice (ae bf) s.h.s.2.length cf])::(bf,flat eD s.h.s.2++rest)::([]:List (Nat×List Value)))=T at H;have J:(bp,[Value.slice (ae bf) s.h.s.2.length cf])∈T:=by rw[<-hT];exact AB
 have K:(bf,flat eD s.h.s.2++rest)∈T:=by rw[<-hT];exact A2 _ AB
 clear hT;refine⟨λF st w7=> ∃v:Nat,1<=v/\v<=4/\F=4 - v/\st.1=(v:Int)/\MU Q X [] [] w w7 R s T L0 [],⟨3,λw7 h7=>⟨1,by omega,by omega,rfl,rfl,H.ext h7⟩⟩,?_⟩;clear H;rintro F ⟨B, _⟩ w7 ⟨v,vy,sw,rz,hi,H⟩;have hi:B=(v:Int):=hi;subst hi rz;dsimp only;refine ab (λa=>?_) (λa L h8=>⟨m - (j+1),by omega,j+1,s,by omega,by omega,rfl,by rw[av (by omega) (by omega)];omega,A.mono (by omega),(H.sub (List.nil_sublist _)).ext h8⟩);have hv4:v<4:=by have:=of_decide_eq_true a;omega
 refine⟨λF st L=> ∃b:Nat,b<=5/\F=5 - b/\st.1=(b:Int)/\MU Q X [] [] w L R s T L0 [],⟨5,λL h8=>⟨0,by omega,rfl,rfl,H.ext h8⟩⟩,?_⟩;clear H a;rintro F ⟨B, _⟩ L ⟨b,hb,rz,hi,H⟩;have hi:B=(b:Int):=hi;subst hi rz;dsimp only;refine⟨_,λ_=>V' H v,ab (λa=>?_) (λa w9 h9=>⟨4 - (v+1),by omega,v+1,by omega,by omega,rfl,by rw[av (by omega) (by omega)];omega,H.ext h9⟩)⟩;rw[Bool.and_eq_true,decide_eq_true_eq] at a;obtain⟨hb5,Ac⟩:=a;have hb5:b<5:=by omega
 obtain⟨pg,z5,wP⟩: ∃pg:Int,kH [aa 0,aa 1,aa 2,aa 3,aa g] (b*1) (.one (.int .i64))=some pg/\0<=pg/\pg<65536:=by
  have:b=0\/b=1\/b=2\/b=3\/b=4:=by omega
  rcases this with rfl|rfl|rfl|rfl|rfl
  ·exact⟨0,rfl,by omega⟩
  ·exact⟨1,rfl,by omega⟩
  ·exact⟨2,rfl,by omega⟩
  ·exact⟨3,rfl,by omega⟩
  ·exact⟨g,rfl,Y⟩
 obtain⟨gh,ta,Mi⟩:=A.JY;obtain⟨oM,M⟩:=BI Mi.hi Ac wP;have BS:=λk=>EU Mi.hi Ac (t:=0) wP k;rw[AR];refine H.al λb2 w9 H=>⟨⟨rfl,by omega,by omega⟩,H.cm 0 rfl z5 ⟨_,Wa H v,S5 H _ _ oM λbk oh H=>an rfl ?_⟩⟩;generalize N:((b2,[aa 0,aa 1,aa 2,aa 3,aa g])::T)=T' at H;have J:(bp,[Value.slice (ae bf) s.h.s.2.length cf])∈T':=by rw[<-N];exact A2 _ J
 have K:(bf,flat eD s.h.s.2++rest)∈T':=by rw[<-N];exact A2 _ K
 have back: ∀{z T2},MU Q X [] [] w z R s (T2++T') L0 []->MU Q X [] [] w z R s T L0 []:=λH=>H.sub (by rw[<-N];exact(AC _ _).trans (List.sublist_append_right _ _));clear N;generalize hr:aY s.h.g v=rt at H M BS;have hp0:xm [] (none,0,0) (qI s.h.s.1 rt pg 0):= .inl ⟨rfl,rfl,rfl⟩;refine⟨λn2 st O=> ∃(q:Nat) (Ls:List (Nat×List Value)) (sl:Option Addr×Nat×Nat),q<=4/\n2=4 - q/\st.1=(q:Int)/\xm Ls sl (qI s.h.s.1 rt pg q)/\MU Q X [] [] w O R s ((bk,jM (fX s.h.s.1 rt pg 0 q).1 pg 0 (fX s.h.s.1 rt pg 0 q).2.1 (fX s.h.s.1 rt pg 0 q).2.2 sl)::(Ls++T')) L0 [],⟨4,λO HW=>⟨0,[], _,by omega,rfl,rfl,hp0,H.ext HW⟩⟩,?_⟩;clear H hp0;rintro n2 ⟨B, _⟩ O ⟨q,Ls,sl,hq,xi,hi,TW,H⟩;have hi:B=(q:Int):=hi;subst hi xi;dsimp only;refine ab (λa=>?_) (λa=>?_)
 ·have hq4:q<4:=by have:=of_decide_eq_true a;omega
  exact se H λC9 H=>Nc H TW (Nat.le_trans (Gz _ _ _ q) (by omega)) λ_ Nh cA Tb abJ H HY h14=>⟨4 - (q+1),by omega,q+1,cA,Tb,by omega,rfl,by rw[av (by omega) (by omega)];omega,abJ,H.ext h14⟩
 have hq4:q=4:=by have:=of_decide_eq_false a;omega
 subst hq4;have acC:(fX s.h.s.1 rt pg 0 4).2.1= -1:=by
  rcases BS 4 with ⟨m,h, _⟩|⟨_,h⟩
  ·omega
  ·exact h
 have Nw:k_ s.h.s.1 rt pg 0=(fX s.h.s.1 rt pg 0 4).2.2:=by
  unfold k_;rw[<-hr,oM];rfl
 rw[Nw] at M;rw[acC] at H;have dg:=PB s.h.s.1 rt pg 3;have hvl:=Gz s.h.s.1 rt pg 4;generalize (fX s.h.s.1 rt pg 0 4).2.2=fd at M H;generalize (fX s.h.s.1 rt pg 0 4).1=fr at H;obtain⟨f0,f1,f2,f3,⟨⟩⟩:=fd;have NQ:af Tryz.prog 24 [ag (ae bk)] O ((Sh.bG [.agg sF,.one .bool]).gz ((f0,f1,f2,f3,()),true,())):=af.of λI Z=>by
  have:=IW ((H.cZ AB).ext Z);rw[ax rfl] at this;exact this
 refine⟨((f0,f1,f2,f3,()),true,()),NQ,H.al λb3 C9 H=>H.st 0 rfl rfl rfl λNh H=>⟨rfl,H.cm 0 rfl (show _=some f0 from rfl) ?_⟩⟩;have k1: ∀{T2:List (Nat×List Value)} {y},y∈T'->y∈T2++T':=λh=>Ax _ h;refine⟨_,OA H (A2 _ (A2 _ (k1 J))) (A2 _ (A2 _ (k1 K))) f0,H.al λb4 HY H=>H.st 0 rfl rfl rfl λXB H=>?_⟩;dsimp only at H ⊢;have DW:(f3==0&&(mz s.h.s.2 f0).1 != 4||f3 != 0&&f3 != 4)=false:=by
  rcases M with ⟨e0,mm,d,e1,e2,e3⟩|e4
  ·have e0:f3=0:=e0;have e1:f0=(mm:Int):=e1;subst e0 e1;rw[(PC e2).1,e3];rfl
  ·have e4:f3=4:=e4;subst e4;rfl
 generalize hV:mz s.h.s.2 f0=V at H DW;refine⟨rfl,H.cm 1 rfl (show _=some f3 from rfl) ⟨λ_=>rfl,H.cm 0 rfl (show _=some V.1 from rfl) ⟨λ_=>rfl,H.cm 1 rfl (show _=some f3 from rfl) ⟨λ_=>rfl,H.cm 1 rfl (show _=some f3 from rfl) (an DW ?_)⟩⟩⟩⟩;have H:=H.sub ((AC _ _).trans (AC _ _));refine S6 H AB (ZW TW) (λy G=>A2 _ (Az _ G)) (by omega) λr Lr Tt S H=>?_;have h_:=λe f=>CS s.h.s.1 rt pg 4 (e:=e) (f:=f);generalize qI s.h.s.1 rt pg 4=P at S h_ hvl;have hrl:=S.1;generalize U:Lr++((bk,jM fr pg 0 (-1) (f0,f1,f2,f3,()) sl)::(Ls++T'))=T2 at H;have W: ∀y∈T',y∈T2:=λy G=>by rw[<-U];exact Ax _ (A2 _ (k1 G))
 have hlr: ∀y∈Lr,y∈T2:=λy G=>by rw[<-U];exact Az _ G
 have abK: ∀{z},MU Q X [] [] w z R s T2 L0 []->MU Q X [] [] w z R s T L0 []:=λH=>back (T2:=Lr++((bk,jM fr pg 0 (-1) (f0,f1,f2,f3,()) sl)::Ls)) (by rw[<-U] at H;simp only[List.append_assoc,List.cons_append] at H ⊢;exact H);clear U;refine⟨λn3 st w17=> ∃e:Nat,e<=P.length/\n3=P.length - e/\st.1=(e:Int)/\MU Q X [] [] w w17 R s T2 L0 [],⟨P.length,λw17 h17=>⟨0,Nat.zero_le _,rfl,rfl,H.ext h17⟩⟩,?_⟩;clear H;rintro n3 ⟨B, _⟩ w17 ⟨e,he,hn3,hi,H⟩;have hi:B=(e:Int):=hi;subst hi hn3;dsimp only;refine ab (λa=>?_) (λa w18 h18=>⟨5 - (b+1),by omega,b+1,by omega,rfl,by rw[av (by omega) (by omega)];omega,(abK H).ext h18⟩);have heP:e<P.length:=by have:=of_decide_eq_true a;omega
 obtain⟨l,NE⟩: ∃l,P[e]? =some l:=⟨_,Ab heP⟩;obtain⟨g1,g2,g3⟩:=h_ e l NE;obtain⟨E,hmv,hgf⟩: ∃E:Nat,E+e=3/\gh l=some ((v:Int),E,px (E+1) pg):=by
  rcases BS e with ⟨m,h1, _, _,h4⟩|⟨_,h⟩
  ·exact⟨m,h1,by rw[<-g2];exact h4⟩
  ·exact absurd h g3
 obtain⟨q1,q2,q3,q4⟩:=MO Mi.hi hgf;have hof:mz s.h.s.2 l=(3,(v:Int),0,0,()):=by
  have:=(PC q4).1;rw[Int.toNat_of_nonneg q1] at this;exact this
 obtain⟨a1,a2⟩:=H.sl S hlr NE;have TI:r.1.isSome=true/\(0:Int)<=(e:Int)/\(e:Int)<(r.2.1:Int):=⟨a1,by omega,by omega⟩;have qK:dW l pg (aZ .i64 3 (e:Int))=16*l+px E pg % 16:=by
  rw[bD (by omega) (by omega),show(3:Int) - (e:Int)=(E:Int) by omega];exact ky ⟨q1,q2⟩ wP (by omega)
 have hpx:=ee pg E;rw[AR];refine⟨TI,aj.of l a2 ⟨_,OA H (W _ J) (W _ K) l,H.al λb5 w18 H=>H.st 0 rfl rfl rfl λw19 H=>?_⟩⟩;dsimp only at H ⊢;rw[hof] at H;have H2:=H.sub (AC _ _);refine⟨rfl,H.cm 0 rfl (show _=some (3:Int) from rfl) ⟨λ_=>rfl,H.cm 0 rfl (show _=some (v:Int) from rfl) ⟨λ_=>TI,aj.of l (H2.sl S hlr NE).2 ⟨λ_=>trivial,an ?_ λw20 h20=>⟨P.length - (e+1),by omega,e+1,by omega,rfl,by rw[av (by omega) (by omega)];omega,H2.ext h20⟩⟩⟩⟩⟩;rw[qK,decide_eq_false (by omega)];simp
end Go.Proofs.YtlcenllcmeebhaaGreat.Mu
