import Derived.Test.YtlcenllcmeebhaaGreatPHG
/-! What the statement leans on: texts joined and shortened by a program of mine. -/
set_option linter.unusedVariables false
set_option linter.unusedSimpArgs false
open List renaming length_map->A2,map_set->AC,getElem?_eq_getElem->Ad,append_assoc->Ae,perm_append_comm->Av,map_append->B1,length_append->B2,length_nil->B3,replicate->B4,map_eq_replicate_iff->B5
open Int renaming toNat_natCast->Ab
namespace Go.Proofs.YtlcenllcmeebhaaGreat.Mu
set_option maxRecDepth 100000
open Go.RX D
theorem abE {α:Type} (a b c d e:α) (t:List α):(d::e::b::a::c::t).Perm (a::b::c::d::e::t):=
 (((List.Perm.swap a b (c::t)).cons e).cons d).trans ((Av (l₁:=[d,e]) (l₂:=[a,b,c])).append_right t)
theorem MJ {w0 w:World} {bm bw bt bn bl:Nat} {rest:List Value} {d:List TR} {a b c g ca la:Int} {n:Nat} (H:aJ [] [] w0 w (LT bm bw bt bn bl rest d a b c ca la)) (T:TI d a b c g) (D:d.length=n) (E:n<=6)
 {P:Int×Int×Unit->World->Prop} (k: ∀w1,aJ [] [] w0 w1 (LT bm bw bt bn bl rest d a b c ca la)->P (c,(n:Int),()) w1):
 ∃(I:Nat->Int×Int×Unit->World->Prop),(∃(n:Nat), ∀(w1:World),Ext w w1->I n (0,0,()) w1)/\
  ∀(i:Nat) (s:Int×Int×Unit) (w1:World),I i s w1->
   aL (decide (s.snd.fst<(n:Int)))
    ((true=true/\0<=s.snd.fst/\s.snd.fst<(((n:Int).toNat:Nat):Int))/\
      aj w1 none (ad (some {block:=bt,off:=0}) (Int.toNat s.snd.fst*1)) (El.one (Sc.int IntKind.i64)) λ(x:Int)=>
       aL (x==2) (∀(f:World),Ext w1 f-> ∃(h:Nat),h<i/\I h (aB IntKind.i64 s.fst 1,aB IntKind.i64 s.snd.fst 1,()) f)
        (∀(f:World),Ext w1 f-> ∃(h:Nat),h<i/\I h (s.fst,aB IntKind.i64 s.snd.fst 1,()) f)) (P s w1):=by
 refine⟨λi st w1=> ∃j:Nat,j<=n/\i=n - j/\st.2.1=(j:Int)/\st.1=((d.take j).countP EZ:Nat)/\aJ [] [] w0 w1 (LT bm bw bt bn bl rest d a b c ca la),⟨n,λw1 h1=>⟨0,by omega,rfl,rfl,rfl,H.ext h1⟩⟩,?_⟩;clear H;rintro i ⟨o,y,u⟩ A ⟨j,F,B,hi,r,H⟩;have hi:y=(j:Int):=hi;have l:o=((d.take j).countP EZ:Nat):=r;clear r;subst hi B;have G:(d.take j).countP EZ<=6:=Nat.le_trans List.countP_le_length (by rw[List.length_take];omega);dsimp only;refine ab (λcc=>?_) (λcc=>?_)
 ·have t:j<n:=by have:=of_decide_eq_true cc;omega
  obtain⟨z,v⟩: ∃z,d[j]? =some z:=⟨_,Ad (by omega)⟩;have m:(d.take (j+1)).countP EZ=(d.take j).countP EZ+(if EZ z then 1 else 0):=by
   rw[List.take_add_one,v,List.countP_append];show _+List.countP EZ [z]= _;rw[List.countP_singleton]
  obtain⟨q,⟨st,tk,wi⟩,oF,sn⟩:=z;simp only[Ab];refine⟨⟨trivial,by omega,by omega⟩,aj.of oF (Oa H v) (ab (λc1 C p=>?_) (λc1 C p=>?_))⟩
  ·have e:EZ (q,(st,tk,wi),oF,sn)=true:=c1;rw[az e] at m;exact⟨n - (j+1),by omega,j+1,by omega,rfl,by show aB .i64 (j:Int) 1= _;rw[ax (by omega) (by omega)];omega,by show aB .i64 o 1= _;rw[l,ax (by omega) (by omega),m];omega,H.ext p⟩
  ·have e: ¬ EZ (q,(st,tk,wi),oF,sn)=true:=by
    have c1:(oF==2)=false:=c1;show ¬ (oF==2)=true;rw[c1];decide
   rw[au e] at m;exact⟨n - (j+1),by omega,j+1,by omega,rfl,by show aB .i64 (j:Int) 1= _;rw[ax (by omega) (by omega)];omega,by show o= _;rw[l,m];omega,H.ext p⟩
 ·have t:j=n:=by have:=of_decide_eq_false cc;omega
  subst t;rw[List.take_of_length_le (by omega), <-T.cc] at l;subst l;exact k A H
theorem Hl (t:Int) (h8:(Lit.int .u8 t).wf=true) (p:Option Addr) (m c0:Nat) (xs:List Int) (hm:m=xs.length) (hmx:m<=maxLen) {w:World} (hs:Sl w (.one (.int .u8)) p xs) (hxs: ∀x∈xs,(Lit.int .u8 x).wf=true):
 aE Tryz.prog 5 (.el (.one .bool)) [.int .u8 t,.slice p m c0] w (λb w'=>b=true/\Ext w w'):=by
 refine ai (C:=U6) (aT:=qX) (Eq.mpr (MC t p m c0 w _) ?_);rw[show aB .i64 1 (bH (aw .i64 t) 6)= _ from acj h8 1 6 (by decide) (by decide)];have V:1<=1+t.toNat % 6/\1+t.toNat % 6<=6:=by have:=Nat.mod_lt t.toNat (show 0<6 by decide);omega
 generalize 1+t.toNat % 6=n at V ⊢;refine _root_.Go.Proofs.YtlcenllcmeebhaaGreat.wY (n:=4) (At.start [] w) (by omega) λbm bw w1 H=>an rfl ?_;refine aK.go H λbk w2 H=>aC.all 0 H rfl rfl rfl λB H=>?_;refine⟨λi st w1=> ∃(j:Nat) (ys:List TR) (Ls:List (Nat×List Value)),j<=n/\i=n - j/\st.2.1=(j:Int)/\ys.length=j/\(∀x∈ys,x.2=((0,0,false),0,0))/\
  ((st.1=(none,0,0)/\ys.map JF=[]/\Ls=[])\/ ∃bs c rest,st.1=(some ⟨bs,0,none⟩,(ys.map JF).length,c)/\Ls=[(bs,flat Wl (ys.map JF)++rest)]/\(flat Wl (ys.map JF)++rest).length=c*aG Wl/\(ys.map JF).length<=c)/\
  aJ [] [] w w1 (Ls++([(bk,[aa 0]),(bm,iP bw 4 4 0 0),(bw,flat eW [0,0,0,0]++[])]++ys.map Wi)),⟨n,λw1 h1=>⟨0,[],[],by omega,rfl,rfl,rfl,λx r=>(by cases r),.inl ⟨rfl,rfl,rfl⟩,H.ext h1⟩⟩,?_⟩
 clear H;rintro i ⟨sl,P,u⟩ w4 ⟨j,ys,Ls,hj,Q,hi,J,K,R,H⟩;have hi:P=(j:Int):=hi;subst hi Q;dsimp only at R ⊢;refine ab (λcc=>?_) (λcc=>?_)
 ·have W:j<n:=by have:=of_decide_eq_true cc;omega
  refine aj.of ((0:Int),()) (dI (H.dp (bk,[aa 0]) (List.mem_append_right _ List.mem_cons_self)) rfl) ?_;refine Hk H λbh X H=>aK.go H λb2 Y H w7 h7=>?_;have L:(ys++[(bh,(0,0,false),0,0)]).map JF=ys.map JF++[some ⟨bh,0,none⟩]:=by rw[B1];rfl
  have H:=(H.ext h7).perm (L':=(b2,cellsOf Wl (ae bh))::(Ls++([(bk,[aa 0]),(bm,iP bw 4 4 0 0),(bw,flat eW [0,0,0,0]++[])]++(ys++[(bh,(0,0,false),0,0)]).map Wi))) (.cons _ (by
   rw[B1, <-Ae, <-Ae,Ae Ls];exact Av))
  refine aJ.grow (e:=Wl) (xs:=ys.map JF) (x:=some ⟨bh,0,none⟩) (Ls:=Ls) H R rfl rfl rfl (by rw[A2];omega) λbs D rest S A M H N h9=>⟨n - (j+1),by omega,j+1,ys++[(bh,(0,0,false),0,0)],[(bs, _)],by omega,rfl,by show aB .i64 (j:Int) 1= _;rw[ax (by omega) (by omega)];omega,by simp[J],λx r=>?_,.inr ⟨bs,D,rest,by rw[L,B2];rfl,by rw[L],by rw[L];exact A,by rw[L,B2];exact M⟩,H.ext h9⟩;rcases List.mem_append.1 r with r|r
  ·exact K x r
  ·rw[List.mem_singleton.1 r]
 have W:j=n:=by have:=of_decide_eq_false cc;omega
 subst W;rcases R with ⟨_,Z, _⟩|⟨bs,cs,rest,rfl,rfl,h3,h4⟩
 ·have:=congrArg List.length Z;rw[A2,B3] at this;omega
 refine E7.go H rfl (by omega) (by omega) (by omega) (by omega) λbt X H=>E7.go H rfl (by omega) (by omega) (by omega) (by omega) λbn Y H=>?_;have H:aJ [] [] w Y (LT bm bw bt bn bs rest ys 0 0 0 0 0):=by
  have q1:ys.map atT=B4 j 0:=by
   rw[<-J];exact B5.2 λx r=>by rw[atT,K x r]
  have q2:ys.map Z_=B4 j 0:=by
   rw[<-J];exact B5.2 λx r=>by rw[Z_,K x r]
  unfold LT;rw[q1,q2,gq,gq];rw[Ab] at H;simp only[List.append_nil] at H ⊢;refine(H.sub (L':=(bn, _)::(bt, _)::(bs, _)::(bm, _)::(bw, _)::ys.map Wi) (.cons_cons _ (.cons_cons _ (.cons_cons _ (List.sublist_cons_self _ _))))).perm ?_;exact abE _ _ _ _ _ _
 have hys:ys.map JF≠[]:=λe=>by
  have:=congrArg List.length e;rw[A2,B3] at this;omega
 refine⟨λi st w1=> ∃(k:Nat) (l:List TR) (a b c g ca la:Int),k<=m/\k<=300/\i=m - k/\st.2.1=(k:Int)/\st.1=g/\l.length=j/\a<=k/\TI l a b c g/\aJ [] [] w w1 (LT bm bw bt bn bs rest l a b c ca la),⟨m,λw1 h1=>⟨0,ys,0,0,0,0,0,0,by omega,by omega,rfl,rfl,rfl,J,by omega,TI.new K,H.ext h1⟩⟩,?_⟩;clear H;rintro i ⟨gn,P,u⟩ w7 ⟨k,l,a,b,c,g,ca,la,hk,hk3,Q,hi,hg9,hzl,ha,T,H⟩;have hi:P=(k:Int):=hi;have hg:gn=g:=hg9;clear hg9;subst hi Q hg;have hgc:=T.le;have CJ:=T.cle;have hg0:0<=gn:=by have:=T.gg;omega
 dsimp only;refine ab (λcc=>?_) (λcc=>?_)
 ·have hkm:k<m/\k<300:=by
   simp only[Bool.and_eq_true,decide_eq_true_eq] at cc;omega
  obtain⟨v,hv⟩: ∃v,xs[k]? =some v:=⟨_,Ad (by omega)⟩;obtain⟨a1,a2⟩:=(hs.ext H.all) k v hv;refine⟨⟨a1,by omega,by omega⟩,aj.of v (by rw[Ab];exact a2) ?_⟩;rw[ack (aaH (hxs v (List.mem_of_getElem? hv))) j (by omega)];have hd:v.toNat % j<j:=Nat.mod_lt _ (by omega);generalize v.toNat % j=d at hd ⊢;simp only[Ab];obtain⟨z,o⟩: ∃z,l[d]? =some z:=⟨_,Ad (by omega)⟩;obtain⟨q,⟨st,tk,wi⟩,oF,sn⟩:=z;have E:True/\0<=(d:Int)/\(d:Int)<(j:Int):=⟨trivial,by omega,by omega⟩;have go: ∀{w':World} {F:List TR} {a' G D g' pP Ai:Int},F.length=l.length->a'<=a+1->TI F a' G D g'->aJ [] [] w w' (LT bm bw bt bn bs rest F a' G D pP Ai)->
   ∀B,Ext w' B-> ∃n',n'<m - k/\ ∃(I:Nat) (l:List TR) (a b c g ca la:Int),I<=m/\I<=300/\n'=m - I/\aB .i64 (k:Int) 1=(I:Int)/\g'=g/\l.length=j/\a<=I/\TI l a b c g/\aJ [] [] w B (LT bm bw bt bn bs rest l a b c ca la):=λ{w' F a' G D g' pP Ai} q1 q2 q3 q4 B h3=>
   ⟨m - (k+1),by omega,k+1,F,a',G,D,g',pP,Ai,by omega,by omega,rfl,by rw[ax (by omega) (by omega)];omega,rfl,by omega,by omega,q3,q4.ext h3⟩
  refine⟨by omega,⟨rfl,by omega,by rw[A2];omega⟩,aj.of (ae q) (abD H o) (jG H (d+5) (F4 o) λS H=>⟨λ_=>E,aj.of oF (Oa H o) (ab (λc1=>?_) (λc1=>?_))⟩)⟩
  ·refine VU H T o (λe=>?_) (by omega) λF a' G g' SJ pP Ai N T' wq ha' O ⟨h',A,M⟩ H=>?_
   ·subst e;simpa using c1
   obtain⟨U,tk2,wi2⟩:=h';have A:U=SJ:=A;subst A;refine jG H (d+5) (F4 M) λl5 H=>ab (λc3=>?_) (λc3=>?_)
   ·have c3:(st != 3&&U==3)=true:=c3;rw[az c3] at O;rw[show aB .i64 gn 1=g' from by rw[ax (by omega) (by omega)];exact O.symm];exact go wq ha' T' H
   ·have c3:(st != 3&&U==3)=false:=c3;rw[c3,au (by decide),Int.add_zero] at O;subst O;exact go wq ha' T' H
  ·obtain⟨A,M⟩:st=2/\oF≠2:=by simpa using c1
   subst A;have hdz:d<(l.map atT).length:=by rw[A2];omega
   have hdn:d<(l.map Z_).length:=by rw[A2];omega
   refine⟨E,aj.of oF (Oa H o) (ab (λc4=>?_) (λc4=>?_))⟩
   ·have c4:oF=0:=by simpa using c4
    subst c4;refine sZ H 0 1 rfl rfl (by omega) rfl (by decide) 3 λN H=>⟨E,aC.flat 3 H (e:=eW) c rfl rfl rfl hdn λl5 H=>⟨E,aC.flat 2 H (e:=eI) 1 rfl rfl rfl hdz λmv H=>?_⟩⟩;refine go (by simp) (by omega) (T.see o) (pP:=qo [a,b,0,c] 3 ca) (Ai:=la) ?_;unfold LT;rw[ll (f:=JF) (y:=(q,(2,tk,wi),1,c)) o rfl,ll (f:=Wi) (y:=(q,(2,tk,wi),1,c)) o rfl,AC,AC];exact H
   ·have c4:oF=1:=by
     have h1:=(T.rw d _ o).at';have h1:oF=0\/oF=1\/oF=2:=h1;have Z:oF≠0:=by simpa using c4
     omega
    subst c4;obtain⟨e3,e4,T'⟩:=T.inc o;subst e4;have es:aB .u64 sn 1=sn+1:=yI (by omega) (by omega);refine⟨E,aj.of sn (abC H o) ?_⟩;rw[es];refine uO H 0 1 rfl rfl (by omega) rfl (by decide) 3 (sn+1) λN H=>⟨E,aC.flat 2 H (e:=eI) 2 rfl rfl rfl hdz λl5 H=>?_⟩;refine MH (h:=(2,tk,false)) H (d+5) (by show(l.map Wi)[d]? = _;rw[List.getElem?_map,o];rfl) rfl rfl λmv H=>?_;refine go (by simp) (by omega) T' (pP:=qo [a,b,0,c] 3 ca) (Ai:=qo [a,b,0,c] 3 la) ?_;unfold LT;rw[ll (f:=JF) (y:=(q,(2,tk,true),2,sn)) o rfl,ll (f:=Z_) (y:=(q,(2,tk,true),2,sn)) o rfl,AC,AC];exact H
 ·refine sZ H 0 1 rfl rfl (by omega) rfl (by decide) 3 λS H=>?_;have H:aJ [] [] w S (LT bm bw bt bn bs rest l a b c (qo [a,b,0,c] 3 ca) la):=H;refine MJ H T hzl V.2 λN H=>aF ?_ (aD.val H (s:= .el (.one .bool)) true (λB _=>Mz B) λw4 H=>ao.go H λX H=>⟨rfl,H.all⟩);show(c==aw .u64 c&&decide (gn<=c))=true;rw[dS ⟨by omega,by omega⟩,decide_eq_true hgc];simp
end Go.Proofs.YtlcenllcmeebhaaGreat.Mu
