import Derived.Test.YtlcenllcmeebhaaGreatPGB
/-! What the statement leans on: texts joined and shortened by a program of mine. -/
set_option linter.unusedVariables false
set_option linter.unusedSimpArgs false
open Go renaming World->A2,Addr->AI,Value->Ag,MapEntry->B1,TypeId->BY
open Go.Proofs.Tryz renaming prog->AC
open Eq renaming mpr->Aq
open List renaming sublist_cons_self->B2,getElem?_eq_getElem->B3,getElem?_eq_some_iff->B5,getD_eq_getElem?_getD->B6,replicate->BJ,set_set->Bx,mem_append_right->CW,mem_cons_of_mem->DA,append_nil->DB,mem_map->DH,range->DQ,mem_cons_self->Dc,getElem?_set_self->Dk,append_assoc->Dn,mem_append_left->Do,sublist_append_left->Dq,getElem?_set_ne->E4,ext_getElem?->E5,length_append->FQ,take_of_length_le->FR,mem_cons->FS,mem_of_getElem?->FU,getElem?_of_mem->Fg,length_take->Fi,perm_append_comm->Ft,take_append_of_le_length->Fw,take_append_drop->Fx,map_append->G1,range_succ->GD,filter_cons->GF,mem_range->GG,length_map->GH,length_cons->GI,length_nil->GJ,getElem?_append_right->GS,length_set->Ga,set_append_left->Gd,drop_eq_nil_of_le->Gi,drop_drop->Gj,getElem?_take_of_lt->H4,getElem_mem->I1,getElem?_append_left->I2,nodup_cons->ID,mem_append->IR,filter_append->If,mem_filter->Ih,length_filter_le->Ik,find?_range_eq_some->In,take_add_one->Io,getElem?_map->J3,getElem?_eq_none->J5,cons_append->J6,take_length->J7
open And renaming intro->B4
open Go.IntKind renaming i64->B7
open Nat renaming zero_add->BP,le_refl->Dg,le_trans->F2,zero_le->Fm,add_mul->Fo,zero_mul->H5,blt_eq->H6,add_zero->H7,eq_of_beq_eq_true->HB,ne_of_beq_eq_false->HZ,min_eq_left->JR
open Go.Instr renaming findNow->Dj,sameNow->JS
open Bool renaming or_eq_true->Dr,and_eq_true->Dx,or_eq_false_iff->FE,not_eq_true'->FP,and_eq_false_iff->Hb,false_eq_true->Hh,true_eq_false->Hq,not_eq_false'->Hr,eq_iff_iff->JU
namespace Go.Proofs.YtlcenllcmeebhaaGreat
set_option maxRecDepth 100000
open Go.RX
def tookS (fr pg wt lv:Int) (fd:FT) (ep:Bool) (er:Int) (el:Bool) (ef:Int):Int×Int×FT:=
 if(!ep)=true then(fr,-1,wS lv 4)
 else if(fG ep er el ef&&decide (lv>0))=true then(ef,aX .i64 lv 1,fd)
 else if(el&&lv==1)=true then(fr,-1,xQ lv wt (aI .i64 ef (ff pg 16)) ep er el ef)
 else if(!el&&decide (er>0)&&lv==0)=true then(fr,-1,xQ lv wt ef ep er el ef)
 else(fr,-1,wS lv 11)
section
variable {D G:List Nat} {w0 w:A2} {L:List (Nat×List Ag)} {bk bp be:Nat} {fr pg wt lv:Int} {fd:FT} {s:Option AI×Nat×Nat} {ep:Bool} {er:Int} {el:Bool} {ef:Int}
theorem QK (H:aK D G w0 w L) (a j:Nat) (c:L[a]? =some (bp,[ag (ae bk)])) (d:L[j]? =some (bk,lN fr pg wt lv fd s)) {K:Unit->A2->Prop}
 (k: ∀b,aK D G w0 b (L.set j (bk,lN fr pg wt (-1) (wS lv 4) s))->K () b):aD AC 95 (.bu []) [ag (ae bp)] w K:=by
 refine ai (C:=M1) (aQ:=λ_=>[]) (Aq (QD _ w K) ?_);exact aj.at a H c rfl (pQ H j d 0 0 0 4 λf H=>ao.go H λe H=>k e H)
theorem QL (H:aK D G w0 w L) (a j:Nat) (c:L[a]? =some (bp,[ag (ae bk)])) (d:L[j]? =some (bk,lN fr pg wt lv fd s)) {K:Unit->A2->Prop}
 (k: ∀b,aK D G w0 b (L.set j (bk,lN fr pg wt (-1) (wS lv 11) s))->K () b):aD AC 102 (.bu []) [ag (ae bp)] w K:=by
 refine ai (C:=M1) (aQ:=λ_=>[]) (Aq (QH _ w K) ?_);exact aj.at a H c rfl (pQ H j d 0 0 0 11 λf H=>ao.go H λe H=>k e H)
theorem QM (H:aK D G w0 w L) (e a j:Nat) (f:L[e]? =some (be,[.bool ep,aa er,.bool el,aa ef])) (b:L[a]? =some (bp,[ag (ae bk)])) (c:L[j]? =some (bk,lN fr pg wt lv fd s)) (g:j≠a) {K:Unit->A2->Prop}
 (k: ∀d,aK D G w0 d (L.set j (bk,lN ef pg wt (aX .i64 lv 1) fd s))->K () d):aD AC 97 (.bu []) [ag (ae be),ag (ae bp)] w K:=by
 refine ai (C:=M1) (aQ:=λ_=>[]) (Aq (QE _ _ w K) ?_);have h:j<L.length:=(B5.1 c).1;refine aj.at a H b rfl (aj.at a H b rfl ⟨rfl,aj.cq e H f rfl (aj.at a H b rfl ⟨rfl,rfl,aj.cq j H c rfl ⟨rfl,rfl,?_⟩⟩)⟩);refine aA.gx j H c rfl rfl λd H=>⟨trivial,?_,rfl,rfl,?_⟩
 ·exact dR (H.get (i:=a) (by rw[E4 g];exact b)) rfl
 ·refine aA.gx j H (Dk h) rfl rfl λm H=>ao.go H λl H=>k l ?_;rw[Bx] at H;exact H
theorem QN (H:aK D G w0 w L) (a b j:Nat) (c:L[a]? =some (be,[.bool ep,aa er,.bool el,aa ef])) (d:L[b]? =some (bp,[ag (ae bk)])) (e:L[j]? =some (bk,lN fr pg wt lv fd s)) {K:Unit->A2->Prop}
 (k: ∀f,aK D G w0 f (L.set j (bk,lN fr pg wt (-1) (xQ lv wt (aI .i64 ef (ff pg 16)) ep er el ef) s))->K () f):aD AC 98 (.bu []) [ag (ae bp),ag (ae be)] w K:=by
 refine ai (C:=M1) (aQ:=λ_=>[]) (Aq (QF _ _ w K) ?_);have g:gK 1=16:=rfl;rw[g];refine aj.at b H d rfl ⟨rfl,aj.cq a H c rfl (aj.at b H d rfl ⟨rfl,rfl,aj.cq j H e rfl ⟨trivial,by decide,aj.at a H c rfl ?_⟩⟩)⟩;exact O9 H j e _ ep er el ef λi H=>ao.go H λh H=>k h H
theorem QO (H:aK D G w0 w L) (a b j:Nat) (c:L[a]? =some (be,[.bool ep,aa er,.bool el,aa ef])) (e:L[b]? =some (bp,[ag (ae bk)])) (f:L[j]? =some (bk,lN fr pg wt lv fd s)) {K:Unit->A2->Prop}
 (k: ∀d,aK D G w0 d (L.set j (bk,lN fr pg wt (-1) (xQ lv wt ef ep er el ef) s))->K () d):aD AC 101 (.bu []) [ag (ae bp),ag (ae be)] w K:=by
 refine ai (C:=M1) (aQ:=λ_=>[]) (Aq (QG _ _ w K) ?_);refine aj.at b H e rfl ⟨rfl,aj.cq a H c rfl (aj.at a H c rfl ?_)⟩;exact O9 H j f _ ep er el ef λh H=>ao.go H λg H=>k g H
theorem UX (H:aK D G w0 w L) (j:Nat) (o:L[j]? =some (bk,lN fr pg wt lv fd s)) (ep:Bool) (er:Int) (el:Bool) (ef:Int) {K:Unit->A2->Prop}
 (k: ∀E,aK D G w0 E (L.set j (bk,lN (tookS fr pg wt lv fd ep er el ef).1 pg wt (tookS fr pg wt lv fd ep er el ef).2.1 (tookS fr pg wt lv fd ep er el ef).2.2 s))->K () E):
 az AC 61 (.bu []) [ag (ae bk),.agg ⟨[.bool ep,aa er,.bool el,aa ef]⟩] w K:=by
 refine az.go H λw1 H=>ai (C:=M3) (aQ:=vT) (Aq (UT _ ep er el ef w1 K) ?_);refine aM.go H λbp E H=>aM.go H λbe V H=>⟨rfl,aj.cq 0 H rfl rfl (aj.at 0 H rfl rfl ⟨trivial,aj.at 1 H rfl rfl ⟨λ_=>rfl,λ_=>rfl,aj.cq (j+2) H o rfl ⟨rfl,aj.cq 0 H rfl rfl (aj.at 1 H rfl rfl ⟨λ_=>rfl,λ_=>rfl,aj.cq (j+2) H o rfl ⟨rfl,aj.cq 0 H rfl rfl ⟨λ_=>rfl,aj.cq 0 H rfl rfl (aj.at 1 H rfl rfl ⟨λ_=>rfl,λ_=>rfl,aj.cq (j+2) H o rfl ?_⟩)⟩⟩⟩)⟩⟩⟩)⟩;refine aM.go H λbs W H=>?_;dsimp only at H ⊢;generalize J:(!ep)=c0 at H;generalize M:(fG ep er el ef&&decide (lv>0))=c1 at H;generalize N:(el&&lv==1)=c2 at H;generalize O:(!el&&decide (er>0)&&lv==0)=c3 at H;have g:tookS fr pg wt lv fd ep er el ef=if c0=true then(fr,-1,wS lv 4) else if c1=true then(ef,aX .i64 lv 1,fd) else if c2=true then(fr,-1,xQ lv wt (aI .i64 ef (ff pg 16)) ep er el ef) else if c3=true then(fr,-1,xQ lv wt ef ep er el ef) else(fr,-1,wS lv 11):=by
  unfold tookS;rw[J,M,N,O]
 clear J M N O;refine⟨λn s' w'=> ∃i:Nat,s'.1=i/\n+i=5/\((0<i->c0=false)/\(1<i->c1=false)/\(2<i->c2=false)/\(3<i->c3=false)/\i<5)/\aK D G w0 w' ((bs,[.bool c0,.func (.func 95) ⟨[]⟩ ⟨[ag (ae bp)]⟩,.bool c1,.func (.func 97) ⟨[]⟩ ⟨[ag (ae be),ag (ae bp)]⟩,
  .bool c2,.func (.func 98) ⟨[]⟩ ⟨[ag (ae bp),ag (ae be)]⟩,.bool c3,.func (.func 101) ⟨[]⟩ ⟨[ag (ae bp),ag (ae be)]⟩,.bool true,.func (.func 102) ⟨[]⟩ ⟨[ag (ae bp)]⟩])::(be,[.bool ep,aa er,.bool el,aa ef])::(bp,[ag (ae bk)])::L),
  ⟨5,λS T=>⟨0,rfl,rfl,⟨λh=>absurd h (by decide),λh=>absurd h (by decide),λh=>absurd h (by decide),λh=>absurd h (by decide),by decide⟩,H.ext T⟩⟩,?_⟩
 clear H;rintro n ⟨X,u⟩ S ⟨i,hi,Y,⟨b,l,F,U,Z⟩,H⟩;simp only at hi;subst hi;dsimp only;have m: ∀{x y z q:Nat×List Ag},(x::y::z::q::L)[j+4]? =some (bk,lN fr pg wt lv fd s):=o;have fin: ∀{x y z q:Nat×List Ag} {d:A2} {P Q:Int} {R:FT},tookS fr pg wt lv fd ep er el ef=(P,Q,R)->aK D G w0 d (x::y::z::q::L.set j (bk,lN P pg wt Q R s))->K () d:=λe H=>by
  rw[e] at k;exact k _ ((((H.sub (B2 _ _)).sub (B2 _ _)).sub (B2 _ _)).sub (B2 _ _))
 have p:aI .i64 (i:Int) 1=((i+1:Nat):Int):=by rw[aw (by omega) (by omega)];rfl
 rcases(by omega:i=0\/i=1\/i=2\/i=3\/i=4) with rfl|rfl|rfl|rfl|rfl
 ·refine aB rfl ⟨⟨rfl,by decide,by decide⟩,aj.cq 0 H rfl rfl (aM.go H λr t H=>aA.all 0 H rfl rfl rfl λv H=>⟨rfl,aj.cq 0 H rfl rfl (ab (λc=>⟨rfl,aj.cq 0 H rfl rfl ?_⟩) (λc I f=>⟨n - 1,by omega,1,p,by omega,⟨λ_=>c,λh=>absurd h (by decide),λh=>absurd h (by decide),λh=>absurd h (by decide),by decide⟩,(H.sub (B2 _ _)).ext f⟩))⟩)⟩;unfold zO;refine λd a=>⟨_,⟨[]⟩,⟨[ag (ae bp)]⟩,rfl,by kernel_rfl,QK (H.ext a) 3 (j+4) rfl m λA H=>ao.go H λB H=>fin ?_ H⟩;rw[g,ay c]
 ·refine aB rfl ⟨⟨rfl,by decide,by decide⟩,aj.cq 0 H rfl rfl (aM.go H λr t H=>aA.all 0 H rfl rfl rfl λv H=>⟨rfl,aj.cq 0 H rfl rfl (ab (λc=>⟨rfl,aj.cq 0 H rfl rfl ?_⟩) (λc I f=>⟨n - 1,by omega,2,p,by omega,⟨λ_=>b (by decide),λ_=>c,λh=>absurd h (by decide),λh=>absurd h (by decide),by decide⟩,(H.sub (B2 _ _)).ext f⟩))⟩)⟩;unfold zO;refine λd a=>⟨_,⟨[]⟩,⟨[ag (ae be),ag (ae bp)]⟩,rfl,by kernel_rfl,QM (H.ext a) 2 3 (j+4) rfl rfl m (by omega) λA H=>ao.go H λB H=>fin ?_ H⟩;rw[g,au (by rw[b (by decide)];decide),ay c]
 ·refine aB rfl ⟨⟨rfl,by decide,by decide⟩,aj.cq 0 H rfl rfl (aM.go H λr t H=>aA.all 0 H rfl rfl rfl λv H=>⟨rfl,aj.cq 0 H rfl rfl (ab (λc=>⟨rfl,aj.cq 0 H rfl rfl ?_⟩) (λc I f=>⟨n - 1,by omega,3,p,by omega,⟨λ_=>b (by decide),λ_=>l (by decide),λ_=>c,λh=>absurd h (by decide),by decide⟩,(H.sub (B2 _ _)).ext f⟩))⟩)⟩;unfold zO;refine λd a=>⟨_,⟨[]⟩,⟨[ag (ae bp),ag (ae be)]⟩,rfl,by kernel_rfl,QN (H.ext a) 2 3 (j+4) rfl rfl m λA H=>ao.go H λB H=>fin ?_ H⟩;rw[g,au (by rw[b (by decide)];decide),au (by rw[l (by decide)];decide),ay c]
 ·refine aB rfl ⟨⟨rfl,by decide,by decide⟩,aj.cq 0 H rfl rfl (aM.go H λr t H=>aA.all 0 H rfl rfl rfl λv H=>⟨rfl,aj.cq 0 H rfl rfl (ab (λc=>⟨rfl,aj.cq 0 H rfl rfl ?_⟩) (λc I f=>⟨n - 1,by omega,4,p,by omega,⟨λ_=>b (by decide),λ_=>l (by decide),λ_=>F (by decide),λ_=>c,by decide⟩,(H.sub (B2 _ _)).ext f⟩))⟩)⟩;unfold zO;refine λd a=>⟨_,⟨[]⟩,⟨[ag (ae bp),ag (ae be)]⟩,rfl,by kernel_rfl,QO (H.ext a) 2 3 (j+4) rfl rfl m λA H=>ao.go H λB H=>fin ?_ H⟩;rw[g,au (by rw[b (by decide)];decide),au (by rw[l (by decide)];decide),au (by rw[F (by decide)];decide),ay c]
 ·refine aB rfl ⟨⟨rfl,by decide,by decide⟩,aj.cq 0 H rfl rfl (aM.go H λr t H=>aA.all 0 H rfl rfl rfl λv H=>⟨rfl,aj.cq 0 H rfl rfl (aB rfl ⟨rfl,aj.cq 0 H rfl rfl ?_⟩)⟩)⟩;unfold zO;refine λd a=>⟨_,⟨[]⟩,⟨[ag (ae bp)]⟩,rfl,by kernel_rfl,QL (H.ext a) 3 (j+4) rfl m λA H=>ao.go H λB H=>fin ?_ H⟩;rw[g,au (by rw[b (by decide)];decide),au (by rw[l (by decide)];decide),au (by rw[F (by decide)];decide),au (by rw[U (by decide)];decide)]
end
def BO (Ls:List (Nat×List Ag)) (s:Option AI×Nat×Nat) (xs:List Int):Prop:=
 (s=(none,0,0)/\xs=[]/\Ls=[])\/ ∃bs c rest,s=(some ⟨bs,0,none⟩,xs.length,c)/\Ls=[(bs,flat eI xs++rest)]/\(flat eI xs++rest).length=c*aE eI/\xs.length<=c
def okW (ws:List Int):Prop:= ∀x∈ws,0<=x/\x<18446744073709551616
def bF (ws:List Int) (pg wt:Int) (x:Int×Int×FT):Int×Int×FT:=
 if x.2.1= -1 then x
 else if(!ux (B (dE ws (dX x.1 pg x.2.1))).toNat||wH ws (dX x.1 pg x.2.1) != 0)=true then(x.1,-1,wS x.2.1 11)
 else tookS x.1 pg wt x.2.1 x.2.2 (Ib (B (dE ws (dX x.1 pg x.2.1))).toNat) (FB (B (dE ws (dX x.1 pg x.2.1))).toNat) (JZ (B (dE ws (dX x.1 pg x.2.1))).toNat) (Fk (B (dE ws (dX x.1 pg x.2.1))).toNat)
theorem Gc {ws:List Int} (h:okW ws) (i:Int):0<=dE ws i/\dE ws i<18446744073709551616:=by
 unfold dE;split
 ·rename_i hi;rw[iX] at hi;rw[B6,B3 (by omega)];exact h _ (I1 _)
 ·exact⟨by decide,by decide⟩
section
variable {D G:List Nat} {w0 w:A2} {L L0 Ls:List (Nat×List Ag)} {bk bm bw n c:Nat} {ca la fr pg wt lv:Int} {fd:FT} {s:Option AI×Nat×Nat} {ws xs:List Int} {rest:List Ag}
theorem QP (hb:bL w bk (lN fr pg wt lv fd s)) (a:lv≠ -1):aD AC 58 (.el (.agg sA)) [ag (ae bk)] w (λx w'=>x=(1,dX fr pg lv,0,0,())/\Ext w w'):=by
 refine aP (C:=M1) (aQ:=λ_=>[]) (Aq (QC _ w _) ?_);have H:=At.start [] w;refine aM.go H λb c H=>⟨λ_=>rfl,λ_=>rfl,aj.kZ H hb (by simp) rfl ⟨λ_=>rfl,λ_=>rfl,aj.kZ H hb (by simp) rfl (an (by simp[a]) ?_)⟩⟩;refine⟨rfl,rfl,aj.kZ H hb (by simp) rfl ⟨rfl,rfl,aj.kZ H hb (by simp) rfl ⟨rfl,rfl,aj.kZ H hb (by simp) rfl ⟨trivial,aA.all 0 H rfl rfl rfl λd H=>ao.go H λe H=>aj.at 0 H rfl rfl ⟨rfl,H.all⟩⟩⟩⟩⟩
theorem Ec (H:At G w0 w ((bk,lN fr pg wt lv fd s)::(bm,lU bw n c ca la)::(bw,flat eW ws++rest)::(Ls++L0))) (r:BO Ls s xs) (L:xs.length<=1000) (t:n=ws.length) (h0:0<n) (u:okW ws) (d:lv≠ -1) {K:Bool->A2->Prop}
 (k: ∀e g s',BO g s' (xs++[fr])->At G w0 e ((bk,lN (bF ws pg wt (fr,lv,fd)).1 pg wt (bF ws pg wt (fr,lv,fd)).2.1 (bF ws pg wt (fr,lv,fd)).2.2 s')::(bm,lU bw n c (wI ws (dX fr pg lv) ca) la)::(bw,flat eW ws++rest)::(g++L0))->K ((bF ws pg wt (fr,lv,fd)).2.1== -1) e):
 az AC 22 (.el (.one .bool)) [ag (ae bk),ag (ae bm)] w K:=by
 refine az.go H λw1 H=>ai (C:=M1) (aQ:=λ_=>[]) (Aq (QI _ _ w1 K) ?_);refine⟨λ_=>rfl,λ_=>rfl,aj.cq 0 H rfl rfl (an rfl ⟨rfl,rfl,aj.cq 0 H rfl rfl (an (by simp[d]) ?_)⟩)⟩;refine⟨(1,dX fr pg lv,0,0,()),af.of (s:= .el (.agg sA)) λw' h'=>QP ((H.get (i:=0) rfl).ext h') d,?_⟩;refine aa9 H rfl 1 2 rfl rfl (by decide) t h0 (dX fr pg lv) 0 0 λe H=>?_;refine aM.go H λb M H=>aA.all 0 H rfl rfl rfl λN H=>⟨rfl,rfl,aj.cq 1 H rfl rfl ⟨rfl,rfl,aj.cq 1 H rfl rfl (aM.go H λh O H=>λz A=>?_)⟩⟩;have H:=H.ext A;dsimp only at H ⊢;generalize hv:dE ws (dX fr pg lv)=v at H ⊢;generalize D:wH ws (dX fr pg lv)=er at H ⊢;have j:0<=v/\v<18446744073709551616:=by rw[<-hv];exact Gc u _
 have H:At G w0 z ([(h,cellsOf eI fr)]++([(b,[ax v,.bool false,aa er]),(bk,lN fr pg wt lv fd s),(bm,lU bw n c (wI ws (dX fr pg lv) ca) la),(bw,flat eW ws++rest)]++(Ls++L0))):=H;have H:=H.perm (L':=(h,cellsOf eI fr)::(Ls++([(b,[ax v,.bool false,aa er]),(bk,lN fr pg wt lv fd s),(bm,lU bw n c (wI ws (dX fr pg lv) ca) la),(bw,flat eW ws++rest)]++L0))) (.cons _ (by
  rw[<-Dn, <-Dn];exact List.Perm.append_right _ Ft))
 refine aK.grow H r rfl rfl rfl (by omega) λbs m a P E F H=>⟨rfl,rfl,aA.gx 2 H rfl rfl rfl λQ H=>⟨rfl,aj.cq 1 H rfl rfl ?_⟩⟩;have I:U (B v)=v:=BS j.1 j.2;refine⟨I,aM.go H λR S H=>aA.all 0 H rfl rfl rfl λT H=>⟨λ_=>rfl,aj.cq 2 H rfl rfl ?_⟩⟩;have o:bF ws pg wt (fr,lv,fd)=if(!ux (B v).toNat||er != 0)=true then(fr,-1,wS lv 11) else tookS fr pg wt lv fd (Ib (B v).toNat) (FB (B v).toNat) (JZ (B v).toNat) (Fk (B v).toNat):=by
  unfold bF;simp only[hv,D];rw[au d]
 have p:BO [(bs,flat eI (xs++[fr])++a)] (some ⟨bs,0,none⟩,xs.length+1,m) (xs++[fr]):= .inr ⟨bs,m,a,by rw[FQ];rfl,rfl,E,by rw[FQ];exact F⟩;have q: ∀{w:A2} {x y:Nat×List Ag} {l:List Ag},At G w0 w (x::(bs,flat eI (xs++[fr])++a)::y::(bk,l)::(bm,lU bw n c (wI ws (dX fr pg lv) ca) la)::(bw,flat eW ws++rest)::L0)->At G w0 w ((bk,l)::(bm,lU bw n c (wI ws (dX fr pg lv) ca) la)::(bw,flat eW ws++rest)::([(bs,flat eI (xs++[fr])++a)]++L0)):=λ{w x y l} H=>by
  have H:=H.sub (B2 _ _);have H:=H.sub (L':=[(bs,flat eI (xs++[fr])++a)]++([(bk,l),(bm,lU bw n c (wI ws (dX fr pg lv) ca) la),(bw,flat eW ws++rest)]++L0)) (.cons_cons _ (B2 _ _));refine H.perm ?_;refine List.Perm.trans (l₂:=[(bk,l),(bm,lU bw n c (wI ws (dX fr pg lv) ca) la),(bw,flat eW ws++rest)]++([(bs,flat eI (xs++[fr])++a)]++L0)) (.refl _) ?_;rw[<-Dn, <-Dn];exact List.Perm.append_right _ Ft
 refine ab (λc1=>?_) (λc1=>aj.at 0 H rfl rfl ?_)
 ·rw[o,ay c1] at k;exact pQ H 3 rfl 0 0 0 11 λJ H=>ao.go H λf H=>k f _ _ p (q H)
 ·rw[o,au (by rw[c1];decide)] at k;refine UX H 3 rfl _ _ _ _ λJ H=>⟨rfl,rfl,aj.cq 3 H rfl rfl (ao.go H λf H=>k f _ _ p (q H))⟩
theorem UY (hb:bL w bk (lN fr pg wt lv fd s)):aD AC 24 (.bu [.agg sF,.one .bool]) [ag (ae bk)] w (λx w'=>x=(if lv= -1 then(fd,true,()) else((0,0,0,0,()),false,()))/\Ext w w'):=by
 obtain⟨f0,f1,f2,f3,f⟩:=fd;refine aP (C:=M1) (aQ:=λ_=>[]) (Aq (UU _ w _) ?_);have H:=At.start [] w;refine aM.go H λb g H=>⟨λ_=>rfl,λ_=>rfl,aj.kZ H hb (by simp) rfl ⟨λ_=>rfl,λ_=>rfl,aj.kZ H hb (by simp) rfl (ab (λc=>?_) (λc=>?_))⟩⟩
 ·have a:lv≠ -1:=by simpa using c
  rw[au a];exact aA.all 0 H rfl rfl rfl λd H=>ao.go H λe H=>aj.at 0 H rfl rfl ⟨rfl,H.all⟩
 ·have a:lv= -1:=by simpa using c
  rw[ay a];refine⟨rfl,rfl,aj.kZ (x:=(f0,f1,f2,f3,())) H hb (by simp) rfl ?_⟩;exact aA.all 0 H rfl rfl rfl λd H=>ao.go H λe H=>aj.at 0 H rfl rfl ⟨rfl,H.all⟩
def uM (f p t:Int):Bool:=decide (dX f p 3<0)||decide (t<0)||decide (t>7)
theorem I4 (H:aK D G w0 w L) (f p t:Int) {K:Option AI->A2->Prop} (hb:uM f p t=true-> ∀w1,aK D G w0 w1 L->K none w1)
 (d:uM f p t=false-> ∀bk w1,aK D G w0 w1 ((bk,lN f p t 3 (0,0,0,0,()) (none,0,0))::L)->K (ae bk) w1):
 az AC 20 (.el (.one .ptr)) [aa f,aa p,aa t] w K:=by
 refine az.go H λw1 H=>ai (C:=M1) (aQ:=λ_=>[]) (Aq (UR f p t w1 K) ?_);refine aM.go H λb e H=>⟨trivial,ab (λc=>ao.go H λa H=>hb c a (H.sub (B2 _ _))) (λc=>ao.go H λa H=>d c b a H)⟩
end
section
variable {D G:List Nat} {w0 w:A2}
theorem _root_.Go.RX.aK.aa_ {e:El} {s:Option AI×Nat×Nat} {xs ys:List e.T} {b U:Nat} {I:List Ag} {Ls L0:List (Nat×List Ag)} (H:aK D G w0 w ((b,flat e ys++I)::(Ls++L0))) (d:ys≠[])
 (o:(s=(none,0,0)/\xs=[]/\Ls=[])\/ ∃bs c rest,s=(some ⟨bs,0,none⟩,xs.length,c)/\Ls=[(bs,flat e xs++rest)]/\(flat e xs++rest).length=c*aE e/\xs.length<=c)
 (V:gT e=true) {t:BY} {size bytes:Nat} {z:Array Ag} (q:size=aE e) (W:z.size=aE e) (hb:(xs.length+ys.length)*bytes<=140737488355328)
 {R:Option AI×Nat×Nat->A2->Prop} (k: ∀bs c rest w',(flat e (xs++ys)++rest).length=c*aE e->(xs++ys).length<=c->aK D G w0 w' ((bs,flat e (xs++ys)++rest)::L0)->R (some ⟨bs,0,none⟩,(xs++ys).length,c) w'):
 mz w t size bytes z s (some ⟨b,0,none⟩,ys.length,U) R:=by
 subst q;have X:(vu 0 w).heap.size=0:=iA (Fm _);have Y:lM (vu 0 w) w e s xs:=by
  rcases o with ⟨rfl,rfl, _⟩|⟨bs,c,rest,rfl,rfl,h1,v⟩
  ·exact lM.nil _ _ _
  ·refine⟨rfl,v,.inr ⟨bs, _,rfl,by rw[X];exact Fm _,H.get (i:=1) rfl,h1,?_⟩⟩;rw[Fw (by rw[aF];exact Dg _),FR (by rw[aF];exact Dg _)]
 have Z:bL w b (flat e ys++I):=H.get (i:=0) rfl;refine lC (ys:=ys) Y (p8 (Fm _)) V rfl ?_ W hb λs' w' xM g J q K=>?_
 ·refine Z.oB (aF e ys) λj hj=>?_;rw[BP,I2 (by rw[aF];exact hj)]
 ·obtain⟨p,n,c⟩:=s';obtain⟨h1,v,L⟩:=xM;simp only at h1 v L K;have hyl:0<ys.length:=List.length_pos_iff.2 d;have hlen:(xs++ys).length=xs.length+ys.length:=by simp
  rcases L with ⟨_,M, _⟩|⟨bs,l,a1, _,a3,a4,a5⟩
  ·simp at M;exact absurd M.2 d
  ·subst a1;subst h1;have el:l=flat e (xs++ys)++l.drop ((xs++ys).length*aE e):=by rw[<-a5,Fx]
   refine k bs c (l.drop ((xs++ys).length*aE e)) w' (by rw[<-el];exact a4) v ?_;rw[<-el];have hG': ∃C,Fr C w w'/\(∀y∈C,y∈Ls.map (·.1)):=by
    rcases o with ⟨rfl, _,rfl⟩|⟨bo,co,N,rfl,rfl, _, _⟩
    ·exact⟨[],⟨g.os,g.tape,g.output,q,λy d _=>J y d (λa E=>by cases E)⟩,λy d=>by cases d⟩
    ·exact⟨[bo],⟨g.os,g.tape,g.output,q,λy d hn=>J y d (λa E=>by cases E;simpa using hn)⟩,λy d=>by simpa using d⟩
   obtain⟨C,O,F⟩:=hG';have x:=H.nd;simp only[List.map_cons,G1,ID,List.nodup_append,IR] at x;have P: ∀y∈Ls.map (·.1),w0.heap.size<=y\/y∈G:=λy d=>by
    obtain⟨u,m,rfl⟩:=DH.1 d;exact H.own u (DA _ (Do _ m))
   have Q:bs∈Ls.map (·.1)\/w.heap.size<=bs:=by
    rcases K with ⟨a,f,A⟩|⟨a,f,A⟩|f
    ·cases f;rcases o with ⟨rfl, _, _⟩|⟨bo,co,N,rfl,rfl, _, _⟩
     ·cases A
     ·cases A;exact .inl (by simp)
    ·cases f;exact .inr A
    ·rcases o with ⟨rfl,rfl, _⟩|⟨bo,co,N,rfl,rfl, _, _⟩
     ·cases f
     ·have S:=congrArg (λz=>z.2.1) f;simp at S;exact absurd S d
   refine H.frame O (λy d=>P y (F y d)) (λr hr d=>?_) (λy d=>?_) (λy d=>?_) ?_
   ·obtain⟨u,m,f⟩:=DH.1 (F r d);exact aK.da (H.db u (DA _ (Do _ m))) (H.pL r hr).2 (λ_ _ _ hc=>by cases hc) f
   ·rcases FS.1 d with rfl|d
    ·exact a3
    ·refine O.db (λB=>?_) (H.db y (DA _ (CW _ d)));exact x.2.2.2 y.1 (F _ B) y.1 (DH.2 ⟨y,d,rfl⟩) rfl
   ·rcases FS.1 d with rfl|d
    ·rcases Q with h|h
     ·exact P _ h
     ·exact .inl (F2 H.fr.size h)
    ·exact H.own y (DA _ (CW _ d))
   ·refine ID.2 ⟨λB=>?_,x.2.2.1⟩;rcases Q with h|h
    ·exact x.2.2.2 bs h bs B rfl
    ·obtain⟨u,m,f⟩:=DH.1 B;have:=(H.db u (DA _ (CW _ m))).lt;simp only at f h;omega
end
abbrev mA (br n c:Nat):List Ag:=[.slice (ae br) n c]
def lV (gs:List GT) (i:Int):Option Nat:=if 0<=i/\i<gs.length/\gs.getD i.toNat zG≠zG then some i.toNat else none
def wT (gs:List GT) (i:Int):GT:=match lV gs i with
 |some k=>gs.getD k zG
 |none=>zG
def gU (gs:List GT) (i g:Int) (b:Bool):Int:=match lV gs i with
 |none=>4
 |some k=>if((gs.getD k zG).2.2.1 != g||b&& !(gs.getD k zG).2.2.2.1)=true then 7 else if(gs.getD k zG).2.2.2.2.1=1000 then 3 else 0
def fC (x:GT) (n:Int):GT:=(x.1,x.2.1,x.2.2.1,x.2.2.2.1,x.2.2.2.2.1+n,())
def dW (gs:List GT) (i g:Int) (b:Bool):List GT:=if gU gs i g b=0 then gs.set i.toNat (fC (gs.getD i.toNat zG) 1) else gs
def mr (gs:List GT) (i g:Int):Int:=match lV gs i with
 |none=>4
 |some k=>if(gs.getD k zG).2.2.1≠g then 7 else if(gs.getD k zG).2.2.2.2.1=0 then 6 else 0
def eA (gs:List GT) (i g:Int):List GT:=if mr gs i g=0 then gs.set i.toNat (fC (gs.getD i.toNat zG) (-1)) else gs
def qG (gs:List GT) (i o:Int):Int:=match lV gs i with
 |none=>4
 |some k=>if(gs.getD k zG).1≠o then 7 else if(gs.getD k zG).2.2.2.2.1>0 then 9 else 0
def lh (gs:List GT) (i o:Int):List GT:=if qG gs i o=0 then gs.set i.toNat zG else gs
def de (gs:List GT) (p:GT->Bool) (n:Nat):List Int:=((DQ n).filter λ(i:Nat)=>p (gs.getD i zG)).map λ(i:Nat)=>(i:Int)
def jY (o q t:Int) (x:GT):Bool:=o==x.1&&(q==x.2.1&&t==x.2.2.1)
def eV (x:GT):Bool:=decide (x=zG)
def oI (g:Int) (x:GT):Bool:= !eV x&&(x.1==g||x.2.2.1==g)
def lj (gs:List GT) (o q t:Int):Int:=
 if(!gG o|| !gG t||o==t||decide (q<0)||decide (q>=65536))=true then 1
 else if de gs (jY o q t) gs.length≠[] then 5 else if de gs eV gs.length=[] then 3 else 0
def ki (gs:List GT) (o q t:Int):Int:=if lj gs o q t=0 then(de gs eV gs.length).headD 0 else 0
def jN (gs:List GT) (o q t:Int) (b:Bool):List GT:=if lj gs o q t=0 then gs.set (ki gs o q t).toNat (o,q,t,b,0,()) else gs
def cM (gs:List GT) (g:Int):List GT:=gs.map λx=>if oI g x=true then zG else x
theorem QQ (x:GT):mE x.1 x.2.1 x.2.2.1 x.2.2.2.1 x.2.2.2.2.1=eV x:=rfl
theorem rV (gs:List GT) (p:GT->Bool) (n:Nat):de gs p (n+1)=de gs p n++(if p (gs.getD n zG)=true then[(n:Int)] else[]):=by
 unfold de;rw[GD,If,G1];by_cases h:p (gs.getD n zG)=true
 ·rw[ay h,GF,ay h];rfl
 ·rw[au h,GF,au h];rfl
theorem qa {gs:List GT} {p:GT->Bool} {n:Nat} {x:Int}:x∈de gs p n<-> ∃i:Nat,i<n/\p (gs.getD i zG)=true/\x=(i:Int):=by
 unfold de;simp only[DH,Ih,GG];constructor
 ·rintro⟨i,⟨h1,a⟩,rfl⟩;exact⟨i,h1,a,rfl⟩
 ·rintro⟨i,h1,a,rfl⟩;exact⟨i,⟨h1,a⟩,rfl⟩
theorem qb (gs:List GT) (p:GT->Bool) (n:Nat):(de gs p n).length<=n:=by
 unfold de;rw[GH];exact F2 (Ik _ _) (by simp)
theorem ly {gs:List GT} {i:Int} {k:Nat} (h:lV gs i=some k):0<=i/\i<gs.length/\k=i.toNat/\gs[k]? =some (gs.getD k zG)/\gs.getD k zG≠zG:=by
 unfold lV at h;split at h
 ·rename_i c;cases h;refine⟨c.1,c.2.1,rfl,?_,c.2.2⟩;rw[B6,B3 (by omega)];rfl
 ·cases h
section
variable {D G:List Nat} {w0 w:A2} {L:List (Nat×List Ag)} {bg br c:Nat} {gs:List GT} {rest:List Ag}
theorem K8 (h:bL w bg (mA br gs.length c)) (h0:0<gs.length):aD AC 224 (.el (.one .bool)) [ag (ae bg)] w (λx w'=>x=true/\Ext w w'):=by
 refine ai (C:=G3) (aQ:=λ_=>[]) (Aq (KM _ w _) ?_);refine⟨λ_=>rfl,λ_=>rfl,(some ⟨br,0,none⟩,gs.length,c),λ_=>?_,λw1 h1=>⟨?_,h1⟩⟩
 ·rw[aV];exact h.om rfl
 ·simp;exact h0
theorem pk (h:bL w bg (mA br gs.length c)) (h0:0<gs.length):af AC 224 [ag (ae bg)] w (.bool true):=
 af.of (s:= .el (.one .bool)) λw' h'=>K8 (h.ext h') h0
def BU (br:Nat) (gs:List GT) (i:Int):Option AI:=(lV gs i).map λk=>⟨br,k*5,none⟩
def BV (gs:List GT) (i:Int):Int:=if(lV gs i).isSome then 0 else 4
theorem Zy (h:bL w bg (mA br gs.length c)) (j:bL w br (flat eG gs++rest)) (h0:0<gs.length) (i:Int):
 aD AC 221 (.bu [.one .ptr,.one (.int .i64)]) [ag (ae bg),aa i] w (λx w'=>x=(BU br gs i,BV gs i,())/\Ext w w'):=by
 refine ai (C:=G3) (aQ:=λ_=>[]) (Aq (Zp _ i w _) ?_);have f:cC w (ad (ae bg) 0) (.one .slice) (some ⟨br,0,none⟩,gs.length,c):=by rw[aV];exact h.om rfl
 refine⟨_,pk h h0,an rfl ⟨λ_=>rfl,λ_=>rfl,(some ⟨br,0,none⟩,gs.length,c),λ_=>f,λ_=>rfl,λ_=>rfl,(some ⟨br,0,none⟩,gs.length,c),λ_=>f,?_⟩⟩;dsimp only;have g:(lV gs i=none)->(BU br gs i,BV gs i,())=((none,4,()):Option AI×Int×Unit):=λe=>by
  unfold BU BV;rw[e];rfl
 by_cases b:0<=i/\i<gs.length
 ·have c1:(decide (i<0)||decide (i>=((gs.length:Nat):Int)))=false:=by
   rw[FE,decide_eq_false_iff_not,decide_eq_false_iff_not];omega
  have k:gs[i.toNat]? =some (gs.getD i.toNat zG):=by
   rw[B6,B3 (by omega)];rfl
  rw[c1];refine⟨λ_=>⟨rfl,b.1,b.2⟩,gs.getD i.toNat zG,λ_=>fN (e:=eG) j k,λ_=>trivial,?_⟩;rw[QQ];refine ab (λd=>λw1 h1=>⟨(g ?_).symm,h1⟩) (λd=>⟨rfl,rfl,aj.of _ f ⟨⟨rfl,b.1,b.2⟩,λw1 h1=>⟨?_,h1⟩⟩⟩)
  ·have d:gs.getD i.toNat zG=zG:=by simpa[eV] using d
   unfold lV;rw[au (λa=>a.2.2 d)]
  ·have d: ¬ gs.getD i.toNat zG=zG:=by simpa[eV] using d
   have e:lV gs i=some i.toNat:=by unfold lV;rw[ay ⟨b.1,b.2,d⟩]
   unfold BU BV;rw[e,aV];simp
 ·have c1:(decide (i<0)||decide (i>=((gs.length:Nat):Int)))=true:=by
   rw[Dr,decide_eq_true_eq,decide_eq_true_eq];omega
  rw[c1];refine⟨λa=>(by cases a),zG,λa=>(by cases a),λ_=>trivial,aB rfl λw1 h1=>⟨(g ?_).symm,h1⟩⟩;unfold lV;rw[au (λa=>b ⟨a.1,a.2.1⟩)]
theorem Ix (h:bL w bg (mA br gs.length c)) (a:bL w br (flat eG gs++rest)) (h0:0<gs.length) (i:Int):
 af AC 221 [ag (ae bg),aa i] w ((Sh.bu [.one .ptr,.one (.int .i64)]).gR (BU br gs i,BV gs i,())):=
 af.of (s:= .bu [.one .ptr,.one (.int .i64)]) λw' h'=>Zy (h.ext h') (a.ext h') h0 i
theorem UZ {bc:Nat} {o q t:Int} (hc:bL w bc [aa o,aa q,aa t,.bool false,aa 0]) (x:GT):
 af AC 226 [.agg ⟨[aa x.1,aa x.2.1,aa x.2.2.1,.bool x.2.2.2.1,aa x.2.2.2.2.1]⟩,ag (ae bc)] w (.bool (jY o q t x)):=by
 refine af.of (s:= .el (.one .bool)) λw' h'=>ai (C:=G3) (aQ:=λ_=>[]) (Aq (Qj _ _ _ _ _ _ w' _) ?_);have H:=At.start [] w';refine aM.go H λb a H=>aj.of (o,q,t,false,0,()) (dR ((hc.ext h').ext H.all) rfl) ⟨rfl,aj.cq 0 H rfl rfl ⟨rfl,aj.cq 0 H rfl rfl ⟨rfl,aj.cq 0 H rfl rfl (ao.go H λc H=>⟨?_,H.all⟩)⟩⟩⟩;unfold jY;simp
theorem QR {bc:Nat} {g:Int} (hc:bL w bc [aa g]) (x:GT):
 af AC 209 [.agg ⟨[aa x.1,aa x.2.1,aa x.2.2.1,.bool x.2.2.2.1,aa x.2.2.2.2.1]⟩,ag (ae bc)] w (.bool (oI g x)):=by
 refine af.of (s:= .el (.one .bool)) λw' h'=>ai (C:=G3) (aQ:=λ_=>[]) (Aq (KN _ _ _ _ _ _ w' _) ?_);have H:=At.start [] w';refine aM.go H λb c H=>?_;have a:cC c (ae bc) (.one (.int .i64)) g:=dR ((hc.ext h').ext H.all) rfl;refine aj.at 0 H rfl (show _=some x from rfl) ⟨trivial,λ_=>rfl,aj.cq 0 H rfl rfl (aj.of g a ⟨λ_=>rfl,aj.cq 0 H rfl rfl (aj.of g a (ao.go H λd H=>⟨?_,H.all⟩))⟩)⟩;rfl
theorem Og {j:Nat} {x:Nat×List Ag} (h:L[j]? =some x):L.set j x=L:=E5 λm=>by
 by_cases e:j=m
 ·subst e;rw[Dk (B5.1 h).1,h]
 ·rw[E4 e]
end
end Go.Proofs.YtlcenllcmeebhaaGreat
namespace Go.Proofs.YtlcenllcmeebhaaGreat.Po
set_option maxRecDepth 100000
open Go.RX
abbrev sQ:List Sc:=[.int .i64,.int .i64,.int .i64,.bool,.bool]
abbrev eQ:El:= .agg sQ
abbrev PT:Type:=Int×Int×Int×Bool×Bool×Unit
def zP:PT:=(0,0,0,false,false,())
def gI (n:Int):Bool:=decide (n>=1)&&decide (n<=16)
noncomputable def R0:dD AC:={C3 with vr:=false}
theorem QS (n:Int) (w:A2) (a:Bool->A2->Prop):(aJ R0 (λ_=>[]) 212 [aa n] w a)=(
 ao w (a (decide (n>=1)&&decide (n<=16)))):=by kernel_rfl
theorem QT (n:Int) (w:A2):aD AC 212 (.el (.one .bool)) [aa n] w (λx w'=>x=gI n/\Ext w w'):=by
 refine ai (C:=R0) (aQ:=λ_=>[]) (Aq (QS n w _) ?_);have H:=At.start [] w
 repeat' (first
  |exact Go.RX.aK.all H
  |exact B4 (by first|rfl|decide+kernel) (Go.RX.aK.all H)
  |refine B4 (by first|exact rfl|exact trivial|exact λ_=>rfl|exact λ_=>trivial|exact⟨rfl,by decide,by decide⟩|exact⟨by decide,by decide⟩|decide+kernel|exact λ_=>by decide|exact λ_=>⟨rfl,by decide,by decide⟩|(dsimp only[GI,GJ];exact⟨rfl,by decide,by decide⟩)) ?_
  |refine aj.cq 0 H rfl rfl ?_
  |refine aj.cq 1 H rfl rfl ?_
  |refine aj.at 0 H rfl rfl ?_
  |refine aj.at 1 H rfl rfl ?_
  |refine aM.go H λb w1 H=>?_
  |refine aA.all 0 H rfl rfl rfl λw1 H=>?_
  |refine aA.all 1 H rfl rfl rfl λw1 H=>?_
  |refine aA.gx 0 H rfl rfl rfl λw1 H=>?_
  |refine aA.gx 1 H rfl rfl rfl λw1 H=>?_
  |refine aA.one 0 H rfl rfl rfl λw1 H=>?_
  |refine aA.one 1 H rfl rfl rfl λw1 H=>?_
  |with_reducible refine ao.go H λw1 H=>?_
  |refine jX ?_
  |refine aB (by assumption) ?_
  |refine an (by assumption) ?_
  |refine ab (λc=>?_) (λc=>?_))
noncomputable def Zz:Entry AC where
 f:=212
 fn l:=match l with
  |[.int .i64 a]=>some (True,.bool (gI a))
  | _=>none
 ok args pre v h b w:=by
  split at h
  ·rename_i a;cases h;exact bU (QT a w)
  ·cases h
noncomputable def R1:dD AC:={R0 with si:=[Zz],quiet:=[211,213,229,245,231]}
theorem QU (p:Option AI) (w:A2) (a:Bool->A2->Prop):(aJ R1 (λ_=>[]) 211 [ag p] w a)=(
 ((!p.isNone)=true->p.isSome=true)/\((!p.isNone)=true->p.isSome=true)/\aj w (some !p.isNone) (ad p 2560) aT λ(x:Int)=>ao w (a (!p.isNone&&decide (x>0)))):=by kernel_rfl
theorem OB (p:Option AI) (g i:Int) (w:A2) (a:Option AI->A2->Prop):(aJ R1 (λ_=>[]) 213 [ag p,aa g,aa i] w a)=(
 ∃x,af AC 211 [ag p] w (.bool x)/\((!!x)=true->True)/\((!(!x|| !gI g||decide (i<0)))=true->p.isSome=true)/\((!(!x|| !gI g||decide (i<0)))=true->p.isSome=true)/\aj w (some !(!x|| !gI g||decide (i<0))) (ad p 2560) aT λ(b:Int)=>aH (!x|| !gI g||decide (i<0)||decide (i>=b)) (ao w (a none)) (p.isSome=true/\p.isSome=true/\((ad p 0).isSome=true/\0<=aX .i64 g 1/\aX .i64 g 1<(↑16:Int))/\((ad (ad p 0) ((aX .i64 g 1).toNat*160)).isSome=true/\0<=i/\i<(↑32:Int))/\(ad (ad (ad p 0)
 ((aX .i64 g 1).toNat*160)) (i.toNat*5)).isSome=true/\aj w none (ad (ad (ad p 0) ((aX .i64 g 1).toNat*160)) (i.toNat*5)) (.agg [.int .i64,.int .i64,.int .i64,.bool,.bool]) λ(x:Int×Int×Int×Bool×Bool×Unit)=>aH (x.1==0&&(x.2.1==0&&(x.2.2.1==0&&(x.2.2.2.1==false&&(x.2.2.2.2.1==false&&true))))) (ao w (a none)) (ao w λw1=>a (ad (ad (ad p 0) ((aX .i64 g 1).toNat*160)) (i.toNat*5)) w1))):=by kernel_rfl
def t_:Nat->aY:=(λ|2=>[(10,Go.RX.El.one (Go.RX.Sc.int B7))]| _=>[])
theorem QV (p:Option AI) (g:Int) (w:A2) (a:Int->A2->Prop):(aJ R1 t_ 245 [ag p,aa g] w a)=(
 cL p 2560 w λx=> ∃(I:Nat->Int×Unit->A2->Prop),(∃n, ∀w1,Ext w w1->I n (0,()) w1)/\ ∀(n:Nat) (s:Int×Unit) (w1:A2),I n s w1->aH (decide (s.1<x)) (∃(x:Option AI),af AC 213 [ag p,aa g,aa s.1] w1 (ag x)/\aH x.isNone (ao w1 (a s.1)) (∀b,Ext w1 b-> ∃(c:Nat),c<n/\I c (aI .i64 s.1 1,()) b)) (ao w1 (a (-1)))):=by kernel_rfl
theorem ZA (p:Option AI) (g r:Int) (w:A2) (a:Int->A2->Prop):(aJ R1 (λ_=>[]) 229 [ag p,aa g,aa r] w a)=(
 ∃x,af AC 211 [ag p] w (.bool x)/\aH (!x) (ao w (a 10)) (True/\((!!gI g)=true->True)/\aH (!gI g|| !gI r||g==r) (ao w (a 1)) (ao w (a 0)))):=by kernel_rfl
theorem U7 (p:Option AI) (w:A2) (a:Int->A2->Prop):(aJ R1 (λ_=>[]) 231 [ag p] w a)=(
 ∃x,af AC 211 [ag p] w (.bool x)/\aH (!x) (ao w (a 10)) (ao w (a 4))):=by kernel_rfl
theorem ZB (p:Option AI) (g:Int) (x1 e f:Int) (h i:Bool) (w:A2) (d:Int×Int×Unit->A2->Prop):(aJ R1 (λ_=>[]) 230 [ag p,aa g,.agg ⟨[aa x1,aa e,aa f,.bool h,.bool i]⟩] w d)=(
 aM w ⟨[aa x1,aa e,aa f,.bool h,.bool i]⟩ 217 λb a=> ∃(x:Int),af AC 245 [ag p,aa g] a (aa x)/\aH (x== -1) (ao a (d (0,3,()))) (aj a none (ae b) (.agg [.int .i64,.int .i64,.int .i64,.bool,.bool]) λ(c:Int×Int×Int×Bool×Bool×Unit)=>p.isSome=true/\p.isSome=true/\((ad p 0).isSome=true/\0<=aX .i64 g 1/\aX .i64 g 1<(↑16:Int))/\((ad (ad p 0) ((aX .i64 g 1).toNat*160)).isSome=true/\0<=x/\x<(↑32:Int))/\aA a (ad (ad (ad p 0) ((aX .i64 g
 1).toNat*160)) (x.toNat*5)) [aa c.1,aa c.2.1,aa c.2.2.1,.bool c.2.2.2.1,.bool c.2.2.2.2.1] λa=>ao a (d (x,0,())))):=by kernel_rfl
theorem QW (p:Option AI) (g r:Int) (w:A2) (a:Int×Int×Unit->A2->Prop):(aJ R1 (λ_=>[]) 185 [ag p,aa g,aa r] w a)=(
 ∃(x:Int),af AC 229 [ag p,aa g,aa r] w (aa x)/\aH (x != 0) (ao w (a (0,x,()))) (az AC 230 (.bu [.one (.int .i64),.one (.int .i64)]) [ag p,aa g,.agg ⟨[aa 1,aa r,aa 0,.bool false,.bool false]⟩] w λ(x:Int×Int×Unit) b=>ao b (a (x.1,x.2.1,())))):=by kernel_rfl
theorem QX (p:Option AI) (g r i:Int) (w:A2) (a:Int×Int×Unit->A2->Prop):(aJ R1 (λ_=>[]) 186 [ag p,aa g,aa r,aa i] w a)=(
 ∃(x:Int),af AC 229 [ag p,aa g,aa r] w (aa x)/\aH (x != 0) (ao w (a (0,x,()))) (∃(x:Option AI),af AC 213 [ag p,aa r,aa i] w (ag x)/\aH x.isNone (ao w (a (0,4,()))) (cL x 0 w λd=>aH (d==2) (ao w (a (0,6,()))) (cL x 1 w λe=>aH (e != g) (ao w (a (0,7,()))) (az AC 230 (.bu [.one (.int .i64),.one (.int .i64)]) [ag p,aa g,.agg ⟨[aa 2,aa r,aa i,.bool false,.bool false]⟩] w λ(b:
 Int×Int×Unit) c=>aH (b.2.1==0) (x.isSome=true/\x.isSome=true/\aA c (ad x 0) [aa 2] λc=>x.isSome=true/\x.isSome=true/\aA c (ad x 2) [aa b.1] λc=>ao c (a (b.1,b.2.1,()))) (ao c (a (b.1,b.2.1,())))))))):=by kernel_rfl
theorem QY (p:Option AI) (g i:Int) (w:A2) (a:Int->A2->Prop):(aJ R1 (λ_=>[]) 187 [ag p,aa g,aa i] w a)=(
 ∃(x:Option AI),af AC 213 [ag p,aa g,aa i] w (ag x)/\aH x.isNone (∃(x:Int),af AC 231 [ag p] w (aa x)/\ao w (a x)) (cL x 0 w λc=>aH (c != 2) (ao w (a 6)) (cL x 1 w λd=>cL x 2 w λx=> ∃(b:Option AI),af AC 213 [ag p,aa d,aa x] w (ag b)/\b.isSome=true/\b.isSome=true/\aA w (ad b 3) [.bool true] λe=>ao e (a 0)))):=by kernel_rfl
def ua:Nat->aY:=(λ|5=>[(5,Go.RX.El.one Go.RX.Sc.slice),(15,Go.RX.El.one (Go.RX.Sc.int B7))]| _=>[])
theorem QZ (p:Option AI) (g:Int) (w:A2) (e:Option AI×Nat×Nat->A2->Prop):(aJ R1 ua 232 [ag p,aa g] w e)=(
 ∃x,af AC 211 [ag p] w (.bool x)/\aH (!x) (ao w (e (none,0,0))) (cL p 2560 w λx=> ∃(I:Nat->(Option AI×Nat×Nat)×Int×Unit->A2->Prop),(∃n, ∀w1,Ext w w1->I n ((none,0,0),0,()) w1)/\ ∀(n:Nat) (s:(Option AI×Nat×Nat)×Int×Unit) (w1:A2),I n s w1->aH (decide (s.2.1<x)) (∃(x:Option AI),af AC 213 [ag p,aa g,aa s.2.1] w1 (ag x)/\((!x.isNone)=true->x.isSome=true)/\((!x.isNone)=true->x.isSome=true)/\aj w1 (some !x.isNone) (ad x 3) rq λd=>
 ((!x.isNone&&d)=true->x.isSome=true)/\((!x.isNone&&d)=true->x.isSome=true)/\aj w1 (some (!x.isNone&&d)) (ad x 4) rq λh=>aH (!x.isNone&&d&& !h) (aM w1 ⟨[aa s.2.1]⟩ 3 λb f=> ∀w1,Ext f w1->mz w1 3 1 8 ⟨[aa 0]⟩ (s.1.1,s.1.2.1,s.1.2.2) (some ⟨b,0,none⟩,1,1) λ(r:Option AI×Nat×Nat) f=> ∀a,Ext f a-> ∃(c:Nat),c<n/\I c ((r.1,r.2.1,r.2.2),aI .i64 s.2.1 1,()) a) (∀a,Ext w1 a-> ∃(c:Nat),c<n/\I c ((s.1.1,s.1.2.1,s.1.2.2),aI .i64 s.2.1 1,()) a)) (ao w1 (e
 (s.1.1,s.1.2.1,s.1.2.2))))):=by kernel_rfl
theorem Q0 (p:Option AI) (g:Int) (w:A2) (c:Int×Bool×Unit->A2->Prop):(aJ R1 (λ_=>[]) 188 [ag p,aa g] w c)=(
 az AC 232 (.el eJ) [ag p,aa g] w λx a=>aH ((↑x.2.1:Int)==0) (ao a (c (0,false,()))) ((x.1.isSome=true/\(0:Int)<=0/\0<(↑x.2.1:Int))/\aR a (ad x.1 0) λd=> ∃(b:Option AI),af AC 213 [ag p,aa g,aa d] a (ag b)/\b.isSome=true/\b.isSome=true/\aA a (ad b 3) [.bool false] λa=>(x.1.isSome=true/\(0:Int)<=0/\0<(↑x.2.1:Int))/\aR a (ad x.1 0) λx=>ao a (c (x,true,())))):=by kernel_rfl
theorem K9 (p:Option AI) (g i:Int) (w:A2) (c:Int->A2->Prop):(aJ R1 (λ_=>[]) 189 [ag p,aa g,aa i] w c)=(
 ∃(x:Option AI),af AC 213 [ag p,aa g,aa i] w (ag x)/\aH x.isNone (∃(x:Int),af AC 231 [ag p] w (aa x)/\ao w (c x)) (cL x 0 w λd=>aH (d==2) (cL x 1 w λe=>cL x 2 w λf=> ∃(a:Option AI),af AC 213 [ag p,aa e,aa f] w (ag a)/\a.isSome=true/\a.isSome=true/\aA w (ad a 0) [aa 1] λb=>a.isSome=true/\a.isSome=true/\aA b (ad a 2) [aa 0] λb=>x.isSome=true/\aA b x [aa 0,.int .i64
 0,aa 0,.bool false,.bool false] λb=>ao b (c 0)) (x.isSome=true/\aA w x [aa 0,aa 0,aa 0,.bool false,.bool false] λb=>ao b (c 0)))):=by kernel_rfl
def ub:Nat->aY:=(λ|5=>[(5,Go.RX.El.one (Go.RX.Sc.int B7)),(22,Go.RX.El.one (Go.RX.Sc.int B7))]|11=>[(5,Go.RX.El.one (Go.RX.Sc.int B7)),(7,Go.RX.El.one (Go.RX.Sc.int B7))]|14=>[(5,Go.RX.El.one (Go.RX.Sc.int B7)),(41,Go.RX.El.one (Go.RX.Sc.int B7))]| _=>[])
theorem Q1 (p:Option AI) (g:Int) (w:A2) (h:Int->A2->Prop):(aJ R1 ub 170 [ag p,aa g] w h)=(
 ∃x,af AC 211 [ag p] w (.bool x)/\((!!x)=true->True)/\aH (!x|| !gI g) (ao w (h 0)) (cL p 2560 w λx=> ∃(I:Nat->Int×Int×Unit->A2->Prop),(∃n, ∀w1,Ext w w1->I n (0,0,()) w1)/\ ∀(n:Nat) (s:Int×Int×Unit) (w1:A2),I n s w1->aH (decide (s.2.1<x)) (az AC 189 (.el aT) [ag p,aa g,aa s.2.1] w1 λ(x:Int) e=>aH (x==0) (∀a,Ext e a-> ∃(b:Nat),b<n/\I b (aI .i64 s.1 1,aI .i64 s.2.1 1,()) a) (∀a,Ext e a-> ∃(b:Nat),b<n/\I b (s.1,aI .i64 s.2.1 1,
 ()) a)) (∃(I:Nat->Int×Int×Unit->A2->Prop),(∃n, ∀d,Ext w1 d->I n (s.1,1,()) d)/\ ∀(n:Nat) (s:Int×Int×Unit) (w1:A2),I n s w1->aH (decide (s.2.1<=16)) (cL p 2560 w1 λx=> ∃(f:Nat->Int×Int×Unit->A2->Prop),(∃n, ∀d,Ext w1 d->f n (s.1,0,()) d)/\ ∀(i:Nat) (c:Int×Int×Unit) (w1:A2),f i c w1->aH (decide (c.2.1<x)) (∃(x:Option AI),af AC 213 [ag p,aa s.2.1,aa c.2.1] w1 (ag x)/\((!x.isNone)=true->x.isSome=true)/\
 ((!x.isNone)=true->x.isSome=true)/\aj w1 (some !x.isNone) (ad x 1) aT λ(j:Int)=>aH (!x.isNone&&j==g) (x.isSome=true/\aA w1 x [aa 0,aa 0,aa 0,.bool false,.bool false] λe=> ∀a,Ext e a-> ∃(b:Nat),b<i/\f b (aI .i64 c.1 1,aI .i64 c.2.1 1,()) a) (∀a,Ext w1 a-> ∃(b:Nat),b<i/\f b (c.1,aI .i64 c.2.1 1,()) a)) (∀a,Ext w1 a-> ∃(b:Nat),b<n/\I b (c.1,aI .i64 s.2.1 1,()) a)) (ao w1 (h s.1))))):=by kernel_rfl
theorem I5 {ss:List Sc} {xs:List (jg ss)} {rest:List Ag} {k f:Nat} {x:jg ss} (a:xs[k]? =some x) (b:f<ss.length):(flat (.agg ss) xs++rest)[k*ss.length+f]? =(a_ ss x)[f]? :=by
 induction xs generalizing k with
 |nil=>simp at a
 |cons y ys c=>
  cases k with
  |zero=>
   simp at a;have d:f<(a_ ss y).length:=by rw[cD];exact b
   simp only[H5,BP];show((a_ ss y++flat (.agg ss) ys)++rest)[f]? = _
   grind
  |succ k=>
   show((a_ ss y++flat (.agg ss) ys)++rest)[(k+1)*ss.length+f]? = _;rw[Dn,GS (by rw[cD,Fo];omega),cD]
   grind
theorem A3 {ss:List Sc} {xs:List (jg ss)} {rest:List Ag} {k f:Nat} {x y:jg ss} {v:Ag} (b:xs[k]? =some x) (c:f<ss.length) (d:a_ ss y=(a_ ss x).set f v):(flat (.agg ss) xs++rest).set (k*ss.length+f) v=flat (.agg ss) (xs.set k y)++rest:=by
 induction xs generalizing k with
 |nil=>simp at b
 |cons z a e=>
  cases k with
  |zero=>
   have g:f<(a_ ss z).length:=by rw[cD];exact c
   simp only[H5,BP];show((a_ ss z++flat (.agg ss) a)++rest).set f v=(a_ ss y++flat (.agg ss) a)++rest
   grind
  |succ k=>
   show((a_ ss z++flat (.agg ss) a)++rest).set _ v=(a_ ss z++flat _ _)++rest;rw[Dn,List.set_append_right _ _ (by rw[cD,Fo];omega),cD]
   grind
abbrev gJ (room:Int) (ps:List PT):List Ag:=flat eQ ps++[aa room]
def ix (g i:Int):Nat:=(g - 1).toNat*32+i.toNat
def sr (room g i:Int):Bool:=gI g&&(decide (0<=i)&&decide (i<room))
def oD (room:Int) (ps:List PT) (g i:Int):Option Nat:=if sr room g i=true/\ps.getD (ix g i) zP≠zP then some (ix g i) else none
structure okS (room:Int) (ps:List PT):Prop where
 len:ps.length=512
 lo:1<=room
 hi:room<=32
theorem ny {g:Int}:gI g=true<->1<=g/\g<=16:=by simp[gI]
theorem eO {room g i:Int}:sr room g i=true<->(1<=g/\g<=16)/\0<=i/\i<room:=by simp[sr,ny]
theorem oR {room g i:Int} (h:sr room g i=true) (a:room<=32):ix g i<512:=by grind[eO,ix]
theorem O_ {room g i g' a:Int} (h:sr room g i=true) (h':sr room g' a=true) (b:room<=32) (e:ix g i=ix g' a):g=g'/\i=a:=by grind[eO,ix]
theorem okS.get {room:Int} {ps:List PT} (h:okS room ps) {k:Nat} (a:k<512):ps[k]? =some (ps.getD k zP):=by
 rw[B6,B3 (by rw[h.len];grind)];rfl
theorem okS.set {room:Int} {ps:List PT} (h:okS room ps) (k:Nat) (x:PT):okS room (ps.set k x):=⟨by rw[Ga];exact h.len,h.lo,h.hi⟩
theorem fv {room:Int} {ps:List PT} {g i:Int} {k:Nat} (h:oD room ps g i=some k):sr room g i=true/\k=ix g i/\ps.getD k zP≠zP:=by grind[oD]
theorem pR {room:Int} {ps:List PT} (h:okS room ps):kr (gJ room ps) (0+2560) (.one (.int .i64))=some room:=by
 have:(gJ room ps)[2560]? =some (aa room):=by
  rw[GS (by rw[aF,h.len];decide),aF,h.len];rfl
 show(match (gJ room ps)[0+2560]? with|some v=>(Sc.int _).proj v|none=>none)=some room;rw[this];rfl
theorem isZ (x:PT):(x.fst==0&&(x.snd.fst==0&&(x.snd.snd.fst==0&&(x.snd.snd.snd.fst==false&&(x.snd.snd.snd.snd.fst==false&&true)))))=decide (x=zP):=by
 obtain⟨a,b,c,d,e,u⟩:=x;rw[JU];simp[zP]
theorem ri {room:Int} {ps:List PT} {k f:Nat} {x:PT} (a:ps[k]? =some x) (b:f<5) {s:Sc} {y:s.T} (c:(match (a_ sQ x)[f]? with|some v=>s.proj v|none=>none)=some y):kr (gJ room ps) (k*5+f) (.one s)=some y:=by
 show(match (gJ room ps)[k*5+f]? with|some v=>s.proj v|none=>none)=some y;have:=I5 (ss:=sQ) (rest:=[aa room]) a b
 simp_all
section
variable {D G:List Nat} {w0 w:A2} {L:List (Nat×List Ag)}
theorem aA.ri (j:Nat) (H:aK D G w0 w L) {bp k f:Nat} {room:Int} {ps:List PT} {x:PT} (y:PT) {v:Ag} {K:A2->Prop} (a:L[j]? =some (bp,gJ room ps)) (b:ps[k]? =some x) (c:f<5) (hv:v.oneCell'=true) (d:a_ sQ y=(a_ sQ x).set f v)
 (g: ∀w1,aK D G w0 w1 (L.set j (bp,gJ room (ps.set k y)))->K w1):aA w (ad (some ⟨bp,k*5,none⟩) f) [v] K:=by
 refine aA.gx j H a hv ?_ λw1 h1=>g w1 ?_
 ·rw[H6];have:(flat eQ ps).length=ps.length*5:=aF eQ ps
  grind
 ·have e:(gJ room ps).set _ v=gJ room _:=A3 b c d
  grind
end
section
variable {w:A2} {bp:Nat} {room:Int} {ps:List PT}
theorem pq (h:bL w bp (gJ room ps)) (a:okS room ps):aD AC 211 (.el (.one .bool)) [ag (ae bp)] w (λx w'=>x=true/\Ext w w'):=by
 refine ai (Aq (QU _ w _) ?_);refine⟨λ_=>rfl,λ_=>rfl,aj.kZ (At.start [] w) h (by simp) (pR a) λw1 h1=>⟨?_,h1⟩⟩;have:=a.lo
 grind
def cq (bp:Nat) (room:Int) (ps:List PT) (g i:Int):Option AI:=(oD room ps g i).map λk=>⟨bp,k*5,none⟩
theorem DM (h:bL w bp (gJ room ps)) (a:okS room ps) (g i:Int):aD AC 213 (.el (.one .ptr)) [ag (ae bp),aa g,aa i] w (λx w'=>x=cq bp room ps g i/\Ext w w'):=by
 refine ai (C:=R1) (aQ:=λ_=>[]) (Aq (OB _ g i w _) ?_);refine⟨true,af.of (s:= .el (.one .bool)) λw' h'=>pq (h.ext h') a,λ_=>trivial,λ_=>rfl,λ_=>rfl,aj.kZ (At.start [] w) h (by simp) (pR a) ?_⟩;have p:=a.lo;have d:=a.hi;refine ab (λc w1 h1=>⟨?_,h1⟩) (λc=>?_)
 ·have f: ¬ sr room g i=true:=by
   rw[eO];intro j;have k:gI g=true:=ny.2 j.1;rw[k] at c;simp at c;omega
  unfold cq oD;rw[au (λhc=>f hc.1)];rfl
 ·have b:sr room g i=true:=by
   grind[eO,ny,gI]
  have q:=eO.1 b;have l:=oR b d;have m:=a.get l;have es:aX .i64 g 1=g - 1:=bC (by omega) (by omega);rw[es];have n:ad (ad (ad (ae bp) 0) ((g - 1).toNat*160)) (i.toNat*5)=some ⟨bp,ix g i*5,none⟩:=by
   rw[aV,aV,aV];unfold ix;congr 2;omega
  have o:ad (ad (ae bp) 0) ((g - 1).toNat*160)=some ⟨bp,0+0+(g - 1).toNat*160,none⟩:=by rw[aV,aV]
  rw[n,o];refine⟨rfl,rfl,⟨rfl,by omega,by omega⟩,⟨rfl,by omega,by omega⟩,rfl,aj.of (ps.getD (ix g i) zP) ?_ ?_⟩
  ·have:=fN (e:=eQ) (rest:=[aa room]) h m;rw[aV,BP] at this;exact this
  ·rw[isZ];refine ab (λc2 w1 h1=>⟨?_,h1⟩) (λc2 w1 h1=>⟨?_,h1⟩)
   ·unfold cq oD
    grind
   ·unfold cq oD;rw[ay ⟨b,of_decide_eq_false c2⟩];rfl
def rA (g r:Int):Int:=if !gI g|| !gI r||g==r then 1 else 0
theorem ZC (h:bL w bp (gJ room ps)) (a:okS room ps) (g r:Int):aD AC 229 (.el (.one (.int .i64))) [ag (ae bp),aa g,aa r] w (λx w'=>x=rA g r/\Ext w w'):=by
 refine ai (C:=R1) (aQ:=λ_=>[]) (Aq (ZA _ g r w _) ?_);refine⟨true,af.of (s:= .el (.one .bool)) λw' h'=>pq (h.ext h') a,an rfl ⟨trivial,λ_=>trivial,ab (λc w1 h1=>⟨?_,h1⟩) (λc w1 h1=>⟨?_,h1⟩)⟩⟩
 ·unfold rA;rw[ay c]
 ·unfold rA;grind
theorem U8 (h:bL w bp (gJ room ps)) (a:okS room ps):aD AC 231 (.el (.one (.int .i64))) [ag (ae bp)] w (λx w'=>x=4/\Ext w w'):=by
 refine ai (C:=R1) (Aq (U7 _ w _) ?_);exact⟨true,af.of λw' h'=>pq (h.ext h') a,an rfl λw1 h1=>⟨rfl,h1⟩⟩
def cx (room:Int) (ps:List PT) (g:Int):Int:=match (DQ room.toNat).find? λ(i:Nat)=>(oD room ps g i).isNone with
 |some i=>(i:Int)
 |none=> -1
theorem Q3 (h:bL w bp (gJ room ps)) (b:okS room ps) (g:Int):aD AC 245 (.el (.one (.int .i64))) [ag (ae bp),aa g] w (λx w'=>x=cx room ps g/\Ext w w'):=by
 refine ai (C:=R1) (aQ:=t_) (Aq (QV _ g w _) ?_);have l:=b.lo;have m:=b.hi;refine⟨rfl,rfl,aj.kZ (At.start [] w) h (by simp) (pR b) ?_⟩;refine⟨λq s w'=> ∃i:Nat,s.1=i/\q+i=room.toNat/\(∀j:Nat,j<i->(oD room ps g j).isNone=false)/\Ext w w',⟨room.toNat,λw1 h1=>⟨0,rfl,rfl,λj e=>absurd e (by omega),h1⟩⟩,?_⟩;rintro q ⟨n,u⟩ w1 ⟨i,hi,o,k,d⟩;simp only at hi;subst hi;dsimp only;refine ab (λc=>?_) (λc f a=>⟨?_,d.trans a⟩)
 ·have p:i<room.toNat:=by simp at c;omega
  refine⟨_,af.of (s:= .el (.one .ptr)) λw' h'=>DM ((h.ext d).ext h') b g i,ab (λc2 f a=>⟨?_,d.trans a⟩) (λc2 f a=>⟨q - 1,by omega,i+1,by rw[aw (by omega) (by omega)];rfl,by omega,λj e=>?_,d.trans a⟩)⟩
  ·grind[oD,cq,DQ,In,cx]
  ·rcases Nat.lt_or_ge j i with h1|h1
   ·exact k j h1
   ·obtain rfl:j=i:=by omega
    unfold cq at c2;simpa using c2
 ·have:(DQ room.toNat).find? (λ(i:Nat)=>(oD room ps g i).isNone)=none:=by
   grind
  unfold cx;rw[this]
theorem mR {room:Int} {ps:List PT} {g:Int} (a:gI g=true) (h:cx room ps g≠ -1):sr room g (cx room ps g)=true/\oD room ps g (cx room ps g)=none:=by
 unfold cx at h ⊢;split
 ·rename_i hi;rw[In] at hi;have:=GG.1 hi.2.1;exact⟨eO.2 ⟨ny.1 a,by omega⟩,by simp_all⟩
 grind
end
end Go.Proofs.YtlcenllcmeebhaaGreat.Po
namespace Go.Proofs.YtlcenllcmeebhaaGreat
set_option maxRecDepth 100000
open Go.RX
theorem Ae {L Ls:List (Nat×List Ag)} {k:Nat} {x:Nat×List Ag} (h:L[k]? =some x):(L++Ls)[k]? =some x:=by
 grind
theorem BO.len {Ls:List (Nat×List Ag)} {sl:Option AI×Nat×Nat} {xs:List Int} (h:BO Ls sl xs):sl.2.1=xs.length:=by
 rcases h with ⟨rfl,rfl,rfl⟩|⟨bs,c,rest,rfl, _⟩
 ·rfl
 ·rfl
theorem BO.rd {D G:List Nat} {w0 w:A2} {L Ls:List (Nat×List Ag)} {sl:Option AI×Nat×Nat} {xs:List Int} (h:BO Ls sl xs) (H:aK D G w0 w L) (a: ∀y∈Ls,y∈L) {i:Nat} {x:Int} (b:xs[i]? =some x):sl.1.isSome=true/\cC w (ad sl.1 (i*1)) (.one (.int .i64)) x:=by
 rcases h with ⟨rfl,rfl,rfl⟩|⟨bs,c,rest,rfl,rfl, _⟩
 ·grind
 ·exact⟨rfl,fN (H.db _ (a _ Dc)) b⟩
section
variable {D G:List Nat} {w0 w:A2} {L:List (Nat×List Ag)} {bg br c:Nat} {gs:List GT} {rest:List Ag}
theorem Ge {Ls:List (Nat×List Ag)} {a:Nat} {x:Int} {xs:List Int} {sl:Option AI×Nat×Nat} (H:aK D G w0 w ((a,[aa x])::(L++Ls))) (f:BO Ls sl xs) (hb:xs.length<=900000) {t:BY}
 {R:Option AI×Nat×Nat->A2->Prop} (k: ∀b d w',BO b d (xs++[x])->aK D G w0 w' (L++b)->R d w'):
 mz w t 1 8 ⟨[aa 0]⟩ sl (some ⟨a,0,none⟩,1,1) R:=by
 refine aK.aa_ (e:=eI) (H.perm (.cons _ Ft)) (by simp) f rfl rfl rfl (by grind) λbs c rest w' g h i=>k _ _ w' (.inr ⟨bs,c,rest,rfl,rfl,g,h⟩) (i.perm ?_);simp
theorem K_ (H:aK D G w0 w L) (j r:Nat) (h:L[j]? =some (bg,mA br gs.length c)) (s:L[r]? =some (br,flat eG gs++rest)) (h0:0<gs.length) (J:gs.length<=64) {K:Option AI×Nat×Nat->A2->Prop}
 (k: ∀sl Ls a,BO Ls sl (de gs eV gs.length)->aK D G w0 a (L++Ls)->K sl a):
 az AC 208 (.el (.one .slice)) [ag (ae bg),.func (.func 210) #[] #[]] w K:=by
 refine az.go H λw1 H=>ai (C:=G3) (aQ:=qM) (Aq (KO _ w1 K) ?_);have t: ∀{w:A2} {L1:List (Nat×List Ag)},aK D G w0 w (L++L1)->bL w bg (mA br gs.length c)/\bL w br (flat eG gs++rest):=λ{w L1} H=>⟨H.get (Ae h),H.get (Ae s)⟩;refine⟨_,pk (H.get h) h0,an rfl ⟨rfl,rfl,aj.cq j H h rfl ?_⟩⟩;refine⟨λn v w'=> ∃(m:Nat) (Ls:List (Nat×List Ag)),v.2.1=(m:Int)/\n+m=gs.length/\BO Ls v.1 (de gs eV m)/\aK D G w0 w' (L++Ls),⟨gs.length,λa y=>⟨0,[],rfl,rfl,.inl ⟨rfl,rfl,rfl⟩,by rw[DB];exact H.ext y⟩⟩,?_⟩;clear H;rintro n ⟨sl,v,u⟩ a ⟨m,Ls,e,M,f,H⟩;dsimp only at e f ⊢;subst e;refine ab (λi=>?_) (λi=>?_)
 ·have o:m<gs.length:=by simpa using i
  have p:gs[m]? =some (gs.getD m zG):=by
   grind
  have z:aI .i64 (m:Int) 1=((m+1:Nat):Int):=by rw[aw (by omega) (by omega)];omega
  have g:=rV gs eV m;obtain⟨x,A⟩: ∃x,x=gs.getD m zG:=⟨_,rfl⟩;rw[<-A] at p g;rw[z];have N:=qb gs eV m;refine⟨⟨rfl,by omega,by omega⟩,aj.of x (fN (e:=eG) (t H).2 p) (aM.go H λb q H=>aA.all 0 H rfl rfl rfl λO H=>aj.at 0 H rfl (show _=some x from rfl) ?_)⟩;refine⟨trivial,?_⟩;refine ab (λd=>aM.go H λP Q H=>λB l=>?_) (λd=>λB l=>⟨n - 1,by omega,m+1,Ls,rfl,by omega,?_,?_⟩)
  ·have d:eV x=true:=d;rw[ay d] at g;have H:=H.ext l;have H:=H.sub (.cons_cons _ (B2 _ _));refine Ge H f (by omega) λE R S F H=>λT I=>⟨n - 1,by omega,m+1,E,rfl,by omega,?_,H.ext I⟩;rw[g];exact F
  ·have d: ¬ eV x=true:=by
    have d:eV x=false:=d;rw[d];decide
   rw[g,au d,DB];exact f
  ·exact(H.sub (B2 _ _)).ext l
 ·have o:m=gs.length:=by
   have: ¬ m<gs.length:=by simpa using i
   omega
  subst o;exact ao.go H λq H=>k sl Ls q f H
theorem La (H:aK D G w0 w L) (j z:Nat) (f:L[j]? =some (bg,mA br gs.length c)) (A:L[z]? =some (br,flat eG gs++rest)) (h0:0<gs.length) (P:gs.length<=64) {bc:Nat} {o q t:Int} (hc:(bc,[aa o,aa q,aa t,.bool false,aa 0])∈L) {K:Option AI×Nat×Nat->A2->Prop}
 (k: ∀sl Ls a,BO Ls sl (de gs (jY o q t) gs.length)->aK D G w0 a (L++Ls)->K sl a):
 az AC 208 (.el (.one .slice)) [ag (ae bg),.func (.func 226) #[] #[ag (ae bc)]] w K:=by
 refine az.go H λw1 H=>ai (C:=G3) (aQ:=qN) (Aq (KP _ _ w1 K) ?_);have B: ∀{w:A2} {L1:List (Nat×List Ag)},aK D G w0 w (L++L1)->bL w bg (mA br gs.length c)/\bL w br (flat eG gs++rest):=λ{w L1} H=>⟨H.get (Ae f),H.get (Ae A)⟩;refine⟨_,pk (H.get f) h0,an rfl ⟨rfl,rfl,aj.cq j H f rfl ?_⟩⟩;refine⟨λn v w'=> ∃(m:Nat) (Ls:List (Nat×List Ag)),v.2.1=(m:Int)/\n+m=gs.length/\BO Ls v.1 (de gs (jY o q t) m)/\aK D G w0 w' (L++Ls),⟨gs.length,λa E=>⟨0,[],rfl,rfl,.inl ⟨rfl,rfl,rfl⟩,by rw[DB];exact H.ext E⟩⟩,?_⟩;clear H;rintro n ⟨sl,v,u⟩ a ⟨m,Ls,e,Q,g,H⟩;dsimp only at e g ⊢;subst e;refine ab (λh=>?_) (λh=>?_)
 ·have p:m<gs.length:=by simpa using h
  have r:gs[m]? =some (gs.getD m zG):=by
   grind
  have F:aI .i64 (m:Int) 1=((m+1:Nat):Int):=by rw[aw (by omega) (by omega)];omega
  have i:=rV gs (jY o q t) m;obtain⟨x,I⟩: ∃x,x=gs.getD m zG:=⟨_,rfl⟩;rw[<-I] at r i;rw[F];have R:=qb gs (jY o q t) m;refine⟨⟨rfl,by omega,by omega⟩,aj.of x (fN (e:=eG) (B H).2 r) (aM.go H λb s H=>aA.all 0 H rfl rfl rfl λS H=>aj.at 0 H rfl (show _=some x from rfl) ?_)⟩;refine⟨_,UZ (H.db _ (DA _ (Do _ hc))) x,?_⟩;refine ab (λd=>aM.go H λJ T H=>λy l=>?_) (λd=>λy l=>⟨n - 1,by omega,m+1,Ls,rfl,by omega,?_,?_⟩)
  ·have d:(jY o q t) x=true:=d;rw[ay d] at i;have H:=H.ext l;have H:aK D G w0 y ((J,[aa (m:Int)])::(L++Ls)):=H.sub (.cons_cons _ (B2 _ _));refine Ge H g (by omega) λM U V N H=>λW O=>⟨n - 1,by omega,m+1,M,rfl,by omega,?_,H.ext O⟩;rw[i];exact N
  grind
  ·exact(H.sub (B2 _ _)).ext l
 ·have p:m=gs.length:=by
   have: ¬ m<gs.length:=by simpa using h
   omega
  subst p;exact ao.go H λs H=>k sl Ls s g H
theorem Ld (H:aK D G w0 w L) (j t:Nat) (f:L[j]? =some (bg,mA br gs.length c)) (y:L[t]? =some (br,flat eG gs++rest)) (h0:0<gs.length) (N:gs.length<=64) {bc:Nat} {g:Int} (hc:(bc,[aa g])∈L) {K:Option AI×Nat×Nat->A2->Prop}
 (k: ∀sl Ls a,BO Ls sl (de gs (oI g) gs.length)->aK D G w0 a (L++Ls)->K sl a):
 az AC 208 (.el (.one .slice)) [ag (ae bg),.func (.func 209) #[] #[ag (ae bc)]] w K:=by
 refine az.go H λw1 H=>ai (C:=G3) (aQ:=qO) (Aq (KQ _ _ w1 K) ?_);have z: ∀{w:A2} {L1:List (Nat×List Ag)},aK D G w0 w (L++L1)->bL w bg (mA br gs.length c)/\bL w br (flat eG gs++rest):=λ{w L1} H=>⟨H.get (Ae f),H.get (Ae y)⟩;refine⟨_,pk (H.get f) h0,an rfl ⟨rfl,rfl,aj.cq j H f rfl ?_⟩⟩;refine⟨λn v w'=> ∃(m:Nat) (Ls:List (Nat×List Ag)),v.2.1=(m:Int)/\n+m=gs.length/\BO Ls v.1 (de gs (oI g) m)/\aK D G w0 w' (L++Ls),⟨gs.length,λa A=>⟨0,[],rfl,rfl,.inl ⟨rfl,rfl,rfl⟩,by rw[DB];exact H.ext A⟩⟩,?_⟩;clear H;rintro n ⟨sl,v,u⟩ a ⟨m,Ls,e,O,h,H⟩;dsimp only at e h ⊢;subst e;refine ab (λi=>?_) (λi=>?_)
 ·have p:m<gs.length:=by simpa using i
  have q:gs[m]? =some (gs.getD m zG):=by
   grind
  have B:aI .i64 (m:Int) 1=((m+1:Nat):Int):=by rw[aw (by omega) (by omega)];omega
  have l:=rV gs (oI g) m;obtain⟨x,E⟩: ∃x,x=gs.getD m zG:=⟨_,rfl⟩;rw[<-E] at q l;rw[B];have P:=qb gs (oI g) m;refine⟨⟨rfl,by omega,by omega⟩,aj.of x (fN (e:=eG) (z H).2 q) (aM.go H λb r H=>aA.all 0 H rfl rfl rfl λQ H=>aj.at 0 H rfl (show _=some x from rfl) ?_)⟩;refine⟨_,QR (H.db _ (DA _ (Do _ hc))) x,?_⟩;refine ab (λd=>aM.go H λF R H=>λs o=>?_) (λd=>λs o=>⟨n - 1,by omega,m+1,Ls,rfl,by omega,?_,?_⟩)
  ·have d:(oI g) x=true:=d;rw[ay d] at l;have H:=H.ext o;have H:aK D G w0 s ((F,[aa (m:Int)])::(L++Ls)):=H.sub (.cons_cons _ (B2 _ _));refine Ge H h (by omega) λI S T J H=>λU M=>⟨n - 1,by omega,m+1,I,rfl,by omega,?_,H.ext M⟩;rw[l];exact J
  grind
  ·exact(H.sub (B2 _ _)).ext o
 ·have p:m=gs.length:=by
   have: ¬ m<gs.length:=by simpa using i
   omega
  subst p;exact ao.go H λr H=>k sl Ls r h H
theorem BW (H:aK D G w0 w L) (a:Nat) (b:L[a]? =some (br,flat eG gs++rest)) {k:Nat} {x:GT} (c:gs[k]? =some x) {f:Nat} (d:f<5) {s:Sc} {y:s.T} (e:(match (a_ sG x)[f]? with|some v=>s.proj v|none=>none)=some y):cC w (ad (some ⟨br,k*5,none⟩) f) (.one s) y:=by
 rw[aV];refine dR (H.get b) ?_;have h:=Po.I5 (ss:=sG) (rest:=rest) c d;show(match (flat eG gs++rest)[k*5+f]? with|some v=>s.proj v|none=>none)=some y
 simp_all
theorem aaq (H:aK D G w0 w L) (a:Nat) (c:L[a]? =some (br,flat eG gs++rest)) {k:Nat} {x:GT} (b:gs[k]? =some x) {f:Nat} (d:f<5) {v:Ag} (hv:v.oneCell'=true) (y:GT) (e:a_ sG y=(a_ sG x).set f v) {K:A2->Prop} (kk: ∀w1,aK D G w0 w1 (L.set a (br,flat eG (gs.set k y)++rest))->K w1):aA w (ad (some ⟨br,k*5,none⟩) f) [v] K:=by
 have g:=(B5.1 b).1;refine aA.gx a H c hv ?_ λw1 h1=>kk w1 ?_
 ·rw[H6,FQ,aF];show k*5+f<gs.length*5+rest.length;omega
 ·have h:=Po.A3 (rest:=rest) b d e
  grind
theorem ZD (h:bL w bg (mA br gs.length c)) (d:bL w br (flat eG gs++rest)) (h0:0<gs.length) (i:Int):
 aD AC 176 (.bu [eG,.one .bool]) [ag (ae bg),aa i] w (λx w'=>x=(wT gs i,(lV gs i).isSome,())/\Ext w w'):=by
 refine aP (C:=G3) (aQ:=λ_=>[]) (Aq (Zq _ i w _) ?_);have H:=At.start [] w;refine aM.go H λb f H=>?_;have a:=H.all;refine⟨_,Ix (h.ext a) (d.ext a) h0 i,?_⟩;unfold BV BU wT;cases g:lV gs i with
 |none=>exact aB rfl (aA.all 0 H rfl rfl rfl λj H=>ao.go H λl H=>aj.at 0 H rfl (show _=some zG from rfl) ⟨rfl,H.all⟩)
 |some k=>
  obtain⟨_, _, _,m, _⟩:=ly g;have n:cC f (some ⟨br,k*5,none⟩) eG (gs.getD k zG):=by
   have:=fN (e:=eG) (d.ext a) m;rw[aV,BP] at this;exact this
  refine an rfl ⟨rfl,aj.of _ n (aA.all 0 H rfl rfl rfl λj H=>ao.go H λl H=>aj.at 0 H rfl (show _=some (gs.getD k zG) from rfl) ⟨rfl,H.all⟩)⟩
theorem Q4 (H:aK D G w0 w L) (j f:Nat) (p:L[j]? =some (bg,mA br gs.length c)) (l:L[f]? =some (br,flat eG gs++rest)) (h0:0<gs.length) (r: ∀x∈gs,0<=x.2.2.2.2.1/\x.2.2.2.2.1<=1000) (i g:Int) (b:Bool) {K:Int->A2->Prop}
 (k: ∀a,aK D G w0 a (L.set f (br,flat eG (dW gs i g b)++rest))->K (gU gs i g b) a):
 az AC 181 (.el (.one (.int .i64))) [ag (ae bg),aa i,aa g,.bool b] w K:=by
 refine az.go H λw1 H=>ai (C:=G3) (aQ:=λ_=>[]) (Aq (Qk _ i g b w1 K) ?_);refine⟨_,Ix (H.get p) (H.get l) h0 i,?_⟩;have same:gU gs i g b≠0-> ∀{a},aK D G w0 a L->aK D G w0 a (L.set f (br,flat eG (dW gs i g b)++rest)):=λh a H=>by
  unfold dW;rw[au h,Og l];exact H
 have e:gU gs i g b=match lV gs i with
  |none=>4
  |some k=>if((gs.getD k zG).2.2.1 != g||b&& !(gs.getD k zG).2.2.2.1)=true then 7 else if(gs.getD k zG).2.2.2.2.1=1000 then 3 else 0:=rfl
 unfold BV BU;cases n:lV gs i with
 |none=>
  rw[n] at e;dsimp only at e;rw[e] at k same;exact aB rfl (ao.go H λa H=>k a (same (by decide) H))
 |some q=>
  obtain⟨v,y,s,m, _⟩:=ly n;rw[n] at e;dsimp only at e;obtain⟨x,o⟩: ∃x,x=gs.getD q zG:=⟨_,rfl⟩;rw[<-o] at e m;refine an rfl ⟨rfl,rfl,aj.of x.2.2.1 (BW H f l m (by decide) rfl) ⟨λ_=>rfl,λ_=>rfl,aj.of x.2.2.2.1 (BW H f l m (by decide) rfl) (ab (λd=>ao.go H λa H=>?_) (λd=>?_))⟩⟩
  ·rw[ay d] at e;rw[e] at k same;exact k a (same (by decide) H)
  ·rw[au (by rw[d];decide)] at e;refine⟨rfl,rfl,aj.of x.2.2.2.2.1 (BW H f l m (by decide) rfl) (ab (λd2=>ao.go H λa H=>?_) (λd2=>?_))⟩
   ·grind
   ·rw[au (by simpa using d2)] at e;have hb:=r x (FU m);refine⟨rfl,rfl,aj.of x.2.2.2.2.1 (BW H f l m (by decide) rfl) ⟨rfl,rfl,?_⟩⟩;rw[aw (by omega) (by omega)];refine aaq H f l m (by decide) rfl (fC x 1) rfl λa H=>ao.go H λt H=>?_;have u:dW gs i g b=gs.set q (fC x 1):=by
     unfold dW;rw[ay e, <-s, <-o]
    rw[e,u] at k;exact k t H
end
section
variable {D G:List Nat} {w0 w:A2} {L:List (Nat×List Ag)} {bg br c:Nat} {gs:List GT} {rest:List Ag}
theorem Q5 (H:aK D G w0 w L) (j e:Nat) (o:L[j]? =some (bg,mA br gs.length c)) (f:L[e]? =some (br,flat eG gs++rest)) (h0:0<gs.length) (p: ∀x∈gs,0<=x.2.2.2.2.1/\x.2.2.2.2.1<=1000) (i g:Int) {K:Int->A2->Prop}
 (k: ∀a,aK D G w0 a (L.set e (br,flat eG (eA gs i g)++rest))->K (mr gs i g) a):
 az AC 182 (.el (.one (.int .i64))) [ag (ae bg),aa i,aa g] w K:=by
 refine az.go H λw1 H=>ai (C:=G3) (aQ:=λ_=>[]) (Aq (Ql _ i g w1 K) ?_);refine⟨_,Ix (H.get o) (H.get f) h0 i,?_⟩;have same:mr gs i g≠0-> ∀{a},aK D G w0 a L->aK D G w0 a (L.set e (br,flat eG (eA gs i g)++rest)):=λh a H=>by
  unfold eA;rw[au h,Og f];exact H
 have b:mr gs i g=match lV gs i with
  |none=>4
  |some k=>if(gs.getD k zG).2.2.1≠g then 7 else if(gs.getD k zG).2.2.2.2.1=0 then 6 else 0:=rfl
 unfold BV BU;cases m:lV gs i with
 |none=>
  rw[m] at b;dsimp only at b;rw[b] at k same;exact aB rfl (ao.go H λa H=>k a (same (by decide) H))
 |some q=>
  obtain⟨u,v,r,l, _⟩:=ly m;rw[m] at b;dsimp only at b;obtain⟨x,n⟩: ∃x,x=gs.getD q zG:=⟨_,rfl⟩;rw[<-n] at b l;refine an rfl ⟨rfl,rfl,aj.of x.2.2.1 (BW H e f l (by decide) rfl) (ab (λd=>ao.go H λa H=>?_) (λd=>?_))⟩
  grind
  ·rw[au (by simpa using d)] at b;refine⟨rfl,rfl,aj.of x.2.2.2.2.1 (BW H e f l (by decide) rfl) (ab (λd2=>ao.go H λa H=>?_) (λd2=>?_))⟩
   grind
   ·rw[au (by simpa using d2)] at b;have hb:=p x (FU l);refine⟨rfl,rfl,aj.of x.2.2.2.2.1 (BW H e f l (by decide) rfl) ⟨rfl,rfl,?_⟩⟩;rw[bC (by omega) (by omega)];refine aaq H e f l (by decide) rfl (fC x (-1)) rfl λa H=>ao.go H λs H=>?_;have t:eA gs i g=gs.set q (fC x (-1)):=by
     unfold eA;rw[ay b, <-r, <-n]
    rw[b,t] at k;exact k s H
theorem G9 (H:aK D G w0 w L) (j f:Nat) (n:L[j]? =some (bg,mA br gs.length c)) (g:L[f]? =some (br,flat eG gs++rest)) (h0:0<gs.length) (i o:Int) {K:Int->A2->Prop}
 (k: ∀a,aK D G w0 a (L.set f (br,flat eG (lh gs i o)++rest))->K (qG gs i o) a):
 az AC 184 (.el (.one (.int .i64))) [ag (ae bg),aa i,aa o] w K:=by
 refine az.go H λw1 H=>ai (C:=G3) (aQ:=λ_=>[]) (Aq (G6 _ i o w1 K) ?_);refine⟨_,Ix (H.get n) (H.get g) h0 i,?_⟩;have same:qG gs i o≠0-> ∀{a},aK D G w0 a L->aK D G w0 a (L.set f (br,flat eG (lh gs i o)++rest)):=λh a H=>by
  unfold lh;rw[au h,Og g];exact H
 have b:qG gs i o=match lV gs i with
  |none=>4
  |some k=>if(gs.getD k zG).1≠o then 7 else if(gs.getD k zG).2.2.2.2.1>0 then 9 else 0:=rfl
 unfold BV BU;cases m:lV gs i with
 |none=>
  rw[m] at b;dsimp only at b;rw[b] at k same;exact aB rfl (ao.go H λa H=>k a (same (by decide) H))
 |some q=>
  obtain⟨y,z,p,l, _⟩:=ly m;rw[m] at b;dsimp only at b;obtain⟨x,r⟩: ∃x,x=gs.getD q zG:=⟨_,rfl⟩;rw[<-r] at b l;refine an rfl ⟨rfl,rfl,aj.of x.1 (BW H f g l (by decide) rfl) (ab (λd=>ao.go H λa H=>?_) (λd=>?_))⟩
  grind
  ·rw[au (by simpa using d)] at b;refine⟨rfl,rfl,aj.of x.2.2.2.2.1 (BW H f g l (by decide) rfl) (ab (λd2=>ao.go H λa H=>?_) (λd2=>?_))⟩
   grind
   ·rw[au (by simpa using d2)] at b;refine⟨rfl,?_⟩;have s:q<gs.length:=(B5.1 l).1;have t:(some (⟨br,q*5,none⟩:AI))=ad (ae br) (q*5):=by rw[aV,BP]
    show aA w1 (some (⟨br,q*5,none⟩:AI)) _ _;rw[t];refine aA.flat (e:=eG) f H zG g rfl rfl s λa H=>ao.go H λu H=>?_;have v:lh gs i o=gs.set q zG:=by
     unfold lh;rw[ay b, <-p]
    rw[b,v] at k;exact k u H
theorem Le (H:aK D G w0 w L) (j m:Nat) (s:L[j]? =some (bg,mA br gs.length c)) (p:L[m]? =some (br,flat eG gs++rest)) (h0:0<gs.length) (F:gs.length<=64) (o q t:Int) (b:Bool) {K:Int×Int×Unit->A2->Prop}
 (k: ∀f,aK D G w0 f (L.set m (br,flat eG (jN gs o q t b)++rest))->K (ki gs o q t,lj gs o q t,()) f):
 az AC 180 (.bu [.one (.int .i64),.one (.int .i64)]) [ag (ae bg),aa o,aa q,aa t,.bool b] w K:=by
 refine az.go H λw1 H=>ai (C:=G3) (aQ:=λ_=>[]) (Aq (KR _ o q t b w1 K) ?_);have same:lj gs o q t≠0-> ∀{f},aK D G w0 f L->aK D G w0 f (L.set m (br,flat eG (jN gs o q t b)++rest)):=λh f H=>by
  unfold jN;rw[au h,Og p];exact H
 have v:lj gs o q t≠0->ki gs o q t=0:=λh=>au h;refine⟨_,pk (H.get s) h0,an rfl ⟨trivial,λ_=>trivial,ab (λd=>ao.go H λf H=>?_) (λd=>?_)⟩⟩
 ·have a:lj gs o q t=1:=ay d;rw[v (by rw[a];decide),a] at k;rw[a] at same;exact k f (same (by decide) H)
 have a:lj gs o q t=if de gs (jY o q t) gs.length≠[] then 5 else if de gs eV gs.length=[] then 3 else 0:=au (by rw[d];decide);refine aM.go H λbc f H=>aA.all 0 H rfl rfl rfl λW H=>La H (j+1) (m+1) s p h0 F (bc:=bc) (Dc) λsl Ls X n H=>?_;obtain⟨sp,A,sc⟩:=sl;have B:A=(de gs (jY o q t) gs.length).length:=n.len;subst B;have H:=H.sub (Dq _ Ls);refine ab (λd1=>ao.go H λI H=>?_) (λd1=>?_)
 ·have d1:de gs (jY o q t) gs.length≠[]:=by
   intro e;rw[e] at d1;simp at d1
  rw[ay d1] at a;rw[v (by rw[a];decide),a] at k;rw[a] at same;exact k I (same (by decide) (H.sub (B2 _ _)))
 have d1: ¬ de gs (jY o q t) gs.length≠[]:=by
  simp_all
 rw[au d1] at a;refine K_ H (j+1) (m+1) s p h0 F λsl Ls I n H=>?_;obtain⟨sp,A,sc⟩:=sl;have B:A=(de gs eV gs.length).length:=n.len;subst B;refine ab (λd2=>ao.go H λJ H=>?_) (λd2=>?_)
 ·have d2:de gs eV gs.length=[]:=by
   have:(de gs eV gs.length).length=0:=by simpa using d2
   exact List.length_eq_zero_iff.1 this
  rw[ay d2] at a;rw[v (by rw[a];decide),a] at k;rw[a] at same;exact k J (same (by decide) (H.sub ((Dq L Ls).trans (B2 _ _))))
 have d2: ¬ de gs eV gs.length=[]:=by
  intro e;rw[e] at d2;simp at d2
 rw[au d2] at a;have M:jN gs o q t b=gs.set (ki gs o q t).toNat (o,q,t,b,0,()):=ay a;have N:ki gs o q t=(de gs eV gs.length).headD 0:=ay a;rw[M,a] at k;obtain⟨z,l,u⟩: ∃z l,de gs eV gs.length=z::l:=List.exists_cons_of_ne_nil d2;have O:ki gs o q t=z:=by rw[N,u];rfl
 rw[O] at k;obtain⟨r,P, _,Q⟩:=qa.1 (by rw[u];exact Dc:z∈de gs eV gs.length);subst Q;rw[u] at n;have Y:(de gs eV gs.length).length=l.length+1:=by rw[u];rfl
 have R: ∀{w:A2} {g:Nat×List Ag},aK D G w0 w (g::(L++Ls))->sp.isSome=true/\cC w (ad sp 0) (.one (.int .i64)) (r:Int):=λ{w g} H=>by
  have h:=n.rd H (λy E=>DA _ (CW _ E)) (i:=0) (x:=(r:Int)) rfl;exact⟨h.1,h.2⟩
 have S:(L++Ls)[j]? =some (bg,mA br gs.length c):=Ae s;have T:(L++Ls)[m]? =some (br,flat eG gs++rest):=Ae p;refine⟨rfl,aA.gx 0 H rfl rfl rfl λJ H=>?_⟩;refine⟨rfl,rfl,aj.cq (j+1) H S rfl ⟨by grind,aj.of _ (R H).2 (aj.at 0 H rfl (show _=some (o,q,t,b,0,()) from rfl) ⟨⟨rfl,by omega,by show(r:Int)<((gs.length:Nat):Int);omega⟩,?_⟩)⟩⟩;refine aA.flat (e:=eG) (m+1) H (o,q,t,b,0,()) T rfl rfl P λU H=>?_;have H:aK D G w0 U ((bc,[aa o,aa q,aa t,.bool b,aa 0])::((L++Ls).set m (br,flat eG (gs.set r (o,q,t,b,0,()))++rest))):=H;rw[Gd _ _ (B5.1 p).1] at H;have h:=n.rd H (λy E=>DA _ (CW _ E)) (i:=0) (x:=(r:Int)) rfl;refine⟨by grind,aj.of _ h.2 (ao.go H λV H=>k V (H.sub ((Dq _ Ls).trans (B2 _ _))))⟩
theorem Q6 (H:aK D G w0 w L) (j b:Nat) (B:L[j]? =some (bg,mA br gs.length c)) (q:L[b]? =some (br,flat eG gs++rest)) (h0:0<gs.length) (E:gs.length<=64) (S:j≠b) (g:Int) {K:Int->A2->Prop}
 (k: ∀n r,aK D G w0 r (L.set b (br,flat eG (cM gs g)++rest))->K n r):
 az AC 169 (.el (.one (.int .i64))) [ag (ae bg),aa g] w K:=by
 refine az.go H λw1 H=>ai (C:=G3) (aQ:=tZ) (Aq (Qm _ g w1 K) ?_);refine aM.go H λbc r H=>Ld H (j+1) (b+1) B q h0 E (bc:=bc) (Dc) λsl Ls F s H=>?_;have H:aK D G w0 F ((bc,[aa g])::(L++Ls)):=H;have H:aK D G w0 F (L++Ls):=H.sub (B2 _ _);obtain⟨sp,T,sc⟩:=sl;have U:T=(de gs (oI g) gs.length).length:=s.len;subst U;obtain⟨l,f⟩: ∃l,l=de gs (oI g) gs.length:=⟨_,rfl⟩;have hll:l.length<=64:=by rw[f];exact F2 (qb _ _ _) E
 have I: ∀z∈l, ∃i:Nat,i<gs.length/\oI g (gs.getD i zG)=true/\z=(i:Int):=λz J=>by rw[f] at J;exact qa.1 J
 have V: ∀i:Nat,i<gs.length->oI g (gs.getD i zG)=true->(i:Int)∈l:=λi h1 t=>by rw[f];exact qa.2 ⟨i,h1,t,rfl⟩
 rw[<-f] at s ⊢;clear f;have W:=(B5.1 q).1;have M: ∀X:Nat×List Ag,((L++Ls).set b X)=L.set b X++Ls:=λX=>Gd _ _ W;refine⟨λn v w'=> ∃(m:Nat) (a:List GT),v.1=(m:Int)/\n+m=l.length/\a.length=gs.length/\(∀i:Nat,i<gs.length->a.getD i zG=if(i:Int)∈l.take m then zG else gs.getD i zG)/\aK D G w0 w' ((L++Ls).set b (br,flat eG a++rest)),⟨l.length,λY Z=>⟨0,gs,rfl,rfl,rfl,λi hi=>by simp,by rw[Og (Ae q)];exact H.ext Z⟩⟩,?_⟩;clear H;rintro n ⟨v,u⟩ Y ⟨m,a,e,hn,N,x,H⟩;dsimp only at e ⊢;subst e;refine ab (λA=>?_) (λA=>ao.go H λO H=>k _ O ?_)
 ·have P:m<l.length:=by simpa using A
  have o:=B3 P;obtain⟨z,hze⟩: ∃z,z=l[m]:=⟨_,rfl⟩;rw[<-hze] at o;obtain⟨d,z1,z2,rfl⟩:=I z (FU o);have kO:l.take (m+1)=l.take m++[(d:Int)]:=by rw[Io,o];rfl
  have Q:=s.rd H (λy hy=>by rw[M];exact CW _ hy) o;have hmb:((L++Ls).set b (br,flat eG a++rest))[j]? =some (bg,mA br a.length c):=by
   rw[N,E4 (λe=>S e.symm)];exact Ae B
  have hwb:((L++Ls).set b (br,flat eG a++rest))[b]? =some (br,flat eG a++rest):=by
   rw[Dk (by rw[FQ];omega)]
  refine⟨⟨Q.1,by omega,by omega⟩,aj.of _ Q.2 ⟨rfl,rfl,aj.cq j H hmb rfl ⟨⟨rfl,by omega,by show(d:Int)<((a.length:Nat):Int);omega⟩,?_⟩⟩⟩;refine aA.flat (e:=eG) b H zG hwb rfl rfl (by omega:d<a.length) λO H=>λw6 R=>⟨n - 1,by omega,m+1,a.set d zG,by rw[aw (by omega) (by omega)];omega,by omega,by rw[Ga];exact N,λi hi=>?_,?_⟩
  ·rw[kO];by_cases ei:i=d
   ·subst ei;rw[ay (by simp)];rw[B6,Dk (by omega)];rfl
   ·have:(a.set d zG).getD i zG=a.getD i zG:=by
     grind
    rw[this,x i hi];by_cases p:(i:Int)∈l.take m
    ·rw[ay p,ay (Do _ p)]
    ·rw[au p,au (λh=>?_)];rcases IR.1 h with h|h
     ·exact p h
     ·have:(i:Int)=d:=by simpa using h
      omega
  ·rw[Bx] at H;exact H.ext R
 ·have P: ¬ m<l.length:=by simpa using A
  rw[FR (by omega)] at x;have e:a=cM gs g:=E5 λi=>by
   unfold cM;rw[J3];by_cases hi:i<gs.length
   ·have h1:=x i hi;have t:a[i]? =some (a.getD i zG):=by rw[B6,B3 (by omega)];rfl
    have h3:gs[i]? =some (gs.getD i zG):=by rw[B6,B3 hi];rfl
    rw[t,h3,h1];show _=some (if oI g (gs.getD i zG)=true then zG else gs.getD i zG);by_cases c:oI g (gs.getD i zG)=true
    ·rw[ay c,ay (V i hi c)]
    ·rw[au c,au (λh=>?_)];obtain⟨i', _,h5,R⟩:=I _ h;have:i'=i:=by omega
     subst this;exact c h5
   ·rw[J5 (by omega),J5 (by omega)];rfl
  subst e;rw[M] at H;exact H.sub (Dq _ _)
theorem U9 (H:aK D G w0 w L) (n:Nat) (c:1<=n/\n<=64) {K:Option AI×Int×Unit->A2->Prop}
 (k: ∀bg br a,aK D G w0 a ((bg,mA br (BJ n zG).length n)::(br,flat eG (BJ n zG)++[])::L)->K (some ⟨bg,0,none⟩,0,()) a):
 az AC 73 (.bu [.one .ptr,.one (.int .i64)]) [aa (n:Int)] w K:=by
 refine az.go H λw1 H=>ai (C:=G3) (Aq (UL _ w1 K) ?_);refine an (by grind) ?_;refine NJ.go H rfl (by omega) (Int.le_refl _) (by omega) (by omega) λb a H=>aM.go H λd f H=>ao.go H λg H=>?_;have e:(BJ ((n:Nat):Int).toNat [aa 0,aa 0,aa 0,.bool false,aa 0]).flatten=flat eG (BJ n zG)++[]:=by
  rw[DB,lG];rfl
 grind
end
end Go.Proofs.YtlcenllcmeebhaaGreat
namespace Go.Proofs.YtlcenllcmeebhaaGreat.Po
set_option maxRecDepth 100000
open Go.RX
def gp (ps:List PT) (g i:Int):PT:=ps.getD (ix g i) zP
def dN (room:Int) (ps:List PT) (g:Int) (x:PT):(Int×Int)×List PT:=if cx room ps g= -1 then((0,3),ps) else((cx room ps g,0),ps.set (ix g (cx room ps g)) x)
def iQ (room:Int) (ps:List PT) (g r:Int):(Int×Int)×List PT:=if rA g r=0 then dN room ps g (1,r,0,false,false,()) else((0,rA g r),ps)
def g_ (room:Int) (ps:List PT) (g r i:Int):(Int×Int)×List PT:=
 if rA g r=0 then
  match oD room ps r i with
  |none=>((0,4),ps)
  |some k=>
   if(ps.getD k zP).1=2 then((0,6),ps) else if(ps.getD k zP).2.1≠g then((0,7),ps) else
    if cx room ps g= -1 then((0,3),ps) else
     ((cx room ps g,0),(ps.set (ix g (cx room ps g)) (2,r,i,false,false,())).set k (2,(ps.getD k zP).2.1,cx room ps g,(ps.getD k zP).2.2.2))
 else((0,rA g r),ps)
def ll (room:Int) (ps:List PT) (g i:Int):Int×List PT:=
 match oD room ps g i with
 |none=>(4,ps)
 |some k=>if(ps.getD k zP).1=2 then
   let y:=gp ps (ps.getD k zP).2.1 (ps.getD k zP).2.2.1
   (0,ps.set (ix (ps.getD k zP).2.1 (ps.getD k zP).2.2.1) (y.1,y.2.1,y.2.2.1,true,y.2.2.2.2))
  else(6,ps)
def vy (ps:List PT) (g:Int) (i:Nat):Bool:=gI g&&((gp ps g i).2.2.2.1&& !(gp ps g i).2.2.2.2.1)
def oS (room:Int) (ps:List PT) (g:Int):List Int:=((DQ room.toNat).filter (vy ps g)).map λi=>((i:Nat):Int)
def gM (room:Int) (ps:List PT) (g:Int):(Int×Bool)×List PT:=
 match oS room ps g with
 |[]=>((0,false),ps)
 |i:: _=>((i,true),ps.set (ix g i) ((gp ps g i).1,(gp ps g i).2.1,(gp ps g i).2.2.1,false,(gp ps g i).2.2.2.2))
def eB (room:Int) (ps:List PT) (g i:Int):Int×List PT:=
 match oD room ps g i with
 |none=>(4,ps)
 |some k=>if(ps.getD k zP).1=2 then
   let y:=gp ps (ps.getD k zP).2.1 (ps.getD k zP).2.2.1
   (0,(ps.set (ix (ps.getD k zP).2.1 (ps.getD k zP).2.2.1) (1,y.2.1,0,y.2.2.2)).set k zP)
  else(0,ps.set k zP)
def h_ (room:Int) (ps:List PT) (g:Int):Nat->Int×List PT
 |0=>(0,ps)
 |i+1=>((h_ room ps g i).1+(if(eB room (h_ room ps g i).2 g i).1=0 then 1 else 0),(eB room (h_ room ps g i).2 g i).2)
def oT (room g:Int) (s:Int×List PT) (k i:Int):Int×List PT:=
 match oD room s.2 k i with
 |none=>s
 |some x=>if(s.2.getD x zP).2.1=g then(s.1+1,s.2.set x zP) else s
def mF (room g:Int) (s:Int×List PT) (k:Int):Nat->Int×List PT
 |0=>s
 |i+1=>oT room g (mF room g s k i) k i
def kj (room g:Int) (s:Int×List PT):Nat->Int×List PT
 |0=>s
 |k+1=>mF room g (kj room g s k) ((k:Int)+1) room.toNat
def cG (room:Int) (ps:List PT) (g:Int):Int×List PT:=if gI g then kj room g (h_ room ps g room.toNat) 16 else(0,ps)
structure lI (room:Int) (ps:List PT):Prop extends okS room ps where
 inv: ∀g i,sr room g i=true->gp ps g i=zP\/((gp ps g i).1=1/\(1<=(gp ps g i).2.1/\(gp ps g i).2.1<=16)/\(gp ps g i).2.1≠g/\(gp ps g i).2.2.1=0)\/
  ((gp ps g i).1=2/\(gp ps g i).2.1≠g/\sr room (gp ps g i).2.1 (gp ps g i).2.2.1=true/\(gp ps (gp ps g i).2.1 (gp ps g i).2.2.1).1=2/\(gp ps (gp ps g i).2.1 (gp ps g i).2.2.1).2.1=g/\(gp ps (gp ps g i).2.1 (gp ps g i).2.2.1).2.2.1=i)
theorem Ap {ps:List PT} {k:Nat} (h:k<ps.length) (x:PT):(ps.set k x).getD k zP=x:=by grind
theorem pI {ps:List PT} {k j:Nat} (h:k≠j) (x:PT):(ps.set k x).getD j zP=ps.getD j zP:=by grind
theorem iV {room:Int} {ps:List PT} (b:okS room ps) {g i g' a:Int} (h:sr room g i=true) (h':sr room g' a=true) (x:PT):gp (ps.set (ix g i) x) g' a=if g'=g/\a=i then x else gp ps g' a:=by
 by_cases e:g'=g/\a=i
 ·rw[ay e,e.1,e.2];exact Ap (by rw[b.len];exact oR h b.hi) x
 ·rw[au e];exact pI (λc=>e (by have:=O_ h h' b.hi;grind)) x
theorem uW {room:Int} {ps:List PT} {g i:Int} (h:sr room g i=true):oD room ps g i=if gp ps g i=zP then none else some (ix g i):=by grind[oD,gp]
theorem pS {g r:Int}:rA g r=0<->gI g=true/\gI r=true/\g≠r:=by grind[rA]
section
variable {D G:List Nat} {w0 w:A2} {L:List (Nat×List Ag)} {bp:Nat} {room:Int} {ps:List PT}
theorem FO (H:aK D G w0 w L) (j:Nat) (a:L[j]? =some (bp,gJ room ps)) (b:okS room ps) (g i:Int) {r:Option Nat} (c:oD room ps g i=r):af AC 213 [ag (ae bp),aa g,aa i] w (ag (r.map λk=>⟨bp,k*5,none⟩)):=by
 subst c;exact af.of λw' h'=>DM ((H.get a).ext h') b g i
theorem Xi (H:aK D G w0 w L) (j:Nat) (a:L[j]? =some (bp,gJ room ps)) (b:okS room ps) (g i:Int):af AC 229 [ag (ae bp),aa g,aa i] w (aa (rA g i)):=
 af.of λw' h'=>ZC ((H.get a).ext h') b g i
theorem Pa (H:aK D G w0 w L) (j:Nat) (a:L[j]? =some (bp,gJ room ps)) (b:okS room ps):af AC 231 [ag (ae bp)] w (aa 4):=
 af.of λw' h'=>U8 ((H.get a).ext h') b
theorem U_ (H:aK D G w0 w L) (j:Nat) (a:L[j]? =some (bp,gJ room ps)) (b:okS room ps):af AC 211 [ag (ae bp)] w (.bool true):=
 af.of λw' h'=>pq ((H.get a).ext h') b
theorem kM {j:Nat} {x y:Nat×List Ag} (h:L[j]? =some x):(L.set j y)[j]? =some y:=by grind
theorem Pb (H:aK D G w0 w L) (j:Nat) (r:L[j]? =some (bp,gJ room ps)) (i:okS room ps) (g:Int) (t:gI g=true) (x:PT) {K:Int×Int×Unit->A2->Prop}
 (k: ∀l,aK D G w0 l (L.set j (bp,gJ room (dN room ps g x).2))->K ((dN room ps g x).1.1,(dN room ps g x).1.2,()) l):
 az AC 230 (.bu [.one (.int .i64),.one (.int .i64)]) [ag (ae bp),aa g,.agg ⟨a_ sQ x⟩] w K:=by
 obtain⟨x1,a,d,f,h,m⟩:=x;refine az.go H λw1 H=>ai (C:=R1) (aQ:=λ_=>[]) (Aq (ZB _ g x1 a d f h w1 K) ?_);have u:=i.hi;refine aM.go H λb l H=>?_;have o:((b,a_ sQ (x1,a,d,f,h,()))::L)[j+1]? =some (bp,gJ room ps):=r;refine⟨cx room ps g,af.of (s:= .el (.one (.int .i64))) λw' h'=>Q3 ((H.get o).ext h') i g,ab (λc=>?_) (λc=>?_)⟩
 ·have e:cx room ps g= -1:=by simpa using c
  have n:dN room ps g (x1,a,d,f,h,m)=((0,3),ps):=ay e;rw[n] at k;refine ao.go H λp H=>k p ?_;have v:L.set j (bp,gJ room ps)=L:=E5 (by grind);rw[v];exact H.sub (B2 _ _)
 ·have e:cx room ps g≠ -1:=by simpa using c
  have n:dN room ps g (x1,a,d,f,h,m)=((cx room ps g,0),ps.set (ix g (cx room ps g)) (x1,a,d,f,h,m)):=au e;rw[n] at k;have q:=(mR t e).1;have E:=eO.1 q;have y:=oR q u;have es:aX .i64 g 1=g - 1:=bC (by omega) (by omega);rw[es];have z:ad (ad (ad (ae bp) 0) ((g - 1).toNat*160)) ((cx room ps g).toNat*5)=ad (ae bp) (ix g (cx room ps g)*aE eQ):=by
   rw[aV,aV,aV,aV];unfold ix;congr 2;show _=0+ _*5;omega
  have A:ad (ad (ae bp) 0) ((g - 1).toNat*160)=some ⟨bp,0+0+(g - 1).toNat*160,none⟩:=by rw[aV,aV]
  rw[z,A];refine aj.at 0 H rfl (x:=(x1,a,d,f,h,())) rfl ⟨rfl,rfl,⟨rfl,by omega,by omega⟩,⟨rfl,by omega,by omega⟩,?_⟩;refine aA.flat (j+1) H (x1,a,d,f,h,()) o rfl rfl (by rw[i.len];exact y) λp H=>ao.go H λB H=>k B ?_;exact H.sub (B2 _ _)
theorem lz {j:Nat} {x:Nat×List Ag} (h:L[j]? =some x):L.set j x=L:=E5 (by grind)
theorem Q7 (H:aK D G w0 w L) (j:Nat) (a:L[j]? =some (bp,gJ room ps)) (h:okS room ps) (g r:Int) {K:Int×Int×Unit->A2->Prop}
 (k: ∀b,aK D G w0 b (L.set j (bp,gJ room (iQ room ps g r).2))->K ((iQ room ps g r).1.1,(iQ room ps g r).1.2,()) b):
 az AC 185 (.bu [.one (.int .i64),.one (.int .i64)]) [ag (ae bp),aa g,aa r] w K:=by
 refine az.go H λw1 H=>ai (C:=R1) (Aq (QW _ g r w1 K) ?_);refine⟨_,Xi H j a h g r,ab (λc=>?_) (λc=>?_)⟩
 ·have e:=by simpa using c
  have d:iQ room ps g r=((0,rA g r),ps):=au e;rw[d] at k;refine ao.go H λf H=>k f ?_;rw[lz a];exact H
 ·have e:rA g r=0:=by simpa using c
  have d:iQ room ps g r=dN room ps g _:=ay e;rw[d] at k;exact Pb H j a h g (pS.1 e).1 (1,r,0,false,false,()) λb H=>ao.go H λf H=>k f H
theorem Q8 (H:aK D G w0 w L) (j:Nat) (a:L[j]? =some (bp,gJ room ps)) (b:okS room ps) (g r i:Int) {K:Int×Int×Unit->A2->Prop}
 (k: ∀h,aK D G w0 h (L.set j (bp,gJ room (g_ room ps g r i).2))->K ((g_ room ps g r i).1.1,(g_ room ps g r i).1.2,()) h):
 az AC 186 (.bu [.one (.int .i64),.one (.int .i64)]) [ag (ae bp),aa g,aa r,aa i] w K:=by
 refine az.go H λw1 H=>ai (C:=R1) (aQ:=λ_=>[]) (Aq (QX _ g r i w1 K) ?_);have l: ∀v:Int×Int,g_ room ps g r i=(v,ps)->ao w1 λw1=>K (v.1,v.2,()) w1:=λv e=>by
  rw[e] at k;refine ao.go H λf H=>k f ?_;rw[lz a];exact H
 refine⟨_,Xi H j a b g r,ab (λc=>?_) (λc=>?_)⟩
 ·have e: ¬ rA g r=0:=by simpa using c
  exact l (0,rA g r) (au e)
 have e:rA g r=0:=by simpa using c
 obtain⟨p,I,B⟩:=pS.1 e;have hb:g_ room ps g r i= _:=ay e;refine⟨_,FO H j a b r i rfl,?_⟩;cases m:oD room ps r i with
 |none=>
  rw[m] at hb;exact aB rfl (l (0,4) hb)
 |some kk=>
  rw[m] at hb;obtain⟨q,s,J⟩:=fv m;have t:kk<512:=by rw[s];exact oR q b.hi
  have u:=b.get t;refine an rfl ⟨rfl,rfl,aj.cq j H a (ri u (by decide) rfl) (ab (λc1=>?_) (λc1=>?_))⟩
  ·exact l (0,6) (hb.trans (ay (by simpa using c1)))
  refine⟨rfl,rfl,aj.cq j H a (ri u (by decide) rfl) (ab (λc2=>?_) (λc2=>?_))⟩
  grind
  have y:=hb.trans ((au (by simpa using c1)).trans (au (by simpa using c2)));refine Pb H j a b g p (2,r,i,false,false,()) λh H=>?_;by_cases d:cx room ps g= -1
  ·have n:dN room ps g (2,r,i,false,false,())=((0,3),ps):=ay d;rw[n] at H ⊢;have o:g_ room ps g r i=((0,3),ps):=y.trans (ay d);rw[o] at k;exact an rfl (ao.go H λf H=>k f H)
  ·have n:dN room ps g (2,r,i,false,false,())=((cx room ps g,0),ps.set (ix g (cx room ps g)) (2,r,i,false,false,())):=au d;rw[n] at H ⊢;have E:ix g (cx room ps g)≠kk:=λz=>by
    rw[s] at z;exact B (O_ (mR p d).1 q b.hi z).1
   have o:g_ room ps g r i=((cx room ps g,0), _):=y.trans (au d);rw[o] at k;have A:=(b.set (ix g (cx room ps g)) (2,r,i,false,false,())).get t;rw[pI E] at A;refine aB rfl ⟨rfl,rfl,?_⟩;refine aA.ri j H (2,(ps.getD kk zP).2.1,(ps.getD kk zP).2.2.1,(ps.getD kk zP).2.2.2.1,(ps.getD kk zP).2.2.2.2.1,()) (kM a) A (by decide) rfl rfl λf H=>⟨rfl,rfl,?_⟩;rw[Bx] at H;refine aA.ri j H (x:=(2,(ps.getD kk zP).2.1,(ps.getD kk zP).2.2.1,(ps.getD kk zP).2.2.2.1,(ps.getD kk zP).2.2.2.2.1,())) (2,(ps.getD kk zP).2.1,cx room ps g,(ps.getD kk zP).2.2.2.1,(ps.getD kk zP).2.2.2.2.1,()) (kM a) (by grind) (by decide) rfl rfl λM H=>ao.go H λF H=>k F ?_;rw[Bx,Bx] at H;exact H
end
theorem lI.nz {room:Int} {ps:List PT} (f:lI room ps) {g i:Int} {k:Nat} (h:oD room ps g i=some k) (a:(ps.getD k zP).1=2):
 (ps.getD k zP).2.1≠g/\sr room (ps.getD k zP).2.1 (ps.getD k zP).2.2.1=true/\oD room ps (ps.getD k zP).2.1 (ps.getD k zP).2.2.1=some (ix (ps.getD k zP).2.1 (ps.getD k zP).2.2.1):=by
 obtain⟨j,l,b⟩:=fv h;subst l;have m:ps.getD (ix g i) zP=gp ps g i:=rfl;rw[m] at a b ⊢;rcases f.inv g i j with e|e|⟨_,n,c,d,p⟩
 ·exact absurd e b
 ·rw[e.1] at a;exact absurd a (by decide)
 ·refine⟨n,c,?_⟩;rw[uW c,au];intro o;rw[o] at d;exact absurd d (by decide)
theorem zq {room:Int} {ps:List PT} {g i:Int} {k:Nat} (a:oD room ps g i=some k):ll room ps g i=if(ps.getD k zP).1=2 then(0,ps.set (ix (ps.getD k zP).2.1 (ps.getD k zP).2.2.1) ((gp ps (ps.getD k zP).2.1 (ps.getD k zP).2.2.1).1,(gp ps (ps.getD k zP).2.1 (ps.getD k zP).2.2.1).2.1,(gp ps (ps.getD k zP).2.1 (ps.getD k zP).2.2.1).2.2.1,true,(gp ps (ps.getD k zP).2.1 (ps.getD k zP).2.2.1).2.2.2.2)) else(6,ps):=by
 unfold ll;rw[a]
theorem pC {room:Int} {ps:List PT} {g i:Int} {k:Nat} (a:oD room ps g i=some k):eB room ps g i=if(ps.getD k zP).1=2 then(0,(ps.set (ix (ps.getD k zP).2.1 (ps.getD k zP).2.2.1) (1,(gp ps (ps.getD k zP).2.1 (ps.getD k zP).2.2.1).2.1,0,(gp ps (ps.getD k zP).2.1 (ps.getD k zP).2.2.1).2.2.2)).set k zP) else(0,ps.set k zP):=by
 unfold eB;rw[a]
theorem G_ {room:Int} {ps:List PT} {g i:Int} (a:oD room ps g i=none):ll room ps g i=(4,ps):=by unfold ll;rw[a]
theorem vV {room:Int} {ps:List PT} {g i:Int} (a:oD room ps g i=none):eB room ps g i=(4,ps):=by unfold eB;rw[a]
section
variable {D G:List Nat} {w0 w:A2} {L:List (Nat×List Ag)} {bp:Nat} {room:Int} {ps:List PT}
theorem Q9 (H:aK D G w0 w L) (j:Nat) (a:L[j]? =some (bp,gJ room ps)) (f:lI room ps) (g i:Int) {K:Int->A2->Prop}
 (k: ∀h,aK D G w0 h (L.set j (bp,gJ room (ll room ps g i).2))->K (ll room ps g i).1 h):
 az AC 187 (.el (.one (.int .i64))) [ag (ae bp),aa g,aa i] w K:=by
 refine az.go H λw1 H=>ai (C:=R1) (aQ:=λ_=>[]) (Aq (QY _ g i w1 K) ?_);have b:=f.tookS;have l: ∀v:Int,ll room ps g i=(v,ps)->ao w1 λw1=>K v w1:=λv e=>by
  rw[e] at k;refine ao.go H λm H=>k m ?_;rw[lz a];exact H
 refine⟨_,FO H j a b g i rfl,?_⟩;cases c:oD room ps g i with
 |none=>exact aB rfl ⟨4,Pa H j a b,l 4 (by unfold ll;rw[c])⟩
 |some kk=>
  obtain⟨o,p,y⟩:=fv c;have q:kk<512:=by rw[p];exact oR o b.hi
  have d:=b.get q;have hb:=zq c;refine an rfl ⟨rfl,rfl,aj.cq j H a (ri d (by decide) rfl) (ab (λc1=>?_) (λc1=>?_))⟩
  ·exact l 6 (hb.trans (au (by simpa using c1)))
  have n:(ps.getD kk zP).1=2:=by simpa using c1
  rw[hb,ay n] at k;obtain⟨z,r,s⟩:=f.nz c n;have t:=oR r b.hi;have u:=b.get t;refine⟨rfl,rfl,aj.cq j H a (ri d (by decide) rfl) ⟨rfl,rfl,aj.cq j H a (ri d (by decide) rfl) ⟨_,FO H j a b _ _ s,rfl,rfl,?_⟩⟩⟩;exact aA.ri j H (_, _, _,true, _,()) a u (by decide) rfl rfl λm H=>ao.go H λx H=>k x H
theorem aA.port (j:Nat) (H:aK D G w0 w L) (a:L[j]? =some (bp,gJ room ps)) {k:Nat} (b:k<ps.length) (y:PT) {vs:List Ag} (hv:vs=a_ sQ y) {K:A2->Prop}
 (c: ∀w1,aK D G w0 w1 (L.set j (bp,gJ room (ps.set k y)))->K w1):aA w (some ⟨bp,k*5,none⟩) vs K:=by
 have:=aA.flat j H (e:=eQ) (rest:=[aa room]) (i:=k) y a hv rfl b c;rw[aV,BP] at this;exact this
theorem A4 (H:aK D G w0 w L) (j:Nat) (a:L[j]? =some (bp,gJ room ps)) (m:lI room ps) (g i:Int) {K:Int->A2->Prop}
 (k: ∀n,aK D G w0 n (L.set j (bp,gJ room (eB room ps g i).2))->K (eB room ps g i).1 n):
 az AC 189 (.el (.one (.int .i64))) [ag (ae bp),aa g,aa i] w K:=by
 refine az.go H λw1 H=>ai (C:=R1) (aQ:=λ_=>[]) (Aq (K9 _ g i w1 K) ?_);have b:=m.tookS;refine⟨_,FO H j a b g i rfl,?_⟩;cases c:oD room ps g i with
 |none=>
  have e:eB room ps g i=(4,ps):=by unfold eB;rw[c]
  rw[e] at k;refine aB rfl ⟨4,Pa H j a b,ao.go H λo H=>k o ?_⟩;rw[lz a];exact H
 |some kk=>
  obtain⟨s,t,A⟩:=fv c;have d:kk<512:=by rw[t];exact oR s b.hi
  have f:=b.get d;have hb:=pC c;refine an rfl ⟨rfl,rfl,aj.cq j H a (ri f (by decide) rfl) (ab (λc1=>?_) (λc1=>?_))⟩
  ·have p:(ps.getD kk zP).1=2:=by simpa using c1
   rw[hb,ay p] at k;obtain⟨B,u,v⟩:=m.nz c p;have h:=oR u b.hi;have q:=b.get h;refine⟨rfl,rfl,aj.cq j H a (ri f (by decide) rfl) ⟨rfl,rfl,aj.cq j H a (ri f (by decide) rfl) ⟨_,FO H j a b _ _ v,rfl,rfl,?_⟩⟩⟩;obtain⟨y,r⟩: ∃y,y=gp ps (ps.getD kk zP).2.1 (ps.getD kk zP).2.2.1:=⟨_,rfl⟩;rw[<-r] at k;have q:ps[ix (ps.getD kk zP).2.1 (ps.getD kk zP).2.2.1]? =some y:=by rw[r];exact b.get h
   refine aA.ri j H (1,y.2.1,y.2.2.1,y.2.2.2.1,y.2.2.2.2.1,()) a q (by decide) rfl rfl λo H=>⟨rfl,rfl,?_⟩;refine aA.ri j H (x:=(1,y.2.1,y.2.2.1,y.2.2.2.1,y.2.2.2.2.1,())) (1,y.2.1,0,y.2.2.2.1,y.2.2.2.2.1,()) (kM a) (by rw[Dk (by rw[b.len];exact h)]) (by decide) rfl rfl λE H=>⟨rfl,?_⟩;rw[Bx,Bx] at H;refine aA.port j H (kM a) (by rw[Ga,b.len];exact d) zP rfl λz H=>ao.go H λl H=>k l ?_;rw[Bx] at H;exact H
  ·rw[hb,au (by simpa using c1)] at k;exact⟨rfl,aA.port j H a (by rw[b.len];exact d) zP rfl λz H=>ao.go H λl H=>k l H⟩
end
section
variable {room:Int} {ps:List PT}
theorem lI.YK (b:lI room ps) {g i:Int} (h:sr room g i=true) (l:(gp ps g i).1≠2) {y:PT} (d:y=zP\/(y.1=1/\(1<=y.2.1/\y.2.1<=16)/\y.2.1≠g/\y.2.2.1=0)):lI room (ps.set (ix g i) y) where
 tookS:=b.tookS.set _ _
 inv g' a h':=by
  by_cases e:g'=g/\a=i
  ·have f:gp (ps.set (ix g i) y) g' a=y:=(iV b.tookS h h' y).trans (ay e);rw[f,e.1];rcases d with d|d
   ·exact .inl d
   ·exact .inr (.inl d)
  ·have f:gp (ps.set (ix g i) y) g' a=gp ps g' a:=(iV b.tookS h h' y).trans (au e);rw[f];rcases b.inv g' a h' with z|z|⟨m,n,k,j,o,p⟩
   ·exact .inl z
   ·exact .inr (.inl z)
   ·have q: ¬ ((gp ps g' a).2.1=g/\(gp ps g' a).2.2.1=i):=λc=>by rw[c.1,c.2] at j;exact l j
    have r:gp (ps.set (ix g i) y) (gp ps g' a).2.1 (gp ps g' a).2.2.1=gp ps (gp ps g' a).2.1 (gp ps g' a).2.2.1:=(iV b.tookS h k y).trans (au q);rw[r];exact .inr (.inr ⟨m,n,k,j,o,p⟩)
theorem lI.sX (c:lI room ps) {g i:Int} (h:sr room g i=true) (k:gp ps g i≠zP) {y:PT} (h1:y.1=(gp ps g i).1) (l:y.2.1=(gp ps g i).2.1) (m:y.2.2.1=(gp ps g i).2.2.1):lI room (ps.set (ix g i) y) where
 tookS:=c.tookS.set _ _
 inv g' d h':=by
  have key: ∀a b,sr room a b=true->(gp (ps.set (ix g i) y) a b).1=(gp ps a b).1/\(gp (ps.set (ix g i) y) a b).2.1=(gp ps a b).2.1/\(gp (ps.set (ix g i) y) a b).2.2.1=(gp ps a b).2.2.1:=λa b f=>by
   by_cases e:a=g/\b=i
   ·rw[(iV c.tookS h f y).trans (ay e),e.1,e.2];exact⟨h1,l,m⟩
   ·rw[(iV c.tookS h f y).trans (au e)];exact⟨rfl,rfl,rfl⟩
  obtain⟨n,o,p⟩:=key g' d h';rw[n,o,p];rcases c.inv g' d h' with z|z|⟨q,r,j,s,t,u⟩
  ·refine .inl ?_;by_cases e:g'=g/\d=i
   ·rw[e.1,e.2] at z;exact absurd z k
   ·rw[(iV c.tookS h h' y).trans (au e)];exact z
  ·exact .inr (.inl z)
  ·obtain⟨v,w,x⟩:=key _ _ j;rw[v,w,x];exact .inr (.inr ⟨q,r,j,s,t,u⟩)
theorem lI.dN (b:lI room ps) {g:Int} (c:gI g=true) {y:PT} (d:y.1=1/\(1<=y.2.1/\y.2.1<=16)/\y.2.1≠g/\y.2.2.1=0):lI room (dN room ps g y).2:=by
 unfold Go.Proofs.YtlcenllcmeebhaaGreat.Po.dN;split
 ·exact b
 ·rename_i f;obtain⟨h1,a⟩:=mR c f;rw[uW h1] at a;have h:gp ps g (cx room ps g)=zP:=by
   by_cases e:gp ps g (cx room ps g)=zP
   ·exact e
   ·rw[au e] at a;cases a
  exact b.YK h1 (by rw[h];decide) (.inr d)
theorem lI.iQ (a:lI room ps) (g r:Int):lI room (iQ room ps g r).2:=by
 unfold Go.Proofs.YtlcenllcmeebhaaGreat.Po.iQ;split
 ·rename_i e;obtain⟨h1,b,c⟩:=pS.1 e;exact a.dN h1 ⟨rfl,ny.1 b,λe=>c e.symm,rfl⟩
 ·exact a
theorem lI.g_ (f:lI room ps) (g r i:Int):lI room (g_ room ps g r i).2:=by
 unfold Go.Proofs.YtlcenllcmeebhaaGreat.Po.g_;split
 ·rename_i e;obtain⟨h1,G,n⟩:=pS.1 e;split
  ·exact f
  ·rename_i k y;split
   ·exact f
   ·split
    ·exact f
    ·split
     ·exact f
     ·rename_i t h A;obtain⟨l,o⟩:=mR h1 A;rw[uW l] at o;have u:gp ps g (cx room ps g)=zP:=by
       by_cases e:gp ps g (cx room ps g)=zP
       ·exact e
       ·rw[au e] at o;cases o
      obtain⟨p1,p2,p3⟩:=fv y;subst p2;have B:ps.getD (ix r i) zP=gp ps r i:=rfl;rw[B] at t h p3 ⊢;have h:(gp ps r i).2.1=g:=Classical.byContradiction h;generalize cx room ps g=j at l u;have p:=f.tookS;have key: ∀a b,sr room a b=true->gp ((ps.set (ix g j) (2,r,i,false,false,())).set (ix r i) (2,(gp ps r i).2.1,j,(gp ps r i).2.2.2)) a b=if a=r/\b=i then(2,(gp ps r i).2.1,j,(gp ps r i).2.2.2) else if a=g/\b=j then(2,r,i,false,false,()) else gp ps a b:=λa b v=>by
       rw[iV (p.set _ _) p1 v,iV p l v]
      show lI room ((ps.set (ix g j) (2,r,i,false,false,())).set (ix r i) (2,(gp ps r i).2.1,j,(gp ps r i).2.2.2));have w:=(p.set (ix g j) (2,r,i,false,false,())).set (ix r i) (2,(gp ps r i).2.1,j,(gp ps r i).2.2.2);generalize (ps.set (ix g j) (2,r,i,false,false,())).set (ix r i) (2,(gp ps r i).2.1,j,(gp ps r i).2.2.2)=X at key w ⊢;refine⟨w,λg' d h'=>?_⟩;rw[key g' d h'];by_cases q:g'=r/\d=i
      ·rw[ay q];obtain⟨rfl,rfl⟩:=q;refine .inr (.inr ⟨rfl,by rw[h];exact n,by rw[h];exact l,?_⟩);show(gp _ (gp ps g' d).2.1 j).1=2/\(gp _ (gp ps g' d).2.1 j).2.1=g'/\(gp _ (gp ps g' d).2.1 j).2.2.1=d;rw[h,key g j l,au (λc=>n c.1),ay ⟨rfl,rfl⟩];exact⟨rfl,rfl,rfl⟩
      ·rw[au q];by_cases s:g'=g/\d=j
       ·rw[ay s];obtain⟨rfl,rfl⟩:=s;refine .inr (.inr ⟨rfl,λc=>n c.symm,p1,?_⟩);show(gp _ r i).1=2/\(gp _ r i).2.1=g'/\(gp _ r i).2.2.1=d;rw[key r i p1,ay ⟨rfl,rfl⟩];exact⟨rfl,h,rfl⟩
       ·rw[au s];rcases f.inv g' d h' with z|z|⟨C,D,x,m,E,F⟩
        ·exact .inl z
        ·exact .inr (.inl z)
        ·rw[key _ _ x,au,au]
         ·exact .inr (.inr ⟨C,D,x,m,E,F⟩)
         ·intro c;rw[c.1,c.2,u] at m;exact absurd m (by decide)
         ·intro c;rw[c.1,c.2] at m;exact t m
 ·exact f
theorem lI.ll (a:lI room ps) (g i:Int):lI room (ll room ps g i).2:=by
 cases b:oD room ps g i with
 |none=>rw[G_ b];exact a
 |some k=>
  rw[zq b];split
  ·rename_i c;obtain⟨_,d,e⟩:=a.nz b c;obtain⟨_, _,f⟩:=fv e;exact a.sX d f rfl rfl rfl
  ·exact a
theorem tx {g x:Int} (h:x∈oS room ps g):sr room g x=true/\(gp ps g x).2.2.2.1=true/\(gp ps g x).2.2.2.2.1=false:=by
 unfold oS at h;rw[DH] at h;obtain⟨j,b,rfl⟩:=h;rw[Ih] at b;have:=GG.1 b.1;have a:=b.2;unfold vy at a;simp only[Dx,FP] at a;exact⟨eO.2 ⟨ny.1 a.1,by omega,by omega⟩,a.2.1,a.2.2⟩
theorem I6 {g x:Int} (h:x∈oS room ps g):gp ps g x≠zP:=λe=>by
 have:=(tx h).2.1;rw[e] at this;cases this
theorem lI.gM (a:lI room ps) (g:Int):lI room (gM room ps g).2:=by
 unfold Go.Proofs.YtlcenllcmeebhaaGreat.Po.gM;cases c:oS room ps g with
 |nil=>exact a
 |cons x l=>
  have b:x∈oS room ps g:=by rw[c];exact Dc
  exact a.sX (tx b).1 (I6 b) rfl rfl rfl
theorem lI.eB (d:lI room ps) (g i:Int):lI room (eB room ps g i).2:=by
 cases l:oD room ps g i with
 |none=>rw[vV l];exact d
 |some k=>
  rw[pC l];obtain⟨p1,p2,p3⟩:=fv l;have p:=d.tookS;split
  ·rename_i e;obtain⟨q,m, _⟩:=d.nz l e;subst p2;have y:ps.getD (ix g i) zP=gp ps g i:=rfl;rw[y] at e q m p3 ⊢;have hi:=d.inv g i p1;rcases hi with z|z|⟨_, _, _,c4,c5,c6⟩
   ·exact absurd z p3
   ·rw[z.1] at e;exact absurd e (by decide)
   obtain⟨r,t⟩: ∃r,r=(gp ps g i).2.1:=⟨_,rfl⟩;obtain⟨j,u⟩: ∃j,j=(gp ps g i).2.2.1:=⟨_,rfl⟩;rw[<-t] at q c4 c5 c6 m ⊢;rw[<-u] at c4 c5 c6 m ⊢;have key: ∀a b,sr room a b=true->gp ((ps.set (ix r j) (1,(gp ps r j).2.1,0,(gp ps r j).2.2.2)).set (ix g i) zP) a b=if a=g/\b=i then zP else if a=r/\b=j then(1,(gp ps r j).2.1,0,(gp ps r j).2.2.2) else gp ps a b:=λa b v=>by
    rw[iV (p.set _ _) p1 v,iV p m v]
   show lI room ((ps.set (ix r j) (1,(gp ps r j).2.1,0,(gp ps r j).2.2.2)).set (ix g i) zP);have w:=(p.set (ix r j) (1,(gp ps r j).2.1,0,(gp ps r j).2.2.2)).set (ix g i) zP;generalize (ps.set (ix r j) (1,(gp ps r j).2.1,0,(gp ps r j).2.2.2)).set (ix g i) zP=X at key w ⊢;refine⟨w,λg' n h'=>?_⟩;rw[key g' n h'];by_cases s:g'=g/\n=i
   ·rw[ay s];exact .inl rfl
   ·rw[au s];by_cases o:g'=r/\n=j
    ·rw[ay o];refine .inr (.inl ⟨rfl,?_,?_,rfl⟩)
     ·show 1<=(gp ps r j).2.1/\(gp ps r j).2.1<=16;rw[c5];exact(eO.1 p1).1
     ·show(gp ps r j).2.1≠g';rw[c5,o.1];exact λc=>q c.symm
    ·rw[au o];rcases d.inv g' n h' with z|z|⟨A,B,x,C,f,h⟩
     ·exact .inl z
     ·exact .inr (.inl z)
     ·rw[key _ _ x,au,au]
      ·exact .inr (.inr ⟨A,B,x,C,f,h⟩)
      ·intro c;rw[c.1,c.2] at f h;exact s ⟨by rw[<-f,c5],by rw[<-h,c6]⟩
      ·intro c;rw[c.1,c.2] at f h;exact o ⟨by rw[<-f, <-t],by rw[<-h, <-u]⟩
  ·rename_i e;subst p2;exact d.YK p1 e (.inl rfl)
end
section
variable {D G:List Nat} {w0 w:A2} {L:List (Nat×List Ag)} {bp:Nat} {room:Int} {ps:List PT}
def AE (ps:List PT) (g:Int) (i:Nat):List Int:=((DQ i).filter (vy ps g)).map λi=>((i:Nat):Int)
theorem Ha (g:Int) (i:Nat):AE ps g (i+1)=AE ps g i++(if vy ps g i then[((i:Nat):Int)] else[]):=by grind[AE,GD]
theorem Lg (g:Int) (i:Nat):(AE ps g i).length<=i:=by grind[AE]
theorem Hc {g:Int} {i:Nat} (hi:(i:Int)<room) (a:oD room ps g i=none):vy ps g i=false:=by
 grind[vy,sr,uW,zP]
theorem Hd {g:Int} {i:Nat} {k:Nat} (a:oD room ps g i=some k):vy ps g i=((ps.getD k zP).2.2.2.1&& !(ps.getD k zP).2.2.2.2.1):=by
 obtain⟨h1,b, _⟩:=fv a;unfold vy;rw[ny.2 (eO.1 h1).1,b];rfl
theorem Q_ (hb:bL w bp (gJ room ps)) (f:okS room ps) (g:Int):aD AC 232 (.el (.one .slice)) [ag (ae bp),aa g] w (λr w'=>lM w w' eI r (oS room ps g)/\Ext w w'):=by
 refine ai (C:=R1) (aQ:=ua) (Aq (QZ _ g w _) ?_);have A:=f.lo;have B:=f.hi;refine⟨true,af.of (s:= .el (.one .bool)) λw' h'=>pq (hb.ext h') f,an rfl ⟨rfl,rfl,aj.kZ (At.start [] w) hb (by simp) (pR f) ?_⟩⟩;refine⟨λq s w'=> ∃i:Nat,s.2.1=i/\q+i=room.toNat/\At [] w w' []/\lM w w' eI s.1 (AE ps g i),⟨room.toNat,λw1 h1=>⟨0,rfl,rfl,(At.start [] w).ext h1,lM.start w w1 eI⟩⟩,?_⟩;rintro q ⟨⟨sp,D,sc⟩,E,u⟩ w1 ⟨i,hi,F,H,j⟩;simp only at hi j;subst hi;dsimp only;refine ab (λc=>?_) (λc=>?_)
 ·have G:i<room.toNat:=by simp at c;omega
  have a:=Ha (ps:=ps) g i;have I:=Lg (ps:=ps) g i;refine⟨_,af.of (s:= .el (.one .ptr)) λw' h'=>DM ((H.fI hb (by simp)).ext h') f g i,?_⟩;unfold cq;cases k:oD room ps g i with
  |none=>
   rw[Hc (by omega) k] at a;rw[au (by decide),DB] at a;refine⟨λh=>by simp at h,λh=>by simp at h,false,λh=>by simp at h,λh=>by simp at h,λh=>by simp at h,false,λh=>by simp at h,an rfl λl d=>⟨q - 1,by omega,i+1,by rw[aw (by omega) (by omega)];rfl,by omega,H.ext d,by rw[a];exact j.ext d⟩⟩
  |some kk=>
   obtain⟨p,t,J⟩:=fv k;have v:kk<512:=by rw[t];exact oR p f.hi
   have n:=f.get v;rw[Hd k] at a;refine⟨λ_=>rfl,λ_=>rfl,aj.kZ H hb (by simp) (ri n (by decide) rfl) ⟨λ_=>rfl,λ_=>rfl,aj.kZ H hb (by simp) (ri n (by decide) rfl) (ab (λc2=>?_) (λc2=>?_))⟩⟩
   ·have c3:((ps.getD kk zP).2.2.2.1&& !(ps.getD kk zP).2.2.2.2.1)=true:=by simpa using c2
    rw[ay c3] at a;have m:=At.start [] w1;refine aM.go m λb l m=>λK x=>?_;refine At.aa3 (e:=eI) (i:=0) H j (m.ext x) (i:Int) rfl rfl rfl rfl rfl (by omega) λs' L y z M o=>⟨q - 1,by omega,i+1,by rw[aw (by omega) (by omega)];rfl,by omega,y.ext o,?_⟩;rw[a];exact z.ext o
   ·have c3: ¬ ((ps.getD kk zP).2.2.2.1&& !(ps.getD kk zP).2.2.2.2.1)=true:=by simpa using c2
    rw[au c3,DB] at a;exact λl d=>⟨q - 1,by omega,i+1,by rw[aw (by omega) (by omega)];rfl,by omega,H.ext d,by rw[a];exact j.ext d⟩
 ·have hi:i=room.toNat:=by simp at c;omega
  subst hi;exact λl d=>⟨j.ext d,(H.ext d).all⟩
theorem Ra (H:aK D G w0 w L) (j:Nat) (b:L[j]? =some (bp,gJ room ps)) (c:okS room ps) (g:Int) {K:Option AI×Nat×Nat->A2->Prop}
 (k: ∀r rows a,aK D G w0 a (L++rows)->kh eI rows r (oS room ps g)->K r a):az AC 232 (.el (.one .slice)) [ag (ae bp),aa g] w K:=
 az.YI H (λw1 H=>Q_ (H.get b) c g) k
theorem zt {rows:List (Nat×List Ag)} {r:Option AI×Nat×Nat} {x:Int} {l:List Int} (a:kh eI rows r (x::l)) (H:aK D G w0 w L) (b: ∀y∈rows,y∈L):r.1.isSome=true/\cC w (ad r.1 0) (.one (.int .i64)) x:=by
 have:=a.sl H b 0
 grind
theorem Rb (H:aK D G w0 w L) (j:Nat) (f:L[j]? =some (bp,gJ room ps)) (c:okS room ps) (g:Int) {K:Int×Bool×Unit->A2->Prop}
 (k: ∀h,aK D G w0 h (L.set j (bp,gJ room (gM room ps g).2))->K ((gM room ps g).1.1,(gM room ps g).1.2,()) h):
 az AC 188 (.bu [.one (.int .i64),.one .bool]) [ag (ae bp),aa g] w K:=by
 refine az.go H λw1 H=>ai (C:=R1) (aQ:=λ_=>[]) (Aq (Q0 _ g w1 K) ?_);refine Ra H j f c g λr rows h H d=>?_;have q:j<L.length:=(B5.1 f).1;have m:(L++rows)[j]? =some (bp,gJ room ps):=by grind
 have a:=d.1;cases b:oS room ps g with
 |nil=>
  rw[b] at a;have e:gM room ps g=((0,false),ps):=by unfold gM;rw[b]
  rw[e] at k;refine aB (by rw[a];rfl) (ao.go H λn H=>k n ?_);rw[lz f];exact H.sub (Dq _ _)
 |cons x l=>
  have o:x∈oS room ps g:=by rw[b];exact Dc
  rw[b] at a d;have e:gM room ps g=((x,true),ps.set (ix g x) ((gp ps g x).1,(gp ps g x).2.1,(gp ps g x).2.2.1,false,(gp ps g x).2.2.2.2)):=by unfold gM;rw[b]
  rw[e] at k;obtain⟨p1, _, _⟩:=tx o;have s:oD room ps g x=some (ix g x):=by rw[uW p1,au (I6 o)]
  have t:=oR p1 c.hi;have u:ps[ix g x]? =some (gp ps g x):=c.get t;have h0:=zt d H (λy i=>CW _ i);have p:(x::l).length=l.length+1:=rfl;refine an (by rw[a,p];simp;omega) ⟨⟨h0.1,by omega,by rw[a,p];omega⟩,aj.of x h0.2 ⟨_,FO H j m c g x s,rfl,rfl,?_⟩⟩;refine aA.ri j H ((gp ps g x).1,(gp ps g x).2.1,(gp ps g x).2.2.1,false,(gp ps g x).2.2.2.2.1,()) m u (by decide) rfl rfl λn H=>?_;rw[Gd _ _ q] at H;have h1:=zt d H (λy i=>CW _ i);refine⟨by grind,aj.of x h1.2 (ao.go H λv H=>k v (H.sub (Dq _ _)))⟩
theorem tA (a:lI room ps) (g:Int): ∀i,lI room (h_ room ps g i).2
 |0=>a
 |i+1=>(tA a g i).eB g i
theorem Ee (g:Int): ∀i:Nat,0<=(h_ room ps g i).1/\(h_ room ps g i).1<=i
 |0=>by simp[h_]
 |i+1=>by
  have:=Ee g i;simp[h_];omega
theorem Lh (d:lI room ps) {g i j:Int} (hi:sr room g i=true) (b:sr room g j=true):gp (eB room ps g i).2 g j=if j=i then zP else gp ps g j:=by
 cases a:oD room ps g i with
 |none=>
  rw[vV a];rw[uW hi] at a
  grind
 |some=>
  rw[pC a];obtain⟨p1,p2,p3⟩:=fv a;have c:=d.tookS;split
  ·rename_i e;obtain⟨h,f, _⟩:=d.nz a e;subst p2;rw[iV (c.set _ _) p1 b,iV c f b]
   grind
  ·subst p2;rw[iV c p1 b]
   grind
theorem Ef (b:lI room ps) {g:Int} (a:gI g=true): ∀(n:Nat),(n:Int)<=room-> ∀j,0<=j->j<(n:Int)->gp (h_ room ps g n).2 g j=zP
 |n+1,f,j,h0,h1=>by
  have c:sr room g n=true:=eO.2 ⟨ny.1 a,by omega⟩;have d:sr room g j=true:=eO.2 ⟨ny.1 a,by omega⟩;simp[h_];rw[Lh (tA b g n) c d];by_cases e:j=n
  ·grind
  ·rw[au e];exact Ef b a n (by omega) j h0 (by omega)
def vz (room:Int) (ps:List PT) (g:Int):Prop:=lI room ps/\ ∀i,sr room g i=true->gp ps g i=zP
theorem Re {g:Int} (h:vz room ps g) {k i:Int} (hi:sr room k i=true) (d:(gp ps k i).2.1=g):(gp ps k i).1≠2:=by
 intro b;rcases h.1.inv k i hi with z|z|⟨_, _,c,a, _⟩
 ·rw[z] at b;exact absurd b (by decide)
 grind
 ·rw[d] at c a;rw[h.2 _ c] at a;exact absurd a (by decide)
theorem He {g:Int} {s:Int×List PT} (h:vz room s.2 g) (k i:Int):vz room (oT room g s k i).2 g:=by
 unfold oT;split
 ·grind
 ·rename_i b;split
  ·rename_i c;obtain⟨p1,p2,p3⟩:=fv b;subst p2;refine⟨h.1.YK p1 (Re h p1 c) (.inl rfl),λj a=>?_⟩;rw[iV h.1.tookS p1 a];split
   ·rfl
   ·exact h.2 j a
  grind
theorem rW {g:Int} {s:Int×List PT} (h:vz room s.2 g) (k:Int): ∀i,vz room (mF room g s k i).2 g
 |0=>h
 |i+1=>He (rW h k i) k i
theorem rX {g:Int} {s:Int×List PT} (h:vz room s.2 g): ∀k,vz room (kj room g s k).2 g
 |0=>h
 |k+1=>rW (rX h k) _ _
theorem Rf {g:Int} (s:Int×List PT) (k i:Int):s.1<=(oT room g s k i).1/\(oT room g s k i).1<=s.1+1:=by grind[oT]
theorem yT {g:Int} (s:Int×List PT) (k:Int): ∀i:Nat,s.1<=(mF room g s k i).1/\(mF room g s k i).1<=s.1+i
 |0=>by simp[mF]
 |i+1=>by
  have h1:=yT (g:=g) s k i;have a:=Rf (g:=g) (room:=room) (mF room g s k i) k i;simp[mF];omega
theorem Eg {g:Int} (s:Int×List PT): ∀k:Nat,s.1<=(kj room g s k).1/\(kj room g s k).1<=s.1+k*room.toNat
 |0=>by simp[kj]
 |k+1=>by
  have h1:=Eg (g:=g) s k;have a:=yT (g:=g) (room:=room);simp[kj]
  grind
theorem zu (a:lI room ps) {g:Int} (b:gI g=true):vz room (h_ room ps g room.toNat).2 g:=by
 exact⟨tA a g _,by grind[Ef,eO]⟩
theorem Rh (a:lI room ps) (g:Int):lI room (cG room ps g).2:=by
 unfold cG;split
 ·rename_i b;exact(rX (zu a b) _).1
 grind
theorem Ri (H:aK D G w0 w L) (j:Nat) (d:L[j]? =some (bp,gJ room ps)) (x:lI room ps) (g:Int) {K:Int->A2->Prop}
 (k: ∀I,aK D G w0 I (L.set j (bp,gJ room (cG room ps g).2))->K (cG room ps g).1 I):
 az AC 170 (.el (.one (.int .i64))) [ag (ae bp),aa g] w K:=by
 refine az.go H λw1 H=>ai (C:=R1) (aQ:=ub) (Aq (Q1 _ g w1 K) ?_);have t:=x.tookS;have To:=t.lo;have R:=t.hi;refine⟨true,U_ H j d t,λ_=>trivial,ab (λc=>?_) (λc=>?_)⟩
 ·have v:gI g=false:=by simpa using c
  have e:cG room ps g=(0,ps):=by unfold cG;rw[v];rfl
  rw[e] at k;refine ao.go H λy H=>k y ?_;rw[lz d];exact H
 have v:gI g=true:=by simpa using c
 have e:cG room ps g=kj room g (h_ room ps g room.toNat) 16:=by unfold cG;rw[ay v]
 rw[e] at k;refine⟨rfl,rfl,aj.cq j H d (pR t) ?_⟩;refine⟨λq s w'=> ∃i:Nat,s.2.1=i/\q+i=room.toNat/\s.1=(h_ room ps g i).1/\aK D G w0 w' (L.set j (bp,gJ room (h_ room ps g i).2)),⟨room.toNat,λy S=>⟨0,rfl,rfl,rfl,by rw[show(h_ room ps g 0).2=ps from rfl,lz d];exact H.ext S⟩⟩,?_⟩;clear H;rintro q ⟨a,T,u⟩ y ⟨i,hi,hq,l,H⟩;simp only at hi l;subst hi;subst l;dsimp only;have U:=Ee (room:=room) (ps:=ps) g i;refine ab (λc1=>?_) (λc1=>?_)
 ·have V:i<room.toNat:=by simp at c1;omega
  have W:=tA x g i;refine A4 H j (kM d) W g i λJ H=>?_;rw[Bx] at H;have n:aI .i64 (i:Int) 1=((i+1:Nat):Int):=by rw[aw (by omega) (by omega)];rfl
  refine ab (λc2 o p=>⟨q - 1,by omega,i+1,n,by omega,?_,H.ext p⟩) (λc2 o p=>⟨q - 1,by omega,i+1,n,by omega,?_,H.ext p⟩)
  ·have c3:(eB room (h_ room ps g i).2 g i).1=0:=by simpa using c2
   simp only[h_];rw[ay c3,aw (by omega) (by omega)]
  ·have c3: ¬ (eB room (h_ room ps g i).2 g i).1=0:=by simpa using c2
   simp only[h_];rw[au c3,Int.add_zero]
 have hi:i=room.toNat:=by simp at c1;omega
 subst hi;have M:=zu x v;generalize h_ room ps g room.toNat=f at H k M U;refine⟨λq s w'=> ∃m:Nat,s.2.1=(m:Int)+1/\q+m=16/\s.1=(kj room g f m).1/\aK D G w0 w' (L.set j (bp,gJ room (kj room g f m).2)),⟨16,λJ X=>⟨0,rfl,rfl,rfl,H.ext X⟩⟩,?_⟩;clear H;rintro Y ⟨a,m',u2⟩ J ⟨m,N,Wx,l,H⟩;simp only at N l;subst N;subst l;dsimp only;have O:=rX M m;have hlA:=Eg (room:=room) (g:=g) f m;have acP:(m:Int)*(room.toNat:Int)<=16*32:=Int.mul_le_mul (by omega) (by omega) (by omega) (by omega);refine ab (λc2=>?_) (λc2=>?_)
 ·have P:m<16:=by simp at c2;omega
  refine⟨rfl,rfl,aj.cq j H (kM d) (pR O.1.tookS) ?_⟩;refine⟨λq s w'=> ∃i:Nat,s.2.1=i/\q+i=room.toNat/\s.1=(mF room g (kj room g f m) ((m:Int)+1) i).1/\aK D G w0 w' (L.set j (bp,gJ room (mF room g (kj room g f m) ((m:Int)+1) i).2)),⟨room.toNat,λo p=>⟨0,rfl,rfl,rfl,H.ext p⟩⟩,?_⟩;clear H;rintro z ⟨a,T,u3⟩ o ⟨i,hi,hq3,l,H⟩;simp only at hi l;subst hi;subst l;dsimp only;have Z:=rW O ((m:Int)+1) i;have hlR:=yT (room:=room) (g:=g) (kj room g f m) ((m:Int)+1) i;refine ab (λc3=>?_) (λc3=>?_)
  ·have V:i<room.toNat:=by simp at c3;omega
   have n:aI .i64 (i:Int) 1=((i+1:Nat):Int):=by rw[aw (by omega) (by omega)];rfl
   have A:=Z.1.tookS;have er:mF room g (kj room g f m) ((m:Int)+1) (i+1)=oT room g (mF room g (kj room g f m) ((m:Int)+1) i) ((m:Int)+1) i:=rfl;generalize mF room g (kj room g f m) ((m:Int)+1) i=b at*
   refine⟨_,FO H j (kM d) A ((m:Int)+1) i rfl,?_⟩;cases B:oD room b.2 ((m:Int)+1) i with
   |none=>
    have E:oT room g b ((m:Int)+1) i=b:=by unfold oT;rw[B]
    rw[E] at er;exact⟨λh=>by simp at h,λh=>by simp at h,(0:Int),λh=>by simp at h,an rfl λF r=>⟨z - 1,by omega,i+1,n,by omega,by rw[er],by rw[er];exact H.ext r⟩⟩
   |some kk=>
    obtain⟨lL,sw,hnz⟩:=fv B;have Q:kk<512:=by rw[sw];exact oR lL R
    have Df:=A.get Q;have E:oT room g b ((m:Int)+1) i=if(b.2.getD kk zP).2.1=g then(b.1+1,b.2.set kk zP) else b:=by unfold oT;rw[B]
    rw[E] at er;refine⟨λ_=>rfl,λ_=>rfl,aj.cq j H (kM d) (ri Df (by decide) rfl) (ab (λc4=>?_) (λc4=>?_))⟩
    ·have c5:(b.2.getD kk zP).2.1=g:=by simpa using c4
     rw[ay c5] at er;refine⟨rfl,aA.port j H (kM d) (by rw[A.len];exact Q) zP rfl λF H w7 h7=>⟨z - 1,by omega,i+1,n,by omega,?_,?_⟩⟩
     ·rw[er,aw (by omega) (by omega)]
     ·rw[er];rw[Bx] at H;exact H.ext h7
    ·have c5: ¬ (b.2.getD kk zP).2.1=g:=by simpa using c4
     rw[au c5] at er;exact λF r=>⟨z - 1,by omega,i+1,n,by omega,by rw[er],by rw[er];exact H.ext r⟩
  ·have hi:i=room.toNat:=by simp at c3;omega
   subst hi;exact λF r=>⟨Y - 1,by omega,m+1,by rw[aw (by omega) (by omega)];omega,by omega,rfl,H.ext r⟩
 ·have P:m=16:=by simp at c2;omega
  subst P;exact ao.go H λo H=>k o H
end
def Ed (room:Int) (ps:List PT) (u v:Int):Prop:= ∃i,sr room u i=true/\gp ps u i≠zP/\(gp ps u i).2.1=v
inductive Lk (room:Int) (ps:List PT) (a:Int):Int->Prop
 |refl:Lk room ps a a
 |fwd {u v:Int}:Lk room ps a u->Ed room ps u v->Lk room ps a v
 |bwd {u v:Int}:Lk room ps a v->Ed room ps u v->Lk room ps a u
def tv (bs:List Bool) (v:Int):Bool:=bs.getD v.toNat false
def J0 (bs:List Bool):List Ag:=bs.map Value.bool
theorem OC {bs:List Bool} {v:Int} (h:v.toNat<bs.length):kr (J0 bs) (0+v.toNat*1) (.one .bool)=some (tv bs v):=by
 have:(J0 bs)[0+v.toNat*1]? =some (.bool (tv bs v)):=by
  unfold J0 tv;rw[BP,Nat.mul_one,J3,B3 h,B6,B3 h];rfl
 show(match (J0 bs)[0+v.toNat*1]? with|some v=>Sc.bool.proj v|none=>none)= _;rw[this];rfl
theorem Gf {bs:List Bool} {u v:Int} (b:0<=u) (a:u.toNat<bs.length) (hv:0<=v):tv (bs.set u.toNat true) v=if v=u then true else tv bs v:=by
 unfold tv;by_cases e:v=u
 ·subst e;rw[ay rfl];simp[B6,a]
 ·rw[au e];have:u.toNat≠v.toNat:=by omega
  simp[B6,E4 this]
def Ig (bs:List Bool):Nat:=bs.countP (! ·)
theorem xx {bs:List Bool} {k:Nat} (a:k<bs.length):Ig (bs.set k true)+(if bs.getD k false=false then 1 else 0)=Ig bs:=by
 unfold Ig;rw[List.countP_set a];have e:bs.getD k false=bs[k]:=by rw[B6,B3 a];rfl
 rw[e];cases h:bs[k] with
 |true=>simp
 |false=>
  have:0<bs.countP (! ·):=List.countP_pos_iff.2 ⟨bs[k],I1 a,by rw[h];rfl⟩;simp;omega
theorem rY {bs:List Bool} {k:Nat} (a:k<bs.length):Ig (bs.set k true)<=Ig bs:=by have:=xx a;omega
section
variable {D G:List Nat} {w0 w:A2} {L:List (Nat×List Ag)} {bp:Nat} {room:Int} {ps:List PT}
theorem OD (j:Nat) (H:aK D G w0 w L) {b:Nat} {bs:List Bool} {v:Int} (a:L[j]? =some (b,J0 bs)) (d:v.toNat<bs.length) {K:A2->Prop}
 (c: ∀w1,aK D G w0 w1 (L.set j (b,J0 (bs.set v.toNat true)))->K w1):aA w (ad (ae b) (v.toNat*1)) [.bool true] K:=by
 refine aA.gx j H a rfl ?_ λw1 h1=>c w1 ?_
 ·rw[H6];unfold J0;rw[GH];omega
 ·have e:(J0 bs).set (0+v.toNat*1) (.bool true)=J0 (bs.set v.toNat true):=by unfold J0;rw[List.map_set,BP,Nat.mul_one]
  rw[e] at h1;exact h1
end
end Go.Proofs.YtlcenllcmeebhaaGreat.Po
namespace Go.Proofs.YtlcenllcmeebhaaGreat
set_option maxRecDepth 100000
open Go.RX
open Po (tv J0 OC Gf Ig xx rY OD)
inductive Rc (E:Int->Int->Prop) (a:Int):Int->Prop
 |refl:Rc E a a
 |step {u v:Int}:Rc E a u->E u v->Rc E a v
structure Dfs (E:Int->Int->Prop) (n:Int) (bs XT:List Bool):Prop where
 len:XT.length=17
 mono: ∀v,0<=v->tv bs v=true->tv XT v=true
 Fy:tv XT n=true
 snd: ∀v,0<=v->tv XT v=true->tv bs v=true\/Rc E n v
 cls: ∀u v,0<=u->tv XT u=true->tv bs u=false->E u v->tv XT v=true
 Ig:Ig XT<=Ig bs
structure Lp (E:Int->Int->Prop) (n:Int) (bs cs:List Bool):Prop where
 len:cs.length=17
 mono: ∀v,0<=v->tv bs v=true->tv cs v=true
 Fy:tv cs n=true
 snd: ∀v,0<=v->tv cs v=true->tv bs v=true\/Rc E n v
 cls: ∀u v,0<=u->u≠n->tv cs u=true->tv bs u=false->E u v->tv cs v=true
 Ig:Ig cs+(if tv bs n=false then 1 else 0)<=Ig bs
open Po (tv J0 OC Gf Ig xx rY OD)
def n5 (gs:List GT):Prop:= ∀x∈gs,(x=zG\/((1<=x.1/\x.1<=16)/\(1<=x.2.2.1/\x.2.2.1<=16)/\x.1≠x.2.2.1/\0<=x.2.1/\x.2.1<65536))/\0<=x.2.2.2.2.1/\x.2.2.2.2.1<=1000
theorem Pc {g:Int}:gG g=true<->1<=g/\g<=16:=by unfold gG;simp
section
variable {w0:A2} {bg br c:Nat} {gs:List GT} {rest:List Ag}
end
theorem n5.set {gs:List GT} (h:n5 gs) (i:Nat) {x:GT} (b:(x=zG\/((1<=x.1/\x.1<=16)/\(1<=x.2.2.1/\x.2.2.1<=16)/\x.1≠x.2.2.1/\0<=x.2.1/\x.2.1<65536))/\0<=x.2.2.2.2.1/\x.2.2.2.2.1<=1000):n5 (gs.set i x):=λy a=>by
 rcases List.mem_or_eq_of_mem_set a with a|rfl
 ·exact h y a
 ·exact b
theorem OE:((zG:GT)=zG\/((1<=zG.1/\zG.1<=16)/\(1<=zG.2.2.1/\zG.2.2.1<=16)/\zG.1≠zG.2.2.1/\0<=zG.2.1/\zG.2.1<65536))/\0<=zG.2.2.2.2.1/\zG.2.2.2.2.1<=1000:=⟨.inl rfl,by decide,by decide⟩
theorem n5.rev {gs:List GT} (h:n5 gs) (i o:Int):n5 (lh gs i o):=by
 unfold lh;split
 ·exact h.set _ OE
 ·exact h
theorem n5.at {gs:List GT} (h:n5 gs) {i:Int} {k:Nat} (a:lV gs i=some k):((1<=(gs.getD k zG).1/\(gs.getD k zG).1<=16)/\(1<=(gs.getD k zG).2.2.1/\(gs.getD k zG).2.2.1<=16)/\(gs.getD k zG).1≠(gs.getD k zG).2.2.1/\0<=(gs.getD k zG).2.1/\(gs.getD k zG).2.1<65536)/\0<=(gs.getD k zG).2.2.2.2.1/\(gs.getD k zG).2.2.2.2.1<=1000:=by
 obtain⟨_, _, _,b,c⟩:=ly a;obtain⟨h1,d⟩:=h _ (FU b);exact⟨h1.resolve_left c,d⟩
theorem n5.take {gs:List GT} (h:n5 gs) (i g:Int) (b:Bool):n5 (dW gs i g b):=by
 unfold dW;split
 ·rename_i a;unfold gU at a;cases c:lV gs i with
  |none=>rw[c] at a;cases a
  |some k=>
   rw[c] at a;dsimp only at a;obtain⟨h1,e⟩:=h.at c;obtain⟨_, _,d, _⟩:=ly c;subst d;split at a
   ·cases a
   ·split at a
    ·cases a
    ·rename_i f;refine h.set _ ⟨.inr h1,?_,?_⟩
     ·show 0<=(gs.getD i.toNat zG).2.2.2.2.1+1;omega
     ·show(gs.getD i.toNat zG).2.2.2.2.1+1<=1000;omega
 ·exact h
theorem n5.back {gs:List GT} (h:n5 gs) (i g:Int):n5 (eA gs i g):=by
 unfold eA;split
 ·rename_i a;unfold mr at a;cases b:lV gs i with
  |none=>rw[b] at a;cases a
  |some k=>
   rw[b] at a;dsimp only at a;obtain⟨h1,d⟩:=h.at b;obtain⟨_, _,c, _⟩:=ly b;subst c;split at a
   ·cases a
   ·split at a
    ·cases a
    ·rename_i e;refine h.set _ ⟨.inr h1,?_,?_⟩
     ·show 0<=(gs.getD i.toNat zG).2.2.2.2.1+ -1;omega
     ·show(gs.getD i.toNat zG).2.2.2.2.1+ -1<=1000;omega
 ·exact h
theorem n5.off {gs:List GT} (h:n5 gs) (o q t:Int) (b:Bool):n5 (jN gs o q t b):=by
 unfold jN;split
 ·rename_i a;unfold lj at a;split at a
  ·cases a
  ·rename_i hc;have hc:gG o=true/\gG t=true/\o≠t/\0<=q/\q<65536:=by
    simp only[Dr,FP,beq_iff_eq,decide_eq_true_eq,not_or] at hc;obtain⟨⟨⟨⟨h1,c⟩,d⟩,f⟩,g⟩:=hc;exact⟨by simpa using h1,by simpa using c,d,by omega,by omega⟩
   have a1:=Pc.1 hc.1;have e:=Pc.1 hc.2.1;exact h.set _ ⟨.inr ⟨a1,e,hc.2.2⟩,Int.le_refl 0,(by decide:(0:Int)<=1000)⟩
 ·exact h
theorem n5.drop {gs:List GT} (h:n5 gs) (g:Int):n5 (cM gs g):=λy a=>by
 unfold cM at a;obtain⟨x,b,rfl⟩:=DH.1 a;split
 ·exact OE
 ·exact h x b
theorem n5.new (n:Nat):n5 (BJ n zG):=λy a=>by
 rw[List.eq_of_mem_replicate a];exact OE
theorem n5.use {gs:List GT} (h:n5 gs): ∀x∈gs,0<=x.2.2.2.2.1/\x.2.2.2.2.1<=1000:=λx a=>(h x a).2
noncomputable def H0:dD AC:={C3 with vr:=false,quiet:=[119,120]}
theorem Li (w:A2) (u:Option Nat->A2->Prop):(aJ H0 (λ_=>[]) 163 [] w u)=(
 ∀w1,Ext w w1-> ∀c,Ext (w1.alloc (Obj.map ⟨[]⟩ 0)) c-> ∃(r:Nat), ∃(es:Array B1), ∃(a:Nat),some w1.heap.size=some r/\bD c r es a/\gS c r .i64 1 (.agg {toList:=[.string {data:=⟨[99,114,101,97,116,101]⟩},aa 0]}) es a λb=> ∀d,Ext b d-> ∃(r:Nat), ∃(es:Array B1), ∃(a:Nat),some w1.heap.size=some r/\bD d r es a/\gS d r .i64 2 (.agg {toList:=[.string {data:=⟨[100,101,115,116,114,111,121]⟩},aa 1]}) es a λb=> ∀e,Ext b e-> ∃(r:Nat), ∃(es:
 Array B1), ∃(a:Nat),some w1.heap.size=some r/\bD e r es a/\gS e r .i64 3 (.agg {toList:=[.string {data:=⟨[100,111,110,97,116,101]⟩},aa 2]}) es a λb=> ∀f,Ext b f-> ∃(r:Nat), ∃(es:Array B1), ∃(a:Nat),some w1.heap.size=some r/\bD f r es a/\gS f r .i64 4 (.agg {toList:=[.string {data:=⟨[114,101,99,108,97,105,109]⟩},aa 1]}) es a λb=> ∀g,Ext b g-> ∃(r:Nat), ∃(es:Array B1), ∃(a:Nat),some w1.heap.size=some r/\bD g r es a/\
 gS g r .i64 5 (.agg {toList:=[.string {data:=⟨[112,114,111,116,101,99,116]⟩},aa 2]}) es a λb=> ∀h,Ext b h-> ∃(r:Nat), ∃(es:Array B1), ∃(a:Nat),some w1.heap.size=some r/\bD h r es a/\gS h r .i64 6 (.agg {toList:=[.string {data:=⟨[108,111,97,100]⟩},aa 1]}) es a λb=> ∀i,Ext b i-> ∃(r:Nat), ∃(es:Array B1), ∃(a:Nat),some w1.heap.size=some r/\bD i r es a/\gS i r .i64 7 (.agg {toList:=[.string {data:=⟨[115,116,111,114,101]⟩},.int .i64
 2]}) es a λb=> ∀j,Ext b j-> ∃(r:Nat), ∃(es:Array B1), ∃(a:Nat),some w1.heap.size=some r/\bD j r es a/\gS j r .i64 8 (.agg {toList:=[.string {data:=⟨[111,102,102,101,114]⟩},aa 3]}) es a λb=> ∀k,Ext b k-> ∃(r:Nat), ∃(es:Array B1), ∃(a:Nat),some w1.heap.size=some r/\bD k r es a/\gS k r .i64 9 (.agg {toList:=[.string {data:=⟨[116,97,107,101]⟩},aa 3]}) es a λb=> ∀l,Ext b l-> ∃(r:Nat), ∃(es:Array B1), ∃(a:Nat),
 some w1.heap.size=some r/\bD l r es a/\gS l r .i64 10 (.agg {toList:=[.string {data:=⟨[98,97,99,107]⟩},aa 1]}) es a λb=> ∀m,Ext b m-> ∃(r:Nat), ∃(es:Array B1), ∃(a:Nat),some w1.heap.size=some r/\bD m r es a/\gS m r .i64 11 (.agg {toList:=[.string {data:=⟨[114,101,118,111,107,101]⟩},aa 1]}) es a λb=> ∀n,Ext b n-> ∃(r:Nat), ∃(es:Array B1), ∃(a:Nat),some w1.heap.size=some r/\bD n r es a/\gS n r .i64 12 (.agg {toList:=[.string
 {data:=⟨[111,112,101,110]⟩},aa 1]}) es a λb=> ∀o,Ext b o-> ∃(r:Nat), ∃(es:Array B1), ∃(a:Nat),some w1.heap.size=some r/\bD o r es a/\gS o r .i64 13 (.agg {toList:=[.string {data:=⟨[98,105,110,100]⟩},aa 2]}) es a λb=> ∀p,Ext b p-> ∃(r:Nat), ∃(es:Array B1), ∃(a:Nat),some w1.heap.size=some r/\bD p r es a/\gS p r .i64 14 (.agg {toList:=[.string {data:=⟨[115,101,110,100]⟩},aa 1]}) es a λb=> ∀q,Ext b q-> ∃(r
 :Nat), ∃(es:Array B1), ∃(a:Nat),some w1.heap.size=some r/\bD q r es a/\gS q r .i64 15 (.agg {toList:=[.string {data:=⟨[112,111,108,108]⟩},aa 0]}) es a λb=> ∀s,Ext b s-> ∃(r:Nat), ∃(es:Array B1), ∃(a:Nat),some w1.heap.size=some r/\bD s r es a/\gS s r .i64 16 (.agg {toList:=[.string {data:=⟨[99,108,111,115,101]⟩},aa 1]}) es a λb=> ∀t,Ext b t-> ∃(r:Nat), ∃(es:Array B1), ∃(a:Nat),some w1.heap.size=some r/\bD t r es
 a/\gS t r .i64 17 (.agg {toList:=[.string {data:=⟨[115,119,101,101,112]⟩},aa 0]}) es a λb=>ao b (u (some w1.heap.size))):=by kernel_rfl
theorem Rj (k:Int) (w:A2) (d:Int->A2->Prop):(aJ H0 (λ_=>[]) 119 [aa k] w d)=(
 az AC 163 (.el N9) [] w λx a=> ∃(c:ByteArray×Int×Unit), ∃(b:Bool),mm a x .i64 k (.agg {toList:=[.string {data:=⟨[]⟩},aa 0]}) (.agg ⟨[.string c.1,aa c.2.1]⟩) b/\aM a {toList:=[.string {data:=⟨[]⟩},aa 0]} 242 λe a=>aA a (ae e) [.string c.1,aa c.2.1] λa=>aH (!b) (ao a (d (-1))) (true=true/\aR a (ad (ae e) 1) λx=>ao a (d x))):=by kernel_rfl
theorem E7 (k:Int) (w:A2) (a:Bool->A2->Prop):(aJ H0 (λ_=>[]) 77 [aa k] w a)=(
 ao w (a (k==1||k==2||k==17))):=by kernel_rfl
theorem Lj (k a b c:Int) (w:A2) (e:Int×Int×Int×Unit->A2->Prop):(bQ H0 (λ_=>[]) 120 [.agg ⟨[aa k,ax a,ax b,ax c]⟩] w e)=(
 aM w ⟨[aa k,ax a,ax b,ax c]⟩ 31 λb d=>aM d ⟨[ax 0,ax 0,ax 0]⟩ 222 λf d=>true=true/\cH d (ad (ae b) 1) λx=>true=true/\cH d (ad (ae b) 2) λg=>true=true/\cH d (ad (ae b) 3) λh=>aA d (ae f) [ax x,ax g,ax h] λd=>ao d λw1=>aj w1 none (ae f) (.agg [.int .u64,.int .u64,.int .u64]) λ(x:Int×Int×Int×Unit)=>e (x.1,x.2.1,x.2.2.1,()) w1):=by kernel_rfl
def qP:Nat->aY:=(λ|5=>[(13,Go.RX.El.one (Go.RX.Sc.int B7))]| _=>[])
theorem Ll (k a b c:Int) (w:A2) (f:Bool->A2->Prop):(aJ H0 qP 76 [.agg ⟨[aa k,ax a,ax b,ax c]⟩] w f)=(
 aM w ⟨[aa k,ax a,ax b,ax c]⟩ 31 λb d=>true=true/\aR d (ad (ae b) 0) λx=> ∃(g:Int),af AC 119 [aa x] d (aa g)/\aH (g== -1) (ao d (f false)) (aj d none (ae b) sW λ(x:Int×Int×Int×Int×Unit)=> ∃(e:Int×Int×Int×Unit),af AC 120 [.agg ⟨[aa x.1,ax x.2.1,ax x.2.2.1,ax x.2.2.2.1]⟩] d (.agg ⟨[ax e.1,ax e.2.1,ax e.2.2.1]⟩)/\ ∃(I:Nat->Int×Unit->A2->Prop),(∃n, ∀w1,Ext d w1->I n (0,()) w1)/\
 ∀(n:Nat) (s:Int×Unit) (w1:A2),I n s w1->aH (decide (s.1<3)) ((0<=s.1/\s.1<(↑3:Int))/\aH (decide (s.1>=g)&&J_ [e.1,e.2.1,e.2.2.1] s.1 != 0) (ao w1 (f false)) (∀h,Ext w1 h-> ∃(i:Nat),i<n/\I i (aI .i64 s.1 1,()) h)) (ao w1 (f true)))):=by kernel_rfl
theorem gy {D G:List Nat} {w0 w:A2} {L:List (Nat×List Ag)} {M:List (Nat×Obj)} {r:Nat} {l:List B1} {c:Nat} (H:cv D G w0 w L ((r,.map ⟨l⟩ c)::M)) {n:Int} {val:Ag} {K:A2->Prop} (g:Dj (.int .i64) (aa n) l 0=some none)
 (k: ∀a,cv D G w0 a L ((r,.map ⟨l++[{key:=aa n,val,born:=c}]⟩ (c+1))::M)->K a):
 ∀w1,Ext w w1-> ∃r' b d,some r=some r'/\bD w1 r' b d/\gS w1 r' .i64 n val b d K:=λw1 h=>by
 have f:=H.ext h;refine⟨r,⟨l⟩,c,rfl,f.get (i:=0) rfl,?_⟩;unfold gS;rw[g];have e:Array.push _ _=⟨l++[{key:=aa n,val,born:=c}]⟩:=List.push_toArray _ _;rw[e];exact k _ (f.put (i:=0) rfl trivial)
theorem _root_.Go.RX.cv.Xj {D G:List Nat} {w0 w:A2} {L:List (Nat×List Ag)} {M:List (Nat×Obj)} {r:Nat} {l l':List B1} {c:Nat} (H:cv D G w0 w L ((r,.map ⟨l⟩ c)::M)) (e:l=l'):cv D G w0 w L ((r,.map ⟨l'⟩ c)::M):=by
 grind
def gz (k:Int) (s:ByteArray) (n:Int) (b:Nat):B1:={key:=aa k,val:= .agg ⟨[.string s,aa n]⟩,born:=b}
def eH:Array B1:=⟨[gz 1 ⟨⟨[99,114,101,97,116,101]⟩⟩ 0 0,gz 2 ⟨⟨[100,101,115,116,114,111,121]⟩⟩ 1 1,gz 3 ⟨⟨[100,111,110,97,116,101]⟩⟩ 2 2,gz 4 ⟨⟨[114,101,99,108,97,105,109]⟩⟩ 1 3,gz 5 ⟨⟨[112,114,111,116,101,99,116]⟩⟩ 2 4,gz 6 ⟨⟨[108,111,97,100]⟩⟩ 1 5,gz 7 ⟨⟨[115,116,111,114,101]⟩⟩ 2 6,gz 8 ⟨⟨[111,102,102,101,114]⟩⟩ 3 7,gz 9 ⟨⟨[116,97,107,101]⟩⟩ 3 8,gz 10 ⟨⟨[98,97,99,107]⟩⟩ 1 9,gz 11 ⟨⟨[114,101,118,111,107,101]⟩⟩ 1 10,gz 12 ⟨⟨[111,112,101,110]⟩⟩ 1 11,gz 13 ⟨⟨[98,105,110,100]⟩⟩ 2 12,gz 14 ⟨⟨[115,101,110,100]⟩⟩ 1 13,gz 15 ⟨⟨[112,111,108,108]⟩⟩ 0 14,gz 16 ⟨⟨[99,108,111,115,101]⟩⟩ 1 15,gz 17 ⟨⟨[115,119,101,101,112]⟩⟩ 0 16]⟩
def jO (k:Int):Int:=if 1<=k/\k<=17 then([0,1,2,1,2,1,2,3,3,1,1,1,2,1,0,1,0]:List Int).getD (k - 1).toNat 0 else -1
def iy (k a b c:Int):Bool:=decide (jO k>=0)&&((decide (jO k>0)||a==0)&&((decide (jO k>1)||b==0)&&(decide (jO k>2)||c==0)))
def uN (k:Int):Bool:=k==1||k==2||k==17
section
variable {D G:List Nat} {w0 w:A2} {L:List (Nat×List Ag)} {M:List (Nat×Obj)}
theorem Ln (H:cv D G w0 w L M) {K:Option Nat->A2->Prop} (k: ∀r a,cv D G w0 a L ((r,.map eH 17)::M)->K (some r) a):az AC 163 (.el (.one .map)) [] w K:=by
 refine λw1 h1=>ai (C:=H0) (aQ:=λ_=>[]) (Aq (Li w1 K) ?_);have H:=H.ext h1;intro b c;have H:=(H.ext c).alloc (o:= .map #[] 0) trivial;refine gy H (by kernel_rfl) λf H=>?_;refine gy H (by kernel_rfl) λg H=>?_;refine gy H (by kernel_rfl) λh H=>?_;refine gy H (by kernel_rfl) λi H=>?_;refine gy H (by kernel_rfl) λj H=>?_;refine gy H (by kernel_rfl) λl H=>?_;refine gy H (by kernel_rfl) λm H=>?_;refine gy H (by kernel_rfl) λn H=>?_;refine gy H (by kernel_rfl) λp H=>?_;refine gy H (by kernel_rfl) λq H=>?_;refine gy H (by kernel_rfl) λs H=>?_;refine gy H (by kernel_rfl) λt H=>?_;refine gy H (by kernel_rfl) λu H=>?_;refine gy H (by kernel_rfl) λv H=>?_;refine gy H (by kernel_rfl) λx H=>?_;refine gy H (by kernel_rfl) λy H=>?_;refine gy H (by kernel_rfl) λz H=>?_;exact λd e=>k b.heap.size d ((H.ext e).Xj (by kernel_rfl))
theorem Hf {r:Nat} (h:bD w r eH 17) (k:Int): ∃(x:ByteArray×Int×Unit) (b:Bool),mm w (some r) .i64 k (.agg ⟨[.string ⟨⟨[]⟩⟩,aa 0]⟩) (.agg ⟨[.string x.1,aa x.2.1]⟩) b/\(b=false->jO k= -1)/\(b=true->x.2.1=jO k):=by
 by_cases c:1<=k/\k<=17
 ·have:k=1\/k=2\/k=3\/k=4\/k=5\/k=6\/k=7\/k=8\/k=9\/k=10\/k=11\/k=12\/k=13\/k=14\/k=15\/k=16\/k=17:=by omega
  rcases this with rfl|rfl|rfl|rfl|rfl|rfl|rfl|rfl|rfl|rfl|rfl|rfl|rfl|rfl|rfl|rfl|rfl
  ·exact⟨(⟨⟨[99,114,101,97,116,101]⟩⟩,0,()),true,⟨r,eH,17,rfl,h,rfl,rfl⟩,λh=>(by cases h),λ_=>rfl⟩
  ·exact⟨(⟨⟨[100,101,115,116,114,111,121]⟩⟩,1,()),true,⟨r,eH,17,rfl,h,rfl,rfl⟩,λh=>(by cases h),λ_=>rfl⟩
  ·exact⟨(⟨⟨[100,111,110,97,116,101]⟩⟩,2,()),true,⟨r,eH,17,rfl,h,rfl,rfl⟩,λh=>(by cases h),λ_=>rfl⟩
  ·exact⟨(⟨⟨[114,101,99,108,97,105,109]⟩⟩,1,()),true,⟨r,eH,17,rfl,h,rfl,rfl⟩,λh=>(by cases h),λ_=>rfl⟩
  ·exact⟨(⟨⟨[112,114,111,116,101,99,116]⟩⟩,2,()),true,⟨r,eH,17,rfl,h,rfl,rfl⟩,λh=>(by cases h),λ_=>rfl⟩
  ·exact⟨(⟨⟨[108,111,97,100]⟩⟩,1,()),true,⟨r,eH,17,rfl,h,rfl,rfl⟩,λh=>(by cases h),λ_=>rfl⟩
  ·exact⟨(⟨⟨[115,116,111,114,101]⟩⟩,2,()),true,⟨r,eH,17,rfl,h,rfl,rfl⟩,λh=>(by cases h),λ_=>rfl⟩
  ·exact⟨(⟨⟨[111,102,102,101,114]⟩⟩,3,()),true,⟨r,eH,17,rfl,h,rfl,rfl⟩,λh=>(by cases h),λ_=>rfl⟩
  ·exact⟨(⟨⟨[116,97,107,101]⟩⟩,3,()),true,⟨r,eH,17,rfl,h,rfl,rfl⟩,λh=>(by cases h),λ_=>rfl⟩
  ·exact⟨(⟨⟨[98,97,99,107]⟩⟩,1,()),true,⟨r,eH,17,rfl,h,rfl,rfl⟩,λh=>(by cases h),λ_=>rfl⟩
  ·exact⟨(⟨⟨[114,101,118,111,107,101]⟩⟩,1,()),true,⟨r,eH,17,rfl,h,rfl,rfl⟩,λh=>(by cases h),λ_=>rfl⟩
  ·exact⟨(⟨⟨[111,112,101,110]⟩⟩,1,()),true,⟨r,eH,17,rfl,h,rfl,rfl⟩,λh=>(by cases h),λ_=>rfl⟩
  ·exact⟨(⟨⟨[98,105,110,100]⟩⟩,2,()),true,⟨r,eH,17,rfl,h,rfl,rfl⟩,λh=>(by cases h),λ_=>rfl⟩
  ·exact⟨(⟨⟨[115,101,110,100]⟩⟩,1,()),true,⟨r,eH,17,rfl,h,rfl,rfl⟩,λh=>(by cases h),λ_=>rfl⟩
  ·exact⟨(⟨⟨[112,111,108,108]⟩⟩,0,()),true,⟨r,eH,17,rfl,h,rfl,rfl⟩,λh=>(by cases h),λ_=>rfl⟩
  ·exact⟨(⟨⟨[99,108,111,115,101]⟩⟩,1,()),true,⟨r,eH,17,rfl,h,rfl,rfl⟩,λh=>(by cases h),λ_=>rfl⟩
  ·exact⟨(⟨⟨[115,119,101,101,112]⟩⟩,0,()),true,⟨r,eH,17,rfl,h,rfl,rfl⟩,λh=>(by cases h),λ_=>rfl⟩
 ·have d: ∀(l:List B1) (i:Nat),(∀e∈l, ∃j:Int,e.key=aa j/\j≠k)->Dj (.int .i64) (aa k) l i=some none:=by
   intro l
   induction l with
   |nil=>intro i _;rfl
   |cons e l g=>
    intro i a;obtain⟨j,h1,m⟩:=a e Dc;unfold Dj;rw[h1];have:JS (.int .i64) (aa k) (aa j)=some false:=by
     show(if B7=B7 then some (k==j) else none)=some false
     grind
    grind
  have f:Dj (.int .i64) (aa k) eH.toList 0=some none:=d _ 0 λe a=>by
   have a:e∈[gz 1 ⟨⟨[99,114,101,97,116,101]⟩⟩ 0 0,gz 2 ⟨⟨[100,101,115,116,114,111,121]⟩⟩ 1 1,gz 3 ⟨⟨[100,111,110,97,116,101]⟩⟩ 2 2,gz 4 ⟨⟨[114,101,99,108,97,105,109]⟩⟩ 1 3,gz 5 ⟨⟨[112,114,111,116,101,99,116]⟩⟩ 2 4,gz 6 ⟨⟨[108,111,97,100]⟩⟩ 1 5,gz 7 ⟨⟨[115,116,111,114,101]⟩⟩ 2 6,gz 8 ⟨⟨[111,102,102,101,114]⟩⟩ 3 7,gz 9 ⟨⟨[116,97,107,101]⟩⟩ 3 8,gz 10 ⟨⟨[98,97,99,107]⟩⟩ 1 9,gz 11 ⟨⟨[114,101,118,111,107,101]⟩⟩ 1 10,gz 12 ⟨⟨[111,112,101,110]⟩⟩ 1 11,gz 13 ⟨⟨[98,105,110,100]⟩⟩ 2 12,gz 14 ⟨⟨[115,101,110,100]⟩⟩ 1 13,gz 15 ⟨⟨[112,111,108,108]⟩⟩ 0 14,gz 16 ⟨⟨[99,108,111,115,101]⟩⟩ 1 15,gz 17 ⟨⟨[115,119,101,101,112]⟩⟩ 0 16]:=a;simp only[FS,List.not_mem_nil,or_false] at a;rcases a with rfl|rfl|rfl|rfl|rfl|rfl|rfl|rfl|rfl|rfl|rfl|rfl|rfl|rfl|rfl|rfl|rfl
   all_goals exact⟨_,rfl,by omega⟩
  refine⟨(⟨⟨[]⟩⟩,0,()),false,⟨r,eH,17,rfl,h,?_⟩,λ_=>au c,λh=>by cases h⟩;rw[f];exact⟨rfl,rfl⟩
theorem Rk (k:Int) (w:A2):aD AC 119 (.el (.one (.int .i64))) [aa k] w (λx w'=>x=jO k/\Ext w w'):=by
 refine ai (C:=H0) (aQ:=λ_=>[]) (Aq (Rj k w _) ?_);refine Ln (cv.start [] w) λr d H=>?_;obtain⟨x,b,a,h0,h1⟩:=Hf (H.get (i:=0) rfl) k;have H:=H.base;refine⟨x,b,a,aM.go H λe f H=>aA.all 0 H rfl rfl rfl λg H=>?_⟩;cases b with
 |false=>exact aB rfl (ao.go H λc H=>⟨(h0 rfl).symm,H.all⟩)
 |true=>exact an rfl ⟨rfl,aj.cq 0 H rfl rfl (ao.go H λc H=>⟨h1 rfl,H.all⟩)⟩
theorem U' (k:Int):af AC 119 [aa k] w (aa (jO k)):=af.of λw' _=>Rk k w'
theorem Rl (k a b c:Int):af AC 120 [.agg ⟨[aa k,ax a,ax b,ax c]⟩] w (Sh.gR (.el (.agg [.int .u64,.int .u64,.int .u64])) (a,b,c,())):=by
 refine af.of λw' _=>aP (C:=H0) (aQ:=λ_=>[]) (Aq (Lj k a b c w' _) ?_);have H:=At.start [] w';refine aM.go H λd e H=>aM.go H λf g H=>⟨rfl,aj.cq 1 H rfl rfl ⟨rfl,aj.cq 1 H rfl rfl ⟨rfl,aj.cq 1 H rfl rfl (aA.all 0 H rfl rfl rfl λh H=>ao.go H λi H=>aj.at 0 H rfl (rfl) ⟨rfl,H.all⟩)⟩⟩⟩
theorem Lu (k a b c:Int) (w:A2):aD AC 76 (.el (.one .bool)) [.agg ⟨[aa k,ax a,ax b,ax c]⟩] w (λx w'=>x=iy k a b c/\Ext w w'):=by
 refine ai (C:=H0) (aQ:=qP) (Aq (Ll k a b c w _) ?_);have H:=At.start [] w;have y:jO k= -1\/0<=jO k:=by
  unfold jO;split
  ·rename_i h;right;have:k=1\/k=2\/k=3\/k=4\/k=5\/k=6\/k=7\/k=8\/k=9\/k=10\/k=11\/k=12\/k=13\/k=14\/k=15\/k=16\/k=17:=by omega
   rcases this with rfl|rfl|rfl|rfl|rfl|rfl|rfl|rfl|rfl|rfl|rfl|rfl|rfl|rfl|rfl|rfl|rfl<;>decide
  ·exact .inl rfl
 refine aM.go H λD E H=>⟨rfl,aj.cq 0 H rfl rfl ⟨_,U' k,ab (λd=>ao.go H λl H=>⟨?_,H.all⟩) (λd=>aj.at 0 H rfl (show _=some (k,a,b,c,()) from rfl) ⟨(a,b,c,()),Rl k a b c,?_⟩)⟩⟩
 ·have d:jO k= -1:=by simpa using d
  unfold iy;rw[d];rfl
 have d: ¬ jO k= -1:=by simpa using d
 unfold iy;obtain⟨n,z⟩: ∃n,n=jO k:=⟨_,rfl⟩;rw[<-z] at d y ⊢;refine⟨λq v w'=> ∃i:Nat,v.1=(i:Int)/\q+i=3/\(0<i-> ¬ (n<=0/\a≠0))/\(1<i-> ¬ (n<=1/\b≠0))/\(2<i-> ¬ (n<=2/\c≠0))/\Ext w w',⟨3,λl r=>⟨0,rfl,rfl,λh=>by omega,λh=>by omega,λh=>by omega,(H.ext r).all⟩⟩,?_⟩;rintro q ⟨v,u⟩ l ⟨i,e,F,h1,A,r,m⟩;dsimp only at e ⊢;subst e;refine ab (λo=>⟨⟨by omega,by simpa using o⟩,?_⟩) (λo=>λf g=>⟨?_,m.trans g⟩)
 ·have hi:i<3:=by
   have:(i:Int)<3:=by simpa using o
   omega
  have B:(¬ (n<=(i:Int)/\J_ [a,b,c] (i:Int)≠0))-> ∀f,Ext l f-> ∃s,s<q/\ ∃j:Nat,aI .i64 (i:Int) 1=(j:Int)/\s+j=3/\(0<j-> ¬ (n<=0/\a≠0))/\(1<j-> ¬ (n<=1/\b≠0))/\(2<j-> ¬ (n<=2/\c≠0))/\Ext w f:=λp f g=>by
   refine⟨q - 1,by omega,i+1,by rw[aw (by omega) (by omega)];omega,by omega,?_,?_,?_,m.trans g⟩
   ·intro _;by_cases e:i=0
    ·subst e;exact p
    ·exact h1 (by omega)
   ·intro _;by_cases e:i=1
    ·subst e;exact p
    ·exact A (by omega)
   ·intro _;have e:i=2:=by omega
    subst e;exact p
  refine ab (λd1=>λf g=>⟨?_,m.trans g⟩) (λd1=>B ?_)
  ·have d1:n<=(i:Int)/\J_ [a,b,c] (i:Int)≠0:=by
    simpa using d1
   have:i=0\/i=1\/i=2:=by omega
   symm;rw[Bool.eq_false_iff];intro t;simp only[Dx,Dr,decide_eq_true_eq,beq_iff_eq] at t;obtain⟨_,G,I,J⟩:=t;rcases this with rfl|rfl|rfl
   ·have d2:n<=0/\a≠0:=d1;omega
   ·have d2:n<=1/\b≠0:=d1;omega
   ·have d2:n<=2/\c≠0:=d1;omega
  grind
 grind
theorem Eh (k a b c:Int):af AC 76 [.agg ⟨[aa k,ax a,ax b,ax c]⟩] w (.bool (iy k a b c)):=af.of λw' _=>Lu k a b c w'
theorem E8 (k:Int) (w:A2):aD AC 77 (.el (.one .bool)) [aa k] w (λx w'=>x=uN k/\Ext w w'):=
 ai (Aq (E7 k w _) λw1 h1=>⟨rfl,h1⟩)
theorem Hg (k:Int):af AC 77 [aa k] w (.bool (uN k)):=af.of λw' _=>E8 k w'
end
end Go.Proofs.YtlcenllcmeebhaaGreat
namespace Go.RX
set_option maxRecDepth 100000
open Go.ChangeShapes Go.WideShapes Go.RowKit
variable {H:Type} {enc:BY×Ag->H} {P:Program} {w:A2} {base:Nat} {spare:Nat->Bool} {held:Bool}
def yA (P:Program) (g:BY->Option (List Sc)):Nat->List Field->Option (List Sc)
 | _,[]=>some []
 |off,f::r=>match g f.type with
  |some a=>if f.offset=off/\P.cellsOf f.type=a.length then match yA P g (off+a.length) r with
    |some b=>some (a++b)
    |none=>none
   else none
  |none=>none
def rL (P:Program):Nat->BY->Option (List Sc)
 |0, _=>none
 |d+1,t=>match P.underlying t with
  |some (.int k)=>some [.int k]
  |some .bool=>some [.bool]
  |some (.struct fs)=>match yA P (rL P d) 0 fs.toList with
   |some a=>if P.cellsOf t=a.length then some a else none
   |none=>none
  |some (.array n e)=>match rL P d e with
   |some a=>if P.cellsOf e=a.length/\P.cellsOf t=n*a.length then some (BJ n a).flatten else none
   |none=>none
  | _=>none
def ab8:(s:Sc)->s.T->Prop
 | .int k,x=>(Lit.int k x).wf=true
 | _, _=>True
def kl:(l:List Sc)->jg l->Prop
 |[], _=>True
 |s::r,x=>ab8 s x.1/\kl r x.2
theorem rZ: ∀(a b:List Sc) (x:jg a) (y:jg b),kl a x->kl b y-> ∃z:jg (a++b),a_ (a++b) z=a_ a x++a_ b y/\kl (a++b) z
 |[],b, _,y, _,c=>⟨y,rfl,c⟩
 |s::r,b,x,y,d,c=>by
  obtain⟨z,h1,e⟩:=rZ r b x.2 y d.2 c;exact⟨(x.1,z),by simp only[J6,a_,h1],d.1,e⟩
theorem I7 {g:BY->Option (List Sc)} {m:Nat} (e: ∀t ss cs y,g t=some ss->DataW.trod enc P w base spare held m t cs=some y-> ∃x:jg ss,cs=a_ ss x/\kl ss x)
 {cs:List Ag} {fs:Array Field} {xs:List (DataW H×List MemPlace)} (j:xs.length=fs.size)
 (k: ∀(i:Nat) (f:Field),fs[i]? =some f->DataW.trod enc P w base spare held m f.type ((cs.drop f.offset).take (P.cellsOf f.type))=xs[i]?):
 ∀(l:List Field) (i off:Nat) (ss:List Sc),fs.toList.drop i=l->yA P g off l=some ss->cs.length=off+ss.length-> ∃x:jg ss,cs.drop off=a_ ss x/\kl ss x
 |[],i,off,ss, _,h,d=>by
  simp only[yA,Option.some.injEq] at h;subst h;refine⟨(),?_,trivial⟩;rw[Gi (by simp at d;omega)];rfl
 |f::r,i,off,ss,c,h,d=>by
  simp only[yA] at h;split at h
  ·rename_i a o;split at h
   ·rename_i hc;split at h
    ·rename_i b hb;cases h;have hi:i<fs.toList.length:=by
      apply Nat.lt_of_not_le;intro p;rw[Gi p] at c;cases c
     have q:fs[i]? =some f:=by
      have:=congrArg (·[0]?) c;simp only[List.getElem?_drop,H7,List.getElem?_cons_zero] at this;simpa using this
     have n:=k i f q;have s: ∃y,xs[i]? =some y:=⟨_,B3 (by rw[j];simpa using hi)⟩;obtain⟨y,v⟩:=s;rw[v,hc.1,hc.2] at n;obtain⟨x,A,B⟩:=e _ _ _ _ o n;have C:fs.toList.drop (i+1)=r:=by
      have:=congrArg (List.drop 1) c;simpa[Gj] using this
     obtain⟨z,D,E⟩:=I7 e j k r (i+1) (off+a.length) b C hb (by rw[d];simp;omega);obtain⟨u,F,G⟩:=rZ a b x z B E;refine⟨u,?_,G⟩;rw[F, <-A, <-D, <-Gj];exact(Fx _ _).symm
    ·cases h
   ·cases h
  ·cases h
theorem A5 {a:List Sc} {cs:List Ag}: ∀(n off:Nat),(∀i,i<n-> ∃x:jg a,(cs.drop (off+i*a.length)).take a.length=a_ a x/\kl a x)->cs.length=off+n*a.length->
 ∃x:jg (BJ n a).flatten,cs.drop off=a_ _ x/\kl _ x
 |0,off, _,b=>by
  refine⟨(),?_,trivial⟩;rw[Gi (by omega)];rfl
 |n+1,off,h,b=>by
  obtain⟨x,c,d⟩:=h 0 (by omega);obtain⟨z,e,f⟩:=A5 (a:=a) (cs:=cs) n (off+a.length) (λi hi=>by
   have:=h (i+1) (by omega);rw[show off+(i+1)*a.length=off+a.length+i*a.length by rw[Fo];omega] at this;exact this) (by rw[b,Fo];omega)
  obtain⟨u,g,j⟩:=rZ a (BJ n a).flatten x z d f;refine⟨u,?_,j⟩;show _=a_ (a++(BJ n a).flatten) u;rw[g, <-c, <-e,H5,H7, <-Gj];exact(Fx _ _).symm
theorem qc: ∀(d m:Nat) (t:BY) (ss:List Sc) (cs:List Ag) (y:DataW H×List MemPlace),rL P d t=some ss->DataW.trod enc P w base spare held m t cs=some y-> ∃x:jg ss,cs=a_ ss x/\kl ss x
 |0, _, _, _, _, _,h, _=>by simp[rL] at h
 |d+1,m,t,ss,cs,y,h,g=>by
  simp only[rL] at h;split at h
  ·rename_i k c;cases h;obtain⟨n,rfl, _,r⟩:=DataW.trod_int c g;exact⟨(n,()),rfl,r,trivial⟩
  ·rename_i c;cases h;obtain⟨b,rfl, _⟩:=DataW.trod_bool c g;exact⟨(b,()),rfl,trivial,trivial⟩
  ·rename_i fs c;split at h
   ·rename_i a j;split at h
    ·rename_i hc;cases h;obtain⟨xs,n, _, _,l,p,o⟩:=DataW.trod_struct c g;obtain⟨x,h1,f⟩:=I7 (λt ss cs y h1 f=>qc d n t ss cs y h1 f) p o fs.toList 0 0 _ rfl j (by rw[l,hc];omega);exact⟨x,by simpa using h1,f⟩
    ·cases h
   ·cases h
  ·rename_i n e c;split at h
   ·rename_i a j;split at h
    ·rename_i hc;cases h;obtain⟨xs,k, _, _,l,p,o⟩:=DataW.trod_array c g;obtain⟨x,h1,f⟩:=A5 (a:=a) (cs:=cs) n 0 (λi hi=>by
      have q:=o i hi;have s:xs[i]? =some xs[i]:=B3 (by omega);rw[s,hc.1] at q;rw[BP];exact qc d k e a _ _ j q) (by rw[l,hc.2];omega)
     exact⟨x,by simpa using h1,f⟩
    ·cases h
   ·cases h
  ·cases h
theorem Lv {r:Reach} {a:Nat} {t:BY} {v:Ag} {b:DataW H} {ps:List MemPlace} (d:Nat) {ss:List Sc} (c:rL P d t=some ss) (f:(∃n e,P.underlying t=some (.array n e))\/ ∃fs,P.underlying t=some (.struct fs))
 (hv:Value.okWide P w r a t v) (h:DataW.Trod enc P w base spare held t v b ps): ∃x:jg ss,v= .agg ⟨a_ ss x⟩/\kl ss x:=by
 obtain⟨j,g⟩:=h;have hc: ∃cs,v= .agg cs:=by
  unfold Value.okWide at hv;rcases f with ⟨n,e,h⟩|⟨fs,h⟩<;>(rw[h] at hv;obtain⟨cs,e9, _⟩:=hv;exact⟨cs,e9⟩)
 obtain⟨cs,rfl⟩:=hc;obtain⟨x,h1,i⟩:=qc d _ _ _ _ _ c g;refine⟨x,?_,i⟩;have:cs.toList=a_ ss x:=h1;rw[<-this]
theorem xd {t e:BY} {a:Option AI} {n c:Nat} {p:DataW H} {ps:List MemPlace} (d:Nat) {ss:List Sc} (q:P.underlying t=some (.slice e)) (r:rL P d e=some ss) (hc:P.cellsOf e=ss.length)
 (h:DataW.Trod enc P w base spare held t (.slice a n c) p ps): ∃xs:List (jg ss),n=xs.length/\n<=maxLen/\Sl w (.agg ss) a xs/\ ∀x∈xs,kl ss x:=by
 obtain⟨F,s⟩:=h;rcases Deep.open_slice q s with ⟨e9, _⟩|⟨x,len,cap,m,k,D,G,e9, _,I,J,u, _,l⟩
 ·simp[Value.cells] at e9;obtain⟨rfl,rfl,rfl⟩:=e9;exact⟨[],rfl,Fm _,λi x l=>by simp at l,λx l=>by simp at l⟩
 ·simp[Value.cells] at e9;obtain⟨rfl,rfl,rfl⟩:=e9;have K:n<=m:=by rw[u];split<;>omega
  have v: ∀i,i<n-> ∃y:jg ss,(∀j,j<ss.length->w.cell? ((x.add (i*ss.length)).add j)=(a_ ss y)[j]?)/\kl ss y:=by
   intro i hi;obtain⟨L,h1,g⟩:=l i (by omega);obtain⟨y,A,B⟩:=qc d _ _ _ _ _ r g;obtain⟨_,C,oU⟩:=World.cells?_some h1;rw[hc] at h1 C oU;refine⟨y,λj o=>?_,B⟩;rw[<-A];exact oU j o
  have: ∀k,k<=n-> ∃xs:List (jg ss),xs.length=k/\(∀i y,xs[i]? =some y->(∀j,j<ss.length->w.cell? ((x.add (i*ss.length)).add j)=(a_ ss y)[j]?)/\kl ss y):=by
   intro k
   induction k with
   |zero=>intro _;exact⟨[],rfl,λi y b=>by simp at b⟩
   |succ k E=>
    intro M;obtain⟨xs,h1,g⟩:=E (by omega);obtain⟨y,b⟩:=v k (by omega);refine⟨xs++[y],by simp[h1],λi z f=>?_⟩;by_cases hi:i<xs.length
    ·rw[I2 hi] at f;exact g i z f
    ·rw[GS (by omega)] at f;have:i - xs.length=0:=by
      have:=(B5.1 f).1;simp at this;omega
     rw[this] at f;simp at f;subst f;rw[show i=k by omega];exact b
  obtain⟨xs,h1,g⟩:=this n (Dg n);refine⟨xs,h1.symm,by omega,λi y b=>⟨rfl,x.add (i*ss.length),rfl,λj o=>(g i y b).1 j o⟩,λy b=>?_⟩;obtain⟨i,hi⟩:=Fg b;exact(g i y hi).2
end Go.RX
namespace Go.Proofs.YtlcenllcmeebhaaGreat
set_option maxRecDepth 100000
open Go.RX
section
variable {w0 w:A2} {L:List (Nat×List Ag)}
def lO (ws:List Int) (f p t:Int):Nat->Int×Int×FT
 |0=>(f,3,(0,0,0,0,()))
 |k+1=>bF ws p t (lO ws f p t k)
def nb (ws:List Int) (f p t:Int):FT:=if uM f p t then(0,0,0,1,()) else(lO ws f p t 4).2.2
theorem A6 {ws:List Int} {p t:Int} {x:Int×Int×FT} (h:x.2.1= -1):bF ws p t x=x:=ay h
theorem I8 {fr pg wt lv:Int} {fd:FT} {ep:Bool} {er:Int} {el:Bool} {ef:Int} (a:0<=lv/\lv<=3):(tookS fr pg wt lv fd ep er el ef).2.1= -1\/((tookS fr pg wt lv fd ep er el ef).2.1=lv - 1/\0<lv):=by
 unfold tookS;split
 ·exact .inl rfl
 ·split
  ·rename_i h;rw[Dx,decide_eq_true_eq] at h;exact .inr ⟨bC (by omega) (by omega),by omega⟩
  ·split
   ·exact .inl rfl
   ·split<;>exact .inl rfl
theorem Xk (ws:List Int) (f p t:Int): ∀k:Nat,(lO ws f p t k).2.1= -1\/((lO ws f p t k).2.1=3 - (k:Int)/\k<=3)
 |0=> .inr ⟨rfl,by decide⟩
 |k+1=>by
  rcases Xk ws f p t k with h|⟨h,a⟩
  ·left;show(bF ws p t (lO ws f p t k)).2.1= -1;rw[A6 h];exact h
  ·show(bF ws p t (lO ws f p t k)).2.1= -1\/((bF ws p t (lO ws f p t k)).2.1=3 - ((k+1:Nat):Int)/\k+1<=3);generalize lO ws f p t k=x at h;unfold bF;rw[au (by omega)];split
   ·exact .inl rfl
   ·rcases I8 (fr:=x.1) (pg:=p) (wt:=t) (lv:=x.2.1) (fd:=x.2.2) (by omega) with e|⟨e,b⟩
    ·exact .inl (e ..)
    ·exact .inr ⟨by rw[e];omega,by omega⟩
theorem xy {ws:List Int} {f p t:Int} {k:Nat} (h:(lO ws f p t k).2.1= -1): ∀j,lO ws f p t (k+j)=lO ws f p t k
 |0=>rfl
 |j+1=>by
  show bF ws p t (lO ws f p t (k+j))= _;rw[xy h j,A6 h]
end
theorem set_perm {α:Type} (a:α): ∀(L:List α) (j:Nat),j<L.length->(L.set j a).Perm (a::L.eraseIdx j)
 |[], _,h=>by simp at h
 |x::L,0, _=>by simp
 |x::L,j+1,h=>by
  rw[List.set_cons_succ,List.eraseIdx_cons_succ];exact((set_perm a L j (by simpa using h)).cons x).trans (.swap a x _)
theorem Pd {α:Type} {L:List α} {j:Nat} {a:α} (b:L[j]? =some a):L.set j a=L:=by
 apply E5;intro n;by_cases e:j=n
 ·subst e;rw[Dk (B5.1 b).1,b]
 ·rw[E4 e]
theorem ZE {α:Type} {L:List α} {j c:Nat} {a b:α} (d:L[j]? =some a) (hb:L[c]? =some b) (h:j≠c): ∃f,L.Perm (a::b::f)/\ ∀a',(L.set j a').Perm (a'::b::f):=by
 have g:j<L.length:=(B5.1 d).1;have k:b∈L.eraseIdx j:=by
  rw[List.mem_eraseIdx_iff_getElem?];exact⟨c,λe=>h e.symm,hb⟩
 obtain⟨i,hi⟩:=Fg k;have l:i<(L.eraseIdx j).length:=(B5.1 hi).1;have p2:(L.eraseIdx j).Perm (b::(L.eraseIdx j).eraseIdx i):=by
  have:=set_perm b (L.eraseIdx j) i l;rwa[Pd hi] at this
 refine⟨(L.eraseIdx j).eraseIdx i,?_,λa'=>(set_perm a' L j g).trans (p2.cons a')⟩;have:=(set_perm a L j g).trans (p2.cons a);rwa[Pd d] at this
section
variable {w0 w:A2} {L:List (Nat×List Ag)}
end
end Go.Proofs.YtlcenllcmeebhaaGreat
namespace Go.Proofs.YtlcenllcmeebhaaGreat.D
set_option maxRecDepth 100000
open Go.RX
noncomputable def D0:dD AC:={C3 with vr:=true}
theorem Rm (a:Int) (w:A2) (k:Option AI×Nat×Nat->A2->Prop):(aJ D0 (λ_=>[]) 246 [aa a] w k)=(
 ∀w1,Ext w w1->aM (w1.alloc (Obj.map ⟨[]⟩ 0)) ⟨[aa 1,aa 2,aa 3,aa 4]⟩ 3 λb c=> ∀e,Ext c e-> ∃(r:Nat), ∃(es:Array B1), ∃(d:Nat),some w1.heap.size=some r/\bD e r es d/\gS e r .i64 0 (.slice (ae b) 4 4) es d λc=>aM c ⟨[aa 0,aa 2,aa 3,aa 4]⟩ 3 λb c=> ∀f,Ext c f-> ∃(r:Nat), ∃(es:Array B1), ∃(d:Nat),some w1.heap.size=some r/\bD f r es d/\gS f r .i64 1 (.slice (ae b) 4 4) es d λc=>aM c ⟨[aa 5,.int
 .i64 0]⟩ 3 λb c=> ∀g,Ext c g-> ∃(r:Nat), ∃(es:Array B1), ∃(d:Nat),some w1.heap.size=some r/\bD g r es d/\gS g r .i64 2 (.slice (ae b) 2 2) es d λc=>aM c ⟨[aa 5,aa 0]⟩ 3 λb c=> ∀h,Ext c h-> ∃(r:Nat), ∃(es:Array B1), ∃(d:Nat),some w1.heap.size=some r/\bD h r es d/\gS h r .i64 3 (.slice (ae b) 2 2) es d λc=>aM c ⟨[aa 5,aa 0,aa 4]⟩ 3 λb c=> ∀i,Ext c i-> ∃(r:Nat), ∃(es:Array B1), ∃(d:Nat),some
 w1.heap.size=some r/\bD i r es d/\gS i r .i64 4 (.slice (ae b) 3 3) es d λc=>aM c ⟨[aa 0]⟩ 3 λb c=> ∀j,Ext c j-> ∃(r:Nat), ∃(es:Array B1), ∃(d:Nat),some w1.heap.size=some r/\bD j r es d/\gS j r .i64 5 (.slice (ae b) 1 1) es d λc=> ∃(x:Option AI×Nat×Nat),jM c (some w1.heap.size) .i64 a (.slice none 0 0) (.slice x.1 x.2.1 x.2.2)/\ao c (k (x.1,x.2.1,x.2.2))):=by kernel_rfl
def zv:Nat->aY:=(λ|2=>[(10,Go.RX.El.one (Go.RX.Sc.int B7))]| _=>[])
theorem ZF (a b:Int) (w:A2) (Post:Bool->A2->Prop):(aJ D0 zv 234 [aa a,aa b] w Post)=(
 az AC 246 (.el (.one .slice)) [aa a] w λx f=> ∀(c:Int),c=(↑x.2.1:Int)-> ∃(I:Nat->Int×Unit->A2->Prop),(∃n, ∀w1,Ext f w1->I n (0,()) w1)/\ ∀(n:Nat) (s:Int×Unit) (w1:A2),I n s w1->aH (decide (s.1<c)) ((x.1.isSome=true/\0<=s.1/\s.1<(↑x.2.1:Int))/\aj w1 none (ad x.1 (Int.toNat s.1*1)) (.one (.int .i64)) λ(x:Int)=>aH (x==b) (ao w1 λw1=>Post true w1) (∀(x:Int),x=aI .i64 s.1 1-> ∀d,Ext w1 d-> ∃(e:Nat),e<n/\I e (x,()) d)) (ao w1 λw1=>Post false w1)):=by
 kernel_rfl
theorem xv {w:A2} {r:Nat} {k:IntKind} {n:Int} {val:Ag} {es:Array B1} {a:Nat} {K:A2->Prop} (h:Dj (.int k) (.int k n) es.toList 0=some none)
 (b:K (w.putObj r (.map (es.push {key:= .int k n,val,born:=a}) (a+1)))):gS w r k n val es a K:=by grind[gS]
theorem mS {w0 a e:A2} {r:Nat} {es:Array B1} {c:Nat} {l:List Ag} {t:BY} {n:Int} {bs:List (Nat×List Ag)} {val:Ag} {K:A2->Prop}
 (o:Ext w0 a) (p:w0.heap.size<=r) (q:bD a r es c) (hb: ∀x∈bs,bL a x.1 x.2/\x.1≠r) (g:Ext (a.alloc (.cells ⟨l⟩ t)) e)
 (s:Dj (.int .i64) (aa n) es.toList 0=some none)
 (k: ∀d,Ext w0 d->bD d r (es.push {key:=aa n,val,born:=c}) (c+1)->(∀x∈(a.heap.size,l)::bs,bL d x.1 x.2/\x.1≠r)->K d):
 ∃r' h i,some r=some r'/\bD e r' h i/\gS e r' .i64 n val h i K:=by
 have j:=q;have u:=(Array.getElem?_eq_some_iff.1 j).1;have f:=(Ext.alloc a _).trans g;have m:=f.obj j;refine⟨r,es,c,rfl,m,xv s (k _ ((o.trans f).putObj p _) ?_ ?_)⟩
 ·exact jR (Array.getElem?_eq_some_iff.1 m).1
 ·intro x b;rcases FS.1 b with rfl|b
  ·have:a.heap.size≠r:=by omega
   exact⟨((bL.new a l t).ext g).putObj this _,this⟩
  ·exact⟨((hb x b).1.ext f).putObj (hb x b).2 _,(hb x b).2⟩
def fV (a:Int):List Int:=if a=0 then[1,2,3,4] else if a=1 then[0,2,3,4] else if a=2 then[5,0] else if a=3 then[5,0] else if a=4 then[5,0,4] else if a=5 then[0] else[]
theorem Rn (a:Int) (w:A2):aD AC 246 (.el (.one .slice)) [aa a] w (λr w'=>Sl w' eI r.1 (fV a)/\r.2.1=(fV a).length/\Ext w w'):=by
 refine ai (C:=D0) (aQ:=λ_=>[]) (Aq (Rm a w _) ?_);intro w1 h1 j p Z B;have m0:bD j w1.heap.size #[] 0:=p.obj (fp w1 _);have step: ∀{W:A2} {bs:List (Nat×List Ag)} {r:Nat},(∀x∈bs,bL W x.1 x.2/\x.1≠r)-> ∀{q:A2},Ext W q-> ∀x∈bs,bL q x.1 x.2/\x.1≠r:=
  λh _ e x c=>⟨(h x c).1.ext e,(h x c).2⟩
 refine mS (bs:=[]) ((h1.iU _).trans p) h1.size m0 (λx c=>by cases c) B rfl λW0 E0 M0 B0 s k w5 D=>?_;refine mS (E0.trans k) h1.size (k.obj M0) (step B0 k) D rfl λW1 E1 M1 E t l w7 F=>?_;refine mS (E1.trans l) h1.size (l.obj M1) (step E l) F rfl λW2 E2 M2 G u m w9 H=>?_;refine mS (E2.trans m) h1.size (m.obj M2) (step G m) H rfl λW3 E3 M3 I v n m9 J=>?_;refine mS (E3.trans n) h1.size (n.obj M3) (step I n) J rfl λW4 K L M y o Nz N=>?_;refine mS (K.trans o) h1.size (o.obj L) (step M o) N rfl λf O b d=>?_;have P:=(d (j.heap.size,[aa 1,aa 2,aa 3,aa 4]) (by simp)).1;have Q:=(d (s.heap.size,[aa 0,aa 2,aa 3,aa 4]) (by simp)).1;have R:=(d (t.heap.size,[aa 5,aa 0]) (by simp)).1;have S:=(d (u.heap.size,[aa 5,aa 0]) (by simp)).1;have T:=(d (v.heap.size,[aa 5,aa 0,aa 4]) (by simp)).1;have U:=(d (y.heap.size,[aa 0]) (by simp)).1;have fin: ∀(x:Option AI×Nat×Nat),jM f (some w1.heap.size) .i64 a (.slice none 0 0) (.slice x.1 x.2.1 x.2.2)->Sl f eI x.1 (fV a)->x.2.1=(fV a).length->
  ∃x:Option AI×Nat×Nat,jM f (some w1.heap.size) .i64 a (.slice none 0 0) (.slice x.1 x.2.1 x.2.2)/\ ∀g,Ext f g->Sl g eI (x.1,x.2.1,x.2.2).1 (fV a)/\(x.1,x.2.1,x.2.2).2.1=(fV a).length/\Ext w g:=
  λx V X Y=>⟨x,V,λg z=>⟨X.ext z,Y,O.trans z⟩⟩
 by_cases c0:a=0
 ·subst c0;exact fin (some ⟨j.heap.size,0,none⟩,4,4) ⟨_, _, _,rfl,b,rfl⟩ (Sl.jA P rfl) rfl
 by_cases c1:a=1
 ·subst c1;exact fin (some ⟨s.heap.size,0,none⟩,4,4) ⟨_, _, _,rfl,b,rfl⟩ (Sl.jA Q rfl) rfl
 by_cases c2:a=2
 ·subst c2;exact fin (some ⟨t.heap.size,0,none⟩,2,2) ⟨_, _, _,rfl,b,rfl⟩ (Sl.jA R rfl) rfl
 by_cases c3:a=3
 ·subst c3;exact fin (some ⟨u.heap.size,0,none⟩,2,2) ⟨_, _, _,rfl,b,rfl⟩ (Sl.jA S rfl) rfl
 by_cases c4:a=4
 ·subst c4;exact fin (some ⟨v.heap.size,0,none⟩,3,3) ⟨_, _, _,rfl,b,rfl⟩ (Sl.jA T rfl) rfl
 by_cases c5:a=5
 ·subst c5;exact fin (some ⟨y.heap.size,0,none⟩,1,1) ⟨_, _, _,rfl,b,rfl⟩ (Sl.jA U rfl) rfl
 have A:fV a=[]:=by
  unfold fV;rw[au c0,au c1,au c2,au c3,au c4,au c5]
 refine fin (none,0,0) ⟨_, _, _,rfl,b,?_⟩ (by rw[A];intro i x c;simp at c) (by rw[A];rfl);have d0:(a==0)=false:=by simp[c0]
 have d1:(a==1)=false:=by simp[c1]
 have d2:(a==2)=false:=by simp[c2]
 have d3:(a==3)=false:=by simp[c3]
 have d4:(a==4)=false:=by simp[c4]
 have d5:(a==5)=false:=by simp[c5]
 simp only[Array.toList_push,List.nil_append,J6,Dj,JS,if_true,BP,d0,d1,d2,d3,d4,d5]
theorem Lx (a:Int):(fV a).length<=4:=by grind[fV]
theorem ZG (a b:Int) (w:A2):aD AC 234 (.el (.one .bool)) [aa a,aa b] w (λx w'=>x=decide (b∈fV a)/\Ext w w'):=by
 refine ai (C:=D0) (aQ:=zv) (Aq (ZF a b w _) ?_);intro w1 h1;refine(Rn a w1).mono ?_;rintro⟨p,n,c⟩ q ⟨f,t,g⟩ x1 l;dsimp only at l t f;subst l;have B:=Lx a;refine⟨λk s w'=>Ext q w'/\ ∃i:Nat,s.1=i/\k+i=n/\ ∀j,j<i->(fV a)[j]? ≠some b,⟨n,λv d=>⟨d,0,rfl,rfl,λj m=>absurd m (by omega)⟩⟩,?_⟩;rintro k ⟨D,u⟩ v ⟨d,i,hi,E,m⟩;simp only at hi;subst hi;dsimp only;refine ab (λh=>?_) (λh=>λo e=>⟨?_,((h1.trans g).trans d).trans e⟩)
 ·simp only[decide_eq_true_eq] at h;have y:i<(fV a).length:=by omega
  have r:=(f.ext d) i _ (B3 y);refine⟨⟨r.1,by omega,by omega⟩, _,r.2,ab (λz o e=>⟨?_,((h1.trans g).trans d).trans e⟩) (λz x A o e=>⟨k - 1,by omega,d.trans e,i+1,by rw[A,aw (by omega) (by omega)];rfl,by omega,?_⟩)⟩
  grind
  grind
 ·grind[decide_eq_false_iff_not,fV,Fg]
noncomputable def YL:Entry AC where
 f:=234
 fn l:=match l with
  |[.int .i64 a,.int .i64 b]=>some (True,.bool (decide (b∈fV a)))
  | _=>none
 ok args pre v h c w:=by
  split at h
  ·rename_i a b;cases h;exact bU (ZG a b w)
  ·cases h
noncomputable def D1:dD AC:={D0 with si:=[tc,vt,FK,FL,YL]}
abbrev vW (c:Bool->A2->Prop) (a:A2) (b:Nat):Prop:=
 aj a none (ae b) dG λ(x:Int×Int×Int×Int×Unit)=>true=true/\aR a (ad (ae b) 0) λd=>ao a λw1=>c (x.1==d&&(x.2.1==0&&(x.2.2.1==0&&(x.2.2.2.1==0&&true)))) w1
abbrev vX (c:Bool->A2->Prop) (a:A2) (b:Nat):Prop:=
 true=true/\aR a (ad (ae b) 1) λx=>(decide (x>0)=true->true=true)/\aj a (some (decide (x>0))) (ad (ae b) 3) aT λ(d:Int)=>ao a (c (decide (x>0)&&d==0))
abbrev vY (b:Bool->A2->Prop) (c:Int) (a:A2) (d:Nat):Prop:=
 aH (c==5) (true=true/\aR a (ad (ae d) 2) λx=>ao a (b (x==0))) (ao a (b false))
abbrev vZ (d:Bool->A2->Prop) (b:Int) (a:A2) (c:Nat):Prop:=
 aH (b==2) (true=true/\aR a (ad (ae c) 1) λx=>((x==0)=true->true=true)/\aj a (some (x==0)) (ad (ae c) 3) aT λ(e:Int)=>ao a (d (x==0&&e==0))) (aH (b==3) (aH (b==3) (vX d a c) (vY d b a c)) (aH (b==4) (vX d a c) (vY d b a c)))
theorem yP (k o r e:Int) (w:A2) (f:Bool->A2->Prop):(aJ D1 (λ_=>[]) 233 [.agg ⟨[aa k,aa o,aa r,aa e]⟩] w f)=(
 aM w ⟨[aa k,aa o,aa r,aa e]⟩ 52 λb a=>true=true/\aR a (ad (ae b) 1) λx=>((!decide (x<0))=true->true=true)/\aj a (some !decide (x<0)) (ad (ae b) 1) aT λ(c:Int)=>((!(decide (x<0)||decide (c>16)))=true->true=true)/\aj a (some !(decide (x<0)||decide (c>16))) (ad (ae b) 2) aT λ(d:Int)=>((!(decide (x<0)||decide (c>16)||decide (d<0)))=true->true=true)/\aj a (some !(decide (x<0)||decide (c>16)||decide (d<0))) (ad (ae b) 2) aT λ(g:Int)=>
 ((!(decide (x<0)||decide (c>16)||decide (d<0)||decide (g>65535)))=true->true=true)/\aj a (some !(decide (x<0)||decide (c>16)||decide (d<0)||decide (g>65535))) (ad (ae b) 3) aT λ(h:Int)=>((!(decide (x<0)||decide (c>16)||decide (d<0)||decide (g>65535)||decide (h<0)))=true->true=true)/\aj a (some !(decide (x<0)||decide (c>16)||decide (d<0)||decide (g>65535)||decide (h<0))) (ad (ae b) 3) aT λ(i:Int)=>aH (decide (x<0)||decide (c>16)||decide (d<0)||
 decide (g>65535)||decide (h<0)||decide (i>4294967295)) (ao a (f false)) (true=true/\aR a (ad (ae b) 0) λx=>aH (x==0) (aH (x==0) (vW f a b) (vZ f x a b)) (aH (x==1) (vW f a b) (vZ f x a b)))):=by kernel_rfl
def jB (k o r e:Int):Prop:=(0<=o/\o<=16/\0<=r/\r<=65535/\0<=e/\e<=4294967295)/\(((k=0\/k=1)/\o=0/\r=0/\e=0)\/(k=2/\o=0/\e=0)\/((k=3\/k=4)/\0<o/\e=0)\/(k=5/\r=0))
instance (k o r e:Int):Decidable (jB k o r e):=by unfold jB;infer_instance
def dP (k o r e:Int):Bool:=decide (jB k o r e)
theorem Ly {k o r e:Int} {b:Bool} (h:b=true<->jB k o r e):b=dP k o r e:=by
 unfold dP;rw[JU,decide_eq_true_eq];exact h
theorem yQ (k o r e:Int) (w:A2):aD AC 233 (.el (.one .bool)) [.agg ⟨[aa k,aa o,aa r,aa e]⟩] w (λb w'=>b=dP k o r e/\Ext w w'):=by
 refine ai (C:=D1) (aQ:=λ_=>[]) (Aq (yP k o r e w _) ?_);have H:=At.start [] w
 repeat' (first
  |exact Go.RX.aK.all H
  |exact B4 (by first|rfl|decide+kernel) (Go.RX.aK.all H)
  |refine B4 (by first|exact rfl|exact trivial|exact λ_=>rfl|exact λ_=>trivial|exact⟨rfl,by decide,by decide⟩|exact⟨by decide,by decide⟩|decide+kernel|exact λ_=>by decide|exact λ_=>⟨rfl,by decide,by decide⟩|(dsimp only[GI,GJ];exact⟨rfl,by decide,by decide⟩)) ?_
  |refine aj.cq 0 H rfl rfl ?_
  |refine aj.at 0 H rfl rfl ?_
  |refine aM.go H λb w1 H=>?_
  |refine aA.all 0 H rfl rfl rfl λw1 H=>?_
  |refine aA.gx 0 H rfl rfl rfl λw1 H=>?_
  |refine aA.one 0 H rfl rfl rfl λw1 H=>?_
  |with_reducible refine ao.go H λw1 H=>?_
  |refine jX ?_
  |refine aB (by assumption) ?_
  |refine an (by assumption) ?_
  |refine ab (λc=>?_) (λc=>?_))
 all_goals
  refine B4 (Ly ?_) H.all;simp only[Dr,FE,Dx,Hb,beq_iff_eq,beq_eq_false_iff_ne,bne_iff_ne,bne_eq_false_iff_eq,decide_eq_true_eq,decide_eq_false_iff_not,Hh,Hq,FP,Hr,and_true,true_and,and_false,false_and,or_true,true_or,or_false,false_or,ne_eq,not_true_eq_false,not_false_eq_true,false_iff,iff_false,true_iff,iff_true] at*
  unfold jB;omega
noncomputable def uU:Entry AC where
 f:=233
 fn l:=match l with
  |[.agg ⟨[.int .i64 k,.int .i64 o,.int .i64 r,.int .i64 e]⟩]=>some (True,.bool (dP k o r e))
  | _=>none
 ok args pre v h a w:=by
  split at h
  ·rename_i k o r e;cases h;exact bU (yQ k o r e w)
  ·cases h
noncomputable def D2:dD AC:={D0 with si:=[tc,vt,FK,FL,YL,uU]}
abbrev zw (d:(Int×Int×Int×Int×Unit)×Int×Unit->A2->Prop) (a:A2) (e:Nat) (b:Nat):Prop:=
 aj a none (ae e) dG λ(x:Int×Int×Int×Int×Unit)=>True/\aH (!dP x.1 x.2.1 x.2.2.1 x.2.2.2.1) (aA a (ae b) [aa 0,aa 0,aa 0,aa 0] λc=>ao c λw1=>aj w1 none (ae b) dG λ(x:Int×Int×Int×Int×Unit)=>d ((x.1,x.2.1,x.2.2.1,x.2.2.2.1,()),1,()) w1) (aj a none (ae e) dG λ(x:Int×Int×Int×Int×Unit)=>aA a (ae b) [aa x.1,aa x.2.1,aa x.2.2.1,aa x.2.2.2.1] λc=>ao c λw1=>aj w1 none (ae b) dG λ(x:Int×Int×Int×Int×
 Unit)=>d ((x.1,x.2.1,x.2.2.1,x.2.2.2.1,()),0,()) w1)
theorem Va (k o r e x y:Int) (w:A2) (d:(Int×Int×Int×Int×Unit)×Int×Unit->A2->Prop):(bQ D2 (λ_=>[]) 192 [.agg ⟨[aa k,aa o,aa r,aa e]⟩,aa x,aa y] w d)=(
 aM w ⟨[aa k,aa o,aa r,aa e]⟩ 52 λb a=>aM a ⟨[aa 0,aa 0,aa 0,aa 0]⟩ 52 λc a=>aj a none (ae b) dG λ(f:Int×Int×Int×Int×Unit)=>True/\aH (!dP f.1 f.2.1 f.2.2.1 f.2.2.2.1) (aA a (ae c) [aa 0,aa 0,aa 0,aa 0] λa=>ao a λw1=>aj w1 none (ae c) dG λ(x:Int×Int×Int×Int×Unit)=>d ((x.1,x.2.1,x.2.2.1,x.2.2.2.1,()),11,()) w1) (true=true/\aR a (ad (ae b) 2) λg=>aH (decide (g>0)) (aA a
 (ae c) [aa 0,aa 0,aa 0,aa 0] λa=>ao a λw1=>aj w1 none (ae c) dG λ(x:Int×Int×Int×Int×Unit)=>d ((x.1,x.2.1,x.2.2.1,x.2.2.2.1,()),9,()) w1) (true=true/\aR a (ad (ae b) 0) λh=>True/\aH (!decide (x∈fV h)) (aA a (ae c) [aa 0,aa 0,aa 0,aa 0] λa=>ao a λw1=>aj w1 none (ae c) dG λ(x:Int×Int×Int×Int×Unit)=>d ((x.1,x.2.1,x.2.2.1,x.2.2.2.1,()),6,()) w1) (aH (x==5) (true=true/\aR a (ad (ae
 b) 1) λi=>aM a ⟨[aa 0,aa 0,aa 0,aa 0]⟩ 52 λb a=>aA a (ae b) [aa x,aa i,aa 0,aa 0] λa=>zw d a b c) (aM a ⟨[aa 0,aa 0,aa 0,aa 0]⟩ 52 λb a=>aA a (ae b) [aa x,aa y,aa 0,aa 0] λa=>zw d a b c))))):=by kernel_rfl
theorem ZH (k o r e x:Int) (w:A2) (d:(Int×Int×Int×Int×Unit)×Int×Unit->A2->Prop):(bQ D2 (λ_=>[]) 228 [.agg ⟨[aa k,aa o,aa r,aa e]⟩,aa x] w d)=(
 aM w ⟨[aa k,aa o,aa r,aa e]⟩ 52 λb a=>aM a ⟨[aa 0,aa 0,aa 0,aa 0]⟩ 52 λc a=>aj a none (ae b) dG λ(g:Int×Int×Int×Int×Unit)=>True/\aH (!dP g.1 g.2.1 g.2.2.1 g.2.2.2.1) (aA a (ae c) [aa 0,aa 0,aa 0,aa 0] λa=>ao a λw1=>aj w1 none (ae c) dG λ(x:Int×Int×Int×Int×Unit)=>d ((x.1,x.2.1,x.2.2.1,x.2.2.2.1,()),11,()) w1) (true=true/\aR a (ad (ae b) 0) λf=>((f != 2)=true->true=
 true)/\aj a (some (f != 2)) (ad (ae b) 0) aT λ(i:Int)=>((f != 2&&i != 3)=true->true=true)/\aj a (some (f != 2&&i != 3)) (ad (ae b) 0) aT λ(l:Int)=>aH (f != 2&&i != 3&&l != 4) (aA a (ae c) [aa 0,aa 0,aa 0,aa 0] λa=>ao a λw1=>aj w1 none (ae c) dG λ(x:Int×Int×Int×Int×Unit)=>d ((x.1,x.2.1,x.2.2.1,x.2.2.2.1,()),6,()) w1) (true=true/\aR a (ad (ae b) 2) λm=> ∀(h:Int),h=aX .i64 65535 m->((!decide (x>h))=true->
 true=true)/\aj a (some !decide (x>h)) (ad (ae b) 2) aT λ(n:Int)=>aH (decide (x>h)||decide (x<aX .i64 0 n)) (aA a (ae c) [aa 0,aa 0,aa 0,aa 0] λa=>ao a λw1=>aj w1 none (ae c) dG λ(x:Int×Int×Int×Int×Unit)=>d ((x.1,x.2.1,x.2.2.1,x.2.2.2.1,()),2,()) w1) (true=true/\aR a (ad (ae b) 2) λp=> ∀(j:Int),j=aI .i64 p x->true=true/\aA a (ad (ae b) 2) [aa j] λa=>aj a none (ae b) dG λ(x:Int×Int×Int×Int×Unit)=>
 aA a (ae c) [aa x.1,aa x.2.1,aa x.2.2.1,aa x.2.2.2.1] λa=>ao a λw1=>aj w1 none (ae c) dG λ(x:Int×Int×Int×Int×Unit)=>d ((x.1,x.2.1,x.2.2.1,x.2.2.2.1,()),0,()) w1)))):=by kernel_rfl
def gN (k o r e x y:Int):Int:=if dP k o r e=false then 11 else if r>0 then 9 else if x∈fV k then(if dP x (if x=5 then o else y) 0 0=false then 1 else 0) else 6
def mG (k o r e x y:Int):Int:=if gN k o r e x y=0 then x else 0
def lf (k o r e x y:Int):Int:=if gN k o r e x y=0 then(if x=5 then o else y) else 0
theorem Vb (k o r e x y:Int) (w:A2):aD AC 192 (.bu [(.agg [.int .i64,.int .i64,.int .i64,.int .i64]),.one (.int .i64)]) [.agg ⟨[aa k,aa o,aa r,aa e]⟩,aa x,aa y] w
 (λv w'=>v=((mG k o r e x y,lf k o r e x y,(0:Int),(0:Int),()),gN k o r e x y,())/\Ext w w'):=by
 refine aP (C:=D2) (aQ:=λ_=>[]) (Aq (Va k o r e x y w _) ?_);have H:=At.start [] w
 repeat' (first
  |exact Go.RX.aK.all H
  |exact B4 (by first|rfl|decide+kernel) (Go.RX.aK.all H)
  |refine B4 (by grind) ?_
  |refine aj.cq 0 H rfl rfl ?_
  |refine aj.cq 1 H rfl rfl ?_
  |refine aj.cq 2 H rfl rfl ?_
  |refine aj.at 0 H rfl rfl ?_
  |refine aj.at 1 H rfl rfl ?_
  |refine aj.at 2 H rfl rfl ?_
  |refine aM.go H λb w1 H=>?_
  |refine aA.all 0 H rfl rfl rfl λw1 H=>?_
  |refine aA.all 1 H rfl rfl rfl λw1 H=>?_
  |refine aA.all 2 H rfl rfl rfl λw1 H=>?_
  |refine aA.gx 0 H rfl rfl rfl λw1 H=>?_
  |refine aA.gx 1 H rfl rfl rfl λw1 H=>?_
  |refine aA.gx 2 H rfl rfl rfl λw1 H=>?_
  |refine aA.one 0 H rfl rfl rfl λw1 H=>?_
  |refine aA.one 1 H rfl rfl rfl λw1 H=>?_
  |refine aA.one 2 H rfl rfl rfl λw1 H=>?_
  |with_reducible refine ao.go H λw1 H=>?_
  |refine jX ?_
  |refine aB (by assumption) ?_
  |refine an (by assumption) ?_
  |refine ab (λc=>?_) (λc=>?_))
 all_goals
  refine B4 ?_ H.all;simp only[Dr,FE,Dx,Hb,beq_iff_eq,beq_eq_false_iff_ne,bne_iff_ne,bne_eq_false_iff_eq,decide_eq_true_eq,decide_eq_false_iff_not,Hh,Hq,FP,Hr,and_true,true_and,and_false,false_and,or_true,true_or,or_false,false_or,ne_eq,not_true_eq_false,not_false_eq_true,false_iff,iff_false,true_iff,iff_true] at*
  first
   |(simp[mG,lf,gN, *];done)
   |(subst_vars;simp[mG,lf,gN, *])
def wU (k o r e x:Int):Int:=if dP k o r e=false then 11 else if k=2\/k=3\/k=4 then(if r+x<0\/r+x>65535 then 2 else 0) else 6
def qs (k o r e x:Int):Int×Int×Int×Int×Unit:=if wU k o r e x=0 then(k,o,r+x,e,()) else(0,0,0,0,())
theorem ZI (k o r e x:Int) (l: -9223372036854775808<=x/\x<9223372036854775808) (w:A2):aD AC 228 (.bu [(.agg [.int .i64,.int .i64,.int .i64,.int .i64]),.one (.int .i64)]) [.agg ⟨[aa k,aa o,aa r,aa e]⟩,aa x] w
 (λv w'=>v=(qs k o r e x,wU k o r e x,())/\Ext w w'):=by
 refine aP (C:=D2) (aQ:=λ_=>[]) (Aq (ZH k o r e x w _) ?_);have H:=At.start [] w
 repeat' (first
  |exact Go.RX.aK.all H
  |exact B4 (by first|rfl|decide+kernel) (Go.RX.aK.all H)
  |refine B4 (by first|exact rfl|exact trivial|exact λ_=>rfl|exact λ_=>trivial|exact⟨rfl,by decide,by decide⟩|exact⟨by decide,by decide⟩|decide+kernel|exact λ_=>by decide|exact λ_=>⟨rfl,by decide,by decide⟩|(dsimp only[GI,GJ];exact⟨rfl,by decide,by decide⟩)) ?_
  |refine aj.cq 0 H rfl rfl ?_
  |refine aj.cq 1 H rfl rfl ?_
  |refine aj.cq 2 H rfl rfl ?_
  |refine aj.at 0 H rfl rfl ?_
  |refine aj.at 1 H rfl rfl ?_
  |refine aj.at 2 H rfl rfl ?_
  |refine aM.go H λb w1 H=>?_
  |refine aA.all 0 H rfl rfl rfl λw1 H=>?_
  |refine aA.all 1 H rfl rfl rfl λw1 H=>?_
  |refine aA.all 2 H rfl rfl rfl λw1 H=>?_
  |refine aA.gx 0 H rfl rfl rfl λw1 H=>?_
  |refine aA.gx 1 H rfl rfl rfl λw1 H=>?_
  |refine aA.gx 2 H rfl rfl rfl λw1 H=>?_
  |refine aA.one 0 H rfl rfl rfl λw1 H=>?_
  |refine aA.one 1 H rfl rfl rfl λw1 H=>?_
  |refine aA.one 2 H rfl rfl rfl λw1 H=>?_
  |with_reducible refine ao.go H λw1 H=>?_
  |refine jX ?_
  |refine aB (by assumption) ?_
  |refine an (by assumption) ?_
  |refine ab (λc=>?_) (λc=>?_))
 all_goals
  refine B4 ?_ H.all;simp only[Dr,FE,Dx,Hb,beq_iff_eq,beq_eq_false_iff_ne,bne_iff_ne,bne_eq_false_iff_eq,decide_eq_true_eq,decide_eq_false_iff_not,Hh,Hq,FP,Hr,and_true,true_and,and_false,false_and,or_true,true_or,or_false,false_or,ne_eq,not_true_eq_false,not_false_eq_true,false_iff,iff_false,true_iff,iff_true] at*
 ·simp[qs,wU, *]
 ·have a: ¬ (k=2\/k=3\/k=4):=by omega
  simp[qs,wU, *]
 all_goals
  have d:dP k o r e=true:=by assumption
  have g:jB k o r e:=of_decide_eq_true d;unfold jB at g;have h:aX .i64 65535 r=65535 - r:=bC (by omega) (by omega);have i:aX .i64 0 r=0 - r:=bC (by omega) (by omega);simp only[h,i] at*
  have a:k=2\/k=3\/k=4:=by omega
 ·have f:r+x<0\/r+x>65535:=by omega
  simp[qs,wU, *]
 ·have f: ¬ (r+x<0\/r+x>65535):=by omega
  have j:aI .i64 r x=r+x:=aw (by omega) (by omega);have:wU k o r e x=0:=by unfold wU;rw[au (by rw[d];decide),ay a,au f]
  unfold qs;rw[this,ay rfl,j]
theorem Iv {x:Int} (h:0<=x) (h':x<18446744073709551616):(B x).toNat=x.toNat:=by
 have:=BS h h';unfold U at this;omega
theorem ee (x:Int):aG .u64 x=U (B x):=Zf x
def fE (N:Nat):Int:=((N / 4294967296 % 4294967296:Nat):Int)
theorem ab_ {x:Int} (h:0<=x) (h':x<4294967296):aG .i64 x=x:=gg (by omega) (by omega)
theorem cE (N:Nat):aG .i64 (fE N)=fE N:=ab_ (by unfold fE;omega) (by unfold fE;omega)
noncomputable def aa':Entry AC where
 f:=192
 fn l:=match l with
  |[.agg ⟨[.int .i64 k,.int .i64 o,.int .i64 r,.int .i64 e]⟩,.int .i64 x,.int .i64 y]=>some (True,.tuple ⟨[.agg ⟨[.int .i64 (mG k o r e x y),.int .i64 (lf k o r e x y),.int .i64 0,.int .i64 0]⟩,.int .i64 (gN k o r e x y)]⟩)
  | _=>none
 ok args pre v h a w:=by
  split at h
  ·rename_i k o r e x y;cases h;exact bU (Vb k o r e x y w)
  ·cases h
noncomputable def ab':Entry AC where
 f:=228
 fn l:=match l with
  |[.agg ⟨[.int .i64 k,.int .i64 o,.int .i64 r,.int .i64 e]⟩,.int .i64 x]=>some ((-9223372036854775808<=x/\x<9223372036854775808),.tuple ⟨[.agg ⟨[.int .i64 (qs k o r e x).1,.int .i64 (qs k o r e x).2.1,.int .i64 (qs k o r e x).2.2.1,.int .i64 (qs k o r e x).2.2.2.1]⟩,.int .i64 (wU k o r e x)]⟩)
  | _=>none
 ok args pre v h a w:=by
  split at h
  ·rename_i k o r e x;cases h;exact bU (ZI k o r e x a w)
  ·cases h
noncomputable def D3:dD AC:={D0 with vr:=false,si:=[tc,vt,FK,FL,YL,uU,aa',ab']}
noncomputable def E0:dD AC:={D3 with sh:=[(104,.el (.one (.zV 146 2))),(65,.el (.one (.zV 146 2)))],quiet:=[105,207,62]}
noncomputable def E1:dD AC:={E0 with cl:=[(201,.zV 105 1)]}
noncomputable def E2:dD AC:={E0 with cl:=[(201,.zV 207 1)]}
abbrev aas:Sh:= .el (.one (.zV 146 2))
theorem ZJ (p:Option AI) (w:A2) (a:Int->A2->Prop):(aJ E0 (λ_=>[]) 62 [ag p] w a)=(
 aH p.isNone (ao w (a 0)) (e8 p 0 w λx=>ao w (a (↑x.2.1:Int)))):=by kernel_rfl
theorem ZK (k o r e:Int) (c:Option AI) (w:A2) (d:Bool->A2->Prop):(aJ E0 (λ_=>[]) 105 [.agg ⟨[aa k,aa o,aa r,aa e]⟩,ag c] w d)=(
 aM w ⟨[aa k,aa o,aa r,aa e]⟩ 52 λb a=>true=true/\aR a (ad (ae b) 0) λx=>aR a c λf=>ao a (d (x==f))):=by kernel_rfl
theorem Lz (k o r e:Int) (c:Option AI) (w:A2) (d:Bool->A2->Prop):(aJ E0 (λ_=>[]) 207 [.agg ⟨[aa k,aa o,aa r,aa e]⟩,ag c] w d)=(
 aM w ⟨[aa k,aa o,aa r,aa e]⟩ 52 λb a=>true=true/\aR a (ad (ae b) 1) λx=>aR a c λf=>ao a (d (x==f))):=by kernel_rfl
theorem aba (p:Option AI) (k:Int) (w:A2) (c:Option AI×Option AI×Unit->A2->Prop):(aJ E0 (λ_=>[]) 65 [ag p,aa k] w c)=(
 aM w ⟨[aa k]⟩ 3 λb a=>az AC 104 (.el (.one (.zV 146 2))) [ag p,.func (.func 105) ⟨[]⟩ {toList:=[ag (ae b)]}] a λx a=>ao a (c (x.1,x.2.1,()))):=by kernel_rfl
theorem Vc (p c:Option AI) (w:A2) (d:Option AI×Option AI×Unit->A2->Prop):(aJ E0 (λ_=>[]) 104 [ag p,.func (.func 105) #[] #[ag c]] w d)=(
 aM w ⟨[ag p]⟩ 36 λb a=>aM a {toList:=[.func (.func 105) ⟨[]⟩ ⟨[ag c]⟩]} 201 λe a=>ao a (d (some ⟨b,0,none⟩,some ⟨e,0,none⟩,()))):=by kernel_rfl
theorem Ro (p c:Option AI) (w:A2) (d:Option AI×Option AI×Unit->A2->Prop):(aJ E0 (λ_=>[]) 104 [ag p,.func (.func 207) #[] #[ag c]] w d)=(
 aM w ⟨[ag p]⟩ 36 λb a=>aM a {toList:=[.func (.func 207) ⟨[]⟩ ⟨[ag c]⟩]} 201 λe a=>ao a (d (some ⟨b,0,none⟩,some ⟨e,0,none⟩,()))):=by kernel_rfl
def uc:Nat->aY:=(λ|2=>[(13,Go.RX.El.one (Go.RX.Sc.int B7))]| _=>[])
theorem Rq (y:Nat) (p c:Option AI) (w:A2) (f:Unit->A2->Prop):(aJ E1 uc 146 [.func (.yield y) #[] #[],ag p,ag c] w f)=(
 fT w p λx=>aH x.isNone (ao w (f ())) (fT w p λx=>e8 x 0 w λx=> ∃(I:Nat->Int×Unit->A2->Prop),(∃n, ∀w1,Ext w w1->I n (0,()) w1)/\ ∀(n:Nat) (s:Int×Unit) (w1:A2),I n s w1->aH (decide (s.1<(↑x.2.1:Int))) ((x.1.isSome=true/\0<=s.1/\s.1<(↑x.2.1:Int))/\aj w1 none (ad x.1 (Int.toNat s.1*4)) dG λ(x:Int×Int×Int×Int×Unit)=>aM w1 ⟨[aa 0,aa 0,aa 0,aa 0]⟩ 52 λb a=>aA a (ae b) [aa x.1,aa x.2.1,aa x.2.2.1,aa x.2.2.2.1] λa=>aj
 a none c (.one (.zV 105 1)) λx=>aj a none (ae b) dG λ(g:Int×Int×Int×Int×Unit)=> ∃h,af AC 105 [.agg ⟨[aa g.1,aa g.2.1,aa g.2.2.1,aa g.2.2.2.1]⟩,ag x.1] a (.bool h)/\aH h (∀w1,Ext a w1->ml AC y [aa s.1] w1 λ(b:Bool) a=>aH (!b) (ao a (f ())) (∀d,Ext a d-> ∃(e:Nat),e<n/\I e (aI .i64 s.1 1,()) d)) (∀d,Ext a d-> ∃(e:Nat),e<n/\I e (aI .i64 s.1 1,()) d)) (ao w1 (f ())))):=by kernel_rfl
def qQ:Nat->aY:=(λ|2=>[(13,Go.RX.El.one (Go.RX.Sc.int B7))]| _=>[])
theorem LA (y:Nat) (p c:Option AI) (w:A2) (f:Unit->A2->Prop):(aJ E2 qQ 146 [.func (.yield y) #[] #[],ag p,ag c] w f)=(
 fT w p λx=>aH x.isNone (ao w (f ())) (fT w p λx=>e8 x 0 w λx=> ∃(I:Nat->Int×Unit->A2->Prop),(∃n, ∀w1,Ext w w1->I n (0,()) w1)/\ ∀(n:Nat) (s:Int×Unit) (w1:A2),I n s w1->aH (decide (s.1<(↑x.2.1:Int))) ((x.1.isSome=true/\0<=s.1/\s.1<(↑x.2.1:Int))/\aj w1 none (ad x.1 (Int.toNat s.1*4)) dG λ(x:Int×Int×Int×Int×Unit)=>aM w1 ⟨[aa 0,aa 0,aa 0,aa 0]⟩ 52 λb a=>aA a (ae b) [aa x.1,aa x.2.1,aa x.2.2.1,aa x.2.2.2.1] λa=>aj
 a none c (.one (.zV 207 1)) λx=>aj a none (ae b) dG λ(g:Int×Int×Int×Int×Unit)=> ∃h,af AC 207 [.agg ⟨[aa g.1,aa g.2.1,aa g.2.2.1,aa g.2.2.2.1]⟩,ag x.1] a (.bool h)/\aH h (∀w1,Ext a w1->ml AC y [aa s.1] w1 λ(b:Bool) a=>aH (!b) (ao a (f ())) (∀d,Ext a d-> ∃(e:Nat),e<n/\I e (aI .i64 s.1 1,()) d)) (∀d,Ext a d-> ∃(e:Nat),e<n/\I e (aI .i64 s.1 1,()) d)) (ao w1 (f ())))):=by kernel_rfl
theorem Rs (k o r e:Int) (c d:Option AI) (w:A2) (i:(Int×Int×Int×Int×Unit)×Int×Unit->A2->Prop):(bQ E0 (λ_=>[]) 191 [.agg ⟨[aa k,aa o,aa r,aa e]⟩,ag c,ag d] w i)=(
 aM w ⟨[aa k,aa o,aa r,aa e]⟩ 52 λb a=>aM a ⟨[aa 0,aa 0,aa 0,aa 0]⟩ 52 λj a=>aj a none (ae b) dG λ(x:Int×Int×Int×Int×Unit)=>aR a c λg=>aR a d λh=>True/\aA a (ae j) [aa (mG x.1 x.2.1 x.2.2.1 x.2.2.2.1 g h),aa (lf x.1 x.2.1 x.2.2.1 x.2.2.2.1 g h),aa 0,aa 0] λa=>ao a λw1=>aj w1 none (ae j) dG λ(f:Int×Int×Int×Int×Unit)=>i ((f.1,f.2.1,f.2.2.1,f.2.2.2.1,()),gN x.1 x.2.1
 x.2.2.1 x.2.2.2.1 g h,()) w1):=by kernel_rfl
theorem Vd (k o r e:Int) (c:Option AI) (w:A2) (g:(Int×Int×Int×Int×Unit)×Int×Unit->A2->Prop):(bQ E0 (λ_=>[]) 227 [.agg ⟨[aa k,aa o,aa r,aa e]⟩,ag c] w g)=(
 aM w ⟨[aa k,aa o,aa r,aa e]⟩ 52 λb a=>aM a ⟨[aa 0,aa 0,aa 0,aa 0]⟩ 52 λh a=>aj a none (ae b) dG λ(x:Int×Int×Int×Int×Unit)=>aR a c λd=>(-9223372036854775808<=d/\d<9223372036854775808)/\aA a (ae h) [aa (qs x.1 x.2.1 x.2.2.1 x.2.2.2.1 d).1,aa (qs x.1 x.2.1 x.2.2.1 x.2.2.2.1 d).2.1,aa (qs x.1 x.2.1 x.2.2.1 x.2.2.2.1 d).2.2.1,aa (qs x.1 x.2.1 x.2.2.1 x.2.2.2.1 d).2.2.2.1] λa=>ao a λw1=>aj w1 none (ae h) dG λ
 (f:Int×Int×Int×Int×Unit)=>g ((f.1,f.2.1,f.2.2.1,f.2.2.2.1,()),wU x.1 x.2.1 x.2.2.1 x.2.2.2.1 d,()) w1):=by kernel_rfl
theorem LB (p:Option AI) (f:Int) (c d:Option AI) (w:A2) (e:Int->A2->Prop):(aJ E0 (λ_=>[]) 190 [ag p,aa f,.func (.func 191) #[] #[ag c,ag d]] w e)=(
 ∃(x:Int),af AC 62 [ag p] w (aa x)/\aH (x==0) (ao w (e 10)) (((!decide (f<0))=true->p.isSome=true)/\((!decide (f<0))=true->p.isSome=true)/\aj w (some !decide (f<0)) (ad p 0) eJ λx=>aH (decide (f<0)||decide (f>=(↑x.2.1:Int))) (ao w (e 2)) (e8 p 0 w λx=>(x.1.isSome=true/\0<=f/\f<(↑x.2.1:Int))/\aj w none (ad x.1 (f.toNat*4)) dG λ(x:Int×Int×Int×Int×Unit)=>az AC 191 (.bu [.agg [.int .i64,.int .i64,.int .i64,.int .i64],.one (.int .i64)]) [.agg ⟨[aa x.1,.int .i64
 x.2.1,aa x.2.2.1,aa x.2.2.2.1]⟩,ag c,ag d] w λ(x:(Int×Int×Int×Int×Unit)×Int×Unit) a=>aM a ⟨[aa 0,aa 0,aa 0,aa 0]⟩ 52 λb a=>aA a (ae b) [aa x.1.1,aa x.1.2.1,aa x.1.2.2.1,aa x.1.2.2.2.1] λa=>aH (x.2.1==0) (e8 p 0 a λh=>aj a none (ae b) dG λ(g:Int×Int×Int×Int×Unit)=>(h.1.isSome=true/\0<=f/\f<(↑h.2.1:Int))/\aA a (ad h.1 (f.toNat*4)) [aa g.1,aa g.2.1,aa g.2.2.1,aa g.2.2.2.1]
 λa=>ao a (e x.2.1)) (ao a (e x.2.1))))):=by kernel_rfl
theorem Hi (p:Option AI) (f:Int) (c:Option AI) (w:A2) (d:Int->A2->Prop):(aJ E0 (λ_=>[]) 190 [ag p,aa f,.func (.func 227) #[] #[ag c]] w d)=(
 ∃(x:Int),af AC 62 [ag p] w (aa x)/\aH (x==0) (ao w (d 10)) (((!decide (f<0))=true->p.isSome=true)/\((!decide (f<0))=true->p.isSome=true)/\aj w (some !decide (f<0)) (ad p 0) eJ λx=>aH (decide (f<0)||decide (f>=(↑x.2.1:Int))) (ao w (d 2)) (e8 p 0 w λx=>(x.1.isSome=true/\0<=f/\f<(↑x.2.1:Int))/\aj w none (ad x.1 (f.toNat*4)) dG λ(x:Int×Int×Int×Int×Unit)=>az AC 227 (.bu [.agg [.int .i64,.int .i64,.int .i64,.int .i64],.one (.int .i64)]) [.agg ⟨[aa x.1,.int .i64
 x.2.1,aa x.2.2.1,aa x.2.2.2.1]⟩,ag c] w λ(x:(Int×Int×Int×Int×Unit)×Int×Unit) a=>aM a ⟨[aa 0,aa 0,aa 0,aa 0]⟩ 52 λb a=>aA a (ae b) [aa x.1.1,aa x.1.2.1,aa x.1.2.2.1,aa x.1.2.2.2.1] λa=>aH (x.2.1==0) (e8 p 0 a λg=>aj a none (ae b) dG λ(e:Int×Int×Int×Int×Unit)=>(g.1.isSome=true/\0<=f/\f<(↑g.2.1:Int))/\aA a (ad g.1 (f.toNat*4)) [aa e.1,aa e.2.1,aa e.2.2.1,aa e.2.2.2.1] λa=>ao
 a (d x.2.1)) (ao a (d x.2.1))))):=by kernel_rfl
theorem Ve (p:Option AI) (f k o:Int) (w:A2) (c:Int->A2->Prop):(aJ E0 (λ_=>[]) 138 [ag p,aa f,aa k,aa o] w c)=(
 aM w ⟨[aa k]⟩ 3 λb a=>aM a ⟨[aa o]⟩ 3 λd a=>az AC 190 (.el aT) [ag p,aa f,.func (.func 191) ⟨[]⟩ {toList:=[ag (ae b),ag (ae d)]}] a λ(x:Int) a=>ao a (c x)):=by kernel_rfl
theorem Vf (p:Option AI) (f x:Int) (w:A2) (c:Int->A2->Prop):(aJ E0 (λ_=>[]) 183 [ag p,aa f,aa x] w c)=(
 aM w ⟨[aa x]⟩ 3 λb a=>az AC 190 (.el aT) [ag p,aa f,.func (.func 227) ⟨[]⟩ {toList:=[ag (ae b)]}] a λ(x:Int) a=>ao a (c x)):=by kernel_rfl
theorem Vg (p:Option AI) (f:Int) (w:A2) (a:Int->A2->Prop):(aJ E0 (λ_=>[]) 79 [ag p,aa f] w a)=(
 az AC 138 (.el aT) [ag p,aa f,aa 0,aa 0] w λ(x:Int) b=>ao b (a x)):=by kernel_rfl
theorem ZL (p:Option AI) (f:Int) (w:A2) (c:(Int×Int×Int×Int×Unit)×Bool×Unit->A2->Prop):(bQ E0 (λ_=>[]) 25 [ag p,aa f] w c)=(
 aM w ⟨[aa 0,aa 0,aa 0,aa 0]⟩ 52 λb a=> ∃(x:Int),((!decide (f<0))=true->af AC 62 [ag p] a (aa x))/\aH (decide (f<0)||decide (f>=x)) (aA a (ae b) [aa 0,aa 0,aa 0,aa 0] λa=>ao a λw1=>aj w1 none (ae b) dG λ(x:Int×Int×Int×Int×Unit)=>c ((x.1,x.2.1,x.2.2.1,x.2.2.2.1,()),false,()) w1) (e8 p 0 a λx=>(x.1.isSome=true/\0<=f/\f<(↑x.2.1:Int))/\aj a none (ad x.1 (f.toNat*4)) dG λ(x:Int×Int×Int×Int×Unit)
 =>aA a (ae b) [aa x.1,aa x.2.1,aa x.2.2.1,aa x.2.2.2.1] λa=>ao a λw1=>aj w1 none (ae b) dG λ(x:Int×Int×Int×Int×Unit)=>c ((x.1,x.2.1,x.2.2.1,x.2.2.2.1,()),true,()) w1)):=by kernel_rfl
theorem Cs (n:Int) (w:A2) (a:Option AI×Int×Unit->A2->Prop):(aJ E0 (λ_=>[]) 72 [aa n] w a)=(
 aH (decide (n<1)||decide (n>4096)) (ao w (a (none,1,()))) (NJ w 32 4 n n ⟨[aa 0,aa 0,aa 0,aa 0]⟩ 52 λb c=>aM c {toList:=[.slice (ae b) n.toNat n.toNat]} 137 λb c=>ao c (a (some ⟨b,0,none⟩,0,())))):=by kernel_rfl
theorem Vh (p:Option AI) (w:A2) (a:Option AI->A2->Prop):(aJ E0 (λ_=>[]) 54 [ag p] w a)=(
 ∃(x:Int),af AC 62 [ag p] w (aa x)/\aH (x==0) (ao w (a none)) (e8 p 0 w λx=> ∀w1,Ext w w1->mz w1 52 4 32 ⟨[aa 0,aa 0,aa 0,aa 0]⟩ (none,0,0) (x.1,x.2.1,x.2.2) λ(r:Option AI×Nat×Nat) c=>aM c ⟨[.slice r.1 r.2.1 r.2.2]⟩ 137 λb c=>ao c (a (ae b)))):=by kernel_rfl
def ud:Nat->aY:=(λ|3=>[(9,.one (.int .i64))]| _=>[])
theorem Ru (p:Option AI) (k:Int) (w:A2) (d:Int->A2->Prop):(bQ E0 ud 30 [ag p,aa k] w d)=(
 aM w ⟨[aa 0]⟩ 3 λb c=>aA c (ae b) [aa 0] λc=>az AC 65 (.el (.one (.zV 146 2))) [ag p,aa k] c λx c=>zS AC 146 (λ(y:Nat)=>[.func (Fn.yield y) ⟨[]⟩ ⟨[]⟩,ag x.1,ag x.2.1]) ⟨[9]⟩ c (λ(x:Int×Unit)=>[aa x.1]) (λ(l:Nat) (rec:Loop) (x:Int×Unit) e (R:Bool->A2->Prop)=>Dd l rec [aa x.1].length 1 e (BN l rec e λa=>aR a (ae b) λx=>aA a (ae b) [aa (aI .i64 x 1)] λc=>
 sj l rec none c R)) λ(r:Nat) (rec:Loop) f=>du (r+1) rec f (λa=>aR a (ae b) λx=>sk [r] a λw1=>d x w1) (λ(id:Nat) a=>Decidable.rec (λ(h:id=0->False)=>False) (λ(h:id=0)=>aR a (ae b) λx=>sk [r] a λw1=>d x w1) (match h:id.beq 0 with|true=>isTrue (HB h)|false=>isFalse (HZ h))) λa=>sk [r] a λw1=>d 0 w1):=by kernel_rfl
def uf:Nat->aY:=(λ|4=>[(10,.one (.int .i64))]| _=>[])
theorem Rv (p:Option AI) (k:Int) (w:A2) (d:Option AI×Nat×Nat->A2->Prop):(bQ E0 uf 166 [ag p,aa k] w d)=(
 aM w ⟨[aa k]⟩ 3 λb a=>aM a ⟨[.slice none 0 0]⟩ 39 λe a=>az AC 104 (.el (.one (.zV 146 2))) [ag p,.func (.func 207) ⟨[]⟩ {toList:=[ag (ae b)]}] a λx a=>zS AC 146 (λ(y:Nat)=>[.func (Fn.yield y) ⟨[]⟩ ⟨[]⟩,ag x.1,ag x.2.1]) ⟨[10]⟩ a (λ(x:Int×Unit)=>[aa x.1]) (λ(l:Nat) (rec:Loop) (x:Int×Unit) g (R:Bool->A2->Prop)=>Dd l rec [aa x.1].length 1 g (BN l rec g λc=>sT c (ae e) λf=>aM c ⟨[aa x.1]⟩
 3 λb a=> ∀w1,Ext a w1->mz w1 3 1 8 ⟨[aa 0]⟩ (f.1,f.2.1,f.2.2) (some ⟨b,0,none⟩,1,1) λ(r:Option AI×Nat×Nat) a=>aA a (ae e) [.slice r.1 r.2.1 r.2.2] λa=>sj l rec none a R)) λ(r:Nat) (rec:Loop) i=>du (r+1) rec i (λc=>sT c (ae e) λx=>sk [r] c λw1=>d (x.1,x.2.1,x.2.2) w1) (λ(id:Nat) c=>Decidable.rec (λ(h:id=0->False)=>False) (λ(h:id=0)=>sT c (ae e) λx=>sk [r] c λw1=>d (x.1,
 x.2.1,x.2.2) w1) (match h:id.beq 0 with|true=>isTrue (HB h)|false=>isFalse (HZ h))) λc=>sk [r] c λw1=>d (none,0,0) w1):=by kernel_rfl
def v7:Nat->aY:=(λ|5=>[(15,.one (.int .i64))]| _=>[])
theorem Vi (p:Option AI) (k o:Int) (w:A2) (g:Int×Int×Unit->A2->Prop):(bQ E0 v7 172 [ag p,aa k,aa o] w g)=(
 aM w ⟨[ag p]⟩ 36 λb a=>aM a ⟨[aa k]⟩ 3 λn a=>aM a ⟨[aa o]⟩ 3 λq a=>aM a ⟨[aa 0]⟩ 3 λd a=>aM a ⟨[aa 0]⟩ 46 λe a=>fT a (ae b) λx=> ∃(i:Int),af AC 62 [ag x] a (aa i)/\aH (i==0) (aA a (ae d) [aa 0] λa=>aA a (ae e) [aa 10] λa=>ao a λw1=>aR w1 (ae d) λx=>aR w1 (ae e) λf=>
 g (x,f,()) w1) (fT a (ae b) λx=>az AC 65 (.el (.one (.zV 146 2))) [ag x,aa 0] a λx a=>zS AC 146 (λ(y:Nat)=>[.func (Fn.yield y) ⟨[]⟩ ⟨[]⟩,ag x.1,ag x.2.1]) ⟨[15]⟩ a (λ(x:Int×Unit)=>[aa x.1]) (λ(l:Nat) (rec:Loop) (x:Int×Unit) j (R:Bool->A2->Prop)=>Dd l rec [aa x.1].length 1 j (BN l rec j λc=>fT c (ae b) λf=>aR c (ae n) λs=>aj c none
 (ae q) aT λ(t:Int)=>az AC 138 (.el aT) [ag f,aa x.1,aa s,aa t] c λ(m:Int) a=>aH (m != 0) (aA a (ae d) [aa 0] λa=>aA a (ae e) [aa m] λa=>sj l rec (some Code.ret) a R) (aA a (ae d) [aa x.1] λa=>aA a (ae e) [aa 0] λa=>sj l rec (some Code.ret) a R))) λ(r:Nat) (rec:Loop) u=>du (r+1) rec u (λc=>aA c (ae d) [aa 0]
 λa=>aA a (ae e) [aa 12] λa=>sk [r] a λw1=>aR w1 (ae d) λx=>aR w1 (ae e) λf=>g (x,f,()) w1) (λ(id:Nat) c=>Decidable.rec (λ(h:id=0->False)=>False) (λ(h:id=0)=>aA c (ae d) [aa 0] λa=>aA a (ae e) [aa 12] λa=>sk [r] a λw1=>aR w1 (ae d) λx=>aj w1 none (ae e) aT
 λ(f:Int)=>g (x,f,()) w1) (match h:id.beq 0 with|true=>isTrue (HB h)|false=>isFalse (HZ h))) λc=>sk [r] c λw1=>aR w1 (ae d) λx=>aR w1 (ae e) λf=>g (x,f,()) w1)):=by kernel_rfl
abbrev sD:List Sc:=[.int .i64,.int .i64,.int .i64,.int .i64]
abbrev eD:El:= .agg sD
abbrev DT:Type:=Int×Int×Int×Int×Unit
def zD:DT:=(0,0,0,0,())
theorem rM {w:A2} {bp n c:Nat} {a:Option AI} (h:bL w bp [.slice a n c]):aD AC 62 (.el (.one (.int .i64))) [ag (ae bp)] w (λx w'=>x=(n:Int)/\Ext w w'):=by
 refine ai (Aq (ZJ _ w _) ?_);have H:=At.start [] w;refine an rfl ⟨rfl,rfl,aj.kZ H h (by simp) rfl ?_⟩
 grind
theorem ZM {w:A2} {kc:Nat} {v:Int} (h:bL w kc [aa v]) (d:DT):aD AC 105 (.el (.one .bool)) [.agg ⟨a_ sD d⟩,ag (ae kc)] w (λx w'=>x=(d.1==v)/\Ext w w'):=by
 obtain⟨k,o,r,e,u⟩:=d;refine ai (C:=E0) (aQ:=λ_=>[]) (Aq (ZK k o r e _ w _) ?_);have H:=At.start [] w
 repeat' (first
  |refine aj.fI H h (by simp) rfl ?_
  |exact Go.RX.aK.all H
  |simp
  |refine aj.at 0 H rfl rfl ?_
  |refine aM.go H λb w1 H=>?_
  |with_reducible refine ao.go H λw1 H=>?_
  |refine jX ?_
  )
theorem LC {w:A2} {kc:Nat} {v:Int} (h:bL w kc [aa v]) (d:DT):aD AC 207 (.el (.one .bool)) [.agg ⟨a_ sD d⟩,ag (ae kc)] w (λx w'=>x=(d.2.1==v)/\Ext w w'):=by
 obtain⟨k,o,r,e,u⟩:=d;refine ai (C:=E0) (aQ:=λ_=>[]) (Aq (Lz k o r e _ w _) ?_);have H:=At.start [] w
 repeat' (first
  |refine aj.fI H h (by simp) rfl ?_
  |exact Go.RX.aK.all H
  |simp
  |refine aj.at 0 H rfl rfl ?_
  |refine aM.go H λb w1 H=>?_
  |with_reducible refine ao.go H λw1 H=>?_
  |refine jX ?_
  )
section
variable {D G:List Nat} {w0 w:A2} {L:List (Nat×List Ag)}
theorem td (H:aK D G w0 w L) (p:Option AI) (k:Int) {K:Option AI×Option AI×Unit->A2->Prop}
 (b: ∀pc ic kc w1,aK D G w0 w1 ((ic,[.func (.func 105) #[] #[ag (ae kc)]])::(pc,[ag p])::(kc,[aa k])::L)->K (some ⟨pc,0,none⟩,some ⟨ic,0,none⟩,()) w1):
 az AC 65 aas [ag p,aa k] w K:=by
 refine az.go H λw1 H=>ai (Aq (aba p k w1 K) ?_);refine aM.go H λkc c H=>az.go H λa H=>ai (Aq (Vc p _ a _) ?_);refine aM.go H λpc d H=>aM.go H λic e H=>ao.go H λf H=>ao.go H λH=>?_
 grind
theorem Vj (H:aK D G w0 w L) (p c:Option AI) {K:Option AI×Option AI×Unit->A2->Prop}
 (a: ∀pc ic w1,aK D G w0 w1 ((ic,[.func (.func 207) #[] #[ag c]])::(pc,[ag p])::L)->K (some ⟨pc,0,none⟩,some ⟨ic,0,none⟩,()) w1):
 az AC 104 aas [ag p,.func (.func 207) #[] #[ag c]] w K:=by
 refine az.go H λw1 H=>ai (Aq (Ro p c w1 K) ?_);refine aM.go H λpc b H=>aM.go H λic d H=>ao.go H λH=>?_
 grind
end
def Pe (fn:FuncId) (pc ic kc bp bf c:Nat) (v:Int) (ds:List DT) (rest:List Ag) (w:A2):Prop:=
 bL w pc [ag (ae bp)]/\bL w ic [.func (.func fn) #[] #[ag (ae kc)]]/\bL w kc [aa v]/\bL w bp [.slice (ae bf) ds.length c]/\bL w bf (flat eD ds++rest)
theorem Ei {pc ic kc bp bf c:Nat} {v:Int} {ds:List DT} {rest:List Ag} (N:ds.length<=4096):
 T6 AC 146 (λy=>[.func (.yield y) #[] #[],ag (ae pc),ag (ae ic)]) ds.length
  (λi=>match ds[i]? with
   |some d=>if d.1=v then some [aa (i:Nat)] else none
   |none=>none) (Pe 105 pc ic kc bp bf c v ds rest):=by
 intro y w J B a D m O E h0;have key:aD AC 146 (uD E1 146) [.func (.yield y) #[] #[],ag (ae pc),ag (ae ic)] w (λ_ w'=>J ds.length w'\/B w'):=by
  refine ai (C:=E1) (aQ:=uc) (Aq (Rq y _ _ w _) ?_);obtain⟨s1,o,p,q,r⟩:=m 0 w h0;refine aj.of _ (s1.om rfl) (an rfl (aj.of _ (s1.om rfl) ⟨rfl,rfl,aj.of (some ⟨bf,0,none⟩,ds.length,c) (by rw[aV];exact q.om rfl) ?_⟩));refine⟨λn s w'=> ∃i:Nat,s.1=i/\n+i=ds.length/\J i w',⟨ds.length,λw1 h1=>⟨0,rfl,rfl,a _ _ _ h0 h1⟩⟩,?_⟩;rintro n ⟨P,u⟩ w1 ⟨i,hi,Q,f⟩;simp only at hi;subst hi;dsimp only;refine ab (λc=>?_) (λc=>?_)
  ·have t:i<ds.length:=by simp only[decide_eq_true_eq] at c;omega
   obtain⟨s1,o,p,q,r⟩:=m i w1 f;have h:ds[i]? =some ds[i]:=B3 t;refine⟨⟨rfl,by omega,by omega⟩,aj.of ds[i] (fN r h) ?_⟩;have H:=At.start [] w1;have next: ∀w',J (i+1) w'-> ∀g,Ext w' g-> ∃z,z<n/\ ∃j:Nat,aI .i64 (i:Nat) 1=j/\z+j=ds.length/\J j g:=λw' k g l=>
    ⟨n - 1,by omega,i+1,by rw[aw (by omega) (by omega)];rfl,by omega,a _ _ _ k l⟩
   generalize F:ds[i]=d;rw[F] at h;refine aM.go H λb A H=>aA.all 0 H rfl rfl rfl λA H=>aj.of (some ⟨kc,0,none⟩,()) ((H.fI o (by simp)).om rfl) (aj.at 0 H rfl rfl ?_);have G:=a _ _ _ f H.all;refine⟨d.1==v,af.of (s:= .el (.one .bool)) λw' h'=>ZM ((H.fI p (by simp)).ext h') d,ab (λc=>λg l=>?_) (λc=>?_)⟩
   ·refine E i _ t (by simp only[h];rw[ay (by simpa using c)]) g _ (a _ _ _ G l) (λw' k=>?_) (λw' I=>?_)
    ·exact an rfl (next w' k)
    ·exact aB rfl λR K=> .inr (D _ _ I K)
   ·exact next _ (by grind)
  ·have:i=ds.length:=by simp only[decide_eq_false_iff_not] at c;omega
   subst this;exact λA L=> .inl (a _ _ _ f L)
 exact Calls.mono key λe w' ⟨x,M,f⟩=>⟨_,M,f⟩
theorem Rw {pc ic kc bp bf c:Nat} {v:Int} {ds:List DT} {rest:List Ag} (N:ds.length<=4096):
 T6 AC 146 (λy=>[.func (.yield y) #[] #[],ag (ae pc),ag (ae ic)]) ds.length
  (λi=>match ds[i]? with
   |some d=>if d.2.1=v then some [aa (i:Nat)] else none
   |none=>none) (Pe 207 pc ic kc bp bf c v ds rest):=by
 intro y w J B a D m O E h0;have key:aD AC 146 (uD E2 146) [.func (.yield y) #[] #[],ag (ae pc),ag (ae ic)] w (λ_ w'=>J ds.length w'\/B w'):=by
  refine ai (C:=E2) (aQ:=qQ) (Aq (LA y _ _ w _) ?_);obtain⟨s1,o,p,q,r⟩:=m 0 w h0;refine aj.of _ (s1.om rfl) (an rfl (aj.of _ (s1.om rfl) ⟨rfl,rfl,aj.of (some ⟨bf,0,none⟩,ds.length,c) (by rw[aV];exact q.om rfl) ?_⟩));refine⟨λn s w'=> ∃i:Nat,s.1=i/\n+i=ds.length/\J i w',⟨ds.length,λw1 h1=>⟨0,rfl,rfl,a _ _ _ h0 h1⟩⟩,?_⟩;rintro n ⟨P,u⟩ w1 ⟨i,hi,Q,f⟩;simp only at hi;subst hi;dsimp only;refine ab (λc=>?_) (λc=>?_)
  ·have t:i<ds.length:=by simp only[decide_eq_true_eq] at c;omega
   obtain⟨s1,o,p,q,r⟩:=m i w1 f;have h:ds[i]? =some ds[i]:=B3 t;refine⟨⟨rfl,by omega,by omega⟩,aj.of ds[i] (fN r h) ?_⟩;have H:=At.start [] w1;have next: ∀w',J (i+1) w'-> ∀g,Ext w' g-> ∃z,z<n/\ ∃j:Nat,aI .i64 (i:Nat) 1=j/\z+j=ds.length/\J j g:=λw' k g l=>
    ⟨n - 1,by omega,i+1,by rw[aw (by omega) (by omega)];rfl,by omega,a _ _ _ k l⟩
   generalize F:ds[i]=d;rw[F] at h;refine aM.go H λb A H=>aA.all 0 H rfl rfl rfl λA H=>aj.of (some ⟨kc,0,none⟩,()) ((H.fI o (by simp)).om rfl) (aj.at 0 H rfl rfl ?_);have G:=a _ _ _ f H.all;refine⟨d.2.1==v,af.of (s:= .el (.one .bool)) λw' h'=>LC ((H.fI p (by simp)).ext h') d,ab (λc=>λg l=>?_) (λc=>?_)⟩
   ·refine E i _ t (by simp only[h];rw[ay (by simpa using c)]) g _ (a _ _ _ G l) (λw' k=>?_) (λw' I=>?_)
    ·exact an rfl (next w' k)
    ·exact aB rfl λR K=> .inr (D _ _ I K)
   ·exact next _ (by grind)
  ·have:i=ds.length:=by grind
   subst this;exact λA L=> .inl (a _ _ _ f L)
 exact Calls.mono key λe w' ⟨x,M,f⟩=>⟨_,M,f⟩
def aO (k o:Int) (d:DT):DT×Int:=((mG d.1 d.2.1 d.2.2.1 d.2.2.2.1 k o,lf d.1 d.2.1 d.2.2.1 d.2.2.2.1 k o,0,0,()),gN d.1 d.2.1 d.2.2.1 d.2.2.2.1 k o)
def gX (x:Int) (d:DT):DT×Int:=(qs d.1 d.2.1 d.2.2.1 d.2.2.2.1 x,wU d.1 d.2.1 d.2.2.1 d.2.2.2.1 x)
def vn (ds:List DT) (f:Int) (g:DT->DT×Int):Int:=if ds.length=0 then 10 else if f<0\/f>=ds.length then 2 else(g (ds.getD f.toNat zD)).2
def dF (ds:List DT) (f:Int) (g:DT->DT×Int):List DT:=if f<0\/f>=ds.length then ds else if(g (ds.getD f.toNat zD)).2=0 then ds.set f.toNat (g (ds.getD f.toNat zD)).1 else ds
theorem A7 {ds:List DT} (h:ds.length=0) (f:Int) (g:DT->DT×Int):vn ds f g=10:=ay h
theorem A8 {ds:List DT} (h:ds.length=0) (f:Int) (g:DT->DT×Int):dF ds f g=ds:=ay (by omega)
theorem I9 {ds:List DT} (h:ds.length≠0) {f:Int} (h1:f<0\/f>=ds.length) (g:DT->DT×Int):vn ds f g=2:=by grind[vn]
theorem xz {ds:List DT} {f:Int} (h1:f<0\/f>=ds.length) (g:DT->DT×Int):dF ds f g=ds:=ay h1
theorem yB {ds:List DT} {f:Int} (h1:0<=f/\f<ds.length) (g:DT->DT×Int):vn ds f g=(g (ds.getD f.toNat zD)).2:=by grind[vn]
theorem o9 {ds:List DT} {f:Int} (h1:0<=f/\f<ds.length) (g:DT->DT×Int):dF ds f g=if(g (ds.getD f.toNat zD)).2=0 then ds.set f.toNat (g (ds.getD f.toNat zD)).1 else ds:=by grind[dF]
theorem im (ds:List DT) (f:Int) (g:DT->DT×Int):(dF ds f g).length=ds.length:=by grind[dF]
theorem Rx {w:A2} {kc oc:Nat} {k o:Int} (f:bL w kc [aa k]) (g:bL w oc [aa o]) (d:DT):aD AC 191 (.bu [eD,.one (.int .i64)]) [.agg ⟨a_ sD d⟩,ag (ae kc),ag (ae oc)] w
 (λv w'=>v=((aO k o d).1,(aO k o d).2,())/\Ext w w'):=by
 obtain⟨a,b,c,e,u⟩:=d;refine aP (C:=E0) (aQ:=λ_=>[]) (Aq (Rs a b c e _ _ w _) ?_);have H:=At.start [] w
 repeat' (first
  |refine aj.fI H f (by simp) rfl ?_
  |refine aj.fI H g (by simp) rfl ?_
  |exact Go.RX.aK.all H
  |exact B4 (by first|rfl|decide+kernel) (Go.RX.aK.all H)
  |refine B4 (by simp) ?_
  |refine aj.cq 0 H rfl rfl ?_
  |refine aj.cq 1 H rfl rfl ?_
  |refine aj.at 0 H rfl rfl ?_
  |refine aj.at 1 H rfl rfl ?_
  |refine aM.go H λb w1 H=>?_
  |refine aA.all 0 H rfl rfl rfl λw1 H=>?_
  |refine aA.all 1 H rfl rfl rfl λw1 H=>?_
  |refine aA.gx 0 H rfl rfl rfl λw1 H=>?_
  |with_reducible refine ao.go H λw1 H=>?_
  |refine jX ?_
  |refine aB (by assumption) ?_
  |refine an (by assumption) ?_
  )
theorem Vk {w:A2} {kc:Nat} {k:Int} (f:bL w kc [aa k]) (hi: -9223372036854775808<=k/\k<9223372036854775808) (d:DT):aD AC 227 (.bu [eD,.one (.int .i64)]) [.agg ⟨a_ sD d⟩,ag (ae kc)] w
 (λv w'=>v=((gX k d).1,(gX k d).2,())/\Ext w w'):=by
 obtain⟨a,b,c,e,u⟩:=d;refine aP (C:=E0) (aQ:=λ_=>[]) (Aq (Vd a b c e _ w _) ?_);have H:=At.start [] w
 repeat' (first
  |refine aj.fI H f (by simp) rfl ?_
  |refine B4 hi ?_
  |exact Go.RX.aK.all H
  |exact B4 (by first|rfl|decide+kernel) (Go.RX.aK.all H)
  |refine aj.cq 0 H rfl rfl ?_
  |refine aj.cq 1 H rfl rfl ?_
  |refine aj.at 0 H rfl rfl ?_
  |refine aj.at 1 H rfl rfl ?_
  |refine aM.go H λb w1 H=>?_
  |refine aA.all 0 H rfl rfl rfl λw1 H=>?_
  |refine aA.all 1 H rfl rfl rfl λw1 H=>?_
  |with_reducible refine ao.go H λw1 H=>?_
  |refine jX ?_
  |refine aB (by assumption) ?_
  |refine an (by assumption) ?_
  )
theorem Hj {w:A2} {bp bf c kc oc:Nat} {k o:Int} {ds:List DT} {rest:List Ag} (a:bL w bp [.slice (ae bf) ds.length c]) (q:bL w bf (flat eD ds++rest)) (r:bp≠bf) (B:ds.length<=4096) (t:bL w kc [aa k]) (u:bL w oc [aa o]) (v:kc≠bf) (x:oc≠bf) (f:Int):
 aD AC 190 (.el (.one (.int .i64))) [ag (ae bp),aa f,.func (.func 191) #[] #[ag (ae kc),ag (ae oc)]] w
  (λe w'=>e=vn ds f (aO k o)/\bL w' bf (flat eD (dF ds f (aO k o))++rest)/\Fr [bf] w w'):=by
 refine ai (C:=E0) (aQ:=λ_=>[]) (Aq (LB _ f _ _ w _) ?_);have H:=At.rJ q;have g:bp∉[bf]:=by simpa using r
 refine⟨(ds.length:Int),af.of (s:= .el (.one (.int .i64))) λw' h=>rM (a.ext h),ab (λc0=>ao.go H λw1 H=>?_) (λc0=>⟨λ_=>rfl,λ_=>rfl,aj.kZ H a g rfl (ab (λc1=>ao.go H λw1 H=>?_) (λc1=>?_))⟩)⟩
 ·have h0:ds.length=0:=by simp only[beq_iff_eq] at c0;omega
  exact⟨(A7 h0 f _).symm,by rw[A8 h0];exact H.get (i:=0) rfl,H.fr⟩
 ·have h0:ds.length≠0:=by simp only[beq_eq_false_iff_ne,ne_eq] at c0;omega
  have h1:f<0\/f>=ds.length:=by simpa using c1
  exact⟨(I9 h0 h1 _).symm,by rw[xz h1];exact H.get (i:=0) rfl,H.fr⟩
 ·have h1:0<=f/\f<ds.length:=by grind
  have n:f.toNat<ds.length:=by omega
  have p:ds[f.toNat]? =some ds[f.toNat]:=B3 n;have y:ds.getD f.toNat zD=ds[f.toNat]:=by rw[B6,p];rfl
  have j:=yB h1 (aO k o);have l:=o9 h1 (aO k o);rw[y] at j l;generalize D:ds[f.toNat]=d at*
  refine⟨rfl,rfl,aj.kZ H a g rfl ⟨⟨rfl,h1.1,h1.2⟩,aj.of d (fN (H.get (i:=0) rfl) p) ?_⟩⟩;refine az.val H (s:= .bu [eD,.one (.int .i64)]) (((aO k o) d).1,((aO k o) d).2,()) (λw1 H=>Rx (H.fI t (by simpa using v)) (H.fI u (by simpa using x)) d) λw1 H=>?_;refine aM.go H λb z H=>aA.all 0 H rfl rfl rfl λz H=>ab (λc2=>⟨rfl,rfl,aj.kZ H a g rfl (aj.at 0 H rfl rfl ⟨⟨rfl,h1.1,h1.2⟩,?_⟩)⟩) (λc2=>ao.go H λA H=>?_)
  ·have m:((aO k o) d).2=0:=by simpa using c2
   refine aA.flat (e:=eD) 1 H (xs:=ds) (rest:=rest) ((aO k o) d).1 rfl rfl rfl n λA H=>ao.go H λE H=>?_;exact⟨j.symm,by rw[l,ay m];exact H.get (i:=1) rfl,H.fr⟩
  ·have m: ¬ ((aO k o) d).2=0:=by simpa using c2
   exact⟨j.symm,by rw[l,au m];exact H.get (i:=1) rfl,H.fr⟩
theorem Hk {w:A2} {bp bf c kc:Nat} {k:Int} {ds:List DT} {rest:List Ag} (a:bL w bp [.slice (ae bf) ds.length c]) (p:bL w bf (flat eD ds++rest)) (q:bp≠bf) (y:ds.length<=4096) (r:bL w kc [aa k]) (t:kc≠bf) (hi: -9223372036854775808<=k/\k<9223372036854775808) (f:Int):
 aD AC 190 (.el (.one (.int .i64))) [ag (ae bp),aa f,.func (.func 227) #[] #[ag (ae kc)]] w
  (λe w'=>e=vn ds f (gX k)/\bL w' bf (flat eD (dF ds f (gX k))++rest)/\Fr [bf] w w'):=by
 refine ai (C:=E0) (aQ:=λ_=>[]) (Aq (Hi _ f _ w _) ?_);have H:=At.rJ p;have g:bp∉[bf]:=by simpa using q
 refine⟨(ds.length:Int),af.of (s:= .el (.one (.int .i64))) λw' h=>rM (a.ext h),ab (λc0=>ao.go H λw1 H=>?_) (λc0=>⟨λ_=>rfl,λ_=>rfl,aj.kZ H a g rfl (ab (λc1=>ao.go H λw1 H=>?_) (λc1=>?_))⟩)⟩
 ·have h0:ds.length=0:=by simp only[beq_iff_eq] at c0;omega
  exact⟨(A7 h0 f _).symm,by rw[A8 h0];exact H.get (i:=0) rfl,H.fr⟩
 ·have h0:ds.length≠0:=by simp only[beq_eq_false_iff_ne,ne_eq] at c0;omega
  have h1:f<0\/f>=ds.length:=by simpa using c1
  exact⟨(I9 h0 h1 _).symm,by rw[xz h1];exact H.get (i:=0) rfl,H.fr⟩
 ·have h1:0<=f/\f<ds.length:=by grind
  have n:f.toNat<ds.length:=by omega
  have o:ds[f.toNat]? =some ds[f.toNat]:=B3 n;have u:ds.getD f.toNat zD=ds[f.toNat]:=by rw[B6,o];rfl
  have j:=yB h1 (gX k);have l:=o9 h1 (gX k);rw[u] at j l;generalize z:ds[f.toNat]=d at*
  refine⟨rfl,rfl,aj.kZ H a g rfl ⟨⟨rfl,h1.1,h1.2⟩,aj.of d (fN (H.get (i:=0) rfl) o) ?_⟩⟩;refine az.val H (s:= .bu [eD,.one (.int .i64)]) (((gX k) d).1,((gX k) d).2,()) (λw1 H=>Vk (H.fI r (by simpa using t)) hi d) λw1 H=>?_;refine aM.go H λb v H=>aA.all 0 H rfl rfl rfl λv H=>ab (λc2=>⟨rfl,rfl,aj.kZ H a g rfl (aj.at 0 H rfl rfl ⟨⟨rfl,h1.1,h1.2⟩,?_⟩)⟩) (λc2=>ao.go H λx H=>?_)
  ·have m:((gX k) d).2=0:=by simpa using c2
   refine aA.flat (e:=eD) 1 H (xs:=ds) (rest:=rest) ((gX k) d).1 rfl rfl rfl n λx H=>ao.go H λA H=>?_;exact⟨j.symm,by rw[l,ay m];exact H.get (i:=1) rfl,H.fr⟩
  ·have m: ¬ ((gX k) d).2=0:=by simpa using c2
   exact⟨j.symm,by rw[l,au m];exact H.get (i:=1) rfl,H.fr⟩
theorem Ct {w:A2} {bp bf c:Nat} {ds:List DT} {rest:List Ag} (a:bL w bp [.slice (ae bf) ds.length c]) (b:bL w bf (flat eD ds++rest)) (d:bp≠bf) (g:ds.length<=4096) (f k o:Int):
 aD AC 138 (.el (.one (.int .i64))) [ag (ae bp),aa f,aa k,aa o] w (λe w'=>e=vn ds f (aO k o)/\bL w' bf (flat eD (dF ds f (aO k o))++rest)/\Fr [bf] w w'):=by
 refine ai (Aq (Ve _ f k o w _) ?_);have H:=At.rJ b;have h:bp∉[bf]:=by simpa
 refine aM.go H λkc w1 H=>aM.go H λoc m H=>?_;refine az.Dt H 2 rfl (λl H=>Hj (H.fI a h) (H.get (i:=2) rfl) d g (H.get (i:=1) rfl) (H.get (i:=0) rfl) (H.ne (i:=1) (j:=2) rfl rfl (by decide)) (H.ne (i:=0) (j:=2) rfl rfl (by decide)) f) λl H=>ao.go H λn H=>?_;exact⟨rfl,H.get (i:=2) rfl,H.fr⟩
theorem Vl {w:A2} {bp bf c:Nat} {ds:List DT} {rest:List Ag} (a:bL w bp [.slice (ae bf) ds.length c]) (b:bL w bf (flat eD ds++rest)) (d:bp≠bf) (g:ds.length<=4096) (f x:Int) (hi: -9223372036854775808<=x/\x<9223372036854775808):
 aD AC 183 (.el (.one (.int .i64))) [ag (ae bp),aa f,aa x] w (λe w'=>e=vn ds f (gX x)/\bL w' bf (flat eD (dF ds f (gX x))++rest)/\Fr [bf] w w'):=by
 refine ai (Aq (Vf _ f x w _) ?_);have H:=At.rJ b;have h:bp∉[bf]:=by grind
 refine aM.go H λkc w1 H=>?_;refine az.Dt H 1 rfl (λk H=>Hk (H.fI a h) (H.get (i:=1) rfl) d g (H.get (i:=0) rfl) (H.ne (i:=0) (j:=1) rfl rfl (by decide)) hi f) λk H=>ao.go H λl H=>?_;exact⟨rfl,H.get (i:=1) rfl,H.fr⟩
theorem Vm {w:A2} {bp bf c:Nat} {ds:List DT} {rest:List Ag} (a:bL w bp [.slice (ae bf) ds.length c]) (b:bL w bf (flat eD ds++rest)) (d:bp≠bf) (g:ds.length<=4096) (f:Int):
 aD AC 79 (.el (.one (.int .i64))) [ag (ae bp),aa f] w (λe w'=>e=vn ds f (aO 0 0)/\bL w' bf (flat eD (dF ds f (aO 0 0))++rest)/\Fr [bf] w w'):=by
 refine ai (Aq (Vg _ f w _) ?_);have H:=At.rJ b;have h:bp∉[bf]:=by grind
 refine az.Dt H 0 rfl (λj H=>Ct (H.fI a h) (H.get (i:=0) rfl) d g f 0 0) λj H=>ao.go H λk H=>?_;exact⟨rfl,H.get (i:=0) rfl,H.fr⟩
def oE (ds:List DT) (f:Int):DT:=if f<0\/f>=ds.length then zD else ds.getD f.toNat zD
def As (ds:List DT) (f:Int):Bool:= !(decide (f<0\/f>=ds.length))
theorem Gg {w:A2} {bp bf c:Nat} {ds:List DT} {rest:List Ag} (e:bL w bp [.slice (ae bf) ds.length c]) (i:bL w bf (flat eD ds++rest)) (f:Int):
 aD AC 25 (.bu [eD,.one .bool]) [ag (ae bp),aa f] w (λv w'=>v=(oE ds f,As ds f,())/\Ext w w'):=by
 refine aP (C:=E0) (aQ:=λ_=>[]) (Aq (ZL _ f w _) ?_);have H:=At.start [] w;refine aM.go H λb w1 H=>⟨(ds.length:Int),λ_=>af.of (s:= .el (.one (.int .i64))) λw' h=>rM ((H.fI e (by simp)).ext h),ab (λc1=>?_) (λc1=>?_)⟩
 ·have h1:f<0\/f>=ds.length:=by simpa using c1
  have a:oE ds f=zD:=ay h1;have d:As ds f=false:=by unfold As;simp[h1]
  rw[a,d]
  repeat' (first
   |exact Go.RX.aK.all H
   |exact B4 (by first|rfl|decide+kernel) (Go.RX.aK.all H)
   |refine aj.cq 0 H rfl rfl ?_
   |refine aj.at 0 H rfl rfl ?_
   |refine aM.go H λb w1 H=>?_
   |refine aA.all 0 H rfl rfl rfl λw1 H=>?_
   |refine aA.gx 0 H rfl rfl rfl λw1 H=>?_
   |refine aA.one 0 H rfl rfl rfl λw1 H=>?_
   |with_reducible refine ao.go H λw1 H=>?_
   |refine jX ?_
   |refine aB (by assumption) ?_
   |refine an (by assumption) ?_
   |refine ab (λc=>?_) (λc=>?_))
 ·have h1: ¬ (f<0\/f>=ds.length):=by
   grind
  have j:f.toNat<ds.length:=by omega
  have g:ds[f.toNat]? =some ds[f.toNat]:=B3 j;have k:ds.getD f.toNat zD=ds[f.toNat]:=by rw[B6,g];rfl
  have a:oE ds f=ds[f.toNat]:=by unfold oE;rw[au h1,k]
  have d:As ds f=true:=by unfold As;simp[h1]
  rw[a,d];refine⟨rfl,rfl,aj.kZ H e (by simp) rfl ⟨by grind,aj.of ds[f.toNat] (fN (H.fI i (by simp)) g) ?_⟩⟩
  repeat' (first
   |exact Go.RX.aK.all H
   |exact B4 (by first|rfl|decide+kernel) (Go.RX.aK.all H)
   |grind
   |refine aj.cq 0 H rfl rfl ?_
   |refine aj.at 0 H rfl rfl ?_
   |refine aM.go H λb w1 H=>?_
   |refine aA.all 0 H rfl rfl rfl λw1 H=>?_
   |refine aA.gx 0 H rfl rfl rfl λw1 H=>?_
   |refine aA.one 0 H rfl rfl rfl λw1 H=>?_
   |with_reducible refine ao.go H λw1 H=>?_
   |refine jX ?_
   |refine aB (by assumption) ?_
   |refine an (by assumption) ?_
   |refine ab (λc=>?_) (λc=>?_))
section
variable {D G:List Nat} {w0 w:A2} {L:List (Nat×List Ag)}
theorem Vn (n:Nat):(BJ n [aa 0,aa 0,aa 0,aa 0]).flatten=flat eD (BJ n zD)++[]:=by
 rw[DB,lG];rfl
theorem Cu (H:aK D G w0 w L) (n:Int) {K:Option AI×Int×Unit->A2->Prop} (hb:n<1\/n>4096-> ∀w1,aK D G w0 w1 L->K (none,1,()) w1)
 (b:1<=n->n<=4096-> ∀bp bf w1,aK D G w0 w1 ((bp,[.slice (ae bf) n.toNat n.toNat])::(bf,flat eD (BJ n.toNat zD)++[])::L)->K (some ⟨bp,0,none⟩,0,()) w1):
 az AC 72 (.bu [.one .ptr,.one (.int .i64)]) [aa n] w K:=by
 refine az.go H λw1 H=>ai (C:=E0) (aQ:=λ_=>[]) (Aq (Cs n w1 K) ?_);refine ab (λc=>ao.go H λa H=>hb (by simpa using c) a H) (λc=>?_);have h1:1<=n/\n<=4096:=by simp only[FE,decide_eq_false_iff_not] at c;omega
 refine NJ.go H rfl (by omega) (by omega) (by omega) (by omega) λbf a H=>?_;rw[Vn] at H;exact aM.go H λbp e H=>ao.go H λd H=>b h1.1 h1.2 bp bf d H
theorem Vo (H:aK D G w0 w L) {bp bf n c:Nat} {ds:List DT} {rest:List Ag} (g:bL w bp [.slice (ae bf) n c]) (j:bL w bf (flat eD ds++rest)) (i:n=ds.length) (h0:0<n) (m:n<=4096) {K:Option AI->A2->Prop}
 (k: ∀a b d f w1,aK D G w0 w1 ((a,[.slice (ae b) n d])::(b,flat eD ds++f)::L)->K (ae a) w1):
 aD AC 54 (.el (.one .ptr)) [ag (ae bp)] w K:=by
 refine ai (C:=E0) (aQ:=λ_=>[]) (Aq (Vh _ w K) ?_);refine⟨(n:Int),af.of (s:= .el (.one (.int .i64))) λw' h=>rM (g.ext h),ab (λc0=>?_) (λc0=>⟨rfl,rfl,aj.of (some ⟨bf,0,none⟩,n,c) (by rw[aV];exact g.om rfl) λw1 h1=>?_⟩)⟩
 ·simp only[beq_iff_eq] at c0;omega
 ·refine mz.copy (H.ext h1) (e:=eD) (ys:=ds) (j.ext h1) ?_ i (by intro e;subst e;simp at i;omega) rfl rfl rfl (by omega) λb d f o H=>aM.go H λa p H=>ao.go H λl H=>k a b d f l H;rw[Fw (by rw[aF];exact Dg _),FR (by rw[aF];exact Dg _)]
end
def cj (ds:List DT) (v:Int):Nat:=ds.countP λd=>d.1==v
def gA (ds:List DT) (v:Int):List Nat:=(DQ ds.length).filter λi=>match ds[i]? with
 |some d=>d.2.1==v
 |none=>false
theorem Ej {ds:List DT} {v:Int} {i:Nat} {d:DT} (h:ds[i]? =some d):cj (ds.take (i+1)) v=cj (ds.take i) v+(if d.1=v then 1 else 0):=by
 unfold cj;rw[Io,h,List.countP_append];congr 1;simp
theorem pT {ds:List DT} {i:Nat} {v:Int} {NV:DT->Int} {x:List Ag} (h:(match ds[i]? with
 |some d=>if NV d=v then some [aa (i:Nat)] else none
 |none=>none)=some x): ∃d,ds[i]? =some d/\NV d=v/\x=[aa (i:Nat)]:=by
 split at h
 ·rename_i d a;split at h
  ·rename_i b;cases h;exact⟨d,a,b,rfl⟩
  ·cases h
 ·cases h
theorem Cv {ds:List DT} {i:Nat} {v:Int} {NV:DT->Int} (hi:i<ds.length) (h:(match ds[i]? with
 |some d=>if NV d=v then some [aa (i:Nat)] else none
 |none=>none)=none): ∃d,ds[i]? =some d/\NV d≠v:=by
 rw[B3 hi] at h;refine⟨ds[i],B3 hi,?_⟩;intro a;simp only[a,if_true] at h;cases h
theorem Ek {w:A2} {bp bf n c:Nat} {ds:List DT} {rest:List Ag} (m:bL w bp [.slice (ae bf) n c]) (o:bL w bf (flat eD ds++rest)) (p:n=ds.length) (q:n<=4096) (v:Int):
 aD AC 30 (.el (.one (.int .i64))) [ag (ae bp),aa v] w (λx w'=>x=(cj ds v:Int)/\Ext w w'):=by
 subst p;refine aP (C:=E0) (aQ:=ud) (Aq (Ru _ v w _) ?_);have H:=At.start [] w;refine aM.go H λb w1 H=>aA.all 0 H rfl rfl rfl λA H=>td H _ v λpc ic kc B H=>?_;refine zS.go H (Ei (v:=v) (pc:=pc) (ic:=ic) (kc:=kc) (bp:=bp) (bf:=bf) (c:=c) (rest:=rest) q)
  (λi=>[(ic,[.func (.func 105) #[] #[ag (ae kc)]]),(pc,[ag (ae bp)]),(kc,[aa v]),(b,[aa (cj (ds.take i) v:Nat)])])
  (λ_ _=>False) rfl ?_ ?_ ?_ ?_ ?_ ?_
 ·exact λD i w' H=>⟨H.get (i:=1) rfl,H.get (i:=0) rfl,H.get (i:=2) rfl,H.fI m (by simp),H.fI o (by simp)⟩
 ·intro i hi a;obtain⟨d,f,g⟩:=Cv hi a;simp only[Ej f,au g,H7]
 ·intro i x hi a;obtain⟨d,f,g,rfl⟩:=pT a;exact⟨((i:Nat),()),rfl⟩
 ·intro i x hi a r l rec k R h h1 _;obtain⟨d,f,g,E⟩:=pT a;refine Dd.go h rfl (BN.go h λwb H s=>aj.at 3 H rfl rfl (aA.all 3 H rfl rfl rfl λt H=>sj.next s H λu y=>h1 u ?_));have F:cj (ds.take i) v<=4096:=F2 List.countP_le_length (by rw[Fi];omega);have e:aI .i64 ((cj (ds.take i) v:Nat):Int) 1=((cj (ds.take (i+1)) v:Nat):Int):=by
   rw[Ej f,ay g,aw (by omega) (by omega)];rfl
  rw[<-e];exact y
 ·intro r rec k h;refine du.none h λt H=>aj.at 3 H rfl rfl (sk.go H λG H=>?_);exact⟨by rw[J7],H.all⟩
 ·exact λj L' r rec k z _=>z.elim
theorem Em {ds:List DT} {v:Int} {i:Nat} {d:DT} (h:ds[i]? =some d):gA (ds.take (i+1)) v=gA (ds.take i) v++(if d.2.1=v then[i] else[]):=by
 have hi:i<ds.length:=(B5.1 h).1;unfold gA;rw[Fi,Fi,JR (by omega),JR (by omega),GD,If];congr 1
 ·apply List.filter_congr;intro j a;have b:j<i:=by simpa using a
  rw[H4 (by omega),H4 b]
 ·simp only[GF,List.filter_nil,H4 (Nat.lt_succ_self i),h,beq_iff_eq]
theorem Ry {w:A2} {bp bf n c:Nat} {ds:List DT} {rest:List Ag} (y:bL w bp [.slice (ae bf) n c]) (z:bL w bf (flat eD ds++rest)) (A:n=ds.length) (B:n<=4096) (v:Int):
 aD AC 166 (.el (.one .slice)) [ag (ae bp),aa v] w (λr w'=>lM w w' eI r ((gA ds v).map λi=>((i:Nat):Int))/\Ext w w'):=by
 subst A;refine aP (C:=E0) (aQ:=uf) (Aq (Rv _ v w _) ?_);have H:=At.start [] w;refine aM.go H λkc w1 H=>aM.go H λb W H=>Vj H _ _ λpc ic X H=>?_
 let a:Nat->List Int:=λi=>(gA (ds.take i) v).map λi=>((i:Nat):Int)
 have D: ∀i,(a i).length<=4096:=λi=>by
  simp only[a,GH];refine F2 (Ik _ _) ?_;simp only[List.length_range,Fi];omega
 let g:Option AI×Nat×Nat->List (Nat×List Ag):=λs=>[(ic,[.func (.func 207) #[] #[ag (ae kc)]]),(pc,[ag (ae bp)]),(b,[.slice s.1 s.2.1 s.2.2]),(kc,[aa v])]
 let Inv:Nat->List (Nat×List Ag)->Prop:=λi L'=> ∃s Ls,L'=Ls++g s/\((s=(none,0,0)/\a i=[]/\Ls=[])\/ ∃bs cs rs,s=(some ⟨bs,0,none⟩,(a i).length,cs)/\Ls=[(bs,flat eI (a i)++rs)]/\(flat eI (a i)++rs).length=cs*aE eI/\(a i).length<=cs)
 refine zS.inv H (Rw (v:=v) (pc:=pc) (ic:=ic) (kc:=kc) (bp:=bp) (bf:=bf) (c:=c) (rest:=rest) B) Inv
  (λ_ _=>False) ⟨(none,0,0),[],rfl,.inl ⟨rfl,rfl,rfl⟩⟩ ?_ ?_ ?_ ?_ ?_ ?_
 ·rintro Y i w' L' ⟨s,Ls,rfl, _⟩ H;have H:=H.sub (List.sublist_append_right Ls (g s));exact⟨H.get (i:=1) rfl,H.get (i:=0) rfl,H.get (i:=3) rfl,H.fI y (by simp),H.fI z (by simp)⟩
 ·rintro i L' hi k ⟨s,Ls,rfl,f⟩;obtain⟨d,m,E⟩:=Cv (NV:=λd=>d.2.1) hi k;have e:a (i+1)=a i:=by simp only[a,Em m,au E,DB]
  exact⟨s,Ls,rfl,by rw[e];exact f⟩
 ·intro i x hi k;obtain⟨d,m,f,rfl⟩:=pT (NV:=λd=>d.2.1) k;exact⟨((i:Nat),()),rfl⟩
 ·rintro i x L' hi k ⟨s,Ls,rfl,f⟩ r l rec p R o h1 _;obtain⟨d,m,F,G⟩:=pT (NV:=λd=>d.2.1) k;have q:x.1=((i:Nat):Int):=by
   have h:[aa x.1]=[aa (i:Nat)]:=G;simpa using h
  obtain⟨x1,u⟩:=x;simp only at q;subst q;have e:a (i+1)=a i++[((i:Nat):Int)]:=by simp only[a,Em m,ay F,G1,List.map_cons,List.map_nil]
  have Z:=D i;have t:(a (i+1)).length=(a i).length+1:=by rw[e];simp
  refine Dd.go o rfl (BN.go o λwb H I=>aj.of s ?_ (aM.go H λb2 J H=>λK L=>?_))
  ·exact(H.db (b,[.slice s.1 s.2.1 s.2.2]) (CW _ (by simp[g]))).om rfl
  ·refine aK.grow (e:=eI) (x:=((i:Nat):Int)) (Ls:=Ls) (L0:=g s) (H.ext L) f rfl rfl rfl (by omega) λbs cs rs w7 M N H=>?_;refine aA.all 3 H rfl rfl rfl λw8 H=>sj.next I H λO P=>h1 _ O ⟨(some ⟨bs,0,none⟩,(a i).length+1,cs),[(bs,flat eI (a (i+1))++rs)],rfl,.inr ⟨bs,cs,rs,by rw[t],rfl,by rw[e];exact M,by rw[t];exact N⟩⟩ ?_
   rw[e];exact P
 ·rintro L' r rec p ⟨s,Ls,rfl,f⟩ o;refine du.none o λJ H=>aj.of s ?_ (sk.go H λK H=>?_)
  ·exact(H.db (b,[.slice s.1 s.2.1 s.2.2]) (CW _ (by simp[g]))).om rfl
  ·refine⟨?_,H.all⟩;have Q:a ds.length=(gA ds v).map λi=>((i:Nat):Int):=by simp only[a,J7]
   rw[<-Q];rcases f with ⟨rfl,S,rfl⟩|⟨bs,cs,rs,rfl,rfl,T,U⟩
   ·rw[S];exact lM.nil _ _ _
   ·refine⟨rfl,U,.inr ⟨bs, _,rfl,(H.own _ (Do _ (List.mem_singleton.2 rfl))).resolve_right (by simp),H.get (i:=0) rfl,T,?_⟩⟩;rw[Fw (by rw[aF];exact Dg _),FR (by rw[aF];exact Dg _)]
 ·exact λj L' r rec p V _=>V.elim
def iC (ds:List DT):Option Nat:=ds.findIdx? λd=>d.1==0
def e_ (ds:List DT) (k o:Int):Int:=match iC ds with
 |none=>0
 |some f=>if vn ds f (aO k o)=0 then(f:Int) else 0
def dO (ds:List DT) (k o:Int):Int:=if ds.length=0 then 10 else match iC ds with
 |none=>12
 |some f=>vn ds f (aO k o)
def dy (ds:List DT) (k o:Int):List DT:=match iC ds with
 |none=>ds
 |some f=>dF ds f (aO k o)
theorem u7 (ds:List DT) (k o:Int):(dy ds k o).length=ds.length:=by
 unfold dy;split
 ·rfl
 ·exact im _ _ _
theorem LD {ds:List DT} (h: ∀(j:Nat) d,ds[j]? =some d->d.1≠0):iC ds=none:=by
 unfold iC;rw[List.findIdx?_eq_none_iff];intro d a;obtain⟨j,b⟩:=Fg a;simpa using h j d b
theorem LF {ds:List DT} {i:Nat} {d:DT} (hi:ds[i]? =some d) (a:d.1=0) (h: ∀(j:Nat) d,j<i->ds[j]? =some d->d.1≠0):iC ds=some i:=by
 unfold iC;have b:i<ds.length:=(B5.1 hi).1;rw[List.findIdx?_eq_some_iff_getElem];refine⟨b,?_,λj c=>?_⟩
 ·have e:ds[i]=d:=(B5.1 hi).2;rw[e];simpa using a
 ·have:=h j ds[j] c (B3 (by omega));simpa using this
theorem Vp {w:A2} {bp bf n c:Nat} {ds:List DT} {rest:List Ag} (A:bL w bp [.slice (ae bf) n c]) (N:bL w bf (flat eD ds++rest)) (J:bp≠bf) (O:n=ds.length) (K:n<=4096) (k o:Int):
 aD AC 172 (.bu [.one (.int .i64),.one (.int .i64)]) [ag (ae bp),aa k,aa o] w
  (λv w'=>v=(e_ ds k o,dO ds k o,())/\bL w' bf (flat eD (dy ds k o)++rest)/\Fr [bf] w w'):=by
 subst O;refine aP (C:=E0) (aQ:=v7) (Aq (Vi _ k o w _) ?_);have H:=At.rJ N;have B:bp∉[bf]:=by simpa using J
 refine aM.go H λb w1 H=>aM.go H λP Y H=>aM.go H λQ Z H=>aM.go H λS w4 H=>aM.go H λU w5 H=>aj.at 4 H rfl rfl ?_;refine⟨(ds.length:Int),af.of (s:= .el (.one (.int .i64))) λw' h=>rM ((H.fI A B).ext h),ab (λc0=>?_) (λc0=>aj.at 4 H rfl rfl ?_)⟩
 ·have h0:ds.length=0:=by simp only[beq_iff_eq] at c0;omega
  have a:ds=[]:=List.eq_nil_of_length_eq_zero h0;refine aA.all 1 H rfl rfl rfl λV H=>aA.all 0 H rfl rfl rfl λD H=>ao.go H λq H=>aj.at 1 H rfl rfl (aj.at 0 H rfl rfl ⟨?_,?_,H.fr⟩)
  ·subst a;rfl
  ·subst a;exact H.get (i:=5) rfl
 have h0:ds.length≠0:=by simp only[beq_eq_false_iff_ne,ne_eq] at c0;omega
 refine td H _ 0 λpc ic kc V H=>?_
 let T:Int->Int->List DT->List (Nat×List Ag):=λx y l=>[(ic,[.func (.func 105) #[] #[ag (ae kc)]]),(pc,[ag (ae bp)]),(kc,[aa 0]),(U,[aa y]),(S,[aa x]),(Q,[aa o]),(P,[aa k]),(b,[ag (ae bp)]),(bf,flat eD l++rest)]
 refine zS.inv H (Ei (v:=0) (pc:=pc) (ic:=ic) (kc:=kc) (bp:=bp) (bf:=bf) (c:=c) (rest:=rest) K)
  (λi L'=>L'=T 0 0 ds/\ ∀(j:Nat) d,j<i->ds[j]? =some d->d.1≠0)
  (λj L'=>j= .ret/\ ∃i:Nat,iC ds=some i/\L'=T (if vn ds i (aO k o)=0 then(i:Int) else 0) (vn ds i (aO k o)) (dF ds i (aO k o))) ⟨rfl,λj d g=>absurd g (by omega)⟩ ?_ ?_ ?_ ?_ ?_ ?_
 ·rintro D' i w' L' ⟨rfl, _⟩ H;exact⟨H.get (i:=1) rfl,H.get (i:=0) rfl,H.get (i:=2) rfl,H.fI A B,H.get (i:=8) rfl⟩
 ·rintro i L' hi p ⟨rfl,g⟩;obtain⟨d,a,t⟩:=Cv (NV:=λd=>d.1) hi p;refine⟨rfl,λj d' zX E=>?_⟩;by_cases e:j=i
  ·subst e;rw[a] at E;cases E;exact t
  ·exact g j d' (by omega) E
 ·intro i x hi p;obtain⟨d,a,t,rfl⟩:=pT (NV:=λd=>d.1) p;exact⟨((i:Nat),()),rfl⟩
 ·rintro i ⟨x1,u⟩ L' hi p ⟨rfl,g⟩ r l rec D R m _ L;obtain⟨d,a,t,W⟩:=pT (NV:=λd=>d.1) p;have X:x1=((i:Nat):Int):=by
   have h:[aa x1]=[aa (i:Nat)]:=W;simpa using h
  subst X;have f:=LF a t g;refine Dd.go m rfl (BN.go m λwb H F=>aj.at 7 H rfl rfl (aj.at 6 H rfl rfl (aj.at 5 H rfl rfl ?_)));refine az.Dt H 8 rfl (λq H=>Ct (F.2.1.dn H A B) (H.get (i:=8) rfl) J K _ k o) λq H=>ab (λc=>?_) (λc=>?_)
  ·have hc: ¬ vn ds (i:Nat) (aO k o)=0:=by simpa using c
   refine aA.all 4 H rfl rfl rfl λG H=>aA.all 3 H rfl rfl rfl λM H=>sj.left F H λz I=>L _ _ z ⟨rfl,i,f,?_⟩ I;rw[au hc];rfl
  ·have hc:vn ds (i:Nat) (aO k o)=0:=by simpa using c
   refine aA.all 4 H rfl rfl rfl λG H=>aA.all 3 H rfl rfl rfl λM H=>sj.left F H λz I=>L _ _ z ⟨rfl,i,f,?_⟩ I;rw[ay hc,hc];rfl
 ·rintro L' r rec D ⟨rfl,g⟩ m;have f:iC ds=none:=LD λj d a=>g j d (B5.1 a).1 a;refine du.none m λq H=>aA.all 4 H rfl rfl rfl λG H=>aA.all 3 H rfl rfl rfl λM H=>sk.go H λz H=>aj.at 4 H rfl rfl (aj.at 3 H rfl rfl ⟨?_,?_,H.fr⟩)
  ·unfold e_ dO;rw[f,au h0]
  ·have:dy ds k o=ds:=by unfold dy;rw[f]
   rw[this];exact H.get (i:=8) rfl
 ·rintro j L' r rec D ⟨rfl,i,f,rfl⟩ m;refine du.ret m λq H=>sk.go H λG H=>aj.at 4 H rfl rfl (aj.at 3 H rfl rfl ⟨?_,?_,H.fr⟩)
  ·unfold e_ dO;rw[f,au h0]
  ·have:dy ds k o=dF ds i (aO k o):=by unfold dy;rw[f]
   rw[this];exact H.get (i:=8) rfl
end Go.Proofs.YtlcenllcmeebhaaGreat.D
