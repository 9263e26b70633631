import Derived.Test.YtlcenllcmeebhaaGreatPCB
/-! What the statement leans on: texts joined and shortened by a program of mine. -/
set_option linter.unusedVariables false
set_option linter.unusedSimpArgs false
open Go renaming World->A2,Addr->AC,Value->AR,MapEntry->Ax,TypeId->BN
open Go.Proofs.Tryz renaming prog->AB
open Eq renaming mpr->Ab
open List renaming sublist_cons_self->Az,getElem?_eq_getElem->B2,getElem?_eq_some_iff->B3,getD_eq_getElem?_getD->B4,replicate->B9,set_set->BT,mem_append_right->Bs,mem_cons_of_mem->Bx,append_nil->C6,mem_map->C8,range->Ca,mem_cons_self->DA,getElem?_set_self->DJ,append_assoc->DM,mem_append_left->DU,length_cons->DY,length_nil->Db,sublist_append_left->Dc,getElem?_set_ne->Dj,ext_getElem?->Dl,length_append->Dt,take_of_length_le->Dy,mem_cons->E4,mem_of_getElem?->E5,getElem?_of_mem->F5,length_take->FC,getElem_mem->FV,perm_append_comm->FW,take_append_of_le_length->FX,take_append_drop->FY,map_append->Fo,range_succ->Ft,filter_cons->Fw,mem_range->Fy,length_map->G1,getElem?_append_right->GS,length_set->Ga,set_append_left->Gd,drop_eq_nil_of_le->Gi,drop_drop->H4,getElem?_take_of_lt->H5,getElem?_append_left->If,nodup_cons->Ij,mem_append->Ik,filter_append->In,mem_filter->Ix,length_filter_le->J3,find?_range_eq_some->J4,take_add_one->J8,getElem?_map->JJ,getElem?_eq_none->JL,cons_append->JN,take_length->JP
open And renaming intro->B1
open Go.IntKind renaming i64->B5
open Nat renaming zero_add->B_,le_refl->DB,le_trans->Dn,zero_le->FG,add_mul->FS,zero_mul->H6,blt_eq->H7,add_zero->HB,eq_of_beq_eq_true->HZ,ne_of_beq_eq_false->Hb,min_eq_left->JQ
open Go.Instr renaming findNow->DG,sameNow->JV
open Bool renaming or_eq_true->Dd,and_eq_true->Df,or_eq_false_iff->Do,not_eq_true'->Ds,and_eq_false_iff->Hr,false_eq_true->I1,true_eq_false->I2,not_eq_false'->IR,eq_iff_iff->JW
namespace Go.Proofs.YtlcenllcmeebhaaGreat
set_option maxRecDepth 100000
open Go.RX
def tookS (fr pg wt lv:Int) (fd:FT) (ep:Bool) (er:Int) (el:Bool) (ef:Int):Int×Int×FT:=
 if(!ep)=true then(fr,-1,wX lv 4)
 else if(fM ep er el ef&&decide (lv>0))=true then(ef,aZ .i64 lv 1,fd)
 else if(el&&lv==1)=true then(fr,-1,uI lv wt (aI .i64 ef (fb pg 16)) ep er el ef)
 else if(!el&&decide (er>0)&&lv==0)=true then(fr,-1,uI lv wt ef ep er el ef)
 else(fr,-1,wX lv 11)
section
variable {D G:List Nat} {w0 w:A2} {L:List (Nat×List AR)} {bk bp be:Nat} {fr pg wt lv:Int} {fd:FT} {s:Option AC×Nat×Nat} {ep:Bool} {er:Int} {el:Bool} {ef:Int}
theorem Qy (H:aK D G w0 w L) (a j:Nat) (c:L[a]? =some (bp,[ag (ae bk)])) (d:L[j]? =some (bk,jM fr pg wt lv fd s)) {K:Unit->A2->Prop}
 (k: ∀b,aK D G w0 b (L.set j (bk,jM fr pg wt (-1) (wX lv 4) s))->K () b):aE AB 95 (.bG []) [ag (ae bp)] w K:=by
 refine ai (C:=M1) (aS:=λ_=>[]) (Ab (Qr _ w K) ?_);exact aj.at a H c rfl (qb H j d 0 0 0 4 λf H=>au.go H λe H=>k e H)
theorem Qz (H:aK D G w0 w L) (a j:Nat) (c:L[a]? =some (bp,[ag (ae bk)])) (d:L[j]? =some (bk,jM fr pg wt lv fd s)) {K:Unit->A2->Prop}
 (k: ∀b,aK D G w0 b (L.set j (bk,jM fr pg wt (-1) (wX lv 11) s))->K () b):aE AB 102 (.bG []) [ag (ae bp)] w K:=by
 refine ai (C:=M1) (aS:=λ_=>[]) (Ab (Qv _ w K) ?_);exact aj.at a H c rfl (qb H j d 0 0 0 11 λf H=>au.go H λe H=>k e H)
theorem QA (H:aK D G w0 w L) (e a j:Nat) (f:L[e]? =some (be,[.bool ep,aa er,.bool el,aa ef])) (b:L[a]? =some (bp,[ag (ae bk)])) (c:L[j]? =some (bk,jM fr pg wt lv fd s)) (g:j≠a) {K:Unit->A2->Prop}
 (k: ∀d,aK D G w0 d (L.set j (bk,jM ef pg wt (aZ .i64 lv 1) fd s))->K () d):aE AB 97 (.bG []) [ag (ae be),ag (ae bp)] w K:=by
 refine ai (C:=M1) (aS:=λ_=>[]) (Ab (Qs _ _ w K) ?_);have h:j<L.length:=(B3.1 c).1;refine aj.at a H b rfl (aj.at a H b rfl ⟨rfl,aj.cq e H f rfl (aj.at a H b rfl ⟨rfl,rfl,aj.cq j H c rfl ⟨rfl,rfl,?_⟩⟩)⟩);refine az.fK j H c rfl rfl λd H=>⟨trivial,?_,rfl,rfl,?_⟩
 ·exact dV (H.get (i:=a) (by rw[Dj g];exact b)) rfl
 ·refine az.fK j H (DJ h) rfl rfl λm H=>au.go H λl H=>k l ?_;rw[BT] at H;exact H
theorem QB (H:aK D G w0 w L) (a b j:Nat) (c:L[a]? =some (be,[.bool ep,aa er,.bool el,aa ef])) (d:L[b]? =some (bp,[ag (ae bk)])) (e:L[j]? =some (bk,jM fr pg wt lv fd s)) {K:Unit->A2->Prop}
 (k: ∀f,aK D G w0 f (L.set j (bk,jM fr pg wt (-1) (uI lv wt (aI .i64 ef (fb pg 16)) ep er el ef) s))->K () f):aE AB 98 (.bG []) [ag (ae bp),ag (ae be)] w K:=by
 refine ai (C:=M1) (aS:=λ_=>[]) (Ab (Qt _ _ w K) ?_);have g:gL 1=16:=rfl;rw[g];refine aj.at b H d rfl ⟨rfl,aj.cq a H c rfl (aj.at b H d rfl ⟨rfl,rfl,aj.cq j H e rfl ⟨trivial,by decide,aj.at a H c rfl ?_⟩⟩)⟩;exact OV H j e _ ep er el ef λi H=>au.go H λh H=>k h H
theorem QC (H:aK D G w0 w L) (a b j:Nat) (c:L[a]? =some (be,[.bool ep,aa er,.bool el,aa ef])) (e:L[b]? =some (bp,[ag (ae bk)])) (f:L[j]? =some (bk,jM fr pg wt lv fd s)) {K:Unit->A2->Prop}
 (k: ∀d,aK D G w0 d (L.set j (bk,jM fr pg wt (-1) (uI lv wt ef ep er el ef) s))->K () d):aE AB 101 (.bG []) [ag (ae bp),ag (ae be)] w K:=by
 refine ai (C:=M1) (aS:=λ_=>[]) (Ab (Qu _ _ w K) ?_);refine aj.at b H e rfl ⟨rfl,aj.cq a H c rfl (aj.at a H c rfl ?_)⟩;exact OV H j f _ ep er el ef λh H=>au.go H λg H=>k g H
theorem UI (H:aK D G w0 w L) (j:Nat) (o:L[j]? =some (bk,jM fr pg wt lv fd s)) (ep:Bool) (er:Int) (el:Bool) (ef:Int) {K:Unit->A2->Prop}
 (k: ∀E,aK D G w0 E (L.set j (bk,jM (tookS fr pg wt lv fd ep er el ef).1 pg wt (tookS fr pg wt lv fd ep er el ef).2.1 (tookS fr pg wt lv fd ep er el ef).2.2 s))->K () E):
 aB AB 61 (.bG []) [ag (ae bk),.agg ⟨[.bool ep,aa er,.bool el,aa ef]⟩] w K:=by
 refine aB.go H λw1 H=>ai (C:=M3) (aS:=v9) (Ab (UF _ ep er el ef w1 K) ?_);refine aL.go H λbp E H=>aL.go H λbe V H=>⟨rfl,aj.cq 0 H rfl rfl (aj.at 0 H rfl rfl ⟨trivial,aj.at 1 H rfl rfl ⟨λ_=>rfl,λ_=>rfl,aj.cq (j+2) H o rfl ⟨rfl,aj.cq 0 H rfl rfl (aj.at 1 H rfl rfl ⟨λ_=>rfl,λ_=>rfl,aj.cq (j+2) H o rfl ⟨rfl,aj.cq 0 H rfl rfl ⟨λ_=>rfl,aj.cq 0 H rfl rfl (aj.at 1 H rfl rfl ⟨λ_=>rfl,λ_=>rfl,aj.cq (j+2) H o rfl ?_⟩)⟩⟩⟩)⟩⟩⟩)⟩;refine aL.go H λbs W H=>?_;dsimp only at H ⊢;generalize J:(!ep)=c0 at H;generalize M:(fM ep er el ef&&decide (lv>0))=c1 at H;generalize N:(el&&lv==1)=c2 at H;generalize O:(!el&&decide (er>0)&&lv==0)=c3 at H;have g:tookS fr pg wt lv fd ep er el ef=if c0=true then(fr,-1,wX lv 4) else if c1=true then(ef,aZ .i64 lv 1,fd) else if c2=true then(fr,-1,uI lv wt (aI .i64 ef (fb pg 16)) ep er el ef) else if c3=true then(fr,-1,uI lv wt ef ep er el ef) else(fr,-1,wX lv 11):=by
  unfold tookS;rw[J,M,N,O]
 clear J M N O;refine⟨λn s' w'=> ∃i:Nat,s'.1=i/\n+i=5/\((0<i->c0=false)/\(1<i->c1=false)/\(2<i->c2=false)/\(3<i->c3=false)/\i<5)/\aK D G w0 w' ((bs,[.bool c0,.func (.func 95) ⟨[]⟩ ⟨[ag (ae bp)]⟩,.bool c1,.func (.func 97) ⟨[]⟩ ⟨[ag (ae be),ag (ae bp)]⟩,
  .bool c2,.func (.func 98) ⟨[]⟩ ⟨[ag (ae bp),ag (ae be)]⟩,.bool c3,.func (.func 101) ⟨[]⟩ ⟨[ag (ae bp),ag (ae be)]⟩,.bool true,.func (.func 102) ⟨[]⟩ ⟨[ag (ae bp)]⟩])::(be,[.bool ep,aa er,.bool el,aa ef])::(bp,[ag (ae bk)])::L),
  ⟨5,λS T=>⟨0,rfl,rfl,⟨λh=>absurd h (by decide),λh=>absurd h (by decide),λh=>absurd h (by decide),λh=>absurd h (by decide),by decide⟩,H.ext T⟩⟩,?_⟩
 clear H;rintro n ⟨X,u⟩ S ⟨i,hi,Y,⟨b,l,F,U,Z⟩,H⟩;simp only at hi;subst hi;dsimp only;have m: ∀{x y z q:Nat×List AR},(x::y::z::q::L)[j+4]? =some (bk,jM fr pg wt lv fd s):=o;have fin: ∀{x y z q:Nat×List AR} {d:A2} {P Q:Int} {R:FT},tookS fr pg wt lv fd ep er el ef=(P,Q,R)->aK D G w0 d (x::y::z::q::L.set j (bk,jM P pg wt Q R s))->K () d:=λe H=>by
  rw[e] at k;exact k _ ((((H.sub (Az _ _)).sub (Az _ _)).sub (Az _ _)).sub (Az _ _))
 have p:aI .i64 (i:Int) 1=((i+1:Nat):Int):=by rw[av (by omega) (by omega)];rfl
 rcases(by omega:i=0\/i=1\/i=2\/i=3\/i=4) with rfl|rfl|rfl|rfl|rfl
 ·refine aD rfl ⟨⟨rfl,by decide,by decide⟩,aj.cq 0 H rfl rfl (aL.go H λr t H=>az.all 0 H rfl rfl rfl λv H=>⟨rfl,aj.cq 0 H rfl rfl (ab (λc=>⟨rfl,aj.cq 0 H rfl rfl ?_⟩) (λc I f=>⟨n - 1,by omega,1,p,by omega,⟨λ_=>c,λh=>absurd h (by decide),λh=>absurd h (by decide),λh=>absurd h (by decide),by decide⟩,(H.sub (Az _ _)).ext f⟩))⟩)⟩;unfold zX;refine λd a=>⟨_,⟨[]⟩,⟨[ag (ae bp)]⟩,rfl,by kernel_rfl,Qy (H.ext a) 3 (j+4) rfl m λA H=>au.go H λB H=>fin ?_ H⟩;rw[g,ax c]
 ·refine aD rfl ⟨⟨rfl,by decide,by decide⟩,aj.cq 0 H rfl rfl (aL.go H λr t H=>az.all 0 H rfl rfl rfl λv H=>⟨rfl,aj.cq 0 H rfl rfl (ab (λc=>⟨rfl,aj.cq 0 H rfl rfl ?_⟩) (λc I f=>⟨n - 1,by omega,2,p,by omega,⟨λ_=>b (by decide),λ_=>c,λh=>absurd h (by decide),λh=>absurd h (by decide),by decide⟩,(H.sub (Az _ _)).ext f⟩))⟩)⟩;unfold zX;refine λd a=>⟨_,⟨[]⟩,⟨[ag (ae be),ag (ae bp)]⟩,rfl,by kernel_rfl,QA (H.ext a) 2 3 (j+4) rfl rfl m (by omega) λA H=>au.go H λB H=>fin ?_ H⟩;rw[g,ao (by rw[b (by decide)];decide),ax c]
 ·refine aD rfl ⟨⟨rfl,by decide,by decide⟩,aj.cq 0 H rfl rfl (aL.go H λr t H=>az.all 0 H rfl rfl rfl λv H=>⟨rfl,aj.cq 0 H rfl rfl (ab (λc=>⟨rfl,aj.cq 0 H rfl rfl ?_⟩) (λc I f=>⟨n - 1,by omega,3,p,by omega,⟨λ_=>b (by decide),λ_=>l (by decide),λ_=>c,λh=>absurd h (by decide),by decide⟩,(H.sub (Az _ _)).ext f⟩))⟩)⟩;unfold zX;refine λd a=>⟨_,⟨[]⟩,⟨[ag (ae bp),ag (ae be)]⟩,rfl,by kernel_rfl,QB (H.ext a) 2 3 (j+4) rfl rfl m λA H=>au.go H λB H=>fin ?_ H⟩;rw[g,ao (by rw[b (by decide)];decide),ao (by rw[l (by decide)];decide),ax c]
 ·refine aD rfl ⟨⟨rfl,by decide,by decide⟩,aj.cq 0 H rfl rfl (aL.go H λr t H=>az.all 0 H rfl rfl rfl λv H=>⟨rfl,aj.cq 0 H rfl rfl (ab (λc=>⟨rfl,aj.cq 0 H rfl rfl ?_⟩) (λc I f=>⟨n - 1,by omega,4,p,by omega,⟨λ_=>b (by decide),λ_=>l (by decide),λ_=>F (by decide),λ_=>c,by decide⟩,(H.sub (Az _ _)).ext f⟩))⟩)⟩;unfold zX;refine λd a=>⟨_,⟨[]⟩,⟨[ag (ae bp),ag (ae be)]⟩,rfl,by kernel_rfl,QC (H.ext a) 2 3 (j+4) rfl rfl m λA H=>au.go H λB H=>fin ?_ H⟩;rw[g,ao (by rw[b (by decide)];decide),ao (by rw[l (by decide)];decide),ao (by rw[F (by decide)];decide),ax c]
 ·refine aD rfl ⟨⟨rfl,by decide,by decide⟩,aj.cq 0 H rfl rfl (aL.go H λr t H=>az.all 0 H rfl rfl rfl λv H=>⟨rfl,aj.cq 0 H rfl rfl (aD rfl ⟨rfl,aj.cq 0 H rfl rfl ?_⟩)⟩)⟩;unfold zX;refine λd a=>⟨_,⟨[]⟩,⟨[ag (ae bp)]⟩,rfl,by kernel_rfl,Qz (H.ext a) 3 (j+4) rfl m λA H=>au.go H λB H=>fin ?_ H⟩;rw[g,ao (by rw[b (by decide)];decide),ao (by rw[l (by decide)];decide),ao (by rw[F (by decide)];decide),ao (by rw[U (by decide)];decide)]
end
def xm (Ls:List (Nat×List AR)) (s:Option AC×Nat×Nat) (xs:List Int):Prop:=
 (s=(none,0,0)/\xs=[]/\Ls=[])\/ ∃bs c rest,s=(some ⟨bs,0,none⟩,xs.length,c)/\Ls=[(bs,flat eI xs++rest)]/\(flat eI xs++rest).length=c*aF eI/\xs.length<=c
def okW (ws:List Int):Prop:= ∀x∈ws,0<=x/\x<18446744073709551616
def bj (ws:List Int) (pg wt:Int) (x:Int×Int×FT):Int×Int×FT:=
 if x.2.1= -1 then x
 else if(!ux (B (dL ws (dW x.1 pg x.2.1))).toNat||Aa ws (dW x.1 pg x.2.1) != 0)=true then(x.1,-1,wX x.2.1 11)
 else tookS x.1 pg wt x.2.1 x.2.2 (HV (B (dL ws (dW x.1 pg x.2.1))).toNat) (FF (B (dL ws (dW x.1 pg x.2.1))).toNat) (JS (B (dL ws (dW x.1 pg x.2.1))).toNat) (Fq (B (dL ws (dW x.1 pg x.2.1))).toNat)
theorem Gg {ws:List Int} (h:okW ws) (i:Int):0<=dL ws i/\dL ws i<18446744073709551616:=by
 unfold dL;split
 ·rename_i hi;rw[jc] at hi;rw[B4,B2 (by omega)];exact h _ (FV _)
 ·exact⟨by decide,by decide⟩
section
variable {D G:List Nat} {w0 w:A2} {L L0 Ls:List (Nat×List AR)} {bk bm bw n c:Nat} {ca la fr pg wt lv:Int} {fd:FT} {s:Option AC×Nat×Nat} {ws xs:List Int} {rest:List AR}
theorem QD (hb:bN w bk (jM fr pg wt lv fd s)) (a:lv≠ -1):aE AB 58 (.el (.agg sA)) [ag (ae bk)] w (λx w'=>x=(1,dW fr pg lv,0,0,())/\Ext w w'):=by
 refine aR (C:=M1) (aS:=λ_=>[]) (Ab (Qq _ w _) ?_);have H:=At.start [] w;refine aL.go H λb c H=>⟨λ_=>rfl,λ_=>rfl,aj.k8 H hb (by simp) rfl ⟨λ_=>rfl,λ_=>rfl,aj.k8 H hb (by simp) rfl (an (by simp[a]) ?_)⟩⟩;refine⟨rfl,rfl,aj.k8 H hb (by simp) rfl ⟨rfl,rfl,aj.k8 H hb (by simp) rfl ⟨rfl,rfl,aj.k8 H hb (by simp) rfl ⟨trivial,az.all 0 H rfl rfl rfl λd H=>au.go H λe H=>aj.at 0 H rfl rfl ⟨rfl,H.all⟩⟩⟩⟩⟩
theorem G4 (H:aK D G w0 w L) (j:Nat) (b:L[j]? =some (bk,jM fr pg wt (-1) fd s)) (m:Option AC) {K:Bool->A2->Prop} (k: ∀a,aK D G w0 a L->K true a):
 aB AB 22 (.el (.one .bool)) [ag (ae bk),ag m] w K:=by
 refine aB.go H λw1 H=>ai (C:=M1) (aS:=λ_=>[]) (Ab (Eh _ m w1 K) ?_);exact⟨λ_=>rfl,λ_=>rfl,aj.cq j H b rfl (an rfl ⟨rfl,rfl,aj.cq j H b rfl (aD rfl (au.go H λa H=>k a H))⟩)⟩
theorem y6 (H:At G w0 w ((bk,jM fr pg wt lv fd s)::(bm,kY bw n c ca la)::(bw,flat eW ws++rest)::(Ls++L0))) (r:xm Ls s xs) (L:xs.length<=1000) (t:n=ws.length) (h0:0<n) (u:okW ws) (d:lv≠ -1) {K:Bool->A2->Prop}
 (k: ∀e g s',xm g s' (xs++[fr])->At G w0 e ((bk,jM (bj ws pg wt (fr,lv,fd)).1 pg wt (bj ws pg wt (fr,lv,fd)).2.1 (bj ws pg wt (fr,lv,fd)).2.2 s')::(bm,kY bw n c (vu ws (dW fr pg lv) ca) la)::(bw,flat eW ws++rest)::(g++L0))->K ((bj ws pg wt (fr,lv,fd)).2.1== -1) e):
 aB AB 22 (.el (.one .bool)) [ag (ae bk),ag (ae bm)] w K:=by
 refine aB.go H λw1 H=>ai (C:=M1) (aS:=λ_=>[]) (Ab (Eh _ _ w1 K) ?_);refine⟨λ_=>rfl,λ_=>rfl,aj.cq 0 H rfl rfl (an rfl ⟨rfl,rfl,aj.cq 0 H rfl rfl (an (by simp[d]) ?_)⟩)⟩;refine⟨(1,dW fr pg lv,0,0,()),af.of (s:= .el (.agg sA)) λw' h'=>QD ((H.get (i:=0) rfl).ext h') d,?_⟩;refine aa1 H rfl 1 2 rfl rfl (by decide) t h0 (dW fr pg lv) 0 0 λe H=>?_;refine aL.go H λb M H=>az.all 0 H rfl rfl rfl λN H=>⟨rfl,rfl,aj.cq 1 H rfl rfl ⟨rfl,rfl,aj.cq 1 H rfl rfl (aL.go H λh O H=>λz A=>?_)⟩⟩;have H:=H.ext A;dsimp only at H ⊢;generalize hv:dL ws (dW fr pg lv)=v at H ⊢;generalize D:Aa ws (dW fr pg lv)=er at H ⊢;have j:0<=v/\v<18446744073709551616:=by rw[<-hv];exact Gg u _
 have H:At G w0 z ([(h,cellsOf eI fr)]++([(b,[ay v,.bool false,aa er]),(bk,jM fr pg wt lv fd s),(bm,kY bw n c (vu ws (dW fr pg lv) ca) la),(bw,flat eW ws++rest)]++(Ls++L0))):=H;have H:=H.perm (L':=(h,cellsOf eI fr)::(Ls++([(b,[ay v,.bool false,aa er]),(bk,jM fr pg wt lv fd s),(bm,kY bw n c (vu ws (dW fr pg lv) ca) la),(bw,flat eW ws++rest)]++L0))) (.cons _ (by
  rw[<-DM, <-DM];exact List.Perm.append_right _ FW))
 refine aK.grow H r rfl rfl rfl (by omega) λbs m a P E F H=>⟨rfl,rfl,az.fK 2 H rfl rfl rfl λQ H=>⟨rfl,aj.cq 1 H rfl rfl ?_⟩⟩;have I:U (B v)=v:=BW j.1 j.2;refine⟨I,aL.go H λR S H=>az.all 0 H rfl rfl rfl λT H=>⟨λ_=>rfl,aj.cq 2 H rfl rfl ?_⟩⟩;have o:bj ws pg wt (fr,lv,fd)=if(!ux (B v).toNat||er != 0)=true then(fr,-1,wX lv 11) else tookS fr pg wt lv fd (HV (B v).toNat) (FF (B v).toNat) (JS (B v).toNat) (Fq (B v).toNat):=by
  unfold bj;simp only[hv,D];rw[ao d]
 have p:xm [(bs,flat eI (xs++[fr])++a)] (some ⟨bs,0,none⟩,xs.length+1,m) (xs++[fr]):= .inr ⟨bs,m,a,by rw[Dt];rfl,rfl,E,by rw[Dt];exact F⟩;have q: ∀{w:A2} {x y:Nat×List AR} {l:List AR},At G w0 w (x::(bs,flat eI (xs++[fr])++a)::y::(bk,l)::(bm,kY bw n c (vu ws (dW fr pg lv) ca) la)::(bw,flat eW ws++rest)::L0)->At G w0 w ((bk,l)::(bm,kY bw n c (vu ws (dW fr pg lv) ca) la)::(bw,flat eW ws++rest)::([(bs,flat eI (xs++[fr])++a)]++L0)):=λ{w x y l} H=>by
  have H:=H.sub (Az _ _);have H:=H.sub (L':=[(bs,flat eI (xs++[fr])++a)]++([(bk,l),(bm,kY bw n c (vu ws (dW fr pg lv) ca) la),(bw,flat eW ws++rest)]++L0)) (.cons_cons _ (Az _ _));refine H.perm ?_;refine List.Perm.trans (l₂:=[(bk,l),(bm,kY bw n c (vu ws (dW fr pg lv) ca) la),(bw,flat eW ws++rest)]++([(bs,flat eI (xs++[fr])++a)]++L0)) (.refl _) ?_;rw[<-DM, <-DM];exact List.Perm.append_right _ FW
 refine ab (λc1=>?_) (λc1=>aj.at 0 H rfl rfl ?_)
 ·rw[o,ax c1] at k;exact qb H 3 rfl 0 0 0 11 λJ H=>au.go H λf H=>k f _ _ p (q H)
 ·rw[o,ao (by rw[c1];decide)] at k;refine UI H 3 rfl _ _ _ _ λJ H=>⟨rfl,rfl,aj.cq 3 H rfl rfl (au.go H λf H=>k f _ _ p (q H))⟩
theorem IW (hb:bN w bk (jM fr pg wt lv fd s)):aE AB 24 (.bG [.agg sF,.one .bool]) [ag (ae bk)] w (λx w'=>x=(if lv= -1 then(fd,true,()) else((0,0,0,0,()),false,()))/\Ext w w'):=by
 obtain⟨f0,f1,f2,f3,f⟩:=fd;refine aR (C:=M1) (aS:=λ_=>[]) (Ab (UG _ w _) ?_);have H:=At.start [] w;refine aL.go H λb g H=>⟨λ_=>rfl,λ_=>rfl,aj.k8 H hb (by simp) rfl ⟨λ_=>rfl,λ_=>rfl,aj.k8 H hb (by simp) rfl (ab (λc=>?_) (λc=>?_))⟩⟩
 ·have a:lv≠ -1:=by simpa using c
  rw[ao a];exact az.all 0 H rfl rfl rfl λd H=>au.go H λe H=>aj.at 0 H rfl rfl ⟨rfl,H.all⟩
 ·have a:lv= -1:=by simpa using c
  rw[ax a];refine⟨rfl,rfl,aj.k8 (x:=(f0,f1,f2,f3,())) H hb (by simp) rfl ?_⟩;exact az.all 0 H rfl rfl rfl λd H=>au.go H λe H=>aj.at 0 H rfl rfl ⟨rfl,H.all⟩
def sP (f p t:Int):Bool:=decide (dW f p 3<0)||decide (t<0)||decide (t>7)
theorem Cw (H:aK D G w0 w L) (f p t:Int) {K:Option AC->A2->Prop} (hb:sP f p t=true-> ∀w1,aK D G w0 w1 L->K none w1)
 (d:sP f p t=false-> ∀bk w1,aK D G w0 w1 ((bk,jM f p t 3 (0,0,0,0,()) (none,0,0))::L)->K (ae bk) w1):
 aB AB 20 (.el (.one .ptr)) [aa f,aa p,aa t] w K:=by
 refine aB.go H λw1 H=>ai (C:=M1) (aS:=λ_=>[]) (Ab (UD f p t w1 K) ?_);refine aL.go H λb e H=>⟨trivial,ab (λc=>au.go H λa H=>hb c a (H.sub (Az _ _))) (λc=>au.go H λa H=>d c b a H)⟩
end
section
variable {D G:List Nat} {w0 w:A2}
theorem _root_.Go.RX.aK.aa2 {e:El} {s:Option AC×Nat×Nat} {xs ys:List e.T} {b U:Nat} {I:List AR} {Ls L0:List (Nat×List AR)} (H:aK D G w0 w ((b,flat e ys++I)::(Ls++L0))) (d:ys≠[])
 (o:(s=(none,0,0)/\xs=[]/\Ls=[])\/ ∃bs c rest,s=(some ⟨bs,0,none⟩,xs.length,c)/\Ls=[(bs,flat e xs++rest)]/\(flat e xs++rest).length=c*aF e/\xs.length<=c)
 (V:gY e=true) {t:BN} {size bytes:Nat} {z:Array AR} (q:size=aF e) (W:z.size=aF e) (hb:(xs.length+ys.length)*bytes<=140737488355328)
 {R:Option AC×Nat×Nat->A2->Prop} (k: ∀bs c rest w',(flat e (xs++ys)++rest).length=c*aF e->(xs++ys).length<=c->aK D G w0 w' ((bs,flat e (xs++ys)++rest)::L0)->R (some ⟨bs,0,none⟩,(xs++ys).length,c) w'):
 nb w t size bytes z s (some ⟨b,0,none⟩,ys.length,U) R:=by
 subst q;have X:(vE 0 w).heap.size=0:=iI (FG _);have Y:lM (vE 0 w) w e s xs:=by
  rcases o with ⟨rfl,rfl, _⟩|⟨bs,c,rest,rfl,rfl,h1,v⟩
  ·exact lM.nil _ _ _
  ·refine⟨rfl,v,.inr ⟨bs, _,rfl,by rw[X];exact FG _,H.get (i:=1) rfl,h1,?_⟩⟩;rw[FX (by rw[aH];exact DB _),Dy (by rw[aH];exact DB _)]
 have Z:bN w b (flat e ys++I):=H.get (i:=0) rfl;refine lF (ys:=ys) Y (qj (FG _)) V rfl ?_ W hb λs' w' xS g J q K=>?_
 ·refine Z.pX (aH e ys) λj hj=>?_;rw[B_,If (by rw[aH];exact hj)]
 ·obtain⟨p,n,c⟩:=s';obtain⟨h1,v,L⟩:=xS;simp only at h1 v L K;have hyl:0<ys.length:=List.length_pos_iff.2 d;have hlen:(xs++ys).length=xs.length+ys.length:=by simp
  rcases L with ⟨_,M, _⟩|⟨bs,l,a1, _,a3,a4,a5⟩
  ·simp at M;exact absurd M.2 d
  ·subst a1;subst h1;have el:l=flat e (xs++ys)++l.drop ((xs++ys).length*aF e):=by rw[<-a5,FY]
   refine k bs c (l.drop ((xs++ys).length*aF e)) w' (by rw[<-el];exact a4) v ?_;rw[<-el];have hG': ∃C,Fr C w w'/\(∀y∈C,y∈Ls.map (·.1)):=by
    rcases o with ⟨rfl, _,rfl⟩|⟨bo,co,N,rfl,rfl, _, _⟩
    ·exact⟨[],⟨g.os,g.tape,g.output,q,λy d _=>J y d (λa E=>by cases E)⟩,λy d=>by cases d⟩
    ·exact⟨[bo],⟨g.os,g.tape,g.output,q,λy d hn=>J y d (λa E=>by cases E;simpa using hn)⟩,λy d=>by simpa using d⟩
   obtain⟨C,O,F⟩:=hG';have x:=H.nd;simp only[List.map_cons,Fo,Ij,List.nodup_append,Ik] at x;have P: ∀y∈Ls.map (·.1),w0.heap.size<=y\/y∈G:=λy d=>by
    obtain⟨u,m,rfl⟩:=C8.1 d;exact H.own u (Bx _ (DU _ m))
   have Q:bs∈Ls.map (·.1)\/w.heap.size<=bs:=by
    rcases K with ⟨a,f,A⟩|⟨a,f,A⟩|f
    ·cases f;rcases o with ⟨rfl, _, _⟩|⟨bo,co,N,rfl,rfl, _, _⟩
     ·cases A
     ·cases A;exact .inl (by simp)
    ·cases f;exact .inr A
    ·rcases o with ⟨rfl,rfl, _⟩|⟨bo,co,N,rfl,rfl, _, _⟩
     ·cases f
     ·have S:=congrArg (λz=>z.2.1) f;simp at S;exact absurd S d
   refine H.frame O (λy d=>P y (F y d)) (λr hr d=>?_) (λy d=>?_) (λy d=>?_) ?_
   ·obtain⟨u,m,f⟩:=C8.1 (F r d);exact aK.de (H.cZ u (Bx _ (DU _ m))) (H.pY r hr).2 (λ_ _ _ hc=>by cases hc) f
   ·rcases E4.1 d with rfl|d
    ·exact a3
    ·refine O.cZ (λB=>?_) (H.cZ y (Bx _ (Bs _ d)));exact x.2.2.2 y.1 (F _ B) y.1 (C8.2 ⟨y,d,rfl⟩) rfl
   ·rcases E4.1 d with rfl|d
    ·rcases Q with h|h
     ·exact P _ h
     ·exact .inl (Dn H.fr.size h)
    ·exact H.own y (Bx _ (Bs _ d))
   ·refine Ij.2 ⟨λB=>?_,x.2.2.1⟩;rcases Q with h|h
    ·exact x.2.2.2 bs h bs B rfl
    ·obtain⟨u,m,f⟩:=C8.1 B;have:=(H.cZ u (Bx _ (Bs _ m))).lt;simp only at f h;omega
end
abbrev my (br n c:Nat):List AR:=[.slice (ae br) n c]
def lT (gs:List GT) (i:Int):Option Nat:=if 0<=i/\i<gs.length/\gs.getD i.toNat zG≠zG then some i.toNat else none
def wY (gs:List GT) (i:Int):GT:=match lT gs i with
 |some k=>gs.getD k zG
 |none=>zG
def fN (gs:List GT) (i g:Int) (b:Bool):Int:=match lT gs i with
 |none=>4
 |some k=>if((gs.getD k zG).2.2.1 != g||b&& !(gs.getD k zG).2.2.2.1)=true then 7 else if(gs.getD k zG).2.2.2.2.1=1000 then 3 else 0
def fj (x:GT) (n:Int):GT:=(x.1,x.2.1,x.2.2.1,x.2.2.2.1,x.2.2.2.2.1+n,())
def dZ (gs:List GT) (i g:Int) (b:Bool):List GT:=if fN gs i g b=0 then gs.set i.toNat (fj (gs.getD i.toNat zG) 1) else gs
def mo (gs:List GT) (i g:Int):Int:=match lT gs i with
 |none=>4
 |some k=>if(gs.getD k zG).2.2.1≠g then 7 else if(gs.getD k zG).2.2.2.2.1=0 then 6 else 0
def eM (gs:List GT) (i g:Int):List GT:=if mo gs i g=0 then gs.set i.toNat (fj (gs.getD i.toNat zG) (-1)) else gs
def pk (gs:List GT) (i o:Int):Int:=match lT gs i with
 |none=>4
 |some k=>if(gs.getD k zG).1≠o then 7 else if(gs.getD k zG).2.2.2.2.1>0 then 9 else 0
def lu (gs:List GT) (i o:Int):List GT:=if pk gs i o=0 then gs.set i.toNat zG else gs
def dh (gs:List GT) (p:GT->Bool) (n:Nat):List Int:=((Ca n).filter λ(i:Nat)=>p (gs.getD i zG)).map λ(i:Nat)=>(i:Int)
def kl (o q t:Int) (x:GT):Bool:=o==x.1&&(q==x.2.1&&t==x.2.2.1)
def e8 (x:GT):Bool:=decide (x=zG)
def o7 (g:Int) (x:GT):Bool:= !e8 x&&(x.1==g||x.2.2.1==g)
def jU (gs:List GT) (o q t:Int):Int:=
 if(!gG o|| !gG t||o==t||decide (q<0)||decide (q>=65536))=true then 1
 else if dh gs (kl o q t) gs.length≠[] then 5 else if dh gs e8 gs.length=[] then 3 else 0
def kr (gs:List GT) (o q t:Int):Int:=if jU gs o q t=0 then(dh gs e8 gs.length).headD 0 else 0
def jV (gs:List GT) (o q t:Int) (b:Bool):List GT:=if jU gs o q t=0 then gs.set (kr gs o q t).toNat (o,q,t,b,0,()) else gs
def cM (gs:List GT) (g:Int):List GT:=gs.map λx=>if o7 g x=true then zG else x
theorem QE (x:GT):mD x.1 x.2.1 x.2.2.1 x.2.2.2.1 x.2.2.2.2.1=e8 x:=rfl
theorem rX (gs:List GT) (p:GT->Bool) (n:Nat):dh gs p (n+1)=dh gs p n++(if p (gs.getD n zG)=true then[(n:Int)] else[]):=by
 unfold dh;rw[Ft,In,Fo];by_cases h:p (gs.getD n zG)=true
 ·rw[ax h,Fw,ax h];rfl
 ·rw[ao h,Fw,ao h];rfl
theorem qn {gs:List GT} {p:GT->Bool} {n:Nat} {x:Int}:x∈dh gs p n<-> ∃i:Nat,i<n/\p (gs.getD i zG)=true/\x=(i:Int):=by
 unfold dh;simp only[C8,Ix,Fy];constructor
 ·rintro⟨i,⟨h1,a⟩,rfl⟩;exact⟨i,h1,a,rfl⟩
 ·rintro⟨i,h1,a,rfl⟩;exact⟨i,⟨h1,a⟩,rfl⟩
theorem qo (gs:List GT) (p:GT->Bool) (n:Nat):(dh gs p n).length<=n:=by
 unfold dh;rw[G1];exact Dn (J3 _ _) (by simp)
theorem lB {gs:List GT} {i:Int} {k:Nat} (h:lT gs i=some k):0<=i/\i<gs.length/\k=i.toNat/\gs[k]? =some (gs.getD k zG)/\gs.getD k zG≠zG:=by
 unfold lT at h;split at h
 ·rename_i c;cases h;refine⟨c.1,c.2.1,rfl,?_,c.2.2⟩;rw[B4,B2 (by omega)];rfl
 ·cases h
section
variable {D G:List Nat} {w0 w:A2} {L:List (Nat×List AR)} {bg br c:Nat} {gs:List GT} {rest:List AR}
theorem KL (h:bN w bg (my br gs.length c)) (h0:0<gs.length):aE AB 224 (.el (.one .bool)) [ag (ae bg)] w (λx w'=>x=true/\Ext w w'):=by
 refine ai (C:=G3) (aS:=λ_=>[]) (Ab (Kw _ w _) ?_);refine⟨λ_=>rfl,λ_=>rfl,(some ⟨br,0,none⟩,gs.length,c),λ_=>?_,λw1 h1=>⟨?_,h1⟩⟩
 ·rw[aX];exact h.oI rfl
 ·simp;exact h0
theorem pH (h:bN w bg (my br gs.length c)) (h0:0<gs.length):af AB 224 [ag (ae bg)] w (.bool true):=
 af.of (s:= .el (.one .bool)) λw' h'=>KL (h.ext h') h0
def BY (br:Nat) (gs:List GT) (i:Int):Option AC:=(lT gs i).map λk=>⟨br,k*5,none⟩
def BZ (gs:List GT) (i:Int):Int:=if(lT gs i).isSome then 0 else 4
theorem Ze (h:bN w bg (my br gs.length c)) (j:bN w br (flat eG gs++rest)) (h0:0<gs.length) (i:Int):
 aE AB 221 (.bG [.one .ptr,.one (.int .i64)]) [ag (ae bg),aa i] w (λx w'=>x=(BY br gs i,BZ gs i,())/\Ext w w'):=by
 refine ai (C:=G3) (aS:=λ_=>[]) (Ab (Y8 _ i w _) ?_);have f:cH w (ad (ae bg) 0) (.one .slice) (some ⟨br,0,none⟩,gs.length,c):=by rw[aX];exact h.oI rfl
 refine⟨_,pH h h0,an rfl ⟨λ_=>rfl,λ_=>rfl,(some ⟨br,0,none⟩,gs.length,c),λ_=>f,λ_=>rfl,λ_=>rfl,(some ⟨br,0,none⟩,gs.length,c),λ_=>f,?_⟩⟩;dsimp only;have g:(lT gs i=none)->(BY br gs i,BZ gs i,())=((none,4,()):Option AC×Int×Unit):=λe=>by
  unfold BY BZ;rw[e];rfl
 by_cases b:0<=i/\i<gs.length
 ·have c1:(decide (i<0)||decide (i>=((gs.length:Nat):Int)))=false:=by
   rw[Do,decide_eq_false_iff_not,decide_eq_false_iff_not];omega
  have k:gs[i.toNat]? =some (gs.getD i.toNat zG):=by
   rw[B4,B2 (by omega)];rfl
  rw[c1];refine⟨λ_=>⟨rfl,b.1,b.2⟩,gs.getD i.toNat zG,λ_=>fU (e:=eG) j k,λ_=>trivial,?_⟩;rw[QE];refine ab (λd=>λw1 h1=>⟨(g ?_).symm,h1⟩) (λd=>⟨rfl,rfl,aj.of _ f ⟨⟨rfl,b.1,b.2⟩,λw1 h1=>⟨?_,h1⟩⟩⟩)
  ·have d:gs.getD i.toNat zG=zG:=by simpa[e8] using d
   unfold lT;rw[ao (λa=>a.2.2 d)]
  ·have d: ¬ gs.getD i.toNat zG=zG:=by simpa[e8] using d
   have e:lT gs i=some i.toNat:=by unfold lT;rw[ax ⟨b.1,b.2,d⟩]
   unfold BY BZ;rw[e,aX];simp
 ·have c1:(decide (i<0)||decide (i>=((gs.length:Nat):Int)))=true:=by
   rw[Dd,decide_eq_true_eq,decide_eq_true_eq];omega
  rw[c1];refine⟨λa=>(by cases a),zG,λa=>(by cases a),λ_=>trivial,aD rfl λw1 h1=>⟨(g ?_).symm,h1⟩⟩;unfold lT;rw[ao (λa=>b ⟨a.1,a.2.1⟩)]
theorem Iv (h:bN w bg (my br gs.length c)) (a:bN w br (flat eG gs++rest)) (h0:0<gs.length) (i:Int):
 af AB 221 [ag (ae bg),aa i] w ((Sh.bG [.one .ptr,.one (.int .i64)]).gz (BY br gs i,BZ gs i,())):=
 af.of (s:= .bG [.one .ptr,.one (.int .i64)]) λw' h'=>Ze (h.ext h') (a.ext h') h0 i
theorem UJ {bc:Nat} {o q t:Int} (hc:bN w bc [aa o,aa q,aa t,.bool false,aa 0]) (x:GT):
 af AB 226 [.agg ⟨[aa x.1,aa x.2.1,aa x.2.2.1,.bool x.2.2.2.1,aa x.2.2.2.2.1]⟩,ag (ae bc)] w (.bool (kl o q t x)):=by
 refine af.of (s:= .el (.one .bool)) λw' h'=>ai (C:=G3) (aS:=λ_=>[]) (Ab (P8 _ _ _ _ _ _ w' _) ?_);have H:=At.start [] w';refine aL.go H λb a H=>aj.of (o,q,t,false,0,()) (dV ((hc.ext h').ext H.all) rfl) ⟨rfl,aj.cq 0 H rfl rfl ⟨rfl,aj.cq 0 H rfl rfl ⟨rfl,aj.cq 0 H rfl rfl (au.go H λc H=>⟨?_,H.all⟩)⟩⟩⟩;unfold kl;simp
theorem QF {bc:Nat} {g:Int} (hc:bN w bc [aa g]) (x:GT):
 af AB 209 [.agg ⟨[aa x.1,aa x.2.1,aa x.2.2.1,.bool x.2.2.2.1,aa x.2.2.2.2.1]⟩,ag (ae bc)] w (.bool (o7 g x)):=by
 refine af.of (s:= .el (.one .bool)) λw' h'=>ai (C:=G3) (aS:=λ_=>[]) (Ab (Ky _ _ _ _ _ _ w' _) ?_);have H:=At.start [] w';refine aL.go H λb c H=>?_;have a:cH c (ae bc) (.one (.int .i64)) g:=dV ((hc.ext h').ext H.all) rfl;refine aj.at 0 H rfl (show _=some x from rfl) ⟨trivial,λ_=>rfl,aj.cq 0 H rfl rfl (aj.of g a ⟨λ_=>rfl,aj.cq 0 H rfl rfl (aj.of g a (au.go H λd H=>⟨?_,H.all⟩))⟩)⟩;rfl
theorem NZ {j:Nat} {x:Nat×List AR} (h:L[j]? =some x):L.set j x=L:=Dl λm=>by
 by_cases e:j=m
 ·subst e;rw[DJ (B3.1 h).1,h]
 ·rw[Dj e]
end
end Go.Proofs.YtlcenllcmeebhaaGreat
namespace Go.Proofs.YtlcenllcmeebhaaGreat.Po
set_option maxRecDepth 100000
open Go.RX
abbrev sQ:List Sc:=[.int .i64,.int .i64,.int .i64,.bool,.bool]
abbrev eQ:El:= .agg sQ
abbrev PT:Type:=Int×Int×Int×Bool×Bool×Unit
def zP:PT:=(0,0,0,false,false,())
def gI (n:Int):Bool:=decide (n>=1)&&decide (n<=16)
noncomputable def R0:dH AB:={C3 with vC:=false}
theorem QG (n:Int) (w:A2) (a:Bool->A2->Prop):(aM R0 (λ_=>[]) 212 [aa n] w a)=(
 au w (a (decide (n>=1)&&decide (n<=16)))):=by kernel_rfl
theorem QH (n:Int) (w:A2):aE AB 212 (.el (.one .bool)) [aa n] w (λx w'=>x=gI n/\Ext w w'):=by
 refine ai (C:=R0) (aS:=λ_=>[]) (Ab (QG n w _) ?_);have H:=At.start [] w
 repeat' (first
  |exact Go.RX.aK.all H
  |exact B1 (by first|rfl|decide+kernel) (Go.RX.aK.all H)
  |refine B1 (by first|exact rfl|exact trivial|exact λ_=>rfl|exact λ_=>trivial|exact⟨rfl,by decide,by decide⟩|exact⟨by decide,by decide⟩|decide+kernel|exact λ_=>by decide|exact λ_=>⟨rfl,by decide,by decide⟩|(dsimp only[DY,Db];exact⟨rfl,by decide,by decide⟩)) ?_
  |refine aj.cq 0 H rfl rfl ?_
  |refine aj.cq 1 H rfl rfl ?_
  |refine aj.at 0 H rfl rfl ?_
  |refine aj.at 1 H rfl rfl ?_
  |refine aL.go H λb w1 H=>?_
  |refine az.all 0 H rfl rfl rfl λw1 H=>?_
  |refine az.all 1 H rfl rfl rfl λw1 H=>?_
  |refine az.fK 0 H rfl rfl rfl λw1 H=>?_
  |refine az.fK 1 H rfl rfl rfl λw1 H=>?_
  |refine az.one 0 H rfl rfl rfl λw1 H=>?_
  |refine az.one 1 H rfl rfl rfl λw1 H=>?_
  |with_reducible refine au.go H λw1 H=>?_
  |refine jG ?_
  |refine aD (by assumption) ?_
  |refine an (by assumption) ?_
  |refine ab (λc=>?_) (λc=>?_))
noncomputable def Zf:Entry AB where
 f:=212
 fn l:=match l with
  |[.int .i64 a]=>some (True,.bool (gI a))
  | _=>none
 ok args pre v h b w:=by
  split at h
  ·rename_i a;cases h;exact bW (QH a w)
  ·cases h
noncomputable def R1:dH AB:={R0 with sj:=[Zf],quiet:=[211,213,229,245,231]}
theorem QI (p:Option AC) (w:A2) (a:Bool->A2->Prop):(aM R1 (λ_=>[]) 211 [ag p] w a)=(
 ((!p.isNone)=true->p.isSome=true)/\((!p.isNone)=true->p.isSome=true)/\aj w (some !p.isNone) (ad p 2560) aU λ(x:Int)=>au w (a (!p.isNone&&decide (x>0)))):=by kernel_rfl
theorem Ol (p:Option AC) (g i:Int) (w:A2) (a:Option AC->A2->Prop):(aM R1 (λ_=>[]) 213 [ag p,aa g,aa i] w a)=(
 ∃x,af AB 211 [ag p] w (.bool x)/\((!!x)=true->True)/\((!(!x|| !gI g||decide (i<0)))=true->p.isSome=true)/\((!(!x|| !gI g||decide (i<0)))=true->p.isSome=true)/\aj w (some !(!x|| !gI g||decide (i<0))) (ad p 2560) aU λ(b:Int)=>aJ (!x|| !gI g||decide (i<0)||decide (i>=b)) (au w (a none)) (p.isSome=true/\p.isSome=true/\((ad p 0).isSome=true/\0<=aZ .i64 g 1/\aZ .i64 g 1<(↑16:Int))/\((ad (ad p 0) ((aZ .i64 g 1).toNat*160)).isSome=true/\0<=i/\i<(↑32:Int))/\(ad (ad (ad p 0)
 ((aZ .i64 g 1).toNat*160)) (i.toNat*5)).isSome=true/\aj w none (ad (ad (ad p 0) ((aZ .i64 g 1).toNat*160)) (i.toNat*5)) (.agg [.int .i64,.int .i64,.int .i64,.bool,.bool]) λ(x:Int×Int×Int×Bool×Bool×Unit)=>aJ (x.1==0&&(x.2.1==0&&(x.2.2.1==0&&(x.2.2.2.1==false&&(x.2.2.2.2.1==false&&true))))) (au w (a none)) (au w λw1=>a (ad (ad (ad p 0) ((aZ .i64 g 1).toNat*160)) (i.toNat*5)) w1))):=by kernel_rfl
def tZ:Nat->a7:=(λ|2=>[(10,Go.RX.El.one (Go.RX.Sc.int B5))]| _=>[])
theorem QJ (p:Option AC) (g:Int) (w:A2) (a:Int->A2->Prop):(aM R1 tZ 245 [ag p,aa g] w a)=(
 cR p 2560 w λx=> ∃(I:Nat->Int×Unit->A2->Prop),(∃n, ∀w1,Ext w w1->I n (0,()) w1)/\ ∀(n:Nat) (s:Int×Unit) (w1:A2),I n s w1->aJ (decide (s.1<x)) (∃(x:Option AC),af AB 213 [ag p,aa g,aa s.1] w1 (ag x)/\aJ x.isNone (au w1 (a s.1)) (∀b,Ext w1 b-> ∃(c:Nat),c<n/\I c (aI .i64 s.1 1,()) b)) (au w1 (a (-1)))):=by kernel_rfl
theorem Zg (p:Option AC) (g r:Int) (w:A2) (a:Int->A2->Prop):(aM R1 (λ_=>[]) 229 [ag p,aa g,aa r] w a)=(
 ∃x,af AB 211 [ag p] w (.bool x)/\aJ (!x) (au w (a 10)) (True/\((!!gI g)=true->True)/\aJ (!gI g|| !gI r||g==r) (au w (a 1)) (au w (a 0)))):=by kernel_rfl
theorem UK (p:Option AC) (w:A2) (a:Int->A2->Prop):(aM R1 (λ_=>[]) 231 [ag p] w a)=(
 ∃x,af AB 211 [ag p] w (.bool x)/\aJ (!x) (au w (a 10)) (au w (a 4))):=by kernel_rfl
theorem Zh (p:Option AC) (g:Int) (x1 e f:Int) (h i:Bool) (w:A2) (d:Int×Int×Unit->A2->Prop):(aM R1 (λ_=>[]) 230 [ag p,aa g,.agg ⟨[aa x1,aa e,aa f,.bool h,.bool i]⟩] w d)=(
 aL w ⟨[aa x1,aa e,aa f,.bool h,.bool i]⟩ 217 λb a=> ∃(x:Int),af AB 245 [ag p,aa g] a (aa x)/\aJ (x== -1) (au a (d (0,3,()))) (aj a none (ae b) (.agg [.int .i64,.int .i64,.int .i64,.bool,.bool]) λ(c:Int×Int×Int×Bool×Bool×Unit)=>p.isSome=true/\p.isSome=true/\((ad p 0).isSome=true/\0<=aZ .i64 g 1/\aZ .i64 g 1<(↑16:Int))/\((ad (ad p 0) ((aZ .i64 g 1).toNat*160)).isSome=true/\0<=x/\x<(↑32:Int))/\az a (ad (ad (ad p 0) ((aZ .i64 g
 1).toNat*160)) (x.toNat*5)) [aa c.1,aa c.2.1,aa c.2.2.1,.bool c.2.2.2.1,.bool c.2.2.2.2.1] λa=>au a (d (x,0,())))):=by kernel_rfl
theorem QK (p:Option AC) (g r:Int) (w:A2) (a:Int×Int×Unit->A2->Prop):(aM R1 (λ_=>[]) 185 [ag p,aa g,aa r] w a)=(
 ∃(x:Int),af AB 229 [ag p,aa g,aa r] w (aa x)/\aJ (x != 0) (au w (a (0,x,()))) (aB AB 230 (.bG [.one (.int .i64),.one (.int .i64)]) [ag p,aa g,.agg ⟨[aa 1,aa r,aa 0,.bool false,.bool false]⟩] w λ(x:Int×Int×Unit) b=>au b (a (x.1,x.2.1,())))):=by kernel_rfl
theorem QL (p:Option AC) (g r i:Int) (w:A2) (a:Int×Int×Unit->A2->Prop):(aM R1 (λ_=>[]) 186 [ag p,aa g,aa r,aa i] w a)=(
 ∃(x:Int),af AB 229 [ag p,aa g,aa r] w (aa x)/\aJ (x != 0) (au w (a (0,x,()))) (∃(x:Option AC),af AB 213 [ag p,aa r,aa i] w (ag x)/\aJ x.isNone (au w (a (0,4,()))) (cR x 0 w λd=>aJ (d==2) (au w (a (0,6,()))) (cR x 1 w λe=>aJ (e != g) (au w (a (0,7,()))) (aB AB 230 (.bG [.one (.int .i64),.one (.int .i64)]) [ag p,aa g,.agg ⟨[aa 2,aa r,aa i,.bool false,.bool false]⟩] w λ(b:
 Int×Int×Unit) c=>aJ (b.2.1==0) (x.isSome=true/\x.isSome=true/\az c (ad x 0) [aa 2] λc=>x.isSome=true/\x.isSome=true/\az c (ad x 2) [aa b.1] λc=>au c (a (b.1,b.2.1,()))) (au c (a (b.1,b.2.1,())))))))):=by kernel_rfl
theorem QM (p:Option AC) (g i:Int) (w:A2) (a:Int->A2->Prop):(aM R1 (λ_=>[]) 187 [ag p,aa g,aa i] w a)=(
 ∃(x:Option AC),af AB 213 [ag p,aa g,aa i] w (ag x)/\aJ x.isNone (∃(x:Int),af AB 231 [ag p] w (aa x)/\au w (a x)) (cR x 0 w λc=>aJ (c != 2) (au w (a 6)) (cR x 1 w λd=>cR x 2 w λx=> ∃(b:Option AC),af AB 213 [ag p,aa d,aa x] w (ag b)/\b.isSome=true/\b.isSome=true/\az w (ad b 3) [.bool true] λe=>au e (a 0)))):=by kernel_rfl
def t_:Nat->a7:=(λ|5=>[(5,Go.RX.El.one Go.RX.Sc.slice),(15,Go.RX.El.one (Go.RX.Sc.int B5))]| _=>[])
theorem QN (p:Option AC) (g:Int) (w:A2) (e:Option AC×Nat×Nat->A2->Prop):(aM R1 t_ 232 [ag p,aa g] w e)=(
 ∃x,af AB 211 [ag p] w (.bool x)/\aJ (!x) (au w (e (none,0,0))) (cR p 2560 w λx=> ∃(I:Nat->(Option AC×Nat×Nat)×Int×Unit->A2->Prop),(∃n, ∀w1,Ext w w1->I n ((none,0,0),0,()) w1)/\ ∀(n:Nat) (s:(Option AC×Nat×Nat)×Int×Unit) (w1:A2),I n s w1->aJ (decide (s.2.1<x)) (∃(x:Option AC),af AB 213 [ag p,aa g,aa s.2.1] w1 (ag x)/\((!x.isNone)=true->x.isSome=true)/\((!x.isNone)=true->x.isSome=true)/\aj w1 (some !x.isNone) (ad x 3) oY λd=>
 ((!x.isNone&&d)=true->x.isSome=true)/\((!x.isNone&&d)=true->x.isSome=true)/\aj w1 (some (!x.isNone&&d)) (ad x 4) oY λh=>aJ (!x.isNone&&d&& !h) (aL w1 ⟨[aa s.2.1]⟩ 3 λb f=> ∀w1,Ext f w1->nb w1 3 1 8 ⟨[aa 0]⟩ (s.1.1,s.1.2.1,s.1.2.2) (some ⟨b,0,none⟩,1,1) λ(r:Option AC×Nat×Nat) f=> ∀a,Ext f a-> ∃(c:Nat),c<n/\I c ((r.1,r.2.1,r.2.2),aI .i64 s.2.1 1,()) a) (∀a,Ext w1 a-> ∃(c:Nat),c<n/\I c ((s.1.1,s.1.2.1,s.1.2.2),aI .i64 s.2.1 1,()) a)) (au w1 (e
 (s.1.1,s.1.2.1,s.1.2.2))))):=by kernel_rfl
theorem QO (p:Option AC) (g:Int) (w:A2) (c:Int×Bool×Unit->A2->Prop):(aM R1 (λ_=>[]) 188 [ag p,aa g] w c)=(
 aB AB 232 (.el fZ) [ag p,aa g] w λx a=>aJ ((↑x.2.1:Int)==0) (au a (c (0,false,()))) ((x.1.isSome=true/\(0:Int)<=0/\0<(↑x.2.1:Int))/\aT a (ad x.1 0) λd=> ∃(b:Option AC),af AB 213 [ag p,aa g,aa d] a (ag b)/\b.isSome=true/\b.isSome=true/\az a (ad b 3) [.bool false] λa=>(x.1.isSome=true/\(0:Int)<=0/\0<(↑x.2.1:Int))/\aT a (ad x.1 0) λx=>au a (c (x,true,())))):=by kernel_rfl
theorem KM (p:Option AC) (g i:Int) (w:A2) (c:Int->A2->Prop):(aM R1 (λ_=>[]) 189 [ag p,aa g,aa i] w c)=(
 ∃(x:Option AC),af AB 213 [ag p,aa g,aa i] w (ag x)/\aJ x.isNone (∃(x:Int),af AB 231 [ag p] w (aa x)/\au w (c x)) (cR x 0 w λd=>aJ (d==2) (cR x 1 w λe=>cR x 2 w λf=> ∃(a:Option AC),af AB 213 [ag p,aa e,aa f] w (ag a)/\a.isSome=true/\a.isSome=true/\az w (ad a 0) [aa 1] λb=>a.isSome=true/\a.isSome=true/\az b (ad a 2) [aa 0] λb=>x.isSome=true/\az b x [aa 0,.int .i64
 0,aa 0,.bool false,.bool false] λb=>au b (c 0)) (x.isSome=true/\az w x [aa 0,aa 0,aa 0,.bool false,.bool false] λb=>au b (c 0)))):=by kernel_rfl
def ua:Nat->a7:=(λ|5=>[(5,Go.RX.El.one (Go.RX.Sc.int B5)),(22,Go.RX.El.one (Go.RX.Sc.int B5))]|11=>[(5,Go.RX.El.one (Go.RX.Sc.int B5)),(7,Go.RX.El.one (Go.RX.Sc.int B5))]|14=>[(5,Go.RX.El.one (Go.RX.Sc.int B5)),(41,Go.RX.El.one (Go.RX.Sc.int B5))]| _=>[])
theorem QP (p:Option AC) (g:Int) (w:A2) (h:Int->A2->Prop):(aM R1 ua 170 [ag p,aa g] w h)=(
 ∃x,af AB 211 [ag p] w (.bool x)/\((!!x)=true->True)/\aJ (!x|| !gI g) (au w (h 0)) (cR p 2560 w λx=> ∃(I:Nat->Int×Int×Unit->A2->Prop),(∃n, ∀w1,Ext w w1->I n (0,0,()) w1)/\ ∀(n:Nat) (s:Int×Int×Unit) (w1:A2),I n s w1->aJ (decide (s.2.1<x)) (aB AB 189 (.el aU) [ag p,aa g,aa s.2.1] w1 λ(x:Int) e=>aJ (x==0) (∀a,Ext e a-> ∃(b:Nat),b<n/\I b (aI .i64 s.1 1,aI .i64 s.2.1 1,()) a) (∀a,Ext e a-> ∃(b:Nat),b<n/\I b (s.1,aI .i64 s.2.1 1,
 ()) a)) (∃(I:Nat->Int×Int×Unit->A2->Prop),(∃n, ∀d,Ext w1 d->I n (s.1,1,()) d)/\ ∀(n:Nat) (s:Int×Int×Unit) (w1:A2),I n s w1->aJ (decide (s.2.1<=16)) (cR p 2560 w1 λx=> ∃(f:Nat->Int×Int×Unit->A2->Prop),(∃n, ∀d,Ext w1 d->f n (s.1,0,()) d)/\ ∀(i:Nat) (c:Int×Int×Unit) (w1:A2),f i c w1->aJ (decide (c.2.1<x)) (∃(x:Option AC),af AB 213 [ag p,aa s.2.1,aa c.2.1] w1 (ag x)/\((!x.isNone)=true->x.isSome=true)/\
 ((!x.isNone)=true->x.isSome=true)/\aj w1 (some !x.isNone) (ad x 1) aU λ(j:Int)=>aJ (!x.isNone&&j==g) (x.isSome=true/\az w1 x [aa 0,aa 0,aa 0,.bool false,.bool false] λe=> ∀a,Ext e a-> ∃(b:Nat),b<i/\f b (aI .i64 c.1 1,aI .i64 c.2.1 1,()) a) (∀a,Ext w1 a-> ∃(b:Nat),b<i/\f b (c.1,aI .i64 c.2.1 1,()) a)) (∀a,Ext w1 a-> ∃(b:Nat),b<n/\I b (c.1,aI .i64 s.2.1 1,()) a)) (au w1 (h s.1))))):=by kernel_rfl
theorem IX {ss:List Sc} {xs:List (g_ ss)} {rest:List AR} {k f:Nat} {x:g_ ss} (a:xs[k]? =some x) (b:f<ss.length):(flat (.agg ss) xs++rest)[k*ss.length+f]? =(a9 ss x)[f]? :=by
 induction xs generalizing k with
 |nil=>simp at a
 |cons y ys c=>
  cases k with
  |zero=>
   simp at a;have d:f<(a9 ss y).length:=by rw[cB];exact b
   simp only[H6,B_];show((a9 ss y++flat (.agg ss) ys)++rest)[f]? = _
   grind
  |succ k=>
   show((a9 ss y++flat (.agg ss) ys)++rest)[(k+1)*ss.length+f]? = _;rw[DM,GS (by rw[cB,FS];omega),cB]
   grind
theorem Ba {ss:List Sc} {xs:List (g_ ss)} {rest:List AR} {k f:Nat} {x y:g_ ss} {v:AR} (b:xs[k]? =some x) (c:f<ss.length) (d:a9 ss y=(a9 ss x).set f v):(flat (.agg ss) xs++rest).set (k*ss.length+f) v=flat (.agg ss) (xs.set k y)++rest:=by
 induction xs generalizing k with
 |nil=>simp at b
 |cons z a e=>
  cases k with
  |zero=>
   have g:f<(a9 ss z).length:=by rw[cB];exact c
   simp only[H6,B_];show((a9 ss z++flat (.agg ss) a)++rest).set f v=(a9 ss y++flat (.agg ss) a)++rest
   grind
  |succ k=>
   show((a9 ss z++flat (.agg ss) a)++rest).set _ v=(a9 ss z++flat _ _)++rest;rw[DM,List.set_append_right _ _ (by rw[cB,FS];omega),cB]
   grind
abbrev gK (room:Int) (ps:List PT):List AR:=flat eQ ps++[aa room]
def ix (g i:Int):Nat:=(g - 1).toNat*32+i.toNat
def sr (room g i:Int):Bool:=gI g&&(decide (0<=i)&&decide (i<room))
def oU (room:Int) (ps:List PT) (g i:Int):Option Nat:=if sr room g i=true/\ps.getD (ix g i) zP≠zP then some (ix g i) else none
structure okS (room:Int) (ps:List PT):Prop where
 len:ps.length=512
 lo:1<=room
 hi:room<=32
theorem nI {g:Int}:gI g=true<->1<=g/\g<=16:=by simp[gI]
theorem eV {room g i:Int}:sr room g i=true<->(1<=g/\g<=16)/\0<=i/\i<room:=by simp[sr,nI]
theorem pq {room g i:Int} (h:sr room g i=true) (a:room<=32):ix g i<512:=by grind[eV,ix]
theorem OW {room g i g' a:Int} (h:sr room g i=true) (h':sr room g' a=true) (b:room<=32) (e:ix g i=ix g' a):g=g'/\i=a:=by grind[eV,ix]
theorem okS.get {room:Int} {ps:List PT} (h:okS room ps) {k:Nat} (a:k<512):ps[k]? =some (ps.getD k zP):=by
 rw[B4,B2 (by rw[h.len];grind)];rfl
theorem okS.set {room:Int} {ps:List PT} (h:okS room ps) (k:Nat) (x:PT):okS room (ps.set k x):=⟨by rw[Ga];exact h.len,h.lo,h.hi⟩
theorem fC {room:Int} {ps:List PT} {g i:Int} {k:Nat} (h:oU room ps g i=some k):sr room g i=true/\k=ix g i/\ps.getD k zP≠zP:=by grind[oU]
theorem qc {room:Int} {ps:List PT} (h:okS room ps):kH (gK room ps) (0+2560) (.one (.int .i64))=some room:=by
 have:(gK room ps)[2560]? =some (aa room):=by
  rw[GS (by rw[aH,h.len];decide),aH,h.len];rfl
 show(match (gK room ps)[0+2560]? with|some v=>(Sc.int _).proj v|none=>none)=some room;rw[this];rfl
theorem isZ (x:PT):(x.fst==0&&(x.snd.fst==0&&(x.snd.snd.fst==0&&(x.snd.snd.snd.fst==false&&(x.snd.snd.snd.snd.fst==false&&true)))))=decide (x=zP):=by
 obtain⟨a,b,c,d,e,u⟩:=x;rw[JW];simp[zP]
theorem sv {room:Int} {ps:List PT} {k f:Nat} {x:PT} (a:ps[k]? =some x) (b:f<5) {s:Sc} {y:s.T} (c:(match (a9 sQ x)[f]? with|some v=>s.proj v|none=>none)=some y):kH (gK room ps) (k*5+f) (.one s)=some y:=by
 show(match (gK room ps)[k*5+f]? with|some v=>s.proj v|none=>none)=some y;have:=IX (ss:=sQ) (rest:=[aa room]) a b
 simp_all
section
variable {D G:List Nat} {w0 w:A2} {L:List (Nat×List AR)}
theorem az.sv (j:Nat) (H:aK D G w0 w L) {bp k f:Nat} {room:Int} {ps:List PT} {x:PT} (y:PT) {v:AR} {K:A2->Prop} (a:L[j]? =some (bp,gK room ps)) (b:ps[k]? =some x) (c:f<5) (hv:v.oneCell'=true) (d:a9 sQ y=(a9 sQ x).set f v)
 (g: ∀w1,aK D G w0 w1 (L.set j (bp,gK room (ps.set k y)))->K w1):az w (ad (some ⟨bp,k*5,none⟩) f) [v] K:=by
 refine az.fK j H a hv ?_ λw1 h1=>g w1 ?_
 ·rw[H7];have:(flat eQ ps).length=ps.length*5:=aH eQ ps
  grind
 ·have e:(gK room ps).set _ v=gK room _:=Ba b c d
  grind
end
section
variable {w:A2} {bp:Nat} {room:Int} {ps:List PT}
theorem pI (h:bN w bp (gK room ps)) (a:okS room ps):aE AB 211 (.el (.one .bool)) [ag (ae bp)] w (λx w'=>x=true/\Ext w w'):=by
 refine ai (Ab (QI _ w _) ?_);refine⟨λ_=>rfl,λ_=>rfl,aj.k8 (At.start [] w) h (by simp) (qc a) λw1 h1=>⟨?_,h1⟩⟩;have:=a.lo
 grind
def cq (bp:Nat) (room:Int) (ps:List PT) (g i:Int):Option AC:=(oU room ps g i).map λk=>⟨bp,k*5,none⟩
theorem DP (h:bN w bp (gK room ps)) (a:okS room ps) (g i:Int):aE AB 213 (.el (.one .ptr)) [ag (ae bp),aa g,aa i] w (λx w'=>x=cq bp room ps g i/\Ext w w'):=by
 refine ai (C:=R1) (aS:=λ_=>[]) (Ab (Ol _ g i w _) ?_);refine⟨true,af.of (s:= .el (.one .bool)) λw' h'=>pI (h.ext h') a,λ_=>trivial,λ_=>rfl,λ_=>rfl,aj.k8 (At.start [] w) h (by simp) (qc a) ?_⟩;have p:=a.lo;have d:=a.hi;refine ab (λc w1 h1=>⟨?_,h1⟩) (λc=>?_)
 ·have f: ¬ sr room g i=true:=by
   rw[eV];intro j;have k:gI g=true:=nI.2 j.1;rw[k] at c;simp at c;omega
  unfold cq oU;rw[ao (λhc=>f hc.1)];rfl
 ·have b:sr room g i=true:=by
   grind[eV,nI,gI]
  have q:=eV.1 b;have l:=pq b d;have m:=a.get l;have es:aZ .i64 g 1=g - 1:=bD (by omega) (by omega);rw[es];have n:ad (ad (ad (ae bp) 0) ((g - 1).toNat*160)) (i.toNat*5)=some ⟨bp,ix g i*5,none⟩:=by
   rw[aX,aX,aX];unfold ix;congr 2;omega
  have o:ad (ad (ae bp) 0) ((g - 1).toNat*160)=some ⟨bp,0+0+(g - 1).toNat*160,none⟩:=by rw[aX,aX]
  rw[n,o];refine⟨rfl,rfl,⟨rfl,by omega,by omega⟩,⟨rfl,by omega,by omega⟩,rfl,aj.of (ps.getD (ix g i) zP) ?_ ?_⟩
  ·have:=fU (e:=eQ) (rest:=[aa room]) h m;rw[aX,B_] at this;exact this
  ·rw[isZ];refine ab (λc2 w1 h1=>⟨?_,h1⟩) (λc2 w1 h1=>⟨?_,h1⟩)
   ·unfold cq oU
    grind
   ·unfold cq oU;rw[ax ⟨b,of_decide_eq_false c2⟩];rfl
def o8 (g r:Int):Int:=if !gI g|| !gI r||g==r then 1 else 0
theorem Zi (h:bN w bp (gK room ps)) (a:okS room ps) (g r:Int):aE AB 229 (.el (.one (.int .i64))) [ag (ae bp),aa g,aa r] w (λx w'=>x=o8 g r/\Ext w w'):=by
 refine ai (C:=R1) (aS:=λ_=>[]) (Ab (Zg _ g r w _) ?_);refine⟨true,af.of (s:= .el (.one .bool)) λw' h'=>pI (h.ext h') a,an rfl ⟨trivial,λ_=>trivial,ab (λc w1 h1=>⟨?_,h1⟩) (λc w1 h1=>⟨?_,h1⟩)⟩⟩
 ·unfold o8;rw[ax c]
 ·unfold o8;grind
theorem UL (h:bN w bp (gK room ps)) (a:okS room ps):aE AB 231 (.el (.one (.int .i64))) [ag (ae bp)] w (λx w'=>x=4/\Ext w w'):=by
 refine ai (C:=R1) (Ab (UK _ w _) ?_);exact⟨true,af.of λw' h'=>pI (h.ext h') a,an rfl λw1 h1=>⟨rfl,h1⟩⟩
def cx (room:Int) (ps:List PT) (g:Int):Int:=match (Ca room.toNat).find? λ(i:Nat)=>(oU room ps g i).isNone with
 |some i=>(i:Int)
 |none=> -1
theorem QQ (h:bN w bp (gK room ps)) (b:okS room ps) (g:Int):aE AB 245 (.el (.one (.int .i64))) [ag (ae bp),aa g] w (λx w'=>x=cx room ps g/\Ext w w'):=by
 refine ai (C:=R1) (aS:=tZ) (Ab (QJ _ g w _) ?_);have l:=b.lo;have m:=b.hi;refine⟨rfl,rfl,aj.k8 (At.start [] w) h (by simp) (qc b) ?_⟩;refine⟨λq s w'=> ∃i:Nat,s.1=i/\q+i=room.toNat/\(∀j:Nat,j<i->(oU room ps g j).isNone=false)/\Ext w w',⟨room.toNat,λw1 h1=>⟨0,rfl,rfl,λj e=>absurd e (by omega),h1⟩⟩,?_⟩;rintro q ⟨n,u⟩ w1 ⟨i,hi,o,k,d⟩;simp only at hi;subst hi;dsimp only;refine ab (λc=>?_) (λc f a=>⟨?_,d.trans a⟩)
 ·have p:i<room.toNat:=by simp at c;omega
  refine⟨_,af.of (s:= .el (.one .ptr)) λw' h'=>DP ((h.ext d).ext h') b g i,ab (λc2 f a=>⟨?_,d.trans a⟩) (λc2 f a=>⟨q - 1,by omega,i+1,by rw[av (by omega) (by omega)];rfl,by omega,λj e=>?_,d.trans a⟩)⟩
  ·grind[oU,cq,Ca,J4,cx]
  ·rcases Nat.lt_or_ge j i with h1|h1
   ·exact k j h1
   ·obtain rfl:j=i:=by omega
    unfold cq at c2;simpa using c2
 ·have:(Ca room.toNat).find? (λ(i:Nat)=>(oU room ps g i).isNone)=none:=by
   grind
  unfold cx;rw[this]
theorem mS {room:Int} {ps:List PT} {g:Int} (a:gI g=true) (h:cx room ps g≠ -1):sr room g (cx room ps g)=true/\oU room ps g (cx room ps g)=none:=by
 unfold cx at h ⊢;split
 ·rename_i hi;rw[J4] at hi;have:=Fy.1 hi.2.1;exact⟨eV.2 ⟨nI.1 a,by omega⟩,by simp_all⟩
 grind
end
end Go.Proofs.YtlcenllcmeebhaaGreat.Po
namespace Go.Proofs.YtlcenllcmeebhaaGreat
set_option maxRecDepth 100000
open Go.RX
theorem Am {L Ls:List (Nat×List AR)} {k:Nat} {x:Nat×List AR} (h:L[k]? =some x):(L++Ls)[k]? =some x:=by
 grind
theorem xm.len {Ls:List (Nat×List AR)} {sl:Option AC×Nat×Nat} {xs:List Int} (h:xm Ls sl xs):sl.2.1=xs.length:=by
 rcases h with ⟨rfl,rfl,rfl⟩|⟨bs,c,rest,rfl, _⟩
 ·rfl
 ·rfl
theorem xm.rd {D G:List Nat} {w0 w:A2} {L Ls:List (Nat×List AR)} {sl:Option AC×Nat×Nat} {xs:List Int} (h:xm Ls sl xs) (H:aK D G w0 w L) (a: ∀y∈Ls,y∈L) {i:Nat} {x:Int} (b:xs[i]? =some x):sl.1.isSome=true/\cH w (ad sl.1 (i*1)) (.one (.int .i64)) x:=by
 rcases h with ⟨rfl,rfl,rfl⟩|⟨bs,c,rest,rfl,rfl, _⟩
 ·grind
 ·exact⟨rfl,fU (H.cZ _ (a _ DA)) b⟩
section
variable {D G:List Nat} {w0 w:A2} {L:List (Nat×List AR)} {bg br c:Nat} {gs:List GT} {rest:List AR}
theorem Gj {Ls:List (Nat×List AR)} {a:Nat} {x:Int} {xs:List Int} {sl:Option AC×Nat×Nat} (H:aK D G w0 w ((a,[aa x])::(L++Ls))) (f:xm Ls sl xs) (hb:xs.length<=900000) {t:BN}
 {R:Option AC×Nat×Nat->A2->Prop} (k: ∀b d w',xm b d (xs++[x])->aK D G w0 w' (L++b)->R d w'):
 nb w t 1 8 ⟨[aa 0]⟩ sl (some ⟨a,0,none⟩,1,1) R:=by
 refine aK.aa2 (e:=eI) (H.perm (.cons _ FW)) (by simp) f rfl rfl rfl (by grind) λbs c rest w' g h i=>k _ _ w' (.inr ⟨bs,c,rest,rfl,rfl,g,h⟩) (i.perm ?_);simp
theorem KN (H:aK D G w0 w L) (j r:Nat) (h:L[j]? =some (bg,my br gs.length c)) (s:L[r]? =some (br,flat eG gs++rest)) (h0:0<gs.length) (J:gs.length<=64) {K:Option AC×Nat×Nat->A2->Prop}
 (k: ∀sl Ls a,xm Ls sl (dh gs e8 gs.length)->aK D G w0 a (L++Ls)->K sl a):
 aB AB 208 (.el (.one .slice)) [ag (ae bg),.func (.func 210) #[] #[]] w K:=by
 refine aB.go H λw1 H=>ai (C:=G3) (aS:=qW) (Ab (Kz _ w1 K) ?_);have t: ∀{w:A2} {L1:List (Nat×List AR)},aK D G w0 w (L++L1)->bN w bg (my br gs.length c)/\bN w br (flat eG gs++rest):=λ{w L1} H=>⟨H.get (Am h),H.get (Am s)⟩;refine⟨_,pH (H.get h) h0,an rfl ⟨rfl,rfl,aj.cq j H h rfl ?_⟩⟩;refine⟨λn v w'=> ∃(m:Nat) (Ls:List (Nat×List AR)),v.2.1=(m:Int)/\n+m=gs.length/\xm Ls v.1 (dh gs e8 m)/\aK D G w0 w' (L++Ls),⟨gs.length,λa y=>⟨0,[],rfl,rfl,.inl ⟨rfl,rfl,rfl⟩,by rw[C6];exact H.ext y⟩⟩,?_⟩;clear H;rintro n ⟨sl,v,u⟩ a ⟨m,Ls,e,M,f,H⟩;dsimp only at e f ⊢;subst e;refine ab (λi=>?_) (λi=>?_)
 ·have o:m<gs.length:=by simpa using i
  have p:gs[m]? =some (gs.getD m zG):=by
   grind
  have z:aI .i64 (m:Int) 1=((m+1:Nat):Int):=by rw[av (by omega) (by omega)];omega
  have g:=rX gs e8 m;obtain⟨x,A⟩: ∃x,x=gs.getD m zG:=⟨_,rfl⟩;rw[<-A] at p g;rw[z];have N:=qo gs e8 m;refine⟨⟨rfl,by omega,by omega⟩,aj.of x (fU (e:=eG) (t H).2 p) (aL.go H λb q H=>az.all 0 H rfl rfl rfl λO H=>aj.at 0 H rfl (show _=some x from rfl) ?_)⟩;refine⟨trivial,?_⟩;refine ab (λd=>aL.go H λP Q H=>λB l=>?_) (λd=>λB l=>⟨n - 1,by omega,m+1,Ls,rfl,by omega,?_,?_⟩)
  ·have d:e8 x=true:=d;rw[ax d] at g;have H:=H.ext l;have H:=H.sub (.cons_cons _ (Az _ _));refine Gj H f (by omega) λE R S F H=>λT I=>⟨n - 1,by omega,m+1,E,rfl,by omega,?_,H.ext I⟩;rw[g];exact F
  ·have d: ¬ e8 x=true:=by
    have d:e8 x=false:=d;rw[d];decide
   rw[g,ao d,C6];exact f
  ·exact(H.sub (Az _ _)).ext l
 ·have o:m=gs.length:=by
   have: ¬ m<gs.length:=by simpa using i
   omega
  subst o;exact au.go H λq H=>k sl Ls q f H
theorem KO (H:aK D G w0 w L) (j z:Nat) (f:L[j]? =some (bg,my br gs.length c)) (A:L[z]? =some (br,flat eG gs++rest)) (h0:0<gs.length) (P:gs.length<=64) {bc:Nat} {o q t:Int} (hc:(bc,[aa o,aa q,aa t,.bool false,aa 0])∈L) {K:Option AC×Nat×Nat->A2->Prop}
 (k: ∀sl Ls a,xm Ls sl (dh gs (kl o q t) gs.length)->aK D G w0 a (L++Ls)->K sl a):
 aB AB 208 (.el (.one .slice)) [ag (ae bg),.func (.func 226) #[] #[ag (ae bc)]] w K:=by
 refine aB.go H λw1 H=>ai (C:=G3) (aS:=qX) (Ab (KA _ _ w1 K) ?_);have B: ∀{w:A2} {L1:List (Nat×List AR)},aK D G w0 w (L++L1)->bN w bg (my br gs.length c)/\bN w br (flat eG gs++rest):=λ{w L1} H=>⟨H.get (Am f),H.get (Am A)⟩;refine⟨_,pH (H.get f) h0,an rfl ⟨rfl,rfl,aj.cq j H f rfl ?_⟩⟩;refine⟨λn v w'=> ∃(m:Nat) (Ls:List (Nat×List AR)),v.2.1=(m:Int)/\n+m=gs.length/\xm Ls v.1 (dh gs (kl o q t) m)/\aK D G w0 w' (L++Ls),⟨gs.length,λa E=>⟨0,[],rfl,rfl,.inl ⟨rfl,rfl,rfl⟩,by rw[C6];exact H.ext E⟩⟩,?_⟩;clear H;rintro n ⟨sl,v,u⟩ a ⟨m,Ls,e,Q,g,H⟩;dsimp only at e g ⊢;subst e;refine ab (λh=>?_) (λh=>?_)
 ·have p:m<gs.length:=by simpa using h
  have r:gs[m]? =some (gs.getD m zG):=by
   grind
  have F:aI .i64 (m:Int) 1=((m+1:Nat):Int):=by rw[av (by omega) (by omega)];omega
  have i:=rX gs (kl o q t) m;obtain⟨x,I⟩: ∃x,x=gs.getD m zG:=⟨_,rfl⟩;rw[<-I] at r i;rw[F];have R:=qo gs (kl o q t) m;refine⟨⟨rfl,by omega,by omega⟩,aj.of x (fU (e:=eG) (B H).2 r) (aL.go H λb s H=>az.all 0 H rfl rfl rfl λS H=>aj.at 0 H rfl (show _=some x from rfl) ?_)⟩;refine⟨_,UJ (H.cZ _ (Bx _ (DU _ hc))) x,?_⟩;refine ab (λd=>aL.go H λJ T H=>λy l=>?_) (λd=>λy l=>⟨n - 1,by omega,m+1,Ls,rfl,by omega,?_,?_⟩)
  ·have d:(kl o q t) x=true:=d;rw[ax d] at i;have H:=H.ext l;have H:aK D G w0 y ((J,[aa (m:Int)])::(L++Ls)):=H.sub (.cons_cons _ (Az _ _));refine Gj H g (by omega) λM U V N H=>λW O=>⟨n - 1,by omega,m+1,M,rfl,by omega,?_,H.ext O⟩;rw[i];exact N
  grind
  ·exact(H.sub (Az _ _)).ext l
 ·have p:m=gs.length:=by
   have: ¬ m<gs.length:=by simpa using h
   omega
  subst p;exact au.go H λs H=>k sl Ls s g H
theorem KP (H:aK D G w0 w L) (j t:Nat) (f:L[j]? =some (bg,my br gs.length c)) (y:L[t]? =some (br,flat eG gs++rest)) (h0:0<gs.length) (N:gs.length<=64) {bc:Nat} {g:Int} (hc:(bc,[aa g])∈L) {K:Option AC×Nat×Nat->A2->Prop}
 (k: ∀sl Ls a,xm Ls sl (dh gs (o7 g) gs.length)->aK D G w0 a (L++Ls)->K sl a):
 aB AB 208 (.el (.one .slice)) [ag (ae bg),.func (.func 209) #[] #[ag (ae bc)]] w K:=by
 refine aB.go H λw1 H=>ai (C:=G3) (aS:=qY) (Ab (KB _ _ w1 K) ?_);have z: ∀{w:A2} {L1:List (Nat×List AR)},aK D G w0 w (L++L1)->bN w bg (my br gs.length c)/\bN w br (flat eG gs++rest):=λ{w L1} H=>⟨H.get (Am f),H.get (Am y)⟩;refine⟨_,pH (H.get f) h0,an rfl ⟨rfl,rfl,aj.cq j H f rfl ?_⟩⟩;refine⟨λn v w'=> ∃(m:Nat) (Ls:List (Nat×List AR)),v.2.1=(m:Int)/\n+m=gs.length/\xm Ls v.1 (dh gs (o7 g) m)/\aK D G w0 w' (L++Ls),⟨gs.length,λa A=>⟨0,[],rfl,rfl,.inl ⟨rfl,rfl,rfl⟩,by rw[C6];exact H.ext A⟩⟩,?_⟩;clear H;rintro n ⟨sl,v,u⟩ a ⟨m,Ls,e,O,h,H⟩;dsimp only at e h ⊢;subst e;refine ab (λi=>?_) (λi=>?_)
 ·have p:m<gs.length:=by simpa using i
  have q:gs[m]? =some (gs.getD m zG):=by
   grind
  have B:aI .i64 (m:Int) 1=((m+1:Nat):Int):=by rw[av (by omega) (by omega)];omega
  have l:=rX gs (o7 g) m;obtain⟨x,E⟩: ∃x,x=gs.getD m zG:=⟨_,rfl⟩;rw[<-E] at q l;rw[B];have P:=qo gs (o7 g) m;refine⟨⟨rfl,by omega,by omega⟩,aj.of x (fU (e:=eG) (z H).2 q) (aL.go H λb r H=>az.all 0 H rfl rfl rfl λQ H=>aj.at 0 H rfl (show _=some x from rfl) ?_)⟩;refine⟨_,QF (H.cZ _ (Bx _ (DU _ hc))) x,?_⟩;refine ab (λd=>aL.go H λF R H=>λs o=>?_) (λd=>λs o=>⟨n - 1,by omega,m+1,Ls,rfl,by omega,?_,?_⟩)
  ·have d:(o7 g) x=true:=d;rw[ax d] at l;have H:=H.ext o;have H:aK D G w0 s ((F,[aa (m:Int)])::(L++Ls)):=H.sub (.cons_cons _ (Az _ _));refine Gj H h (by omega) λI S T J H=>λU M=>⟨n - 1,by omega,m+1,I,rfl,by omega,?_,H.ext M⟩;rw[l];exact J
  grind
  ·exact(H.sub (Az _ _)).ext o
 ·have p:m=gs.length:=by
   have: ¬ m<gs.length:=by simpa using i
   omega
  subst p;exact au.go H λr H=>k sl Ls r h H
theorem B6 (H:aK D G w0 w L) (a:Nat) (b:L[a]? =some (br,flat eG gs++rest)) {k:Nat} {x:GT} (c:gs[k]? =some x) {f:Nat} (d:f<5) {s:Sc} {y:s.T} (e:(match (a9 sG x)[f]? with|some v=>s.proj v|none=>none)=some y):cH w (ad (some ⟨br,k*5,none⟩) f) (.one s) y:=by
 rw[aX];refine dV (H.get b) ?_;have h:=Po.IX (ss:=sG) (rest:=rest) c d;show(match (flat eG gs++rest)[k*5+f]? with|some v=>s.proj v|none=>none)=some y
 simp_all
theorem aam (H:aK D G w0 w L) (a:Nat) (c:L[a]? =some (br,flat eG gs++rest)) {k:Nat} {x:GT} (b:gs[k]? =some x) {f:Nat} (d:f<5) {v:AR} (hv:v.oneCell'=true) (y:GT) (e:a9 sG y=(a9 sG x).set f v) {K:A2->Prop} (kk: ∀w1,aK D G w0 w1 (L.set a (br,flat eG (gs.set k y)++rest))->K w1):az w (ad (some ⟨br,k*5,none⟩) f) [v] K:=by
 have g:=(B3.1 b).1;refine az.fK a H c hv ?_ λw1 h1=>kk w1 ?_
 ·rw[H7,Dt,aH];show k*5+f<gs.length*5+rest.length;omega
 ·have h:=Po.Ba (rest:=rest) b d e
  grind
theorem Zj (h:bN w bg (my br gs.length c)) (d:bN w br (flat eG gs++rest)) (h0:0<gs.length) (i:Int):
 aE AB 176 (.bG [eG,.one .bool]) [ag (ae bg),aa i] w (λx w'=>x=(wY gs i,(lT gs i).isSome,())/\Ext w w'):=by
 refine aR (C:=G3) (aS:=λ_=>[]) (Ab (Y9 _ i w _) ?_);have H:=At.start [] w;refine aL.go H λb f H=>?_;have a:=H.all;refine⟨_,Iv (h.ext a) (d.ext a) h0 i,?_⟩;unfold BZ BY wY;cases g:lT gs i with
 |none=>exact aD rfl (az.all 0 H rfl rfl rfl λj H=>au.go H λl H=>aj.at 0 H rfl (show _=some zG from rfl) ⟨rfl,H.all⟩)
 |some k=>
  obtain⟨_, _, _,m, _⟩:=lB g;have n:cH f (some ⟨br,k*5,none⟩) eG (gs.getD k zG):=by
   have:=fU (e:=eG) (d.ext a) m;rw[aX,B_] at this;exact this
  refine an rfl ⟨rfl,aj.of _ n (az.all 0 H rfl rfl rfl λj H=>au.go H λl H=>aj.at 0 H rfl (show _=some (gs.getD k zG) from rfl) ⟨rfl,H.all⟩)⟩
theorem QR (H:aK D G w0 w L) (j f:Nat) (p:L[j]? =some (bg,my br gs.length c)) (l:L[f]? =some (br,flat eG gs++rest)) (h0:0<gs.length) (r: ∀x∈gs,0<=x.2.2.2.2.1/\x.2.2.2.2.1<=1000) (i g:Int) (b:Bool) {K:Int->A2->Prop}
 (k: ∀a,aK D G w0 a (L.set f (br,flat eG (dZ gs i g b)++rest))->K (fN gs i g b) a):
 aB AB 181 (.el (.one (.int .i64))) [ag (ae bg),aa i,aa g,.bool b] w K:=by
 refine aB.go H λw1 H=>ai (C:=G3) (aS:=λ_=>[]) (Ab (P9 _ i g b w1 K) ?_);refine⟨_,Iv (H.get p) (H.get l) h0 i,?_⟩;have same:fN gs i g b≠0-> ∀{a},aK D G w0 a L->aK D G w0 a (L.set f (br,flat eG (dZ gs i g b)++rest)):=λh a H=>by
  unfold dZ;rw[ao h,NZ l];exact H
 have e:fN gs i g b=match lT gs i with
  |none=>4
  |some k=>if((gs.getD k zG).2.2.1 != g||b&& !(gs.getD k zG).2.2.2.1)=true then 7 else if(gs.getD k zG).2.2.2.2.1=1000 then 3 else 0:=rfl
 unfold BZ BY;cases n:lT gs i with
 |none=>
  rw[n] at e;dsimp only at e;rw[e] at k same;exact aD rfl (au.go H λa H=>k a (same (by decide) H))
 |some q=>
  obtain⟨v,y,s,m, _⟩:=lB n;rw[n] at e;dsimp only at e;obtain⟨x,o⟩: ∃x,x=gs.getD q zG:=⟨_,rfl⟩;rw[<-o] at e m;refine an rfl ⟨rfl,rfl,aj.of x.2.2.1 (B6 H f l m (by decide) rfl) ⟨λ_=>rfl,λ_=>rfl,aj.of x.2.2.2.1 (B6 H f l m (by decide) rfl) (ab (λd=>au.go H λa H=>?_) (λd=>?_))⟩⟩
  ·rw[ax d] at e;rw[e] at k same;exact k a (same (by decide) H)
  ·rw[ao (by rw[d];decide)] at e;refine⟨rfl,rfl,aj.of x.2.2.2.2.1 (B6 H f l m (by decide) rfl) (ab (λd2=>au.go H λa H=>?_) (λd2=>?_))⟩
   ·grind
   ·rw[ao (by simpa using d2)] at e;have hb:=r x (E5 m);refine⟨rfl,rfl,aj.of x.2.2.2.2.1 (B6 H f l m (by decide) rfl) ⟨rfl,rfl,?_⟩⟩;rw[av (by omega) (by omega)];refine aam H f l m (by decide) rfl (fj x 1) rfl λa H=>au.go H λt H=>?_;have u:dZ gs i g b=gs.set q (fj x 1):=by
     unfold dZ;rw[ax e, <-s, <-o]
    rw[e,u] at k;exact k t H
end
section
variable {D G:List Nat} {w0 w:A2} {L:List (Nat×List AR)} {bg br c:Nat} {gs:List GT} {rest:List AR}
theorem QS (H:aK D G w0 w L) (j e:Nat) (o:L[j]? =some (bg,my br gs.length c)) (f:L[e]? =some (br,flat eG gs++rest)) (h0:0<gs.length) (p: ∀x∈gs,0<=x.2.2.2.2.1/\x.2.2.2.2.1<=1000) (i g:Int) {K:Int->A2->Prop}
 (k: ∀a,aK D G w0 a (L.set e (br,flat eG (eM gs i g)++rest))->K (mo gs i g) a):
 aB AB 182 (.el (.one (.int .i64))) [ag (ae bg),aa i,aa g] w K:=by
 refine aB.go H λw1 H=>ai (C:=G3) (aS:=λ_=>[]) (Ab (P_ _ i g w1 K) ?_);refine⟨_,Iv (H.get o) (H.get f) h0 i,?_⟩;have same:mo gs i g≠0-> ∀{a},aK D G w0 a L->aK D G w0 a (L.set e (br,flat eG (eM gs i g)++rest)):=λh a H=>by
  unfold eM;rw[ao h,NZ f];exact H
 have b:mo gs i g=match lT gs i with
  |none=>4
  |some k=>if(gs.getD k zG).2.2.1≠g then 7 else if(gs.getD k zG).2.2.2.2.1=0 then 6 else 0:=rfl
 unfold BZ BY;cases m:lT gs i with
 |none=>
  rw[m] at b;dsimp only at b;rw[b] at k same;exact aD rfl (au.go H λa H=>k a (same (by decide) H))
 |some q=>
  obtain⟨u,v,r,l, _⟩:=lB m;rw[m] at b;dsimp only at b;obtain⟨x,n⟩: ∃x,x=gs.getD q zG:=⟨_,rfl⟩;rw[<-n] at b l;refine an rfl ⟨rfl,rfl,aj.of x.2.2.1 (B6 H e f l (by decide) rfl) (ab (λd=>au.go H λa H=>?_) (λd=>?_))⟩
  grind
  ·rw[ao (by simpa using d)] at b;refine⟨rfl,rfl,aj.of x.2.2.2.2.1 (B6 H e f l (by decide) rfl) (ab (λd2=>au.go H λa H=>?_) (λd2=>?_))⟩
   grind
   ·rw[ao (by simpa using d2)] at b;have hb:=p x (E5 l);refine⟨rfl,rfl,aj.of x.2.2.2.2.1 (B6 H e f l (by decide) rfl) ⟨rfl,rfl,?_⟩⟩;rw[bD (by omega) (by omega)];refine aam H e f l (by decide) rfl (fj x (-1)) rfl λa H=>au.go H λs H=>?_;have t:eM gs i g=gs.set q (fj x (-1)):=by
     unfold eM;rw[ax b, <-r, <-n]
    rw[b,t] at k;exact k s H
theorem G5 (H:aK D G w0 w L) (j f:Nat) (n:L[j]? =some (bg,my br gs.length c)) (g:L[f]? =some (br,flat eG gs++rest)) (h0:0<gs.length) (i o:Int) {K:Int->A2->Prop}
 (k: ∀a,aK D G w0 a (L.set f (br,flat eG (lu gs i o)++rest))->K (pk gs i o) a):
 aB AB 184 (.el (.one (.int .i64))) [ag (ae bg),aa i,aa o] w K:=by
 refine aB.go H λw1 H=>ai (C:=G3) (aS:=λ_=>[]) (Ab (GX _ i o w1 K) ?_);refine⟨_,Iv (H.get n) (H.get g) h0 i,?_⟩;have same:pk gs i o≠0-> ∀{a},aK D G w0 a L->aK D G w0 a (L.set f (br,flat eG (lu gs i o)++rest)):=λh a H=>by
  unfold lu;rw[ao h,NZ g];exact H
 have b:pk gs i o=match lT gs i with
  |none=>4
  |some k=>if(gs.getD k zG).1≠o then 7 else if(gs.getD k zG).2.2.2.2.1>0 then 9 else 0:=rfl
 unfold BZ BY;cases m:lT gs i with
 |none=>
  rw[m] at b;dsimp only at b;rw[b] at k same;exact aD rfl (au.go H λa H=>k a (same (by decide) H))
 |some q=>
  obtain⟨y,z,p,l, _⟩:=lB m;rw[m] at b;dsimp only at b;obtain⟨x,r⟩: ∃x,x=gs.getD q zG:=⟨_,rfl⟩;rw[<-r] at b l;refine an rfl ⟨rfl,rfl,aj.of x.1 (B6 H f g l (by decide) rfl) (ab (λd=>au.go H λa H=>?_) (λd=>?_))⟩
  grind
  ·rw[ao (by simpa using d)] at b;refine⟨rfl,rfl,aj.of x.2.2.2.2.1 (B6 H f g l (by decide) rfl) (ab (λd2=>au.go H λa H=>?_) (λd2=>?_))⟩
   grind
   ·rw[ao (by simpa using d2)] at b;refine⟨rfl,?_⟩;have s:q<gs.length:=(B3.1 l).1;have t:(some (⟨br,q*5,none⟩:AC))=ad (ae br) (q*5):=by rw[aX,B_]
    show az w1 (some (⟨br,q*5,none⟩:AC)) _ _;rw[t];refine az.flat (e:=eG) f H zG g rfl rfl s λa H=>au.go H λu H=>?_;have v:lu gs i o=gs.set q zG:=by
     unfold lu;rw[ax b, <-p]
    rw[b,v] at k;exact k u H
theorem KQ (H:aK D G w0 w L) (j m:Nat) (s:L[j]? =some (bg,my br gs.length c)) (p:L[m]? =some (br,flat eG gs++rest)) (h0:0<gs.length) (F:gs.length<=64) (o q t:Int) (b:Bool) {K:Int×Int×Unit->A2->Prop}
 (k: ∀f,aK D G w0 f (L.set m (br,flat eG (jV gs o q t b)++rest))->K (kr gs o q t,jU gs o q t,()) f):
 aB AB 180 (.bG [.one (.int .i64),.one (.int .i64)]) [ag (ae bg),aa o,aa q,aa t,.bool b] w K:=by
 refine aB.go H λw1 H=>ai (C:=G3) (aS:=λ_=>[]) (Ab (KC _ o q t b w1 K) ?_);have same:jU gs o q t≠0-> ∀{f},aK D G w0 f L->aK D G w0 f (L.set m (br,flat eG (jV gs o q t b)++rest)):=λh f H=>by
  unfold jV;rw[ao h,NZ p];exact H
 have v:jU gs o q t≠0->kr gs o q t=0:=λh=>ao h;refine⟨_,pH (H.get s) h0,an rfl ⟨trivial,λ_=>trivial,ab (λd=>au.go H λf H=>?_) (λd=>?_)⟩⟩
 ·have a:jU gs o q t=1:=ax d;rw[v (by rw[a];decide),a] at k;rw[a] at same;exact k f (same (by decide) H)
 have a:jU gs o q t=if dh gs (kl o q t) gs.length≠[] then 5 else if dh gs e8 gs.length=[] then 3 else 0:=ao (by rw[d];decide);refine aL.go H λbc f H=>az.all 0 H rfl rfl rfl λW H=>KO H (j+1) (m+1) s p h0 F (bc:=bc) (DA) λsl Ls X n H=>?_;obtain⟨sp,A,sc⟩:=sl;have B:A=(dh gs (kl o q t) gs.length).length:=n.len;subst B;have H:=H.sub (Dc _ Ls);refine ab (λd1=>au.go H λI H=>?_) (λd1=>?_)
 ·have d1:dh gs (kl o q t) gs.length≠[]:=by
   intro e;rw[e] at d1;simp at d1
  rw[ax d1] at a;rw[v (by rw[a];decide),a] at k;rw[a] at same;exact k I (same (by decide) (H.sub (Az _ _)))
 have d1: ¬ dh gs (kl o q t) gs.length≠[]:=by
  simp_all
 rw[ao d1] at a;refine KN H (j+1) (m+1) s p h0 F λsl Ls I n H=>?_;obtain⟨sp,A,sc⟩:=sl;have B:A=(dh gs e8 gs.length).length:=n.len;subst B;refine ab (λd2=>au.go H λJ H=>?_) (λd2=>?_)
 ·have d2:dh gs e8 gs.length=[]:=by
   have:(dh gs e8 gs.length).length=0:=by simpa using d2
   exact List.length_eq_zero_iff.1 this
  rw[ax d2] at a;rw[v (by rw[a];decide),a] at k;rw[a] at same;exact k J (same (by decide) (H.sub ((Dc L Ls).trans (Az _ _))))
 have d2: ¬ dh gs e8 gs.length=[]:=by
  intro e;rw[e] at d2;simp at d2
 rw[ao d2] at a;have M:jV gs o q t b=gs.set (kr gs o q t).toNat (o,q,t,b,0,()):=ax a;have N:kr gs o q t=(dh gs e8 gs.length).headD 0:=ax a;rw[M,a] at k;obtain⟨z,l,u⟩: ∃z l,dh gs e8 gs.length=z::l:=List.exists_cons_of_ne_nil d2;have O:kr gs o q t=z:=by rw[N,u];rfl
 rw[O] at k;obtain⟨r,P, _,Q⟩:=qn.1 (by rw[u];exact DA:z∈dh gs e8 gs.length);subst Q;rw[u] at n;have Y:(dh gs e8 gs.length).length=l.length+1:=by rw[u];rfl
 have R: ∀{w:A2} {g:Nat×List AR},aK D G w0 w (g::(L++Ls))->sp.isSome=true/\cH w (ad sp 0) (.one (.int .i64)) (r:Int):=λ{w g} H=>by
  have h:=n.rd H (λy E=>Bx _ (Bs _ E)) (i:=0) (x:=(r:Int)) rfl;exact⟨h.1,h.2⟩
 have S:(L++Ls)[j]? =some (bg,my br gs.length c):=Am s;have T:(L++Ls)[m]? =some (br,flat eG gs++rest):=Am p;refine⟨rfl,az.fK 0 H rfl rfl rfl λJ H=>?_⟩;refine⟨rfl,rfl,aj.cq (j+1) H S rfl ⟨by grind,aj.of _ (R H).2 (aj.at 0 H rfl (show _=some (o,q,t,b,0,()) from rfl) ⟨⟨rfl,by omega,by show(r:Int)<((gs.length:Nat):Int);omega⟩,?_⟩)⟩⟩;refine az.flat (e:=eG) (m+1) H (o,q,t,b,0,()) T rfl rfl P λU H=>?_;have H:aK D G w0 U ((bc,[aa o,aa q,aa t,.bool b,aa 0])::((L++Ls).set m (br,flat eG (gs.set r (o,q,t,b,0,()))++rest))):=H;rw[Gd _ _ (B3.1 p).1] at H;have h:=n.rd H (λy E=>Bx _ (Bs _ E)) (i:=0) (x:=(r:Int)) rfl;refine⟨by grind,aj.of _ h.2 (au.go H λV H=>k V (H.sub ((Dc _ Ls).trans (Az _ _))))⟩
theorem QT (H:aK D G w0 w L) (j b:Nat) (B:L[j]? =some (bg,my br gs.length c)) (q:L[b]? =some (br,flat eG gs++rest)) (h0:0<gs.length) (E:gs.length<=64) (S:j≠b) (g:Int) {K:Int->A2->Prop}
 (k: ∀n r,aK D G w0 r (L.set b (br,flat eG (cM gs g)++rest))->K n r):
 aB AB 169 (.el (.one (.int .i64))) [ag (ae bg),aa g] w K:=by
 refine aB.go H λw1 H=>ai (C:=G3) (aS:=tY) (Ab (Qa _ g w1 K) ?_);refine aL.go H λbc r H=>KP H (j+1) (b+1) B q h0 E (bc:=bc) (DA) λsl Ls F s H=>?_;have H:aK D G w0 F ((bc,[aa g])::(L++Ls)):=H;have H:aK D G w0 F (L++Ls):=H.sub (Az _ _);obtain⟨sp,T,sc⟩:=sl;have U:T=(dh gs (o7 g) gs.length).length:=s.len;subst U;obtain⟨l,f⟩: ∃l,l=dh gs (o7 g) gs.length:=⟨_,rfl⟩;have hll:l.length<=64:=by rw[f];exact Dn (qo _ _ _) E
 have I: ∀z∈l, ∃i:Nat,i<gs.length/\o7 g (gs.getD i zG)=true/\z=(i:Int):=λz J=>by rw[f] at J;exact qn.1 J
 have V: ∀i:Nat,i<gs.length->o7 g (gs.getD i zG)=true->(i:Int)∈l:=λi h1 t=>by rw[f];exact qn.2 ⟨i,h1,t,rfl⟩
 rw[<-f] at s ⊢;clear f;have W:=(B3.1 q).1;have M: ∀X:Nat×List AR,((L++Ls).set b X)=L.set b X++Ls:=λX=>Gd _ _ W;refine⟨λn v w'=> ∃(m:Nat) (a:List GT),v.1=(m:Int)/\n+m=l.length/\a.length=gs.length/\(∀i:Nat,i<gs.length->a.getD i zG=if(i:Int)∈l.take m then zG else gs.getD i zG)/\aK D G w0 w' ((L++Ls).set b (br,flat eG a++rest)),⟨l.length,λY Z=>⟨0,gs,rfl,rfl,rfl,λi hi=>by simp,by rw[NZ (Am q)];exact H.ext Z⟩⟩,?_⟩;clear H;rintro n ⟨v,u⟩ Y ⟨m,a,e,hn,N,x,H⟩;dsimp only at e ⊢;subst e;refine ab (λA=>?_) (λA=>au.go H λO H=>k _ O ?_)
 ·have P:m<l.length:=by simpa using A
  have o:=B2 P;obtain⟨z,hze⟩: ∃z,z=l[m]:=⟨_,rfl⟩;rw[<-hze] at o;obtain⟨d,z1,z2,rfl⟩:=I z (E5 o);have kN:l.take (m+1)=l.take m++[(d:Int)]:=by rw[J8,o];rfl
  have Q:=s.rd H (λy hy=>by rw[M];exact Bs _ hy) o;have hmb:((L++Ls).set b (br,flat eG a++rest))[j]? =some (bg,my br a.length c):=by
   rw[N,Dj (λe=>S e.symm)];exact Am B
  have hwb:((L++Ls).set b (br,flat eG a++rest))[b]? =some (br,flat eG a++rest):=by
   rw[DJ (by rw[Dt];omega)]
  refine⟨⟨Q.1,by omega,by omega⟩,aj.of _ Q.2 ⟨rfl,rfl,aj.cq j H hmb rfl ⟨⟨rfl,by omega,by show(d:Int)<((a.length:Nat):Int);omega⟩,?_⟩⟩⟩;refine az.flat (e:=eG) b H zG hwb rfl rfl (by omega:d<a.length) λO H=>λw6 R=>⟨n - 1,by omega,m+1,a.set d zG,by rw[av (by omega) (by omega)];omega,by omega,by rw[Ga];exact N,λi hi=>?_,?_⟩
  ·rw[kN];by_cases ei:i=d
   ·subst ei;rw[ax (by simp)];rw[B4,DJ (by omega)];rfl
   ·have:(a.set d zG).getD i zG=a.getD i zG:=by
     grind
    rw[this,x i hi];by_cases p:(i:Int)∈l.take m
    ·rw[ax p,ax (DU _ p)]
    ·rw[ao p,ao (λh=>?_)];rcases Ik.1 h with h|h
     ·exact p h
     ·have:(i:Int)=d:=by simpa using h
      omega
  ·rw[BT] at H;exact H.ext R
 ·have P: ¬ m<l.length:=by simpa using A
  rw[Dy (by omega)] at x;have e:a=cM gs g:=Dl λi=>by
   unfold cM;rw[JJ];by_cases hi:i<gs.length
   ·have h1:=x i hi;have t:a[i]? =some (a.getD i zG):=by rw[B4,B2 (by omega)];rfl
    have h3:gs[i]? =some (gs.getD i zG):=by rw[B4,B2 hi];rfl
    rw[t,h3,h1];show _=some (if o7 g (gs.getD i zG)=true then zG else gs.getD i zG);by_cases c:o7 g (gs.getD i zG)=true
    ·rw[ax c,ax (V i hi c)]
    ·rw[ao c,ao (λh=>?_)];obtain⟨i', _,h5,R⟩:=I _ h;have:i'=i:=by omega
     subst this;exact c h5
   ·rw[JL (by omega),JL (by omega)];rfl
  subst e;rw[M] at H;exact H.sub (Dc _ _)
theorem UM (H:aK D G w0 w L) (n:Nat) (c:1<=n/\n<=64) {K:Option AC×Int×Unit->A2->Prop}
 (k: ∀bg br a,aK D G w0 a ((bg,my br (B9 n zG).length n)::(br,flat eG (B9 n zG)++[])::L)->K (some ⟨bg,0,none⟩,0,()) a):
 aB AB 73 (.bG [.one .ptr,.one (.int .i64)]) [aa (n:Int)] w K:=by
 refine aB.go H λw1 H=>ai (C:=G3) (Ab (Ux _ w1 K) ?_);refine an (by grind) ?_;refine Nr.go H rfl (by omega) (Int.le_refl _) (by omega) (by omega) λb a H=>aL.go H λd f H=>au.go H λg H=>?_;have e:(B9 ((n:Nat):Int).toNat [aa 0,aa 0,aa 0,.bool false,aa 0]).flatten=flat eG (B9 n zG)++[]:=by
  rw[C6,lI];rfl
 grind
end
end Go.Proofs.YtlcenllcmeebhaaGreat
namespace Go.Proofs.YtlcenllcmeebhaaGreat.Po
set_option maxRecDepth 100000
open Go.RX
def gp (ps:List PT) (g i:Int):PT:=ps.getD (ix g i) zP
def dN (room:Int) (ps:List PT) (g:Int) (x:PT):(Int×Int)×List PT:=if cx room ps g= -1 then((0,3),ps) else((cx room ps g,0),ps.set (ix g (cx room ps g)) x)
def iK (room:Int) (ps:List PT) (g r:Int):(Int×Int)×List PT:=if o8 g r=0 then dN room ps g (1,r,0,false,false,()) else((0,o8 g r),ps)
def gN (room:Int) (ps:List PT) (g r i:Int):(Int×Int)×List PT:=
 if o8 g r=0 then
  match oU room ps r i with
  |none=>((0,4),ps)
  |some k=>
   if(ps.getD k zP).1=2 then((0,6),ps) else if(ps.getD k zP).2.1≠g then((0,7),ps) else
    if cx room ps g= -1 then((0,3),ps) else
     ((cx room ps g,0),(ps.set (ix g (cx room ps g)) (2,r,i,false,false,())).set k (2,(ps.getD k zP).2.1,cx room ps g,(ps.getD k zP).2.2.2))
 else((0,o8 g r),ps)
def ku (room:Int) (ps:List PT) (g i:Int):Int×List PT:=
 match oU room ps g i with
 |none=>(4,ps)
 |some k=>if(ps.getD k zP).1=2 then
   let y:=gp ps (ps.getD k zP).2.1 (ps.getD k zP).2.2.1
   (0,ps.set (ix (ps.getD k zP).2.1 (ps.getD k zP).2.2.1) (y.1,y.2.1,y.2.2.1,true,y.2.2.2.2))
  else(6,ps)
def vH (ps:List PT) (g:Int) (i:Nat):Bool:=gI g&&((gp ps g i).2.2.2.1&& !(gp ps g i).2.2.2.2.1)
def pv (room:Int) (ps:List PT) (g:Int):List Int:=((Ca room.toNat).filter (vH ps g)).map λi=>((i:Nat):Int)
def gO (room:Int) (ps:List PT) (g:Int):(Int×Bool)×List PT:=
 match pv room ps g with
 |[]=>((0,false),ps)
 |i:: _=>((i,true),ps.set (ix g i) ((gp ps g i).1,(gp ps g i).2.1,(gp ps g i).2.2.1,false,(gp ps g i).2.2.2.2))
def d_ (room:Int) (ps:List PT) (g i:Int):Int×List PT:=
 match oU room ps g i with
 |none=>(4,ps)
 |some k=>if(ps.getD k zP).1=2 then
   let y:=gp ps (ps.getD k zP).2.1 (ps.getD k zP).2.2.1
   (0,(ps.set (ix (ps.getD k zP).2.1 (ps.getD k zP).2.2.1) (1,y.2.1,0,y.2.2.2)).set k zP)
  else(0,ps.set k zP)
def ij (room:Int) (ps:List PT) (g:Int):Nat->Int×List PT
 |0=>(0,ps)
 |i+1=>((ij room ps g i).1+(if(d_ room (ij room ps g i).2 g i).1=0 then 1 else 0),(d_ room (ij room ps g i).2 g i).2)
def py (room g:Int) (s:Int×List PT) (k i:Int):Int×List PT:=
 match oU room s.2 k i with
 |none=>s
 |some x=>if(s.2.getD x zP).2.1=g then(s.1+1,s.2.set x zP) else s
def mE (room g:Int) (s:Int×List PT) (k:Int):Nat->Int×List PT
 |0=>s
 |i+1=>py room g (mE room g s k i) k i
def kx (room g:Int) (s:Int×List PT):Nat->Int×List PT
 |0=>s
 |k+1=>mE room g (kx room g s k) ((k:Int)+1) room.toNat
def cG (room:Int) (ps:List PT) (g:Int):Int×List PT:=if gI g then kx room g (ij room ps g room.toNat) 16 else(0,ps)
structure lJ (room:Int) (ps:List PT):Prop extends okS room ps where
 inv: ∀g i,sr room g i=true->gp ps g i=zP\/((gp ps g i).1=1/\(1<=(gp ps g i).2.1/\(gp ps g i).2.1<=16)/\(gp ps g i).2.1≠g/\(gp ps g i).2.2.1=0)\/
  ((gp ps g i).1=2/\(gp ps g i).2.1≠g/\sr room (gp ps g i).2.1 (gp ps g i).2.2.1=true/\(gp ps (gp ps g i).2.1 (gp ps g i).2.2.1).1=2/\(gp ps (gp ps g i).2.1 (gp ps g i).2.2.1).2.1=g/\(gp ps (gp ps g i).2.1 (gp ps g i).2.2.1).2.2.1=i)
theorem Aw {ps:List PT} {k:Nat} (h:k<ps.length) (x:PT):(ps.set k x).getD k zP=x:=by grind
theorem pU {ps:List PT} {k j:Nat} (h:k≠j) (x:PT):(ps.set k x).getD j zP=ps.getD j zP:=by grind
theorem iZ {room:Int} {ps:List PT} (b:okS room ps) {g i g' a:Int} (h:sr room g i=true) (h':sr room g' a=true) (x:PT):gp (ps.set (ix g i) x) g' a=if g'=g/\a=i then x else gp ps g' a:=by
 by_cases e:g'=g/\a=i
 ·rw[ax e,e.1,e.2];exact Aw (by rw[b.len];exact pq h b.hi) x
 ·rw[ao e];exact pU (λc=>e (by have:=OW h h' b.hi;grind)) x
theorem u5 {room:Int} {ps:List PT} {g i:Int} (h:sr room g i=true):oU room ps g i=if gp ps g i=zP then none else some (ix g i):=by grind[oU,gp]
theorem qd {g r:Int}:o8 g r=0<->gI g=true/\gI r=true/\g≠r:=by grind[o8]
section
variable {D G:List Nat} {w0 w:A2} {L:List (Nat×List AR)} {bp:Nat} {room:Int} {ps:List PT}
theorem FU (H:aK D G w0 w L) (j:Nat) (a:L[j]? =some (bp,gK room ps)) (b:okS room ps) (g i:Int) {r:Option Nat} (c:oU room ps g i=r):af AB 213 [ag (ae bp),aa g,aa i] w (ag (r.map λk=>⟨bp,k*5,none⟩)):=by
 subst c;exact af.of λw' h'=>DP ((H.get a).ext h') b g i
theorem WT (H:aK D G w0 w L) (j:Nat) (a:L[j]? =some (bp,gK room ps)) (b:okS room ps) (g i:Int):af AB 229 [ag (ae bp),aa g,aa i] w (aa (o8 g i)):=
 af.of λw' h'=>Zi ((H.get a).ext h') b g i
theorem OX (H:aK D G w0 w L) (j:Nat) (a:L[j]? =some (bp,gK room ps)) (b:okS room ps):af AB 231 [ag (ae bp)] w (aa 4):=
 af.of λw' h'=>UL ((H.get a).ext h') b
theorem UN (H:aK D G w0 w L) (j:Nat) (a:L[j]? =some (bp,gK room ps)) (b:okS room ps):af AB 211 [ag (ae bp)] w (.bool true):=
 af.of λw' h'=>pI ((H.get a).ext h') b
theorem kM {j:Nat} {x y:Nat×List AR} (h:L[j]? =some x):(L.set j y)[j]? =some y:=by grind
theorem OY (H:aK D G w0 w L) (j:Nat) (r:L[j]? =some (bp,gK room ps)) (i:okS room ps) (g:Int) (t:gI g=true) (x:PT) {K:Int×Int×Unit->A2->Prop}
 (k: ∀l,aK D G w0 l (L.set j (bp,gK room (dN room ps g x).2))->K ((dN room ps g x).1.1,(dN room ps g x).1.2,()) l):
 aB AB 230 (.bG [.one (.int .i64),.one (.int .i64)]) [ag (ae bp),aa g,.agg ⟨a9 sQ x⟩] w K:=by
 obtain⟨x1,a,d,f,h,m⟩:=x;refine aB.go H λw1 H=>ai (C:=R1) (aS:=λ_=>[]) (Ab (Zh _ g x1 a d f h w1 K) ?_);have u:=i.hi;refine aL.go H λb l H=>?_;have o:((b,a9 sQ (x1,a,d,f,h,()))::L)[j+1]? =some (bp,gK room ps):=r;refine⟨cx room ps g,af.of (s:= .el (.one (.int .i64))) λw' h'=>QQ ((H.get o).ext h') i g,ab (λc=>?_) (λc=>?_)⟩
 ·have e:cx room ps g= -1:=by simpa using c
  have n:dN room ps g (x1,a,d,f,h,m)=((0,3),ps):=ax e;rw[n] at k;refine au.go H λp H=>k p ?_;have v:L.set j (bp,gK room ps)=L:=Dl (by grind);rw[v];exact H.sub (Az _ _)
 ·have e:cx room ps g≠ -1:=by simpa using c
  have n:dN room ps g (x1,a,d,f,h,m)=((cx room ps g,0),ps.set (ix g (cx room ps g)) (x1,a,d,f,h,m)):=ao e;rw[n] at k;have q:=(mS t e).1;have E:=eV.1 q;have y:=pq q u;have es:aZ .i64 g 1=g - 1:=bD (by omega) (by omega);rw[es];have z:ad (ad (ad (ae bp) 0) ((g - 1).toNat*160)) ((cx room ps g).toNat*5)=ad (ae bp) (ix g (cx room ps g)*aF eQ):=by
   rw[aX,aX,aX,aX];unfold ix;congr 2;show _=0+ _*5;omega
  have A:ad (ad (ae bp) 0) ((g - 1).toNat*160)=some ⟨bp,0+0+(g - 1).toNat*160,none⟩:=by rw[aX,aX]
  rw[z,A];refine aj.at 0 H rfl (x:=(x1,a,d,f,h,())) rfl ⟨rfl,rfl,⟨rfl,by omega,by omega⟩,⟨rfl,by omega,by omega⟩,?_⟩;refine az.flat (j+1) H (x1,a,d,f,h,()) o rfl rfl (by rw[i.len];exact y) λp H=>au.go H λB H=>k B ?_;exact H.sub (Az _ _)
theorem lC {j:Nat} {x:Nat×List AR} (h:L[j]? =some x):L.set j x=L:=Dl (by grind)
theorem QU (H:aK D G w0 w L) (j:Nat) (a:L[j]? =some (bp,gK room ps)) (h:okS room ps) (g r:Int) {K:Int×Int×Unit->A2->Prop}
 (k: ∀b,aK D G w0 b (L.set j (bp,gK room (iK room ps g r).2))->K ((iK room ps g r).1.1,(iK room ps g r).1.2,()) b):
 aB AB 185 (.bG [.one (.int .i64),.one (.int .i64)]) [ag (ae bp),aa g,aa r] w K:=by
 refine aB.go H λw1 H=>ai (C:=R1) (Ab (QK _ g r w1 K) ?_);refine⟨_,WT H j a h g r,ab (λc=>?_) (λc=>?_)⟩
 ·have e:=by simpa using c
  have d:iK room ps g r=((0,o8 g r),ps):=ao e;rw[d] at k;refine au.go H λf H=>k f ?_;rw[lC a];exact H
 ·have e:o8 g r=0:=by simpa using c
  have d:iK room ps g r=dN room ps g _:=ax e;rw[d] at k;exact OY H j a h g (qd.1 e).1 (1,r,0,false,false,()) λb H=>au.go H λf H=>k f H
theorem QV (H:aK D G w0 w L) (j:Nat) (a:L[j]? =some (bp,gK room ps)) (b:okS room ps) (g r i:Int) {K:Int×Int×Unit->A2->Prop}
 (k: ∀h,aK D G w0 h (L.set j (bp,gK room (gN room ps g r i).2))->K ((gN room ps g r i).1.1,(gN room ps g r i).1.2,()) h):
 aB AB 186 (.bG [.one (.int .i64),.one (.int .i64)]) [ag (ae bp),aa g,aa r,aa i] w K:=by
 refine aB.go H λw1 H=>ai (C:=R1) (aS:=λ_=>[]) (Ab (QL _ g r i w1 K) ?_);have l: ∀v:Int×Int,gN room ps g r i=(v,ps)->au w1 λw1=>K (v.1,v.2,()) w1:=λv e=>by
  rw[e] at k;refine au.go H λf H=>k f ?_;rw[lC a];exact H
 refine⟨_,WT H j a b g r,ab (λc=>?_) (λc=>?_)⟩
 ·have e: ¬ o8 g r=0:=by simpa using c
  exact l (0,o8 g r) (ao e)
 have e:o8 g r=0:=by simpa using c
 obtain⟨p,I,B⟩:=qd.1 e;have hb:gN room ps g r i= _:=ax e;refine⟨_,FU H j a b r i rfl,?_⟩;cases m:oU room ps r i with
 |none=>
  rw[m] at hb;exact aD rfl (l (0,4) hb)
 |some kk=>
  rw[m] at hb;obtain⟨q,s,J⟩:=fC m;have t:kk<512:=by rw[s];exact pq q b.hi
  have u:=b.get t;refine an rfl ⟨rfl,rfl,aj.cq j H a (sv u (by decide) rfl) (ab (λc1=>?_) (λc1=>?_))⟩
  ·exact l (0,6) (hb.trans (ax (by simpa using c1)))
  refine⟨rfl,rfl,aj.cq j H a (sv u (by decide) rfl) (ab (λc2=>?_) (λc2=>?_))⟩
  grind
  have y:=hb.trans ((ao (by simpa using c1)).trans (ao (by simpa using c2)));refine OY H j a b g p (2,r,i,false,false,()) λh H=>?_;by_cases d:cx room ps g= -1
  ·have n:dN room ps g (2,r,i,false,false,())=((0,3),ps):=ax d;rw[n] at H ⊢;have o:gN room ps g r i=((0,3),ps):=y.trans (ax d);rw[o] at k;exact an rfl (au.go H λf H=>k f H)
  ·have n:dN room ps g (2,r,i,false,false,())=((cx room ps g,0),ps.set (ix g (cx room ps g)) (2,r,i,false,false,())):=ao d;rw[n] at H ⊢;have E:ix g (cx room ps g)≠kk:=λz=>by
    rw[s] at z;exact B (OW (mS p d).1 q b.hi z).1
   have o:gN room ps g r i=((cx room ps g,0), _):=y.trans (ao d);rw[o] at k;have A:=(b.set (ix g (cx room ps g)) (2,r,i,false,false,())).get t;rw[pU E] at A;refine aD rfl ⟨rfl,rfl,?_⟩;refine az.sv j H (2,(ps.getD kk zP).2.1,(ps.getD kk zP).2.2.1,(ps.getD kk zP).2.2.2.1,(ps.getD kk zP).2.2.2.2.1,()) (kM a) A (by decide) rfl rfl λf H=>⟨rfl,rfl,?_⟩;rw[BT] at H;refine az.sv j H (x:=(2,(ps.getD kk zP).2.1,(ps.getD kk zP).2.2.1,(ps.getD kk zP).2.2.2.1,(ps.getD kk zP).2.2.2.2.1,())) (2,(ps.getD kk zP).2.1,cx room ps g,(ps.getD kk zP).2.2.2.1,(ps.getD kk zP).2.2.2.2.1,()) (kM a) (by grind) (by decide) rfl rfl λM H=>au.go H λF H=>k F ?_;rw[BT,BT] at H;exact H
end
theorem lJ.nz {room:Int} {ps:List PT} (f:lJ room ps) {g i:Int} {k:Nat} (h:oU room ps g i=some k) (a:(ps.getD k zP).1=2):
 (ps.getD k zP).2.1≠g/\sr room (ps.getD k zP).2.1 (ps.getD k zP).2.2.1=true/\oU room ps (ps.getD k zP).2.1 (ps.getD k zP).2.2.1=some (ix (ps.getD k zP).2.1 (ps.getD k zP).2.2.1):=by
 obtain⟨j,l,b⟩:=fC h;subst l;have m:ps.getD (ix g i) zP=gp ps g i:=rfl;rw[m] at a b ⊢;rcases f.inv g i j with e|e|⟨_,n,c,d,p⟩
 ·exact absurd e b
 ·rw[e.1] at a;exact absurd a (by decide)
 ·refine⟨n,c,?_⟩;rw[u5 c,ao];intro o;rw[o] at d;exact absurd d (by decide)
theorem zz {room:Int} {ps:List PT} {g i:Int} {k:Nat} (a:oU room ps g i=some k):ku room ps g i=if(ps.getD k zP).1=2 then(0,ps.set (ix (ps.getD k zP).2.1 (ps.getD k zP).2.2.1) ((gp ps (ps.getD k zP).2.1 (ps.getD k zP).2.2.1).1,(gp ps (ps.getD k zP).2.1 (ps.getD k zP).2.2.1).2.1,(gp ps (ps.getD k zP).2.1 (ps.getD k zP).2.2.1).2.2.1,true,(gp ps (ps.getD k zP).2.1 (ps.getD k zP).2.2.1).2.2.2.2)) else(6,ps):=by
 unfold ku;rw[a]
theorem pO {room:Int} {ps:List PT} {g i:Int} {k:Nat} (a:oU room ps g i=some k):d_ room ps g i=if(ps.getD k zP).1=2 then(0,(ps.set (ix (ps.getD k zP).2.1 (ps.getD k zP).2.2.1) (1,(gp ps (ps.getD k zP).2.1 (ps.getD k zP).2.2.1).2.1,0,(gp ps (ps.getD k zP).2.1 (ps.getD k zP).2.2.1).2.2.2)).set k zP) else(0,ps.set k zP):=by
 unfold d_;rw[a]
theorem G6 {room:Int} {ps:List PT} {g i:Int} (a:oU room ps g i=none):ku room ps g i=(4,ps):=by unfold ku;rw[a]
theorem wc {room:Int} {ps:List PT} {g i:Int} (a:oU room ps g i=none):d_ room ps g i=(4,ps):=by unfold d_;rw[a]
section
variable {D G:List Nat} {w0 w:A2} {L:List (Nat×List AR)} {bp:Nat} {room:Int} {ps:List PT}
theorem QW (H:aK D G w0 w L) (j:Nat) (a:L[j]? =some (bp,gK room ps)) (f:lJ room ps) (g i:Int) {K:Int->A2->Prop}
 (k: ∀h,aK D G w0 h (L.set j (bp,gK room (ku room ps g i).2))->K (ku room ps g i).1 h):
 aB AB 187 (.el (.one (.int .i64))) [ag (ae bp),aa g,aa i] w K:=by
 refine aB.go H λw1 H=>ai (C:=R1) (aS:=λ_=>[]) (Ab (QM _ g i w1 K) ?_);have b:=f.tookS;have l: ∀v:Int,ku room ps g i=(v,ps)->au w1 λw1=>K v w1:=λv e=>by
  rw[e] at k;refine au.go H λm H=>k m ?_;rw[lC a];exact H
 refine⟨_,FU H j a b g i rfl,?_⟩;cases c:oU room ps g i with
 |none=>exact aD rfl ⟨4,OX H j a b,l 4 (by unfold ku;rw[c])⟩
 |some kk=>
  obtain⟨o,p,y⟩:=fC c;have q:kk<512:=by rw[p];exact pq o b.hi
  have d:=b.get q;have hb:=zz c;refine an rfl ⟨rfl,rfl,aj.cq j H a (sv d (by decide) rfl) (ab (λc1=>?_) (λc1=>?_))⟩
  ·exact l 6 (hb.trans (ao (by simpa using c1)))
  have n:(ps.getD kk zP).1=2:=by simpa using c1
  rw[hb,ax n] at k;obtain⟨z,r,s⟩:=f.nz c n;have t:=pq r b.hi;have u:=b.get t;refine⟨rfl,rfl,aj.cq j H a (sv d (by decide) rfl) ⟨rfl,rfl,aj.cq j H a (sv d (by decide) rfl) ⟨_,FU H j a b _ _ s,rfl,rfl,?_⟩⟩⟩;exact az.sv j H (_, _, _,true, _,()) a u (by decide) rfl rfl λm H=>au.go H λx H=>k x H
theorem az.port (j:Nat) (H:aK D G w0 w L) (a:L[j]? =some (bp,gK room ps)) {k:Nat} (b:k<ps.length) (y:PT) {vs:List AR} (hv:vs=a9 sQ y) {K:A2->Prop}
 (c: ∀w1,aK D G w0 w1 (L.set j (bp,gK room (ps.set k y)))->K w1):az w (some ⟨bp,k*5,none⟩) vs K:=by
 have:=az.flat j H (e:=eQ) (rest:=[aa room]) (i:=k) y a hv rfl b c;rw[aX,B_] at this;exact this
theorem Bb (H:aK D G w0 w L) (j:Nat) (a:L[j]? =some (bp,gK room ps)) (m:lJ room ps) (g i:Int) {K:Int->A2->Prop}
 (k: ∀n,aK D G w0 n (L.set j (bp,gK room (d_ room ps g i).2))->K (d_ room ps g i).1 n):
 aB AB 189 (.el (.one (.int .i64))) [ag (ae bp),aa g,aa i] w K:=by
 refine aB.go H λw1 H=>ai (C:=R1) (aS:=λ_=>[]) (Ab (KM _ g i w1 K) ?_);have b:=m.tookS;refine⟨_,FU H j a b g i rfl,?_⟩;cases c:oU room ps g i with
 |none=>
  have e:d_ room ps g i=(4,ps):=by unfold d_;rw[c]
  rw[e] at k;refine aD rfl ⟨4,OX H j a b,au.go H λo H=>k o ?_⟩;rw[lC a];exact H
 |some kk=>
  obtain⟨s,t,A⟩:=fC c;have d:kk<512:=by rw[t];exact pq s b.hi
  have f:=b.get d;have hb:=pO c;refine an rfl ⟨rfl,rfl,aj.cq j H a (sv f (by decide) rfl) (ab (λc1=>?_) (λc1=>?_))⟩
  ·have p:(ps.getD kk zP).1=2:=by simpa using c1
   rw[hb,ax p] at k;obtain⟨B,u,v⟩:=m.nz c p;have h:=pq u b.hi;have q:=b.get h;refine⟨rfl,rfl,aj.cq j H a (sv f (by decide) rfl) ⟨rfl,rfl,aj.cq j H a (sv f (by decide) rfl) ⟨_,FU H j a b _ _ v,rfl,rfl,?_⟩⟩⟩;obtain⟨y,r⟩: ∃y,y=gp ps (ps.getD kk zP).2.1 (ps.getD kk zP).2.2.1:=⟨_,rfl⟩;rw[<-r] at k;have q:ps[ix (ps.getD kk zP).2.1 (ps.getD kk zP).2.2.1]? =some y:=by rw[r];exact b.get h
   refine az.sv j H (1,y.2.1,y.2.2.1,y.2.2.2.1,y.2.2.2.2.1,()) a q (by decide) rfl rfl λo H=>⟨rfl,rfl,?_⟩;refine az.sv j H (x:=(1,y.2.1,y.2.2.1,y.2.2.2.1,y.2.2.2.2.1,())) (1,y.2.1,0,y.2.2.2.1,y.2.2.2.2.1,()) (kM a) (by rw[DJ (by rw[b.len];exact h)]) (by decide) rfl rfl λE H=>⟨rfl,?_⟩;rw[BT,BT] at H;refine az.port j H (kM a) (by rw[Ga,b.len];exact d) zP rfl λz H=>au.go H λl H=>k l ?_;rw[BT] at H;exact H
  ·rw[hb,ao (by simpa using c1)] at k;exact⟨rfl,az.port j H a (by rw[b.len];exact d) zP rfl λz H=>au.go H λl H=>k l H⟩
end
section
variable {room:Int} {ps:List PT}
theorem lJ.Yu (b:lJ room ps) {g i:Int} (h:sr room g i=true) (l:(gp ps g i).1≠2) {y:PT} (d:y=zP\/(y.1=1/\(1<=y.2.1/\y.2.1<=16)/\y.2.1≠g/\y.2.2.1=0)):lJ room (ps.set (ix g i) y) where
 tookS:=b.tookS.set _ _
 inv g' a h':=by
  by_cases e:g'=g/\a=i
  ·have f:gp (ps.set (ix g i) y) g' a=y:=(iZ b.tookS h h' y).trans (ax e);rw[f,e.1];rcases d with d|d
   ·exact .inl d
   ·exact .inr (.inl d)
  ·have f:gp (ps.set (ix g i) y) g' a=gp ps g' a:=(iZ b.tookS h h' y).trans (ao e);rw[f];rcases b.inv g' a h' with z|z|⟨m,n,k,j,o,p⟩
   ·exact .inl z
   ·exact .inr (.inl z)
   ·have q: ¬ ((gp ps g' a).2.1=g/\(gp ps g' a).2.2.1=i):=λc=>by rw[c.1,c.2] at j;exact l j
    have r:gp (ps.set (ix g i) y) (gp ps g' a).2.1 (gp ps g' a).2.2.1=gp ps (gp ps g' a).2.1 (gp ps g' a).2.2.1:=(iZ b.tookS h k y).trans (ao q);rw[r];exact .inr (.inr ⟨m,n,k,j,o,p⟩)
theorem lJ.sO (c:lJ room ps) {g i:Int} (h:sr room g i=true) (k:gp ps g i≠zP) {y:PT} (h1:y.1=(gp ps g i).1) (l:y.2.1=(gp ps g i).2.1) (m:y.2.2.1=(gp ps g i).2.2.1):lJ room (ps.set (ix g i) y) where
 tookS:=c.tookS.set _ _
 inv g' d h':=by
  have key: ∀a b,sr room a b=true->(gp (ps.set (ix g i) y) a b).1=(gp ps a b).1/\(gp (ps.set (ix g i) y) a b).2.1=(gp ps a b).2.1/\(gp (ps.set (ix g i) y) a b).2.2.1=(gp ps a b).2.2.1:=λa b f=>by
   by_cases e:a=g/\b=i
   ·rw[(iZ c.tookS h f y).trans (ax e),e.1,e.2];exact⟨h1,l,m⟩
   ·rw[(iZ c.tookS h f y).trans (ao e)];exact⟨rfl,rfl,rfl⟩
  obtain⟨n,o,p⟩:=key g' d h';rw[n,o,p];rcases c.inv g' d h' with z|z|⟨q,r,j,s,t,u⟩
  ·refine .inl ?_;by_cases e:g'=g/\d=i
   ·rw[e.1,e.2] at z;exact absurd z k
   ·rw[(iZ c.tookS h h' y).trans (ao e)];exact z
  ·exact .inr (.inl z)
  ·obtain⟨v,w,x⟩:=key _ _ j;rw[v,w,x];exact .inr (.inr ⟨q,r,j,s,t,u⟩)
theorem lJ.dN (b:lJ room ps) {g:Int} (c:gI g=true) {y:PT} (d:y.1=1/\(1<=y.2.1/\y.2.1<=16)/\y.2.1≠g/\y.2.2.1=0):lJ room (dN room ps g y).2:=by
 unfold Go.Proofs.YtlcenllcmeebhaaGreat.Po.dN;split
 ·exact b
 ·rename_i f;obtain⟨h1,a⟩:=mS c f;rw[u5 h1] at a;have h:gp ps g (cx room ps g)=zP:=by
   by_cases e:gp ps g (cx room ps g)=zP
   ·exact e
   ·rw[ao e] at a;cases a
  exact b.Yu h1 (by rw[h];decide) (.inr d)
theorem lJ.iK (a:lJ room ps) (g r:Int):lJ room (iK room ps g r).2:=by
 unfold Go.Proofs.YtlcenllcmeebhaaGreat.Po.iK;split
 ·rename_i e;obtain⟨h1,b,c⟩:=qd.1 e;exact a.dN h1 ⟨rfl,nI.1 b,λe=>c e.symm,rfl⟩
 ·exact a
theorem lJ.gN (f:lJ room ps) (g r i:Int):lJ room (gN room ps g r i).2:=by
 unfold Go.Proofs.YtlcenllcmeebhaaGreat.Po.gN;split
 ·rename_i e;obtain⟨h1,G,n⟩:=qd.1 e;split
  ·exact f
  ·rename_i k y;split
   ·exact f
   ·split
    ·exact f
    ·split
     ·exact f
     ·rename_i t h A;obtain⟨l,o⟩:=mS h1 A;rw[u5 l] at o;have u:gp ps g (cx room ps g)=zP:=by
       by_cases e:gp ps g (cx room ps g)=zP
       ·exact e
       ·rw[ao e] at o;cases o
      obtain⟨p1,p2,p3⟩:=fC y;subst p2;have B:ps.getD (ix r i) zP=gp ps r i:=rfl;rw[B] at t h p3 ⊢;have h:(gp ps r i).2.1=g:=Classical.byContradiction h;generalize cx room ps g=j at l u;have p:=f.tookS;have key: ∀a b,sr room a b=true->gp ((ps.set (ix g j) (2,r,i,false,false,())).set (ix r i) (2,(gp ps r i).2.1,j,(gp ps r i).2.2.2)) a b=if a=r/\b=i then(2,(gp ps r i).2.1,j,(gp ps r i).2.2.2) else if a=g/\b=j then(2,r,i,false,false,()) else gp ps a b:=λa b v=>by
       rw[iZ (p.set _ _) p1 v,iZ p l v]
      show lJ room ((ps.set (ix g j) (2,r,i,false,false,())).set (ix r i) (2,(gp ps r i).2.1,j,(gp ps r i).2.2.2));have w:=(p.set (ix g j) (2,r,i,false,false,())).set (ix r i) (2,(gp ps r i).2.1,j,(gp ps r i).2.2.2);generalize (ps.set (ix g j) (2,r,i,false,false,())).set (ix r i) (2,(gp ps r i).2.1,j,(gp ps r i).2.2.2)=X at key w ⊢;refine⟨w,λg' d h'=>?_⟩;rw[key g' d h'];by_cases q:g'=r/\d=i
      ·rw[ax q];obtain⟨rfl,rfl⟩:=q;refine .inr (.inr ⟨rfl,by rw[h];exact n,by rw[h];exact l,?_⟩);show(gp _ (gp ps g' d).2.1 j).1=2/\(gp _ (gp ps g' d).2.1 j).2.1=g'/\(gp _ (gp ps g' d).2.1 j).2.2.1=d;rw[h,key g j l,ao (λc=>n c.1),ax ⟨rfl,rfl⟩];exact⟨rfl,rfl,rfl⟩
      ·rw[ao q];by_cases s:g'=g/\d=j
       ·rw[ax s];obtain⟨rfl,rfl⟩:=s;refine .inr (.inr ⟨rfl,λc=>n c.symm,p1,?_⟩);show(gp _ r i).1=2/\(gp _ r i).2.1=g'/\(gp _ r i).2.2.1=d;rw[key r i p1,ax ⟨rfl,rfl⟩];exact⟨rfl,h,rfl⟩
       ·rw[ao s];rcases f.inv g' d h' with z|z|⟨C,D,x,m,E,F⟩
        ·exact .inl z
        ·exact .inr (.inl z)
        ·rw[key _ _ x,ao,ao]
         ·exact .inr (.inr ⟨C,D,x,m,E,F⟩)
         ·intro c;rw[c.1,c.2,u] at m;exact absurd m (by decide)
         ·intro c;rw[c.1,c.2] at m;exact t m
 ·exact f
theorem lJ.ku (a:lJ room ps) (g i:Int):lJ room (ku room ps g i).2:=by
 cases b:oU room ps g i with
 |none=>rw[G6 b];exact a
 |some k=>
  rw[zz b];split
  ·rename_i c;obtain⟨_,d,e⟩:=a.nz b c;obtain⟨_, _,f⟩:=fC e;exact a.sO d f rfl rfl rfl
  ·exact a
theorem tx {g x:Int} (h:x∈pv room ps g):sr room g x=true/\(gp ps g x).2.2.2.1=true/\(gp ps g x).2.2.2.2.1=false:=by
 unfold pv at h;rw[C8] at h;obtain⟨j,b,rfl⟩:=h;rw[Ix] at b;have:=Fy.1 b.1;have a:=b.2;unfold vH at a;simp only[Df,Ds] at a;exact⟨eV.2 ⟨nI.1 a.1,by omega,by omega⟩,a.2.1,a.2.2⟩
theorem IY {g x:Int} (h:x∈pv room ps g):gp ps g x≠zP:=λe=>by
 have:=(tx h).2.1;rw[e] at this;cases this
theorem lJ.gO (a:lJ room ps) (g:Int):lJ room (gO room ps g).2:=by
 unfold Go.Proofs.YtlcenllcmeebhaaGreat.Po.gO;cases c:pv room ps g with
 |nil=>exact a
 |cons x l=>
  have b:x∈pv room ps g:=by rw[c];exact DA
  exact a.sO (tx b).1 (IY b) rfl rfl rfl
theorem lJ.d_ (d:lJ room ps) (g i:Int):lJ room (d_ room ps g i).2:=by
 cases l:oU room ps g i with
 |none=>rw[wc l];exact d
 |some k=>
  rw[pO l];obtain⟨p1,p2,p3⟩:=fC l;have p:=d.tookS;split
  ·rename_i e;obtain⟨q,m, _⟩:=d.nz l e;subst p2;have y:ps.getD (ix g i) zP=gp ps g i:=rfl;rw[y] at e q m p3 ⊢;have hi:=d.inv g i p1;rcases hi with z|z|⟨_, _, _,c4,c5,c6⟩
   ·exact absurd z p3
   ·rw[z.1] at e;exact absurd e (by decide)
   obtain⟨r,t⟩: ∃r,r=(gp ps g i).2.1:=⟨_,rfl⟩;obtain⟨j,u⟩: ∃j,j=(gp ps g i).2.2.1:=⟨_,rfl⟩;rw[<-t] at q c4 c5 c6 m ⊢;rw[<-u] at c4 c5 c6 m ⊢;have key: ∀a b,sr room a b=true->gp ((ps.set (ix r j) (1,(gp ps r j).2.1,0,(gp ps r j).2.2.2)).set (ix g i) zP) a b=if a=g/\b=i then zP else if a=r/\b=j then(1,(gp ps r j).2.1,0,(gp ps r j).2.2.2) else gp ps a b:=λa b v=>by
    rw[iZ (p.set _ _) p1 v,iZ p m v]
   show lJ room ((ps.set (ix r j) (1,(gp ps r j).2.1,0,(gp ps r j).2.2.2)).set (ix g i) zP);have w:=(p.set (ix r j) (1,(gp ps r j).2.1,0,(gp ps r j).2.2.2)).set (ix g i) zP;generalize (ps.set (ix r j) (1,(gp ps r j).2.1,0,(gp ps r j).2.2.2)).set (ix g i) zP=X at key w ⊢;refine⟨w,λg' n h'=>?_⟩;rw[key g' n h'];by_cases s:g'=g/\n=i
   ·rw[ax s];exact .inl rfl
   ·rw[ao s];by_cases o:g'=r/\n=j
    ·rw[ax o];refine .inr (.inl ⟨rfl,?_,?_,rfl⟩)
     ·show 1<=(gp ps r j).2.1/\(gp ps r j).2.1<=16;rw[c5];exact(eV.1 p1).1
     ·show(gp ps r j).2.1≠g';rw[c5,o.1];exact λc=>q c.symm
    ·rw[ao o];rcases d.inv g' n h' with z|z|⟨A,B,x,C,f,h⟩
     ·exact .inl z
     ·exact .inr (.inl z)
     ·rw[key _ _ x,ao,ao]
      ·exact .inr (.inr ⟨A,B,x,C,f,h⟩)
      ·intro c;rw[c.1,c.2] at f h;exact s ⟨by rw[<-f,c5],by rw[<-h,c6]⟩
      ·intro c;rw[c.1,c.2] at f h;exact o ⟨by rw[<-f, <-t],by rw[<-h, <-u]⟩
  ·rename_i e;subst p2;exact d.Yu p1 e (.inl rfl)
end
section
variable {D G:List Nat} {w0 w:A2} {L:List (Nat×List AR)} {bp:Nat} {room:Int} {ps:List PT}
def AJ (ps:List PT) (g:Int) (i:Nat):List Int:=((Ca i).filter (vH ps g)).map λi=>((i:Nat):Int)
theorem G7 (g:Int) (i:Nat):AJ ps g (i+1)=AJ ps g i++(if vH ps g i then[((i:Nat):Int)] else[]):=by grind[AJ,Ft]
theorem KR (g:Int) (i:Nat):(AJ ps g i).length<=i:=by grind[AJ]
theorem G8 {g:Int} {i:Nat} (hi:(i:Int)<room) (a:oU room ps g i=none):vH ps g i=false:=by
 grind[vH,sr,u5,zP]
theorem G9 {g:Int} {i:Nat} {k:Nat} (a:oU room ps g i=some k):vH ps g i=((ps.getD k zP).2.2.2.1&& !(ps.getD k zP).2.2.2.2.1):=by
 obtain⟨h1,b, _⟩:=fC a;unfold vH;rw[nI.2 (eV.1 h1).1,b];rfl
theorem QX (hb:bN w bp (gK room ps)) (f:okS room ps) (g:Int):aE AB 232 (.el (.one .slice)) [ag (ae bp),aa g] w (λr w'=>lM w w' eI r (pv room ps g)/\Ext w w'):=by
 refine ai (C:=R1) (aS:=t_) (Ab (QN _ g w _) ?_);have A:=f.lo;have B:=f.hi;refine⟨true,af.of (s:= .el (.one .bool)) λw' h'=>pI (hb.ext h') f,an rfl ⟨rfl,rfl,aj.k8 (At.start [] w) hb (by simp) (qc f) ?_⟩⟩;refine⟨λq s w'=> ∃i:Nat,s.2.1=i/\q+i=room.toNat/\At [] w w' []/\lM w w' eI s.1 (AJ ps g i),⟨room.toNat,λw1 h1=>⟨0,rfl,rfl,(At.start [] w).ext h1,lM.start w w1 eI⟩⟩,?_⟩;rintro q ⟨⟨sp,D,sc⟩,E,u⟩ w1 ⟨i,hi,F,H,j⟩;simp only at hi j;subst hi;dsimp only;refine ab (λc=>?_) (λc=>?_)
 ·have G:i<room.toNat:=by simp at c;omega
  have a:=G7 (ps:=ps) g i;have I:=KR (ps:=ps) g i;refine⟨_,af.of (s:= .el (.one .ptr)) λw' h'=>DP ((H.fQ hb (by simp)).ext h') f g i,?_⟩;unfold cq;cases k:oU room ps g i with
  |none=>
   rw[G8 (by omega) k] at a;rw[ao (by decide),C6] at a;refine⟨λh=>by simp at h,λh=>by simp at h,false,λh=>by simp at h,λh=>by simp at h,λh=>by simp at h,false,λh=>by simp at h,an rfl λl d=>⟨q - 1,by omega,i+1,by rw[av (by omega) (by omega)];rfl,by omega,H.ext d,by rw[a];exact j.ext d⟩⟩
  |some kk=>
   obtain⟨p,t,J⟩:=fC k;have v:kk<512:=by rw[t];exact pq p f.hi
   have n:=f.get v;rw[G9 k] at a;refine⟨λ_=>rfl,λ_=>rfl,aj.k8 H hb (by simp) (sv n (by decide) rfl) ⟨λ_=>rfl,λ_=>rfl,aj.k8 H hb (by simp) (sv n (by decide) rfl) (ab (λc2=>?_) (λc2=>?_))⟩⟩
   ·have c3:((ps.getD kk zP).2.2.2.1&& !(ps.getD kk zP).2.2.2.2.1)=true:=by simpa using c2
    rw[ax c3] at a;have m:=At.start [] w1;refine aL.go m λb l m=>λK x=>?_;refine At.aaV (e:=eI) (i:=0) H j (m.ext x) (i:Int) rfl rfl rfl rfl rfl (by omega) λs' L y z M o=>⟨q - 1,by omega,i+1,by rw[av (by omega) (by omega)];rfl,by omega,y.ext o,?_⟩;rw[a];exact z.ext o
   ·have c3: ¬ ((ps.getD kk zP).2.2.2.1&& !(ps.getD kk zP).2.2.2.2.1)=true:=by simpa using c2
    rw[ao c3,C6] at a;exact λl d=>⟨q - 1,by omega,i+1,by rw[av (by omega) (by omega)];rfl,by omega,H.ext d,by rw[a];exact j.ext d⟩
 ·have hi:i=room.toNat:=by simp at c;omega
  subst hi;exact λl d=>⟨j.ext d,(H.ext d).all⟩
theorem QY (H:aK D G w0 w L) (j:Nat) (b:L[j]? =some (bp,gK room ps)) (c:okS room ps) (g:Int) {K:Option AC×Nat×Nat->A2->Prop}
 (k: ∀r rows a,aK D G w0 a (L++rows)->oq eI rows r (pv room ps g)->K r a):aB AB 232 (.el (.one .slice)) [ag (ae bp),aa g] w K:=
 aB.Yr H (λw1 H=>QX (H.get b) c g) k
theorem zA {rows:List (Nat×List AR)} {r:Option AC×Nat×Nat} {x:Int} {l:List Int} (a:oq eI rows r (x::l)) (H:aK D G w0 w L) (b: ∀y∈rows,y∈L):r.1.isSome=true/\cH w (ad r.1 0) (.one (.int .i64)) x:=by
 have:=a.sl H b 0
 grind
theorem QZ (H:aK D G w0 w L) (j:Nat) (f:L[j]? =some (bp,gK room ps)) (c:okS room ps) (g:Int) {K:Int×Bool×Unit->A2->Prop}
 (k: ∀h,aK D G w0 h (L.set j (bp,gK room (gO room ps g).2))->K ((gO room ps g).1.1,(gO room ps g).1.2,()) h):
 aB AB 188 (.bG [.one (.int .i64),.one .bool]) [ag (ae bp),aa g] w K:=by
 refine aB.go H λw1 H=>ai (C:=R1) (aS:=λ_=>[]) (Ab (QO _ g w1 K) ?_);refine QY H j f c g λr rows h H d=>?_;have q:j<L.length:=(B3.1 f).1;have m:(L++rows)[j]? =some (bp,gK room ps):=by grind
 have a:=d.1;cases b:pv room ps g with
 |nil=>
  rw[b] at a;have e:gO room ps g=((0,false),ps):=by unfold gO;rw[b]
  rw[e] at k;refine aD (by rw[a];rfl) (au.go H λn H=>k n ?_);rw[lC f];exact H.sub (Dc _ _)
 |cons x l=>
  have o:x∈pv room ps g:=by rw[b];exact DA
  rw[b] at a d;have e:gO room ps g=((x,true),ps.set (ix g x) ((gp ps g x).1,(gp ps g x).2.1,(gp ps g x).2.2.1,false,(gp ps g x).2.2.2.2)):=by unfold gO;rw[b]
  rw[e] at k;obtain⟨p1, _, _⟩:=tx o;have s:oU room ps g x=some (ix g x):=by rw[u5 p1,ao (IY o)]
  have t:=pq p1 c.hi;have u:ps[ix g x]? =some (gp ps g x):=c.get t;have h0:=zA d H (λy i=>Bs _ i);have p:(x::l).length=l.length+1:=rfl;refine an (by rw[a,p];simp;omega) ⟨⟨h0.1,by omega,by rw[a,p];omega⟩,aj.of x h0.2 ⟨_,FU H j m c g x s,rfl,rfl,?_⟩⟩;refine az.sv j H ((gp ps g x).1,(gp ps g x).2.1,(gp ps g x).2.2.1,false,(gp ps g x).2.2.2.2.1,()) m u (by decide) rfl rfl λn H=>?_;rw[Gd _ _ q] at H;have h1:=zA d H (λy i=>Bs _ i);refine⟨by grind,aj.of x h1.2 (au.go H λv H=>k v (H.sub (Dc _ _)))⟩
theorem tA (a:lJ room ps) (g:Int): ∀i,lJ room (ij room ps g i).2
 |0=>a
 |i+1=>(tA a g i).d_ g i
theorem Ei (g:Int): ∀i:Nat,0<=(ij room ps g i).1/\(ij room ps g i).1<=i
 |0=>by simp[ij]
 |i+1=>by
  have:=Ei g i;simp[ij];omega
theorem KS (d:lJ room ps) {g i j:Int} (hi:sr room g i=true) (b:sr room g j=true):gp (d_ room ps g i).2 g j=if j=i then zP else gp ps g j:=by
 cases a:oU room ps g i with
 |none=>
  rw[wc a];rw[u5 hi] at a
  grind
 |some=>
  rw[pO a];obtain⟨p1,p2,p3⟩:=fC a;have c:=d.tookS;split
  ·rename_i e;obtain⟨h,f, _⟩:=d.nz a e;subst p2;rw[iZ (c.set _ _) p1 b,iZ c f b]
   grind
  ·subst p2;rw[iZ c p1 b]
   grind
theorem Ej (b:lJ room ps) {g:Int} (a:gI g=true): ∀(n:Nat),(n:Int)<=room-> ∀j,0<=j->j<(n:Int)->gp (ij room ps g n).2 g j=zP
 |n+1,f,j,h0,h1=>by
  have c:sr room g n=true:=eV.2 ⟨nI.1 a,by omega⟩;have d:sr room g j=true:=eV.2 ⟨nI.1 a,by omega⟩;simp[ij];rw[KS (tA b g n) c d];by_cases e:j=n
  ·grind
  ·rw[ao e];exact Ej b a n (by omega) j h0 (by omega)
def vI (room:Int) (ps:List PT) (g:Int):Prop:=lJ room ps/\ ∀i,sr room g i=true->gp ps g i=zP
theorem Q0 {g:Int} (h:vI room ps g) {k i:Int} (hi:sr room k i=true) (d:(gp ps k i).2.1=g):(gp ps k i).1≠2:=by
 intro b;rcases h.1.inv k i hi with z|z|⟨_, _,c,a, _⟩
 ·rw[z] at b;exact absurd b (by decide)
 grind
 ·rw[d] at c a;rw[h.2 _ c] at a;exact absurd a (by decide)
theorem G_ {g:Int} {s:Int×List PT} (h:vI room s.2 g) (k i:Int):vI room (py room g s k i).2 g:=by
 unfold py;split
 ·grind
 ·rename_i b;split
  ·rename_i c;obtain⟨p1,p2,p3⟩:=fC b;subst p2;refine⟨h.1.Yu p1 (Q0 h p1 c) (.inl rfl),λj a=>?_⟩;rw[iZ h.1.tookS p1 a];split
   ·rfl
   ·exact h.2 j a
  grind
theorem rY {g:Int} {s:Int×List PT} (h:vI room s.2 g) (k:Int): ∀i,vI room (mE room g s k i).2 g
 |0=>h
 |i+1=>G_ (rY h k i) k i
theorem rZ {g:Int} {s:Int×List PT} (h:vI room s.2 g): ∀k,vI room (kx room g s k).2 g
 |0=>h
 |k+1=>rY (rZ h k) _ _
theorem Q1 {g:Int} (s:Int×List PT) (k i:Int):s.1<=(py room g s k i).1/\(py room g s k i).1<=s.1+1:=by grind[py]
theorem y7 {g:Int} (s:Int×List PT) (k:Int): ∀i:Nat,s.1<=(mE room g s k i).1/\(mE room g s k i).1<=s.1+i
 |0=>by simp[mE]
 |i+1=>by
  have h1:=y7 (g:=g) s k i;have a:=Q1 (g:=g) (room:=room) (mE room g s k i) k i;simp[mE];omega
theorem Ek {g:Int} (s:Int×List PT): ∀k:Nat,s.1<=(kx room g s k).1/\(kx room g s k).1<=s.1+k*room.toNat
 |0=>by simp[kx]
 |k+1=>by
  have h1:=Ek (g:=g) s k;have a:=y7 (g:=g) (room:=room);simp[kx]
  grind
theorem zB (a:lJ room ps) {g:Int} (b:gI g=true):vI room (ij room ps g room.toNat).2 g:=by
 exact⟨tA a g _,by grind[Ej,eV]⟩
theorem Q2 (a:lJ room ps) (g:Int):lJ room (cG room ps g).2:=by
 unfold cG;split
 ·rename_i b;exact(rZ (zB a b) _).1
 grind
theorem Q3 (H:aK D G w0 w L) (j:Nat) (d:L[j]? =some (bp,gK room ps)) (x:lJ room ps) (g:Int) {K:Int->A2->Prop}
 (k: ∀I,aK D G w0 I (L.set j (bp,gK room (cG room ps g).2))->K (cG room ps g).1 I):
 aB AB 170 (.el (.one (.int .i64))) [ag (ae bp),aa g] w K:=by
 refine aB.go H λw1 H=>ai (C:=R1) (aS:=ua) (Ab (QP _ g w1 K) ?_);have t:=x.tookS;have Ta:=t.lo;have R:=t.hi;refine⟨true,UN H j d t,λ_=>trivial,ab (λc=>?_) (λc=>?_)⟩
 ·have v:gI g=false:=by simpa using c
  have e:cG room ps g=(0,ps):=by unfold cG;rw[v];rfl
  rw[e] at k;refine au.go H λy H=>k y ?_;rw[lC d];exact H
 have v:gI g=true:=by simpa using c
 have e:cG room ps g=kx room g (ij room ps g room.toNat) 16:=by unfold cG;rw[ax v]
 rw[e] at k;refine⟨rfl,rfl,aj.cq j H d (qc t) ?_⟩;refine⟨λq s w'=> ∃i:Nat,s.2.1=i/\q+i=room.toNat/\s.1=(ij room ps g i).1/\aK D G w0 w' (L.set j (bp,gK room (ij room ps g i).2)),⟨room.toNat,λy S=>⟨0,rfl,rfl,rfl,by rw[show(ij room ps g 0).2=ps from rfl,lC d];exact H.ext S⟩⟩,?_⟩;clear H;rintro q ⟨a,T,u⟩ y ⟨i,hi,hq,l,H⟩;simp only at hi l;subst hi;subst l;dsimp only;have U:=Ei (room:=room) (ps:=ps) g i;refine ab (λc1=>?_) (λc1=>?_)
 ·have V:i<room.toNat:=by simp at c1;omega
  have W:=tA x g i;refine Bb H j (kM d) W g i λJ H=>?_;rw[BT] at H;have n:aI .i64 (i:Int) 1=((i+1:Nat):Int):=by rw[av (by omega) (by omega)];rfl
  refine ab (λc2 o p=>⟨q - 1,by omega,i+1,n,by omega,?_,H.ext p⟩) (λc2 o p=>⟨q - 1,by omega,i+1,n,by omega,?_,H.ext p⟩)
  ·have c3:(d_ room (ij room ps g i).2 g i).1=0:=by simpa using c2
   simp only[ij];rw[ax c3,av (by omega) (by omega)]
  ·have c3: ¬ (d_ room (ij room ps g i).2 g i).1=0:=by simpa using c2
   simp only[ij];rw[ao c3,Int.add_zero]
 have hi:i=room.toNat:=by simp at c1;omega
 subst hi;have M:=zB x v;generalize ij room ps g room.toNat=f at H k M U;refine⟨λq s w'=> ∃m:Nat,s.2.1=(m:Int)+1/\q+m=16/\s.1=(kx room g f m).1/\aK D G w0 w' (L.set j (bp,gK room (kx room g f m).2)),⟨16,λJ X=>⟨0,rfl,rfl,rfl,H.ext X⟩⟩,?_⟩;clear H;rintro Y ⟨a,m',u2⟩ J ⟨m,N,We,l,H⟩;simp only at N l;subst N;subst l;dsimp only;have O:=rZ M m;have hlA:=Ek (room:=room) (g:=g) f m;have acM:(m:Int)*(room.toNat:Int)<=16*32:=Int.mul_le_mul (by omega) (by omega) (by omega) (by omega);refine ab (λc2=>?_) (λc2=>?_)
 ·have P:m<16:=by simp at c2;omega
  refine⟨rfl,rfl,aj.cq j H (kM d) (qc O.1.tookS) ?_⟩;refine⟨λq s w'=> ∃i:Nat,s.2.1=i/\q+i=room.toNat/\s.1=(mE room g (kx room g f m) ((m:Int)+1) i).1/\aK D G w0 w' (L.set j (bp,gK room (mE room g (kx room g f m) ((m:Int)+1) i).2)),⟨room.toNat,λo p=>⟨0,rfl,rfl,rfl,H.ext p⟩⟩,?_⟩;clear H;rintro z ⟨a,T,u3⟩ o ⟨i,hi,hq3,l,H⟩;simp only at hi l;subst hi;subst l;dsimp only;have Z:=rY O ((m:Int)+1) i;have hlR:=y7 (room:=room) (g:=g) (kx room g f m) ((m:Int)+1) i;refine ab (λc3=>?_) (λc3=>?_)
  ·have V:i<room.toNat:=by simp at c3;omega
   have n:aI .i64 (i:Int) 1=((i+1:Nat):Int):=by rw[av (by omega) (by omega)];rfl
   have A:=Z.1.tookS;have er:mE room g (kx room g f m) ((m:Int)+1) (i+1)=py room g (mE room g (kx room g f m) ((m:Int)+1) i) ((m:Int)+1) i:=rfl;generalize mE room g (kx room g f m) ((m:Int)+1) i=b at*
   refine⟨_,FU H j (kM d) A ((m:Int)+1) i rfl,?_⟩;cases B:oU room b.2 ((m:Int)+1) i with
   |none=>
    have E:py room g b ((m:Int)+1) i=b:=by unfold py;rw[B]
    rw[E] at er;exact⟨λh=>by simp at h,λh=>by simp at h,(0:Int),λh=>by simp at h,an rfl λF r=>⟨z - 1,by omega,i+1,n,by omega,by rw[er],by rw[er];exact H.ext r⟩⟩
   |some kk=>
    obtain⟨lL,sB,ZY⟩:=fC B;have Q:kk<512:=by rw[sB];exact pq lL R
    have Di:=A.get Q;have E:py room g b ((m:Int)+1) i=if(b.2.getD kk zP).2.1=g then(b.1+1,b.2.set kk zP) else b:=by unfold py;rw[B]
    rw[E] at er;refine⟨λ_=>rfl,λ_=>rfl,aj.cq j H (kM d) (sv Di (by decide) rfl) (ab (λc4=>?_) (λc4=>?_))⟩
    ·have c5:(b.2.getD kk zP).2.1=g:=by simpa using c4
     rw[ax c5] at er;refine⟨rfl,az.port j H (kM d) (by rw[A.len];exact Q) zP rfl λF H w7 h7=>⟨z - 1,by omega,i+1,n,by omega,?_,?_⟩⟩
     ·rw[er,av (by omega) (by omega)]
     ·rw[er];rw[BT] at H;exact H.ext h7
    ·have c5: ¬ (b.2.getD kk zP).2.1=g:=by simpa using c4
     rw[ao c5] at er;exact λF r=>⟨z - 1,by omega,i+1,n,by omega,by rw[er],by rw[er];exact H.ext r⟩
  ·have hi:i=room.toNat:=by simp at c3;omega
   subst hi;exact λF r=>⟨Y - 1,by omega,m+1,by rw[av (by omega) (by omega)];omega,by omega,rfl,H.ext r⟩
 ·have P:m=16:=by simp at c2;omega
  subst P;exact au.go H λo H=>k o H
end
def Ed (room:Int) (ps:List PT) (u v:Int):Prop:= ∃i,sr room u i=true/\gp ps u i≠zP/\(gp ps u i).2.1=v
inductive Lk (room:Int) (ps:List PT) (a:Int):Int->Prop
 |refl:Lk room ps a a
 |fwd {u v:Int}:Lk room ps a u->Ed room ps u v->Lk room ps a v
 |bwd {u v:Int}:Lk room ps a v->Ed room ps u v->Lk room ps a u
def tv (bs:List Bool) (v:Int):Bool:=bs.getD v.toNat false
def JT (bs:List Bool):List AR:=bs.map Value.bool
theorem Om {bs:List Bool} {v:Int} (h:v.toNat<bs.length):kH (JT bs) (0+v.toNat*1) (.one .bool)=some (tv bs v):=by
 have:(JT bs)[0+v.toNat*1]? =some (.bool (tv bs v)):=by
  unfold JT tv;rw[B_,Nat.mul_one,JJ,B2 h,B4,B2 h];rfl
 show(match (JT bs)[0+v.toNat*1]? with|some v=>Sc.bool.proj v|none=>none)= _;rw[this];rfl
theorem Gl {bs:List Bool} {u v:Int} (b:0<=u) (a:u.toNat<bs.length) (hv:0<=v):tv (bs.set u.toNat true) v=if v=u then true else tv bs v:=by
 unfold tv;by_cases e:v=u
 ·subst e;rw[ax rfl];simp[B4,a]
 ·rw[ao e];have:u.toNat≠v.toNat:=by omega
  simp[B4,Dj this]
def Ia (bs:List Bool):Nat:=bs.countP (! ·)
theorem xC {bs:List Bool} {k:Nat} (a:k<bs.length):Ia (bs.set k true)+(if bs.getD k false=false then 1 else 0)=Ia bs:=by
 unfold Ia;rw[List.countP_set a];have e:bs.getD k false=bs[k]:=by rw[B4,B2 a];rfl
 rw[e];cases h:bs[k] with
 |true=>simp
 |false=>
  have:0<bs.countP (! ·):=List.countP_pos_iff.2 ⟨bs[k],FV a,by rw[h];rfl⟩;simp;omega
theorem r_ {bs:List Bool} {k:Nat} (a:k<bs.length):Ia (bs.set k true)<=Ia bs:=by have:=xC a;omega
section
variable {D G:List Nat} {w0 w:A2} {L:List (Nat×List AR)} {bp:Nat} {room:Int} {ps:List PT}
theorem On (j:Nat) (H:aK D G w0 w L) {b:Nat} {bs:List Bool} {v:Int} (a:L[j]? =some (b,JT bs)) (d:v.toNat<bs.length) {K:A2->Prop}
 (c: ∀w1,aK D G w0 w1 (L.set j (b,JT (bs.set v.toNat true)))->K w1):az w (ad (ae b) (v.toNat*1)) [.bool true] K:=by
 refine az.fK j H a rfl ?_ λw1 h1=>c w1 ?_
 ·rw[H7];unfold JT;rw[G1];omega
 ·have e:(JT bs).set (0+v.toNat*1) (.bool true)=JT (bs.set v.toNat true):=by unfold JT;rw[List.map_set,B_,Nat.mul_one]
  rw[e] at h1;exact h1
end
end Go.Proofs.YtlcenllcmeebhaaGreat.Po
namespace Go.Proofs.YtlcenllcmeebhaaGreat
set_option maxRecDepth 100000
open Go.RX
open Po (tv JT Om Gl Ia xC r_ On)
inductive Rc (E:Int->Int->Prop) (a:Int):Int->Prop
 |refl:Rc E a a
 |step {u v:Int}:Rc E a u->E u v->Rc E a v
structure Dfs (E:Int->Int->Prop) (n:Int) (bs XE:List Bool):Prop where
 len:XE.length=17
 mono: ∀v,0<=v->tv bs v=true->tv XE v=true
 BS:tv XE n=true
 snd: ∀v,0<=v->tv XE v=true->tv bs v=true\/Rc E n v
 cls: ∀u v,0<=u->tv XE u=true->tv bs u=false->E u v->tv XE v=true
 Ia:Ia XE<=Ia bs
structure Lp (E:Int->Int->Prop) (n:Int) (bs cs:List Bool):Prop where
 len:cs.length=17
 mono: ∀v,0<=v->tv bs v=true->tv cs v=true
 BS:tv cs n=true
 snd: ∀v,0<=v->tv cs v=true->tv bs v=true\/Rc E n v
 cls: ∀u v,0<=u->u≠n->tv cs u=true->tv bs u=false->E u v->tv cs v=true
 Ia:Ia cs+(if tv bs n=false then 1 else 0)<=Ia bs
open Po (tv JT Om Gl Ia xC r_ On)
def om (gs:List GT):Prop:= ∀x∈gs,(x=zG\/((1<=x.1/\x.1<=16)/\(1<=x.2.2.1/\x.2.2.1<=16)/\x.1≠x.2.2.1/\0<=x.2.1/\x.2.1<65536))/\0<=x.2.2.2.2.1/\x.2.2.2.2.1<=1000
theorem OZ {g:Int}:gG g=true<->1<=g/\g<=16:=by unfold gG;simp
section
variable {w0:A2} {bg br c:Nat} {gs:List GT} {rest:List AR}
end
theorem om.set {gs:List GT} (h:om gs) (i:Nat) {x:GT} (b:(x=zG\/((1<=x.1/\x.1<=16)/\(1<=x.2.2.1/\x.2.2.1<=16)/\x.1≠x.2.2.1/\0<=x.2.1/\x.2.1<65536))/\0<=x.2.2.2.2.1/\x.2.2.2.2.1<=1000):om (gs.set i x):=λy a=>by
 rcases List.mem_or_eq_of_mem_set a with a|rfl
 ·exact h y a
 ·exact b
theorem Oo:((zG:GT)=zG\/((1<=zG.1/\zG.1<=16)/\(1<=zG.2.2.1/\zG.2.2.1<=16)/\zG.1≠zG.2.2.1/\0<=zG.2.1/\zG.2.1<65536))/\0<=zG.2.2.2.2.1/\zG.2.2.2.2.1<=1000:=⟨.inl rfl,by decide,by decide⟩
theorem om.rev {gs:List GT} (h:om gs) (i o:Int):om (lu gs i o):=by
 unfold lu;split
 ·exact h.set _ Oo
 ·exact h
theorem om.at {gs:List GT} (h:om gs) {i:Int} {k:Nat} (a:lT gs i=some k):((1<=(gs.getD k zG).1/\(gs.getD k zG).1<=16)/\(1<=(gs.getD k zG).2.2.1/\(gs.getD k zG).2.2.1<=16)/\(gs.getD k zG).1≠(gs.getD k zG).2.2.1/\0<=(gs.getD k zG).2.1/\(gs.getD k zG).2.1<65536)/\0<=(gs.getD k zG).2.2.2.2.1/\(gs.getD k zG).2.2.2.2.1<=1000:=by
 obtain⟨_, _, _,b,c⟩:=lB a;obtain⟨h1,d⟩:=h _ (E5 b);exact⟨h1.resolve_left c,d⟩
theorem om.take {gs:List GT} (h:om gs) (i g:Int) (b:Bool):om (dZ gs i g b):=by
 unfold dZ;split
 ·rename_i a;unfold fN at a;cases c:lT gs i with
  |none=>rw[c] at a;cases a
  |some k=>
   rw[c] at a;dsimp only at a;obtain⟨h1,e⟩:=h.at c;obtain⟨_, _,d, _⟩:=lB c;subst d;split at a
   ·cases a
   ·split at a
    ·cases a
    ·rename_i f;refine h.set _ ⟨.inr h1,?_,?_⟩
     ·show 0<=(gs.getD i.toNat zG).2.2.2.2.1+1;omega
     ·show(gs.getD i.toNat zG).2.2.2.2.1+1<=1000;omega
 ·exact h
theorem om.back {gs:List GT} (h:om gs) (i g:Int):om (eM gs i g):=by
 unfold eM;split
 ·rename_i a;unfold mo at a;cases b:lT gs i with
  |none=>rw[b] at a;cases a
  |some k=>
   rw[b] at a;dsimp only at a;obtain⟨h1,d⟩:=h.at b;obtain⟨_, _,c, _⟩:=lB b;subst c;split at a
   ·cases a
   ·split at a
    ·cases a
    ·rename_i e;refine h.set _ ⟨.inr h1,?_,?_⟩
     ·show 0<=(gs.getD i.toNat zG).2.2.2.2.1+ -1;omega
     ·show(gs.getD i.toNat zG).2.2.2.2.1+ -1<=1000;omega
 ·exact h
theorem om.off {gs:List GT} (h:om gs) (o q t:Int) (b:Bool):om (jV gs o q t b):=by
 unfold jV;split
 ·rename_i a;unfold jU at a;split at a
  ·cases a
  ·rename_i hc;have hc:gG o=true/\gG t=true/\o≠t/\0<=q/\q<65536:=by
    simp only[Dd,Ds,beq_iff_eq,decide_eq_true_eq,not_or] at hc;obtain⟨⟨⟨⟨h1,c⟩,d⟩,f⟩,g⟩:=hc;exact⟨by simpa using h1,by simpa using c,d,by omega,by omega⟩
   have a1:=OZ.1 hc.1;have e:=OZ.1 hc.2.1;exact h.set _ ⟨.inr ⟨a1,e,hc.2.2⟩,Int.le_refl 0,(by decide:(0:Int)<=1000)⟩
 ·exact h
theorem om.drop {gs:List GT} (h:om gs) (g:Int):om (cM gs g):=λy a=>by
 unfold cM at a;obtain⟨x,b,rfl⟩:=C8.1 a;split
 ·exact Oo
 ·exact h x b
theorem om.new (n:Nat):om (B9 n zG):=λy a=>by
 rw[List.eq_of_mem_replicate a];exact Oo
theorem om.use {gs:List GT} (h:om gs): ∀x∈gs,0<=x.2.2.2.2.1/\x.2.2.2.2.1<=1000:=λx a=>(h x a).2
noncomputable def H0:dH AB:={C3 with vC:=false,quiet:=[119,120]}
theorem KT (w:A2) (u:Option Nat->A2->Prop):(aM H0 (λ_=>[]) 163 [] w u)=(
 ∀w1,Ext w w1-> ∀c,Ext (w1.alloc (Obj.map ⟨[]⟩ 0)) c-> ∃(r:Nat), ∃(es:Array Ax), ∃(a:Nat),some w1.heap.size=some r/\bH c r es a/\gU c r .i64 1 (.agg {toList:=[.string {data:=⟨[99,114,101,97,116,101]⟩},aa 0]}) es a λb=> ∀d,Ext b d-> ∃(r:Nat), ∃(es:Array Ax), ∃(a:Nat),some w1.heap.size=some r/\bH d r es a/\gU d r .i64 2 (.agg {toList:=[.string {data:=⟨[100,101,115,116,114,111,121]⟩},aa 1]}) es a λb=> ∀e,Ext b e-> ∃(r:Nat), ∃(es:
 Array Ax), ∃(a:Nat),some w1.heap.size=some r/\bH e r es a/\gU e r .i64 3 (.agg {toList:=[.string {data:=⟨[100,111,110,97,116,101]⟩},aa 2]}) es a λb=> ∀f,Ext b f-> ∃(r:Nat), ∃(es:Array Ax), ∃(a:Nat),some w1.heap.size=some r/\bH f r es a/\gU f r .i64 4 (.agg {toList:=[.string {data:=⟨[114,101,99,108,97,105,109]⟩},aa 1]}) es a λb=> ∀g,Ext b g-> ∃(r:Nat), ∃(es:Array Ax), ∃(a:Nat),some w1.heap.size=some r/\bH g r es a/\
 gU g r .i64 5 (.agg {toList:=[.string {data:=⟨[112,114,111,116,101,99,116]⟩},aa 2]}) es a λb=> ∀h,Ext b h-> ∃(r:Nat), ∃(es:Array Ax), ∃(a:Nat),some w1.heap.size=some r/\bH h r es a/\gU h r .i64 6 (.agg {toList:=[.string {data:=⟨[108,111,97,100]⟩},aa 1]}) es a λb=> ∀i,Ext b i-> ∃(r:Nat), ∃(es:Array Ax), ∃(a:Nat),some w1.heap.size=some r/\bH i r es a/\gU i r .i64 7 (.agg {toList:=[.string {data:=⟨[115,116,111,114,101]⟩},.int .i64
 2]}) es a λb=> ∀j,Ext b j-> ∃(r:Nat), ∃(es:Array Ax), ∃(a:Nat),some w1.heap.size=some r/\bH j r es a/\gU j r .i64 8 (.agg {toList:=[.string {data:=⟨[111,102,102,101,114]⟩},aa 3]}) es a λb=> ∀k,Ext b k-> ∃(r:Nat), ∃(es:Array Ax), ∃(a:Nat),some w1.heap.size=some r/\bH k r es a/\gU k r .i64 9 (.agg {toList:=[.string {data:=⟨[116,97,107,101]⟩},aa 3]}) es a λb=> ∀l,Ext b l-> ∃(r:Nat), ∃(es:Array Ax), ∃(a:Nat),
 some w1.heap.size=some r/\bH l r es a/\gU l r .i64 10 (.agg {toList:=[.string {data:=⟨[98,97,99,107]⟩},aa 1]}) es a λb=> ∀m,Ext b m-> ∃(r:Nat), ∃(es:Array Ax), ∃(a:Nat),some w1.heap.size=some r/\bH m r es a/\gU m r .i64 11 (.agg {toList:=[.string {data:=⟨[114,101,118,111,107,101]⟩},aa 1]}) es a λb=> ∀n,Ext b n-> ∃(r:Nat), ∃(es:Array Ax), ∃(a:Nat),some w1.heap.size=some r/\bH n r es a/\gU n r .i64 12 (.agg {toList:=[.string
 {data:=⟨[111,112,101,110]⟩},aa 1]}) es a λb=> ∀o,Ext b o-> ∃(r:Nat), ∃(es:Array Ax), ∃(a:Nat),some w1.heap.size=some r/\bH o r es a/\gU o r .i64 13 (.agg {toList:=[.string {data:=⟨[98,105,110,100]⟩},aa 2]}) es a λb=> ∀p,Ext b p-> ∃(r:Nat), ∃(es:Array Ax), ∃(a:Nat),some w1.heap.size=some r/\bH p r es a/\gU p r .i64 14 (.agg {toList:=[.string {data:=⟨[115,101,110,100]⟩},aa 1]}) es a λb=> ∀q,Ext b q-> ∃(r
 :Nat), ∃(es:Array Ax), ∃(a:Nat),some w1.heap.size=some r/\bH q r es a/\gU q r .i64 15 (.agg {toList:=[.string {data:=⟨[112,111,108,108]⟩},aa 0]}) es a λb=> ∀s,Ext b s-> ∃(r:Nat), ∃(es:Array Ax), ∃(a:Nat),some w1.heap.size=some r/\bH s r es a/\gU s r .i64 16 (.agg {toList:=[.string {data:=⟨[99,108,111,115,101]⟩},aa 1]}) es a λb=> ∀t,Ext b t-> ∃(r:Nat), ∃(es:Array Ax), ∃(a:Nat),some w1.heap.size=some r/\bH t r es
 a/\gU t r .i64 17 (.agg {toList:=[.string {data:=⟨[115,119,101,101,112]⟩},aa 0]}) es a λb=>au b (u (some w1.heap.size))):=by kernel_rfl
theorem Q4 (k:Int) (w:A2) (d:Int->A2->Prop):(aM H0 (λ_=>[]) 119 [aa k] w d)=(
 aB AB 163 (.el NS) [] w λx a=> ∃(c:ByteArray×Int×Unit), ∃(b:Bool),mi a x .i64 k (.agg {toList:=[.string {data:=⟨[]⟩},aa 0]}) (.agg ⟨[.string c.1,aa c.2.1]⟩) b/\aL a {toList:=[.string {data:=⟨[]⟩},aa 0]} 242 λe a=>az a (ae e) [.string c.1,aa c.2.1] λa=>aJ (!b) (au a (d (-1))) (true=true/\aT a (ad (ae e) 1) λx=>au a (d x))):=by kernel_rfl
theorem Fa (k:Int) (w:A2) (a:Bool->A2->Prop):(aM H0 (λ_=>[]) 77 [aa k] w a)=(
 au w (a (k==1||k==2||k==17))):=by kernel_rfl
theorem KU (k a b c:Int) (w:A2) (e:Int×Int×Int×Unit->A2->Prop):(bT H0 (λ_=>[]) 120 [.agg ⟨[aa k,ay a,ay b,ay c]⟩] w e)=(
 aL w ⟨[aa k,ay a,ay b,ay c]⟩ 31 λb d=>aL d ⟨[ay 0,ay 0,ay 0]⟩ 222 λf d=>true=true/\cK d (ad (ae b) 1) λx=>true=true/\cK d (ad (ae b) 2) λg=>true=true/\cK d (ad (ae b) 3) λh=>az d (ae f) [ay x,ay g,ay h] λd=>au d λw1=>aj w1 none (ae f) (.agg [.int .u64,.int .u64,.int .u64]) λ(x:Int×Int×Int×Unit)=>e (x.1,x.2.1,x.2.2.1,()) w1):=by kernel_rfl
def qZ:Nat->a7:=(λ|5=>[(13,Go.RX.El.one (Go.RX.Sc.int B5))]| _=>[])
theorem KW (k a b c:Int) (w:A2) (f:Bool->A2->Prop):(aM H0 qZ 76 [.agg ⟨[aa k,ay a,ay b,ay c]⟩] w f)=(
 aL w ⟨[aa k,ay a,ay b,ay c]⟩ 31 λb d=>true=true/\aT d (ad (ae b) 0) λx=> ∃(g:Int),af AB 119 [aa x] d (aa g)/\aJ (g== -1) (au d (f false)) (aj d none (ae b) sM λ(x:Int×Int×Int×Int×Unit)=> ∃(e:Int×Int×Int×Unit),af AB 120 [.agg ⟨[aa x.1,ay x.2.1,ay x.2.2.1,ay x.2.2.2.1]⟩] d (.agg ⟨[ay e.1,ay e.2.1,ay e.2.2.1]⟩)/\ ∃(I:Nat->Int×Unit->A2->Prop),(∃n, ∀w1,Ext d w1->I n (0,()) w1)/\
 ∀(n:Nat) (s:Int×Unit) (w1:A2),I n s w1->aJ (decide (s.1<3)) ((0<=s.1/\s.1<(↑3:Int))/\aJ (decide (s.1>=g)&&J0 [e.1,e.2.1,e.2.2.1] s.1 != 0) (au w1 (f false)) (∀h,Ext w1 h-> ∃(i:Nat),i<n/\I i (aI .i64 s.1 1,()) h)) (au w1 (f true)))):=by kernel_rfl
theorem gD {D G:List Nat} {w0 w:A2} {L:List (Nat×List AR)} {M:List (Nat×Obj)} {r:Nat} {l:List Ax} {c:Nat} (H:cC D G w0 w L ((r,.map ⟨l⟩ c)::M)) {n:Int} {val:AR} {K:A2->Prop} (g:DG (.int .i64) (aa n) l 0=some none)
 (k: ∀a,cC D G w0 a L ((r,.map ⟨l++[{key:=aa n,val,born:=c}]⟩ (c+1))::M)->K a):
 ∀w1,Ext w w1-> ∃r' b d,some r=some r'/\bH w1 r' b d/\gU w1 r' .i64 n val b d K:=λw1 h=>by
 have f:=H.ext h;refine⟨r,⟨l⟩,c,rfl,f.get (i:=0) rfl,?_⟩;unfold gU;rw[g];have e:Array.push _ _=⟨l++[{key:=aa n,val,born:=c}]⟩:=List.push_toArray _ _;rw[e];exact k _ (f.put (i:=0) rfl trivial)
theorem _root_.Go.RX.cC.WU {D G:List Nat} {w0 w:A2} {L:List (Nat×List AR)} {M:List (Nat×Obj)} {r:Nat} {l l':List Ax} {c:Nat} (H:cC D G w0 w L ((r,.map ⟨l⟩ c)::M)) (e:l=l'):cC D G w0 w L ((r,.map ⟨l'⟩ c)::M):=by
 grind
def gE (k:Int) (s:ByteArray) (n:Int) (b:Nat):Ax:={key:=aa k,val:= .agg ⟨[.string s,aa n]⟩,born:=b}
def eO:Array Ax:=⟨[gE 1 ⟨⟨[99,114,101,97,116,101]⟩⟩ 0 0,gE 2 ⟨⟨[100,101,115,116,114,111,121]⟩⟩ 1 1,gE 3 ⟨⟨[100,111,110,97,116,101]⟩⟩ 2 2,gE 4 ⟨⟨[114,101,99,108,97,105,109]⟩⟩ 1 3,gE 5 ⟨⟨[112,114,111,116,101,99,116]⟩⟩ 2 4,gE 6 ⟨⟨[108,111,97,100]⟩⟩ 1 5,gE 7 ⟨⟨[115,116,111,114,101]⟩⟩ 2 6,gE 8 ⟨⟨[111,102,102,101,114]⟩⟩ 3 7,gE 9 ⟨⟨[116,97,107,101]⟩⟩ 3 8,gE 10 ⟨⟨[98,97,99,107]⟩⟩ 1 9,gE 11 ⟨⟨[114,101,118,111,107,101]⟩⟩ 1 10,gE 12 ⟨⟨[111,112,101,110]⟩⟩ 1 11,gE 13 ⟨⟨[98,105,110,100]⟩⟩ 2 12,gE 14 ⟨⟨[115,101,110,100]⟩⟩ 1 13,gE 15 ⟨⟨[112,111,108,108]⟩⟩ 0 14,gE 16 ⟨⟨[99,108,111,115,101]⟩⟩ 1 15,gE 17 ⟨⟨[115,119,101,101,112]⟩⟩ 0 16]⟩
def jW (k:Int):Int:=if 1<=k/\k<=17 then([0,1,2,1,2,1,2,3,3,1,1,1,2,1,0,1,0]:List Int).getD (k - 1).toNat 0 else -1
def iG (k a b c:Int):Bool:=decide (jW k>=0)&&((decide (jW k>0)||a==0)&&((decide (jW k>1)||b==0)&&(decide (jW k>2)||c==0)))
def uQ (k:Int):Bool:=k==1||k==2||k==17
section
variable {D G:List Nat} {w0 w:A2} {L:List (Nat×List AR)} {M:List (Nat×Obj)}
theorem KX (H:cC D G w0 w L M) {K:Option Nat->A2->Prop} (k: ∀r a,cC D G w0 a L ((r,.map eO 17)::M)->K (some r) a):aB AB 163 (.el (.one .map)) [] w K:=by
 refine λw1 h1=>ai (C:=H0) (aS:=λ_=>[]) (Ab (KT w1 K) ?_);have H:=H.ext h1;intro b c;have H:=(H.ext c).alloc (o:= .map #[] 0) trivial;refine gD H (by kernel_rfl) λf H=>?_;refine gD H (by kernel_rfl) λg H=>?_;refine gD H (by kernel_rfl) λh H=>?_;refine gD H (by kernel_rfl) λi H=>?_;refine gD H (by kernel_rfl) λj H=>?_;refine gD H (by kernel_rfl) λl H=>?_;refine gD H (by kernel_rfl) λm H=>?_;refine gD H (by kernel_rfl) λn H=>?_;refine gD H (by kernel_rfl) λp H=>?_;refine gD H (by kernel_rfl) λq H=>?_;refine gD H (by kernel_rfl) λs H=>?_;refine gD H (by kernel_rfl) λt H=>?_;refine gD H (by kernel_rfl) λu H=>?_;refine gD H (by kernel_rfl) λv H=>?_;refine gD H (by kernel_rfl) λx H=>?_;refine gD H (by kernel_rfl) λy H=>?_;refine gD H (by kernel_rfl) λz H=>?_;exact λd e=>k b.heap.size d ((H.ext e).WU (by kernel_rfl))
theorem Ha {r:Nat} (h:bH w r eO 17) (k:Int): ∃(x:ByteArray×Int×Unit) (b:Bool),mi w (some r) .i64 k (.agg ⟨[.string ⟨⟨[]⟩⟩,aa 0]⟩) (.agg ⟨[.string x.1,aa x.2.1]⟩) b/\(b=false->jW k= -1)/\(b=true->x.2.1=jW k):=by
 by_cases c:1<=k/\k<=17
 ·have:k=1\/k=2\/k=3\/k=4\/k=5\/k=6\/k=7\/k=8\/k=9\/k=10\/k=11\/k=12\/k=13\/k=14\/k=15\/k=16\/k=17:=by omega
  rcases this with rfl|rfl|rfl|rfl|rfl|rfl|rfl|rfl|rfl|rfl|rfl|rfl|rfl|rfl|rfl|rfl|rfl
  ·exact⟨(⟨⟨[99,114,101,97,116,101]⟩⟩,0,()),true,⟨r,eO,17,rfl,h,rfl,rfl⟩,λh=>(by cases h),λ_=>rfl⟩
  ·exact⟨(⟨⟨[100,101,115,116,114,111,121]⟩⟩,1,()),true,⟨r,eO,17,rfl,h,rfl,rfl⟩,λh=>(by cases h),λ_=>rfl⟩
  ·exact⟨(⟨⟨[100,111,110,97,116,101]⟩⟩,2,()),true,⟨r,eO,17,rfl,h,rfl,rfl⟩,λh=>(by cases h),λ_=>rfl⟩
  ·exact⟨(⟨⟨[114,101,99,108,97,105,109]⟩⟩,1,()),true,⟨r,eO,17,rfl,h,rfl,rfl⟩,λh=>(by cases h),λ_=>rfl⟩
  ·exact⟨(⟨⟨[112,114,111,116,101,99,116]⟩⟩,2,()),true,⟨r,eO,17,rfl,h,rfl,rfl⟩,λh=>(by cases h),λ_=>rfl⟩
  ·exact⟨(⟨⟨[108,111,97,100]⟩⟩,1,()),true,⟨r,eO,17,rfl,h,rfl,rfl⟩,λh=>(by cases h),λ_=>rfl⟩
  ·exact⟨(⟨⟨[115,116,111,114,101]⟩⟩,2,()),true,⟨r,eO,17,rfl,h,rfl,rfl⟩,λh=>(by cases h),λ_=>rfl⟩
  ·exact⟨(⟨⟨[111,102,102,101,114]⟩⟩,3,()),true,⟨r,eO,17,rfl,h,rfl,rfl⟩,λh=>(by cases h),λ_=>rfl⟩
  ·exact⟨(⟨⟨[116,97,107,101]⟩⟩,3,()),true,⟨r,eO,17,rfl,h,rfl,rfl⟩,λh=>(by cases h),λ_=>rfl⟩
  ·exact⟨(⟨⟨[98,97,99,107]⟩⟩,1,()),true,⟨r,eO,17,rfl,h,rfl,rfl⟩,λh=>(by cases h),λ_=>rfl⟩
  ·exact⟨(⟨⟨[114,101,118,111,107,101]⟩⟩,1,()),true,⟨r,eO,17,rfl,h,rfl,rfl⟩,λh=>(by cases h),λ_=>rfl⟩
  ·exact⟨(⟨⟨[111,112,101,110]⟩⟩,1,()),true,⟨r,eO,17,rfl,h,rfl,rfl⟩,λh=>(by cases h),λ_=>rfl⟩
  ·exact⟨(⟨⟨[98,105,110,100]⟩⟩,2,()),true,⟨r,eO,17,rfl,h,rfl,rfl⟩,λh=>(by cases h),λ_=>rfl⟩
  ·exact⟨(⟨⟨[115,101,110,100]⟩⟩,1,()),true,⟨r,eO,17,rfl,h,rfl,rfl⟩,λh=>(by cases h),λ_=>rfl⟩
  ·exact⟨(⟨⟨[112,111,108,108]⟩⟩,0,()),true,⟨r,eO,17,rfl,h,rfl,rfl⟩,λh=>(by cases h),λ_=>rfl⟩
  ·exact⟨(⟨⟨[99,108,111,115,101]⟩⟩,1,()),true,⟨r,eO,17,rfl,h,rfl,rfl⟩,λh=>(by cases h),λ_=>rfl⟩
  ·exact⟨(⟨⟨[115,119,101,101,112]⟩⟩,0,()),true,⟨r,eO,17,rfl,h,rfl,rfl⟩,λh=>(by cases h),λ_=>rfl⟩
 ·have d: ∀(l:List Ax) (i:Nat),(∀e∈l, ∃j:Int,e.key=aa j/\j≠k)->DG (.int .i64) (aa k) l i=some none:=by
   intro l
   induction l with
   |nil=>intro i _;rfl
   |cons e l g=>
    intro i a;obtain⟨j,h1,m⟩:=a e DA;unfold DG;rw[h1];have:JV (.int .i64) (aa k) (aa j)=some false:=by
     show(if B5=B5 then some (k==j) else none)=some false
     grind
    grind
  have f:DG (.int .i64) (aa k) eO.toList 0=some none:=d _ 0 λe a=>by
   have a:e∈[gE 1 ⟨⟨[99,114,101,97,116,101]⟩⟩ 0 0,gE 2 ⟨⟨[100,101,115,116,114,111,121]⟩⟩ 1 1,gE 3 ⟨⟨[100,111,110,97,116,101]⟩⟩ 2 2,gE 4 ⟨⟨[114,101,99,108,97,105,109]⟩⟩ 1 3,gE 5 ⟨⟨[112,114,111,116,101,99,116]⟩⟩ 2 4,gE 6 ⟨⟨[108,111,97,100]⟩⟩ 1 5,gE 7 ⟨⟨[115,116,111,114,101]⟩⟩ 2 6,gE 8 ⟨⟨[111,102,102,101,114]⟩⟩ 3 7,gE 9 ⟨⟨[116,97,107,101]⟩⟩ 3 8,gE 10 ⟨⟨[98,97,99,107]⟩⟩ 1 9,gE 11 ⟨⟨[114,101,118,111,107,101]⟩⟩ 1 10,gE 12 ⟨⟨[111,112,101,110]⟩⟩ 1 11,gE 13 ⟨⟨[98,105,110,100]⟩⟩ 2 12,gE 14 ⟨⟨[115,101,110,100]⟩⟩ 1 13,gE 15 ⟨⟨[112,111,108,108]⟩⟩ 0 14,gE 16 ⟨⟨[99,108,111,115,101]⟩⟩ 1 15,gE 17 ⟨⟨[115,119,101,101,112]⟩⟩ 0 16]:=a;simp only[E4,List.not_mem_nil,or_false] at a;rcases a with rfl|rfl|rfl|rfl|rfl|rfl|rfl|rfl|rfl|rfl|rfl|rfl|rfl|rfl|rfl|rfl|rfl
   all_goals exact⟨_,rfl,by omega⟩
  refine⟨(⟨⟨[]⟩⟩,0,()),false,⟨r,eO,17,rfl,h,?_⟩,λ_=>ao c,λh=>by cases h⟩;rw[f];exact⟨rfl,rfl⟩
theorem Q5 (k:Int) (w:A2):aE AB 119 (.el (.one (.int .i64))) [aa k] w (λx w'=>x=jW k/\Ext w w'):=by
 refine ai (C:=H0) (aS:=λ_=>[]) (Ab (Q4 k w _) ?_);refine KX (cC.start [] w) λr d H=>?_;obtain⟨x,b,a,h0,h1⟩:=Ha (H.get (i:=0) rfl) k;have H:=H.base;refine⟨x,b,a,aL.go H λe f H=>az.all 0 H rfl rfl rfl λg H=>?_⟩;cases b with
 |false=>exact aD rfl (au.go H λc H=>⟨(h0 rfl).symm,H.all⟩)
 |true=>exact an rfl ⟨rfl,aj.cq 0 H rfl rfl (au.go H λc H=>⟨h1 rfl,H.all⟩)⟩
theorem UO (k:Int):af AB 119 [aa k] w (aa (jW k)):=af.of λw' _=>Q5 k w'
theorem Q6 (k a b c:Int):af AB 120 [.agg ⟨[aa k,ay a,ay b,ay c]⟩] w (Sh.gz (.el (.agg [.int .u64,.int .u64,.int .u64])) (a,b,c,())):=by
 refine af.of λw' _=>aR (C:=H0) (aS:=λ_=>[]) (Ab (KU k a b c w' _) ?_);have H:=At.start [] w';refine aL.go H λd e H=>aL.go H λf g H=>⟨rfl,aj.cq 1 H rfl rfl ⟨rfl,aj.cq 1 H rfl rfl ⟨rfl,aj.cq 1 H rfl rfl (az.all 0 H rfl rfl rfl λh H=>au.go H λi H=>aj.at 0 H rfl (rfl) ⟨rfl,H.all⟩)⟩⟩⟩
theorem KY (k a b c:Int) (w:A2):aE AB 76 (.el (.one .bool)) [.agg ⟨[aa k,ay a,ay b,ay c]⟩] w (λx w'=>x=iG k a b c/\Ext w w'):=by
 refine ai (C:=H0) (aS:=qZ) (Ab (KW k a b c w _) ?_);have H:=At.start [] w;have y:jW k= -1\/0<=jW k:=by
  unfold jW;split
  ·rename_i h;right;have:k=1\/k=2\/k=3\/k=4\/k=5\/k=6\/k=7\/k=8\/k=9\/k=10\/k=11\/k=12\/k=13\/k=14\/k=15\/k=16\/k=17:=by omega
   rcases this with rfl|rfl|rfl|rfl|rfl|rfl|rfl|rfl|rfl|rfl|rfl|rfl|rfl|rfl|rfl|rfl|rfl<;>decide
  ·exact .inl rfl
 refine aL.go H λD E H=>⟨rfl,aj.cq 0 H rfl rfl ⟨_,UO k,ab (λd=>au.go H λl H=>⟨?_,H.all⟩) (λd=>aj.at 0 H rfl (show _=some (k,a,b,c,()) from rfl) ⟨(a,b,c,()),Q6 k a b c,?_⟩)⟩⟩
 ·have d:jW k= -1:=by simpa using d
  unfold iG;rw[d];rfl
 have d: ¬ jW k= -1:=by simpa using d
 unfold iG;obtain⟨n,z⟩: ∃n,n=jW k:=⟨_,rfl⟩;rw[<-z] at d y ⊢;refine⟨λq v w'=> ∃i:Nat,v.1=(i:Int)/\q+i=3/\(0<i-> ¬ (n<=0/\a≠0))/\(1<i-> ¬ (n<=1/\b≠0))/\(2<i-> ¬ (n<=2/\c≠0))/\Ext w w',⟨3,λl r=>⟨0,rfl,rfl,λh=>by omega,λh=>by omega,λh=>by omega,(H.ext r).all⟩⟩,?_⟩;rintro q ⟨v,u⟩ l ⟨i,e,F,h1,A,r,m⟩;dsimp only at e ⊢;subst e;refine ab (λo=>⟨⟨by omega,by simpa using o⟩,?_⟩) (λo=>λf g=>⟨?_,m.trans g⟩)
 ·have hi:i<3:=by
   have:(i:Int)<3:=by simpa using o
   omega
  have B:(¬ (n<=(i:Int)/\J0 [a,b,c] (i:Int)≠0))-> ∀f,Ext l f-> ∃s,s<q/\ ∃j:Nat,aI .i64 (i:Int) 1=(j:Int)/\s+j=3/\(0<j-> ¬ (n<=0/\a≠0))/\(1<j-> ¬ (n<=1/\b≠0))/\(2<j-> ¬ (n<=2/\c≠0))/\Ext w f:=λp f g=>by
   refine⟨q - 1,by omega,i+1,by rw[av (by omega) (by omega)];omega,by omega,?_,?_,?_,m.trans g⟩
   ·intro _;by_cases e:i=0
    ·subst e;exact p
    ·exact h1 (by omega)
   ·intro _;by_cases e:i=1
    ·subst e;exact p
    ·exact A (by omega)
   ·intro _;have e:i=2:=by omega
    subst e;exact p
  refine ab (λd1=>λf g=>⟨?_,m.trans g⟩) (λd1=>B ?_)
  ·have d1:n<=(i:Int)/\J0 [a,b,c] (i:Int)≠0:=by
    simpa using d1
   have:i=0\/i=1\/i=2:=by omega
   symm;rw[Bool.eq_false_iff];intro t;simp only[Df,Dd,decide_eq_true_eq,beq_iff_eq] at t;obtain⟨_,G,I,J⟩:=t;rcases this with rfl|rfl|rfl
   ·have d2:n<=0/\a≠0:=d1;omega
   ·have d2:n<=1/\b≠0:=d1;omega
   ·have d2:n<=2/\c≠0:=d1;omega
  grind
 grind
theorem Em (k a b c:Int):af AB 76 [.agg ⟨[aa k,ay a,ay b,ay c]⟩] w (.bool (iG k a b c)):=af.of λw' _=>KY k a b c w'
theorem Fb (k:Int) (w:A2):aE AB 77 (.el (.one .bool)) [aa k] w (λx w'=>x=uQ k/\Ext w w'):=
 ai (Ab (Fa k w _) λw1 h1=>⟨rfl,h1⟩)
theorem Hc (k:Int):af AB 77 [aa k] w (.bool (uQ k)):=af.of λw' _=>Fb k w'
end
end Go.Proofs.YtlcenllcmeebhaaGreat
namespace Go.RX
set_option maxRecDepth 100000
open Go.ChangeShapes Go.WideShapes Go.RowKit
variable {H:Type} {enc:BN×AR->H} {P:Program} {w:A2} {base:Nat} {spare:Nat->Bool} {held:Bool}
def yG (P:Program) (g:BN->Option (List Sc)):Nat->List Field->Option (List Sc)
 | _,[]=>some []
 |off,f::r=>match g f.type with
  |some a=>if f.offset=off/\P.cellsOf f.type=a.length then match yG P g (off+a.length) r with
    |some b=>some (a++b)
    |none=>none
   else none
  |none=>none
def rO (P:Program):Nat->BN->Option (List Sc)
 |0, _=>none
 |d+1,t=>match P.underlying t with
  |some (.int k)=>some [.int k]
  |some .bool=>some [.bool]
  |some (.struct fs)=>match yG P (rO P d) 0 fs.toList with
   |some a=>if P.cellsOf t=a.length then some a else none
   |none=>none
  |some (.array n e)=>match rO P d e with
   |some a=>if P.cellsOf e=a.length/\P.cellsOf t=n*a.length then some (B9 n a).flatten else none
   |none=>none
  | _=>none
def ab5:(s:Sc)->s.T->Prop
 | .int k,x=>(Lit.int k x).wf=true
 | _, _=>True
def js:(l:List Sc)->g_ l->Prop
 |[], _=>True
 |s::r,x=>ab5 s x.1/\js r x.2
theorem sa: ∀(a b:List Sc) (x:g_ a) (y:g_ b),js a x->js b y-> ∃z:g_ (a++b),a9 (a++b) z=a9 a x++a9 b y/\js (a++b) z
 |[],b, _,y, _,c=>⟨y,rfl,c⟩
 |s::r,b,x,y,d,c=>by
  obtain⟨z,h1,e⟩:=sa r b x.2 y d.2 c;exact⟨(x.1,z),by simp only[JN,a9,h1],d.1,e⟩
theorem IZ {g:BN->Option (List Sc)} {m:Nat} (e: ∀t ss cs y,g t=some ss->DataW.trod enc P w base spare held m t cs=some y-> ∃x:g_ ss,cs=a9 ss x/\js ss x)
 {cs:List AR} {fs:Array Field} {xs:List (DataW H×List MemPlace)} (j:xs.length=fs.size)
 (k: ∀(i:Nat) (f:Field),fs[i]? =some f->DataW.trod enc P w base spare held m f.type ((cs.drop f.offset).take (P.cellsOf f.type))=xs[i]?):
 ∀(l:List Field) (i off:Nat) (ss:List Sc),fs.toList.drop i=l->yG P g off l=some ss->cs.length=off+ss.length-> ∃x:g_ ss,cs.drop off=a9 ss x/\js ss x
 |[],i,off,ss, _,h,d=>by
  simp only[yG,Option.some.injEq] at h;subst h;refine⟨(),?_,trivial⟩;rw[Gi (by simp at d;omega)];rfl
 |f::r,i,off,ss,c,h,d=>by
  simp only[yG] at h;split at h
  ·rename_i a o;split at h
   ·rename_i hc;split at h
    ·rename_i b hb;cases h;have hi:i<fs.toList.length:=by
      apply Nat.lt_of_not_le;intro p;rw[Gi p] at c;cases c
     have q:fs[i]? =some f:=by
      have:=congrArg (·[0]?) c;simp only[List.getElem?_drop,HB,List.getElem?_cons_zero] at this;simpa using this
     have n:=k i f q;have s: ∃y,xs[i]? =some y:=⟨_,B2 (by rw[j];simpa using hi)⟩;obtain⟨y,v⟩:=s;rw[v,hc.1,hc.2] at n;obtain⟨x,A,B⟩:=e _ _ _ _ o n;have C:fs.toList.drop (i+1)=r:=by
      have:=congrArg (List.drop 1) c;simpa[H4] using this
     obtain⟨z,D,E⟩:=IZ e j k r (i+1) (off+a.length) b C hb (by rw[d];simp;omega);obtain⟨u,F,G⟩:=sa a b x z B E;refine⟨u,?_,G⟩;rw[F, <-A, <-D, <-H4];exact(FY _ _).symm
    ·cases h
   ·cases h
  ·cases h
theorem Bc {a:List Sc} {cs:List AR}: ∀(n off:Nat),(∀i,i<n-> ∃x:g_ a,(cs.drop (off+i*a.length)).take a.length=a9 a x/\js a x)->cs.length=off+n*a.length->
 ∃x:g_ (B9 n a).flatten,cs.drop off=a9 _ x/\js _ x
 |0,off, _,b=>by
  refine⟨(),?_,trivial⟩;rw[Gi (by omega)];rfl
 |n+1,off,h,b=>by
  obtain⟨x,c,d⟩:=h 0 (by omega);obtain⟨z,e,f⟩:=Bc (a:=a) (cs:=cs) n (off+a.length) (λi hi=>by
   have:=h (i+1) (by omega);rw[show off+(i+1)*a.length=off+a.length+i*a.length by rw[FS];omega] at this;exact this) (by rw[b,FS];omega)
  obtain⟨u,g,j⟩:=sa a (B9 n a).flatten x z d f;refine⟨u,?_,j⟩;show _=a9 (a++(B9 n a).flatten) u;rw[g, <-c, <-e,H6,HB, <-H4];exact(FY _ _).symm
theorem qp: ∀(d m:Nat) (t:BN) (ss:List Sc) (cs:List AR) (y:DataW H×List MemPlace),rO P d t=some ss->DataW.trod enc P w base spare held m t cs=some y-> ∃x:g_ ss,cs=a9 ss x/\js ss x
 |0, _, _, _, _, _,h, _=>by simp[rO] at h
 |d+1,m,t,ss,cs,y,h,g=>by
  simp only[rO] at h;split at h
  ·rename_i k c;cases h;obtain⟨n,rfl, _,r⟩:=DataW.trod_int c g;exact⟨(n,()),rfl,r,trivial⟩
  ·rename_i c;cases h;obtain⟨b,rfl, _⟩:=DataW.trod_bool c g;exact⟨(b,()),rfl,trivial,trivial⟩
  ·rename_i fs c;split at h
   ·rename_i a j;split at h
    ·rename_i hc;cases h;obtain⟨xs,n, _, _,l,p,o⟩:=DataW.trod_struct c g;obtain⟨x,h1,f⟩:=IZ (λt ss cs y h1 f=>qp d n t ss cs y h1 f) p o fs.toList 0 0 _ rfl j (by rw[l,hc];omega);exact⟨x,by simpa using h1,f⟩
    ·cases h
   ·cases h
  ·rename_i n e c;split at h
   ·rename_i a j;split at h
    ·rename_i hc;cases h;obtain⟨xs,k, _, _,l,p,o⟩:=DataW.trod_array c g;obtain⟨x,h1,f⟩:=Bc (a:=a) (cs:=cs) n 0 (λi hi=>by
      have q:=o i hi;have s:xs[i]? =some xs[i]:=B2 (by omega);rw[s,hc.1] at q;rw[B_];exact qp d k e a _ _ j q) (by rw[l,hc.2];omega)
     exact⟨x,by simpa using h1,f⟩
    ·cases h
   ·cases h
  ·cases h
theorem Be {r:Reach} {a:Nat} {t:BN} {v:AR} {b:DataW H} {ps:List MemPlace} (d:Nat) {ss:List Sc} (c:rO P d t=some ss) (f:(∃n e,P.underlying t=some (.array n e))\/ ∃fs,P.underlying t=some (.struct fs))
 (hv:Value.okWide P w r a t v) (h:DataW.Trod enc P w base spare held t v b ps): ∃x:g_ ss,v= .agg ⟨a9 ss x⟩/\js ss x:=by
 obtain⟨j,g⟩:=h;have hc: ∃cs,v= .agg cs:=by
  unfold Value.okWide at hv;rcases f with ⟨n,e,h⟩|⟨fs,h⟩<;>(rw[h] at hv;obtain⟨cs,fg, _⟩:=hv;exact⟨cs,fg⟩)
 obtain⟨cs,rfl⟩:=hc;obtain⟨x,h1,i⟩:=qp d _ _ _ _ _ c g;refine⟨x,?_,i⟩;have:cs.toList=a9 ss x:=h1;rw[<-this]
theorem oB {t e:BN} {a:Option AC} {n c:Nat} {p:DataW H} {ps:List MemPlace} (d:Nat) {ss:List Sc} (q:P.underlying t=some (.slice e)) (r:rO P d e=some ss) (hc:P.cellsOf e=ss.length)
 (h:DataW.Trod enc P w base spare held t (.slice a n c) p ps): ∃xs:List (g_ ss),n=xs.length/\n<=maxLen/\Sl w (.agg ss) a xs/\ ∀x∈xs,js ss x:=by
 obtain⟨F,s⟩:=h;rcases Deep.open_slice q s with ⟨fg, _⟩|⟨x,len,cap,m,k,D,G,fg, _,I,J,u, _,l⟩
 ·simp[Value.cells] at fg;obtain⟨rfl,rfl,rfl⟩:=fg;exact⟨[],rfl,FG _,λi x l=>by simp at l,λx l=>by simp at l⟩
 ·simp[Value.cells] at fg;obtain⟨rfl,rfl,rfl⟩:=fg;have K:n<=m:=by rw[u];split<;>omega
  have v: ∀i,i<n-> ∃y:g_ ss,(∀j,j<ss.length->w.cell? ((x.add (i*ss.length)).add j)=(a9 ss y)[j]?)/\js ss y:=by
   intro i hi;obtain⟨L,h1,g⟩:=l i (by omega);obtain⟨y,A,B⟩:=qp d _ _ _ _ _ r g;obtain⟨_,C,pz⟩:=World.cells?_some h1;rw[hc] at h1 C pz;refine⟨y,λj o=>?_,B⟩;rw[<-A];exact pz j o
  have: ∀k,k<=n-> ∃xs:List (g_ ss),xs.length=k/\(∀i y,xs[i]? =some y->(∀j,j<ss.length->w.cell? ((x.add (i*ss.length)).add j)=(a9 ss y)[j]?)/\js ss y):=by
   intro k
   induction k with
   |zero=>intro _;exact⟨[],rfl,λi y b=>by simp at b⟩
   |succ k E=>
    intro M;obtain⟨xs,h1,g⟩:=E (by omega);obtain⟨y,b⟩:=v k (by omega);refine⟨xs++[y],by simp[h1],λi z f=>?_⟩;by_cases hi:i<xs.length
    ·rw[If hi] at f;exact g i z f
    ·rw[GS (by omega)] at f;have:i - xs.length=0:=by
      have:=(B3.1 f).1;simp at this;omega
     rw[this] at f;simp at f;subst f;rw[show i=k by omega];exact b
  obtain⟨xs,h1,g⟩:=this n (DB n);refine⟨xs,h1.symm,by omega,λi y b=>⟨rfl,x.add (i*ss.length),rfl,λj o=>(g i y b).1 j o⟩,λy b=>?_⟩;obtain⟨i,hi⟩:=F5 b;exact(g i y hi).2
end Go.RX
namespace Go.Proofs.YtlcenllcmeebhaaGreat
set_option maxRecDepth 100000
open Go.RX
section
variable {w0 w:A2} {L:List (Nat×List AR)}
def fX (ws:List Int) (f p t:Int):Nat->Int×Int×FT
 |0=>(f,3,(0,0,0,0,()))
 |k+1=>bj ws p t (fX ws f p t k)
def k_ (ws:List Int) (f p t:Int):FT:=if sP f p t then(0,0,0,1,()) else(fX ws f p t 4).2.2
theorem mY {ws:List Int} {p t:Int} {x:Int×Int×FT} (h:x.2.1= -1):bj ws p t x=x:=ax h
theorem I0 {fr pg wt lv:Int} {fd:FT} {ep:Bool} {er:Int} {el:Bool} {ef:Int} (a:0<=lv/\lv<=3):(tookS fr pg wt lv fd ep er el ef).2.1= -1\/((tookS fr pg wt lv fd ep er el ef).2.1=lv - 1/\0<lv):=by
 unfold tookS;split
 ·exact .inl rfl
 ·split
  ·rename_i h;rw[Df,decide_eq_true_eq] at h;exact .inr ⟨bD (by omega) (by omega),by omega⟩
  ·split
   ·exact .inl rfl
   ·split<;>exact .inl rfl
theorem WV (ws:List Int) (f p t:Int): ∀k:Nat,(fX ws f p t k).2.1= -1\/((fX ws f p t k).2.1=3 - (k:Int)/\k<=3)
 |0=> .inr ⟨rfl,by decide⟩
 |k+1=>by
  rcases WV ws f p t k with h|⟨h,a⟩
  ·left;show(bj ws p t (fX ws f p t k)).2.1= -1;rw[mY h];exact h
  ·show(bj ws p t (fX ws f p t k)).2.1= -1\/((bj ws p t (fX ws f p t k)).2.1=3 - ((k+1:Nat):Int)/\k+1<=3);generalize fX ws f p t k=x at h;unfold bj;rw[ao (by omega)];split
   ·exact .inl rfl
   ·rcases I0 (fr:=x.1) (pg:=p) (wt:=t) (lv:=x.2.1) (fd:=x.2.2) (by omega) with e|⟨e,b⟩
    ·exact .inl (e ..)
    ·exact .inr ⟨by rw[e];omega,by omega⟩
theorem xD {ws:List Int} {f p t:Int} {k:Nat} (h:(fX ws f p t k).2.1= -1): ∀j,fX ws f p t (k+j)=fX ws f p t k
 |0=>rfl
 |j+1=>by
  show bj ws p t (fX ws f p t (k+j))= _;rw[xD h j,mY h]
end
theorem set_perm {α:Type} (a:α): ∀(L:List α) (j:Nat),j<L.length->(L.set j a).Perm (a::L.eraseIdx j)
 |[], _,h=>by simp at h
 |x::L,0, _=>by simp
 |x::L,j+1,h=>by
  rw[List.set_cons_succ,List.eraseIdx_cons_succ];exact((set_perm a L j (by simpa using h)).cons x).trans (.swap a x _)
theorem O0 {α:Type} {L:List α} {j:Nat} {a:α} (b:L[j]? =some a):L.set j a=L:=by
 apply Dl;intro n;by_cases e:j=n
 ·subst e;rw[DJ (B3.1 b).1,b]
 ·rw[Dj e]
theorem Zk {α:Type} {L:List α} {j c:Nat} {a b:α} (d:L[j]? =some a) (hb:L[c]? =some b) (h:j≠c): ∃f,L.Perm (a::b::f)/\ ∀a',(L.set j a').Perm (a'::b::f):=by
 have g:j<L.length:=(B3.1 d).1;have k:b∈L.eraseIdx j:=by
  rw[List.mem_eraseIdx_iff_getElem?];exact⟨c,λe=>h e.symm,hb⟩
 obtain⟨i,hi⟩:=F5 k;have l:i<(L.eraseIdx j).length:=(B3.1 hi).1;have p2:(L.eraseIdx j).Perm (b::(L.eraseIdx j).eraseIdx i):=by
  have:=set_perm b (L.eraseIdx j) i l;rwa[O0 hi] at this
 refine⟨(L.eraseIdx j).eraseIdx i,?_,λa'=>(set_perm a' L j g).trans (p2.cons a')⟩;have:=(set_perm a L j g).trans (p2.cons a);rwa[O0 d] at this
section
variable {w0 w:A2} {L:List (Nat×List AR)}
end
end Go.Proofs.YtlcenllcmeebhaaGreat
namespace Go.Proofs.YtlcenllcmeebhaaGreat.D
set_option maxRecDepth 100000
open Go.RX
noncomputable def D0:dH AB:={C3 with vC:=true}
theorem Q7 (a:Int) (w:A2) (k:Option AC×Nat×Nat->A2->Prop):(aM D0 (λ_=>[]) 246 [aa a] w k)=(
 ∀w1,Ext w w1->aL (w1.alloc (Obj.map ⟨[]⟩ 0)) ⟨[aa 1,aa 2,aa 3,aa 4]⟩ 3 λb c=> ∀e,Ext c e-> ∃(r:Nat), ∃(es:Array Ax), ∃(d:Nat),some w1.heap.size=some r/\bH e r es d/\gU e r .i64 0 (.slice (ae b) 4 4) es d λc=>aL c ⟨[aa 0,aa 2,aa 3,aa 4]⟩ 3 λb c=> ∀f,Ext c f-> ∃(r:Nat), ∃(es:Array Ax), ∃(d:Nat),some w1.heap.size=some r/\bH f r es d/\gU f r .i64 1 (.slice (ae b) 4 4) es d λc=>aL c ⟨[aa 5,.int
 .i64 0]⟩ 3 λb c=> ∀g,Ext c g-> ∃(r:Nat), ∃(es:Array Ax), ∃(d:Nat),some w1.heap.size=some r/\bH g r es d/\gU g r .i64 2 (.slice (ae b) 2 2) es d λc=>aL c ⟨[aa 5,aa 0]⟩ 3 λb c=> ∀h,Ext c h-> ∃(r:Nat), ∃(es:Array Ax), ∃(d:Nat),some w1.heap.size=some r/\bH h r es d/\gU h r .i64 3 (.slice (ae b) 2 2) es d λc=>aL c ⟨[aa 5,aa 0,aa 4]⟩ 3 λb c=> ∀i,Ext c i-> ∃(r:Nat), ∃(es:Array Ax), ∃(d:Nat),some
 w1.heap.size=some r/\bH i r es d/\gU i r .i64 4 (.slice (ae b) 3 3) es d λc=>aL c ⟨[aa 0]⟩ 3 λb c=> ∀j,Ext c j-> ∃(r:Nat), ∃(es:Array Ax), ∃(d:Nat),some w1.heap.size=some r/\bH j r es d/\gU j r .i64 5 (.slice (ae b) 1 1) es d λc=> ∃(x:Option AC×Nat×Nat),jT c (some w1.heap.size) .i64 a (.slice none 0 0) (.slice x.1 x.2.1 x.2.2)/\au c (k (x.1,x.2.1,x.2.2))):=by kernel_rfl
def zC:Nat->a7:=(λ|2=>[(10,Go.RX.El.one (Go.RX.Sc.int B5))]| _=>[])
theorem Zl (a b:Int) (w:A2) (Post:Bool->A2->Prop):(aM D0 zC 234 [aa a,aa b] w Post)=(
 aB AB 246 (.el (.one .slice)) [aa a] w λx f=> ∀(c:Int),c=(↑x.2.1:Int)-> ∃(I:Nat->Int×Unit->A2->Prop),(∃n, ∀w1,Ext f w1->I n (0,()) w1)/\ ∀(n:Nat) (s:Int×Unit) (w1:A2),I n s w1->aJ (decide (s.1<c)) ((x.1.isSome=true/\0<=s.1/\s.1<(↑x.2.1:Int))/\aj w1 none (ad x.1 (Int.toNat s.1*1)) (.one (.int .i64)) λ(x:Int)=>aJ (x==b) (au w1 λw1=>Post true w1) (∀(x:Int),x=aI .i64 s.1 1-> ∀d,Ext w1 d-> ∃(e:Nat),e<n/\I e (x,()) d)) (au w1 λw1=>Post false w1)):=by
 kernel_rfl
theorem xB {w:A2} {r:Nat} {k:IntKind} {n:Int} {val:AR} {es:Array Ax} {a:Nat} {K:A2->Prop} (h:DG (.int k) (.int k n) es.toList 0=some none)
 (b:K (w.putObj r (.map (es.push {key:= .int k n,val,born:=a}) (a+1)))):gU w r k n val es a K:=by
 unfold gU;rw[h];exact b
theorem mT {w0 a c:A2} {r:Nat} {es:Array Ax} {b:Nat} {l:List AR} {t:BN} {n:Int} {bs:List (Nat×List AR)} {val:AR} {K:A2->Prop}
 (o:Ext w0 a) (p:w0.heap.size<=r) (q:bH a r es b) (hb: ∀x∈bs,bN a x.1 x.2/\x.1≠r) (g:Ext (a.alloc (.cells ⟨l⟩ t)) c)
 (s:DG (.int .i64) (aa n) es.toList 0=some none)
 (k: ∀e,Ext w0 e->bH e r (es.push {key:=aa n,val,born:=b}) (b+1)->(∀x∈(a.heap.size,l)::bs,bN e x.1 x.2/\x.1≠r)->K e):
 ∃r' h i,some r=some r'/\bH c r' h i/\gU c r' .i64 n val h i K:=by
 have j:a.heap[r]? =some (.map es b):=q;have u:r<a.heap.size:=(Array.getElem?_eq_some_iff.1 j).1;have f:Ext a c:=(Ext.alloc a _).trans g;have m:c.heap[r]? =some (.map es b):=f.obj j;refine⟨r,es,b,rfl,m,xB s (k _ ((o.trans f).putObj p _) ?_ ?_)⟩
 ·exact j7 (Array.getElem?_eq_some_iff.1 m).1
 ·intro x d;rcases E4.1 d with rfl|d
  ·have:a.heap.size≠r:=by omega
   exact⟨((bN.new a l t).ext g).putObj this _,this⟩
  ·exact⟨((hb x d).1.ext f).putObj (hb x d).2 _,(hb x d).2⟩
def fp (a:Int):List Int:=if a=0 then[1,2,3,4] else if a=1 then[0,2,3,4] else if a=2 then[5,0] else if a=3 then[5,0] else if a=4 then[5,0,4] else if a=5 then[0] else[]
theorem Q8 (a:Int) (w:A2):aE AB 246 (.el (.one .slice)) [aa a] w (λr w'=>Sl w' eI r.1 (fp a)/\r.2.1=(fp a).length/\Ext w w'):=by
 refine ai (C:=D0) (aS:=λ_=>[]) (Ab (Q7 a w _) ?_);intro w1 h1 j p Z B;have m0:bH j w1.heap.size #[] 0:=p.obj (fw w1 _);have step: ∀{W:A2} {bs:List (Nat×List AR)} {r:Nat},(∀x∈bs,bN W x.1 x.2/\x.1≠r)-> ∀{q:A2},Ext W q-> ∀x∈bs,bN q x.1 x.2/\x.1≠r:=
  λh _ e x c=>⟨(h x c).1.ext e,(h x c).2⟩
 refine mT (bs:=[]) ((h1.iY _).trans p) h1.size m0 (λx c=>by cases c) B rfl λW0 E0 M0 B0 s k w5 D=>?_;refine mT (E0.trans k) h1.size (k.obj M0) (step B0 k) D rfl λW1 E1 M1 E t l w7 F=>?_;refine mT (E1.trans l) h1.size (l.obj M1) (step E l) F rfl λW2 E2 M2 G u m w9 H=>?_;refine mT (E2.trans m) h1.size (m.obj M2) (step G m) H rfl λW3 E3 M3 I v n nh J=>?_;refine mT (E3.trans n) h1.size (n.obj M3) (step I n) J rfl λW4 K L M y o Nh N=>?_;refine mT (K.trans o) h1.size (o.obj L) (step M o) N rfl λf O b d=>?_;have P:=(d (j.heap.size,[aa 1,aa 2,aa 3,aa 4]) (by simp)).1;have Q:=(d (s.heap.size,[aa 0,aa 2,aa 3,aa 4]) (by simp)).1;have R:=(d (t.heap.size,[aa 5,aa 0]) (by simp)).1;have S:=(d (u.heap.size,[aa 5,aa 0]) (by simp)).1;have T:=(d (v.heap.size,[aa 5,aa 0,aa 4]) (by simp)).1;have U:=(d (y.heap.size,[aa 0]) (by simp)).1;have fin: ∀(x:Option AC×Nat×Nat),jT f (some w1.heap.size) .i64 a (.slice none 0 0) (.slice x.1 x.2.1 x.2.2)->Sl f eI x.1 (fp a)->x.2.1=(fp a).length->
  ∃x:Option AC×Nat×Nat,jT f (some w1.heap.size) .i64 a (.slice none 0 0) (.slice x.1 x.2.1 x.2.2)/\ ∀g,Ext f g->Sl g eI (x.1,x.2.1,x.2.2).1 (fp a)/\(x.1,x.2.1,x.2.2).2.1=(fp a).length/\Ext w g:=
  λx V X Y=>⟨x,V,λg z=>⟨X.ext z,Y,O.trans z⟩⟩
 by_cases c0:a=0
 ·subst c0;exact fin (some ⟨j.heap.size,0,none⟩,4,4) ⟨_, _, _,rfl,b,rfl⟩ (Sl.jF P rfl) rfl
 by_cases c1:a=1
 ·subst c1;exact fin (some ⟨s.heap.size,0,none⟩,4,4) ⟨_, _, _,rfl,b,rfl⟩ (Sl.jF Q rfl) rfl
 by_cases c2:a=2
 ·subst c2;exact fin (some ⟨t.heap.size,0,none⟩,2,2) ⟨_, _, _,rfl,b,rfl⟩ (Sl.jF R rfl) rfl
 by_cases c3:a=3
 ·subst c3;exact fin (some ⟨u.heap.size,0,none⟩,2,2) ⟨_, _, _,rfl,b,rfl⟩ (Sl.jF S rfl) rfl
 by_cases c4:a=4
 ·subst c4;exact fin (some ⟨v.heap.size,0,none⟩,3,3) ⟨_, _, _,rfl,b,rfl⟩ (Sl.jF T rfl) rfl
 by_cases c5:a=5
 ·subst c5;exact fin (some ⟨y.heap.size,0,none⟩,1,1) ⟨_, _, _,rfl,b,rfl⟩ (Sl.jF U rfl) rfl
 have A:fp a=[]:=by
  unfold fp;rw[ao c0,ao c1,ao c2,ao c3,ao c4,ao c5]
 refine fin (none,0,0) ⟨_, _, _,rfl,b,?_⟩ (by rw[A];intro i x c;simp at c) (by rw[A];rfl);have d0:(a==0)=false:=by simp[c0]
 have d1:(a==1)=false:=by simp[c1]
 have d2:(a==2)=false:=by simp[c2]
 have d3:(a==3)=false:=by simp[c3]
 have d4:(a==4)=false:=by simp[c4]
 have d5:(a==5)=false:=by simp[c5]
 simp only[Array.toList_push,List.nil_append,JN,DG,JV,if_true,B_,d0,d1,d2,d3,d4,d5]
theorem KZ (a:Int):(fp a).length<=4:=by
 unfold fp
 repeat (split; ·decide)
 decide
theorem Zm (a b:Int) (w:A2):aE AB 234 (.el (.one .bool)) [aa a,aa b] w (λx w'=>x=decide (b∈fp a)/\Ext w w'):=by
 refine ai (C:=D0) (aS:=zC) (Ab (Zl a b w _) ?_);intro w1 h1;refine(Q8 a w1).mono ?_;rintro⟨p,n,c⟩ A ⟨q,B,t⟩ x1 v;dsimp only at v B q;subst v;have F:=KZ a;refine⟨λk s w'=>Ext A w'/\ ∃i:Nat,s.1=i/\k+i=n/\ ∀j,j<i->(fp a)[j]? ≠some b,⟨n,λD d=>⟨d,0,rfl,rfl,λj g=>absurd g (by omega)⟩⟩,?_⟩;rintro k ⟨G,u⟩ D ⟨d,i,hi,H,g⟩;simp only at hi;subst hi;dsimp only;refine ab (λh=>?_) (λh=>λy f=>⟨?_,((h1.trans t).trans d).trans f⟩)
 ·simp only[decide_eq_true_eq] at h;have l:i<(fp a).length:=by omega
  have r:=(q.ext d) i _ (B2 l);refine⟨⟨r.1,by omega,by omega⟩, _,r.2,ab (λm y f=>⟨?_,((h1.trans t).trans d).trans f⟩) (λm x E y f=>⟨k - 1,by omega,d.trans f,i+1,by rw[E,av (by omega) (by omega)];rfl,by omega,?_⟩)⟩
  ·have:(fp a)[i]=b:=by simpa using m
   have o:b∈fp a:=by rw[<-this];exact FV l
   simp[o]
  ·intro j I;by_cases e:j=i
   ·subst e;rw[B2 l];intro hc;simp only[Option.some.injEq] at hc;simp[hc] at m
   ·exact g j (by omega)
 ·simp only[decide_eq_false_iff_not] at h;have: ¬ b∈fp a:=by
   intro o;obtain⟨j,z⟩:=F5 o;have:=(B3.1 z).1;exact g j (by omega) z
  simp[this]
noncomputable def Yv:Entry AB where
 f:=234
 fn l:=match l with
  |[.int .i64 a,.int .i64 b]=>some (True,.bool (decide (b∈fp a)))
  | _=>none
 ok args pre v h c w:=by
  split at h
  ·rename_i a b;cases h;exact bW (Zm a b w)
  ·cases h
noncomputable def D1:dH AB:={D0 with sj:=[sZ,vD,FO,FP,Yv]}
abbrev wg (c:Bool->A2->Prop) (a:A2) (b:Nat):Prop:=
 aj a none (ae b) dR λ(x:Int×Int×Int×Int×Unit)=>true=true/\aT a (ad (ae b) 0) λd=>au a λw1=>c (x.1==d&&(x.2.1==0&&(x.2.2.1==0&&(x.2.2.2.1==0&&true)))) w1
abbrev wh (c:Bool->A2->Prop) (a:A2) (b:Nat):Prop:=
 true=true/\aT a (ad (ae b) 1) λx=>(decide (x>0)=true->true=true)/\aj a (some (decide (x>0))) (ad (ae b) 3) aU λ(d:Int)=>au a (c (decide (x>0)&&d==0))
abbrev wi (b:Bool->A2->Prop) (c:Int) (a:A2) (d:Nat):Prop:=
 aJ (c==5) (true=true/\aT a (ad (ae d) 2) λx=>au a (b (x==0))) (au a (b false))
abbrev wj (d:Bool->A2->Prop) (b:Int) (a:A2) (c:Nat):Prop:=
 aJ (b==2) (true=true/\aT a (ad (ae c) 1) λx=>((x==0)=true->true=true)/\aj a (some (x==0)) (ad (ae c) 3) aU λ(e:Int)=>au a (d (x==0&&e==0))) (aJ (b==3) (aJ (b==3) (wh d a c) (wi d b a c)) (aJ (b==4) (wh d a c) (wi d b a c)))
theorem yW (k o r e:Int) (w:A2) (f:Bool->A2->Prop):(aM D1 (λ_=>[]) 233 [.agg ⟨[aa k,aa o,aa r,aa e]⟩] w f)=(
 aL w ⟨[aa k,aa o,aa r,aa e]⟩ 52 λb a=>true=true/\aT a (ad (ae b) 1) λx=>((!decide (x<0))=true->true=true)/\aj a (some !decide (x<0)) (ad (ae b) 1) aU λ(c:Int)=>((!(decide (x<0)||decide (c>16)))=true->true=true)/\aj a (some !(decide (x<0)||decide (c>16))) (ad (ae b) 2) aU λ(d:Int)=>((!(decide (x<0)||decide (c>16)||decide (d<0)))=true->true=true)/\aj a (some !(decide (x<0)||decide (c>16)||decide (d<0))) (ad (ae b) 2) aU λ(g:Int)=>
 ((!(decide (x<0)||decide (c>16)||decide (d<0)||decide (g>65535)))=true->true=true)/\aj a (some !(decide (x<0)||decide (c>16)||decide (d<0)||decide (g>65535))) (ad (ae b) 3) aU λ(h:Int)=>((!(decide (x<0)||decide (c>16)||decide (d<0)||decide (g>65535)||decide (h<0)))=true->true=true)/\aj a (some !(decide (x<0)||decide (c>16)||decide (d<0)||decide (g>65535)||decide (h<0))) (ad (ae b) 3) aU λ(i:Int)=>aJ (decide (x<0)||decide (c>16)||decide (d<0)||
 decide (g>65535)||decide (h<0)||decide (i>4294967295)) (au a (f false)) (true=true/\aT a (ad (ae b) 0) λx=>aJ (x==0) (aJ (x==0) (wg f a b) (wj f x a b)) (aJ (x==1) (wg f a b) (wj f x a b)))):=by kernel_rfl
def jH (k o r e:Int):Prop:=(0<=o/\o<=16/\0<=r/\r<=65535/\0<=e/\e<=4294967295)/\(((k=0\/k=1)/\o=0/\r=0/\e=0)\/(k=2/\o=0/\e=0)\/((k=3\/k=4)/\0<o/\e=0)\/(k=5/\r=0))
instance (k o r e:Int):Decidable (jH k o r e):=by unfold jH;infer_instance
def dT (k o r e:Int):Bool:=decide (jH k o r e)
theorem K8 {k o r e:Int} {b:Bool} (h:b=true<->jH k o r e):b=dT k o r e:=by
 unfold dT;rw[JW,decide_eq_true_eq];exact h
theorem yX (k o r e:Int) (w:A2):aE AB 233 (.el (.one .bool)) [.agg ⟨[aa k,aa o,aa r,aa e]⟩] w (λb w'=>b=dT k o r e/\Ext w w'):=by
 refine ai (C:=D1) (aS:=λ_=>[]) (Ab (yW k o r e w _) ?_);have H:=At.start [] w
 repeat' (first
  |exact Go.RX.aK.all H
  |exact B1 (by first|rfl|decide+kernel) (Go.RX.aK.all H)
  |refine B1 (by first|exact rfl|exact trivial|exact λ_=>rfl|exact λ_=>trivial|exact⟨rfl,by decide,by decide⟩|exact⟨by decide,by decide⟩|decide+kernel|exact λ_=>by decide|exact λ_=>⟨rfl,by decide,by decide⟩|(dsimp only[DY,Db];exact⟨rfl,by decide,by decide⟩)) ?_
  |refine aj.cq 0 H rfl rfl ?_
  |refine aj.at 0 H rfl rfl ?_
  |refine aL.go H λb w1 H=>?_
  |refine az.all 0 H rfl rfl rfl λw1 H=>?_
  |refine az.fK 0 H rfl rfl rfl λw1 H=>?_
  |refine az.one 0 H rfl rfl rfl λw1 H=>?_
  |with_reducible refine au.go H λw1 H=>?_
  |refine jG ?_
  |refine aD (by assumption) ?_
  |refine an (by assumption) ?_
  |refine ab (λc=>?_) (λc=>?_))
 all_goals
  refine B1 (K8 ?_) H.all;simp only[Dd,Do,Df,Hr,beq_iff_eq,beq_eq_false_iff_ne,bne_iff_ne,bne_eq_false_iff_eq,decide_eq_true_eq,decide_eq_false_iff_not,I1,I2,Ds,IR,and_true,true_and,and_false,false_and,or_true,true_or,or_false,false_or,ne_eq,not_true_eq_false,not_false_eq_true,false_iff,iff_false,true_iff,iff_true] at*
  unfold jH;omega
noncomputable def uZ:Entry AB where
 f:=233
 fn l:=match l with
  |[.agg ⟨[.int .i64 k,.int .i64 o,.int .i64 r,.int .i64 e]⟩]=>some (True,.bool (dT k o r e))
  | _=>none
 ok args pre v h a w:=by
  split at h
  ·rename_i k o r e;cases h;exact bW (yX k o r e w)
  ·cases h
noncomputable def D2:dH AB:={D0 with sj:=[sZ,vD,FO,FP,Yv,uZ]}
abbrev zF (d:(Int×Int×Int×Int×Unit)×Int×Unit->A2->Prop) (a:A2) (e:Nat) (b:Nat):Prop:=
 aj a none (ae e) dR λ(x:Int×Int×Int×Int×Unit)=>True/\aJ (!dT x.1 x.2.1 x.2.2.1 x.2.2.2.1) (az a (ae b) [aa 0,aa 0,aa 0,aa 0] λc=>au c λw1=>aj w1 none (ae b) dR λ(x:Int×Int×Int×Int×Unit)=>d ((x.1,x.2.1,x.2.2.1,x.2.2.2.1,()),1,()) w1) (aj a none (ae e) dR λ(x:Int×Int×Int×Int×Unit)=>az a (ae b) [aa x.1,aa x.2.1,aa x.2.2.1,aa x.2.2.2.1] λc=>au c λw1=>aj w1 none (ae b) dR λ(x:Int×Int×Int×Int×
 Unit)=>d ((x.1,x.2.1,x.2.2.1,x.2.2.2.1,()),0,()) w1)
theorem UP (k o r e x y:Int) (w:A2) (d:(Int×Int×Int×Int×Unit)×Int×Unit->A2->Prop):(bT D2 (λ_=>[]) 192 [.agg ⟨[aa k,aa o,aa r,aa e]⟩,aa x,aa y] w d)=(
 aL w ⟨[aa k,aa o,aa r,aa e]⟩ 52 λb a=>aL a ⟨[aa 0,aa 0,aa 0,aa 0]⟩ 52 λc a=>aj a none (ae b) dR λ(f:Int×Int×Int×Int×Unit)=>True/\aJ (!dT f.1 f.2.1 f.2.2.1 f.2.2.2.1) (az a (ae c) [aa 0,aa 0,aa 0,aa 0] λa=>au a λw1=>aj w1 none (ae c) dR λ(x:Int×Int×Int×Int×Unit)=>d ((x.1,x.2.1,x.2.2.1,x.2.2.2.1,()),11,()) w1) (true=true/\aT a (ad (ae b) 2) λg=>aJ (decide (g>0)) (az a
 (ae c) [aa 0,aa 0,aa 0,aa 0] λa=>au a λw1=>aj w1 none (ae c) dR λ(x:Int×Int×Int×Int×Unit)=>d ((x.1,x.2.1,x.2.2.1,x.2.2.2.1,()),9,()) w1) (true=true/\aT a (ad (ae b) 0) λh=>True/\aJ (!decide (x∈fp h)) (az a (ae c) [aa 0,aa 0,aa 0,aa 0] λa=>au a λw1=>aj w1 none (ae c) dR λ(x:Int×Int×Int×Int×Unit)=>d ((x.1,x.2.1,x.2.2.1,x.2.2.2.1,()),6,()) w1) (aJ (x==5) (true=true/\aT a (ad (ae
 b) 1) λi=>aL a ⟨[aa 0,aa 0,aa 0,aa 0]⟩ 52 λb a=>az a (ae b) [aa x,aa i,aa 0,aa 0] λa=>zF d a b c) (aL a ⟨[aa 0,aa 0,aa 0,aa 0]⟩ 52 λb a=>az a (ae b) [aa x,aa y,aa 0,aa 0] λa=>zF d a b c))))):=by kernel_rfl
theorem Zn (k o r e x:Int) (w:A2) (d:(Int×Int×Int×Int×Unit)×Int×Unit->A2->Prop):(bT D2 (λ_=>[]) 228 [.agg ⟨[aa k,aa o,aa r,aa e]⟩,aa x] w d)=(
 aL w ⟨[aa k,aa o,aa r,aa e]⟩ 52 λb a=>aL a ⟨[aa 0,aa 0,aa 0,aa 0]⟩ 52 λc a=>aj a none (ae b) dR λ(g:Int×Int×Int×Int×Unit)=>True/\aJ (!dT g.1 g.2.1 g.2.2.1 g.2.2.2.1) (az a (ae c) [aa 0,aa 0,aa 0,aa 0] λa=>au a λw1=>aj w1 none (ae c) dR λ(x:Int×Int×Int×Int×Unit)=>d ((x.1,x.2.1,x.2.2.1,x.2.2.2.1,()),11,()) w1) (true=true/\aT a (ad (ae b) 0) λf=>((f != 2)=true->true=
 true)/\aj a (some (f != 2)) (ad (ae b) 0) aU λ(i:Int)=>((f != 2&&i != 3)=true->true=true)/\aj a (some (f != 2&&i != 3)) (ad (ae b) 0) aU λ(l:Int)=>aJ (f != 2&&i != 3&&l != 4) (az a (ae c) [aa 0,aa 0,aa 0,aa 0] λa=>au a λw1=>aj w1 none (ae c) dR λ(x:Int×Int×Int×Int×Unit)=>d ((x.1,x.2.1,x.2.2.1,x.2.2.2.1,()),6,()) w1) (true=true/\aT a (ad (ae b) 2) λm=> ∀(h:Int),h=aZ .i64 65535 m->((!decide (x>h))=true->
 true=true)/\aj a (some !decide (x>h)) (ad (ae b) 2) aU λ(n:Int)=>aJ (decide (x>h)||decide (x<aZ .i64 0 n)) (az a (ae c) [aa 0,aa 0,aa 0,aa 0] λa=>au a λw1=>aj w1 none (ae c) dR λ(x:Int×Int×Int×Int×Unit)=>d ((x.1,x.2.1,x.2.2.1,x.2.2.2.1,()),2,()) w1) (true=true/\aT a (ad (ae b) 2) λp=> ∀(j:Int),j=aI .i64 p x->true=true/\az a (ad (ae b) 2) [aa j] λa=>aj a none (ae b) dR λ(x:Int×Int×Int×Int×Unit)=>
 az a (ae c) [aa x.1,aa x.2.1,aa x.2.2.1,aa x.2.2.2.1] λa=>au a λw1=>aj w1 none (ae c) dR λ(x:Int×Int×Int×Int×Unit)=>d ((x.1,x.2.1,x.2.2.1,x.2.2.2.1,()),0,()) w1)))):=by kernel_rfl
def fS (k o r e x y:Int):Int:=if dT k o r e=false then 11 else if r>0 then 9 else if x∈fp k then(if dT x (if x=5 then o else y) 0 0=false then 1 else 0) else 6
def mF (k o r e x y:Int):Int:=if fS k o r e x y=0 then x else 0
def lq (k o r e x y:Int):Int:=if fS k o r e x y=0 then(if x=5 then o else y) else 0
theorem UQ (k o r e x y:Int) (w:A2):aE AB 192 (.bG [(.agg [.int .i64,.int .i64,.int .i64,.int .i64]),.one (.int .i64)]) [.agg ⟨[aa k,aa o,aa r,aa e]⟩,aa x,aa y] w
 (λv w'=>v=((mF k o r e x y,lq k o r e x y,(0:Int),(0:Int),()),fS k o r e x y,())/\Ext w w'):=by
 refine aR (C:=D2) (aS:=λ_=>[]) (Ab (UP k o r e x y w _) ?_);have H:=At.start [] w
 repeat' (first
  |exact Go.RX.aK.all H
  |exact B1 (by first|rfl|decide+kernel) (Go.RX.aK.all H)
  |refine B1 (by grind) ?_
  |refine aj.cq 0 H rfl rfl ?_
  |refine aj.cq 1 H rfl rfl ?_
  |refine aj.cq 2 H rfl rfl ?_
  |refine aj.at 0 H rfl rfl ?_
  |refine aj.at 1 H rfl rfl ?_
  |refine aj.at 2 H rfl rfl ?_
  |refine aL.go H λb w1 H=>?_
  |refine az.all 0 H rfl rfl rfl λw1 H=>?_
  |refine az.all 1 H rfl rfl rfl λw1 H=>?_
  |refine az.all 2 H rfl rfl rfl λw1 H=>?_
  |refine az.fK 0 H rfl rfl rfl λw1 H=>?_
  |refine az.fK 1 H rfl rfl rfl λw1 H=>?_
  |refine az.fK 2 H rfl rfl rfl λw1 H=>?_
  |refine az.one 0 H rfl rfl rfl λw1 H=>?_
  |refine az.one 1 H rfl rfl rfl λw1 H=>?_
  |refine az.one 2 H rfl rfl rfl λw1 H=>?_
  |with_reducible refine au.go H λw1 H=>?_
  |refine jG ?_
  |refine aD (by assumption) ?_
  |refine an (by assumption) ?_
  |refine ab (λc=>?_) (λc=>?_))
 all_goals
  refine B1 ?_ H.all;simp only[Dd,Do,Df,Hr,beq_iff_eq,beq_eq_false_iff_ne,bne_iff_ne,bne_eq_false_iff_eq,decide_eq_true_eq,decide_eq_false_iff_not,I1,I2,Ds,IR,and_true,true_and,and_false,false_and,or_true,true_or,or_false,false_or,ne_eq,not_true_eq_false,not_false_eq_true,false_iff,iff_false,true_iff,iff_true] at*
  first
   |(simp[mF,lq,fS, *];done)
   |(subst_vars;simp[mF,lq,fS, *])
def wZ (k o r e x:Int):Int:=if dT k o r e=false then 11 else if k=2\/k=3\/k=4 then(if r+x<0\/r+x>65535 then 2 else 0) else 6
def qC (k o r e x:Int):Int×Int×Int×Int×Unit:=if wZ k o r e x=0 then(k,o,r+x,e,()) else(0,0,0,0,())
theorem Zo (k o r e x:Int) (l: -9223372036854775808<=x/\x<9223372036854775808) (w:A2):aE AB 228 (.bG [(.agg [.int .i64,.int .i64,.int .i64,.int .i64]),.one (.int .i64)]) [.agg ⟨[aa k,aa o,aa r,aa e]⟩,aa x] w
 (λv w'=>v=(qC k o r e x,wZ k o r e x,())/\Ext w w'):=by
 refine aR (C:=D2) (aS:=λ_=>[]) (Ab (Zn k o r e x w _) ?_);have H:=At.start [] w
 repeat' (first
  |exact Go.RX.aK.all H
  |exact B1 (by first|rfl|decide+kernel) (Go.RX.aK.all H)
  |refine B1 (by first|exact rfl|exact trivial|exact λ_=>rfl|exact λ_=>trivial|exact⟨rfl,by decide,by decide⟩|exact⟨by decide,by decide⟩|decide+kernel|exact λ_=>by decide|exact λ_=>⟨rfl,by decide,by decide⟩|(dsimp only[DY,Db];exact⟨rfl,by decide,by decide⟩)) ?_
  |refine aj.cq 0 H rfl rfl ?_
  |refine aj.cq 1 H rfl rfl ?_
  |refine aj.cq 2 H rfl rfl ?_
  |refine aj.at 0 H rfl rfl ?_
  |refine aj.at 1 H rfl rfl ?_
  |refine aj.at 2 H rfl rfl ?_
  |refine aL.go H λb w1 H=>?_
  |refine az.all 0 H rfl rfl rfl λw1 H=>?_
  |refine az.all 1 H rfl rfl rfl λw1 H=>?_
  |refine az.all 2 H rfl rfl rfl λw1 H=>?_
  |refine az.fK 0 H rfl rfl rfl λw1 H=>?_
  |refine az.fK 1 H rfl rfl rfl λw1 H=>?_
  |refine az.fK 2 H rfl rfl rfl λw1 H=>?_
  |refine az.one 0 H rfl rfl rfl λw1 H=>?_
  |refine az.one 1 H rfl rfl rfl λw1 H=>?_
  |refine az.one 2 H rfl rfl rfl λw1 H=>?_
  |with_reducible refine au.go H λw1 H=>?_
  |refine jG ?_
  |refine aD (by assumption) ?_
  |refine an (by assumption) ?_
  |refine ab (λc=>?_) (λc=>?_))
 all_goals
  refine B1 ?_ H.all;simp only[Dd,Do,Df,Hr,beq_iff_eq,beq_eq_false_iff_ne,bne_iff_ne,bne_eq_false_iff_eq,decide_eq_true_eq,decide_eq_false_iff_not,I1,I2,Ds,IR,and_true,true_and,and_false,false_and,or_true,true_or,or_false,false_or,ne_eq,not_true_eq_false,not_false_eq_true,false_iff,iff_false,true_iff,iff_true] at*
 ·simp[qC,wZ, *]
 ·have a: ¬ (k=2\/k=3\/k=4):=by omega
  simp[qC,wZ, *]
 all_goals
  have d:dT k o r e=true:=by assumption
  have g:jH k o r e:=of_decide_eq_true d;unfold jH at g;have h:aZ .i64 65535 r=65535 - r:=bD (by omega) (by omega);have i:aZ .i64 0 r=0 - r:=bD (by omega) (by omega);simp only[h,i] at*
  have a:k=2\/k=3\/k=4:=by omega
 ·have f:r+x<0\/r+x>65535:=by omega
  simp[qC,wZ, *]
 ·have f: ¬ (r+x<0\/r+x>65535):=by omega
  have j:aI .i64 r x=r+x:=av (by omega) (by omega);have:wZ k o r e x=0:=by unfold wZ;rw[ao (by rw[d];decide),ax a,ao f]
  unfold qC;rw[this,ax rfl,j]
theorem Is {x:Int} (h:0<=x) (h':x<18446744073709551616):(B x).toNat=x.toNat:=by
 have:=BW h h';unfold U at this;omega
theorem eJ (x:Int):aG .u64 x=U (B x):=YX x
def fE (N:Nat):Int:=((N / 4294967296 % 4294967296:Nat):Int)
theorem ab7 {x:Int} (h:0<=x) (h':x<4294967296):aG .i64 x=x:=gw (by omega) (by omega)
theorem cE (N:Nat):aG .i64 (fE N)=fE N:=ab7 (by unfold fE;omega) (by unfold fE;omega)
noncomputable def aa3:Entry AB where
 f:=192
 fn l:=match l with
  |[.agg ⟨[.int .i64 k,.int .i64 o,.int .i64 r,.int .i64 e]⟩,.int .i64 x,.int .i64 y]=>some (True,.tuple ⟨[.agg ⟨[.int .i64 (mF k o r e x y),.int .i64 (lq k o r e x y),.int .i64 0,.int .i64 0]⟩,.int .i64 (fS k o r e x y)]⟩)
  | _=>none
 ok args pre v h a w:=by
  split at h
  ·rename_i k o r e x y;cases h;exact bW (UQ k o r e x y w)
  ·cases h
noncomputable def ab8:Entry AB where
 f:=228
 fn l:=match l with
  |[.agg ⟨[.int .i64 k,.int .i64 o,.int .i64 r,.int .i64 e]⟩,.int .i64 x]=>some ((-9223372036854775808<=x/\x<9223372036854775808),.tuple ⟨[.agg ⟨[.int .i64 (qC k o r e x).1,.int .i64 (qC k o r e x).2.1,.int .i64 (qC k o r e x).2.2.1,.int .i64 (qC k o r e x).2.2.2.1]⟩,.int .i64 (wZ k o r e x)]⟩)
  | _=>none
 ok args pre v h a w:=by
  split at h
  ·rename_i k o r e x;cases h;exact bW (Zo k o r e x a w)
  ·cases h
noncomputable def D3:dH AB:={D0 with vC:=false,sj:=[sZ,vD,FO,FP,Yv,uZ,aa3,ab8]}
noncomputable def E0:dH AB:={D3 with sh:=[(104,.el (.one (.z7 146 2))),(65,.el (.one (.z7 146 2)))],quiet:=[105,207,62]}
noncomputable def E1:dH AB:={E0 with cl:=[(201,.z7 105 1)]}
noncomputable def E2:dH AB:={E0 with cl:=[(201,.z7 207 1)]}
abbrev aao:Sh:= .el (.one (.z7 146 2))
theorem Zp (p:Option AC) (w:A2) (a:Int->A2->Prop):(aM E0 (λ_=>[]) 62 [ag p] w a)=(
 aJ p.isNone (au w (a 0)) (fx p 0 w λx=>au w (a (↑x.2.1:Int)))):=by kernel_rfl
theorem Zq (k o r e:Int) (c:Option AC) (w:A2) (d:Bool->A2->Prop):(aM E0 (λ_=>[]) 105 [.agg ⟨[aa k,aa o,aa r,aa e]⟩,ag c] w d)=(
 aL w ⟨[aa k,aa o,aa r,aa e]⟩ 52 λb a=>true=true/\aT a (ad (ae b) 0) λx=>aT a c λf=>au a (d (x==f))):=by kernel_rfl
theorem K9 (k o r e:Int) (c:Option AC) (w:A2) (d:Bool->A2->Prop):(aM E0 (λ_=>[]) 207 [.agg ⟨[aa k,aa o,aa r,aa e]⟩,ag c] w d)=(
 aL w ⟨[aa k,aa o,aa r,aa e]⟩ 52 λb a=>true=true/\aT a (ad (ae b) 1) λx=>aT a c λf=>au a (d (x==f))):=by kernel_rfl
theorem aa4 (p:Option AC) (k:Int) (w:A2) (c:Option AC×Option AC×Unit->A2->Prop):(aM E0 (λ_=>[]) 65 [ag p,aa k] w c)=(
 aL w ⟨[aa k]⟩ 3 λb a=>aB AB 104 (.el (.one (.z7 146 2))) [ag p,.func (.func 105) ⟨[]⟩ {toList:=[ag (ae b)]}] a λx a=>au a (c (x.1,x.2.1,()))):=by kernel_rfl
theorem UR (p c:Option AC) (w:A2) (d:Option AC×Option AC×Unit->A2->Prop):(aM E0 (λ_=>[]) 104 [ag p,.func (.func 105) #[] #[ag c]] w d)=(
 aL w ⟨[ag p]⟩ 36 λb a=>aL a {toList:=[.func (.func 105) ⟨[]⟩ ⟨[ag c]⟩]} 201 λe a=>au a (d (some ⟨b,0,none⟩,some ⟨e,0,none⟩,()))):=by kernel_rfl
theorem Q9 (p c:Option AC) (w:A2) (d:Option AC×Option AC×Unit->A2->Prop):(aM E0 (λ_=>[]) 104 [ag p,.func (.func 207) #[] #[ag c]] w d)=(
 aL w ⟨[ag p]⟩ 36 λb a=>aL a {toList:=[.func (.func 207) ⟨[]⟩ ⟨[ag c]⟩]} 201 λe a=>au a (d (some ⟨b,0,none⟩,some ⟨e,0,none⟩,()))):=by kernel_rfl
def ub:Nat->a7:=(λ|2=>[(13,Go.RX.El.one (Go.RX.Sc.int B5))]| _=>[])
theorem Q_ (y:Nat) (p c:Option AC) (w:A2) (f:Unit->A2->Prop):(aM E1 ub 146 [.func (.yield y) #[] #[],ag p,ag c] w f)=(
 f_ w p λx=>aJ x.isNone (au w (f ())) (f_ w p λx=>fx x 0 w λx=> ∃(I:Nat->Int×Unit->A2->Prop),(∃n, ∀w1,Ext w w1->I n (0,()) w1)/\ ∀(n:Nat) (s:Int×Unit) (w1:A2),I n s w1->aJ (decide (s.1<(↑x.2.1:Int))) ((x.1.isSome=true/\0<=s.1/\s.1<(↑x.2.1:Int))/\aj w1 none (ad x.1 (Int.toNat s.1*4)) dR λ(x:Int×Int×Int×Int×Unit)=>aL w1 ⟨[aa 0,aa 0,aa 0,aa 0]⟩ 52 λb a=>az a (ae b) [aa x.1,aa x.2.1,aa x.2.2.1,aa x.2.2.2.1] λa=>aj
 a none c (.one (.z7 105 1)) λx=>aj a none (ae b) dR λ(g:Int×Int×Int×Int×Unit)=> ∃h,af AB 105 [.agg ⟨[aa g.1,aa g.2.1,aa g.2.2.1,aa g.2.2.2.1]⟩,ag x.1] a (.bool h)/\aJ h (∀w1,Ext a w1->mh AB y [aa s.1] w1 λ(b:Bool) a=>aJ (!b) (au a (f ())) (∀d,Ext a d-> ∃(e:Nat),e<n/\I e (aI .i64 s.1 1,()) d)) (∀d,Ext a d-> ∃(e:Nat),e<n/\I e (aI .i64 s.1 1,()) d)) (au w1 (f ())))):=by kernel_rfl
def q_:Nat->a7:=(λ|2=>[(13,Go.RX.El.one (Go.RX.Sc.int B5))]| _=>[])
theorem K_ (y:Nat) (p c:Option AC) (w:A2) (f:Unit->A2->Prop):(aM E2 q_ 146 [.func (.yield y) #[] #[],ag p,ag c] w f)=(
 f_ w p λx=>aJ x.isNone (au w (f ())) (f_ w p λx=>fx x 0 w λx=> ∃(I:Nat->Int×Unit->A2->Prop),(∃n, ∀w1,Ext w w1->I n (0,()) w1)/\ ∀(n:Nat) (s:Int×Unit) (w1:A2),I n s w1->aJ (decide (s.1<(↑x.2.1:Int))) ((x.1.isSome=true/\0<=s.1/\s.1<(↑x.2.1:Int))/\aj w1 none (ad x.1 (Int.toNat s.1*4)) dR λ(x:Int×Int×Int×Int×Unit)=>aL w1 ⟨[aa 0,aa 0,aa 0,aa 0]⟩ 52 λb a=>az a (ae b) [aa x.1,aa x.2.1,aa x.2.2.1,aa x.2.2.2.1] λa=>aj
 a none c (.one (.z7 207 1)) λx=>aj a none (ae b) dR λ(g:Int×Int×Int×Int×Unit)=> ∃h,af AB 207 [.agg ⟨[aa g.1,aa g.2.1,aa g.2.2.1,aa g.2.2.2.1]⟩,ag x.1] a (.bool h)/\aJ h (∀w1,Ext a w1->mh AB y [aa s.1] w1 λ(b:Bool) a=>aJ (!b) (au a (f ())) (∀d,Ext a d-> ∃(e:Nat),e<n/\I e (aI .i64 s.1 1,()) d)) (∀d,Ext a d-> ∃(e:Nat),e<n/\I e (aI .i64 s.1 1,()) d)) (au w1 (f ())))):=by kernel_rfl
theorem Ra (k o r e:Int) (c d:Option AC) (w:A2) (i:(Int×Int×Int×Int×Unit)×Int×Unit->A2->Prop):(bT E0 (λ_=>[]) 191 [.agg ⟨[aa k,aa o,aa r,aa e]⟩,ag c,ag d] w i)=(
 aL w ⟨[aa k,aa o,aa r,aa e]⟩ 52 λb a=>aL a ⟨[aa 0,aa 0,aa 0,aa 0]⟩ 52 λj a=>aj a none (ae b) dR λ(x:Int×Int×Int×Int×Unit)=>aT a c λg=>aT a d λh=>True/\az a (ae j) [aa (mF x.1 x.2.1 x.2.2.1 x.2.2.2.1 g h),aa (lq x.1 x.2.1 x.2.2.1 x.2.2.2.1 g h),aa 0,aa 0] λa=>au a λw1=>aj w1 none (ae j) dR λ(f:Int×Int×Int×Int×Unit)=>i ((f.1,f.2.1,f.2.2.1,f.2.2.2.1,()),fS x.1 x.2.1
 x.2.2.1 x.2.2.2.1 g h,()) w1):=by kernel_rfl
theorem US (k o r e:Int) (c:Option AC) (w:A2) (g:(Int×Int×Int×Int×Unit)×Int×Unit->A2->Prop):(bT E0 (λ_=>[]) 227 [.agg ⟨[aa k,aa o,aa r,aa e]⟩,ag c] w g)=(
 aL w ⟨[aa k,aa o,aa r,aa e]⟩ 52 λb a=>aL a ⟨[aa 0,aa 0,aa 0,aa 0]⟩ 52 λh a=>aj a none (ae b) dR λ(x:Int×Int×Int×Int×Unit)=>aT a c λd=>(-9223372036854775808<=d/\d<9223372036854775808)/\az a (ae h) [aa (qC x.1 x.2.1 x.2.2.1 x.2.2.2.1 d).1,aa (qC x.1 x.2.1 x.2.2.1 x.2.2.2.1 d).2.1,aa (qC x.1 x.2.1 x.2.2.1 x.2.2.2.1 d).2.2.1,aa (qC x.1 x.2.1 x.2.2.1 x.2.2.2.1 d).2.2.2.1] λa=>au a λw1=>aj w1 none (ae h) dR λ
 (f:Int×Int×Int×Int×Unit)=>g ((f.1,f.2.1,f.2.2.1,f.2.2.2.1,()),wZ x.1 x.2.1 x.2.2.1 x.2.2.2.1 d,()) w1):=by kernel_rfl
theorem La (p:Option AC) (f:Int) (c d:Option AC) (w:A2) (e:Int->A2->Prop):(aM E0 (λ_=>[]) 190 [ag p,aa f,.func (.func 191) #[] #[ag c,ag d]] w e)=(
 ∃(x:Int),af AB 62 [ag p] w (aa x)/\aJ (x==0) (au w (e 10)) (((!decide (f<0))=true->p.isSome=true)/\((!decide (f<0))=true->p.isSome=true)/\aj w (some !decide (f<0)) (ad p 0) fZ λx=>aJ (decide (f<0)||decide (f>=(↑x.2.1:Int))) (au w (e 2)) (fx p 0 w λx=>(x.1.isSome=true/\0<=f/\f<(↑x.2.1:Int))/\aj w none (ad x.1 (f.toNat*4)) dR λ(x:Int×Int×Int×Int×Unit)=>aB AB 191 (.bG [.agg [.int .i64,.int .i64,.int .i64,.int .i64],.one (.int .i64)]) [.agg ⟨[aa x.1,.int .i64
 x.2.1,aa x.2.2.1,aa x.2.2.2.1]⟩,ag c,ag d] w λ(x:(Int×Int×Int×Int×Unit)×Int×Unit) a=>aL a ⟨[aa 0,aa 0,aa 0,aa 0]⟩ 52 λb a=>az a (ae b) [aa x.1.1,aa x.1.2.1,aa x.1.2.2.1,aa x.1.2.2.2.1] λa=>aJ (x.2.1==0) (fx p 0 a λh=>aj a none (ae b) dR λ(g:Int×Int×Int×Int×Unit)=>(h.1.isSome=true/\0<=f/\f<(↑h.2.1:Int))/\az a (ad h.1 (f.toNat*4)) [aa g.1,aa g.2.1,aa g.2.2.1,aa g.2.2.2.1]
 λa=>au a (e x.2.1)) (au a (e x.2.1))))):=by kernel_rfl
theorem Hd (p:Option AC) (f:Int) (c:Option AC) (w:A2) (d:Int->A2->Prop):(aM E0 (λ_=>[]) 190 [ag p,aa f,.func (.func 227) #[] #[ag c]] w d)=(
 ∃(x:Int),af AB 62 [ag p] w (aa x)/\aJ (x==0) (au w (d 10)) (((!decide (f<0))=true->p.isSome=true)/\((!decide (f<0))=true->p.isSome=true)/\aj w (some !decide (f<0)) (ad p 0) fZ λx=>aJ (decide (f<0)||decide (f>=(↑x.2.1:Int))) (au w (d 2)) (fx p 0 w λx=>(x.1.isSome=true/\0<=f/\f<(↑x.2.1:Int))/\aj w none (ad x.1 (f.toNat*4)) dR λ(x:Int×Int×Int×Int×Unit)=>aB AB 227 (.bG [.agg [.int .i64,.int .i64,.int .i64,.int .i64],.one (.int .i64)]) [.agg ⟨[aa x.1,.int .i64
 x.2.1,aa x.2.2.1,aa x.2.2.2.1]⟩,ag c] w λ(x:(Int×Int×Int×Int×Unit)×Int×Unit) a=>aL a ⟨[aa 0,aa 0,aa 0,aa 0]⟩ 52 λb a=>az a (ae b) [aa x.1.1,aa x.1.2.1,aa x.1.2.2.1,aa x.1.2.2.2.1] λa=>aJ (x.2.1==0) (fx p 0 a λg=>aj a none (ae b) dR λ(e:Int×Int×Int×Int×Unit)=>(g.1.isSome=true/\0<=f/\f<(↑g.2.1:Int))/\az a (ad g.1 (f.toNat*4)) [aa e.1,aa e.2.1,aa e.2.2.1,aa e.2.2.2.1] λa=>au
 a (d x.2.1)) (au a (d x.2.1))))):=by kernel_rfl
theorem UT (p:Option AC) (f k o:Int) (w:A2) (c:Int->A2->Prop):(aM E0 (λ_=>[]) 138 [ag p,aa f,aa k,aa o] w c)=(
 aL w ⟨[aa k]⟩ 3 λb a=>aL a ⟨[aa o]⟩ 3 λd a=>aB AB 190 (.el aU) [ag p,aa f,.func (.func 191) ⟨[]⟩ {toList:=[ag (ae b),ag (ae d)]}] a λ(x:Int) a=>au a (c x)):=by kernel_rfl
theorem UU (p:Option AC) (f x:Int) (w:A2) (c:Int->A2->Prop):(aM E0 (λ_=>[]) 183 [ag p,aa f,aa x] w c)=(
 aL w ⟨[aa x]⟩ 3 λb a=>aB AB 190 (.el aU) [ag p,aa f,.func (.func 227) ⟨[]⟩ {toList:=[ag (ae b)]}] a λ(x:Int) a=>au a (c x)):=by kernel_rfl
theorem UW (p:Option AC) (f:Int) (w:A2) (a:Int->A2->Prop):(aM E0 (λ_=>[]) 79 [ag p,aa f] w a)=(
 aB AB 138 (.el aU) [ag p,aa f,aa 0,aa 0] w λ(x:Int) b=>au b (a x)):=by kernel_rfl
theorem Zr (p:Option AC) (f:Int) (w:A2) (c:(Int×Int×Int×Int×Unit)×Bool×Unit->A2->Prop):(bT E0 (λ_=>[]) 25 [ag p,aa f] w c)=(
 aL w ⟨[aa 0,aa 0,aa 0,aa 0]⟩ 52 λb a=> ∃(x:Int),((!decide (f<0))=true->af AB 62 [ag p] a (aa x))/\aJ (decide (f<0)||decide (f>=x)) (az a (ae b) [aa 0,aa 0,aa 0,aa 0] λa=>au a λw1=>aj w1 none (ae b) dR λ(x:Int×Int×Int×Int×Unit)=>c ((x.1,x.2.1,x.2.2.1,x.2.2.2.1,()),false,()) w1) (fx p 0 a λx=>(x.1.isSome=true/\0<=f/\f<(↑x.2.1:Int))/\aj a none (ad x.1 (f.toNat*4)) dR λ(x:Int×Int×Int×Int×Unit)
 =>az a (ae b) [aa x.1,aa x.2.1,aa x.2.2.1,aa x.2.2.2.1] λa=>au a λw1=>aj w1 none (ae b) dR λ(x:Int×Int×Int×Int×Unit)=>c ((x.1,x.2.1,x.2.2.1,x.2.2.2.1,()),true,()) w1)):=by kernel_rfl
theorem Cu (n:Int) (w:A2) (a:Option AC×Int×Unit->A2->Prop):(aM E0 (λ_=>[]) 72 [aa n] w a)=(
 aJ (decide (n<1)||decide (n>4096)) (au w (a (none,1,()))) (Nr w 32 4 n n ⟨[aa 0,aa 0,aa 0,aa 0]⟩ 52 λb c=>aL c {toList:=[.slice (ae b) n.toNat n.toNat]} 137 λb c=>au c (a (some ⟨b,0,none⟩,0,())))):=by kernel_rfl
theorem UX (p:Option AC) (w:A2) (a:Option AC->A2->Prop):(aM E0 (λ_=>[]) 54 [ag p] w a)=(
 ∃(x:Int),af AB 62 [ag p] w (aa x)/\aJ (x==0) (au w (a none)) (fx p 0 w λx=> ∀w1,Ext w w1->nb w1 52 4 32 ⟨[aa 0,aa 0,aa 0,aa 0]⟩ (none,0,0) (x.1,x.2.1,x.2.2) λ(r:Option AC×Nat×Nat) c=>aL c ⟨[.slice r.1 r.2.1 r.2.2]⟩ 137 λb c=>au c (a (ae b)))):=by kernel_rfl
def uc:Nat->a7:=(λ|3=>[(9,.one (.int .i64))]| _=>[])
theorem Rb (p:Option AC) (k:Int) (w:A2) (d:Int->A2->Prop):(bT E0 uc 30 [ag p,aa k] w d)=(
 aL w ⟨[aa 0]⟩ 3 λb c=>az c (ae b) [aa 0] λc=>aB AB 65 (.el (.one (.z7 146 2))) [ag p,aa k] c λx c=>zZ AB 146 (λ(y:Nat)=>[.func (Fn.yield y) ⟨[]⟩ ⟨[]⟩,ag x.1,ag x.2.1]) ⟨[9]⟩ c (λ(x:Int×Unit)=>[aa x.1]) (λ(l:Nat) (rec:Loop) (x:Int×Unit) e (R:Bool->A2->Prop)=>Dg l rec [aa x.1].length 1 e (BR l rec e λa=>aT a (ae b) λx=>az a (ae b) [aa (aI .i64 x 1)] λc=>
 sk l rec none c R)) λ(r:Nat) (rec:Loop) f=>dx (r+1) rec f (λa=>aT a (ae b) λx=>sq [r] a λw1=>d x w1) (λ(id:Nat) a=>Decidable.rec (λ(h:id=0->False)=>False) (λ(h:id=0)=>aT a (ae b) λx=>sq [r] a λw1=>d x w1) (match h:id.beq 0 with|true=>isTrue (HZ h)|false=>isFalse (Hb h))) λa=>sq [r] a λw1=>d 0 w1):=by kernel_rfl
def ud:Nat->a7:=(λ|4=>[(10,.one (.int .i64))]| _=>[])
theorem Re (p:Option AC) (k:Int) (w:A2) (d:Option AC×Nat×Nat->A2->Prop):(bT E0 ud 166 [ag p,aa k] w d)=(
 aL w ⟨[aa k]⟩ 3 λb a=>aL a ⟨[.slice none 0 0]⟩ 39 λe a=>aB AB 104 (.el (.one (.z7 146 2))) [ag p,.func (.func 207) ⟨[]⟩ {toList:=[ag (ae b)]}] a λx a=>zZ AB 146 (λ(y:Nat)=>[.func (Fn.yield y) ⟨[]⟩ ⟨[]⟩,ag x.1,ag x.2.1]) ⟨[10]⟩ a (λ(x:Int×Unit)=>[aa x.1]) (λ(l:Nat) (rec:Loop) (x:Int×Unit) g (R:Bool->A2->Prop)=>Dg l rec [aa x.1].length 1 g (BR l rec g λc=>sJ c (ae e) λf=>aL c ⟨[aa x.1]⟩
 3 λb a=> ∀w1,Ext a w1->nb w1 3 1 8 ⟨[aa 0]⟩ (f.1,f.2.1,f.2.2) (some ⟨b,0,none⟩,1,1) λ(r:Option AC×Nat×Nat) a=>az a (ae e) [.slice r.1 r.2.1 r.2.2] λa=>sk l rec none a R)) λ(r:Nat) (rec:Loop) i=>dx (r+1) rec i (λc=>sJ c (ae e) λx=>sq [r] c λw1=>d (x.1,x.2.1,x.2.2) w1) (λ(id:Nat) c=>Decidable.rec (λ(h:id=0->False)=>False) (λ(h:id=0)=>sJ c (ae e) λx=>sq [r] c λw1=>d (x.1,
 x.2.1,x.2.2) w1) (match h:id.beq 0 with|true=>isTrue (HZ h)|false=>isFalse (Hb h))) λc=>sq [r] c λw1=>d (none,0,0) w1):=by kernel_rfl
def wo:Nat->a7:=(λ|5=>[(15,.one (.int .i64))]| _=>[])
theorem UY (p:Option AC) (k o:Int) (w:A2) (g:Int×Int×Unit->A2->Prop):(bT E0 wo 172 [ag p,aa k,aa o] w g)=(
 aL w ⟨[ag p]⟩ 36 λb a=>aL a ⟨[aa k]⟩ 3 λn a=>aL a ⟨[aa o]⟩ 3 λq a=>aL a ⟨[aa 0]⟩ 3 λd a=>aL a ⟨[aa 0]⟩ 46 λe a=>f_ a (ae b) λx=> ∃(i:Int),af AB 62 [ag x] a (aa i)/\aJ (i==0) (az a (ae d) [aa 0] λa=>az a (ae e) [aa 10] λa=>au a λw1=>aT w1 (ae d) λx=>aT w1 (ae e) λf=>
 g (x,f,()) w1) (f_ a (ae b) λx=>aB AB 65 (.el (.one (.z7 146 2))) [ag x,aa 0] a λx a=>zZ AB 146 (λ(y:Nat)=>[.func (Fn.yield y) ⟨[]⟩ ⟨[]⟩,ag x.1,ag x.2.1]) ⟨[15]⟩ a (λ(x:Int×Unit)=>[aa x.1]) (λ(l:Nat) (rec:Loop) (x:Int×Unit) j (R:Bool->A2->Prop)=>Dg l rec [aa x.1].length 1 j (BR l rec j λc=>f_ c (ae b) λf=>aT c (ae n) λs=>aj c none
 (ae q) aU λ(t:Int)=>aB AB 138 (.el aU) [ag f,aa x.1,aa s,aa t] c λ(m:Int) a=>aJ (m != 0) (az a (ae d) [aa 0] λa=>az a (ae e) [aa m] λa=>sk l rec (some Code.ret) a R) (az a (ae d) [aa x.1] λa=>az a (ae e) [aa 0] λa=>sk l rec (some Code.ret) a R))) λ(r:Nat) (rec:Loop) u=>dx (r+1) rec u (λc=>az c (ae d) [aa 0]
 λa=>az a (ae e) [aa 12] λa=>sq [r] a λw1=>aT w1 (ae d) λx=>aT w1 (ae e) λf=>g (x,f,()) w1) (λ(id:Nat) c=>Decidable.rec (λ(h:id=0->False)=>False) (λ(h:id=0)=>az c (ae d) [aa 0] λa=>az a (ae e) [aa 12] λa=>sq [r] a λw1=>aT w1 (ae d) λx=>aj w1 none (ae e) aU
 λ(f:Int)=>g (x,f,()) w1) (match h:id.beq 0 with|true=>isTrue (HZ h)|false=>isFalse (Hb h))) λc=>sq [r] c λw1=>aT w1 (ae d) λx=>aT w1 (ae e) λf=>g (x,f,()) w1)):=by kernel_rfl
abbrev sD:List Sc:=[.int .i64,.int .i64,.int .i64,.int .i64]
abbrev eD:El:= .agg sD
abbrev DT:Type:=Int×Int×Int×Int×Unit
def zD:DT:=(0,0,0,0,())
theorem rP {w:A2} {bp n c:Nat} {a:Option AC} (h:bN w bp [.slice a n c]):aE AB 62 (.el (.one (.int .i64))) [ag (ae bp)] w (λx w'=>x=(n:Int)/\Ext w w'):=by
 refine ai (C:=E0) (aS:=λ_=>[]) (Ab (Zp _ w _) ?_);have H:=At.start [] w;refine an rfl ⟨rfl,rfl,aj.k8 H h (by simp) rfl ?_⟩
 repeat' (first
  |exact Go.RX.aK.all H
  |exact B1 (by first|rfl|decide+kernel) (Go.RX.aK.all H)
  |refine B1 (by first|exact rfl|exact trivial|exact λ_=>rfl|exact λ_=>trivial|exact⟨rfl,by decide,by decide⟩|exact⟨by decide,by decide⟩|decide+kernel|exact λ_=>by decide|exact λ_=>⟨rfl,by decide,by decide⟩|(dsimp only[DY,Db];exact⟨rfl,by decide,by decide⟩)) ?_
  |refine aj.cq 0 H rfl rfl ?_
  |refine aj.at 0 H rfl rfl ?_
  |refine aL.go H λb w1 H=>?_
  |refine az.all 0 H rfl rfl rfl λw1 H=>?_
  |refine az.fK 0 H rfl rfl rfl λw1 H=>?_
  |refine az.one 0 H rfl rfl rfl λw1 H=>?_
  |with_reducible refine au.go H λw1 H=>?_
  |refine jG ?_
  |refine aD (by assumption) ?_
  |refine an (by assumption) ?_
  |refine ab (λc=>?_) (λc=>?_))
theorem Zt {w:A2} {kc:Nat} {v:Int} (h:bN w kc [aa v]) (d:DT):aE AB 105 (.el (.one .bool)) [.agg ⟨a9 sD d⟩,ag (ae kc)] w (λx w'=>x=(d.1==v)/\Ext w w'):=by
 obtain⟨k,o,r,e,u⟩:=d;refine ai (C:=E0) (aS:=λ_=>[]) (Ab (Zq k o r e _ w _) ?_);have H:=At.start [] w
 repeat' (first
  |refine aj.fQ H h (by simp) rfl ?_
  |exact Go.RX.aK.all H
  |exact B1 (by first|rfl|decide+kernel) (Go.RX.aK.all H)
  |refine B1 (by first|exact rfl|exact trivial|exact λ_=>rfl|exact λ_=>trivial|exact⟨rfl,by decide,by decide⟩|exact⟨by decide,by decide⟩|decide+kernel|exact λ_=>by decide|exact λ_=>⟨rfl,by decide,by decide⟩|(dsimp only[DY,Db];exact⟨rfl,by decide,by decide⟩)) ?_
  |refine aj.cq 0 H rfl rfl ?_
  |refine aj.at 0 H rfl rfl ?_
  |refine aL.go H λb w1 H=>?_
  |refine az.all 0 H rfl rfl rfl λw1 H=>?_
  |refine az.fK 0 H rfl rfl rfl λw1 H=>?_
  |refine az.one 0 H rfl rfl rfl λw1 H=>?_
  |with_reducible refine au.go H λw1 H=>?_
  |refine jG ?_
  |refine aD (by assumption) ?_
  |refine an (by assumption) ?_
  |refine ab (λc=>?_) (λc=>?_))
theorem Ld {w:A2} {kc:Nat} {v:Int} (h:bN w kc [aa v]) (d:DT):aE AB 207 (.el (.one .bool)) [.agg ⟨a9 sD d⟩,ag (ae kc)] w (λx w'=>x=(d.2.1==v)/\Ext w w'):=by
 obtain⟨k,o,r,e,u⟩:=d;refine ai (C:=E0) (aS:=λ_=>[]) (Ab (K9 k o r e _ w _) ?_);have H:=At.start [] w
 repeat' (first
  |refine aj.fQ H h (by simp) rfl ?_
  |exact Go.RX.aK.all H
  |exact B1 (by first|rfl|decide+kernel) (Go.RX.aK.all H)
  |refine B1 (by first|exact rfl|exact trivial|exact λ_=>rfl|exact λ_=>trivial|exact⟨rfl,by decide,by decide⟩|exact⟨by decide,by decide⟩|decide+kernel|exact λ_=>by decide|exact λ_=>⟨rfl,by decide,by decide⟩|(dsimp only[DY,Db];exact⟨rfl,by decide,by decide⟩)) ?_
  |refine aj.cq 0 H rfl rfl ?_
  |refine aj.at 0 H rfl rfl ?_
  |refine aL.go H λb w1 H=>?_
  |refine az.all 0 H rfl rfl rfl λw1 H=>?_
  |refine az.fK 0 H rfl rfl rfl λw1 H=>?_
  |refine az.one 0 H rfl rfl rfl λw1 H=>?_
  |with_reducible refine au.go H λw1 H=>?_
  |refine jG ?_
  |refine aD (by assumption) ?_
  |refine an (by assumption) ?_
  |refine ab (λc=>?_) (λc=>?_))
section
variable {D G:List Nat} {w0 w:A2} {L:List (Nat×List AR)}
theorem s6 (H:aK D G w0 w L) (p:Option AC) (k:Int) {K:Option AC×Option AC×Unit->A2->Prop}
 (a: ∀pc ic kc w1,aK D G w0 w1 ((ic,[.func (.func 105) #[] #[ag (ae kc)]])::(pc,[ag p])::(kc,[aa k])::L)->K (some ⟨pc,0,none⟩,some ⟨ic,0,none⟩,()) w1):
 aB AB 65 aao [ag p,aa k] w K:=by
 refine aB.go H λw1 H=>ai (C:=E0) (aS:=λ_=>[]) (Ab (aa4 p k w1 K) ?_);refine aL.go H λkc d H=>aB.go H λb H=>ai (C:=E0) (aS:=λ_=>[]) (Ab (UR p _ b _) ?_);refine aL.go H λpc e H=>aL.go H λic f H=>au.go H λg H=>au.go H λc H=>?_;exact a pc ic kc c H
theorem UZ (H:aK D G w0 w L) (p c:Option AC) {K:Option AC×Option AC×Unit->A2->Prop}
 (a: ∀pc ic w1,aK D G w0 w1 ((ic,[.func (.func 207) #[] #[ag c]])::(pc,[ag p])::L)->K (some ⟨pc,0,none⟩,some ⟨ic,0,none⟩,()) w1):
 aB AB 104 aao [ag p,.func (.func 207) #[] #[ag c]] w K:=by
 refine aB.go H λw1 H=>ai (C:=E0) (aS:=λ_=>[]) (Ab (Q9 p c w1 K) ?_);refine aL.go H λpc d H=>aL.go H λic e H=>au.go H λb H=>?_;exact a pc ic b H
end
def O1 (fn:FuncId) (pc ic kc bp bf c:Nat) (v:Int) (ds:List DT) (rest:List AR) (w:A2):Prop:=
 bN w pc [ag (ae bp)]/\bN w ic [.func (.func fn) #[] #[ag (ae kc)]]/\bN w kc [aa v]/\bN w bp [.slice (ae bf) ds.length c]/\bN w bf (flat eD ds++rest)
theorem En {pc ic kc bp bf c:Nat} {v:Int} {ds:List DT} {rest:List AR} (O:ds.length<=4096):
 TQ AB 146 (λy=>[.func (.yield y) #[] #[],ag (ae pc),ag (ae ic)]) ds.length
  (λi=>match ds[i]? with
   |some d=>if d.1=v then some [aa (i:Nat)] else none
   |none=>none) (O1 105 pc ic kc bp bf c v ds rest):=by
 intro y w J D a E o F G h0;have key:aE AB 146 (uG E1 146) [.func (.yield y) #[] #[],ag (ae pc),ag (ae ic)] w (λ_ w'=>J ds.length w'\/D w'):=by
  refine ai (C:=E1) (aS:=ub) (Ab (Q_ y _ _ w _) ?_);obtain⟨s1,p,q,r,t⟩:=o 0 w h0;refine aj.of _ (s1.oI rfl) (an rfl (aj.of _ (s1.oI rfl) ⟨rfl,rfl,aj.of (some ⟨bf,0,none⟩,ds.length,c) (by rw[aX];exact r.oI rfl) ?_⟩));refine⟨λn s w'=> ∃i:Nat,s.1=i/\n+i=ds.length/\J i w',⟨ds.length,λw1 h1=>⟨0,rfl,rfl,a _ _ _ h0 h1⟩⟩,?_⟩;rintro n ⟨P,u⟩ w1 ⟨i,hi,Q,f⟩;simp only at hi;subst hi;dsimp only;refine ab (λc=>?_) (λc=>?_)
  ·have k:i<ds.length:=by simp only[decide_eq_true_eq] at c;omega
   obtain⟨s1,p,q,r,t⟩:=o i w1 f;have h:ds[i]? =some ds[i]:=B2 k;refine⟨⟨rfl,by omega,by omega⟩,aj.of ds[i] (fU t h) ?_⟩;have H:=At.start [] w1;have next: ∀w',J (i+1) w'-> ∀g,Ext w' g-> ∃z,z<n/\ ∃j:Nat,aI .i64 (i:Nat) 1=j/\z+j=ds.length/\J j g:=λw' l g m=>
    ⟨n - 1,by omega,i+1,by rw[av (by omega) (by omega)];rfl,by omega,a _ _ _ l m⟩
   generalize I:ds[i]=d;rw[I] at h;refine aL.go H λb A H=>az.all 0 H rfl rfl rfl λA H=>aj.of (some ⟨kc,0,none⟩,()) ((H.fQ p (by simp)).oI rfl) (aj.at 0 H rfl rfl ?_);have B:=a _ _ _ f H.all;refine⟨d.1==v,af.of (s:= .el (.one .bool)) λw' h'=>Zt ((H.fQ q (by simp)).ext h') d,ab (λc=>λg m=>?_) (λc=>?_)⟩
   ·refine G i _ k (by simp only[h];rw[ax (by simpa using c)]) g _ (a _ _ _ B m) (λw' l=>?_) (λw' K=>?_)
    ·exact an rfl (next w' l)
    ·exact aD rfl λR L=> .inr (E _ _ K L)
   ·exact next _ (F i k (by simp only[h];rw[ao (by simpa using c)]) _ B)
  ·have:i=ds.length:=by simp only[decide_eq_false_iff_not] at c;omega
   subst this;exact λA M=> .inl (a _ _ _ f M)
 exact Calls.mono key λe w' ⟨x,N,f⟩=>⟨_,N,f⟩
theorem Rf {pc ic kc bp bf c:Nat} {v:Int} {ds:List DT} {rest:List AR} (O:ds.length<=4096):
 TQ AB 146 (λy=>[.func (.yield y) #[] #[],ag (ae pc),ag (ae ic)]) ds.length
  (λi=>match ds[i]? with
   |some d=>if d.2.1=v then some [aa (i:Nat)] else none
   |none=>none) (O1 207 pc ic kc bp bf c v ds rest):=by
 intro y w J D a E o F G h0;have key:aE AB 146 (uG E2 146) [.func (.yield y) #[] #[],ag (ae pc),ag (ae ic)] w (λ_ w'=>J ds.length w'\/D w'):=by
  refine ai (C:=E2) (aS:=q_) (Ab (K_ y _ _ w _) ?_);obtain⟨s1,p,q,r,t⟩:=o 0 w h0;refine aj.of _ (s1.oI rfl) (an rfl (aj.of _ (s1.oI rfl) ⟨rfl,rfl,aj.of (some ⟨bf,0,none⟩,ds.length,c) (by rw[aX];exact r.oI rfl) ?_⟩));refine⟨λn s w'=> ∃i:Nat,s.1=i/\n+i=ds.length/\J i w',⟨ds.length,λw1 h1=>⟨0,rfl,rfl,a _ _ _ h0 h1⟩⟩,?_⟩;rintro n ⟨P,u⟩ w1 ⟨i,hi,Q,f⟩;simp only at hi;subst hi;dsimp only;refine ab (λc=>?_) (λc=>?_)
  ·have k:i<ds.length:=by simp only[decide_eq_true_eq] at c;omega
   obtain⟨s1,p,q,r,t⟩:=o i w1 f;have h:ds[i]? =some ds[i]:=B2 k;refine⟨⟨rfl,by omega,by omega⟩,aj.of ds[i] (fU t h) ?_⟩;have H:=At.start [] w1;have next: ∀w',J (i+1) w'-> ∀g,Ext w' g-> ∃z,z<n/\ ∃j:Nat,aI .i64 (i:Nat) 1=j/\z+j=ds.length/\J j g:=λw' l g m=>
    ⟨n - 1,by omega,i+1,by rw[av (by omega) (by omega)];rfl,by omega,a _ _ _ l m⟩
   generalize I:ds[i]=d;rw[I] at h;refine aL.go H λb A H=>az.all 0 H rfl rfl rfl λA H=>aj.of (some ⟨kc,0,none⟩,()) ((H.fQ p (by simp)).oI rfl) (aj.at 0 H rfl rfl ?_);have B:=a _ _ _ f H.all;refine⟨d.2.1==v,af.of (s:= .el (.one .bool)) λw' h'=>Ld ((H.fQ q (by simp)).ext h') d,ab (λc=>λg m=>?_) (λc=>?_)⟩
   ·refine G i _ k (by simp only[h];rw[ax (by simpa using c)]) g _ (a _ _ _ B m) (λw' l=>?_) (λw' K=>?_)
    ·exact an rfl (next w' l)
    ·exact aD rfl λR L=> .inr (E _ _ K L)
   ·exact next _ (F i k (by simp only[h];rw[ao (by simpa using c)]) _ B)
  ·have:i=ds.length:=by simp only[decide_eq_false_iff_not] at c;omega
   subst this;exact λA M=> .inl (a _ _ _ f M)
 exact Calls.mono key λe w' ⟨x,N,f⟩=>⟨_,N,f⟩
def aP (k o:Int) (d:DT):DT×Int:=((mF d.1 d.2.1 d.2.2.1 d.2.2.2.1 k o,lq d.1 d.2.1 d.2.2.1 d.2.2.2.1 k o,0,0,()),fS d.1 d.2.1 d.2.2.1 d.2.2.2.1 k o)
def ia (x:Int) (d:DT):DT×Int:=(qC d.1 d.2.1 d.2.2.1 d.2.2.2.1 x,wZ d.1 d.2.1 d.2.2.1 d.2.2.2.1 x)
def uz (ds:List DT) (f:Int) (g:DT->DT×Int):Int:=if ds.length=0 then 10 else if f<0\/f>=ds.length then 2 else(g (ds.getD f.toNat zD)).2
def dI (ds:List DT) (f:Int) (g:DT->DT×Int):List DT:=if f<0\/f>=ds.length then ds else if(g (ds.getD f.toNat zD)).2=0 then ds.set f.toNat (g (ds.getD f.toNat zD)).1 else ds
theorem Bf {ds:List DT} (h:ds.length=0) (f:Int) (g:DT->DT×Int):uz ds f g=10:=ax h
theorem Bh {ds:List DT} (h:ds.length=0) (f:Int) (g:DT->DT×Int):dI ds f g=ds:=ax (by omega)
theorem I3 {ds:List DT} (h:ds.length≠0) {f:Int} (h1:f<0\/f>=ds.length) (g:DT->DT×Int):uz ds f g=2:=by grind[uz]
theorem s8 {ds:List DT} {f:Int} (h1:f<0\/f>=ds.length) (g:DT->DT×Int):dI ds f g=ds:=ax h1
theorem yH {ds:List DT} {f:Int} (h1:0<=f/\f<ds.length) (g:DT->DT×Int):uz ds f g=(g (ds.getD f.toNat zD)).2:=by grind[uz]
theorem nJ {ds:List DT} {f:Int} (h1:0<=f/\f<ds.length) (g:DT->DT×Int):dI ds f g=if(g (ds.getD f.toNat zD)).2=0 then ds.set f.toNat (g (ds.getD f.toNat zD)).1 else ds:=by grind[dI]
theorem iB (ds:List DT) (f:Int) (g:DT->DT×Int):(dI ds f g).length=ds.length:=by grind[dI]
theorem Rh {w:A2} {kc oc:Nat} {k o:Int} (f:bN w kc [aa k]) (g:bN w oc [aa o]) (d:DT):aE AB 191 (.bG [eD,.one (.int .i64)]) [.agg ⟨a9 sD d⟩,ag (ae kc),ag (ae oc)] w
 (λv w'=>v=((aP k o d).1,(aP k o d).2,())/\Ext w w'):=by
 obtain⟨a,b,c,e,u⟩:=d;refine aR (C:=E0) (aS:=λ_=>[]) (Ab (Ra a b c e _ _ w _) ?_);have H:=At.start [] w
 repeat' (first
  |refine aj.fQ H f (by simp) rfl ?_
  |refine aj.fQ H g (by simp) rfl ?_
  |exact Go.RX.aK.all H
  |exact B1 (by first|rfl|decide+kernel) (Go.RX.aK.all H)
  |refine B1 (by simp) ?_
  |refine aj.cq 0 H rfl rfl ?_
  |refine aj.cq 1 H rfl rfl ?_
  |refine aj.at 0 H rfl rfl ?_
  |refine aj.at 1 H rfl rfl ?_
  |refine aL.go H λb w1 H=>?_
  |refine az.all 0 H rfl rfl rfl λw1 H=>?_
  |refine az.all 1 H rfl rfl rfl λw1 H=>?_
  |refine az.fK 0 H rfl rfl rfl λw1 H=>?_
  |with_reducible refine au.go H λw1 H=>?_
  |refine jG ?_
  |refine aD (by assumption) ?_
  |refine an (by assumption) ?_
  )
theorem U7 {w:A2} {kc:Nat} {k:Int} (f:bN w kc [aa k]) (hi: -9223372036854775808<=k/\k<9223372036854775808) (d:DT):aE AB 227 (.bG [eD,.one (.int .i64)]) [.agg ⟨a9 sD d⟩,ag (ae kc)] w
 (λv w'=>v=((ia k d).1,(ia k d).2,())/\Ext w w'):=by
 obtain⟨a,b,c,e,u⟩:=d;refine aR (C:=E0) (aS:=λ_=>[]) (Ab (US a b c e _ w _) ?_);have H:=At.start [] w
 repeat' (first
  |refine aj.fQ H f (by simp) rfl ?_
  |refine B1 hi ?_
  |exact Go.RX.aK.all H
  |exact B1 (by first|rfl|decide+kernel) (Go.RX.aK.all H)
  |refine aj.cq 0 H rfl rfl ?_
  |refine aj.cq 1 H rfl rfl ?_
  |refine aj.at 0 H rfl rfl ?_
  |refine aj.at 1 H rfl rfl ?_
  |refine aL.go H λb w1 H=>?_
  |refine az.all 0 H rfl rfl rfl λw1 H=>?_
  |refine az.all 1 H rfl rfl rfl λw1 H=>?_
  |with_reducible refine au.go H λw1 H=>?_
  |refine jG ?_
  |refine aD (by assumption) ?_
  |refine an (by assumption) ?_
  )
theorem He {w:A2} {bp bf c kc oc:Nat} {k o:Int} {ds:List DT} {rest:List AR} (a:bN w bp [.slice (ae bf) ds.length c]) (q:bN w bf (flat eD ds++rest)) (r:bp≠bf) (B:ds.length<=4096) (t:bN w kc [aa k]) (u:bN w oc [aa o]) (v:kc≠bf) (x:oc≠bf) (f:Int):
 aE AB 190 (.el (.one (.int .i64))) [ag (ae bp),aa f,.func (.func 191) #[] #[ag (ae kc),ag (ae oc)]] w
  (λe w'=>e=uz ds f (aP k o)/\bN w' bf (flat eD (dI ds f (aP k o))++rest)/\Fr [bf] w w'):=by
 refine ai (C:=E0) (aS:=λ_=>[]) (Ab (La _ f _ _ w _) ?_);have H:=At.rM q;have g:bp∉[bf]:=by simpa using r
 refine⟨(ds.length:Int),af.of (s:= .el (.one (.int .i64))) λw' h=>rP (a.ext h),ab (λc0=>au.go H λw1 H=>?_) (λc0=>⟨λ_=>rfl,λ_=>rfl,aj.k8 H a g rfl (ab (λc1=>au.go H λw1 H=>?_) (λc1=>?_))⟩)⟩
 ·have h0:ds.length=0:=by simp only[beq_iff_eq] at c0;omega
  exact⟨(Bf h0 f _).symm,by rw[Bh h0];exact H.get (i:=0) rfl,H.fr⟩
 ·have h0:ds.length≠0:=by simp only[beq_eq_false_iff_ne,ne_eq] at c0;omega
  have h1:f<0\/f>=ds.length:=by simpa using c1
  exact⟨(I3 h0 h1 _).symm,by rw[s8 h1];exact H.get (i:=0) rfl,H.fr⟩
 ·have h1:0<=f/\f<ds.length:=by grind
  have n:f.toNat<ds.length:=by omega
  have p:ds[f.toNat]? =some ds[f.toNat]:=B2 n;have y:ds.getD f.toNat zD=ds[f.toNat]:=by rw[B4,p];rfl
  have j:=yH h1 (aP k o);have l:=nJ h1 (aP k o);rw[y] at j l;generalize D:ds[f.toNat]=d at*
  refine⟨rfl,rfl,aj.k8 H a g rfl ⟨⟨rfl,h1.1,h1.2⟩,aj.of d (fU (H.get (i:=0) rfl) p) ?_⟩⟩;refine aB.val H (s:= .bG [eD,.one (.int .i64)]) (((aP k o) d).1,((aP k o) d).2,()) (λw1 H=>Rh (H.fQ t (by simpa using v)) (H.fQ u (by simpa using x)) d) λw1 H=>?_;refine aL.go H λb z H=>az.all 0 H rfl rfl rfl λz H=>ab (λc2=>⟨rfl,rfl,aj.k8 H a g rfl (aj.at 0 H rfl rfl ⟨⟨rfl,h1.1,h1.2⟩,?_⟩)⟩) (λc2=>au.go H λA H=>?_)
  ·have m:((aP k o) d).2=0:=by simpa using c2
   refine az.flat (e:=eD) 1 H (xs:=ds) (rest:=rest) ((aP k o) d).1 rfl rfl rfl n λA H=>au.go H λE H=>?_;exact⟨j.symm,by rw[l,ax m];exact H.get (i:=1) rfl,H.fr⟩
  ·have m: ¬ ((aP k o) d).2=0:=by simpa using c2
   exact⟨j.symm,by rw[l,ao m];exact H.get (i:=1) rfl,H.fr⟩
theorem Hf {w:A2} {bp bf c kc:Nat} {k:Int} {ds:List DT} {rest:List AR} (a:bN w bp [.slice (ae bf) ds.length c]) (p:bN w bf (flat eD ds++rest)) (q:bp≠bf) (y:ds.length<=4096) (r:bN w kc [aa k]) (t:kc≠bf) (hi: -9223372036854775808<=k/\k<9223372036854775808) (f:Int):
 aE AB 190 (.el (.one (.int .i64))) [ag (ae bp),aa f,.func (.func 227) #[] #[ag (ae kc)]] w
  (λe w'=>e=uz ds f (ia k)/\bN w' bf (flat eD (dI ds f (ia k))++rest)/\Fr [bf] w w'):=by
 refine ai (C:=E0) (aS:=λ_=>[]) (Ab (Hd _ f _ w _) ?_);have H:=At.rM p;have g:bp∉[bf]:=by simpa using q
 refine⟨(ds.length:Int),af.of (s:= .el (.one (.int .i64))) λw' h=>rP (a.ext h),ab (λc0=>au.go H λw1 H=>?_) (λc0=>⟨λ_=>rfl,λ_=>rfl,aj.k8 H a g rfl (ab (λc1=>au.go H λw1 H=>?_) (λc1=>?_))⟩)⟩
 ·have h0:ds.length=0:=by simp only[beq_iff_eq] at c0;omega
  exact⟨(Bf h0 f _).symm,by rw[Bh h0];exact H.get (i:=0) rfl,H.fr⟩
 ·have h0:ds.length≠0:=by simp only[beq_eq_false_iff_ne,ne_eq] at c0;omega
  have h1:f<0\/f>=ds.length:=by simpa using c1
  exact⟨(I3 h0 h1 _).symm,by rw[s8 h1];exact H.get (i:=0) rfl,H.fr⟩
 ·have h1:0<=f/\f<ds.length:=by grind
  have n:f.toNat<ds.length:=by omega
  have o:ds[f.toNat]? =some ds[f.toNat]:=B2 n;have u:ds.getD f.toNat zD=ds[f.toNat]:=by rw[B4,o];rfl
  have j:=yH h1 (ia k);have l:=nJ h1 (ia k);rw[u] at j l;generalize z:ds[f.toNat]=d at*
  refine⟨rfl,rfl,aj.k8 H a g rfl ⟨⟨rfl,h1.1,h1.2⟩,aj.of d (fU (H.get (i:=0) rfl) o) ?_⟩⟩;refine aB.val H (s:= .bG [eD,.one (.int .i64)]) (((ia k) d).1,((ia k) d).2,()) (λw1 H=>U7 (H.fQ r (by simpa using t)) hi d) λw1 H=>?_;refine aL.go H λb v H=>az.all 0 H rfl rfl rfl λv H=>ab (λc2=>⟨rfl,rfl,aj.k8 H a g rfl (aj.at 0 H rfl rfl ⟨⟨rfl,h1.1,h1.2⟩,?_⟩)⟩) (λc2=>au.go H λx H=>?_)
  ·have m:((ia k) d).2=0:=by simpa using c2
   refine az.flat (e:=eD) 1 H (xs:=ds) (rest:=rest) ((ia k) d).1 rfl rfl rfl n λx H=>au.go H λA H=>?_;exact⟨j.symm,by rw[l,ax m];exact H.get (i:=1) rfl,H.fr⟩
  ·have m: ¬ ((ia k) d).2=0:=by simpa using c2
   exact⟨j.symm,by rw[l,ao m];exact H.get (i:=1) rfl,H.fr⟩
theorem Cx {w:A2} {bp bf c:Nat} {ds:List DT} {rest:List AR} (a:bN w bp [.slice (ae bf) ds.length c]) (b:bN w bf (flat eD ds++rest)) (d:bp≠bf) (g:ds.length<=4096) (f k o:Int):
 aE AB 138 (.el (.one (.int .i64))) [ag (ae bp),aa f,aa k,aa o] w (λe w'=>e=uz ds f (aP k o)/\bN w' bf (flat eD (dI ds f (aP k o))++rest)/\Fr [bf] w w'):=by
 refine ai (Ab (UT _ f k o w _) ?_);have H:=At.rM b;have h:bp∉[bf]:=by simpa
 refine aL.go H λkc w1 H=>aL.go H λoc m H=>?_;refine aB.Dv H 2 rfl (λl H=>He (H.fQ a h) (H.get (i:=2) rfl) d g (H.get (i:=1) rfl) (H.get (i:=0) rfl) (H.ne (i:=1) (j:=2) rfl rfl (by decide)) (H.ne (i:=0) (j:=2) rfl rfl (by decide)) f) λl H=>au.go H λn H=>?_;exact⟨rfl,H.get (i:=2) rfl,H.fr⟩
theorem U8 {w:A2} {bp bf c:Nat} {ds:List DT} {rest:List AR} (a:bN w bp [.slice (ae bf) ds.length c]) (b:bN w bf (flat eD ds++rest)) (d:bp≠bf) (g:ds.length<=4096) (f x:Int) (hi: -9223372036854775808<=x/\x<9223372036854775808):
 aE AB 183 (.el (.one (.int .i64))) [ag (ae bp),aa f,aa x] w (λe w'=>e=uz ds f (ia x)/\bN w' bf (flat eD (dI ds f (ia x))++rest)/\Fr [bf] w w'):=by
 refine ai (Ab (UU _ f x w _) ?_);have H:=At.rM b;have h:bp∉[bf]:=by grind
 refine aL.go H λkc w1 H=>?_;refine aB.Dv H 1 rfl (λk H=>Hf (H.fQ a h) (H.get (i:=1) rfl) d g (H.get (i:=0) rfl) (H.ne (i:=0) (j:=1) rfl rfl (by decide)) hi f) λk H=>au.go H λl H=>?_;exact⟨rfl,H.get (i:=1) rfl,H.fr⟩
theorem U9 {w:A2} {bp bf c:Nat} {ds:List DT} {rest:List AR} (a:bN w bp [.slice (ae bf) ds.length c]) (b:bN w bf (flat eD ds++rest)) (d:bp≠bf) (g:ds.length<=4096) (f:Int):
 aE AB 79 (.el (.one (.int .i64))) [ag (ae bp),aa f] w (λe w'=>e=uz ds f (aP 0 0)/\bN w' bf (flat eD (dI ds f (aP 0 0))++rest)/\Fr [bf] w w'):=by
 refine ai (Ab (UW _ f w _) ?_);have H:=At.rM b;have h:bp∉[bf]:=by grind
 refine aB.Dv H 0 rfl (λj H=>Cx (H.fQ a h) (H.get (i:=0) rfl) d g f 0 0) λj H=>au.go H λk H=>?_;exact⟨rfl,H.get (i:=0) rfl,H.fr⟩
def mz (ds:List DT) (f:Int):DT:=if f<0\/f>=ds.length then zD else ds.getD f.toNat zD
def xq (ds:List DT) (f:Int):Bool:= !(decide (f<0\/f>=ds.length))
theorem Gm {w:A2} {bp bf c:Nat} {ds:List DT} {rest:List AR} (e:bN w bp [.slice (ae bf) ds.length c]) (i:bN w bf (flat eD ds++rest)) (f:Int):
 aE AB 25 (.bG [eD,.one .bool]) [ag (ae bp),aa f] w (λv w'=>v=(mz ds f,xq ds f,())/\Ext w w'):=by
 refine aR (C:=E0) (aS:=λ_=>[]) (Ab (Zr _ f w _) ?_);have H:=At.start [] w;refine aL.go H λb w1 H=>⟨(ds.length:Int),λ_=>af.of (s:= .el (.one (.int .i64))) λw' h=>rP ((H.fQ e (by simp)).ext h),ab (λc1=>?_) (λc1=>?_)⟩
 ·have h1:f<0\/f>=ds.length:=by simpa using c1
  have a:mz ds f=zD:=ax h1;have d:xq ds f=false:=by unfold xq;simp[h1]
  rw[a,d]
  repeat' (first
   |exact Go.RX.aK.all H
   |exact B1 (by first|rfl|decide+kernel) (Go.RX.aK.all H)
   |refine aj.cq 0 H rfl rfl ?_
   |refine aj.at 0 H rfl rfl ?_
   |refine aL.go H λb w1 H=>?_
   |refine az.all 0 H rfl rfl rfl λw1 H=>?_
   |refine az.fK 0 H rfl rfl rfl λw1 H=>?_
   |refine az.one 0 H rfl rfl rfl λw1 H=>?_
   |with_reducible refine au.go H λw1 H=>?_
   |refine jG ?_
   |refine aD (by assumption) ?_
   |refine an (by assumption) ?_
   |refine ab (λc=>?_) (λc=>?_))
 ·have h1: ¬ (f<0\/f>=ds.length):=by
   grind
  have j:f.toNat<ds.length:=by omega
  have g:ds[f.toNat]? =some ds[f.toNat]:=B2 j;have k:ds.getD f.toNat zD=ds[f.toNat]:=by rw[B4,g];rfl
  have a:mz ds f=ds[f.toNat]:=by unfold mz;rw[ao h1,k]
  have d:xq ds f=true:=by unfold xq;simp[h1]
  rw[a,d];refine⟨rfl,rfl,aj.k8 H e (by simp) rfl ⟨by grind,aj.of ds[f.toNat] (fU (H.fQ i (by simp)) g) ?_⟩⟩
  repeat' (first
   |exact Go.RX.aK.all H
   |exact B1 (by first|rfl|decide+kernel) (Go.RX.aK.all H)
   |grind
   |refine aj.cq 0 H rfl rfl ?_
   |refine aj.at 0 H rfl rfl ?_
   |refine aL.go H λb w1 H=>?_
   |refine az.all 0 H rfl rfl rfl λw1 H=>?_
   |refine az.fK 0 H rfl rfl rfl λw1 H=>?_
   |refine az.one 0 H rfl rfl rfl λw1 H=>?_
   |with_reducible refine au.go H λw1 H=>?_
   |refine jG ?_
   |refine aD (by assumption) ?_
   |refine an (by assumption) ?_
   |refine ab (λc=>?_) (λc=>?_))
section
variable {D G:List Nat} {w0 w:A2} {L:List (Nat×List AR)}
theorem U_ (n:Nat):(B9 n [aa 0,aa 0,aa 0,aa 0]).flatten=flat eD (B9 n zD)++[]:=by
 rw[C6,lI];rfl
theorem Cy (H:aK D G w0 w L) (n:Int) {K:Option AC×Int×Unit->A2->Prop} (hb:n<1\/n>4096-> ∀w1,aK D G w0 w1 L->K (none,1,()) w1)
 (b:1<=n->n<=4096-> ∀bp bf w1,aK D G w0 w1 ((bp,[.slice (ae bf) n.toNat n.toNat])::(bf,flat eD (B9 n.toNat zD)++[])::L)->K (some ⟨bp,0,none⟩,0,()) w1):
 aB AB 72 (.bG [.one .ptr,.one (.int .i64)]) [aa n] w K:=by
 refine aB.go H λw1 H=>ai (C:=E0) (aS:=λ_=>[]) (Ab (Cu n w1 K) ?_);refine ab (λc=>au.go H λa H=>hb (by simpa using c) a H) (λc=>?_);have h1:1<=n/\n<=4096:=by simp only[Do,decide_eq_false_iff_not] at c;omega
 refine Nr.go H rfl (by omega) (by omega) (by omega) (by omega) λbf a H=>?_;rw[U_] at H;exact aL.go H λbp e H=>au.go H λd H=>b h1.1 h1.2 bp bf d H
theorem U' (H:aK D G w0 w L) {bp bf n c:Nat} {ds:List DT} {rest:List AR} (g:bN w bp [.slice (ae bf) n c]) (j:bN w bf (flat eD ds++rest)) (i:n=ds.length) (h0:0<n) (m:n<=4096) {K:Option AC->A2->Prop}
 (k: ∀a b d f w1,aK D G w0 w1 ((a,[.slice (ae b) n d])::(b,flat eD ds++f)::L)->K (ae a) w1):
 aE AB 54 (.el (.one .ptr)) [ag (ae bp)] w K:=by
 refine ai (C:=E0) (aS:=λ_=>[]) (Ab (UX _ w K) ?_);refine⟨(n:Int),af.of (s:= .el (.one (.int .i64))) λw' h=>rP (g.ext h),ab (λc0=>?_) (λc0=>⟨rfl,rfl,aj.of (some ⟨bf,0,none⟩,n,c) (by rw[aX];exact g.oI rfl) λw1 h1=>?_⟩)⟩
 ·simp only[beq_iff_eq] at c0;omega
 ·refine nb.copy (H.ext h1) (e:=eD) (ys:=ds) (j.ext h1) ?_ i (by intro e;subst e;simp at i;omega) rfl rfl rfl (by omega) λb d f o H=>aL.go H λa p H=>au.go H λl H=>k a b d f l H;rw[FX (by rw[aH];exact DB _),Dy (by rw[aH];exact DB _)]
end
def bu (ds:List DT) (v:Int):Nat:=ds.countP λd=>d.1==v
def fW (ds:List DT) (v:Int):List Nat:=(Ca ds.length).filter λi=>match ds[i]? with
 |some d=>d.2.1==v
 |none=>false
theorem Eo {ds:List DT} {v:Int} {i:Nat} {d:DT} (h:ds[i]? =some d):bu (ds.take (i+1)) v=bu (ds.take i) v+(if d.1=v then 1 else 0):=by
 unfold bu;rw[J8,h,List.countP_append];congr 1;simp
theorem qe {ds:List DT} {i:Nat} {v:Int} {NB:DT->Int} {x:List AR} (h:(match ds[i]? with
 |some d=>if NB d=v then some [aa (i:Nat)] else none
 |none=>none)=some x): ∃d,ds[i]? =some d/\NB d=v/\x=[aa (i:Nat)]:=by
 split at h
 ·rename_i d a;split at h
  ·rename_i b;cases h;exact⟨d,a,b,rfl⟩
  ·cases h
 ·cases h
theorem Cz {ds:List DT} {i:Nat} {v:Int} {NB:DT->Int} (hi:i<ds.length) (h:(match ds[i]? with
 |some d=>if NB d=v then some [aa (i:Nat)] else none
 |none=>none)=none): ∃d,ds[i]? =some d/\NB d≠v:=by
 rw[B2 hi] at h;refine⟨ds[i],B2 hi,?_⟩;intro a;simp only[a,if_true] at h;cases h
theorem Ep {w:A2} {bp bf n c:Nat} {ds:List DT} {rest:List AR} (m:bN w bp [.slice (ae bf) n c]) (o:bN w bf (flat eD ds++rest)) (p:n=ds.length) (q:n<=4096) (v:Int):
 aE AB 30 (.el (.one (.int .i64))) [ag (ae bp),aa v] w (λx w'=>x=(bu ds v:Int)/\Ext w w'):=by
 subst p;refine aR (C:=E0) (aS:=uc) (Ab (Rb _ v w _) ?_);have H:=At.start [] w;refine aL.go H λb w1 H=>az.all 0 H rfl rfl rfl λA H=>s6 H _ v λpc ic kc B H=>?_;refine zZ.go H (En (v:=v) (pc:=pc) (ic:=ic) (kc:=kc) (bp:=bp) (bf:=bf) (c:=c) (rest:=rest) q)
  (λi=>[(ic,[.func (.func 105) #[] #[ag (ae kc)]]),(pc,[ag (ae bp)]),(kc,[aa v]),(b,[aa (bu (ds.take i) v:Nat)])])
  (λ_ _=>False) rfl ?_ ?_ ?_ ?_ ?_ ?_
 ·exact λD i w' H=>⟨H.get (i:=1) rfl,H.get (i:=0) rfl,H.get (i:=2) rfl,H.fQ m (by simp),H.fQ o (by simp)⟩
 ·intro i hi a;obtain⟨d,f,g⟩:=Cz hi a;simp only[Eo f,ao g,HB]
 ·intro i x hi a;obtain⟨d,f,g,rfl⟩:=qe a;exact⟨((i:Nat),()),rfl⟩
 ·intro i x hi a r l rec k R h h1 _;obtain⟨d,f,g,E⟩:=qe a;refine Dg.go h rfl (BR.go h λwb H s=>aj.at 3 H rfl rfl (az.all 3 H rfl rfl rfl λt H=>sk.next s H λu y=>h1 u ?_));have F:bu (ds.take i) v<=4096:=Dn List.countP_le_length (by rw[FC];omega);have e:aI .i64 ((bu (ds.take i) v:Nat):Int) 1=((bu (ds.take (i+1)) v:Nat):Int):=by
   rw[Eo f,ax g,av (by omega) (by omega)];rfl
  rw[<-e];exact y
 ·intro r rec k h;refine dx.none h λt H=>aj.at 3 H rfl rfl (sq.go H λG H=>?_);exact⟨by rw[JP],H.all⟩
 ·exact λj L' r rec k z _=>z.elim
theorem Er {ds:List DT} {v:Int} {i:Nat} {d:DT} (h:ds[i]? =some d):fW (ds.take (i+1)) v=fW (ds.take i) v++(if d.2.1=v then[i] else[]):=by
 have hi:i<ds.length:=(B3.1 h).1;unfold fW;rw[FC,FC,JQ (by omega),JQ (by omega),Ft,In];congr 1
 ·apply List.filter_congr;intro j a;have b:j<i:=by simpa using a
  rw[H5 (by omega),H5 b]
 ·simp only[Fw,List.filter_nil,H5 (Nat.lt_succ_self i),h,beq_iff_eq]
theorem Ri {w:A2} {bp bf n c:Nat} {ds:List DT} {rest:List AR} (y:bN w bp [.slice (ae bf) n c]) (z:bN w bf (flat eD ds++rest)) (A:n=ds.length) (B:n<=4096) (v:Int):
 aE AB 166 (.el (.one .slice)) [ag (ae bp),aa v] w (λr w'=>lM w w' eI r ((fW ds v).map λi=>((i:Nat):Int))/\Ext w w'):=by
 subst A;refine aR (C:=E0) (aS:=ud) (Ab (Re _ v w _) ?_);have H:=At.start [] w;refine aL.go H λkc w1 H=>aL.go H λb W H=>UZ H _ _ λpc ic X H=>?_
 let a:Nat->List Int:=λi=>(fW (ds.take i) v).map λi=>((i:Nat):Int)
 have D: ∀i,(a i).length<=4096:=λi=>by
  simp only[a,G1];refine Dn (J3 _ _) ?_;simp only[List.length_range,FC];omega
 let g:Option AC×Nat×Nat->List (Nat×List AR):=λs=>[(ic,[.func (.func 207) #[] #[ag (ae kc)]]),(pc,[ag (ae bp)]),(b,[.slice s.1 s.2.1 s.2.2]),(kc,[aa v])]
 let Inv:Nat->List (Nat×List AR)->Prop:=λi L'=> ∃s Ls,L'=Ls++g s/\((s=(none,0,0)/\a i=[]/\Ls=[])\/ ∃bs cs rs,s=(some ⟨bs,0,none⟩,(a i).length,cs)/\Ls=[(bs,flat eI (a i)++rs)]/\(flat eI (a i)++rs).length=cs*aF eI/\(a i).length<=cs)
 refine zZ.inv H (Rf (v:=v) (pc:=pc) (ic:=ic) (kc:=kc) (bp:=bp) (bf:=bf) (c:=c) (rest:=rest) B) Inv
  (λ_ _=>False) ⟨(none,0,0),[],rfl,.inl ⟨rfl,rfl,rfl⟩⟩ ?_ ?_ ?_ ?_ ?_ ?_
 ·rintro Y i w' L' ⟨s,Ls,rfl, _⟩ H;have H:=H.sub (List.sublist_append_right Ls (g s));exact⟨H.get (i:=1) rfl,H.get (i:=0) rfl,H.get (i:=3) rfl,H.fQ y (by simp),H.fQ z (by simp)⟩
 ·rintro i L' hi k ⟨s,Ls,rfl,f⟩;obtain⟨d,m,E⟩:=Cz (NB:=λd=>d.2.1) hi k;have e:a (i+1)=a i:=by simp only[a,Er m,ao E,C6]
  exact⟨s,Ls,rfl,by rw[e];exact f⟩
 ·intro i x hi k;obtain⟨d,m,f,rfl⟩:=qe (NB:=λd=>d.2.1) k;exact⟨((i:Nat),()),rfl⟩
 ·rintro i x L' hi k ⟨s,Ls,rfl,f⟩ r l rec p R o h1 _;obtain⟨d,m,F,G⟩:=qe (NB:=λd=>d.2.1) k;have q:x.1=((i:Nat):Int):=by
   have h:[aa x.1]=[aa (i:Nat)]:=G;simpa using h
  obtain⟨x1,u⟩:=x;simp only at q;subst q;have e:a (i+1)=a i++[((i:Nat):Int)]:=by simp only[a,Er m,ax F,Fo,List.map_cons,List.map_nil]
  have Z:=D i;have t:(a (i+1)).length=(a i).length+1:=by rw[e];simp
  refine Dg.go o rfl (BR.go o λwb H I=>aj.of s ?_ (aL.go H λb2 J H=>λK L=>?_))
  ·exact(H.cZ (b,[.slice s.1 s.2.1 s.2.2]) (Bs _ (by simp[g]))).oI rfl
  ·refine aK.grow (e:=eI) (x:=((i:Nat):Int)) (Ls:=Ls) (L0:=g s) (H.ext L) f rfl rfl rfl (by omega) λbs cs rs w7 M N H=>?_;refine az.all 3 H rfl rfl rfl λw8 H=>sk.next I H λO P=>h1 _ O ⟨(some ⟨bs,0,none⟩,(a i).length+1,cs),[(bs,flat eI (a (i+1))++rs)],rfl,.inr ⟨bs,cs,rs,by rw[t],rfl,by rw[e];exact M,by rw[t];exact N⟩⟩ ?_
   rw[e];exact P
 ·rintro L' r rec p ⟨s,Ls,rfl,f⟩ o;refine dx.none o λJ H=>aj.of s ?_ (sq.go H λK H=>?_)
  ·exact(H.cZ (b,[.slice s.1 s.2.1 s.2.2]) (Bs _ (by simp[g]))).oI rfl
  ·refine⟨?_,H.all⟩;have Q:a ds.length=(fW ds v).map λi=>((i:Nat):Int):=by simp only[a,JP]
   rw[<-Q];rcases f with ⟨rfl,S,rfl⟩|⟨bs,cs,rs,rfl,rfl,T,U⟩
   ·rw[S];exact lM.nil _ _ _
   ·refine⟨rfl,U,.inr ⟨bs, _,rfl,(H.own _ (DU _ (List.mem_singleton.2 rfl))).resolve_right (by simp),H.get (i:=0) rfl,T,?_⟩⟩;rw[FX (by rw[aH];exact DB _),Dy (by rw[aH];exact DB _)]
 ·exact λj L' r rec p V _=>V.elim
def ik (ds:List DT):Option Nat:=ds.findIdx? λd=>d.1==0
def fc (ds:List DT) (k o:Int):Int:=match ik ds with
 |none=>0
 |some f=>if uz ds f (aP k o)=0 then(f:Int) else 0
def dC (ds:List DT) (k o:Int):Int:=if ds.length=0 then 10 else match ik ds with
 |none=>12
 |some f=>uz ds f (aP k o)
def di (ds:List DT) (k o:Int):List DT:=match ik ds with
 |none=>ds
 |some f=>dI ds f (aP k o)
theorem vb (ds:List DT) (k o:Int):(di ds k o).length=ds.length:=by
 unfold di;split
 ·rfl
 ·exact iB _ _ _
theorem Le {ds:List DT} (h: ∀(j:Nat) d,ds[j]? =some d->d.1≠0):ik ds=none:=by
 unfold ik;rw[List.findIdx?_eq_none_iff];intro d a;obtain⟨j,b⟩:=F5 a;simpa using h j d b
theorem Lg {ds:List DT} {i:Nat} {d:DT} (hi:ds[i]? =some d) (a:d.1=0) (h: ∀(j:Nat) d,j<i->ds[j]? =some d->d.1≠0):ik ds=some i:=by
 unfold ik;have b:i<ds.length:=(B3.1 hi).1;rw[List.findIdx?_eq_some_iff_getElem];refine⟨b,?_,λj c=>?_⟩
 ·have e:ds[i]=d:=(B3.1 hi).2;rw[e];simpa using a
 ·have:=h j ds[j] c (B2 (by omega));simpa using this
theorem Va {w:A2} {bp bf n c:Nat} {ds:List DT} {rest:List AR} (A:bN w bp [.slice (ae bf) n c]) (N:bN w bf (flat eD ds++rest)) (J:bp≠bf) (O:n=ds.length) (K:n<=4096) (k o:Int):
 aE AB 172 (.bG [.one (.int .i64),.one (.int .i64)]) [ag (ae bp),aa k,aa o] w
  (λv w'=>v=(fc ds k o,dC ds k o,())/\bN w' bf (flat eD (di ds k o)++rest)/\Fr [bf] w w'):=by
 subst O;refine aR (C:=E0) (aS:=wo) (Ab (UY _ k o w _) ?_);have H:=At.rM N;have B:bp∉[bf]:=by simpa using J
 refine aL.go H λb w1 H=>aL.go H λP Y H=>aL.go H λQ Z H=>aL.go H λS w4 H=>aL.go H λU w5 H=>aj.at 4 H rfl rfl ?_;refine⟨(ds.length:Int),af.of (s:= .el (.one (.int .i64))) λw' h=>rP ((H.fQ A B).ext h),ab (λc0=>?_) (λc0=>aj.at 4 H rfl rfl ?_)⟩
 ·have h0:ds.length=0:=by simp only[beq_iff_eq] at c0;omega
  have a:ds=[]:=List.eq_nil_of_length_eq_zero h0;refine az.all 1 H rfl rfl rfl λV H=>az.all 0 H rfl rfl rfl λD H=>au.go H λq H=>aj.at 1 H rfl rfl (aj.at 0 H rfl rfl ⟨?_,?_,H.fr⟩)
  ·subst a;rfl
  ·subst a;exact H.get (i:=5) rfl
 have h0:ds.length≠0:=by simp only[beq_eq_false_iff_ne,ne_eq] at c0;omega
 refine s6 H _ 0 λpc ic kc V H=>?_
 let T:Int->Int->List DT->List (Nat×List AR):=λx y l=>[(ic,[.func (.func 105) #[] #[ag (ae kc)]]),(pc,[ag (ae bp)]),(kc,[aa 0]),(U,[aa y]),(S,[aa x]),(Q,[aa o]),(P,[aa k]),(b,[ag (ae bp)]),(bf,flat eD l++rest)]
 refine zZ.inv H (En (v:=0) (pc:=pc) (ic:=ic) (kc:=kc) (bp:=bp) (bf:=bf) (c:=c) (rest:=rest) K)
  (λi L'=>L'=T 0 0 ds/\ ∀(j:Nat) d,j<i->ds[j]? =some d->d.1≠0)
  (λj L'=>j= .ret/\ ∃i:Nat,ik ds=some i/\L'=T (if uz ds i (aP k o)=0 then(i:Int) else 0) (uz ds i (aP k o)) (dI ds i (aP k o))) ⟨rfl,λj d g=>absurd g (by omega)⟩ ?_ ?_ ?_ ?_ ?_ ?_
 ·rintro D' i w' L' ⟨rfl, _⟩ H;exact⟨H.get (i:=1) rfl,H.get (i:=0) rfl,H.get (i:=2) rfl,H.fQ A B,H.get (i:=8) rfl⟩
 ·rintro i L' hi p ⟨rfl,g⟩;obtain⟨d,a,t⟩:=Cz (NB:=λd=>d.1) hi p;refine⟨rfl,λj d' z9 E=>?_⟩;by_cases e:j=i
  ·subst e;rw[a] at E;cases E;exact t
  ·exact g j d' (by omega) E
 ·intro i x hi p;obtain⟨d,a,t,rfl⟩:=qe (NB:=λd=>d.1) p;exact⟨((i:Nat),()),rfl⟩
 ·rintro i ⟨x1,u⟩ L' hi p ⟨rfl,g⟩ r l rec D R m _ L;obtain⟨d,a,t,W⟩:=qe (NB:=λd=>d.1) p;have X:x1=((i:Nat):Int):=by
   have h:[aa x1]=[aa (i:Nat)]:=W;simpa using h
  subst X;have f:=Lg a t g;refine Dg.go m rfl (BR.go m λwb H F=>aj.at 7 H rfl rfl (aj.at 6 H rfl rfl (aj.at 5 H rfl rfl ?_)));refine aB.Dv H 8 rfl (λq H=>Cx (F.2.1.du H A B) (H.get (i:=8) rfl) J K _ k o) λq H=>ab (λc=>?_) (λc=>?_)
  ·have hc: ¬ uz ds (i:Nat) (aP k o)=0:=by simpa using c
   refine az.all 4 H rfl rfl rfl λG H=>az.all 3 H rfl rfl rfl λM H=>sk.left F H λz I=>L _ _ z ⟨rfl,i,f,?_⟩ I;rw[ao hc];rfl
  ·have hc:uz ds (i:Nat) (aP k o)=0:=by simpa using c
   refine az.all 4 H rfl rfl rfl λG H=>az.all 3 H rfl rfl rfl λM H=>sk.left F H λz I=>L _ _ z ⟨rfl,i,f,?_⟩ I;rw[ax hc,hc];rfl
 ·rintro L' r rec D ⟨rfl,g⟩ m;have f:ik ds=none:=Le λj d a=>g j d (B3.1 a).1 a;refine dx.none m λq H=>az.all 4 H rfl rfl rfl λG H=>az.all 3 H rfl rfl rfl λM H=>sq.go H λz H=>aj.at 4 H rfl rfl (aj.at 3 H rfl rfl ⟨?_,?_,H.fr⟩)
  ·unfold fc dC;rw[f,ao h0]
  ·have:di ds k o=ds:=by unfold di;rw[f]
   rw[this];exact H.get (i:=8) rfl
 ·rintro j L' r rec D ⟨rfl,i,f,rfl⟩ m;refine dx.ret m λq H=>sq.go H λG H=>aj.at 4 H rfl rfl (aj.at 3 H rfl rfl ⟨?_,?_,H.fr⟩)
  ·unfold fc dC;rw[f,ao h0]
  ·have:di ds k o=dI ds i (aP k o):=by unfold di;rw[f]
   rw[this];exact H.get (i:=8) rfl
end Go.Proofs.YtlcenllcmeebhaaGreat.D
