import Derived.Test.YtlcenllcmeebhaaGreatPBB
/-! What the statement leans on: texts joined and shortened by a program of mine. -/
set_option linter.unusedVariables false
set_option linter.unusedSimpArgs false
open Go renaming World->A1,Addr->AC,Value->AL,MapEntry->AP,TypeId->B4
open Go.Proofs.Tryz renaming prog->A2
open Eq renaming mpr->AM
open List renaming sublist_cons_self->AY,getElem?_eq_getElem->Ap,getElem?_eq_some_iff->Ar,getD_eq_getElem?_getD->Az,replicate->B2,set_set->B5,mem_append_right->Be,mem_cons_of_mem->Bx,append_nil->CB,getElem?_set_ne->CD,getElem?_set_self->CF,mem_map->Cf,range->Cp,length_cons->DA,length_nil->DB,mem_cons_self->DD,append_assoc->DM,mem_append_left->DR,sublist_append_left->DU,ext_getElem?->Do,length_append->Ea,take_of_length_le->Ee,mem_cons->Ek,length_set->Eo,mem_of_getElem?->F5,getElem?_of_mem->F6,length_take->F7,getElem_mem->FS,perm_append_comm->FU,take_append_of_le_length->FX,take_append_drop->FY,map_append->G1,range_succ->GD,filter_cons->GF,mem_range->GG,length_map->GH,getElem?_append_right->GI,set_append_left->GJ,drop_eq_nil_of_le->GS,drop_drop->Ga,getElem?_take_of_lt->Gd,getElem?_append_left->H6,nodup_cons->H7,mem_append->HB,filter_append->Hb,mem_filter->Hq,length_filter_le->Hr,find?_range_eq_some->I1,take_add_one->I2,getElem?_map->I3,getElem?_eq_none->I8,cons_append->IG,take_length->IJ
open And renaming intro->Am
open Go.IntKind renaming i64->B1
open Nat renaming zero_add->B3,le_refl->DF,le_trans->Du,zero_le->FI,add_mul->FK,zero_mul->Gi,blt_eq->Gj,add_zero->Gn,eq_of_beq_eq_true->Gp,ne_of_beq_eq_false->Gq,min_eq_left->IN
open Go.Instr renaming findNow->DL,sameNow->IQ
open Bool renaming or_eq_true->DZ,and_eq_true->Dn,or_eq_false_iff->E4,not_eq_true'->E5,and_eq_false_iff->Gr,false_eq_true->Gz,true_eq_false->H4,not_eq_false'->H5,eq_iff_iff->IR
namespace Go.Proofs.YtlcenllcmeebhaaGreat
set_option maxRecDepth 100000
open Go.RX
def tookS (fr pg wt lv:Int) (fd:FT) (ep:Bool) (er:Int) (el:Bool) (ef:Int):Int×Int×FT:=
 if(!ep)=true then(fr,-1,xE lv 4)
 else if(fV ep er el ef&&decide (lv>0))=true then(ef,aZ .i64 lv 1,fd)
 else if(el&&lv==1)=true then(fr,-1,yr lv wt (aH .i64 ef (dX pg 16)) ep er el ef)
 else if(!el&&decide (er>0)&&lv==0)=true then(fr,-1,yr lv wt ef ep er el ef)
 else(fr,-1,xE lv 11)
section
variable {D G:List Nat} {w0 w:A1} {L:List (Nat×List AL)} {bk bp be:Nat} {fr pg wt lv:Int} {fd:FT} {s:Option AC×Nat×Nat} {ep:Bool} {er:Int} {el:Bool} {ef:Int}
theorem Q7 (H:aM D G w0 w L) (a j:Nat) (c:L[a]? =some (bp,[ag (af bk)])) (d:L[j]? =some (bk,lS fr pg wt lv fd s)) {K:Unit->A1->Prop}
 (k: ∀b,aM D G w0 b (L.set j (bk,lS fr pg wt (-1) (xE lv 4) s))->K () b):aE A2 95 (.bu []) [ag (af bp)] w K:=by
 refine ai (C:=M1) (aR:=λ_=>[]) (AM (Q0 _ w K) ?_);exact aj.at a H c rfl (qh H j d 0 0 0 4 λf H=>au.go H λe H=>k e H)
theorem Q8 (H:aM D G w0 w L) (a j:Nat) (c:L[a]? =some (bp,[ag (af bk)])) (d:L[j]? =some (bk,lS fr pg wt lv fd s)) {K:Unit->A1->Prop}
 (k: ∀b,aM D G w0 b (L.set j (bk,lS fr pg wt (-1) (xE lv 11) s))->K () b):aE A2 102 (.bu []) [ag (af bp)] w K:=by
 refine ai (C:=M1) (aR:=λ_=>[]) (AM (Q4 _ w K) ?_);exact aj.at a H c rfl (qh H j d 0 0 0 11 λf H=>au.go H λe H=>k e H)
theorem Q9 (H:aM D G w0 w L) (e a j:Nat) (f:L[e]? =some (be,[.bool ep,aa er,.bool el,aa ef])) (b:L[a]? =some (bp,[ag (af bk)])) (c:L[j]? =some (bk,lS fr pg wt lv fd s)) (g:j≠a) {K:Unit->A1->Prop}
 (k: ∀d,aM D G w0 d (L.set j (bk,lS ef pg wt (aZ .i64 lv 1) fd s))->K () d):aE A2 97 (.bu []) [ag (af be),ag (af bp)] w K:=by
 refine ai (C:=M1) (aR:=λ_=>[]) (AM (Q1 _ _ w K) ?_);have h:j<L.length:=(Ar.1 c).1;refine aj.at a H b rfl (aj.at a H b rfl ⟨rfl,aj.cw e H f rfl (aj.at a H b rfl ⟨rfl,rfl,aj.cw j H c rfl ⟨rfl,rfl,?_⟩⟩)⟩);refine aC.fS j H c rfl rfl λd H=>⟨trivial,?_,rfl,rfl,?_⟩
 ·exact dW (H.get (i:=a) (by rw[CD g];exact b)) rfl
 ·refine aC.fS j H (CF h) rfl rfl λm H=>au.go H λl H=>k l ?_;rw[B5] at H;exact H
theorem Q_ (H:aM D G w0 w L) (a b j:Nat) (c:L[a]? =some (be,[.bool ep,aa er,.bool el,aa ef])) (d:L[b]? =some (bp,[ag (af bk)])) (e:L[j]? =some (bk,lS fr pg wt lv fd s)) {K:Unit->A1->Prop}
 (k: ∀f,aM D G w0 f (L.set j (bk,lS fr pg wt (-1) (yr lv wt (aH .i64 ef (dX pg 16)) ep er el ef) s))->K () f):aE A2 98 (.bu []) [ag (af bp),ag (af be)] w K:=by
 refine ai (C:=M1) (aR:=λ_=>[]) (AM (Q2 _ _ w K) ?_);have g:gP 1=16:=rfl;rw[g];refine aj.at b H d rfl ⟨rfl,aj.cw a H c rfl (aj.at b H d rfl ⟨rfl,rfl,aj.cw j H e rfl ⟨trivial,by decide,aj.at a H c rfl ?_⟩⟩)⟩;exact PB H j e _ ep er el ef λi H=>au.go H λh H=>k h H
theorem Ra (H:aM D G w0 w L) (a b j:Nat) (c:L[a]? =some (be,[.bool ep,aa er,.bool el,aa ef])) (e:L[b]? =some (bp,[ag (af bk)])) (f:L[j]? =some (bk,lS fr pg wt lv fd s)) {K:Unit->A1->Prop}
 (k: ∀d,aM D G w0 d (L.set j (bk,lS fr pg wt (-1) (yr lv wt ef ep er el ef) s))->K () d):aE A2 101 (.bu []) [ag (af bp),ag (af be)] w K:=by
 refine ai (C:=M1) (aR:=λ_=>[]) (AM (Q3 _ _ w K) ?_);refine aj.at b H e rfl ⟨rfl,aj.cw a H c rfl (aj.at a H c rfl ?_)⟩;exact PB H j f _ ep er el ef λh H=>au.go H λg H=>k g H
theorem Vp (H:aM D G w0 w L) (j:Nat) (o:L[j]? =some (bk,lS fr pg wt lv fd s)) (ep:Bool) (er:Int) (el:Bool) (ef:Int) {K:Unit->A1->Prop}
 (k: ∀E,aM D G w0 E (L.set j (bk,lS (tookS fr pg wt lv fd ep er el ef).1 pg wt (tookS fr pg wt lv fd ep er el ef).2.1 (tookS fr pg wt lv fd ep er el ef).2.2 s))->K () E):
 az A2 61 (.bu []) [ag (af bk),.agg ⟨[.bool ep,aa er,.bool el,aa ef]⟩] w K:=by
 refine az.go H λw1 H=>ai (C:=M3) (aR:=wM) (AM (Vm _ ep er el ef w1 K) ?_);refine aN.go H λbp E H=>aN.go H λbe V H=>⟨rfl,aj.cw 0 H rfl rfl (aj.at 0 H rfl rfl ⟨trivial,aj.at 1 H rfl rfl ⟨λ_=>rfl,λ_=>rfl,aj.cw (j+2) H o rfl ⟨rfl,aj.cw 0 H rfl rfl (aj.at 1 H rfl rfl ⟨λ_=>rfl,λ_=>rfl,aj.cw (j+2) H o rfl ⟨rfl,aj.cw 0 H rfl rfl ⟨λ_=>rfl,aj.cw 0 H rfl rfl (aj.at 1 H rfl rfl ⟨λ_=>rfl,λ_=>rfl,aj.cw (j+2) H o rfl ?_⟩)⟩⟩⟩)⟩⟩⟩)⟩;refine aN.go H λbs W H=>?_;dsimp only at H ⊢;generalize J:(!ep)=c0 at H;generalize M:(fV ep er el ef&&decide (lv>0))=c1 at H;generalize N:(el&&lv==1)=c2 at H;generalize O:(!el&&decide (er>0)&&lv==0)=c3 at H;have g:tookS fr pg wt lv fd ep er el ef=if c0=true then(fr,-1,xE lv 4) else if c1=true then(ef,aZ .i64 lv 1,fd) else if c2=true then(fr,-1,yr lv wt (aH .i64 ef (dX pg 16)) ep er el ef) else if c3=true then(fr,-1,yr lv wt ef ep er el ef) else(fr,-1,xE lv 11):=by
  unfold tookS;rw[J,M,N,O]
 clear J M N O;refine⟨λn s' w'=> ∃i:Nat,s'.1=i/\n+i=5/\((0<i->c0=false)/\(1<i->c1=false)/\(2<i->c2=false)/\(3<i->c3=false)/\i<5)/\aM D G w0 w' ((bs,[.bool c0,.func (.func 95) ⟨[]⟩ ⟨[ag (af bp)]⟩,.bool c1,.func (.func 97) ⟨[]⟩ ⟨[ag (af be),ag (af bp)]⟩,
  .bool c2,.func (.func 98) ⟨[]⟩ ⟨[ag (af bp),ag (af be)]⟩,.bool c3,.func (.func 101) ⟨[]⟩ ⟨[ag (af bp),ag (af be)]⟩,.bool true,.func (.func 102) ⟨[]⟩ ⟨[ag (af bp)]⟩])::(be,[.bool ep,aa er,.bool el,aa ef])::(bp,[ag (af bk)])::L),
  ⟨5,λS T=>⟨0,rfl,rfl,⟨λh=>absurd h (by decide),λh=>absurd h (by decide),λh=>absurd h (by decide),λh=>absurd h (by decide),by decide⟩,H.ext T⟩⟩,?_⟩
 clear H;rintro n ⟨X,u⟩ S ⟨i,hi,Y,⟨b,l,F,U,Z⟩,H⟩;simp only at hi;subst hi;dsimp only;have m: ∀{x y z q:Nat×List AL},(x::y::z::q::L)[j+4]? =some (bk,lS fr pg wt lv fd s):=o;have fin: ∀{x y z q:Nat×List AL} {d:A1} {P Q:Int} {R:FT},tookS fr pg wt lv fd ep er el ef=(P,Q,R)->aM D G w0 d (x::y::z::q::L.set j (bk,lS P pg wt Q R s))->K () d:=λe H=>by
  rw[e] at k;exact k _ ((((H.sub (AY _ _)).sub (AY _ _)).sub (AY _ _)).sub (AY _ _))
 have p:aH .i64 (i:Int) 1=((i+1:Nat):Int):=by rw[aw (by omega) (by omega)];rfl
 rcases(by omega:i=0\/i=1\/i=2\/i=3\/i=4) with rfl|rfl|rfl|rfl|rfl
 ·refine aA rfl ⟨⟨rfl,by decide,by decide⟩,aj.cw 0 H rfl rfl (aN.go H λr t H=>aC.all 0 H rfl rfl rfl λv H=>⟨rfl,aj.cw 0 H rfl rfl (ab (λc=>⟨rfl,aj.cw 0 H rfl rfl ?_⟩) (λc I f=>⟨n - 1,by omega,1,p,by omega,⟨λ_=>c,λh=>absurd h (by decide),λh=>absurd h (by decide),λh=>absurd h (by decide),by decide⟩,(H.sub (AY _ _)).ext f⟩))⟩)⟩;unfold Ak;refine λd a=>⟨_,⟨[]⟩,⟨[ag (af bp)]⟩,rfl,by kernel_rfl,Q7 (H.ext a) 3 (j+4) rfl m λA H=>au.go H λB H=>fin ?_ H⟩;rw[g,av c]
 ·refine aA rfl ⟨⟨rfl,by decide,by decide⟩,aj.cw 0 H rfl rfl (aN.go H λr t H=>aC.all 0 H rfl rfl rfl λv H=>⟨rfl,aj.cw 0 H rfl rfl (ab (λc=>⟨rfl,aj.cw 0 H rfl rfl ?_⟩) (λc I f=>⟨n - 1,by omega,2,p,by omega,⟨λ_=>b (by decide),λ_=>c,λh=>absurd h (by decide),λh=>absurd h (by decide),by decide⟩,(H.sub (AY _ _)).ext f⟩))⟩)⟩;unfold Ak;refine λd a=>⟨_,⟨[]⟩,⟨[ag (af be),ag (af bp)]⟩,rfl,by kernel_rfl,Q9 (H.ext a) 2 3 (j+4) rfl rfl m (by omega) λA H=>au.go H λB H=>fin ?_ H⟩;rw[g,ao (by rw[b (by decide)];decide),av c]
 ·refine aA rfl ⟨⟨rfl,by decide,by decide⟩,aj.cw 0 H rfl rfl (aN.go H λr t H=>aC.all 0 H rfl rfl rfl λv H=>⟨rfl,aj.cw 0 H rfl rfl (ab (λc=>⟨rfl,aj.cw 0 H rfl rfl ?_⟩) (λc I f=>⟨n - 1,by omega,3,p,by omega,⟨λ_=>b (by decide),λ_=>l (by decide),λ_=>c,λh=>absurd h (by decide),by decide⟩,(H.sub (AY _ _)).ext f⟩))⟩)⟩;unfold Ak;refine λd a=>⟨_,⟨[]⟩,⟨[ag (af bp),ag (af be)]⟩,rfl,by kernel_rfl,Q_ (H.ext a) 2 3 (j+4) rfl rfl m λA H=>au.go H λB H=>fin ?_ H⟩;rw[g,ao (by rw[b (by decide)];decide),ao (by rw[l (by decide)];decide),av c]
 ·refine aA rfl ⟨⟨rfl,by decide,by decide⟩,aj.cw 0 H rfl rfl (aN.go H λr t H=>aC.all 0 H rfl rfl rfl λv H=>⟨rfl,aj.cw 0 H rfl rfl (ab (λc=>⟨rfl,aj.cw 0 H rfl rfl ?_⟩) (λc I f=>⟨n - 1,by omega,4,p,by omega,⟨λ_=>b (by decide),λ_=>l (by decide),λ_=>F (by decide),λ_=>c,by decide⟩,(H.sub (AY _ _)).ext f⟩))⟩)⟩;unfold Ak;refine λd a=>⟨_,⟨[]⟩,⟨[ag (af bp),ag (af be)]⟩,rfl,by kernel_rfl,Ra (H.ext a) 2 3 (j+4) rfl rfl m λA H=>au.go H λB H=>fin ?_ H⟩;rw[g,ao (by rw[b (by decide)];decide),ao (by rw[l (by decide)];decide),ao (by rw[F (by decide)];decide),av c]
 ·refine aA rfl ⟨⟨rfl,by decide,by decide⟩,aj.cw 0 H rfl rfl (aN.go H λr t H=>aC.all 0 H rfl rfl rfl λv H=>⟨rfl,aj.cw 0 H rfl rfl (aA rfl ⟨rfl,aj.cw 0 H rfl rfl ?_⟩)⟩)⟩;unfold Ak;refine λd a=>⟨_,⟨[]⟩,⟨[ag (af bp)]⟩,rfl,by kernel_rfl,Q8 (H.ext a) 3 (j+4) rfl m λA H=>au.go H λB H=>fin ?_ H⟩;rw[g,ao (by rw[b (by decide)];decide),ao (by rw[l (by decide)];decide),ao (by rw[F (by decide)];decide),ao (by rw[U (by decide)];decide)]
end
def Co (Ls:List (Nat×List AL)) (s:Option AC×Nat×Nat) (xs:List Int):Prop:=
 (s=(none,0,0)/\xs=[]/\Ls=[])\/ ∃bs c rest,s=(some ⟨bs,0,none⟩,xs.length,c)/\Ls=[(bs,flat eI xs++rest)]/\(flat eI xs++rest).length=c*aF eI/\xs.length<=c
def okW (ws:List Int):Prop:= ∀x∈ws,0<=x/\x<18446744073709551616
def bA (ws:List Int) (pg wt:Int) (x:Int×Int×FT):Int×Int×FT:=
 if x.2.1= -1 then x
 else if(!uY (B (dK ws (dV x.1 pg x.2.1))).toNat||Cm ws (dV x.1 pg x.2.1) != 0)=true then(x.1,-1,xE x.2.1 11)
 else tookS x.1 pg wt x.2.1 x.2.2 (IF (B (dK ws (dV x.1 pg x.2.1))).toNat) (F2 (B (dK ws (dV x.1 pg x.2.1))).toNat) (Kp (B (dK ws (dV x.1 pg x.2.1))).toNat) (FM (B (dK ws (dV x.1 pg x.2.1))).toNat)
theorem GX {ws:List Int} (h:okW ws) (i:Int):0<=dK ws i/\dK ws i<18446744073709551616:=by
 unfold dK;split
 ·rename_i hi;rw[jg] at hi;rw[Az,Ap (by omega)];exact h _ (FS _)
 ·exact⟨by decide,by decide⟩
section
variable {D G:List Nat} {w0 w:A1} {L L0 Ls:List (Nat×List AL)} {bk bm bw n c:Nat} {ca la fr pg wt lv:Int} {fd:FT} {s:Option AC×Nat×Nat} {ws xs:List Int} {rest:List AL}
theorem Rb (hb:bK w bk (lS fr pg wt lv fd s)) (a:lv≠ -1):aE A2 58 (.el (.agg sA)) [ag (af bk)] w (λx w'=>x=(1,dV fr pg lv,0,0,())/\Ext w w'):=by
 refine aQ (C:=M1) (aR:=λ_=>[]) (AM (QZ _ w _) ?_);have H:=At.start [] w;refine aN.go H λb c H=>⟨λ_=>rfl,λ_=>rfl,aj.k_ H hb (by simp) rfl ⟨λ_=>rfl,λ_=>rfl,aj.k_ H hb (by simp) rfl (an (by simp[a]) ?_)⟩⟩;refine⟨rfl,rfl,aj.k_ H hb (by simp) rfl ⟨rfl,rfl,aj.k_ H hb (by simp) rfl ⟨rfl,rfl,aj.k_ H hb (by simp) rfl ⟨trivial,aC.all 0 H rfl rfl rfl λd H=>au.go H λe H=>aj.at 0 H rfl rfl ⟨rfl,H.all⟩⟩⟩⟩⟩
theorem EE (H:At G w0 w ((bk,lS fr pg wt lv fd s)::(bm,lZ bw n c ca la)::(bw,flat eW ws++rest)::(Ls++L0))) (r:Co Ls s xs) (L:xs.length<=1000) (t:n=ws.length) (h0:0<n) (u:okW ws) (d:lv≠ -1) {K:Bool->A1->Prop}
 (k: ∀e g s',Co g s' (xs++[fr])->At G w0 e ((bk,lS (bA ws pg wt (fr,lv,fd)).1 pg wt (bA ws pg wt (fr,lv,fd)).2.1 (bA ws pg wt (fr,lv,fd)).2.2 s')::(bm,lZ bw n c (xx ws (dV fr pg lv) ca) la)::(bw,flat eW ws++rest)::(g++L0))->K ((bA ws pg wt (fr,lv,fd)).2.1== -1) e):
 az A2 22 (.el (.one .bool)) [ag (af bk),ag (af bm)] w K:=by
 refine az.go H λw1 H=>ai (C:=M1) (aR:=λ_=>[]) (AM (Q5 _ _ w1 K) ?_);refine⟨λ_=>rfl,λ_=>rfl,aj.cw 0 H rfl rfl (an rfl ⟨rfl,rfl,aj.cw 0 H rfl rfl (an (by simp[d]) ?_)⟩)⟩;refine⟨(1,dV fr pg lv,0,0,()),ae.of (s:= .el (.agg sA)) λw' h'=>Rb ((H.get (i:=0) rfl).ext h') d,?_⟩;refine abA H rfl 1 2 rfl rfl (by decide) t h0 (dV fr pg lv) 0 0 λe H=>?_;refine aN.go H λb M H=>aC.all 0 H rfl rfl rfl λN H=>⟨rfl,rfl,aj.cw 1 H rfl rfl ⟨rfl,rfl,aj.cw 1 H rfl rfl (aN.go H λh O H=>λz A=>?_)⟩⟩;have H:=H.ext A;dsimp only at H ⊢;generalize hv:dK ws (dV fr pg lv)=v at H ⊢;generalize D:Cm ws (dV fr pg lv)=er at H ⊢;have j:0<=v/\v<18446744073709551616:=by rw[<-hv];exact GX u _
 have H:At G w0 z ([(h,cellsOf eI fr)]++([(b,[ay v,.bool false,aa er]),(bk,lS fr pg wt lv fd s),(bm,lZ bw n c (xx ws (dV fr pg lv) ca) la),(bw,flat eW ws++rest)]++(Ls++L0))):=H;have H:=H.perm (L':=(h,cellsOf eI fr)::(Ls++([(b,[ay v,.bool false,aa er]),(bk,lS fr pg wt lv fd s),(bm,lZ bw n c (xx ws (dV fr pg lv) ca) la),(bw,flat eW ws++rest)]++L0))) (.cons _ (by
  rw[<-DM, <-DM];exact List.Perm.append_right _ FU))
 refine aM.grow H r rfl rfl rfl (by omega) λbs m a P E F H=>⟨rfl,rfl,aC.fS 2 H rfl rfl rfl λQ H=>⟨rfl,aj.cw 1 H rfl rfl ?_⟩⟩;have I:U (B v)=v:=Cu j.1 j.2;refine⟨I,aN.go H λR S H=>aC.all 0 H rfl rfl rfl λT H=>⟨λ_=>rfl,aj.cw 2 H rfl rfl ?_⟩⟩;have o:bA ws pg wt (fr,lv,fd)=if(!uY (B v).toNat||er != 0)=true then(fr,-1,xE lv 11) else tookS fr pg wt lv fd (IF (B v).toNat) (F2 (B v).toNat) (Kp (B v).toNat) (FM (B v).toNat):=by
  unfold bA;simp only[hv,D];rw[ao d]
 have p:Co [(bs,flat eI (xs++[fr])++a)] (some ⟨bs,0,none⟩,xs.length+1,m) (xs++[fr]):= .inr ⟨bs,m,a,by rw[Ea];rfl,rfl,E,by rw[Ea];exact F⟩;have q: ∀{w:A1} {x y:Nat×List AL} {l:List AL},At G w0 w (x::(bs,flat eI (xs++[fr])++a)::y::(bk,l)::(bm,lZ bw n c (xx ws (dV fr pg lv) ca) la)::(bw,flat eW ws++rest)::L0)->At G w0 w ((bk,l)::(bm,lZ bw n c (xx ws (dV fr pg lv) ca) la)::(bw,flat eW ws++rest)::([(bs,flat eI (xs++[fr])++a)]++L0)):=λ{w x y l} H=>by
  have H:=H.sub (AY _ _);have H:=H.sub (L':=[(bs,flat eI (xs++[fr])++a)]++([(bk,l),(bm,lZ bw n c (xx ws (dV fr pg lv) ca) la),(bw,flat eW ws++rest)]++L0)) (.cons_cons _ (AY _ _));refine H.perm ?_;refine List.Perm.trans (l₂:=[(bk,l),(bm,lZ bw n c (xx ws (dV fr pg lv) ca) la),(bw,flat eW ws++rest)]++([(bs,flat eI (xs++[fr])++a)]++L0)) (.refl _) ?_;rw[<-DM, <-DM];exact List.Perm.append_right _ FU
 refine ab (λc1=>?_) (λc1=>aj.at 0 H rfl rfl ?_)
 ·rw[o,av c1] at k;exact qh H 3 rfl 0 0 0 11 λJ H=>au.go H λf H=>k f _ _ p (q H)
 ·rw[o,ao (by rw[c1];decide)] at k;refine Vp H 3 rfl _ _ _ _ λJ H=>⟨rfl,rfl,aj.cw 3 H rfl rfl (au.go H λf H=>k f _ _ p (q H))⟩
theorem Vq (hb:bK w bk (lS fr pg wt lv fd s)):aE A2 24 (.bu [.agg sF,.one .bool]) [ag (af bk)] w (λx w'=>x=(if lv= -1 then(fd,true,()) else((0,0,0,0,()),false,()))/\Ext w w'):=by
 obtain⟨f0,f1,f2,f3,f⟩:=fd;refine aQ (C:=M1) (aR:=λ_=>[]) (AM (Vn _ w _) ?_);have H:=At.start [] w;refine aN.go H λb g H=>⟨λ_=>rfl,λ_=>rfl,aj.k_ H hb (by simp) rfl ⟨λ_=>rfl,λ_=>rfl,aj.k_ H hb (by simp) rfl (ab (λc=>?_) (λc=>?_))⟩⟩
 ·have a:lv≠ -1:=by simpa using c
  rw[ao a];exact aC.all 0 H rfl rfl rfl λd H=>au.go H λe H=>aj.at 0 H rfl rfl ⟨rfl,H.all⟩
 ·have a:lv= -1:=by simpa using c
  rw[av a];refine⟨rfl,rfl,aj.k_ (x:=(f0,f1,f2,f3,())) H hb (by simp) rfl ?_⟩;exact aC.all 0 H rfl rfl rfl λd H=>au.go H λe H=>aj.at 0 H rfl rfl ⟨rfl,H.all⟩
def vi (f p t:Int):Bool:=decide (dV f p 3<0)||decide (t<0)||decide (t>7)
theorem Ju (H:aM D G w0 w L) (f p t:Int) {K:Option AC->A1->Prop} (hb:vi f p t=true-> ∀w1,aM D G w0 w1 L->K none w1)
 (d:vi f p t=false-> ∀bk w1,aM D G w0 w1 ((bk,lS f p t 3 (0,0,0,0,()) (none,0,0))::L)->K (af bk) w1):
 az A2 20 (.el (.one .ptr)) [aa f,aa p,aa t] w K:=by
 refine az.go H λw1 H=>ai (C:=M1) (aR:=λ_=>[]) (AM (Vk f p t w1 K) ?_);refine aN.go H λb e H=>⟨trivial,ab (λc=>au.go H λa H=>hb c a (H.sub (AY _ _))) (λc=>au.go H λa H=>d c b a H)⟩
end
section
variable {D G:List Nat} {w0 w:A1}
theorem _root_.Go.RX.aM.abB {e:El} {s:Option AC×Nat×Nat} {xs ys:List e.T} {b U:Nat} {I:List AL} {Ls L0:List (Nat×List AL)} (H:aM D G w0 w ((b,flat e ys++I)::(Ls++L0))) (d:ys≠[])
 (o:(s=(none,0,0)/\xs=[]/\Ls=[])\/ ∃bs c rest,s=(some ⟨bs,0,none⟩,xs.length,c)/\Ls=[(bs,flat e xs++rest)]/\(flat e xs++rest).length=c*aF e/\xs.length<=c)
 (V:gY e=true) {t:B4} {size bytes:Nat} {z:Array AL} (q:size=aF e) (W:z.size=aF e) (hb:(xs.length+ys.length)*bytes<=140737488355328)
 {R:Option AC×Nat×Nat->A1->Prop} (k: ∀bs c rest w',(flat e (xs++ys)++rest).length=c*aF e->(xs++ys).length<=c->aM D G w0 w' ((bs,flat e (xs++ys)++rest)::L0)->R (some ⟨bs,0,none⟩,(xs++ys).length,c) w'):
 mF w t size bytes z s (some ⟨b,0,none⟩,ys.length,U) R:=by
 subst q;have X:(v9 0 w).heap.size=0:=iG (FI _);have Y:lR (v9 0 w) w e s xs:=by
  rcases o with ⟨rfl,rfl, _⟩|⟨bs,c,rest,rfl,rfl,h1,v⟩
  ·exact lR.nil _ _ _
  ·refine⟨rfl,v,.inr ⟨bs, _,rfl,by rw[X];exact FI _,H.get (i:=1) rfl,h1,?_⟩⟩;rw[FX (by rw[aG];exact DF _),Ee (by rw[aG];exact DF _)]
 have Z:bK w b (flat e ys++I):=H.get (i:=0) rfl;refine lH (ys:=ys) Y (qt (FI _)) V rfl ?_ W hb λs' w' ym g J q K=>?_
 ·refine Z.oW (aG e ys) λj hj=>?_;rw[B3,H6 (by rw[aG];exact hj)]
 ·obtain⟨p,n,c⟩:=s';obtain⟨h1,v,L⟩:=ym;simp only at h1 v L K;have hyl:0<ys.length:=List.length_pos_iff.2 d;have hlen:(xs++ys).length=xs.length+ys.length:=by simp
  rcases L with ⟨_,M, _⟩|⟨bs,l,a1, _,a3,a4,a5⟩
  ·simp at M;exact absurd M.2 d
  ·subst a1;subst h1;have el:l=flat e (xs++ys)++l.drop ((xs++ys).length*aF e):=by rw[<-a5,FY]
   refine k bs c (l.drop ((xs++ys).length*aF e)) w' (by rw[<-el];exact a4) v ?_;rw[<-el];have hG': ∃C,Fr C w w'/\(∀y∈C,y∈Ls.map (·.1)):=by
    rcases o with ⟨rfl, _,rfl⟩|⟨bo,co,N,rfl,rfl, _, _⟩
    ·exact⟨[],⟨g.os,g.tape,g.output,q,λy d _=>J y d (λa E=>by cases E)⟩,λy d=>by cases d⟩
    ·exact⟨[bo],⟨g.os,g.tape,g.output,q,λy d hn=>J y d (λa E=>by cases E;simpa using hn)⟩,λy d=>by simpa using d⟩
   obtain⟨C,O,F⟩:=hG';have x:=H.nd;simp only[List.map_cons,G1,H7,List.nodup_append,HB] at x;have P: ∀y∈Ls.map (·.1),w0.heap.size<=y\/y∈G:=λy d=>by
    obtain⟨u,m,rfl⟩:=Cf.1 d;exact H.own u (Bx _ (DR _ m))
   have Q:bs∈Ls.map (·.1)\/w.heap.size<=bs:=by
    rcases K with ⟨a,f,A⟩|⟨a,f,A⟩|f
    ·cases f;rcases o with ⟨rfl, _, _⟩|⟨bo,co,N,rfl,rfl, _, _⟩
     ·cases A
     ·cases A;exact .inl (by simp)
    ·cases f;exact .inr A
    ·rcases o with ⟨rfl,rfl, _⟩|⟨bo,co,N,rfl,rfl, _, _⟩
     ·cases f
     ·have S:=congrArg (λz=>z.2.1) f;simp at S;exact absurd S d
   refine H.frame O (λy d=>P y (F y d)) (λr hr d=>?_) (λy d=>?_) (λy d=>?_) ?_
   ·obtain⟨u,m,f⟩:=Cf.1 (F r d);exact aM.di (H.dj u (Bx _ (DR _ m))) (H.qc r hr).2 (λ_ _ _ hc=>by cases hc) f
   ·rcases Ek.1 d with rfl|d
    ·exact a3
    ·refine O.dj (λB=>?_) (H.dj y (Bx _ (Be _ d)));exact x.2.2.2 y.1 (F _ B) y.1 (Cf.2 ⟨y,d,rfl⟩) rfl
   ·rcases Ek.1 d with rfl|d
    ·rcases Q with h|h
     ·exact P _ h
     ·exact .inl (Du H.fr.size h)
    ·exact H.own y (Bx _ (Be _ d))
   ·refine H7.2 ⟨λB=>?_,x.2.2.1⟩;rcases Q with h|h
    ·exact x.2.2.2 bs h bs B rfl
    ·obtain⟨u,m,f⟩:=Cf.1 B;have:=(H.dj u (Bx _ (Be _ m))).lt;simp only at f h;omega
end
abbrev mG (br n c:Nat):List AL:=[.slice (af br) n c]
def l5 (gs:List GT) (i:Int):Option Nat:=if 0<=i/\i<gs.length/\gs.getD i.toNat zG≠zG then some i.toNat else none
def xF (gs:List GT) (i:Int):GT:=match l5 gs i with
 |some k=>gs.getD k zG
 |none=>zG
def gZ (gs:List GT) (i g:Int) (b:Bool):Int:=match l5 gs i with
 |none=>4
 |some k=>if((gs.getD k zG).2.2.1 != g||b&& !(gs.getD k zG).2.2.2.1)=true then 7 else if(gs.getD k zG).2.2.2.2.1=1000 then 3 else 0
def fq (x:GT) (n:Int):GT:=(x.1,x.2.1,x.2.2.1,x.2.2.2.1,x.2.2.2.2.1+n,())
def eh (gs:List GT) (i g:Int) (b:Bool):List GT:=if gZ gs i g b=0 then gs.set i.toNat (fq (gs.getD i.toNat zG) 1) else gs
def mz (gs:List GT) (i g:Int):Int:=match l5 gs i with
 |none=>4
 |some k=>if(gs.getD k zG).2.2.1≠g then 7 else if(gs.getD k zG).2.2.2.2.1=0 then 6 else 0
def eR (gs:List GT) (i g:Int):List GT:=if mz gs i g=0 then gs.set i.toNat (fq (gs.getD i.toNat zG) (-1)) else gs
def rh (gs:List GT) (i o:Int):Int:=match l5 gs i with
 |none=>4
 |some k=>if(gs.getD k zG).1≠o then 7 else if(gs.getD k zG).2.2.2.2.1>0 then 9 else 0
def lu (gs:List GT) (i o:Int):List GT:=if rh gs i o=0 then gs.set i.toNat zG else gs
def dk (gs:List GT) (p:GT->Bool) (n:Nat):List Int:=((Cp n).filter λ(i:Nat)=>p (gs.getD i zG)).map λ(i:Nat)=>(i:Int)
def km (o q t:Int) (x:GT):Bool:=o==x.1&&(q==x.2.1&&t==x.2.2.1)
def fc (x:GT):Bool:=decide (x=zG)
def o8 (g:Int) (x:GT):Bool:= !fc x&&(x.1==g||x.2.2.1==g)
def lx (gs:List GT) (o q t:Int):Int:=
 if(!gG o|| !gG t||o==t||decide (q<0)||decide (q>=65536))=true then 1
 else if dk gs (km o q t) gs.length≠[] then 5 else if dk gs fc gs.length=[] then 3 else 0
def kx (gs:List GT) (o q t:Int):Int:=if lx gs o q t=0 then(dk gs fc gs.length).headD 0 else 0
def jV (gs:List GT) (o q t:Int) (b:Bool):List GT:=if lx gs o q t=0 then gs.set (kx gs o q t).toNat (o,q,t,b,0,()) else gs
def cP (gs:List GT) (g:Int):List GT:=gs.map λx=>if o8 g x=true then zG else x
theorem Re (x:GT):mK x.1 x.2.1 x.2.2.1 x.2.2.2.1 x.2.2.2.2.1=fc x:=rfl
theorem sN (gs:List GT) (p:GT->Bool) (n:Nat):dk gs p (n+1)=dk gs p n++(if p (gs.getD n zG)=true then[(n:Int)] else[]):=by
 unfold dk;rw[GD,Hb,G1];by_cases h:p (gs.getD n zG)=true
 ·rw[av h,GF,av h];rfl
 ·rw[ao h,GF,ao h];rfl
theorem qw {gs:List GT} {p:GT->Bool} {n:Nat} {x:Int}:x∈dk gs p n<-> ∃i:Nat,i<n/\p (gs.getD i zG)=true/\x=(i:Int):=by
 unfold dk;simp only[Cf,Hq,GG];constructor
 ·rintro⟨i,⟨h1,a⟩,rfl⟩;exact⟨i,h1,a,rfl⟩
 ·rintro⟨i,h1,a,rfl⟩;exact⟨i,⟨h1,a⟩,rfl⟩
theorem qx (gs:List GT) (p:GT->Bool) (n:Nat):(dk gs p n).length<=n:=by
 unfold dk;rw[GH];exact Du (Hr _ _) (by simp)
theorem lD {gs:List GT} {i:Int} {k:Nat} (h:l5 gs i=some k):0<=i/\i<gs.length/\k=i.toNat/\gs[k]? =some (gs.getD k zG)/\gs.getD k zG≠zG:=by
 unfold l5 at h;split at h
 ·rename_i c;cases h;refine⟨c.1,c.2.1,rfl,?_,c.2.2⟩;rw[Az,Ap (by omega)];rfl
 ·cases h
section
variable {D G:List Nat} {w0 w:A1} {L:List (Nat×List AL)} {bg br c:Nat} {gs:List GT} {rest:List AL}
theorem LD (h:bK w bg (mG br gs.length c)) (h0:0<gs.length):aE A2 224 (.el (.one .bool)) [ag (af bg)] w (λx w'=>x=true/\Ext w w'):=by
 refine ai (C:=G3) (aR:=λ_=>[]) (AM (Lh _ w _) ?_);refine⟨λ_=>rfl,λ_=>rfl,(some ⟨br,0,none⟩,gs.length,c),λ_=>?_,λw1 h1=>⟨?_,h1⟩⟩
 ·rw[aW];exact h.oK rfl
 ·simp;exact h0
theorem pO (h:bK w bg (mG br gs.length c)) (h0:0<gs.length):ae A2 224 [ag (af bg)] w (.bool true):=
 ae.of (s:= .el (.one .bool)) λw' h'=>LD (h.ext h') h0
def Cw (br:Nat) (gs:List GT) (i:Int):Option AC:=(l5 gs i).map λk=>⟨br,k*5,none⟩
def Cx (gs:List GT) (i:Int):Int:=if(l5 gs i).isSome then 0 else 4
theorem ZX (h:bK w bg (mG br gs.length c)) (j:bK w br (flat eG gs++rest)) (h0:0<gs.length) (i:Int):
 aE A2 221 (.bu [.one .ptr,.one (.int .i64)]) [ag (af bg),aa i] w (λx w'=>x=(Cw br gs i,Cx gs i,())/\Ext w w'):=by
 refine ai (C:=G3) (aR:=λ_=>[]) (AM (ZP _ i w _) ?_);have f:cC w (ad (af bg) 0) (.one .slice) (some ⟨br,0,none⟩,gs.length,c):=by rw[aW];exact h.oK rfl
 refine⟨_,pO h h0,an rfl ⟨λ_=>rfl,λ_=>rfl,(some ⟨br,0,none⟩,gs.length,c),λ_=>f,λ_=>rfl,λ_=>rfl,(some ⟨br,0,none⟩,gs.length,c),λ_=>f,?_⟩⟩;dsimp only;have g:(l5 gs i=none)->(Cw br gs i,Cx gs i,())=((none,4,()):Option AC×Int×Unit):=λe=>by
  unfold Cw Cx;rw[e];rfl
 by_cases b:0<=i/\i<gs.length
 ·have c1:(decide (i<0)||decide (i>=((gs.length:Nat):Int)))=false:=by
   rw[E4,decide_eq_false_iff_not,decide_eq_false_iff_not];omega
  have k:gs[i.toNat]? =some (gs.getD i.toNat zG):=by
   rw[Az,Ap (by omega)];rfl
  rw[c1];refine⟨λ_=>⟨rfl,b.1,b.2⟩,gs.getD i.toNat zG,λ_=>fZ (e:=eG) j k,λ_=>trivial,?_⟩;rw[Re];refine ab (λd=>λw1 h1=>⟨(g ?_).symm,h1⟩) (λd=>⟨rfl,rfl,aj.of _ f ⟨⟨rfl,b.1,b.2⟩,λw1 h1=>⟨?_,h1⟩⟩⟩)
  ·have d:gs.getD i.toNat zG=zG:=by simpa[fc] using d
   unfold l5;rw[ao (λa=>a.2.2 d)]
  ·have d: ¬ gs.getD i.toNat zG=zG:=by simpa[fc] using d
   have e:l5 gs i=some i.toNat:=by unfold l5;rw[av ⟨b.1,b.2,d⟩]
   unfold Cw Cx;rw[e,aW];simp
 ·have c1:(decide (i<0)||decide (i>=((gs.length:Nat):Int)))=true:=by
   rw[DZ,decide_eq_true_eq,decide_eq_true_eq];omega
  rw[c1];refine⟨λa=>(by cases a),zG,λa=>(by cases a),λ_=>trivial,aA rfl λw1 h1=>⟨(g ?_).symm,h1⟩⟩;unfold l5;rw[ao (λa=>b ⟨a.1,a.2.1⟩)]
theorem I0 (h:bK w bg (mG br gs.length c)) (a:bK w br (flat eG gs++rest)) (h0:0<gs.length) (i:Int):
 ae A2 221 [ag (af bg),aa i] w ((Sh.bu [.one .ptr,.one (.int .i64)]).gO (Cw br gs i,Cx gs i,())):=
 ae.of (s:= .bu [.one .ptr,.one (.int .i64)]) λw' h'=>ZX (h.ext h') (a.ext h') h0 i
theorem Vr {bc:Nat} {o q t:Int} (hc:bK w bc [aa o,aa q,aa t,.bool false,aa 0]) (x:GT):
 ae A2 226 [.agg ⟨[aa x.1,aa x.2.1,aa x.2.2.1,.bool x.2.2.2.1,aa x.2.2.2.2.1]⟩,ag (af bc)] w (.bool (km o q t x)):=by
 refine ae.of (s:= .el (.one .bool)) λw' h'=>ai (C:=G3) (aR:=λ_=>[]) (AM (QH _ _ _ _ _ _ w' _) ?_);have H:=At.start [] w';refine aN.go H λb a H=>aj.of (o,q,t,false,0,()) (dW ((hc.ext h').ext H.all) rfl) ⟨rfl,aj.cw 0 H rfl rfl ⟨rfl,aj.cw 0 H rfl rfl ⟨rfl,aj.cw 0 H rfl rfl (au.go H λc H=>⟨?_,H.all⟩)⟩⟩⟩;unfold km;simp
theorem Rf {bc:Nat} {g:Int} (hc:bK w bc [aa g]) (x:GT):
 ae A2 209 [.agg ⟨[aa x.1,aa x.2.1,aa x.2.2.1,.bool x.2.2.2.1,aa x.2.2.2.2.1]⟩,ag (af bc)] w (.bool (o8 g x)):=by
 refine ae.of (s:= .el (.one .bool)) λw' h'=>ai (C:=G3) (aR:=λ_=>[]) (AM (Li _ _ _ _ _ _ w' _) ?_);have H:=At.start [] w';refine aN.go H λb c H=>?_;have a:cC c (af bc) (.one (.int .i64)) g:=dW ((hc.ext h').ext H.all) rfl;refine aj.at 0 H rfl (show _=some x from rfl) ⟨trivial,λ_=>rfl,aj.cw 0 H rfl rfl (aj.of g a ⟨λ_=>rfl,aj.cw 0 H rfl rfl (aj.of g a (au.go H λd H=>⟨?_,H.all⟩))⟩)⟩;rfl
theorem OH {j:Nat} {x:Nat×List AL} (h:L[j]? =some x):L.set j x=L:=Do λm=>by
 by_cases e:j=m
 ·subst e;rw[CF (Ar.1 h).1,h]
 ·rw[CD e]
end
end Go.Proofs.YtlcenllcmeebhaaGreat
namespace Go.Proofs.YtlcenllcmeebhaaGreat.Po
set_option maxRecDepth 100000
open Go.RX
abbrev sQ:List Sc:=[.int .i64,.int .i64,.int .i64,.bool,.bool]
abbrev eQ:El:= .agg sQ
abbrev PT:Type:=Int×Int×Int×Bool×Bool×Unit
def zP:PT:=(0,0,0,false,false,())
def gI (n:Int):Bool:=decide (n>=1)&&decide (n<=16)
noncomputable def R0:dJ A2:={C3 with v7:=false}
theorem Rh (n:Int) (w:A1) (a:Bool->A1->Prop):(aK R0 (λ_=>[]) 212 [aa n] w a)=(
 au w (a (decide (n>=1)&&decide (n<=16)))):=by kernel_rfl
theorem Ri (n:Int) (w:A1):aE A2 212 (.el (.one .bool)) [aa n] w (λx w'=>x=gI n/\Ext w w'):=by
 refine ai (C:=R0) (aR:=λ_=>[]) (AM (Rh n w _) ?_);have H:=At.start [] w
 repeat' (first
  |exact Go.RX.aM.all H
  |exact Am (by first|rfl|decide+kernel) (Go.RX.aM.all H)
  |refine Am (by first|exact rfl|exact trivial|exact λ_=>rfl|exact λ_=>trivial|exact⟨rfl,by decide,by decide⟩|exact⟨by decide,by decide⟩|decide+kernel|exact λ_=>by decide|exact λ_=>⟨rfl,by decide,by decide⟩|(dsimp only[DA,DB];exact⟨rfl,by decide,by decide⟩)) ?_
  |refine aj.cw 0 H rfl rfl ?_
  |refine aj.cw 1 H rfl rfl ?_
  |refine aj.at 0 H rfl rfl ?_
  |refine aj.at 1 H rfl rfl ?_
  |refine aN.go H λb w1 H=>?_
  |refine aC.all 0 H rfl rfl rfl λw1 H=>?_
  |refine aC.all 1 H rfl rfl rfl λw1 H=>?_
  |refine aC.fS 0 H rfl rfl rfl λw1 H=>?_
  |refine aC.fS 1 H rfl rfl rfl λw1 H=>?_
  |refine aC.one 0 H rfl rfl rfl λw1 H=>?_
  |refine aC.one 1 H rfl rfl rfl λw1 H=>?_
  |with_reducible refine au.go H λw1 H=>?_
  |refine jJ ?_
  |refine aA (by assumption) ?_
  |refine an (by assumption) ?_
  |refine ab (λc=>?_) (λc=>?_))
noncomputable def ZY:Entry A2 where
 f:=212
 fn l:=match l with
  |[.int .i64 a]=>some (True,.bool (gI a))
  | _=>none
 ok args pre v h b w:=by
  split at h
  ·rename_i a;cases h;exact bV (Ri a w)
  ·cases h
noncomputable def R1:dJ A2:={R0 with sW:=[ZY],quiet:=[211,213,229,245,231]}
theorem Rj (p:Option AC) (w:A1) (a:Bool->A1->Prop):(aK R1 (λ_=>[]) 211 [ag p] w a)=(
 ((!p.isNone)=true->p.isSome=true)/\((!p.isNone)=true->p.isSome=true)/\aj w (some !p.isNone) (ad p 2560) aS λ(x:Int)=>au w (a (!p.isNone&&decide (x>0)))):=by kernel_rfl
theorem OX (p:Option AC) (g i:Int) (w:A1) (a:Option AC->A1->Prop):(aK R1 (λ_=>[]) 213 [ag p,aa g,aa i] w a)=(
 ∃x,ae A2 211 [ag p] w (.bool x)/\((!!x)=true->True)/\((!(!x|| !gI g||decide (i<0)))=true->p.isSome=true)/\((!(!x|| !gI g||decide (i<0)))=true->p.isSome=true)/\aj w (some !(!x|| !gI g||decide (i<0))) (ad p 2560) aS λ(b:Int)=>aI (!x|| !gI g||decide (i<0)||decide (i>=b)) (au w (a none)) (p.isSome=true/\p.isSome=true/\((ad p 0).isSome=true/\0<=aZ .i64 g 1/\aZ .i64 g 1<(↑16:Int))/\((ad (ad p 0) ((aZ .i64 g 1).toNat*160)).isSome=true/\0<=i/\i<(↑32:Int))/\(ad (ad (ad p 0)
 ((aZ .i64 g 1).toNat*160)) (i.toNat*5)).isSome=true/\aj w none (ad (ad (ad p 0) ((aZ .i64 g 1).toNat*160)) (i.toNat*5)) (.agg [.int .i64,.int .i64,.int .i64,.bool,.bool]) λ(x:Int×Int×Int×Bool×Bool×Unit)=>aI (x.1==0&&(x.2.1==0&&(x.2.2.1==0&&(x.2.2.2.1==false&&(x.2.2.2.2.1==false&&true))))) (au w (a none)) (au w λw1=>a (ad (ad (ad p 0) ((aZ .i64 g 1).toNat*160)) (i.toNat*5)) w1))):=by kernel_rfl
def uE:Nat->a6:=(λ|2=>[(10,Go.RX.El.one (Go.RX.Sc.int B1))]| _=>[])
theorem Rk (p:Option AC) (g:Int) (w:A1) (a:Int->A1->Prop):(aK R1 uE 245 [ag p,aa g] w a)=(
 cN p 2560 w λx=> ∃(I:Nat->Int×Unit->A1->Prop),(∃n, ∀w1,Ext w w1->I n (0,()) w1)/\ ∀(n:Nat) (s:Int×Unit) (w1:A1),I n s w1->aI (decide (s.1<x)) (∃(x:Option AC),ae A2 213 [ag p,aa g,aa s.1] w1 (ag x)/\aI x.isNone (au w1 (a s.1)) (∀b,Ext w1 b-> ∃(c:Nat),c<n/\I c (aH .i64 s.1 1,()) b)) (au w1 (a (-1)))):=by kernel_rfl
theorem ZZ (p:Option AC) (g r:Int) (w:A1) (a:Int->A1->Prop):(aK R1 (λ_=>[]) 229 [ag p,aa g,aa r] w a)=(
 ∃x,ae A2 211 [ag p] w (.bool x)/\aI (!x) (au w (a 10)) (True/\((!!gI g)=true->True)/\aI (!gI g|| !gI r||g==r) (au w (a 1)) (au w (a 0)))):=by kernel_rfl
theorem Vs (p:Option AC) (w:A1) (a:Int->A1->Prop):(aK R1 (λ_=>[]) 231 [ag p] w a)=(
 ∃x,ae A2 211 [ag p] w (.bool x)/\aI (!x) (au w (a 10)) (au w (a 4))):=by kernel_rfl
theorem Z0 (p:Option AC) (g:Int) (x1 e f:Int) (h i:Bool) (w:A1) (d:Int×Int×Unit->A1->Prop):(aK R1 (λ_=>[]) 230 [ag p,aa g,.agg ⟨[aa x1,aa e,aa f,.bool h,.bool i]⟩] w d)=(
 aN w ⟨[aa x1,aa e,aa f,.bool h,.bool i]⟩ 217 λb a=> ∃(x:Int),ae A2 245 [ag p,aa g] a (aa x)/\aI (x== -1) (au a (d (0,3,()))) (aj a none (af b) (.agg [.int .i64,.int .i64,.int .i64,.bool,.bool]) λ(c:Int×Int×Int×Bool×Bool×Unit)=>p.isSome=true/\p.isSome=true/\((ad p 0).isSome=true/\0<=aZ .i64 g 1/\aZ .i64 g 1<(↑16:Int))/\((ad (ad p 0) ((aZ .i64 g 1).toNat*160)).isSome=true/\0<=x/\x<(↑32:Int))/\aC a (ad (ad (ad p 0) ((aZ .i64 g
 1).toNat*160)) (x.toNat*5)) [aa c.1,aa c.2.1,aa c.2.2.1,.bool c.2.2.2.1,.bool c.2.2.2.2.1] λa=>au a (d (x,0,())))):=by kernel_rfl
theorem Rl (p:Option AC) (g r:Int) (w:A1) (a:Int×Int×Unit->A1->Prop):(aK R1 (λ_=>[]) 185 [ag p,aa g,aa r] w a)=(
 ∃(x:Int),ae A2 229 [ag p,aa g,aa r] w (aa x)/\aI (x != 0) (au w (a (0,x,()))) (az A2 230 (.bu [.one (.int .i64),.one (.int .i64)]) [ag p,aa g,.agg ⟨[aa 1,aa r,aa 0,.bool false,.bool false]⟩] w λ(x:Int×Int×Unit) b=>au b (a (x.1,x.2.1,())))):=by kernel_rfl
theorem Rm (p:Option AC) (g r i:Int) (w:A1) (a:Int×Int×Unit->A1->Prop):(aK R1 (λ_=>[]) 186 [ag p,aa g,aa r,aa i] w a)=(
 ∃(x:Int),ae A2 229 [ag p,aa g,aa r] w (aa x)/\aI (x != 0) (au w (a (0,x,()))) (∃(x:Option AC),ae A2 213 [ag p,aa r,aa i] w (ag x)/\aI x.isNone (au w (a (0,4,()))) (cN x 0 w λd=>aI (d==2) (au w (a (0,6,()))) (cN x 1 w λe=>aI (e != g) (au w (a (0,7,()))) (az A2 230 (.bu [.one (.int .i64),.one (.int .i64)]) [ag p,aa g,.agg ⟨[aa 2,aa r,aa i,.bool false,.bool false]⟩] w λ(b:
 Int×Int×Unit) c=>aI (b.2.1==0) (x.isSome=true/\x.isSome=true/\aC c (ad x 0) [aa 2] λc=>x.isSome=true/\x.isSome=true/\aC c (ad x 2) [aa b.1] λc=>au c (a (b.1,b.2.1,()))) (au c (a (b.1,b.2.1,())))))))):=by kernel_rfl
theorem Rn (p:Option AC) (g i:Int) (w:A1) (a:Int->A1->Prop):(aK R1 (λ_=>[]) 187 [ag p,aa g,aa i] w a)=(
 ∃(x:Option AC),ae A2 213 [ag p,aa g,aa i] w (ag x)/\aI x.isNone (∃(x:Int),ae A2 231 [ag p] w (aa x)/\au w (a x)) (cN x 0 w λc=>aI (c != 2) (au w (a 6)) (cN x 1 w λd=>cN x 2 w λx=> ∃(b:Option AC),ae A2 213 [ag p,aa d,aa x] w (ag b)/\b.isSome=true/\b.isSome=true/\aC w (ad b 3) [.bool true] λe=>au e (a 0)))):=by kernel_rfl
def uF:Nat->a6:=(λ|5=>[(5,Go.RX.El.one Go.RX.Sc.slice),(15,Go.RX.El.one (Go.RX.Sc.int B1))]| _=>[])
theorem Ro (p:Option AC) (g:Int) (w:A1) (e:Option AC×Nat×Nat->A1->Prop):(aK R1 uF 232 [ag p,aa g] w e)=(
 ∃x,ae A2 211 [ag p] w (.bool x)/\aI (!x) (au w (e (none,0,0))) (cN p 2560 w λx=> ∃(I:Nat->(Option AC×Nat×Nat)×Int×Unit->A1->Prop),(∃n, ∀w1,Ext w w1->I n ((none,0,0),0,()) w1)/\ ∀(n:Nat) (s:(Option AC×Nat×Nat)×Int×Unit) (w1:A1),I n s w1->aI (decide (s.2.1<x)) (∃(x:Option AC),ae A2 213 [ag p,aa g,aa s.2.1] w1 (ag x)/\((!x.isNone)=true->x.isSome=true)/\((!x.isNone)=true->x.isSome=true)/\aj w1 (some !x.isNone) (ad x 3) qO λd=>
 ((!x.isNone&&d)=true->x.isSome=true)/\((!x.isNone&&d)=true->x.isSome=true)/\aj w1 (some (!x.isNone&&d)) (ad x 4) qO λh=>aI (!x.isNone&&d&& !h) (aN w1 ⟨[aa s.2.1]⟩ 3 λb f=> ∀w1,Ext f w1->mF w1 3 1 8 ⟨[aa 0]⟩ (s.1.1,s.1.2.1,s.1.2.2) (some ⟨b,0,none⟩,1,1) λ(r:Option AC×Nat×Nat) f=> ∀a,Ext f a-> ∃(c:Nat),c<n/\I c ((r.1,r.2.1,r.2.2),aH .i64 s.2.1 1,()) a) (∀a,Ext w1 a-> ∃(c:Nat),c<n/\I c ((s.1.1,s.1.2.1,s.1.2.2),aH .i64 s.2.1 1,()) a)) (au w1 (e
 (s.1.1,s.1.2.1,s.1.2.2))))):=by kernel_rfl
theorem Rq (p:Option AC) (g:Int) (w:A1) (c:Int×Bool×Unit->A1->Prop):(aK R1 (λ_=>[]) 188 [ag p,aa g] w c)=(
 az A2 232 (.el eY) [ag p,aa g] w λx a=>aI ((↑x.2.1:Int)==0) (au a (c (0,false,()))) ((x.1.isSome=true/\(0:Int)<=0/\0<(↑x.2.1:Int))/\aU a (ad x.1 0) λd=> ∃(b:Option AC),ae A2 213 [ag p,aa g,aa d] a (ag b)/\b.isSome=true/\b.isSome=true/\aC a (ad b 3) [.bool false] λa=>(x.1.isSome=true/\(0:Int)<=0/\0<(↑x.2.1:Int))/\aU a (ad x.1 0) λx=>au a (c (x,true,())))):=by kernel_rfl
theorem LF (p:Option AC) (g i:Int) (w:A1) (c:Int->A1->Prop):(aK R1 (λ_=>[]) 189 [ag p,aa g,aa i] w c)=(
 ∃(x:Option AC),ae A2 213 [ag p,aa g,aa i] w (ag x)/\aI x.isNone (∃(x:Int),ae A2 231 [ag p] w (aa x)/\au w (c x)) (cN x 0 w λd=>aI (d==2) (cN x 1 w λe=>cN x 2 w λf=> ∃(a:Option AC),ae A2 213 [ag p,aa e,aa f] w (ag a)/\a.isSome=true/\a.isSome=true/\aC w (ad a 0) [aa 1] λb=>a.isSome=true/\a.isSome=true/\aC b (ad a 2) [aa 0] λb=>x.isSome=true/\aC b x [aa 0,.int .i64
 0,aa 0,.bool false,.bool false] λb=>au b (c 0)) (x.isSome=true/\aC w x [aa 0,aa 0,aa 0,.bool false,.bool false] λb=>au b (c 0)))):=by kernel_rfl
def uG:Nat->a6:=(λ|5=>[(5,Go.RX.El.one (Go.RX.Sc.int B1)),(22,Go.RX.El.one (Go.RX.Sc.int B1))]|11=>[(5,Go.RX.El.one (Go.RX.Sc.int B1)),(7,Go.RX.El.one (Go.RX.Sc.int B1))]|14=>[(5,Go.RX.El.one (Go.RX.Sc.int B1)),(41,Go.RX.El.one (Go.RX.Sc.int B1))]| _=>[])
theorem Rs (p:Option AC) (g:Int) (w:A1) (h:Int->A1->Prop):(aK R1 uG 170 [ag p,aa g] w h)=(
 ∃x,ae A2 211 [ag p] w (.bool x)/\((!!x)=true->True)/\aI (!x|| !gI g) (au w (h 0)) (cN p 2560 w λx=> ∃(I:Nat->Int×Int×Unit->A1->Prop),(∃n, ∀w1,Ext w w1->I n (0,0,()) w1)/\ ∀(n:Nat) (s:Int×Int×Unit) (w1:A1),I n s w1->aI (decide (s.2.1<x)) (az A2 189 (.el aS) [ag p,aa g,aa s.2.1] w1 λ(x:Int) e=>aI (x==0) (∀a,Ext e a-> ∃(b:Nat),b<n/\I b (aH .i64 s.1 1,aH .i64 s.2.1 1,()) a) (∀a,Ext e a-> ∃(b:Nat),b<n/\I b (s.1,aH .i64 s.2.1 1,
 ()) a)) (∃(I:Nat->Int×Int×Unit->A1->Prop),(∃n, ∀d,Ext w1 d->I n (s.1,1,()) d)/\ ∀(n:Nat) (s:Int×Int×Unit) (w1:A1),I n s w1->aI (decide (s.2.1<=16)) (cN p 2560 w1 λx=> ∃(f:Nat->Int×Int×Unit->A1->Prop),(∃n, ∀d,Ext w1 d->f n (s.1,0,()) d)/\ ∀(i:Nat) (c:Int×Int×Unit) (w1:A1),f i c w1->aI (decide (c.2.1<x)) (∃(x:Option AC),ae A2 213 [ag p,aa s.2.1,aa c.2.1] w1 (ag x)/\((!x.isNone)=true->x.isSome=true)/\
 ((!x.isNone)=true->x.isSome=true)/\aj w1 (some !x.isNone) (ad x 1) aS λ(j:Int)=>aI (!x.isNone&&j==g) (x.isSome=true/\aC w1 x [aa 0,aa 0,aa 0,.bool false,.bool false] λe=> ∀a,Ext e a-> ∃(b:Nat),b<i/\f b (aH .i64 c.1 1,aH .i64 c.2.1 1,()) a) (∀a,Ext w1 a-> ∃(b:Nat),b<i/\f b (c.1,aH .i64 c.2.1 1,()) a)) (∀a,Ext w1 a-> ∃(b:Nat),b<n/\I b (c.1,aH .i64 s.2.1 1,()) a)) (au w1 (h s.1))))):=by kernel_rfl
theorem Jv {ss:List Sc} {xs:List (iA ss)} {rest:List AL} {k f:Nat} {x:iA ss} (a:xs[k]? =some x) (b:f<ss.length):(flat (.agg ss) xs++rest)[k*ss.length+f]? =(a_ ss x)[f]? :=by
 induction xs generalizing k with
 |nil=>simp at a
 |cons y ys c=>
  cases k with
  |zero=>
   simp at a;have d:f<(a_ ss y).length:=by rw[cD];exact b
   simp only[Gi,B3];show((a_ ss y++flat (.agg ss) ys)++rest)[f]? = _
   grind
  |succ k=>
   show((a_ ss y++flat (.agg ss) ys)++rest)[(k+1)*ss.length+f]? = _;rw[DM,GI (by rw[cD,FK];omega),cD]
   grind
theorem BC {ss:List Sc} {xs:List (iA ss)} {rest:List AL} {k f:Nat} {x y:iA ss} {v:AL} (b:xs[k]? =some x) (c:f<ss.length) (d:a_ ss y=(a_ ss x).set f v):(flat (.agg ss) xs++rest).set (k*ss.length+f) v=flat (.agg ss) (xs.set k y)++rest:=by
 induction xs generalizing k with
 |nil=>simp at b
 |cons z a e=>
  cases k with
  |zero=>
   have g:f<(a_ ss z).length:=by rw[cD];exact c
   simp only[Gi,B3];show((a_ ss z++flat (.agg ss) a)++rest).set f v=(a_ ss y++flat (.agg ss) a)++rest
   grind
  |succ k=>
   show((a_ ss z++flat (.agg ss) a)++rest).set _ v=(a_ ss z++flat _ _)++rest;rw[DM,List.set_append_right _ _ (by rw[cD,FK];omega),cD]
   grind
abbrev gE (room:Int) (ps:List PT):List AL:=flat eQ ps++[aa room]
def ix (g i:Int):Nat:=(g - 1).toNat*32+i.toNat
def s6 (room g i:Int):Bool:=gI g&&(decide (0<=i)&&decide (i<room))
def oX (room:Int) (ps:List PT) (g i:Int):Option Nat:=if s6 room g i=true/\ps.getD (ix g i) zP≠zP then some (ix g i) else none
structure okS (room:Int) (ps:List PT):Prop where
 len:ps.length=512
 lo:1<=room
 hi:room<=32
theorem nI {g:Int}:gI g=true<->1<=g/\g<=16:=by simp[gI]
theorem e_ {room g i:Int}:s6 room g i=true<->(1<=g/\g<=16)/\0<=i/\i<room:=by simp[s6,nI]
theorem pv {room g i:Int} (h:s6 room g i=true) (a:room<=32):ix g i<512:=by grind[e_,ix]
theorem PC {room g i g' a:Int} (h:s6 room g i=true) (h':s6 room g' a=true) (b:room<=32) (e:ix g i=ix g' a):g=g'/\i=a:=by grind[e_,ix]
theorem okS.get {room:Int} {ps:List PT} (h:okS room ps) {k:Nat} (a:k<512):ps[k]? =some (ps.getD k zP):=by
 rw[Az,Ap (by rw[h.len];grind)];rfl
theorem okS.set {room:Int} {ps:List PT} (h:okS room ps) (k:Nat) (x:PT):okS room (ps.set k x):=⟨by rw[Eo];exact h.len,h.lo,h.hi⟩
theorem fK {room:Int} {ps:List PT} {g i:Int} {k:Nat} (h:oX room ps g i=some k):s6 room g i=true/\k=ix g i/\ps.getD k zP≠zP:=by grind[oX]
theorem qi {room:Int} {ps:List PT} (h:okS room ps):k9 (gE room ps) (0+2560) (.one (.int .i64))=some room:=by
 have:(gE room ps)[2560]? =some (aa room):=by
  rw[GI (by rw[aG,h.len];decide),aG,h.len];rfl
 show(match (gE room ps)[0+2560]? with|some v=>(Sc.int _).proj v|none=>none)=some room;rw[this];rfl
theorem isZ (x:PT):(x.fst==0&&(x.snd.fst==0&&(x.snd.snd.fst==0&&(x.snd.snd.snd.fst==false&&(x.snd.snd.snd.snd.fst==false&&true)))))=decide (x=zP):=by
 obtain⟨a,b,c,d,e,u⟩:=x;rw[IR];simp[zP]
theorem rK {room:Int} {ps:List PT} {k f:Nat} {x:PT} (a:ps[k]? =some x) (b:f<5) {s:Sc} {y:s.T} (c:(match (a_ sQ x)[f]? with|some v=>s.proj v|none=>none)=some y):k9 (gE room ps) (k*5+f) (.one s)=some y:=by
 show(match (gE room ps)[k*5+f]? with|some v=>s.proj v|none=>none)=some y;have:=Jv (ss:=sQ) (rest:=[aa room]) a b
 simp_all
section
variable {D G:List Nat} {w0 w:A1} {L:List (Nat×List AL)}
theorem aC.rK (j:Nat) (H:aM D G w0 w L) {bp k f:Nat} {room:Int} {ps:List PT} {x:PT} (y:PT) {v:AL} {K:A1->Prop} (a:L[j]? =some (bp,gE room ps)) (b:ps[k]? =some x) (c:f<5) (hv:v.oneCell'=true) (d:a_ sQ y=(a_ sQ x).set f v)
 (g: ∀w1,aM D G w0 w1 (L.set j (bp,gE room (ps.set k y)))->K w1):aC w (ad (some ⟨bp,k*5,none⟩) f) [v] K:=by
 refine aC.fS j H a hv ?_ λw1 h1=>g w1 ?_
 ·rw[Gj];have:(flat eQ ps).length=ps.length*5:=aG eQ ps
  grind
 ·have e:(gE room ps).set _ v=gE room _:=BC b c d
  grind
end
section
variable {w:A1} {bp:Nat} {room:Int} {ps:List PT}
theorem pP (h:bK w bp (gE room ps)) (a:okS room ps):aE A2 211 (.el (.one .bool)) [ag (af bp)] w (λx w'=>x=true/\Ext w w'):=by
 refine ai (AM (Rj _ w _) ?_);refine⟨λ_=>rfl,λ_=>rfl,aj.k_ (At.start [] w) h (by simp) (qi a) λw1 h1=>⟨?_,h1⟩⟩;have:=a.lo
 grind
def cw (bp:Nat) (room:Int) (ps:List PT) (g i:Int):Option AC:=(oX room ps g i).map λk=>⟨bp,k*5,none⟩
theorem Eh (h:bK w bp (gE room ps)) (a:okS room ps) (g i:Int):aE A2 213 (.el (.one .ptr)) [ag (af bp),aa g,aa i] w (λx w'=>x=cw bp room ps g i/\Ext w w'):=by
 refine ai (C:=R1) (aR:=λ_=>[]) (AM (OX _ g i w _) ?_);refine⟨true,ae.of (s:= .el (.one .bool)) λw' h'=>pP (h.ext h') a,λ_=>trivial,λ_=>rfl,λ_=>rfl,aj.k_ (At.start [] w) h (by simp) (qi a) ?_⟩;have p:=a.lo;have d:=a.hi;refine ab (λc w1 h1=>⟨?_,h1⟩) (λc=>?_)
 ·have f: ¬ s6 room g i=true:=by
   rw[e_];intro j;have k:gI g=true:=nI.2 j.1;rw[k] at c;simp at c;omega
  unfold cw oX;rw[ao (λhc=>f hc.1)];rfl
 ·have b:s6 room g i=true:=by
   grind[e_,nI,gI]
  have q:=e_.1 b;have l:=pv b d;have m:=a.get l;have es:aZ .i64 g 1=g - 1:=bE (by omega) (by omega);rw[es];have n:ad (ad (ad (af bp) 0) ((g - 1).toNat*160)) (i.toNat*5)=some ⟨bp,ix g i*5,none⟩:=by
   rw[aW,aW,aW];unfold ix;congr 2;omega
  have o:ad (ad (af bp) 0) ((g - 1).toNat*160)=some ⟨bp,0+0+(g - 1).toNat*160,none⟩:=by rw[aW,aW]
  rw[n,o];refine⟨rfl,rfl,⟨rfl,by omega,by omega⟩,⟨rfl,by omega,by omega⟩,rfl,aj.of (ps.getD (ix g i) zP) ?_ ?_⟩
  ·have:=fZ (e:=eQ) (rest:=[aa room]) h m;rw[aW,B3] at this;exact this
  ·rw[isZ];refine ab (λc2 w1 h1=>⟨?_,h1⟩) (λc2 w1 h1=>⟨?_,h1⟩)
   ·unfold cw oX
    grind
   ·unfold cw oX;rw[av ⟨b,of_decide_eq_false c2⟩];rfl
def qP (g r:Int):Int:=if !gI g|| !gI r||g==r then 1 else 0
theorem Z3 (h:bK w bp (gE room ps)) (a:okS room ps) (g r:Int):aE A2 229 (.el (.one (.int .i64))) [ag (af bp),aa g,aa r] w (λx w'=>x=qP g r/\Ext w w'):=by
 refine ai (C:=R1) (aR:=λ_=>[]) (AM (ZZ _ g r w _) ?_);refine⟨true,ae.of (s:= .el (.one .bool)) λw' h'=>pP (h.ext h') a,an rfl ⟨trivial,λ_=>trivial,ab (λc w1 h1=>⟨?_,h1⟩) (λc w1 h1=>⟨?_,h1⟩)⟩⟩
 ·unfold qP;rw[av c]
 ·unfold qP;grind
theorem Vt (h:bK w bp (gE room ps)) (a:okS room ps):aE A2 231 (.el (.one (.int .i64))) [ag (af bp)] w (λx w'=>x=4/\Ext w w'):=by
 refine ai (C:=R1) (AM (Vs _ w _) ?_);exact⟨true,ae.of λw' h'=>pP (h.ext h') a,an rfl λw1 h1=>⟨rfl,h1⟩⟩
def cz (room:Int) (ps:List PT) (g:Int):Int:=match (Cp room.toNat).find? λ(i:Nat)=>(oX room ps g i).isNone with
 |some i=>(i:Int)
 |none=> -1
theorem Ru (h:bK w bp (gE room ps)) (b:okS room ps) (g:Int):aE A2 245 (.el (.one (.int .i64))) [ag (af bp),aa g] w (λx w'=>x=cz room ps g/\Ext w w'):=by
 refine ai (C:=R1) (aR:=uE) (AM (Rk _ g w _) ?_);have l:=b.lo;have m:=b.hi;refine⟨rfl,rfl,aj.k_ (At.start [] w) h (by simp) (qi b) ?_⟩;refine⟨λq s w'=> ∃i:Nat,s.1=i/\q+i=room.toNat/\(∀j:Nat,j<i->(oX room ps g j).isNone=false)/\Ext w w',⟨room.toNat,λw1 h1=>⟨0,rfl,rfl,λj e=>absurd e (by omega),h1⟩⟩,?_⟩;rintro q ⟨n,u⟩ w1 ⟨i,hi,o,k,d⟩;simp only at hi;subst hi;dsimp only;refine ab (λc=>?_) (λc f a=>⟨?_,d.trans a⟩)
 ·have p:i<room.toNat:=by simp at c;omega
  refine⟨_,ae.of (s:= .el (.one .ptr)) λw' h'=>Eh ((h.ext d).ext h') b g i,ab (λc2 f a=>⟨?_,d.trans a⟩) (λc2 f a=>⟨q - 1,by omega,i+1,by rw[aw (by omega) (by omega)];rfl,by omega,λj e=>?_,d.trans a⟩)⟩
  ·grind[oX,cw,Cp,I1,cz]
  ·rcases Nat.lt_or_ge j i with h1|h1
   ·exact k j h1
   ·obtain rfl:j=i:=by omega
    unfold cw at c2;simpa using c2
 ·have:(Cp room.toNat).find? (λ(i:Nat)=>(oX room ps g i).isNone)=none:=by
   grind
  unfold cz;rw[this]
theorem mX {room:Int} {ps:List PT} {g:Int} (a:gI g=true) (h:cz room ps g≠ -1):s6 room g (cz room ps g)=true/\oX room ps g (cz room ps g)=none:=by
 unfold cz at h ⊢;split
 ·rename_i hi;rw[I1] at hi;have:=GG.1 hi.2.1;exact⟨e_.2 ⟨nI.1 a,by omega⟩,by simp_all⟩
 grind
end
end Go.Proofs.YtlcenllcmeebhaaGreat.Po
namespace Go.Proofs.YtlcenllcmeebhaaGreat
set_option maxRecDepth 100000
open Go.RX
theorem AJ {L Ls:List (Nat×List AL)} {k:Nat} {x:Nat×List AL} (h:L[k]? =some x):(L++Ls)[k]? =some x:=by
 grind
theorem Co.len {Ls:List (Nat×List AL)} {sl:Option AC×Nat×Nat} {xs:List Int} (h:Co Ls sl xs):sl.2.1=xs.length:=by
 rcases h with ⟨rfl,rfl,rfl⟩|⟨bs,c,rest,rfl, _⟩
 ·rfl
 ·rfl
theorem Co.rd {D G:List Nat} {w0 w:A1} {L Ls:List (Nat×List AL)} {sl:Option AC×Nat×Nat} {xs:List Int} (h:Co Ls sl xs) (H:aM D G w0 w L) (a: ∀y∈Ls,y∈L) {i:Nat} {x:Int} (b:xs[i]? =some x):sl.1.isSome=true/\cC w (ad sl.1 (i*1)) (.one (.int .i64)) x:=by
 rcases h with ⟨rfl,rfl,rfl⟩|⟨bs,c,rest,rfl,rfl, _⟩
 ·grind
 ·exact⟨rfl,fZ (H.dj _ (a _ DD)) b⟩
section
variable {D G:List Nat} {w0 w:A1} {L:List (Nat×List AL)} {bg br c:Nat} {gs:List GT} {rest:List AL}
theorem GY {Ls:List (Nat×List AL)} {a:Nat} {x:Int} {xs:List Int} {sl:Option AC×Nat×Nat} (H:aM D G w0 w ((a,[aa x])::(L++Ls))) (f:Co Ls sl xs) (hb:xs.length<=900000) {t:B4}
 {R:Option AC×Nat×Nat->A1->Prop} (k: ∀b d w',Co b d (xs++[x])->aM D G w0 w' (L++b)->R d w'):
 mF w t 1 8 ⟨[aa 0]⟩ sl (some ⟨a,0,none⟩,1,1) R:=by
 refine aM.abB (e:=eI) (H.perm (.cons _ FU)) (by simp) f rfl rfl rfl (by grind) λbs c rest w' g h i=>k _ _ w' (.inr ⟨bs,c,rest,rfl,rfl,g,h⟩) (i.perm ?_);simp
theorem LG (H:aM D G w0 w L) (j r:Nat) (h:L[j]? =some (bg,mG br gs.length c)) (s:L[r]? =some (br,flat eG gs++rest)) (h0:0<gs.length) (J:gs.length<=64) {K:Option AC×Nat×Nat->A1->Prop}
 (k: ∀sl Ls a,Co Ls sl (dk gs fc gs.length)->aM D G w0 a (L++Ls)->K sl a):
 az A2 208 (.el (.one .slice)) [ag (af bg),.func (.func 210) #[] #[]] w K:=by
 refine az.go H λw1 H=>ai (C:=G3) (aR:=rl) (AM (Lj _ w1 K) ?_);have t: ∀{w:A1} {L1:List (Nat×List AL)},aM D G w0 w (L++L1)->bK w bg (mG br gs.length c)/\bK w br (flat eG gs++rest):=λ{w L1} H=>⟨H.get (AJ h),H.get (AJ s)⟩;refine⟨_,pO (H.get h) h0,an rfl ⟨rfl,rfl,aj.cw j H h rfl ?_⟩⟩;refine⟨λn v w'=> ∃(m:Nat) (Ls:List (Nat×List AL)),v.2.1=(m:Int)/\n+m=gs.length/\Co Ls v.1 (dk gs fc m)/\aM D G w0 w' (L++Ls),⟨gs.length,λa y=>⟨0,[],rfl,rfl,.inl ⟨rfl,rfl,rfl⟩,by rw[CB];exact H.ext y⟩⟩,?_⟩;clear H;rintro n ⟨sl,v,u⟩ a ⟨m,Ls,e,M,f,H⟩;dsimp only at e f ⊢;subst e;refine ab (λi=>?_) (λi=>?_)
 ·have o:m<gs.length:=by simpa using i
  have p:gs[m]? =some (gs.getD m zG):=by
   grind
  have z:aH .i64 (m:Int) 1=((m+1:Nat):Int):=by rw[aw (by omega) (by omega)];omega
  have g:=sN gs fc m;obtain⟨x,A⟩: ∃x,x=gs.getD m zG:=⟨_,rfl⟩;rw[<-A] at p g;rw[z];have N:=qx gs fc m;refine⟨⟨rfl,by omega,by omega⟩,aj.of x (fZ (e:=eG) (t H).2 p) (aN.go H λb q H=>aC.all 0 H rfl rfl rfl λO H=>aj.at 0 H rfl (show _=some x from rfl) ?_)⟩;refine⟨trivial,?_⟩;refine ab (λd=>aN.go H λP Q H=>λB l=>?_) (λd=>λB l=>⟨n - 1,by omega,m+1,Ls,rfl,by omega,?_,?_⟩)
  ·have d:fc x=true:=d;rw[av d] at g;have H:=H.ext l;have H:=H.sub (.cons_cons _ (AY _ _));refine GY H f (by omega) λE R S F H=>λT I=>⟨n - 1,by omega,m+1,E,rfl,by omega,?_,H.ext I⟩;rw[g];exact F
  ·have d: ¬ fc x=true:=by
    have d:fc x=false:=d;rw[d];decide
   rw[g,ao d,CB];exact f
  ·exact(H.sub (AY _ _)).ext l
 ·have o:m=gs.length:=by
   have: ¬ m<gs.length:=by simpa using i
   omega
  subst o;exact au.go H λq H=>k sl Ls q f H
theorem LH (H:aM D G w0 w L) (j z:Nat) (f:L[j]? =some (bg,mG br gs.length c)) (A:L[z]? =some (br,flat eG gs++rest)) (h0:0<gs.length) (P:gs.length<=64) {bc:Nat} {o q t:Int} (hc:(bc,[aa o,aa q,aa t,.bool false,aa 0])∈L) {K:Option AC×Nat×Nat->A1->Prop}
 (k: ∀sl Ls a,Co Ls sl (dk gs (km o q t) gs.length)->aM D G w0 a (L++Ls)->K sl a):
 az A2 208 (.el (.one .slice)) [ag (af bg),.func (.func 226) #[] #[ag (af bc)]] w K:=by
 refine az.go H λw1 H=>ai (C:=G3) (aR:=rm) (AM (Ll _ _ w1 K) ?_);have B: ∀{w:A1} {L1:List (Nat×List AL)},aM D G w0 w (L++L1)->bK w bg (mG br gs.length c)/\bK w br (flat eG gs++rest):=λ{w L1} H=>⟨H.get (AJ f),H.get (AJ A)⟩;refine⟨_,pO (H.get f) h0,an rfl ⟨rfl,rfl,aj.cw j H f rfl ?_⟩⟩;refine⟨λn v w'=> ∃(m:Nat) (Ls:List (Nat×List AL)),v.2.1=(m:Int)/\n+m=gs.length/\Co Ls v.1 (dk gs (km o q t) m)/\aM D G w0 w' (L++Ls),⟨gs.length,λa E=>⟨0,[],rfl,rfl,.inl ⟨rfl,rfl,rfl⟩,by rw[CB];exact H.ext E⟩⟩,?_⟩;clear H;rintro n ⟨sl,v,u⟩ a ⟨m,Ls,e,Q,g,H⟩;dsimp only at e g ⊢;subst e;refine ab (λh=>?_) (λh=>?_)
 ·have p:m<gs.length:=by simpa using h
  have r:gs[m]? =some (gs.getD m zG):=by
   grind
  have F:aH .i64 (m:Int) 1=((m+1:Nat):Int):=by rw[aw (by omega) (by omega)];omega
  have i:=sN gs (km o q t) m;obtain⟨x,I⟩: ∃x,x=gs.getD m zG:=⟨_,rfl⟩;rw[<-I] at r i;rw[F];have R:=qx gs (km o q t) m;refine⟨⟨rfl,by omega,by omega⟩,aj.of x (fZ (e:=eG) (B H).2 r) (aN.go H λb s H=>aC.all 0 H rfl rfl rfl λS H=>aj.at 0 H rfl (show _=some x from rfl) ?_)⟩;refine⟨_,Vr (H.dj _ (Bx _ (DR _ hc))) x,?_⟩;refine ab (λd=>aN.go H λJ T H=>λy l=>?_) (λd=>λy l=>⟨n - 1,by omega,m+1,Ls,rfl,by omega,?_,?_⟩)
  ·have d:(km o q t) x=true:=d;rw[av d] at i;have H:=H.ext l;have H:aM D G w0 y ((J,[aa (m:Int)])::(L++Ls)):=H.sub (.cons_cons _ (AY _ _));refine GY H g (by omega) λM U V N H=>λW O=>⟨n - 1,by omega,m+1,M,rfl,by omega,?_,H.ext O⟩;rw[i];exact N
  grind
  ·exact(H.sub (AY _ _)).ext l
 ·have p:m=gs.length:=by
   have: ¬ m<gs.length:=by simpa using h
   omega
  subst p;exact au.go H λs H=>k sl Ls s g H
theorem LI (H:aM D G w0 w L) (j t:Nat) (f:L[j]? =some (bg,mG br gs.length c)) (y:L[t]? =some (br,flat eG gs++rest)) (h0:0<gs.length) (N:gs.length<=64) {bc:Nat} {g:Int} (hc:(bc,[aa g])∈L) {K:Option AC×Nat×Nat->A1->Prop}
 (k: ∀sl Ls a,Co Ls sl (dk gs (o8 g) gs.length)->aM D G w0 a (L++Ls)->K sl a):
 az A2 208 (.el (.one .slice)) [ag (af bg),.func (.func 209) #[] #[ag (af bc)]] w K:=by
 refine az.go H λw1 H=>ai (C:=G3) (aR:=rn) (AM (Ln _ _ w1 K) ?_);have z: ∀{w:A1} {L1:List (Nat×List AL)},aM D G w0 w (L++L1)->bK w bg (mG br gs.length c)/\bK w br (flat eG gs++rest):=λ{w L1} H=>⟨H.get (AJ f),H.get (AJ y)⟩;refine⟨_,pO (H.get f) h0,an rfl ⟨rfl,rfl,aj.cw j H f rfl ?_⟩⟩;refine⟨λn v w'=> ∃(m:Nat) (Ls:List (Nat×List AL)),v.2.1=(m:Int)/\n+m=gs.length/\Co Ls v.1 (dk gs (o8 g) m)/\aM D G w0 w' (L++Ls),⟨gs.length,λa A=>⟨0,[],rfl,rfl,.inl ⟨rfl,rfl,rfl⟩,by rw[CB];exact H.ext A⟩⟩,?_⟩;clear H;rintro n ⟨sl,v,u⟩ a ⟨m,Ls,e,O,h,H⟩;dsimp only at e h ⊢;subst e;refine ab (λi=>?_) (λi=>?_)
 ·have p:m<gs.length:=by simpa using i
  have q:gs[m]? =some (gs.getD m zG):=by
   grind
  have B:aH .i64 (m:Int) 1=((m+1:Nat):Int):=by rw[aw (by omega) (by omega)];omega
  have l:=sN gs (o8 g) m;obtain⟨x,E⟩: ∃x,x=gs.getD m zG:=⟨_,rfl⟩;rw[<-E] at q l;rw[B];have P:=qx gs (o8 g) m;refine⟨⟨rfl,by omega,by omega⟩,aj.of x (fZ (e:=eG) (z H).2 q) (aN.go H λb r H=>aC.all 0 H rfl rfl rfl λQ H=>aj.at 0 H rfl (show _=some x from rfl) ?_)⟩;refine⟨_,Rf (H.dj _ (Bx _ (DR _ hc))) x,?_⟩;refine ab (λd=>aN.go H λF R H=>λs o=>?_) (λd=>λs o=>⟨n - 1,by omega,m+1,Ls,rfl,by omega,?_,?_⟩)
  ·have d:(o8 g) x=true:=d;rw[av d] at l;have H:=H.ext o;have H:aM D G w0 s ((F,[aa (m:Int)])::(L++Ls)):=H.sub (.cons_cons _ (AY _ _));refine GY H h (by omega) λI S T J H=>λU M=>⟨n - 1,by omega,m+1,I,rfl,by omega,?_,H.ext M⟩;rw[l];exact J
  grind
  ·exact(H.sub (AY _ _)).ext o
 ·have p:m=gs.length:=by
   have: ¬ m<gs.length:=by simpa using i
   omega
  subst p;exact au.go H λr H=>k sl Ls r h H
theorem Cy (H:aM D G w0 w L) (a:Nat) (b:L[a]? =some (br,flat eG gs++rest)) {k:Nat} {x:GT} (c:gs[k]? =some x) {f:Nat} (d:f<5) {s:Sc} {y:s.T} (e:(match (a_ sG x)[f]? with|some v=>s.proj v|none=>none)=some y):cC w (ad (some ⟨br,k*5,none⟩) f) (.one s) y:=by
 rw[aW];refine dW (H.get b) ?_;have h:=Po.Jv (ss:=sG) (rest:=rest) c d;show(match (flat eG gs++rest)[k*5+f]? with|some v=>s.proj v|none=>none)=some y
 simp_all
theorem aaO (H:aM D G w0 w L) (a:Nat) (c:L[a]? =some (br,flat eG gs++rest)) {k:Nat} {x:GT} (b:gs[k]? =some x) {f:Nat} (d:f<5) {v:AL} (hv:v.oneCell'=true) (y:GT) (e:a_ sG y=(a_ sG x).set f v) {K:A1->Prop} (kk: ∀w1,aM D G w0 w1 (L.set a (br,flat eG (gs.set k y)++rest))->K w1):aC w (ad (some ⟨br,k*5,none⟩) f) [v] K:=by
 have g:=(Ar.1 b).1;refine aC.fS a H c hv ?_ λw1 h1=>kk w1 ?_
 ·rw[Gj,Ea,aG];show k*5+f<gs.length*5+rest.length;omega
 ·have h:=Po.BC (rest:=rest) b d e
  grind
theorem Z4 (h:bK w bg (mG br gs.length c)) (d:bK w br (flat eG gs++rest)) (h0:0<gs.length) (i:Int):
 aE A2 176 (.bu [eG,.one .bool]) [ag (af bg),aa i] w (λx w'=>x=(xF gs i,(l5 gs i).isSome,())/\Ext w w'):=by
 refine aQ (C:=G3) (aR:=λ_=>[]) (AM (ZQ _ i w _) ?_);have H:=At.start [] w;refine aN.go H λb f H=>?_;have a:=H.all;refine⟨_,I0 (h.ext a) (d.ext a) h0 i,?_⟩;unfold Cx Cw xF;cases g:l5 gs i with
 |none=>exact aA rfl (aC.all 0 H rfl rfl rfl λj H=>au.go H λl H=>aj.at 0 H rfl (show _=some zG from rfl) ⟨rfl,H.all⟩)
 |some k=>
  obtain⟨_, _, _,m, _⟩:=lD g;have n:cC f (some ⟨br,k*5,none⟩) eG (gs.getD k zG):=by
   have:=fZ (e:=eG) (d.ext a) m;rw[aW,B3] at this;exact this
  refine an rfl ⟨rfl,aj.of _ n (aC.all 0 H rfl rfl rfl λj H=>au.go H λl H=>aj.at 0 H rfl (show _=some (gs.getD k zG) from rfl) ⟨rfl,H.all⟩)⟩
theorem Rv (H:aM D G w0 w L) (j f:Nat) (p:L[j]? =some (bg,mG br gs.length c)) (l:L[f]? =some (br,flat eG gs++rest)) (h0:0<gs.length) (r: ∀x∈gs,0<=x.2.2.2.2.1/\x.2.2.2.2.1<=1000) (i g:Int) (b:Bool) {K:Int->A1->Prop}
 (k: ∀a,aM D G w0 a (L.set f (br,flat eG (eh gs i g b)++rest))->K (gZ gs i g b) a):
 az A2 181 (.el (.one (.int .i64))) [ag (af bg),aa i,aa g,.bool b] w K:=by
 refine az.go H λw1 H=>ai (C:=G3) (aR:=λ_=>[]) (AM (QI _ i g b w1 K) ?_);refine⟨_,I0 (H.get p) (H.get l) h0 i,?_⟩;have same:gZ gs i g b≠0-> ∀{a},aM D G w0 a L->aM D G w0 a (L.set f (br,flat eG (eh gs i g b)++rest)):=λh a H=>by
  unfold eh;rw[ao h,OH l];exact H
 have e:gZ gs i g b=match l5 gs i with
  |none=>4
  |some k=>if((gs.getD k zG).2.2.1 != g||b&& !(gs.getD k zG).2.2.2.1)=true then 7 else if(gs.getD k zG).2.2.2.2.1=1000 then 3 else 0:=rfl
 unfold Cx Cw;cases n:l5 gs i with
 |none=>
  rw[n] at e;dsimp only at e;rw[e] at k same;exact aA rfl (au.go H λa H=>k a (same (by decide) H))
 |some q=>
  obtain⟨v,y,s,m, _⟩:=lD n;rw[n] at e;dsimp only at e;obtain⟨x,o⟩: ∃x,x=gs.getD q zG:=⟨_,rfl⟩;rw[<-o] at e m;refine an rfl ⟨rfl,rfl,aj.of x.2.2.1 (Cy H f l m (by decide) rfl) ⟨λ_=>rfl,λ_=>rfl,aj.of x.2.2.2.1 (Cy H f l m (by decide) rfl) (ab (λd=>au.go H λa H=>?_) (λd=>?_))⟩⟩
  ·rw[av d] at e;rw[e] at k same;exact k a (same (by decide) H)
  ·rw[ao (by rw[d];decide)] at e;refine⟨rfl,rfl,aj.of x.2.2.2.2.1 (Cy H f l m (by decide) rfl) (ab (λd2=>au.go H λa H=>?_) (λd2=>?_))⟩
   ·grind
   ·rw[ao (by simpa using d2)] at e;have hb:=r x (F5 m);refine⟨rfl,rfl,aj.of x.2.2.2.2.1 (Cy H f l m (by decide) rfl) ⟨rfl,rfl,?_⟩⟩;rw[aw (by omega) (by omega)];refine aaO H f l m (by decide) rfl (fq x 1) rfl λa H=>au.go H λt H=>?_;have u:eh gs i g b=gs.set q (fq x 1):=by
     unfold eh;rw[av e, <-s, <-o]
    rw[e,u] at k;exact k t H
end
section
variable {D G:List Nat} {w0 w:A1} {L:List (Nat×List AL)} {bg br c:Nat} {gs:List GT} {rest:List AL}
theorem Rw (H:aM D G w0 w L) (j e:Nat) (o:L[j]? =some (bg,mG br gs.length c)) (f:L[e]? =some (br,flat eG gs++rest)) (h0:0<gs.length) (p: ∀x∈gs,0<=x.2.2.2.2.1/\x.2.2.2.2.1<=1000) (i g:Int) {K:Int->A1->Prop}
 (k: ∀a,aM D G w0 a (L.set e (br,flat eG (eR gs i g)++rest))->K (mz gs i g) a):
 az A2 182 (.el (.one (.int .i64))) [ag (af bg),aa i,aa g] w K:=by
 refine az.go H λw1 H=>ai (C:=G3) (aR:=λ_=>[]) (AM (QJ _ i g w1 K) ?_);refine⟨_,I0 (H.get o) (H.get f) h0 i,?_⟩;have same:mz gs i g≠0-> ∀{a},aM D G w0 a L->aM D G w0 a (L.set e (br,flat eG (eR gs i g)++rest)):=λh a H=>by
  unfold eR;rw[ao h,OH f];exact H
 have b:mz gs i g=match l5 gs i with
  |none=>4
  |some k=>if(gs.getD k zG).2.2.1≠g then 7 else if(gs.getD k zG).2.2.2.2.1=0 then 6 else 0:=rfl
 unfold Cx Cw;cases m:l5 gs i with
 |none=>
  rw[m] at b;dsimp only at b;rw[b] at k same;exact aA rfl (au.go H λa H=>k a (same (by decide) H))
 |some q=>
  obtain⟨u,v,r,l, _⟩:=lD m;rw[m] at b;dsimp only at b;obtain⟨x,n⟩: ∃x,x=gs.getD q zG:=⟨_,rfl⟩;rw[<-n] at b l;refine an rfl ⟨rfl,rfl,aj.of x.2.2.1 (Cy H e f l (by decide) rfl) (ab (λd=>au.go H λa H=>?_) (λd=>?_))⟩
  grind
  ·rw[ao (by simpa using d)] at b;refine⟨rfl,rfl,aj.of x.2.2.2.2.1 (Cy H e f l (by decide) rfl) (ab (λd2=>au.go H λa H=>?_) (λd2=>?_))⟩
   grind
   ·rw[ao (by simpa using d2)] at b;have hb:=p x (F5 l);refine⟨rfl,rfl,aj.of x.2.2.2.2.1 (Cy H e f l (by decide) rfl) ⟨rfl,rfl,?_⟩⟩;rw[bE (by omega) (by omega)];refine aaO H e f l (by decide) rfl (fq x (-1)) rfl λa H=>au.go H λs H=>?_;have t:eR gs i g=gs.set q (fq x (-1)):=by
     unfold eR;rw[av b, <-r, <-n]
    rw[b,t] at k;exact k s H
theorem HG (H:aM D G w0 w L) (j f:Nat) (n:L[j]? =some (bg,mG br gs.length c)) (g:L[f]? =some (br,flat eG gs++rest)) (h0:0<gs.length) (i o:Int) {K:Int->A1->Prop}
 (k: ∀a,aM D G w0 a (L.set f (br,flat eG (lu gs i o)++rest))->K (rh gs i o) a):
 az A2 184 (.el (.one (.int .i64))) [ag (af bg),aa i,aa o] w K:=by
 refine az.go H λw1 H=>ai (C:=G3) (aR:=λ_=>[]) (AM (HD _ i o w1 K) ?_);refine⟨_,I0 (H.get n) (H.get g) h0 i,?_⟩;have same:rh gs i o≠0-> ∀{a},aM D G w0 a L->aM D G w0 a (L.set f (br,flat eG (lu gs i o)++rest)):=λh a H=>by
  unfold lu;rw[ao h,OH g];exact H
 have b:rh gs i o=match l5 gs i with
  |none=>4
  |some k=>if(gs.getD k zG).1≠o then 7 else if(gs.getD k zG).2.2.2.2.1>0 then 9 else 0:=rfl
 unfold Cx Cw;cases m:l5 gs i with
 |none=>
  rw[m] at b;dsimp only at b;rw[b] at k same;exact aA rfl (au.go H λa H=>k a (same (by decide) H))
 |some q=>
  obtain⟨y,z,p,l, _⟩:=lD m;rw[m] at b;dsimp only at b;obtain⟨x,r⟩: ∃x,x=gs.getD q zG:=⟨_,rfl⟩;rw[<-r] at b l;refine an rfl ⟨rfl,rfl,aj.of x.1 (Cy H f g l (by decide) rfl) (ab (λd=>au.go H λa H=>?_) (λd=>?_))⟩
  grind
  ·rw[ao (by simpa using d)] at b;refine⟨rfl,rfl,aj.of x.2.2.2.2.1 (Cy H f g l (by decide) rfl) (ab (λd2=>au.go H λa H=>?_) (λd2=>?_))⟩
   grind
   ·rw[ao (by simpa using d2)] at b;refine⟨rfl,?_⟩;have s:q<gs.length:=(Ar.1 l).1;have t:(some (⟨br,q*5,none⟩:AC))=ad (af br) (q*5):=by rw[aW,B3]
    show aC w1 (some (⟨br,q*5,none⟩:AC)) _ _;rw[t];refine aC.flat (e:=eG) f H zG g rfl rfl s λa H=>au.go H λu H=>?_;have v:lu gs i o=gs.set q zG:=by
     unfold lu;rw[av b, <-p]
    rw[b,v] at k;exact k u H
theorem LJ (H:aM D G w0 w L) (j m:Nat) (s:L[j]? =some (bg,mG br gs.length c)) (p:L[m]? =some (br,flat eG gs++rest)) (h0:0<gs.length) (F:gs.length<=64) (o q t:Int) (b:Bool) {K:Int×Int×Unit->A1->Prop}
 (k: ∀f,aM D G w0 f (L.set m (br,flat eG (jV gs o q t b)++rest))->K (kx gs o q t,lx gs o q t,()) f):
 az A2 180 (.bu [.one (.int .i64),.one (.int .i64)]) [ag (af bg),aa o,aa q,aa t,.bool b] w K:=by
 refine az.go H λw1 H=>ai (C:=G3) (aR:=λ_=>[]) (AM (Lu _ o q t b w1 K) ?_);have same:lx gs o q t≠0-> ∀{f},aM D G w0 f L->aM D G w0 f (L.set m (br,flat eG (jV gs o q t b)++rest)):=λh f H=>by
  unfold jV;rw[ao h,OH p];exact H
 have v:lx gs o q t≠0->kx gs o q t=0:=λh=>ao h;refine⟨_,pO (H.get s) h0,an rfl ⟨trivial,λ_=>trivial,ab (λd=>au.go H λf H=>?_) (λd=>?_)⟩⟩
 ·have a:lx gs o q t=1:=av d;rw[v (by rw[a];decide),a] at k;rw[a] at same;exact k f (same (by decide) H)
 have a:lx gs o q t=if dk gs (km o q t) gs.length≠[] then 5 else if dk gs fc gs.length=[] then 3 else 0:=ao (by rw[d];decide);refine aN.go H λbc f H=>aC.all 0 H rfl rfl rfl λW H=>LH H (j+1) (m+1) s p h0 F (bc:=bc) (DD) λsl Ls X n H=>?_;obtain⟨sp,A,sc⟩:=sl;have B:A=(dk gs (km o q t) gs.length).length:=n.len;subst B;have H:=H.sub (DU _ Ls);refine ab (λd1=>au.go H λI H=>?_) (λd1=>?_)
 ·have d1:dk gs (km o q t) gs.length≠[]:=by
   intro e;rw[e] at d1;simp at d1
  rw[av d1] at a;rw[v (by rw[a];decide),a] at k;rw[a] at same;exact k I (same (by decide) (H.sub (AY _ _)))
 have d1: ¬ dk gs (km o q t) gs.length≠[]:=by
  simp_all
 rw[ao d1] at a;refine LG H (j+1) (m+1) s p h0 F λsl Ls I n H=>?_;obtain⟨sp,A,sc⟩:=sl;have B:A=(dk gs fc gs.length).length:=n.len;subst B;refine ab (λd2=>au.go H λJ H=>?_) (λd2=>?_)
 ·have d2:dk gs fc gs.length=[]:=by
   have:(dk gs fc gs.length).length=0:=by simpa using d2
   exact List.length_eq_zero_iff.1 this
  rw[av d2] at a;rw[v (by rw[a];decide),a] at k;rw[a] at same;exact k J (same (by decide) (H.sub ((DU L Ls).trans (AY _ _))))
 have d2: ¬ dk gs fc gs.length=[]:=by
  intro e;rw[e] at d2;simp at d2
 rw[ao d2] at a;have M:jV gs o q t b=gs.set (kx gs o q t).toNat (o,q,t,b,0,()):=av a;have N:kx gs o q t=(dk gs fc gs.length).headD 0:=av a;rw[M,a] at k;obtain⟨z,l,u⟩: ∃z l,dk gs fc gs.length=z::l:=List.exists_cons_of_ne_nil d2;have O:kx gs o q t=z:=by rw[N,u];rfl
 rw[O] at k;obtain⟨r,P, _,Q⟩:=qw.1 (by rw[u];exact DD:z∈dk gs fc gs.length);subst Q;rw[u] at n;have Y:(dk gs fc gs.length).length=l.length+1:=by rw[u];rfl
 have R: ∀{w:A1} {g:Nat×List AL},aM D G w0 w (g::(L++Ls))->sp.isSome=true/\cC w (ad sp 0) (.one (.int .i64)) (r:Int):=λ{w g} H=>by
  have h:=n.rd H (λy E=>Bx _ (Be _ E)) (i:=0) (x:=(r:Int)) rfl;exact⟨h.1,h.2⟩
 have S:(L++Ls)[j]? =some (bg,mG br gs.length c):=AJ s;have T:(L++Ls)[m]? =some (br,flat eG gs++rest):=AJ p;refine⟨rfl,aC.fS 0 H rfl rfl rfl λJ H=>?_⟩;refine⟨rfl,rfl,aj.cw (j+1) H S rfl ⟨by grind,aj.of _ (R H).2 (aj.at 0 H rfl (show _=some (o,q,t,b,0,()) from rfl) ⟨⟨rfl,by omega,by show(r:Int)<((gs.length:Nat):Int);omega⟩,?_⟩)⟩⟩;refine aC.flat (e:=eG) (m+1) H (o,q,t,b,0,()) T rfl rfl P λU H=>?_;have H:aM D G w0 U ((bc,[aa o,aa q,aa t,.bool b,aa 0])::((L++Ls).set m (br,flat eG (gs.set r (o,q,t,b,0,()))++rest))):=H;rw[GJ _ _ (Ar.1 p).1] at H;have h:=n.rd H (λy E=>Bx _ (Be _ E)) (i:=0) (x:=(r:Int)) rfl;refine⟨by grind,aj.of _ h.2 (au.go H λV H=>k V (H.sub ((DU _ Ls).trans (AY _ _))))⟩
theorem Rx (H:aM D G w0 w L) (j b:Nat) (B:L[j]? =some (bg,mG br gs.length c)) (q:L[b]? =some (br,flat eG gs++rest)) (h0:0<gs.length) (E:gs.length<=64) (S:j≠b) (g:Int) {K:Int->A1->Prop}
 (k: ∀n r,aM D G w0 r (L.set b (br,flat eG (cP gs g)++rest))->K n r):
 az A2 169 (.el (.one (.int .i64))) [ag (af bg),aa g] w K:=by
 refine az.go H λw1 H=>ai (C:=G3) (aR:=uD) (AM (QK _ g w1 K) ?_);refine aN.go H λbc r H=>LI H (j+1) (b+1) B q h0 E (bc:=bc) (DD) λsl Ls F s H=>?_;have H:aM D G w0 F ((bc,[aa g])::(L++Ls)):=H;have H:aM D G w0 F (L++Ls):=H.sub (AY _ _);obtain⟨sp,T,sc⟩:=sl;have U:T=(dk gs (o8 g) gs.length).length:=s.len;subst U;obtain⟨l,f⟩: ∃l,l=dk gs (o8 g) gs.length:=⟨_,rfl⟩;have hll:l.length<=64:=by rw[f];exact Du (qx _ _ _) E
 have I: ∀z∈l, ∃i:Nat,i<gs.length/\o8 g (gs.getD i zG)=true/\z=(i:Int):=λz J=>by rw[f] at J;exact qw.1 J
 have V: ∀i:Nat,i<gs.length->o8 g (gs.getD i zG)=true->(i:Int)∈l:=λi h1 t=>by rw[f];exact qw.2 ⟨i,h1,t,rfl⟩
 rw[<-f] at s ⊢;clear f;have W:=(Ar.1 q).1;have M: ∀X:Nat×List AL,((L++Ls).set b X)=L.set b X++Ls:=λX=>GJ _ _ W;refine⟨λn v w'=> ∃(m:Nat) (a:List GT),v.1=(m:Int)/\n+m=l.length/\a.length=gs.length/\(∀i:Nat,i<gs.length->a.getD i zG=if(i:Int)∈l.take m then zG else gs.getD i zG)/\aM D G w0 w' ((L++Ls).set b (br,flat eG a++rest)),⟨l.length,λY Z=>⟨0,gs,rfl,rfl,rfl,λi hi=>by simp,by rw[OH (AJ q)];exact H.ext Z⟩⟩,?_⟩;clear H;rintro n ⟨v,u⟩ Y ⟨m,a,e,hn,N,x,H⟩;dsimp only at e ⊢;subst e;refine ab (λA=>?_) (λA=>au.go H λO H=>k _ O ?_)
 ·have P:m<l.length:=by simpa using A
  have o:=Ap P;obtain⟨z,hze⟩: ∃z,z=l[m]:=⟨_,rfl⟩;rw[<-hze] at o;obtain⟨d,z1,z2,rfl⟩:=I z (F5 o);have kS:l.take (m+1)=l.take m++[(d:Int)]:=by rw[I2,o];rfl
  have Q:=s.rd H (λy hy=>by rw[M];exact Be _ hy) o;have hmb:((L++Ls).set b (br,flat eG a++rest))[j]? =some (bg,mG br a.length c):=by
   rw[N,CD (λe=>S e.symm)];exact AJ B
  have hwb:((L++Ls).set b (br,flat eG a++rest))[b]? =some (br,flat eG a++rest):=by
   rw[CF (by rw[Ea];omega)]
  refine⟨⟨Q.1,by omega,by omega⟩,aj.of _ Q.2 ⟨rfl,rfl,aj.cw j H hmb rfl ⟨⟨rfl,by omega,by show(d:Int)<((a.length:Nat):Int);omega⟩,?_⟩⟩⟩;refine aC.flat (e:=eG) b H zG hwb rfl rfl (by omega:d<a.length) λO H=>λw6 R=>⟨n - 1,by omega,m+1,a.set d zG,by rw[aw (by omega) (by omega)];omega,by omega,by rw[Eo];exact N,λi hi=>?_,?_⟩
  ·rw[kS];by_cases ei:i=d
   ·subst ei;rw[av (by simp)];rw[Az,CF (by omega)];rfl
   ·have:(a.set d zG).getD i zG=a.getD i zG:=by
     grind
    rw[this,x i hi];by_cases p:(i:Int)∈l.take m
    ·rw[av p,av (DR _ p)]
    ·rw[ao p,ao (λh=>?_)];rcases HB.1 h with h|h
     ·exact p h
     ·have:(i:Int)=d:=by simpa using h
      omega
  ·rw[B5] at H;exact H.ext R
 ·have P: ¬ m<l.length:=by simpa using A
  rw[Ee (by omega)] at x;have e:a=cP gs g:=Do λi=>by
   unfold cP;rw[I3];by_cases hi:i<gs.length
   ·have h1:=x i hi;have t:a[i]? =some (a.getD i zG):=by rw[Az,Ap (by omega)];rfl
    have h3:gs[i]? =some (gs.getD i zG):=by rw[Az,Ap hi];rfl
    rw[t,h3,h1];show _=some (if o8 g (gs.getD i zG)=true then zG else gs.getD i zG);by_cases c:o8 g (gs.getD i zG)=true
    ·rw[av c,av (V i hi c)]
    ·rw[ao c,ao (λh=>?_)];obtain⟨i', _,h5,R⟩:=I _ h;have:i'=i:=by omega
     subst this;exact c h5
   ·rw[I8 (by omega),I8 (by omega)];rfl
  subst e;rw[M] at H;exact H.sub (DU _ _)
theorem Vu (H:aM D G w0 w L) (n:Nat) (c:1<=n/\n<=64) {K:Option AC×Int×Unit->A1->Prop}
 (k: ∀bg br a,aM D G w0 a ((bg,mG br (B2 n zG).length n)::(br,flat eG (B2 n zG)++[])::L)->K (some ⟨bg,0,none⟩,0,()) a):
 az A2 73 (.bu [.one .ptr,.one (.int .i64)]) [aa (n:Int)] w K:=by
 refine az.go H λw1 H=>ai (C:=G3) (AM (Ve _ w1 K) ?_);refine an (by grind) ?_;refine N8.go H rfl (by omega) (Int.le_refl _) (by omega) (by omega) λb a H=>aN.go H λd f H=>au.go H λg H=>?_;have e:(B2 ((n:Nat):Int).toNat [aa 0,aa 0,aa 0,.bool false,aa 0]).flatten=flat eG (B2 n zG)++[]:=by
  rw[CB,lL];rfl
 grind
end
end Go.Proofs.YtlcenllcmeebhaaGreat
namespace Go.Proofs.YtlcenllcmeebhaaGreat.Po
set_option maxRecDepth 100000
open Go.RX
def gp (ps:List PT) (g i:Int):PT:=ps.getD (ix g i) zP
def dP (room:Int) (ps:List PT) (g:Int) (x:PT):(Int×Int)×List PT:=if cz room ps g= -1 then((0,3),ps) else((cz room ps g,0),ps.set (ix g (cz room ps g)) x)
def iY (room:Int) (ps:List PT) (g r:Int):(Int×Int)×List PT:=if qP g r=0 then dP room ps g (1,r,0,false,false,()) else((0,qP g r),ps)
def ik (room:Int) (ps:List PT) (g r i:Int):(Int×Int)×List PT:=
 if qP g r=0 then
  match oX room ps r i with
  |none=>((0,4),ps)
  |some k=>
   if(ps.getD k zP).1=2 then((0,6),ps) else if(ps.getD k zP).2.1≠g then((0,7),ps) else
    if cz room ps g= -1 then((0,3),ps) else
     ((cz room ps g,0),(ps.set (ix g (cz room ps g)) (2,r,i,false,false,())).set k (2,(ps.getD k zP).2.1,cz room ps g,(ps.getD k zP).2.2.2))
 else((0,qP g r),ps)
def ly (room:Int) (ps:List PT) (g i:Int):Int×List PT:=
 match oX room ps g i with
 |none=>(4,ps)
 |some k=>if(ps.getD k zP).1=2 then
   let y:=gp ps (ps.getD k zP).2.1 (ps.getD k zP).2.2.1
   (0,ps.set (ix (ps.getD k zP).2.1 (ps.getD k zP).2.2.1) (y.1,y.2.1,y.2.2.1,true,y.2.2.2.2))
  else(6,ps)
def wg (ps:List PT) (g:Int) (i:Nat):Bool:=gI g&&((gp ps g i).2.2.2.1&& !(gp ps g i).2.2.2.2.1)
def py (room:Int) (ps:List PT) (g:Int):List Int:=((Cp room.toNat).filter (wg ps g)).map λi=>((i:Nat):Int)
def gR (room:Int) (ps:List PT) (g:Int):(Int×Bool)×List PT:=
 match py room ps g with
 |[]=>((0,false),ps)
 |i:: _=>((i,true),ps.set (ix g i) ((gp ps g i).1,(gp ps g i).2.1,(gp ps g i).2.2.1,false,(gp ps g i).2.2.2.2))
def eT (room:Int) (ps:List PT) (g i:Int):Int×List PT:=
 match oX room ps g i with
 |none=>(4,ps)
 |some k=>if(ps.getD k zP).1=2 then
   let y:=gp ps (ps.getD k zP).2.1 (ps.getD k zP).2.2.1
   (0,(ps.set (ix (ps.getD k zP).2.1 (ps.getD k zP).2.2.1) (1,y.2.1,0,y.2.2.2)).set k zP)
  else(0,ps.set k zP)
def il (room:Int) (ps:List PT) (g:Int):Nat->Int×List PT
 |0=>(0,ps)
 |i+1=>((il room ps g i).1+(if(eT room (il room ps g i).2 g i).1=0 then 1 else 0),(eT room (il room ps g i).2 g i).2)
def pz (room g:Int) (s:Int×List PT) (k i:Int):Int×List PT:=
 match oX room s.2 k i with
 |none=>s
 |some x=>if(s.2.getD x zP).2.1=g then(s.1+1,s.2.set x zP) else s
def mL (room g:Int) (s:Int×List PT) (k:Int):Nat->Int×List PT
 |0=>s
 |i+1=>pz room g (mL room g s k i) k i
def ky (room g:Int) (s:Int×List PT):Nat->Int×List PT
 |0=>s
 |k+1=>mL room g (ky room g s k) ((k:Int)+1) room.toNat
def cH (room:Int) (ps:List PT) (g:Int):Int×List PT:=if gI g then ky room g (il room ps g room.toNat) 16 else(0,ps)
structure lM (room:Int) (ps:List PT):Prop extends okS room ps where
 inv: ∀g i,s6 room g i=true->gp ps g i=zP\/((gp ps g i).1=1/\(1<=(gp ps g i).2.1/\(gp ps g i).2.1<=16)/\(gp ps g i).2.1≠g/\(gp ps g i).2.2.1=0)\/
  ((gp ps g i).1=2/\(gp ps g i).2.1≠g/\s6 room (gp ps g i).2.1 (gp ps g i).2.2.1=true/\(gp ps (gp ps g i).2.1 (gp ps g i).2.2.1).1=2/\(gp ps (gp ps g i).2.1 (gp ps g i).2.2.1).2.1=g/\(gp ps (gp ps g i).2.1 (gp ps g i).2.2.1).2.2.1=i)
theorem AX {ps:List PT} {k:Nat} (h:k<ps.length) (x:PT):(ps.set k x).getD k zP=x:=by simp[Az,h]
theorem p_ {ps:List PT} {k j:Nat} (h:k≠j) (x:PT):(ps.set k x).getD j zP=ps.getD j zP:=by simp[Az,CD h]
theorem jd {room:Int} {ps:List PT} (b:okS room ps) {g i g' a:Int} (h:s6 room g i=true) (h':s6 room g' a=true) (x:PT):gp (ps.set (ix g i) x) g' a=if g'=g/\a=i then x else gp ps g' a:=by
 unfold gp;by_cases e:g'=g/\a=i
 ·rw[av e,e.1,e.2];exact AX (by rw[b.len];exact pv h b.hi) x
 ·rw[ao e];exact p_ (λc=>e (by have:=PC h h' b.hi c;exact⟨this.1.symm,this.2.symm⟩)) x
theorem vt {room:Int} {ps:List PT} {g i:Int} (h:s6 room g i=true):oX room ps g i=if gp ps g i=zP then none else some (ix g i):=by
 unfold oX gp;by_cases e:ps.getD (ix g i) zP=zP
 ·rw[ao (λc=>c.2 e),av e]
 ·rw[av ⟨h,e⟩,ao e]
theorem qj {g r:Int}:qP g r=0<->gI g=true/\gI r=true/\g≠r:=by
 unfold qP;cases gI g<;>cases gI r<;>by_cases e:g=r<;>simp[e]
section
variable {D G:List Nat} {w0 w:A1} {L:List (Nat×List AL)} {bp:Nat} {room:Int} {ps:List PT}
theorem Gm (H:aM D G w0 w L) (j:Nat) (a:L[j]? =some (bp,gE room ps)) (b:okS room ps) (g i:Int) {r:Option Nat} (c:oX room ps g i=r):ae A2 213 [ag (af bp),aa g,aa i] w (ag (r.map λk=>⟨bp,k*5,none⟩)):=by
 subst c;exact ae.of (s:= .el (.one .ptr)) λw' h'=>Eh ((H.get a).ext h') b g i
theorem XH (H:aM D G w0 w L) (j:Nat) (a:L[j]? =some (bp,gE room ps)) (b:okS room ps) (g i:Int):ae A2 229 [ag (af bp),aa g,aa i] w (aa (qP g i)):=
 ae.of (s:= .el (.one (.int .i64))) λw' h'=>Z3 ((H.get a).ext h') b g i
theorem PD (H:aM D G w0 w L) (j:Nat) (a:L[j]? =some (bp,gE room ps)) (b:okS room ps):ae A2 231 [ag (af bp)] w (aa 4):=
 ae.of (s:= .el (.one (.int .i64))) λw' h'=>Vt ((H.get a).ext h') b
theorem Vv (H:aM D G w0 w L) (j:Nat) (a:L[j]? =some (bp,gE room ps)) (b:okS room ps):ae A2 211 [ag (af bp)] w (.bool true):=
 ae.of (s:= .el (.one .bool)) λw' h'=>pP ((H.get a).ext h') b
theorem jh {j:Nat} {x y:Nat×List AL} (h:L[j]? =some x):(L.set j y)[j]? =some y:=by rw[CF (Ar.1 h).1]
theorem PE (H:aM D G w0 w L) (j:Nat) (i:L[j]? =some (bp,gE room ps)) (l:okS room ps) (g:Int) (v:gI g=true) (x:PT) {K:Int×Int×Unit->A1->Prop}
 (k: ∀n,aM D G w0 n (L.set j (bp,gE room (dP room ps g x).2))->K ((dP room ps g x).1.1,(dP room ps g x).1.2,()) n):
 az A2 230 (.bu [.one (.int .i64),.one (.int .i64)]) [ag (af bp),aa g,.agg ⟨a_ sQ x⟩] w K:=by
 obtain⟨x1,a,d,f,h,o⟩:=x;refine az.go H λw1 H=>ai (C:=R1) (aR:=λ_=>[]) (AM (Z0 _ g x1 a d f h w1 K) ?_);have y:=l.hi;refine aN.go H λb n H=>?_;have r:((b,a_ sQ (x1,a,d,f,h,()))::L)[j+1]? =some (bp,gE room ps):=i;refine⟨cz room ps g,ae.of (s:= .el (.one (.int .i64))) λw' h'=>Ru ((H.get r).ext h') l g,ab (λc=>?_) (λc=>?_)⟩
 ·have e:cz room ps g= -1:=by simpa using c
  have p:dP room ps g (x1,a,d,f,h,o)=((0,3),ps):=av e;rw[p] at k;refine au.go H λq H=>k q ?_;have z:L.set j (bp,gE room ps)=L:=Do λm=>by
   by_cases t:j=m
   ·subst t;rw[jh i,i]
   ·rw[CD t]
  show aM D G w0 q (L.set j (bp,gE room ps));rw[z];exact H.sub (AY _ _)
 ·have e:cz room ps g≠ -1:=by simpa using c
  have p:dP room ps g (x1,a,d,f,h,o)=((cz room ps g,0),ps.set (ix g (cz room ps g)) (x1,a,d,f,h,o)):=ao e;rw[p] at k;have u:=(mX v e).1;have I:=e_.1 u;have A:=pv u y;have es:aZ .i64 g 1=g - 1:=bE (by omega) (by omega);rw[es];have B:ad (ad (ad (af bp) 0) ((g - 1).toNat*160)) ((cz room ps g).toNat*5)=ad (af bp) (ix g (cz room ps g)*aF eQ):=by
   rw[aW,aW,aW,aW];unfold ix;congr 2;show _=0+ _*5;omega
  have E:ad (ad (af bp) 0) ((g - 1).toNat*160)=some ⟨bp,0+0+(g - 1).toNat*160,none⟩:=by rw[aW,aW]
  rw[B,E];refine aj.at 0 H rfl (x:=(x1,a,d,f,h,())) rfl ⟨rfl,rfl,⟨rfl,by omega,by omega⟩,⟨rfl,by omega,by omega⟩,?_⟩;refine aC.flat (j+1) H (x1,a,d,f,h,()) r rfl rfl (by rw[l.len];exact A) λq H=>au.go H λF H=>k F ?_;exact H.sub (AY _ _)
theorem lE {j:Nat} {x:Nat×List AL} (h:L[j]? =some x):L.set j x=L:=Do λm=>by
 by_cases a:j=m
 ·subst a;rw[jh h,h]
 ·rw[CD a]
theorem Ry (H:aM D G w0 w L) (j:Nat) (a:L[j]? =some (bp,gE room ps)) (h:okS room ps) (g r:Int) {K:Int×Int×Unit->A1->Prop}
 (k: ∀b,aM D G w0 b (L.set j (bp,gE room (iY room ps g r).2))->K ((iY room ps g r).1.1,(iY room ps g r).1.2,()) b):
 az A2 185 (.bu [.one (.int .i64),.one (.int .i64)]) [ag (af bp),aa g,aa r] w K:=by
 refine az.go H λw1 H=>ai (C:=R1) (aR:=λ_=>[]) (AM (Rl _ g r w1 K) ?_);refine⟨_,XH H j a h g r,ab (λc=>?_) (λc=>?_)⟩
 ·have e: ¬ qP g r=0:=by simpa using c
  have d:iY room ps g r=((0,qP g r),ps):=ao e;rw[d] at k;refine au.go H λf H=>k f ?_;rw[lE a];exact H
 ·have e:qP g r=0:=by simpa using c
  have d:iY room ps g r=dP room ps g (1,r,0,false,false,()):=av e;rw[d] at k;exact PE H j a h g (qj.1 e).1 (1,r,0,false,false,()) λb H=>au.go H λf H=>k f H
theorem Rz (H:aM D G w0 w L) (j:Nat) (a:L[j]? =some (bp,gE room ps)) (b:okS room ps) (g r i:Int) {K:Int×Int×Unit->A1->Prop}
 (k: ∀l,aM D G w0 l (L.set j (bp,gE room (ik room ps g r i).2))->K ((ik room ps g r i).1.1,(ik room ps g r i).1.2,()) l):
 az A2 186 (.bu [.one (.int .i64),.one (.int .i64)]) [ag (af bp),aa g,aa r,aa i] w K:=by
 refine az.go H λw1 H=>ai (C:=R1) (aR:=λ_=>[]) (AM (Rm _ g r i w1 K) ?_);have f: ∀v:Int×Int,ik room ps g r i=(v,ps)->au w1 λw1=>K (v.1,v.2,()) w1:=λv e=>by
  rw[e] at k;refine au.go H λh H=>k h ?_;rw[lE a];exact H
 refine⟨_,XH H j a b g r,ab (λc=>?_) (λc=>?_)⟩
 ·have e: ¬ qP g r=0:=by simpa using c
  exact f (0,qP g r) (ao e)
 have e:qP g r=0:=by simpa using c
 obtain⟨q,I,B⟩:=qj.1 e;have hb:ik room ps g r i= _:=av e;refine⟨_,Gm H j a b r i rfl,?_⟩;cases m:oX room ps r i with
 |none=>
  rw[m] at hb;exact aA rfl (f (0,4) hb)
 |some kk=>
  rw[m] at hb;obtain⟨s,t,J⟩:=fK m;have n:kk<512:=by rw[t];exact pv s b.hi
  have u:=b.get n;refine an rfl ⟨rfl,rfl,aj.cw j H a (rK u (by decide) rfl) (ab (λc1=>?_) (λc1=>?_))⟩
  ·exact f (0,6) (hb.trans (av (by simpa using c1)))
  refine⟨rfl,rfl,aj.cw j H a (rK u (by decide) rfl) (ab (λc2=>?_) (λc2=>?_))⟩
  ·exact f (0,7) (hb.trans ((ao (by simpa using c1)).trans (av (by simpa using c2))))
  have y:=hb.trans ((ao (by simpa using c1)).trans (ao (by simpa using c2)));refine PE H j a b g q (2,r,i,false,false,()) λl H=>?_;by_cases d:cz room ps g= -1
  ·have o:dP room ps g (2,r,i,false,false,())=((0,3),ps):=av d;rw[o] at H ⊢;have p:ik room ps g r i=((0,3),ps):=y.trans (av d);rw[p] at k;exact an rfl (au.go H λh H=>k h H)
  ·have o:dP room ps g (2,r,i,false,false,())=((cz room ps g,0),ps.set (ix g (cz room ps g)) (2,r,i,false,false,())):=ao d;rw[o] at H ⊢;have E:ix g (cz room ps g)≠kk:=λz=>by
    rw[t] at z;exact B (PC (mX q d).1 s b.hi z).1
   have p:ik room ps g r i=((cz room ps g,0), _):=y.trans (ao d);rw[p] at k;have A:=(b.set (ix g (cz room ps g)) (2,r,i,false,false,())).get n;rw[p_ E] at A;refine aA rfl ⟨rfl,rfl,?_⟩;refine aC.rK j H (2,(ps.getD kk zP).2.1,(ps.getD kk zP).2.2.1,(ps.getD kk zP).2.2.2.1,(ps.getD kk zP).2.2.2.2.1,()) (jh a) A (by decide) rfl rfl λh H=>⟨rfl,rfl,?_⟩;rw[B5] at H;refine aC.rK j H (x:=(2,(ps.getD kk zP).2.1,(ps.getD kk zP).2.2.1,(ps.getD kk zP).2.2.2.1,(ps.getD kk zP).2.2.2.2.1,())) (2,(ps.getD kk zP).2.1,cz room ps g,(ps.getD kk zP).2.2.2.1,(ps.getD kk zP).2.2.2.2.1,()) (jh a) (by rw[CF (by rw[Eo,b.len];exact n)]) (by decide) rfl rfl λM H=>au.go H λF H=>k F ?_;rw[B5,B5] at H;exact H
end
theorem lM.nz {room:Int} {ps:List PT} (f:lM room ps) {g i:Int} {k:Nat} (h:oX room ps g i=some k) (a:(ps.getD k zP).1=2):
 (ps.getD k zP).2.1≠g/\s6 room (ps.getD k zP).2.1 (ps.getD k zP).2.2.1=true/\oX room ps (ps.getD k zP).2.1 (ps.getD k zP).2.2.1=some (ix (ps.getD k zP).2.1 (ps.getD k zP).2.2.1):=by
 obtain⟨j,l,b⟩:=fK h;subst l;have m:ps.getD (ix g i) zP=gp ps g i:=rfl;rw[m] at a b ⊢;rcases f.inv g i j with e|e|⟨_,n,c,d,p⟩
 ·exact absurd e b
 ·rw[e.1] at a;exact absurd a (by decide)
 ·refine⟨n,c,?_⟩;rw[vt c,ao];intro o;rw[o] at d;exact absurd d (by decide)
theorem zV {room:Int} {ps:List PT} {g i:Int} {k:Nat} (a:oX room ps g i=some k):ly room ps g i=if(ps.getD k zP).1=2 then(0,ps.set (ix (ps.getD k zP).2.1 (ps.getD k zP).2.2.1) ((gp ps (ps.getD k zP).2.1 (ps.getD k zP).2.2.1).1,(gp ps (ps.getD k zP).2.1 (ps.getD k zP).2.2.1).2.1,(gp ps (ps.getD k zP).2.1 (ps.getD k zP).2.2.1).2.2.1,true,(gp ps (ps.getD k zP).2.1 (ps.getD k zP).2.2.1).2.2.2.2)) else(6,ps):=by
 unfold ly;rw[a]
theorem pV {room:Int} {ps:List PT} {g i:Int} {k:Nat} (a:oX room ps g i=some k):eT room ps g i=if(ps.getD k zP).1=2 then(0,(ps.set (ix (ps.getD k zP).2.1 (ps.getD k zP).2.2.1) (1,(gp ps (ps.getD k zP).2.1 (ps.getD k zP).2.2.1).2.1,0,(gp ps (ps.getD k zP).2.1 (ps.getD k zP).2.2.1).2.2.2)).set k zP) else(0,ps.set k zP):=by
 unfold eT;rw[a]
theorem HJ {room:Int} {ps:List PT} {g i:Int} (a:oX room ps g i=none):ly room ps g i=(4,ps):=by unfold ly;rw[a]
theorem wO {room:Int} {ps:List PT} {g i:Int} (a:oX room ps g i=none):eT room ps g i=(4,ps):=by unfold eT;rw[a]
section
variable {D G:List Nat} {w0 w:A1} {L:List (Nat×List AL)} {bp:Nat} {room:Int} {ps:List PT}
theorem RA (H:aM D G w0 w L) (j:Nat) (a:L[j]? =some (bp,gE room ps)) (f:lM room ps) (g i:Int) {K:Int->A1->Prop}
 (k: ∀h,aM D G w0 h (L.set j (bp,gE room (ly room ps g i).2))->K (ly room ps g i).1 h):
 az A2 187 (.el (.one (.int .i64))) [ag (af bp),aa g,aa i] w K:=by
 refine az.go H λw1 H=>ai (C:=R1) (aR:=λ_=>[]) (AM (Rn _ g i w1 K) ?_);have b:=f.tookS;have l: ∀v:Int,ly room ps g i=(v,ps)->au w1 λw1=>K v w1:=λv e=>by
  rw[e] at k;refine au.go H λm H=>k m ?_;rw[lE a];exact H
 refine⟨_,Gm H j a b g i rfl,?_⟩;cases c:oX room ps g i with
 |none=>exact aA rfl ⟨4,PD H j a b,l 4 (by unfold ly;rw[c])⟩
 |some kk=>
  obtain⟨o,p,y⟩:=fK c;have q:kk<512:=by rw[p];exact pv o b.hi
  have d:=b.get q;have hb:=zV c;refine an rfl ⟨rfl,rfl,aj.cw j H a (rK d (by decide) rfl) (ab (λc1=>?_) (λc1=>?_))⟩
  ·exact l 6 (hb.trans (ao (by simpa using c1)))
  have n:(ps.getD kk zP).1=2:=by simpa using c1
  rw[hb,av n] at k;obtain⟨z,r,s⟩:=f.nz c n;have t:=pv r b.hi;have u:=b.get t;refine⟨rfl,rfl,aj.cw j H a (rK d (by decide) rfl) ⟨rfl,rfl,aj.cw j H a (rK d (by decide) rfl) ⟨_,Gm H j a b _ _ s,rfl,rfl,?_⟩⟩⟩;exact aC.rK j H (_, _, _,true, _,()) a u (by decide) rfl rfl λm H=>au.go H λx H=>k x H
theorem aC.port (j:Nat) (H:aM D G w0 w L) (a:L[j]? =some (bp,gE room ps)) {k:Nat} (b:k<ps.length) (y:PT) {vs:List AL} (hv:vs=a_ sQ y) {K:A1->Prop}
 (c: ∀w1,aM D G w0 w1 (L.set j (bp,gE room (ps.set k y)))->K w1):aC w (some ⟨bp,k*5,none⟩) vs K:=by
 have:=aC.flat j H (e:=eQ) (rest:=[aa room]) (i:=k) y a hv rfl b c;rw[aW,B3] at this;exact this
theorem BD (H:aM D G w0 w L) (j:Nat) (a:L[j]? =some (bp,gE room ps)) (m:lM room ps) (g i:Int) {K:Int->A1->Prop}
 (k: ∀n,aM D G w0 n (L.set j (bp,gE room (eT room ps g i).2))->K (eT room ps g i).1 n):
 az A2 189 (.el (.one (.int .i64))) [ag (af bp),aa g,aa i] w K:=by
 refine az.go H λw1 H=>ai (C:=R1) (aR:=λ_=>[]) (AM (LF _ g i w1 K) ?_);have b:=m.tookS;refine⟨_,Gm H j a b g i rfl,?_⟩;cases c:oX room ps g i with
 |none=>
  have e:eT room ps g i=(4,ps):=by unfold eT;rw[c]
  rw[e] at k;refine aA rfl ⟨4,PD H j a b,au.go H λo H=>k o ?_⟩;rw[lE a];exact H
 |some kk=>
  obtain⟨s,t,A⟩:=fK c;have d:kk<512:=by rw[t];exact pv s b.hi
  have f:=b.get d;have hb:=pV c;refine an rfl ⟨rfl,rfl,aj.cw j H a (rK f (by decide) rfl) (ab (λc1=>?_) (λc1=>?_))⟩
  ·have p:(ps.getD kk zP).1=2:=by simpa using c1
   rw[hb,av p] at k;obtain⟨B,u,v⟩:=m.nz c p;have h:=pv u b.hi;have q:=b.get h;refine⟨rfl,rfl,aj.cw j H a (rK f (by decide) rfl) ⟨rfl,rfl,aj.cw j H a (rK f (by decide) rfl) ⟨_,Gm H j a b _ _ v,rfl,rfl,?_⟩⟩⟩;obtain⟨y,r⟩: ∃y,y=gp ps (ps.getD kk zP).2.1 (ps.getD kk zP).2.2.1:=⟨_,rfl⟩;rw[<-r] at k;have q:ps[ix (ps.getD kk zP).2.1 (ps.getD kk zP).2.2.1]? =some y:=by rw[r];exact b.get h
   refine aC.rK j H (1,y.2.1,y.2.2.1,y.2.2.2.1,y.2.2.2.2.1,()) a q (by decide) rfl rfl λo H=>⟨rfl,rfl,?_⟩;refine aC.rK j H (x:=(1,y.2.1,y.2.2.1,y.2.2.2.1,y.2.2.2.2.1,())) (1,y.2.1,0,y.2.2.2.1,y.2.2.2.2.1,()) (jh a) (by rw[CF (by rw[b.len];exact h)]) (by decide) rfl rfl λE H=>⟨rfl,?_⟩;rw[B5,B5] at H;refine aC.port j H (jh a) (by rw[Eo,b.len];exact d) zP rfl λz H=>au.go H λl H=>k l ?_;rw[B5] at H;exact H
  ·rw[hb,ao (by simpa using c1)] at k;exact⟨rfl,aC.port j H a (by rw[b.len];exact d) zP rfl λz H=>au.go H λl H=>k l H⟩
end
section
variable {room:Int} {ps:List PT}
theorem lM.Zb (b:lM room ps) {g i:Int} (h:s6 room g i=true) (l:(gp ps g i).1≠2) {y:PT} (d:y=zP\/(y.1=1/\(1<=y.2.1/\y.2.1<=16)/\y.2.1≠g/\y.2.2.1=0)):lM room (ps.set (ix g i) y) where
 tookS:=b.tookS.set _ _
 inv g' a h':=by
  by_cases e:g'=g/\a=i
  ·have f:gp (ps.set (ix g i) y) g' a=y:=(jd b.tookS h h' y).trans (av e);rw[f,e.1];rcases d with d|d
   ·exact .inl d
   ·exact .inr (.inl d)
  ·have f:gp (ps.set (ix g i) y) g' a=gp ps g' a:=(jd b.tookS h h' y).trans (ao e);rw[f];rcases b.inv g' a h' with z|z|⟨m,n,k,j,o,p⟩
   ·exact .inl z
   ·exact .inr (.inl z)
   ·have q: ¬ ((gp ps g' a).2.1=g/\(gp ps g' a).2.2.1=i):=λc=>by rw[c.1,c.2] at j;exact l j
    have r:gp (ps.set (ix g i) y) (gp ps g' a).2.1 (gp ps g' a).2.2.1=gp ps (gp ps g' a).2.1 (gp ps g' a).2.2.1:=(jd b.tookS h k y).trans (ao q);rw[r];exact .inr (.inr ⟨m,n,k,j,o,p⟩)
theorem lM.tw (c:lM room ps) {g i:Int} (h:s6 room g i=true) (k:gp ps g i≠zP) {y:PT} (h1:y.1=(gp ps g i).1) (l:y.2.1=(gp ps g i).2.1) (m:y.2.2.1=(gp ps g i).2.2.1):lM room (ps.set (ix g i) y) where
 tookS:=c.tookS.set _ _
 inv g' d h':=by
  have key: ∀a b,s6 room a b=true->(gp (ps.set (ix g i) y) a b).1=(gp ps a b).1/\(gp (ps.set (ix g i) y) a b).2.1=(gp ps a b).2.1/\(gp (ps.set (ix g i) y) a b).2.2.1=(gp ps a b).2.2.1:=λa b f=>by
   by_cases e:a=g/\b=i
   ·rw[(jd c.tookS h f y).trans (av e),e.1,e.2];exact⟨h1,l,m⟩
   ·rw[(jd c.tookS h f y).trans (ao e)];exact⟨rfl,rfl,rfl⟩
  obtain⟨n,o,p⟩:=key g' d h';rw[n,o,p];rcases c.inv g' d h' with z|z|⟨q,r,j,s,t,u⟩
  ·refine .inl ?_;by_cases e:g'=g/\d=i
   ·rw[e.1,e.2] at z;exact absurd z k
   ·rw[(jd c.tookS h h' y).trans (ao e)];exact z
  ·exact .inr (.inl z)
  ·obtain⟨v,w,x⟩:=key _ _ j;rw[v,w,x];exact .inr (.inr ⟨q,r,j,s,t,u⟩)
theorem lM.dP (b:lM room ps) {g:Int} (c:gI g=true) {y:PT} (d:y.1=1/\(1<=y.2.1/\y.2.1<=16)/\y.2.1≠g/\y.2.2.1=0):lM room (dP room ps g y).2:=by
 unfold Go.Proofs.YtlcenllcmeebhaaGreat.Po.dP;split
 ·exact b
 ·rename_i f;obtain⟨h1,a⟩:=mX c f;rw[vt h1] at a;have h:gp ps g (cz room ps g)=zP:=by
   by_cases e:gp ps g (cz room ps g)=zP
   ·exact e
   ·rw[ao e] at a;cases a
  exact b.Zb h1 (by rw[h];decide) (.inr d)
theorem lM.iY (a:lM room ps) (g r:Int):lM room (iY room ps g r).2:=by
 unfold Go.Proofs.YtlcenllcmeebhaaGreat.Po.iY;split
 ·rename_i e;obtain⟨h1,b,c⟩:=qj.1 e;exact a.dP h1 ⟨rfl,nI.1 b,λe=>c e.symm,rfl⟩
 ·exact a
theorem lM.ik (f:lM room ps) (g r i:Int):lM room (ik room ps g r i).2:=by
 unfold Go.Proofs.YtlcenllcmeebhaaGreat.Po.ik;split
 ·rename_i e;obtain⟨h1,G,n⟩:=qj.1 e;split
  ·exact f
  ·rename_i k y;split
   ·exact f
   ·split
    ·exact f
    ·split
     ·exact f
     ·rename_i t h A;obtain⟨l,o⟩:=mX h1 A;rw[vt l] at o;have u:gp ps g (cz room ps g)=zP:=by
       by_cases e:gp ps g (cz room ps g)=zP
       ·exact e
       ·rw[ao e] at o;cases o
      obtain⟨p1,p2,p3⟩:=fK y;subst p2;have B:ps.getD (ix r i) zP=gp ps r i:=rfl;rw[B] at t h p3 ⊢;have h:(gp ps r i).2.1=g:=Classical.byContradiction h;generalize cz room ps g=j at l u;have p:=f.tookS;have key: ∀a b,s6 room a b=true->gp ((ps.set (ix g j) (2,r,i,false,false,())).set (ix r i) (2,(gp ps r i).2.1,j,(gp ps r i).2.2.2)) a b=if a=r/\b=i then(2,(gp ps r i).2.1,j,(gp ps r i).2.2.2) else if a=g/\b=j then(2,r,i,false,false,()) else gp ps a b:=λa b v=>by
       rw[jd (p.set _ _) p1 v,jd p l v]
      show lM room ((ps.set (ix g j) (2,r,i,false,false,())).set (ix r i) (2,(gp ps r i).2.1,j,(gp ps r i).2.2.2));have w:=(p.set (ix g j) (2,r,i,false,false,())).set (ix r i) (2,(gp ps r i).2.1,j,(gp ps r i).2.2.2);generalize (ps.set (ix g j) (2,r,i,false,false,())).set (ix r i) (2,(gp ps r i).2.1,j,(gp ps r i).2.2.2)=X at key w ⊢;refine⟨w,λg' d h'=>?_⟩;rw[key g' d h'];by_cases q:g'=r/\d=i
      ·rw[av q];obtain⟨rfl,rfl⟩:=q;refine .inr (.inr ⟨rfl,by rw[h];exact n,by rw[h];exact l,?_⟩);show(gp _ (gp ps g' d).2.1 j).1=2/\(gp _ (gp ps g' d).2.1 j).2.1=g'/\(gp _ (gp ps g' d).2.1 j).2.2.1=d;rw[h,key g j l,ao (λc=>n c.1),av ⟨rfl,rfl⟩];exact⟨rfl,rfl,rfl⟩
      ·rw[ao q];by_cases s:g'=g/\d=j
       ·rw[av s];obtain⟨rfl,rfl⟩:=s;refine .inr (.inr ⟨rfl,λc=>n c.symm,p1,?_⟩);show(gp _ r i).1=2/\(gp _ r i).2.1=g'/\(gp _ r i).2.2.1=d;rw[key r i p1,av ⟨rfl,rfl⟩];exact⟨rfl,h,rfl⟩
       ·rw[ao s];rcases f.inv g' d h' with z|z|⟨C,D,x,m,E,F⟩
        ·exact .inl z
        ·exact .inr (.inl z)
        ·rw[key _ _ x,ao,ao]
         ·exact .inr (.inr ⟨C,D,x,m,E,F⟩)
         ·intro c;rw[c.1,c.2,u] at m;exact absurd m (by decide)
         ·intro c;rw[c.1,c.2] at m;exact t m
 ·exact f
theorem lM.ly (a:lM room ps) (g i:Int):lM room (ly room ps g i).2:=by
 cases b:oX room ps g i with
 |none=>rw[HJ b];exact a
 |some k=>
  rw[zV b];split
  ·rename_i c;obtain⟨_,d,e⟩:=a.nz b c;obtain⟨_, _,f⟩:=fK e;exact a.tw d f rfl rfl rfl
  ·exact a
theorem tV {g x:Int} (h:x∈py room ps g):s6 room g x=true/\(gp ps g x).2.2.2.1=true/\(gp ps g x).2.2.2.2.1=false:=by
 unfold py at h;rw[Cf] at h;obtain⟨j,b,rfl⟩:=h;rw[Hq] at b;have:=GG.1 b.1;have a:=b.2;unfold wg at a;simp only[Dn,E5] at a;exact⟨e_.2 ⟨nI.1 a.1,by omega,by omega⟩,a.2.1,a.2.2⟩
theorem Jw {g x:Int} (h:x∈py room ps g):gp ps g x≠zP:=λe=>by
 have:=(tV h).2.1;rw[e] at this;cases this
theorem lM.gR (a:lM room ps) (g:Int):lM room (gR room ps g).2:=by
 unfold Go.Proofs.YtlcenllcmeebhaaGreat.Po.gR;cases c:py room ps g with
 |nil=>exact a
 |cons x l=>
  have b:x∈py room ps g:=by rw[c];exact DD
  exact a.tw (tV b).1 (Jw b) rfl rfl rfl
theorem lM.eT (d:lM room ps) (g i:Int):lM room (eT room ps g i).2:=by
 cases l:oX room ps g i with
 |none=>rw[wO l];exact d
 |some k=>
  rw[pV l];obtain⟨p1,p2,p3⟩:=fK l;have p:=d.tookS;split
  ·rename_i e;obtain⟨q,m, _⟩:=d.nz l e;subst p2;have y:ps.getD (ix g i) zP=gp ps g i:=rfl;rw[y] at e q m p3 ⊢;have hi:=d.inv g i p1;rcases hi with z|z|⟨_, _, _,c4,c5,c6⟩
   ·exact absurd z p3
   ·rw[z.1] at e;exact absurd e (by decide)
   obtain⟨r,t⟩: ∃r,r=(gp ps g i).2.1:=⟨_,rfl⟩;obtain⟨j,u⟩: ∃j,j=(gp ps g i).2.2.1:=⟨_,rfl⟩;rw[<-t] at q c4 c5 c6 m ⊢;rw[<-u] at c4 c5 c6 m ⊢;have key: ∀a b,s6 room a b=true->gp ((ps.set (ix r j) (1,(gp ps r j).2.1,0,(gp ps r j).2.2.2)).set (ix g i) zP) a b=if a=g/\b=i then zP else if a=r/\b=j then(1,(gp ps r j).2.1,0,(gp ps r j).2.2.2) else gp ps a b:=λa b v=>by
    rw[jd (p.set _ _) p1 v,jd p m v]
   show lM room ((ps.set (ix r j) (1,(gp ps r j).2.1,0,(gp ps r j).2.2.2)).set (ix g i) zP);have w:=(p.set (ix r j) (1,(gp ps r j).2.1,0,(gp ps r j).2.2.2)).set (ix g i) zP;generalize (ps.set (ix r j) (1,(gp ps r j).2.1,0,(gp ps r j).2.2.2)).set (ix g i) zP=X at key w ⊢;refine⟨w,λg' n h'=>?_⟩;rw[key g' n h'];by_cases s:g'=g/\n=i
   ·rw[av s];exact .inl rfl
   ·rw[ao s];by_cases o:g'=r/\n=j
    ·rw[av o];refine .inr (.inl ⟨rfl,?_,?_,rfl⟩)
     ·show 1<=(gp ps r j).2.1/\(gp ps r j).2.1<=16;rw[c5];exact(e_.1 p1).1
     ·show(gp ps r j).2.1≠g';rw[c5,o.1];exact λc=>q c.symm
    ·rw[ao o];rcases d.inv g' n h' with z|z|⟨A,B,x,C,f,h⟩
     ·exact .inl z
     ·exact .inr (.inl z)
     ·rw[key _ _ x,ao,ao]
      ·exact .inr (.inr ⟨A,B,x,C,f,h⟩)
      ·intro c;rw[c.1,c.2] at f h;exact s ⟨by rw[<-f,c5],by rw[<-h,c6]⟩
      ·intro c;rw[c.1,c.2] at f h;exact o ⟨by rw[<-f, <-t],by rw[<-h, <-u]⟩
  ·rename_i e;subst p2;exact d.Zb p1 e (.inl rfl)
end
section
variable {D G:List Nat} {w0 w:A1} {L:List (Nat×List AL)} {bp:Nat} {room:Int} {ps:List PT}
def A_ (ps:List PT) (g:Int) (i:Nat):List Int:=((Cp i).filter (wg ps g)).map λi=>((i:Nat):Int)
theorem HK (g:Int) (i:Nat):A_ ps g (i+1)=A_ ps g i++(if wg ps g i then[((i:Nat):Int)] else[]):=by grind[A_,GD]
theorem LK (g:Int) (i:Nat):(A_ ps g i).length<=i:=by grind[A_]
theorem HL {g:Int} {i:Nat} (hi:(i:Int)<room) (a:oX room ps g i=none):wg ps g i=false:=by
 grind[wg,s6,vt,zP]
theorem HM {g:Int} {i:Nat} {k:Nat} (a:oX room ps g i=some k):wg ps g i=((ps.getD k zP).2.2.2.1&& !(ps.getD k zP).2.2.2.2.1):=by
 obtain⟨h1,b, _⟩:=fK a;unfold wg;rw[nI.2 (e_.1 h1).1,b];rfl
theorem RB (hb:bK w bp (gE room ps)) (f:okS room ps) (g:Int):aE A2 232 (.el (.one .slice)) [ag (af bp),aa g] w (λr w'=>lR w w' eI r (py room ps g)/\Ext w w'):=by
 refine ai (C:=R1) (aR:=uF) (AM (Ro _ g w _) ?_);have A:=f.lo;have B:=f.hi;refine⟨true,ae.of (s:= .el (.one .bool)) λw' h'=>pP (hb.ext h') f,an rfl ⟨rfl,rfl,aj.k_ (At.start [] w) hb (by simp) (qi f) ?_⟩⟩;refine⟨λq s w'=> ∃i:Nat,s.2.1=i/\q+i=room.toNat/\At [] w w' []/\lR w w' eI s.1 (A_ ps g i),⟨room.toNat,λw1 h1=>⟨0,rfl,rfl,(At.start [] w).ext h1,lR.start w w1 eI⟩⟩,?_⟩;rintro q ⟨⟨sp,D,sc⟩,E,u⟩ w1 ⟨i,hi,F,H,j⟩;simp only at hi j;subst hi;dsimp only;refine ab (λc=>?_) (λc=>?_)
 ·have G:i<room.toNat:=by simp at c;omega
  have a:=HK (ps:=ps) g i;have I:=LK (ps:=ps) g i;refine⟨_,ae.of (s:= .el (.one .ptr)) λw' h'=>Eh ((H.fG hb (by simp)).ext h') f g i,?_⟩;unfold cw;cases k:oX room ps g i with
  |none=>
   rw[HL (by omega) k] at a;rw[ao (by decide),CB] at a;refine⟨λh=>by simp at h,λh=>by simp at h,false,λh=>by simp at h,λh=>by simp at h,λh=>by simp at h,false,λh=>by simp at h,an rfl λl d=>⟨q - 1,by omega,i+1,by rw[aw (by omega) (by omega)];rfl,by omega,H.ext d,by rw[a];exact j.ext d⟩⟩
  |some kk=>
   obtain⟨p,t,J⟩:=fK k;have v:kk<512:=by rw[t];exact pv p f.hi
   have n:=f.get v;rw[HM k] at a;refine⟨λ_=>rfl,λ_=>rfl,aj.k_ H hb (by simp) (rK n (by decide) rfl) ⟨λ_=>rfl,λ_=>rfl,aj.k_ H hb (by simp) (rK n (by decide) rfl) (ab (λc2=>?_) (λc2=>?_))⟩⟩
   ·have c3:((ps.getD kk zP).2.2.2.1&& !(ps.getD kk zP).2.2.2.2.1)=true:=by simpa using c2
    rw[av c3] at a;have m:=At.start [] w1;refine aN.go m λb l m=>λK x=>?_;refine At.abu (e:=eI) (i:=0) H j (m.ext x) (i:Int) rfl rfl rfl rfl rfl (by omega) λs' L y z M o=>⟨q - 1,by omega,i+1,by rw[aw (by omega) (by omega)];rfl,by omega,y.ext o,?_⟩;rw[a];exact z.ext o
   ·have c3: ¬ ((ps.getD kk zP).2.2.2.1&& !(ps.getD kk zP).2.2.2.2.1)=true:=by simpa using c2
    rw[ao c3,CB] at a;exact λl d=>⟨q - 1,by omega,i+1,by rw[aw (by omega) (by omega)];rfl,by omega,H.ext d,by rw[a];exact j.ext d⟩
 ·have hi:i=room.toNat:=by simp at c;omega
  subst hi;exact λl d=>⟨j.ext d,(H.ext d).all⟩
theorem RC (H:aM D G w0 w L) (j:Nat) (b:L[j]? =some (bp,gE room ps)) (c:okS room ps) (g:Int) {K:Option AC×Nat×Nat->A1->Prop}
 (k: ∀r rows a,aM D G w0 a (L++rows)->oq eI rows r (py room ps g)->K r a):az A2 232 (.el (.one .slice)) [ag (af bp),aa g] w K:=
 az.Y' H (λw1 H=>RB (H.get b) c g) k
theorem zW {rows:List (Nat×List AL)} {r:Option AC×Nat×Nat} {x:Int} {l:List Int} (a:oq eI rows r (x::l)) (H:aM D G w0 w L) (b: ∀y∈rows,y∈L):r.1.isSome=true/\cC w (ad r.1 0) (.one (.int .i64)) x:=by
 have:=a.sl H b 0
 grind
theorem RD (H:aM D G w0 w L) (j:Nat) (f:L[j]? =some (bp,gE room ps)) (c:okS room ps) (g:Int) {K:Int×Bool×Unit->A1->Prop}
 (k: ∀h,aM D G w0 h (L.set j (bp,gE room (gR room ps g).2))->K ((gR room ps g).1.1,(gR room ps g).1.2,()) h):
 az A2 188 (.bu [.one (.int .i64),.one .bool]) [ag (af bp),aa g] w K:=by
 refine az.go H λw1 H=>ai (C:=R1) (aR:=λ_=>[]) (AM (Rq _ g w1 K) ?_);refine RC H j f c g λr rows h H d=>?_;have q:j<L.length:=(Ar.1 f).1;have m:(L++rows)[j]? =some (bp,gE room ps):=by grind
 have a:=d.1;cases b:py room ps g with
 |nil=>
  rw[b] at a;have e:gR room ps g=((0,false),ps):=by unfold gR;rw[b]
  rw[e] at k;refine aA (by rw[a];rfl) (au.go H λn H=>k n ?_);rw[lE f];exact H.sub (DU _ _)
 |cons x l=>
  have o:x∈py room ps g:=by rw[b];exact DD
  rw[b] at a d;have e:gR room ps g=((x,true),ps.set (ix g x) ((gp ps g x).1,(gp ps g x).2.1,(gp ps g x).2.2.1,false,(gp ps g x).2.2.2.2)):=by unfold gR;rw[b]
  rw[e] at k;obtain⟨p1, _, _⟩:=tV o;have s:oX room ps g x=some (ix g x):=by rw[vt p1,ao (Jw o)]
  have t:=pv p1 c.hi;have u:ps[ix g x]? =some (gp ps g x):=c.get t;have h0:=zW d H (λy i=>Be _ i);have p:(x::l).length=l.length+1:=rfl;refine an (by rw[a,p];simp;omega) ⟨⟨h0.1,by omega,by rw[a,p];omega⟩,aj.of x h0.2 ⟨_,Gm H j m c g x s,rfl,rfl,?_⟩⟩;refine aC.rK j H ((gp ps g x).1,(gp ps g x).2.1,(gp ps g x).2.2.1,false,(gp ps g x).2.2.2.2.1,()) m u (by decide) rfl rfl λn H=>?_;rw[GJ _ _ q] at H;have h1:=zW d H (λy i=>Be _ i);refine⟨by grind,aj.of x h1.2 (au.go H λv H=>k v (H.sub (DU _ _)))⟩
theorem tW (a:lM room ps) (g:Int): ∀i,lM room (il room ps g i).2
 |0=>a
 |i+1=>(tW a g i).eT g i
theorem EF (g:Int): ∀i:Nat,0<=(il room ps g i).1/\(il room ps g i).1<=i
 |0=>by simp[il]
 |i+1=>by
  have:=EF g i;simp[il];omega
theorem LM (d:lM room ps) {g i j:Int} (hi:s6 room g i=true) (b:s6 room g j=true):gp (eT room ps g i).2 g j=if j=i then zP else gp ps g j:=by
 cases a:oX room ps g i with
 |none=>
  rw[wO a];rw[vt hi] at a
  grind
 |some=>
  rw[pV a];obtain⟨p1,p2,p3⟩:=fK a;have c:=d.tookS;split
  ·rename_i e;obtain⟨h,f, _⟩:=d.nz a e;subst p2;rw[jd (c.set _ _) p1 b,jd c f b]
   grind
  ·subst p2;rw[jd c p1 b]
   grind
theorem EG (b:lM room ps) {g:Int} (a:gI g=true): ∀(n:Nat),(n:Int)<=room-> ∀j,0<=j->j<(n:Int)->gp (il room ps g n).2 g j=zP
 |n+1,f,j,h0,h1=>by
  have c:s6 room g n=true:=e_.2 ⟨nI.1 a,by omega⟩;have d:s6 room g j=true:=e_.2 ⟨nI.1 a,by omega⟩;simp[il];rw[LM (tW b g n) c d];by_cases e:j=n
  ·grind
  ·rw[ao e];exact EG b a n (by omega) j h0 (by omega)
def wh (room:Int) (ps:List PT) (g:Int):Prop:=lM room ps/\ ∀i,s6 room g i=true->gp ps g i=zP
theorem RE {g:Int} (h:wh room ps g) {k i:Int} (hi:s6 room k i=true) (d:(gp ps k i).2.1=g):(gp ps k i).1≠2:=by
 intro b;rcases h.1.inv k i hi with z|z|⟨_, _,c,a, _⟩
 ·rw[z] at b;exact absurd b (by decide)
 grind
 ·rw[d] at c a;rw[h.2 _ c] at a;exact absurd a (by decide)
theorem HN {g:Int} {s:Int×List PT} (h:wh room s.2 g) (k i:Int):wh room (pz room g s k i).2 g:=by
 unfold pz;split
 ·grind
 ·rename_i b;split
  ·rename_i c;obtain⟨p1,p2,p3⟩:=fK b;subst p2;refine⟨h.1.Zb p1 (RE h p1 c) (.inl rfl),λj a=>?_⟩;rw[jd h.1.tookS p1 a];split
   ·rfl
   ·exact h.2 j a
  grind
theorem sO {g:Int} {s:Int×List PT} (h:wh room s.2 g) (k:Int): ∀i,wh room (mL room g s k i).2 g
 |0=>h
 |i+1=>HN (sO h k i) k i
theorem sP {g:Int} {s:Int×List PT} (h:wh room s.2 g): ∀k,wh room (ky room g s k).2 g
 |0=>h
 |k+1=>sO (sP h k) _ _
theorem RF {g:Int} (s:Int×List PT) (k i:Int):s.1<=(pz room g s k i).1/\(pz room g s k i).1<=s.1+1:=by grind[pz]
theorem zp {g:Int} (s:Int×List PT) (k:Int): ∀i:Nat,s.1<=(mL room g s k i).1/\(mL room g s k i).1<=s.1+i
 |0=>by simp[mL]
 |i+1=>by
  have h1:=zp (g:=g) s k i;have a:=RF (g:=g) (room:=room) (mL room g s k i) k i;simp[mL];omega
theorem EH {g:Int} (s:Int×List PT): ∀k:Nat,s.1<=(ky room g s k).1/\(ky room g s k).1<=s.1+k*room.toNat
 |0=>by simp[ky]
 |k+1=>by
  have h1:=EH (g:=g) s k;have a:=zp (g:=g) (room:=room);simp[ky]
  grind
theorem zX (a:lM room ps) {g:Int} (b:gI g=true):wh room (il room ps g room.toNat).2 g:=by
 exact⟨tW a g _,by grind[EG,e_]⟩
theorem RG (a:lM room ps) (g:Int):lM room (cH room ps g).2:=by
 unfold cH;split
 ·rename_i b;exact(sP (zX a b) _).1
 grind
theorem RH (H:aM D G w0 w L) (j:Nat) (d:L[j]? =some (bp,gE room ps)) (x:lM room ps) (g:Int) {K:Int->A1->Prop}
 (k: ∀I,aM D G w0 I (L.set j (bp,gE room (cH room ps g).2))->K (cH room ps g).1 I):
 az A2 170 (.el (.one (.int .i64))) [ag (af bp),aa g] w K:=by
 refine az.go H λw1 H=>ai (C:=R1) (aR:=uG) (AM (Rs _ g w1 K) ?_);have t:=x.tookS;have TM:=t.lo;have R:=t.hi;refine⟨true,Vv H j d t,λ_=>trivial,ab (λc=>?_) (λc=>?_)⟩
 ·have v:gI g=false:=by simpa using c
  have e:cH room ps g=(0,ps):=by unfold cH;rw[v];rfl
  rw[e] at k;refine au.go H λy H=>k y ?_;rw[lE d];exact H
 have v:gI g=true:=by simpa using c
 have e:cH room ps g=ky room g (il room ps g room.toNat) 16:=by unfold cH;rw[av v]
 rw[e] at k;refine⟨rfl,rfl,aj.cw j H d (qi t) ?_⟩;refine⟨λq s w'=> ∃i:Nat,s.2.1=i/\q+i=room.toNat/\s.1=(il room ps g i).1/\aM D G w0 w' (L.set j (bp,gE room (il room ps g i).2)),⟨room.toNat,λy S=>⟨0,rfl,rfl,rfl,by rw[show(il room ps g 0).2=ps from rfl,lE d];exact H.ext S⟩⟩,?_⟩;clear H;rintro q ⟨a,T,u⟩ y ⟨i,hi,hq,l,H⟩;simp only at hi l;subst hi;subst l;dsimp only;have U:=EF (room:=room) (ps:=ps) g i;refine ab (λc1=>?_) (λc1=>?_)
 ·have V:i<room.toNat:=by simp at c1;omega
  have W:=tW x g i;refine BD H j (jh d) W g i λJ H=>?_;rw[B5] at H;have n:aH .i64 (i:Int) 1=((i+1:Nat):Int):=by rw[aw (by omega) (by omega)];rfl
  refine ab (λc2 o p=>⟨q - 1,by omega,i+1,n,by omega,?_,H.ext p⟩) (λc2 o p=>⟨q - 1,by omega,i+1,n,by omega,?_,H.ext p⟩)
  ·have c3:(eT room (il room ps g i).2 g i).1=0:=by simpa using c2
   simp only[il];rw[av c3,aw (by omega) (by omega)]
  ·have c3: ¬ (eT room (il room ps g i).2 g i).1=0:=by simpa using c2
   simp only[il];rw[ao c3,Int.add_zero]
 have hi:i=room.toNat:=by simp at c1;omega
 subst hi;have M:=zX x v;generalize il room ps g room.toNat=f at H k M U;refine⟨λq s w'=> ∃m:Nat,s.2.1=(m:Int)+1/\q+m=16/\s.1=(ky room g f m).1/\aM D G w0 w' (L.set j (bp,gE room (ky room g f m).2)),⟨16,λJ X=>⟨0,rfl,rfl,rfl,H.ext X⟩⟩,?_⟩;clear H;rintro Y ⟨a,m',u2⟩ J ⟨m,N,W6,l,H⟩;simp only at N l;subst N;subst l;dsimp only;have O:=sP M m;have hlA:=EH (room:=room) (g:=g) f m;have adg:(m:Int)*(room.toNat:Int)<=16*32:=Int.mul_le_mul (by omega) (by omega) (by omega) (by omega);refine ab (λc2=>?_) (λc2=>?_)
 ·have P:m<16:=by simp at c2;omega
  refine⟨rfl,rfl,aj.cw j H (jh d) (qi O.1.tookS) ?_⟩;refine⟨λq s w'=> ∃i:Nat,s.2.1=i/\q+i=room.toNat/\s.1=(mL room g (ky room g f m) ((m:Int)+1) i).1/\aM D G w0 w' (L.set j (bp,gE room (mL room g (ky room g f m) ((m:Int)+1) i).2)),⟨room.toNat,λo p=>⟨0,rfl,rfl,rfl,H.ext p⟩⟩,?_⟩;clear H;rintro z ⟨a,T,u3⟩ o ⟨i,hi,hq3,l,H⟩;simp only at hi l;subst hi;subst l;dsimp only;have Z:=sO O ((m:Int)+1) i;have hlR:=zp (room:=room) (g:=g) (ky room g f m) ((m:Int)+1) i;refine ab (λc3=>?_) (λc3=>?_)
  ·have V:i<room.toNat:=by simp at c3;omega
   have n:aH .i64 (i:Int) 1=((i+1:Nat):Int):=by rw[aw (by omega) (by omega)];rfl
   have A:=Z.1.tookS;have er:mL room g (ky room g f m) ((m:Int)+1) (i+1)=pz room g (mL room g (ky room g f m) ((m:Int)+1) i) ((m:Int)+1) i:=rfl;generalize mL room g (ky room g f m) ((m:Int)+1) i=b at*
   refine⟨_,Gm H j (jh d) A ((m:Int)+1) i rfl,?_⟩;cases B:oX room b.2 ((m:Int)+1) i with
   |none=>
    have E:pz room g b ((m:Int)+1) i=b:=by unfold pz;rw[B]
    rw[E] at er;exact⟨λh=>by simp at h,λh=>by simp at h,(0:Int),λh=>by simp at h,an rfl λF r=>⟨z - 1,by omega,i+1,n,by omega,by rw[er],by rw[er];exact H.ext r⟩⟩
   |some kk=>
    obtain⟨lQ,s8,hnz⟩:=fK B;have Q:kk<512:=by rw[s8];exact pv lQ R
    have DJ:=A.get Q;have E:pz room g b ((m:Int)+1) i=if(b.2.getD kk zP).2.1=g then(b.1+1,b.2.set kk zP) else b:=by unfold pz;rw[B]
    rw[E] at er;refine⟨λ_=>rfl,λ_=>rfl,aj.cw j H (jh d) (rK DJ (by decide) rfl) (ab (λc4=>?_) (λc4=>?_))⟩
    ·have c5:(b.2.getD kk zP).2.1=g:=by simpa using c4
     rw[av c5] at er;refine⟨rfl,aC.port j H (jh d) (by rw[A.len];exact Q) zP rfl λF H w7 h7=>⟨z - 1,by omega,i+1,n,by omega,?_,?_⟩⟩
     ·rw[er,aw (by omega) (by omega)]
     ·rw[er];rw[B5] at H;exact H.ext h7
    ·have c5: ¬ (b.2.getD kk zP).2.1=g:=by simpa using c4
     rw[ao c5] at er;exact λF r=>⟨z - 1,by omega,i+1,n,by omega,by rw[er],by rw[er];exact H.ext r⟩
  ·have hi:i=room.toNat:=by simp at c3;omega
   subst hi;exact λF r=>⟨Y - 1,by omega,m+1,by rw[aw (by omega) (by omega)];omega,by omega,rfl,H.ext r⟩
 ·have P:m=16:=by simp at c2;omega
  subst P;exact au.go H λo H=>k o H
end
def Ed (room:Int) (ps:List PT) (u v:Int):Prop:= ∃i,s6 room u i=true/\gp ps u i≠zP/\(gp ps u i).2.1=v
inductive Lk (room:Int) (ps:List PT) (a:Int):Int->Prop
 |refl:Lk room ps a a
 |fwd {u v:Int}:Lk room ps a u->Ed room ps u v->Lk room ps a v
 |bwd {u v:Int}:Lk room ps a v->Ed room ps u v->Lk room ps a u
def tv (bs:List Bool) (v:Int):Bool:=bs.getD v.toNat false
def Kq (bs:List Bool):List AL:=bs.map Value.bool
theorem OY {bs:List Bool} {v:Int} (h:v.toNat<bs.length):k9 (Kq bs) (0+v.toNat*1) (.one .bool)=some (tv bs v):=by
 have:(Kq bs)[0+v.toNat*1]? =some (.bool (tv bs v)):=by
  unfold Kq tv;rw[B3,Nat.mul_one,I3,Ap h,Az,Ap h];rfl
 show(match (Kq bs)[0+v.toNat*1]? with|some v=>Sc.bool.proj v|none=>none)= _;rw[this];rfl
theorem GZ {bs:List Bool} {u v:Int} (b:0<=u) (a:u.toNat<bs.length) (hv:0<=v):tv (bs.set u.toNat true) v=if v=u then true else tv bs v:=by
 unfold tv;by_cases e:v=u
 ·subst e;rw[av rfl];simp[Az,a]
 ·rw[ao e];have:u.toNat≠v.toNat:=by omega
  simp[Az,CD this]
def IH (bs:List Bool):Nat:=bs.countP (! ·)
theorem x9 {bs:List Bool} {k:Nat} (a:k<bs.length):IH (bs.set k true)+(if bs.getD k false=false then 1 else 0)=IH bs:=by
 unfold IH;rw[List.countP_set a];have e:bs.getD k false=bs[k]:=by rw[Az,Ap a];rfl
 rw[e];cases h:bs[k] with
 |true=>simp
 |false=>
  have:0<bs.countP (! ·):=List.countP_pos_iff.2 ⟨bs[k],FS a,by rw[h];rfl⟩;simp;omega
theorem sS {bs:List Bool} {k:Nat} (a:k<bs.length):IH (bs.set k true)<=IH bs:=by have:=x9 a;omega
section
variable {D G:List Nat} {w0 w:A1} {L:List (Nat×List AL)} {bp:Nat} {room:Int} {ps:List PT}
theorem OZ (j:Nat) (H:aM D G w0 w L) {b:Nat} {bs:List Bool} {v:Int} (a:L[j]? =some (b,Kq bs)) (d:v.toNat<bs.length) {K:A1->Prop}
 (c: ∀w1,aM D G w0 w1 (L.set j (b,Kq (bs.set v.toNat true)))->K w1):aC w (ad (af b) (v.toNat*1)) [.bool true] K:=by
 refine aC.fS j H a rfl ?_ λw1 h1=>c w1 ?_
 ·rw[Gj];unfold Kq;rw[GH];omega
 ·have e:(Kq bs).set (0+v.toNat*1) (.bool true)=Kq (bs.set v.toNat true):=by unfold Kq;rw[List.map_set,B3,Nat.mul_one]
  rw[e] at h1;exact h1
end
end Go.Proofs.YtlcenllcmeebhaaGreat.Po
namespace Go.Proofs.YtlcenllcmeebhaaGreat
set_option maxRecDepth 100000
open Go.RX
open Po (tv Kq OY GZ IH x9 sS OZ)
inductive Rc (E:Int->Int->Prop) (a:Int):Int->Prop
 |refl:Rc E a a
 |step {u v:Int}:Rc E a u->E u v->Rc E a v
structure Dfs (E:Int->Int->Prop) (n:Int) (bs Ym:List Bool):Prop where
 len:Ym.length=17
 mono: ∀v,0<=v->tv bs v=true->tv Ym v=true
 FL:tv Ym n=true
 snd: ∀v,0<=v->tv Ym v=true->tv bs v=true\/Rc E n v
 cls: ∀u v,0<=u->tv Ym u=true->tv bs u=false->E u v->tv Ym v=true
 IH:IH Ym<=IH bs
structure Lp (E:Int->Int->Prop) (n:Int) (bs cs:List Bool):Prop where
 len:cs.length=17
 mono: ∀v,0<=v->tv bs v=true->tv cs v=true
 FL:tv cs n=true
 snd: ∀v,0<=v->tv cs v=true->tv bs v=true\/Rc E n v
 cls: ∀u v,0<=u->u≠n->tv cs u=true->tv bs u=false->E u v->tv cs v=true
 IH:IH cs+(if tv bs n=false then 1 else 0)<=IH bs
open Po (tv Kq OY GZ IH x9 sS OZ)
def oh (gs:List GT):Prop:= ∀x∈gs,(x=zG\/((1<=x.1/\x.1<=16)/\(1<=x.2.2.1/\x.2.2.1<=16)/\x.1≠x.2.2.1/\0<=x.2.1/\x.2.1<65536))/\0<=x.2.2.2.2.1/\x.2.2.2.2.1<=1000
theorem PF {g:Int}:gG g=true<->1<=g/\g<=16:=by unfold gG;simp
section
variable {w0:A1} {bg br c:Nat} {gs:List GT} {rest:List AL}
end
theorem oh.set {gs:List GT} (h:oh gs) (i:Nat) {x:GT} (b:(x=zG\/((1<=x.1/\x.1<=16)/\(1<=x.2.2.1/\x.2.2.1<=16)/\x.1≠x.2.2.1/\0<=x.2.1/\x.2.1<65536))/\0<=x.2.2.2.2.1/\x.2.2.2.2.1<=1000):oh (gs.set i x):=λy a=>by
 rcases List.mem_or_eq_of_mem_set a with a|rfl
 ·exact h y a
 ·exact b
theorem O0:((zG:GT)=zG\/((1<=zG.1/\zG.1<=16)/\(1<=zG.2.2.1/\zG.2.2.1<=16)/\zG.1≠zG.2.2.1/\0<=zG.2.1/\zG.2.1<65536))/\0<=zG.2.2.2.2.1/\zG.2.2.2.2.1<=1000:=⟨.inl rfl,by decide,by decide⟩
theorem oh.rev {gs:List GT} (h:oh gs) (i o:Int):oh (lu gs i o):=by
 unfold lu;split
 ·exact h.set _ O0
 ·exact h
theorem oh.at {gs:List GT} (h:oh gs) {i:Int} {k:Nat} (a:l5 gs i=some k):((1<=(gs.getD k zG).1/\(gs.getD k zG).1<=16)/\(1<=(gs.getD k zG).2.2.1/\(gs.getD k zG).2.2.1<=16)/\(gs.getD k zG).1≠(gs.getD k zG).2.2.1/\0<=(gs.getD k zG).2.1/\(gs.getD k zG).2.1<65536)/\0<=(gs.getD k zG).2.2.2.2.1/\(gs.getD k zG).2.2.2.2.1<=1000:=by
 obtain⟨_, _, _,b,c⟩:=lD a;obtain⟨h1,d⟩:=h _ (F5 b);exact⟨h1.resolve_left c,d⟩
theorem oh.take {gs:List GT} (h:oh gs) (i g:Int) (b:Bool):oh (eh gs i g b):=by
 unfold eh;split
 ·rename_i a;unfold gZ at a;cases c:l5 gs i with
  |none=>rw[c] at a;cases a
  |some k=>
   rw[c] at a;dsimp only at a;obtain⟨h1,e⟩:=h.at c;obtain⟨_, _,d, _⟩:=lD c;subst d;split at a
   ·cases a
   ·split at a
    ·cases a
    ·rename_i f;refine h.set _ ⟨.inr h1,?_,?_⟩
     ·show 0<=(gs.getD i.toNat zG).2.2.2.2.1+1;omega
     ·show(gs.getD i.toNat zG).2.2.2.2.1+1<=1000;omega
 ·exact h
theorem oh.back {gs:List GT} (h:oh gs) (i g:Int):oh (eR gs i g):=by
 unfold eR;split
 ·rename_i a;unfold mz at a;cases b:l5 gs i with
  |none=>rw[b] at a;cases a
  |some k=>
   rw[b] at a;dsimp only at a;obtain⟨h1,d⟩:=h.at b;obtain⟨_, _,c, _⟩:=lD b;subst c;split at a
   ·cases a
   ·split at a
    ·cases a
    ·rename_i e;refine h.set _ ⟨.inr h1,?_,?_⟩
     ·show 0<=(gs.getD i.toNat zG).2.2.2.2.1+ -1;omega
     ·show(gs.getD i.toNat zG).2.2.2.2.1+ -1<=1000;omega
 ·exact h
theorem oh.off {gs:List GT} (h:oh gs) (o q t:Int) (b:Bool):oh (jV gs o q t b):=by
 unfold jV;split
 ·rename_i a;unfold lx at a;split at a
  ·cases a
  ·rename_i hc;have hc:gG o=true/\gG t=true/\o≠t/\0<=q/\q<65536:=by
    simp only[DZ,E5,beq_iff_eq,decide_eq_true_eq,not_or] at hc;obtain⟨⟨⟨⟨h1,c⟩,d⟩,f⟩,g⟩:=hc;exact⟨by simpa using h1,by simpa using c,d,by omega,by omega⟩
   have a1:=PF.1 hc.1;have e:=PF.1 hc.2.1;exact h.set _ ⟨.inr ⟨a1,e,hc.2.2⟩,Int.le_refl 0,(by decide:(0:Int)<=1000)⟩
 ·exact h
theorem oh.drop {gs:List GT} (h:oh gs) (g:Int):oh (cP gs g):=λy a=>by
 unfold cP at a;obtain⟨x,b,rfl⟩:=Cf.1 a;split
 ·exact O0
 ·exact h x b
theorem oh.new (n:Nat):oh (B2 n zG):=λy a=>by
 rw[List.eq_of_mem_replicate a];exact O0
theorem oh.use {gs:List GT} (h:oh gs): ∀x∈gs,0<=x.2.2.2.2.1/\x.2.2.2.2.1<=1000:=λx a=>(h x a).2
noncomputable def H0:dJ A2:={C3 with v7:=false,quiet:=[119,120]}
theorem LN (w:A1) (u:Option Nat->A1->Prop):(aK H0 (λ_=>[]) 163 [] w u)=(
 ∀w1,Ext w w1-> ∀c,Ext (w1.alloc (Obj.map ⟨[]⟩ 0)) c-> ∃(r:Nat), ∃(es:Array AP), ∃(a:Nat),some w1.heap.size=some r/\bF c r es a/\gX c r .i64 1 (.agg {toList:=[.string {data:=⟨[99,114,101,97,116,101]⟩},aa 0]}) es a λb=> ∀d,Ext b d-> ∃(r:Nat), ∃(es:Array AP), ∃(a:Nat),some w1.heap.size=some r/\bF d r es a/\gX d r .i64 2 (.agg {toList:=[.string {data:=⟨[100,101,115,116,114,111,121]⟩},aa 1]}) es a λb=> ∀e,Ext b e-> ∃(r:Nat), ∃(es:
 Array AP), ∃(a:Nat),some w1.heap.size=some r/\bF e r es a/\gX e r .i64 3 (.agg {toList:=[.string {data:=⟨[100,111,110,97,116,101]⟩},aa 2]}) es a λb=> ∀f,Ext b f-> ∃(r:Nat), ∃(es:Array AP), ∃(a:Nat),some w1.heap.size=some r/\bF f r es a/\gX f r .i64 4 (.agg {toList:=[.string {data:=⟨[114,101,99,108,97,105,109]⟩},aa 1]}) es a λb=> ∀g,Ext b g-> ∃(r:Nat), ∃(es:Array AP), ∃(a:Nat),some w1.heap.size=some r/\bF g r es a/\
 gX g r .i64 5 (.agg {toList:=[.string {data:=⟨[112,114,111,116,101,99,116]⟩},aa 2]}) es a λb=> ∀h,Ext b h-> ∃(r:Nat), ∃(es:Array AP), ∃(a:Nat),some w1.heap.size=some r/\bF h r es a/\gX h r .i64 6 (.agg {toList:=[.string {data:=⟨[108,111,97,100]⟩},aa 1]}) es a λb=> ∀i,Ext b i-> ∃(r:Nat), ∃(es:Array AP), ∃(a:Nat),some w1.heap.size=some r/\bF i r es a/\gX i r .i64 7 (.agg {toList:=[.string {data:=⟨[115,116,111,114,101]⟩},.int .i64
 2]}) es a λb=> ∀j,Ext b j-> ∃(r:Nat), ∃(es:Array AP), ∃(a:Nat),some w1.heap.size=some r/\bF j r es a/\gX j r .i64 8 (.agg {toList:=[.string {data:=⟨[111,102,102,101,114]⟩},aa 3]}) es a λb=> ∀k,Ext b k-> ∃(r:Nat), ∃(es:Array AP), ∃(a:Nat),some w1.heap.size=some r/\bF k r es a/\gX k r .i64 9 (.agg {toList:=[.string {data:=⟨[116,97,107,101]⟩},aa 3]}) es a λb=> ∀l,Ext b l-> ∃(r:Nat), ∃(es:Array AP), ∃(a:Nat),
 some w1.heap.size=some r/\bF l r es a/\gX l r .i64 10 (.agg {toList:=[.string {data:=⟨[98,97,99,107]⟩},aa 1]}) es a λb=> ∀m,Ext b m-> ∃(r:Nat), ∃(es:Array AP), ∃(a:Nat),some w1.heap.size=some r/\bF m r es a/\gX m r .i64 11 (.agg {toList:=[.string {data:=⟨[114,101,118,111,107,101]⟩},aa 1]}) es a λb=> ∀n,Ext b n-> ∃(r:Nat), ∃(es:Array AP), ∃(a:Nat),some w1.heap.size=some r/\bF n r es a/\gX n r .i64 12 (.agg {toList:=[.string
 {data:=⟨[111,112,101,110]⟩},aa 1]}) es a λb=> ∀o,Ext b o-> ∃(r:Nat), ∃(es:Array AP), ∃(a:Nat),some w1.heap.size=some r/\bF o r es a/\gX o r .i64 13 (.agg {toList:=[.string {data:=⟨[98,105,110,100]⟩},aa 2]}) es a λb=> ∀p,Ext b p-> ∃(r:Nat), ∃(es:Array AP), ∃(a:Nat),some w1.heap.size=some r/\bF p r es a/\gX p r .i64 14 (.agg {toList:=[.string {data:=⟨[115,101,110,100]⟩},aa 1]}) es a λb=> ∀q,Ext b q-> ∃(r
 :Nat), ∃(es:Array AP), ∃(a:Nat),some w1.heap.size=some r/\bF q r es a/\gX q r .i64 15 (.agg {toList:=[.string {data:=⟨[112,111,108,108]⟩},aa 0]}) es a λb=> ∀s,Ext b s-> ∃(r:Nat), ∃(es:Array AP), ∃(a:Nat),some w1.heap.size=some r/\bF s r es a/\gX s r .i64 16 (.agg {toList:=[.string {data:=⟨[99,108,111,115,101]⟩},aa 1]}) es a λb=> ∀t,Ext b t-> ∃(r:Nat), ∃(es:Array AP), ∃(a:Nat),some w1.heap.size=some r/\bF t r es
 a/\gX t r .i64 17 (.agg {toList:=[.string {data:=⟨[115,119,101,101,112]⟩},aa 0]}) es a λb=>au b (u (some w1.heap.size))):=by kernel_rfl
theorem RI (k:Int) (w:A1) (d:Int->A1->Prop):(aK H0 (λ_=>[]) 119 [aa k] w d)=(
 az A2 163 (.el OA) [] w λx a=> ∃(c:ByteArray×Int×Unit), ∃(b:Bool),mr a x .i64 k (.agg {toList:=[.string {data:=⟨[]⟩},aa 0]}) (.agg ⟨[.string c.1,aa c.2.1]⟩) b/\aN a {toList:=[.string {data:=⟨[]⟩},aa 0]} 242 λe a=>aC a (af e) [.string c.1,aa c.2.1] λa=>aI (!b) (au a (d (-1))) (true=true/\aU a (ad (af e) 1) λx=>au a (d x))):=by kernel_rfl
theorem Fy (k:Int) (w:A1) (a:Bool->A1->Prop):(aK H0 (λ_=>[]) 77 [aa k] w a)=(
 au w (a (k==1||k==2||k==17))):=by kernel_rfl
theorem LO (k a b c:Int) (w:A1) (e:Int×Int×Int×Unit->A1->Prop):(bS H0 (λ_=>[]) 120 [.agg ⟨[aa k,ay a,ay b,ay c]⟩] w e)=(
 aN w ⟨[aa k,ay a,ay b,ay c]⟩ 31 λb d=>aN d ⟨[ay 0,ay 0,ay 0]⟩ 222 λf d=>true=true/\cM d (ad (af b) 1) λx=>true=true/\cM d (ad (af b) 2) λg=>true=true/\cM d (ad (af b) 3) λh=>aC d (af f) [ay x,ay g,ay h] λd=>au d λw1=>aj w1 none (af f) (.agg [.int .u64,.int .u64,.int .u64]) λ(x:Int×Int×Int×Unit)=>e (x.1,x.2.1,x.2.2.1,()) w1):=by kernel_rfl
def rq:Nat->a6:=(λ|5=>[(13,Go.RX.El.one (Go.RX.Sc.int B1))]| _=>[])
theorem LP (k a b c:Int) (w:A1) (f:Bool->A1->Prop):(aK H0 rq 76 [.agg ⟨[aa k,ay a,ay b,ay c]⟩] w f)=(
 aN w ⟨[aa k,ay a,ay b,ay c]⟩ 31 λb d=>true=true/\aU d (ad (af b) 0) λx=> ∃(g:Int),ae A2 119 [aa x] d (aa g)/\aI (g== -1) (au d (f false)) (aj d none (af b) vh λ(x:Int×Int×Int×Int×Unit)=> ∃(e:Int×Int×Int×Unit),ae A2 120 [.agg ⟨[aa x.1,ay x.2.1,ay x.2.2.1,ay x.2.2.2.1]⟩] d (.agg ⟨[ay e.1,ay e.2.1,ay e.2.2.1]⟩)/\ ∃(I:Nat->Int×Unit->A1->Prop),(∃n, ∀w1,Ext d w1->I n (0,()) w1)/\
 ∀(n:Nat) (s:Int×Unit) (w1:A1),I n s w1->aI (decide (s.1<3)) ((0<=s.1/\s.1<(↑3:Int))/\aI (decide (s.1>=g)&&Kw [e.1,e.2.1,e.2.2.1] s.1 != 0) (au w1 (f false)) (∀h,Ext w1 h-> ∃(i:Nat),i<n/\I i (aH .i64 s.1 1,()) h)) (au w1 (f true)))):=by kernel_rfl
theorem gJ {D G:List Nat} {w0 w:A1} {L:List (Nat×List AL)} {M:List (Nat×Obj)} {r:Nat} {l:List AP} {c:Nat} (H:cB D G w0 w L ((r,.map ⟨l⟩ c)::M)) {n:Int} {val:AL} {K:A1->Prop} (g:DL (.int .i64) (aa n) l 0=some none)
 (k: ∀a,cB D G w0 a L ((r,.map ⟨l++[{key:=aa n,val,born:=c}]⟩ (c+1))::M)->K a):
 ∀w1,Ext w w1-> ∃r' b d,some r=some r'/\bF w1 r' b d/\gX w1 r' .i64 n val b d K:=λw1 h=>by
 have f:=H.ext h;refine⟨r,⟨l⟩,c,rfl,f.get (i:=0) rfl,?_⟩;unfold gX;rw[g];have e:Array.push _ _=⟨l++[{key:=aa n,val,born:=c}]⟩:=List.push_toArray _ _;rw[e];exact k _ (f.put (i:=0) rfl trivial)
theorem _root_.Go.RX.cB.XI {D G:List Nat} {w0 w:A1} {L:List (Nat×List AL)} {M:List (Nat×Obj)} {r:Nat} {l l':List AP} {c:Nat} (H:cB D G w0 w L ((r,.map ⟨l⟩ c)::M)) (e:l=l'):cB D G w0 w L ((r,.map ⟨l'⟩ c)::M):=by
 grind
def gK (k:Int) (s:ByteArray) (n:Int) (b:Nat):AP:={key:=aa k,val:= .agg ⟨[.string s,aa n]⟩,born:=b}
def eV:Array AP:=⟨[gK 1 ⟨⟨[99,114,101,97,116,101]⟩⟩ 0 0,gK 2 ⟨⟨[100,101,115,116,114,111,121]⟩⟩ 1 1,gK 3 ⟨⟨[100,111,110,97,116,101]⟩⟩ 2 2,gK 4 ⟨⟨[114,101,99,108,97,105,109]⟩⟩ 1 3,gK 5 ⟨⟨[112,114,111,116,101,99,116]⟩⟩ 2 4,gK 6 ⟨⟨[108,111,97,100]⟩⟩ 1 5,gK 7 ⟨⟨[115,116,111,114,101]⟩⟩ 2 6,gK 8 ⟨⟨[111,102,102,101,114]⟩⟩ 3 7,gK 9 ⟨⟨[116,97,107,101]⟩⟩ 3 8,gK 10 ⟨⟨[98,97,99,107]⟩⟩ 1 9,gK 11 ⟨⟨[114,101,118,111,107,101]⟩⟩ 1 10,gK 12 ⟨⟨[111,112,101,110]⟩⟩ 1 11,gK 13 ⟨⟨[98,105,110,100]⟩⟩ 2 12,gK 14 ⟨⟨[115,101,110,100]⟩⟩ 1 13,gK 15 ⟨⟨[112,111,108,108]⟩⟩ 0 14,gK 16 ⟨⟨[99,108,111,115,101]⟩⟩ 1 15,gK 17 ⟨⟨[115,119,101,101,112]⟩⟩ 0 16]⟩
def jW (k:Int):Int:=if 1<=k/\k<=17 then([0,1,2,1,2,1,2,3,3,1,1,1,2,1,0,1,0]:List Int).getD (k - 1).toNat 0 else -1
def iE (k a b c:Int):Bool:=decide (jW k>=0)&&((decide (jW k>0)||a==0)&&((decide (jW k>1)||b==0)&&(decide (jW k>2)||c==0)))
def vj (k:Int):Bool:=k==1||k==2||k==17
section
variable {D G:List Nat} {w0 w:A1} {L:List (Nat×List AL)} {M:List (Nat×Obj)}
theorem LQ (H:cB D G w0 w L M) {K:Option Nat->A1->Prop} (k: ∀r a,cB D G w0 a L ((r,.map eV 17)::M)->K (some r) a):az A2 163 (.el (.one .map)) [] w K:=by
 refine λw1 h1=>ai (C:=H0) (aR:=λ_=>[]) (AM (LN w1 K) ?_);have H:=H.ext h1;intro b c;have H:=(H.ext c).alloc (o:= .map #[] 0) trivial;refine gJ H (by kernel_rfl) λf H=>?_;refine gJ H (by kernel_rfl) λg H=>?_;refine gJ H (by kernel_rfl) λh H=>?_;refine gJ H (by kernel_rfl) λi H=>?_;refine gJ H (by kernel_rfl) λj H=>?_;refine gJ H (by kernel_rfl) λl H=>?_;refine gJ H (by kernel_rfl) λm H=>?_;refine gJ H (by kernel_rfl) λn H=>?_;refine gJ H (by kernel_rfl) λp H=>?_;refine gJ H (by kernel_rfl) λq H=>?_;refine gJ H (by kernel_rfl) λs H=>?_;refine gJ H (by kernel_rfl) λt H=>?_;refine gJ H (by kernel_rfl) λu H=>?_;refine gJ H (by kernel_rfl) λv H=>?_;refine gJ H (by kernel_rfl) λx H=>?_;refine gJ H (by kernel_rfl) λy H=>?_;refine gJ H (by kernel_rfl) λz H=>?_;exact λd e=>k b.heap.size d ((H.ext e).XI (by kernel_rfl))
theorem HO {r:Nat} (h:bF w r eV 17) (k:Int): ∃(x:ByteArray×Int×Unit) (b:Bool),mr w (some r) .i64 k (.agg ⟨[.string ⟨⟨[]⟩⟩,aa 0]⟩) (.agg ⟨[.string x.1,aa x.2.1]⟩) b/\(b=false->jW k= -1)/\(b=true->x.2.1=jW k):=by
 by_cases c:1<=k/\k<=17
 ·have:k=1\/k=2\/k=3\/k=4\/k=5\/k=6\/k=7\/k=8\/k=9\/k=10\/k=11\/k=12\/k=13\/k=14\/k=15\/k=16\/k=17:=by omega
  rcases this with rfl|rfl|rfl|rfl|rfl|rfl|rfl|rfl|rfl|rfl|rfl|rfl|rfl|rfl|rfl|rfl|rfl
  ·exact⟨(⟨⟨[99,114,101,97,116,101]⟩⟩,0,()),true,⟨r,eV,17,rfl,h,rfl,rfl⟩,λh=>(by cases h),λ_=>rfl⟩
  ·exact⟨(⟨⟨[100,101,115,116,114,111,121]⟩⟩,1,()),true,⟨r,eV,17,rfl,h,rfl,rfl⟩,λh=>(by cases h),λ_=>rfl⟩
  ·exact⟨(⟨⟨[100,111,110,97,116,101]⟩⟩,2,()),true,⟨r,eV,17,rfl,h,rfl,rfl⟩,λh=>(by cases h),λ_=>rfl⟩
  ·exact⟨(⟨⟨[114,101,99,108,97,105,109]⟩⟩,1,()),true,⟨r,eV,17,rfl,h,rfl,rfl⟩,λh=>(by cases h),λ_=>rfl⟩
  ·exact⟨(⟨⟨[112,114,111,116,101,99,116]⟩⟩,2,()),true,⟨r,eV,17,rfl,h,rfl,rfl⟩,λh=>(by cases h),λ_=>rfl⟩
  ·exact⟨(⟨⟨[108,111,97,100]⟩⟩,1,()),true,⟨r,eV,17,rfl,h,rfl,rfl⟩,λh=>(by cases h),λ_=>rfl⟩
  ·exact⟨(⟨⟨[115,116,111,114,101]⟩⟩,2,()),true,⟨r,eV,17,rfl,h,rfl,rfl⟩,λh=>(by cases h),λ_=>rfl⟩
  ·exact⟨(⟨⟨[111,102,102,101,114]⟩⟩,3,()),true,⟨r,eV,17,rfl,h,rfl,rfl⟩,λh=>(by cases h),λ_=>rfl⟩
  ·exact⟨(⟨⟨[116,97,107,101]⟩⟩,3,()),true,⟨r,eV,17,rfl,h,rfl,rfl⟩,λh=>(by cases h),λ_=>rfl⟩
  ·exact⟨(⟨⟨[98,97,99,107]⟩⟩,1,()),true,⟨r,eV,17,rfl,h,rfl,rfl⟩,λh=>(by cases h),λ_=>rfl⟩
  ·exact⟨(⟨⟨[114,101,118,111,107,101]⟩⟩,1,()),true,⟨r,eV,17,rfl,h,rfl,rfl⟩,λh=>(by cases h),λ_=>rfl⟩
  ·exact⟨(⟨⟨[111,112,101,110]⟩⟩,1,()),true,⟨r,eV,17,rfl,h,rfl,rfl⟩,λh=>(by cases h),λ_=>rfl⟩
  ·exact⟨(⟨⟨[98,105,110,100]⟩⟩,2,()),true,⟨r,eV,17,rfl,h,rfl,rfl⟩,λh=>(by cases h),λ_=>rfl⟩
  ·exact⟨(⟨⟨[115,101,110,100]⟩⟩,1,()),true,⟨r,eV,17,rfl,h,rfl,rfl⟩,λh=>(by cases h),λ_=>rfl⟩
  ·exact⟨(⟨⟨[112,111,108,108]⟩⟩,0,()),true,⟨r,eV,17,rfl,h,rfl,rfl⟩,λh=>(by cases h),λ_=>rfl⟩
  ·exact⟨(⟨⟨[99,108,111,115,101]⟩⟩,1,()),true,⟨r,eV,17,rfl,h,rfl,rfl⟩,λh=>(by cases h),λ_=>rfl⟩
  ·exact⟨(⟨⟨[115,119,101,101,112]⟩⟩,0,()),true,⟨r,eV,17,rfl,h,rfl,rfl⟩,λh=>(by cases h),λ_=>rfl⟩
 ·have d: ∀(l:List AP) (i:Nat),(∀e∈l, ∃j:Int,e.key=aa j/\j≠k)->DL (.int .i64) (aa k) l i=some none:=by
   intro l
   induction l with
   |nil=>intro i _;rfl
   |cons e l g=>
    intro i a;obtain⟨j,h1,m⟩:=a e DD;unfold DL;rw[h1];have:IQ (.int .i64) (aa k) (aa j)=some false:=by
     show(if B1=B1 then some (k==j) else none)=some false
     grind
    grind
  have f:DL (.int .i64) (aa k) eV.toList 0=some none:=d _ 0 λe a=>by
   have a:e∈[gK 1 ⟨⟨[99,114,101,97,116,101]⟩⟩ 0 0,gK 2 ⟨⟨[100,101,115,116,114,111,121]⟩⟩ 1 1,gK 3 ⟨⟨[100,111,110,97,116,101]⟩⟩ 2 2,gK 4 ⟨⟨[114,101,99,108,97,105,109]⟩⟩ 1 3,gK 5 ⟨⟨[112,114,111,116,101,99,116]⟩⟩ 2 4,gK 6 ⟨⟨[108,111,97,100]⟩⟩ 1 5,gK 7 ⟨⟨[115,116,111,114,101]⟩⟩ 2 6,gK 8 ⟨⟨[111,102,102,101,114]⟩⟩ 3 7,gK 9 ⟨⟨[116,97,107,101]⟩⟩ 3 8,gK 10 ⟨⟨[98,97,99,107]⟩⟩ 1 9,gK 11 ⟨⟨[114,101,118,111,107,101]⟩⟩ 1 10,gK 12 ⟨⟨[111,112,101,110]⟩⟩ 1 11,gK 13 ⟨⟨[98,105,110,100]⟩⟩ 2 12,gK 14 ⟨⟨[115,101,110,100]⟩⟩ 1 13,gK 15 ⟨⟨[112,111,108,108]⟩⟩ 0 14,gK 16 ⟨⟨[99,108,111,115,101]⟩⟩ 1 15,gK 17 ⟨⟨[115,119,101,101,112]⟩⟩ 0 16]:=a;simp only[Ek,List.not_mem_nil,or_false] at a;rcases a with rfl|rfl|rfl|rfl|rfl|rfl|rfl|rfl|rfl|rfl|rfl|rfl|rfl|rfl|rfl|rfl|rfl
   all_goals exact⟨_,rfl,by omega⟩
  refine⟨(⟨⟨[]⟩⟩,0,()),false,⟨r,eV,17,rfl,h,?_⟩,λ_=>ao c,λh=>by cases h⟩;rw[f];exact⟨rfl,rfl⟩
theorem RJ (k:Int) (w:A1):aE A2 119 (.el (.one (.int .i64))) [aa k] w (λx w'=>x=jW k/\Ext w w'):=by
 refine ai (C:=H0) (aR:=λ_=>[]) (AM (RI k w _) ?_);refine LQ (cB.start [] w) λr d H=>?_;obtain⟨x,b,a,h0,h1⟩:=HO (H.get (i:=0) rfl) k;have H:=H.base;refine⟨x,b,a,aN.go H λe f H=>aC.all 0 H rfl rfl rfl λg H=>?_⟩;cases b with
 |false=>exact aA rfl (au.go H λc H=>⟨(h0 rfl).symm,H.all⟩)
 |true=>exact an rfl ⟨rfl,aj.cw 0 H rfl rfl (au.go H λc H=>⟨h1 rfl,H.all⟩)⟩
theorem Vw (k:Int):ae A2 119 [aa k] w (aa (jW k)):=ae.of λw' _=>RJ k w'
theorem RK (k a b c:Int):ae A2 120 [.agg ⟨[aa k,ay a,ay b,ay c]⟩] w (Sh.gO (.el (.agg [.int .u64,.int .u64,.int .u64])) (a,b,c,())):=by
 refine ae.of λw' _=>aQ (C:=H0) (aR:=λ_=>[]) (AM (LO k a b c w' _) ?_);have H:=At.start [] w';refine aN.go H λd e H=>aN.go H λf g H=>⟨rfl,aj.cw 1 H rfl rfl ⟨rfl,aj.cw 1 H rfl rfl ⟨rfl,aj.cw 1 H rfl rfl (aC.all 0 H rfl rfl rfl λh H=>au.go H λi H=>aj.at 0 H rfl (rfl) ⟨rfl,H.all⟩)⟩⟩⟩
theorem LR (k a b c:Int) (w:A1):aE A2 76 (.el (.one .bool)) [.agg ⟨[aa k,ay a,ay b,ay c]⟩] w (λx w'=>x=iE k a b c/\Ext w w'):=by
 refine ai (C:=H0) (aR:=rq) (AM (LP k a b c w _) ?_);have H:=At.start [] w;have y:jW k= -1\/0<=jW k:=by
  unfold jW;split
  ·rename_i h;right;have:k=1\/k=2\/k=3\/k=4\/k=5\/k=6\/k=7\/k=8\/k=9\/k=10\/k=11\/k=12\/k=13\/k=14\/k=15\/k=16\/k=17:=by omega
   rcases this with rfl|rfl|rfl|rfl|rfl|rfl|rfl|rfl|rfl|rfl|rfl|rfl|rfl|rfl|rfl|rfl|rfl<;>decide
  ·exact .inl rfl
 refine aN.go H λD E H=>⟨rfl,aj.cw 0 H rfl rfl ⟨_,Vw k,ab (λd=>au.go H λl H=>⟨?_,H.all⟩) (λd=>aj.at 0 H rfl (show _=some (k,a,b,c,()) from rfl) ⟨(a,b,c,()),RK k a b c,?_⟩)⟩⟩
 ·have d:jW k= -1:=by simpa using d
  unfold iE;rw[d];rfl
 have d: ¬ jW k= -1:=by simpa using d
 unfold iE;obtain⟨n,z⟩: ∃n,n=jW k:=⟨_,rfl⟩;rw[<-z] at d y ⊢;refine⟨λq v w'=> ∃i:Nat,v.1=(i:Int)/\q+i=3/\(0<i-> ¬ (n<=0/\a≠0))/\(1<i-> ¬ (n<=1/\b≠0))/\(2<i-> ¬ (n<=2/\c≠0))/\Ext w w',⟨3,λl r=>⟨0,rfl,rfl,λh=>by omega,λh=>by omega,λh=>by omega,(H.ext r).all⟩⟩,?_⟩;rintro q ⟨v,u⟩ l ⟨i,e,F,h1,A,r,m⟩;dsimp only at e ⊢;subst e;refine ab (λo=>⟨⟨by omega,by simpa using o⟩,?_⟩) (λo=>λf g=>⟨?_,m.trans g⟩)
 ·have hi:i<3:=by
   have:(i:Int)<3:=by simpa using o
   omega
  have B:(¬ (n<=(i:Int)/\Kw [a,b,c] (i:Int)≠0))-> ∀f,Ext l f-> ∃s,s<q/\ ∃j:Nat,aH .i64 (i:Int) 1=(j:Int)/\s+j=3/\(0<j-> ¬ (n<=0/\a≠0))/\(1<j-> ¬ (n<=1/\b≠0))/\(2<j-> ¬ (n<=2/\c≠0))/\Ext w f:=λp f g=>by
   refine⟨q - 1,by omega,i+1,by rw[aw (by omega) (by omega)];omega,by omega,?_,?_,?_,m.trans g⟩
   ·intro _;by_cases e:i=0
    ·subst e;exact p
    ·exact h1 (by omega)
   ·intro _;by_cases e:i=1
    ·subst e;exact p
    ·exact A (by omega)
   ·intro _;have e:i=2:=by omega
    subst e;exact p
  refine ab (λd1=>λf g=>⟨?_,m.trans g⟩) (λd1=>B ?_)
  ·have d1:n<=(i:Int)/\Kw [a,b,c] (i:Int)≠0:=by
    simpa using d1
   have:i=0\/i=1\/i=2:=by omega
   symm;rw[Bool.eq_false_iff];intro t;simp only[Dn,DZ,decide_eq_true_eq,beq_iff_eq] at t;obtain⟨_,G,I,J⟩:=t;rcases this with rfl|rfl|rfl
   ·have d2:n<=0/\a≠0:=d1;omega
   ·have d2:n<=1/\b≠0:=d1;omega
   ·have d2:n<=2/\c≠0:=d1;omega
  grind
 grind
theorem EI (k a b c:Int):ae A2 76 [.agg ⟨[aa k,ay a,ay b,ay c]⟩] w (.bool (iE k a b c)):=ae.of λw' _=>LR k a b c w'
theorem Fz (k:Int) (w:A1):aE A2 77 (.el (.one .bool)) [aa k] w (λx w'=>x=vj k/\Ext w w'):=
 ai (AM (Fy k w _) λw1 h1=>⟨rfl,h1⟩)
theorem HP (k:Int):ae A2 77 [aa k] w (.bool (vj k)):=ae.of λw' _=>Fz k w'
end
end Go.Proofs.YtlcenllcmeebhaaGreat
namespace Go.RX
set_option maxRecDepth 100000
open Go.ChangeShapes Go.WideShapes Go.RowKit
variable {H:Type} {enc:B4×AL->H} {P:Program} {w:A1} {base:Nat} {spare:Nat->Bool} {held:Bool}
def y6 (P:Program) (g:B4->Option (List Sc)):Nat->List Field->Option (List Sc)
 | _,[]=>some []
 |off,f::r=>match g f.type with
  |some a=>if f.offset=off/\P.cellsOf f.type=a.length then match y6 P g (off+a.length) r with
    |some b=>some (a++b)
    |none=>none
   else none
  |none=>none
def si (P:Program):Nat->B4->Option (List Sc)
 |0, _=>none
 |d+1,t=>match P.underlying t with
  |some (.int k)=>some [.int k]
  |some .bool=>some [.bool]
  |some (.struct fs)=>match y6 P (si P d) 0 fs.toList with
   |some a=>if P.cellsOf t=a.length then some a else none
   |none=>none
  |some (.array n e)=>match si P d e with
   |some a=>if P.cellsOf e=a.length/\P.cellsOf t=n*a.length then some (B2 n a).flatten else none
   |none=>none
  | _=>none
def acz:(s:Sc)->s.T->Prop
 | .int k,x=>(Lit.int k x).wf=true
 | _, _=>True
def jv:(l:List Sc)->iA l->Prop
 |[], _=>True
 |s::r,x=>acz s x.1/\jv r x.2
theorem sT: ∀(a b:List Sc) (x:iA a) (y:iA b),jv a x->jv b y-> ∃z:iA (a++b),a_ (a++b) z=a_ a x++a_ b y/\jv (a++b) z
 |[],b, _,y, _,c=>⟨y,rfl,c⟩
 |s::r,b,x,y,d,c=>by
  obtain⟨z,h1,e⟩:=sT r b x.2 y d.2 c;exact⟨(x.1,z),by simp only[IG,a_,h1],d.1,e⟩
theorem Jx {g:B4->Option (List Sc)} {m:Nat} (e: ∀t ss cs y,g t=some ss->DataW.trod enc P w base spare held m t cs=some y-> ∃x:iA ss,cs=a_ ss x/\jv ss x)
 {cs:List AL} {fs:Array Field} {xs:List (DataW H×List MemPlace)} (j:xs.length=fs.size)
 (k: ∀(i:Nat) (f:Field),fs[i]? =some f->DataW.trod enc P w base spare held m f.type ((cs.drop f.offset).take (P.cellsOf f.type))=xs[i]?):
 ∀(l:List Field) (i off:Nat) (ss:List Sc),fs.toList.drop i=l->y6 P g off l=some ss->cs.length=off+ss.length-> ∃x:iA ss,cs.drop off=a_ ss x/\jv ss x
 |[],i,off,ss, _,h,d=>by
  simp only[y6,Option.some.injEq] at h;subst h;refine⟨(),?_,trivial⟩;rw[GS (by simp at d;omega)];rfl
 |f::r,i,off,ss,c,h,d=>by
  simp only[y6] at h;split at h
  ·rename_i a o;split at h
   ·rename_i hc;split at h
    ·rename_i b hb;cases h;have hi:i<fs.toList.length:=by
      apply Nat.lt_of_not_le;intro p;rw[GS p] at c;cases c
     have q:fs[i]? =some f:=by
      have:=congrArg (·[0]?) c;simp only[List.getElem?_drop,Gn,List.getElem?_cons_zero] at this;simpa using this
     have n:=k i f q;have s: ∃y,xs[i]? =some y:=⟨_,Ap (by rw[j];simpa using hi)⟩;obtain⟨y,v⟩:=s;rw[v,hc.1,hc.2] at n;obtain⟨x,A,B⟩:=e _ _ _ _ o n;have C:fs.toList.drop (i+1)=r:=by
      have:=congrArg (List.drop 1) c;simpa[Ga] using this
     obtain⟨z,D,E⟩:=Jx e j k r (i+1) (off+a.length) b C hb (by rw[d];simp;omega);obtain⟨u,F,G⟩:=sT a b x z B E;refine⟨u,?_,G⟩;rw[F, <-A, <-D, <-Ga];exact(FY _ _).symm
    ·cases h
   ·cases h
  ·cases h
theorem BE {a:List Sc} {cs:List AL}: ∀(n off:Nat),(∀i,i<n-> ∃x:iA a,(cs.drop (off+i*a.length)).take a.length=a_ a x/\jv a x)->cs.length=off+n*a.length->
 ∃x:iA (B2 n a).flatten,cs.drop off=a_ _ x/\jv _ x
 |0,off, _,b=>by
  refine⟨(),?_,trivial⟩;rw[GS (by omega)];rfl
 |n+1,off,h,b=>by
  obtain⟨x,c,d⟩:=h 0 (by omega);obtain⟨z,e,f⟩:=BE (a:=a) (cs:=cs) n (off+a.length) (λi hi=>by
   have:=h (i+1) (by omega);rw[show off+(i+1)*a.length=off+a.length+i*a.length by rw[FK];omega] at this;exact this) (by rw[b,FK];omega)
  obtain⟨u,g,j⟩:=sT a (B2 n a).flatten x z d f;refine⟨u,?_,j⟩;show _=a_ (a++(B2 n a).flatten) u;rw[g, <-c, <-e,Gi,Gn, <-Ga];exact(FY _ _).symm
theorem qy: ∀(d m:Nat) (t:B4) (ss:List Sc) (cs:List AL) (y:DataW H×List MemPlace),si P d t=some ss->DataW.trod enc P w base spare held m t cs=some y-> ∃x:iA ss,cs=a_ ss x/\jv ss x
 |0, _, _, _, _, _,h, _=>by simp[si] at h
 |d+1,m,t,ss,cs,y,h,g=>by
  simp only[si] at h;split at h
  ·rename_i k c;cases h;obtain⟨n,rfl, _,r⟩:=DataW.trod_int c g;exact⟨(n,()),rfl,r,trivial⟩
  ·rename_i c;cases h;obtain⟨b,rfl, _⟩:=DataW.trod_bool c g;exact⟨(b,()),rfl,trivial,trivial⟩
  ·rename_i fs c;split at h
   ·rename_i a j;split at h
    ·rename_i hc;cases h;obtain⟨xs,n, _, _,l,p,o⟩:=DataW.trod_struct c g;obtain⟨x,h1,f⟩:=Jx (λt ss cs y h1 f=>qy d n t ss cs y h1 f) p o fs.toList 0 0 _ rfl j (by rw[l,hc];omega);exact⟨x,by simpa using h1,f⟩
    ·cases h
   ·cases h
  ·rename_i n e c;split at h
   ·rename_i a j;split at h
    ·rename_i hc;cases h;obtain⟨xs,k, _, _,l,p,o⟩:=DataW.trod_array c g;obtain⟨x,h1,f⟩:=BE (a:=a) (cs:=cs) n 0 (λi hi=>by
      have q:=o i hi;have s:xs[i]? =some xs[i]:=Ap (by omega);rw[s,hc.1] at q;rw[B3];exact qy d k e a _ _ j q) (by rw[l,hc.2];omega)
     exact⟨x,by simpa using h1,f⟩
    ·cases h
   ·cases h
  ·cases h
theorem BF {r:Reach} {a:Nat} {t:B4} {v:AL} {b:DataW H} {ps:List MemPlace} (d:Nat) {ss:List Sc} (c:si P d t=some ss) (f:(∃n e,P.underlying t=some (.array n e))\/ ∃fs,P.underlying t=some (.struct fs))
 (hv:Value.okWide P w r a t v) (h:DataW.Trod enc P w base spare held t v b ps): ∃x:iA ss,v= .agg ⟨a_ ss x⟩/\jv ss x:=by
 obtain⟨j,g⟩:=h;have hc: ∃cs,v= .agg cs:=by
  unfold Value.okWide at hv;rcases f with ⟨n,e,h⟩|⟨fs,h⟩<;>(rw[h] at hv;obtain⟨cs,fh, _⟩:=hv;exact⟨cs,fh⟩)
 obtain⟨cs,rfl⟩:=hc;obtain⟨x,h1,i⟩:=qy d _ _ _ _ _ c g;refine⟨x,?_,i⟩;have:cs.toList=a_ ss x:=h1;rw[<-this]
theorem oB {t e:B4} {a:Option AC} {n c:Nat} {p:DataW H} {ps:List MemPlace} (d:Nat) {ss:List Sc} (q:P.underlying t=some (.slice e)) (r:si P d e=some ss) (hc:P.cellsOf e=ss.length)
 (h:DataW.Trod enc P w base spare held t (.slice a n c) p ps): ∃xs:List (iA ss),n=xs.length/\n<=maxLen/\Sl w (.agg ss) a xs/\ ∀x∈xs,jv ss x:=by
 obtain⟨F,s⟩:=h;rcases Deep.open_slice q s with ⟨fh, _⟩|⟨x,len,cap,m,k,D,G,fh, _,I,J,u, _,l⟩
 ·simp[Value.cells] at fh;obtain⟨rfl,rfl,rfl⟩:=fh;exact⟨[],rfl,FI _,λi x l=>by simp at l,λx l=>by simp at l⟩
 ·simp[Value.cells] at fh;obtain⟨rfl,rfl,rfl⟩:=fh;have K:n<=m:=by rw[u];split<;>omega
  have v: ∀i,i<n-> ∃y:iA ss,(∀j,j<ss.length->w.cell? ((x.add (i*ss.length)).add j)=(a_ ss y)[j]?)/\jv ss y:=by
   intro i hi;obtain⟨L,h1,g⟩:=l i (by omega);obtain⟨y,A,B⟩:=qy d _ _ _ _ _ r g;obtain⟨_,C,pA⟩:=World.cells?_some h1;rw[hc] at h1 C pA;refine⟨y,λj o=>?_,B⟩;rw[<-A];exact pA j o
  have: ∀k,k<=n-> ∃xs:List (iA ss),xs.length=k/\(∀i y,xs[i]? =some y->(∀j,j<ss.length->w.cell? ((x.add (i*ss.length)).add j)=(a_ ss y)[j]?)/\jv ss y):=by
   intro k
   induction k with
   |zero=>intro _;exact⟨[],rfl,λi y b=>by simp at b⟩
   |succ k E=>
    intro M;obtain⟨xs,h1,g⟩:=E (by omega);obtain⟨y,b⟩:=v k (by omega);refine⟨xs++[y],by simp[h1],λi z f=>?_⟩;by_cases hi:i<xs.length
    ·rw[H6 hi] at f;exact g i z f
    ·rw[GI (by omega)] at f;have:i - xs.length=0:=by
      have:=(Ar.1 f).1;simp at this;omega
     rw[this] at f;simp at f;subst f;rw[show i=k by omega];exact b
  obtain⟨xs,h1,g⟩:=this n (DF n);refine⟨xs,h1.symm,by omega,λi y b=>⟨rfl,x.add (i*ss.length),rfl,λj o=>(g i y b).1 j o⟩,λy b=>?_⟩;obtain⟨i,hi⟩:=F6 b;exact(g i y hi).2
end Go.RX
namespace Go.Proofs.YtlcenllcmeebhaaGreat
set_option maxRecDepth 100000
open Go.RX
section
variable {w0 w:A1} {L:List (Nat×List AL)}
def lN (ws:List Int) (f p t:Int):Nat->Int×Int×FT
 |0=>(f,3,(0,0,0,0,()))
 |k+1=>bA ws p t (lN ws f p t k)
def nr (ws:List Int) (f p t:Int):FT:=if vi f p t then(0,0,0,1,()) else(lN ws f p t 4).2.2
theorem BG {ws:List Int} {p t:Int} {x:Int×Int×FT} (h:x.2.1= -1):bA ws p t x=x:=av h
theorem Jy {fr pg wt lv:Int} {fd:FT} {ep:Bool} {er:Int} {el:Bool} {ef:Int} (a:0<=lv/\lv<=3):(tookS fr pg wt lv fd ep er el ef).2.1= -1\/((tookS fr pg wt lv fd ep er el ef).2.1=lv - 1/\0<lv):=by
 unfold tookS;split
 ·exact .inl rfl
 ·split
  ·rename_i h;rw[Dn,decide_eq_true_eq] at h;exact .inr ⟨bE (by omega) (by omega),by omega⟩
  ·split
   ·exact .inl rfl
   ·split<;>exact .inl rfl
theorem XJ (ws:List Int) (f p t:Int): ∀k:Nat,(lN ws f p t k).2.1= -1\/((lN ws f p t k).2.1=3 - (k:Int)/\k<=3)
 |0=> .inr ⟨rfl,by decide⟩
 |k+1=>by
  rcases XJ ws f p t k with h|⟨h,a⟩
  ·left;show(bA ws p t (lN ws f p t k)).2.1= -1;rw[BG h];exact h
  ·show(bA ws p t (lN ws f p t k)).2.1= -1\/((bA ws p t (lN ws f p t k)).2.1=3 - ((k+1:Nat):Int)/\k+1<=3);generalize lN ws f p t k=x at h;unfold bA;rw[ao (by omega)];split
   ·exact .inl rfl
   ·rcases Jy (fr:=x.1) (pg:=p) (wt:=t) (lv:=x.2.1) (fd:=x.2.2) (by omega) with e|⟨e,b⟩
    ·exact .inl (e ..)
    ·exact .inr ⟨by rw[e];omega,by omega⟩
theorem x_ {ws:List Int} {f p t:Int} {k:Nat} (h:(lN ws f p t k).2.1= -1): ∀j,lN ws f p t (k+j)=lN ws f p t k
 |0=>rfl
 |j+1=>by
  show bA ws p t (lN ws f p t (k+j))= _;rw[x_ h j,BG h]
end
theorem set_perm {α:Type} (a:α): ∀(L:List α) (j:Nat),j<L.length->(L.set j a).Perm (a::L.eraseIdx j)
 |[], _,h=>by simp at h
 |x::L,0, _=>by simp
 |x::L,j+1,h=>by
  rw[List.set_cons_succ,List.eraseIdx_cons_succ];exact((set_perm a L j (by simpa using h)).cons x).trans (.swap a x _)
theorem PG {α:Type} {L:List α} {j:Nat} {a:α} (b:L[j]? =some a):L.set j a=L:=by
 apply Do;intro n;by_cases e:j=n
 ·subst e;rw[CF (Ar.1 b).1,b]
 ·rw[CD e]
theorem Z5 {α:Type} {L:List α} {j c:Nat} {a b:α} (d:L[j]? =some a) (hb:L[c]? =some b) (h:j≠c): ∃f,L.Perm (a::b::f)/\ ∀a',(L.set j a').Perm (a'::b::f):=by
 have g:j<L.length:=(Ar.1 d).1;have k:b∈L.eraseIdx j:=by
  rw[List.mem_eraseIdx_iff_getElem?];exact⟨c,λe=>h e.symm,hb⟩
 obtain⟨i,hi⟩:=F6 k;have l:i<(L.eraseIdx j).length:=(Ar.1 hi).1;have p2:(L.eraseIdx j).Perm (b::(L.eraseIdx j).eraseIdx i):=by
  have:=set_perm b (L.eraseIdx j) i l;rwa[PG hi] at this
 refine⟨(L.eraseIdx j).eraseIdx i,?_,λa'=>(set_perm a' L j g).trans (p2.cons a')⟩;have:=(set_perm a L j g).trans (p2.cons a);rwa[PG d] at this
section
variable {w0 w:A1} {L:List (Nat×List AL)}
end
end Go.Proofs.YtlcenllcmeebhaaGreat
namespace Go.Proofs.YtlcenllcmeebhaaGreat.D
set_option maxRecDepth 100000
open Go.RX
noncomputable def D0:dJ A2:={C3 with v7:=true}
theorem RM (a:Int) (w:A1) (k:Option AC×Nat×Nat->A1->Prop):(aK D0 (λ_=>[]) 246 [aa a] w k)=(
 ∀w1,Ext w w1->aN (w1.alloc (Obj.map ⟨[]⟩ 0)) ⟨[aa 1,aa 2,aa 3,aa 4]⟩ 3 λb c=> ∀e,Ext c e-> ∃(r:Nat), ∃(es:Array AP), ∃(d:Nat),some w1.heap.size=some r/\bF e r es d/\gX e r .i64 0 (.slice (af b) 4 4) es d λc=>aN c ⟨[aa 0,aa 2,aa 3,aa 4]⟩ 3 λb c=> ∀f,Ext c f-> ∃(r:Nat), ∃(es:Array AP), ∃(d:Nat),some w1.heap.size=some r/\bF f r es d/\gX f r .i64 1 (.slice (af b) 4 4) es d λc=>aN c ⟨[aa 5,.int
 .i64 0]⟩ 3 λb c=> ∀g,Ext c g-> ∃(r:Nat), ∃(es:Array AP), ∃(d:Nat),some w1.heap.size=some r/\bF g r es d/\gX g r .i64 2 (.slice (af b) 2 2) es d λc=>aN c ⟨[aa 5,aa 0]⟩ 3 λb c=> ∀h,Ext c h-> ∃(r:Nat), ∃(es:Array AP), ∃(d:Nat),some w1.heap.size=some r/\bF h r es d/\gX h r .i64 3 (.slice (af b) 2 2) es d λc=>aN c ⟨[aa 5,aa 0,aa 4]⟩ 3 λb c=> ∀i,Ext c i-> ∃(r:Nat), ∃(es:Array AP), ∃(d:Nat),some
 w1.heap.size=some r/\bF i r es d/\gX i r .i64 4 (.slice (af b) 3 3) es d λc=>aN c ⟨[aa 0]⟩ 3 λb c=> ∀j,Ext c j-> ∃(r:Nat), ∃(es:Array AP), ∃(d:Nat),some w1.heap.size=some r/\bF j r es d/\gX j r .i64 5 (.slice (af b) 1 1) es d λc=> ∃(x:Option AC×Nat×Nat),jU c (some w1.heap.size) .i64 a (.slice none 0 0) (.slice x.1 x.2.1 x.2.2)/\au c (k (x.1,x.2.1,x.2.2))):=by kernel_rfl
def zY:Nat->a6:=(λ|2=>[(10,Go.RX.El.one (Go.RX.Sc.int B1))]| _=>[])
theorem Z6 (a b:Int) (w:A1) (Post:Bool->A1->Prop):(aK D0 zY 234 [aa a,aa b] w Post)=(
 az A2 246 (.el (.one .slice)) [aa a] w λx f=> ∀(c:Int),c=(↑x.2.1:Int)-> ∃(I:Nat->Int×Unit->A1->Prop),(∃n, ∀w1,Ext f w1->I n (0,()) w1)/\ ∀(n:Nat) (s:Int×Unit) (w1:A1),I n s w1->aI (decide (s.1<c)) ((x.1.isSome=true/\0<=s.1/\s.1<(↑x.2.1:Int))/\aj w1 none (ad x.1 (Int.toNat s.1*1)) (.one (.int .i64)) λ(x:Int)=>aI (x==b) (au w1 λw1=>Post true w1) (∀(x:Int),x=aH .i64 s.1 1-> ∀d,Ext w1 d-> ∃(e:Nat),e<n/\I e (x,()) d)) (au w1 λw1=>Post false w1)):=by
 kernel_rfl
theorem xZ {w:A1} {r:Nat} {k:IntKind} {n:Int} {val:AL} {es:Array AP} {a:Nat} {K:A1->Prop} (h:DL (.int k) (.int k n) es.toList 0=some none)
 (b:K (w.putObj r (.map (es.push {key:= .int k n,val,born:=a}) (a+1)))):gX w r k n val es a K:=by
 unfold gX;rw[h];exact b
theorem mY {w0 a c:A1} {r:Nat} {es:Array AP} {b:Nat} {l:List AL} {t:B4} {n:Int} {bs:List (Nat×List AL)} {val:AL} {K:A1->Prop}
 (o:Ext w0 a) (p:w0.heap.size<=r) (q:bF a r es b) (hb: ∀x∈bs,bK a x.1 x.2/\x.1≠r) (g:Ext (a.alloc (.cells ⟨l⟩ t)) c)
 (s:DL (.int .i64) (aa n) es.toList 0=some none)
 (k: ∀e,Ext w0 e->bF e r (es.push {key:=aa n,val,born:=b}) (b+1)->(∀x∈(a.heap.size,l)::bs,bK e x.1 x.2/\x.1≠r)->K e):
 ∃r' h i,some r=some r'/\bF c r' h i/\gX c r' .i64 n val h i K:=by
 have j:a.heap[r]? =some (.map es b):=q;have u:r<a.heap.size:=(Array.getElem?_eq_some_iff.1 j).1;have f:Ext a c:=(Ext.alloc a _).trans g;have m:c.heap[r]? =some (.map es b):=f.obj j;refine⟨r,es,b,rfl,m,xZ s (k _ ((o.trans f).putObj p _) ?_ ?_)⟩
 ·exact j9 (Array.getElem?_eq_some_iff.1 m).1
 ·intro x d;rcases Ek.1 d with rfl|d
  ·have:a.heap.size≠r:=by omega
   exact⟨((bK.new a l t).ext g).putObj this _,this⟩
  ·exact⟨((hb x d).1.ext f).putObj (hb x d).2 _,(hb x d).2⟩
def fx (a:Int):List Int:=if a=0 then[1,2,3,4] else if a=1 then[0,2,3,4] else if a=2 then[5,0] else if a=3 then[5,0] else if a=4 then[5,0,4] else if a=5 then[0] else[]
theorem RN (a:Int) (w:A1):aE A2 246 (.el (.one .slice)) [aa a] w (λr w'=>Sl w' eI r.1 (fx a)/\r.2.1=(fx a).length/\Ext w w'):=by
 refine ai (C:=D0) (aR:=λ_=>[]) (AM (RM a w _) ?_);intro w1 h1 j p Z B;have m0:bF j w1.heap.size #[] 0:=p.obj (fD w1 _);have step: ∀{W:A1} {bs:List (Nat×List AL)} {r:Nat},(∀x∈bs,bK W x.1 x.2/\x.1≠r)-> ∀{q:A1},Ext W q-> ∀x∈bs,bK q x.1 x.2/\x.1≠r:=
  λh _ e x c=>⟨(h x c).1.ext e,(h x c).2⟩
 refine mY (bs:=[]) ((h1.jc _).trans p) h1.size m0 (λx c=>by cases c) B rfl λW0 E0 M0 B0 s k w5 D=>?_;refine mY (E0.trans k) h1.size (k.obj M0) (step B0 k) D rfl λW1 E1 M1 E t l w7 F=>?_;refine mY (E1.trans l) h1.size (l.obj M1) (step E l) F rfl λW2 E2 M2 G u m w9 H=>?_;refine mY (E2.trans m) h1.size (m.obj M2) (step G m) H rfl λW3 E3 M3 I v n og J=>?_;refine mY (E3.trans n) h1.size (n.obj M3) (step I n) J rfl λW4 K L M y o Oi N=>?_;refine mY (K.trans o) h1.size (o.obj L) (step M o) N rfl λf O b d=>?_;have P:=(d (j.heap.size,[aa 1,aa 2,aa 3,aa 4]) (by simp)).1;have Q:=(d (s.heap.size,[aa 0,aa 2,aa 3,aa 4]) (by simp)).1;have R:=(d (t.heap.size,[aa 5,aa 0]) (by simp)).1;have S:=(d (u.heap.size,[aa 5,aa 0]) (by simp)).1;have T:=(d (v.heap.size,[aa 5,aa 0,aa 4]) (by simp)).1;have U:=(d (y.heap.size,[aa 0]) (by simp)).1;have fin: ∀(x:Option AC×Nat×Nat),jU f (some w1.heap.size) .i64 a (.slice none 0 0) (.slice x.1 x.2.1 x.2.2)->Sl f eI x.1 (fx a)->x.2.1=(fx a).length->
  ∃x:Option AC×Nat×Nat,jU f (some w1.heap.size) .i64 a (.slice none 0 0) (.slice x.1 x.2.1 x.2.2)/\ ∀g,Ext f g->Sl g eI (x.1,x.2.1,x.2.2).1 (fx a)/\(x.1,x.2.1,x.2.2).2.1=(fx a).length/\Ext w g:=
  λx V X Y=>⟨x,V,λg z=>⟨X.ext z,Y,O.trans z⟩⟩
 by_cases c0:a=0
 ·subst c0;exact fin (some ⟨j.heap.size,0,none⟩,4,4) ⟨_, _, _,rfl,b,rfl⟩ (Sl.jI P rfl) rfl
 by_cases c1:a=1
 ·subst c1;exact fin (some ⟨s.heap.size,0,none⟩,4,4) ⟨_, _, _,rfl,b,rfl⟩ (Sl.jI Q rfl) rfl
 by_cases c2:a=2
 ·subst c2;exact fin (some ⟨t.heap.size,0,none⟩,2,2) ⟨_, _, _,rfl,b,rfl⟩ (Sl.jI R rfl) rfl
 by_cases c3:a=3
 ·subst c3;exact fin (some ⟨u.heap.size,0,none⟩,2,2) ⟨_, _, _,rfl,b,rfl⟩ (Sl.jI S rfl) rfl
 by_cases c4:a=4
 ·subst c4;exact fin (some ⟨v.heap.size,0,none⟩,3,3) ⟨_, _, _,rfl,b,rfl⟩ (Sl.jI T rfl) rfl
 by_cases c5:a=5
 ·subst c5;exact fin (some ⟨y.heap.size,0,none⟩,1,1) ⟨_, _, _,rfl,b,rfl⟩ (Sl.jI U rfl) rfl
 have A:fx a=[]:=by
  unfold fx;rw[ao c0,ao c1,ao c2,ao c3,ao c4,ao c5]
 refine fin (none,0,0) ⟨_, _, _,rfl,b,?_⟩ (by rw[A];intro i x c;simp at c) (by rw[A];rfl);have d0:(a==0)=false:=by simp[c0]
 have d1:(a==1)=false:=by simp[c1]
 have d2:(a==2)=false:=by simp[c2]
 have d3:(a==3)=false:=by simp[c3]
 have d4:(a==4)=false:=by simp[c4]
 have d5:(a==5)=false:=by simp[c5]
 simp only[Array.toList_push,List.nil_append,IG,DL,IQ,if_true,B3,d0,d1,d2,d3,d4,d5]
theorem LU (a:Int):(fx a).length<=4:=by
 unfold fx
 repeat (split; ·decide)
 decide
theorem Z7 (a b:Int) (w:A1):aE A2 234 (.el (.one .bool)) [aa a,aa b] w (λx w'=>x=decide (b∈fx a)/\Ext w w'):=by
 refine ai (C:=D0) (aR:=zY) (AM (Z6 a b w _) ?_);intro w1 h1;refine(RN a w1).mono ?_;rintro⟨p,n,c⟩ A ⟨q,B,t⟩ x1 v;dsimp only at v B q;subst v;have F:=LU a;refine⟨λk s w'=>Ext A w'/\ ∃i:Nat,s.1=i/\k+i=n/\ ∀j,j<i->(fx a)[j]? ≠some b,⟨n,λD d=>⟨d,0,rfl,rfl,λj g=>absurd g (by omega)⟩⟩,?_⟩;rintro k ⟨G,u⟩ D ⟨d,i,hi,H,g⟩;simp only at hi;subst hi;dsimp only;refine ab (λh=>?_) (λh=>λy f=>⟨?_,((h1.trans t).trans d).trans f⟩)
 ·simp only[decide_eq_true_eq] at h;have l:i<(fx a).length:=by omega
  have r:=(q.ext d) i _ (Ap l);refine⟨⟨r.1,by omega,by omega⟩, _,r.2,ab (λm y f=>⟨?_,((h1.trans t).trans d).trans f⟩) (λm x E y f=>⟨k - 1,by omega,d.trans f,i+1,by rw[E,aw (by omega) (by omega)];rfl,by omega,?_⟩)⟩
  ·have:(fx a)[i]=b:=by simpa using m
   have o:b∈fx a:=by rw[<-this];exact FS l
   simp[o]
  ·intro j I;by_cases e:j=i
   ·subst e;rw[Ap l];intro hc;simp only[Option.some.injEq] at hc;simp[hc] at m
   ·exact g j (by omega)
 ·simp only[decide_eq_false_iff_not] at h;have: ¬ b∈fx a:=by
   intro o;obtain⟨j,z⟩:=F6 o;have:=(Ar.1 z).1;exact g j (by omega) z
  simp[this]
noncomputable def Zc:Entry A2 where
 f:=234
 fn l:=match l with
  |[.int .i64 a,.int .i64 b]=>some (True,.bool (decide (b∈fx a)))
  | _=>none
 ok args pre v h c w:=by
  split at h
  ·rename_i a b;cases h;exact bV (Z7 a b w)
  ·cases h
noncomputable def D1:dJ A2:={D0 with sW:=[tH,v8,Ge,Gf,Zc]}
abbrev wP (c:Bool->A1->Prop) (a:A1) (b:Nat):Prop:=
 aj a none (af b) dR λ(x:Int×Int×Int×Int×Unit)=>true=true/\aU a (ad (af b) 0) λd=>au a λw1=>c (x.1==d&&(x.2.1==0&&(x.2.2.1==0&&(x.2.2.2.1==0&&true)))) w1
abbrev wQ (c:Bool->A1->Prop) (a:A1) (b:Nat):Prop:=
 true=true/\aU a (ad (af b) 1) λx=>(decide (x>0)=true->true=true)/\aj a (some (decide (x>0))) (ad (af b) 3) aS λ(d:Int)=>au a (c (decide (x>0)&&d==0))
abbrev wR (b:Bool->A1->Prop) (c:Int) (a:A1) (d:Nat):Prop:=
 aI (c==5) (true=true/\aU a (ad (af d) 2) λx=>au a (b (x==0))) (au a (b false))
abbrev wS (d:Bool->A1->Prop) (b:Int) (a:A1) (c:Nat):Prop:=
 aI (b==2) (true=true/\aU a (ad (af c) 1) λx=>((x==0)=true->true=true)/\aj a (some (x==0)) (ad (af c) 3) aS λ(e:Int)=>au a (d (x==0&&e==0))) (aI (b==3) (aI (b==3) (wQ d a c) (wR d b a c)) (aI (b==4) (wQ d a c) (wR d b a c)))
theorem zl (k o r e:Int) (w:A1) (f:Bool->A1->Prop):(aK D1 (λ_=>[]) 233 [.agg ⟨[aa k,aa o,aa r,aa e]⟩] w f)=(
 aN w ⟨[aa k,aa o,aa r,aa e]⟩ 52 λb a=>true=true/\aU a (ad (af b) 1) λx=>((!decide (x<0))=true->true=true)/\aj a (some !decide (x<0)) (ad (af b) 1) aS λ(c:Int)=>((!(decide (x<0)||decide (c>16)))=true->true=true)/\aj a (some !(decide (x<0)||decide (c>16))) (ad (af b) 2) aS λ(d:Int)=>((!(decide (x<0)||decide (c>16)||decide (d<0)))=true->true=true)/\aj a (some !(decide (x<0)||decide (c>16)||decide (d<0))) (ad (af b) 2) aS λ(g:Int)=>
 ((!(decide (x<0)||decide (c>16)||decide (d<0)||decide (g>65535)))=true->true=true)/\aj a (some !(decide (x<0)||decide (c>16)||decide (d<0)||decide (g>65535))) (ad (af b) 3) aS λ(h:Int)=>((!(decide (x<0)||decide (c>16)||decide (d<0)||decide (g>65535)||decide (h<0)))=true->true=true)/\aj a (some !(decide (x<0)||decide (c>16)||decide (d<0)||decide (g>65535)||decide (h<0))) (ad (af b) 3) aS λ(i:Int)=>aI (decide (x<0)||decide (c>16)||decide (d<0)||
 decide (g>65535)||decide (h<0)||decide (i>4294967295)) (au a (f false)) (true=true/\aU a (ad (af b) 0) λx=>aI (x==0) (aI (x==0) (wP f a b) (wS f x a b)) (aI (x==1) (wP f a b) (wS f x a b)))):=by kernel_rfl
def jK (k o r e:Int):Prop:=(0<=o/\o<=16/\0<=r/\r<=65535/\0<=e/\e<=4294967295)/\(((k=0\/k=1)/\o=0/\r=0/\e=0)\/(k=2/\o=0/\e=0)\/((k=3\/k=4)/\0<o/\e=0)\/(k=5/\r=0))
instance (k o r e:Int):Decidable (jK k o r e):=by unfold jK;infer_instance
def dT (k o r e:Int):Bool:=decide (jK k o r e)
theorem LV {k o r e:Int} {b:Bool} (h:b=true<->jK k o r e):b=dT k o r e:=by
 unfold dT;rw[IR,decide_eq_true_eq];exact h
theorem zm (k o r e:Int) (w:A1):aE A2 233 (.el (.one .bool)) [.agg ⟨[aa k,aa o,aa r,aa e]⟩] w (λb w'=>b=dT k o r e/\Ext w w'):=by
 refine ai (C:=D1) (aR:=λ_=>[]) (AM (zl k o r e w _) ?_);have H:=At.start [] w
 repeat' (first
  |exact Go.RX.aM.all H
  |exact Am (by first|rfl|decide+kernel) (Go.RX.aM.all H)
  |refine Am (by first|exact rfl|exact trivial|exact λ_=>rfl|exact λ_=>trivial|exact⟨rfl,by decide,by decide⟩|exact⟨by decide,by decide⟩|decide+kernel|exact λ_=>by decide|exact λ_=>⟨rfl,by decide,by decide⟩|(dsimp only[DA,DB];exact⟨rfl,by decide,by decide⟩)) ?_
  |refine aj.cw 0 H rfl rfl ?_
  |refine aj.at 0 H rfl rfl ?_
  |refine aN.go H λb w1 H=>?_
  |refine aC.all 0 H rfl rfl rfl λw1 H=>?_
  |refine aC.fS 0 H rfl rfl rfl λw1 H=>?_
  |refine aC.one 0 H rfl rfl rfl λw1 H=>?_
  |with_reducible refine au.go H λw1 H=>?_
  |refine jJ ?_
  |refine aA (by assumption) ?_
  |refine an (by assumption) ?_
  |refine ab (λc=>?_) (λc=>?_))
 all_goals
  refine Am (LV ?_) H.all;simp only[DZ,E4,Dn,Gr,beq_iff_eq,beq_eq_false_iff_ne,bne_iff_ne,bne_eq_false_iff_eq,decide_eq_true_eq,decide_eq_false_iff_not,Gz,H4,E5,H5,and_true,true_and,and_false,false_and,or_true,true_or,or_false,false_or,ne_eq,not_true_eq_false,not_false_eq_true,false_iff,iff_false,true_iff,iff_true] at*
  unfold jK;omega
noncomputable def vq:Entry A2 where
 f:=233
 fn l:=match l with
  |[.agg ⟨[.int .i64 k,.int .i64 o,.int .i64 r,.int .i64 e]⟩]=>some (True,.bool (dT k o r e))
  | _=>none
 ok args pre v h a w:=by
  split at h
  ·rename_i k o r e;cases h;exact bV (zm k o r e w)
  ·cases h
noncomputable def D2:dJ A2:={D0 with sW:=[tH,v8,Ge,Gf,Zc,vq]}
abbrev zZ (d:(Int×Int×Int×Int×Unit)×Int×Unit->A1->Prop) (a:A1) (e:Nat) (b:Nat):Prop:=
 aj a none (af e) dR λ(x:Int×Int×Int×Int×Unit)=>True/\aI (!dT x.1 x.2.1 x.2.2.1 x.2.2.2.1) (aC a (af b) [aa 0,aa 0,aa 0,aa 0] λc=>au c λw1=>aj w1 none (af b) dR λ(x:Int×Int×Int×Int×Unit)=>d ((x.1,x.2.1,x.2.2.1,x.2.2.2.1,()),1,()) w1) (aj a none (af e) dR λ(x:Int×Int×Int×Int×Unit)=>aC a (af b) [aa x.1,aa x.2.1,aa x.2.2.1,aa x.2.2.2.1] λc=>au c λw1=>aj w1 none (af b) dR λ(x:Int×Int×Int×Int×
 Unit)=>d ((x.1,x.2.1,x.2.2.1,x.2.2.2.1,()),0,()) w1)
theorem Vx (k o r e x y:Int) (w:A1) (d:(Int×Int×Int×Int×Unit)×Int×Unit->A1->Prop):(bS D2 (λ_=>[]) 192 [.agg ⟨[aa k,aa o,aa r,aa e]⟩,aa x,aa y] w d)=(
 aN w ⟨[aa k,aa o,aa r,aa e]⟩ 52 λb a=>aN a ⟨[aa 0,aa 0,aa 0,aa 0]⟩ 52 λc a=>aj a none (af b) dR λ(f:Int×Int×Int×Int×Unit)=>True/\aI (!dT f.1 f.2.1 f.2.2.1 f.2.2.2.1) (aC a (af c) [aa 0,aa 0,aa 0,aa 0] λa=>au a λw1=>aj w1 none (af c) dR λ(x:Int×Int×Int×Int×Unit)=>d ((x.1,x.2.1,x.2.2.1,x.2.2.2.1,()),11,()) w1) (true=true/\aU a (ad (af b) 2) λg=>aI (decide (g>0)) (aC a
 (af c) [aa 0,aa 0,aa 0,aa 0] λa=>au a λw1=>aj w1 none (af c) dR λ(x:Int×Int×Int×Int×Unit)=>d ((x.1,x.2.1,x.2.2.1,x.2.2.2.1,()),9,()) w1) (true=true/\aU a (ad (af b) 0) λh=>True/\aI (!decide (x∈fx h)) (aC a (af c) [aa 0,aa 0,aa 0,aa 0] λa=>au a λw1=>aj w1 none (af c) dR λ(x:Int×Int×Int×Int×Unit)=>d ((x.1,x.2.1,x.2.2.1,x.2.2.2.1,()),6,()) w1) (aI (x==5) (true=true/\aU a (ad (af
 b) 1) λi=>aN a ⟨[aa 0,aa 0,aa 0,aa 0]⟩ 52 λb a=>aC a (af b) [aa x,aa i,aa 0,aa 0] λa=>zZ d a b c) (aN a ⟨[aa 0,aa 0,aa 0,aa 0]⟩ 52 λb a=>aC a (af b) [aa x,aa y,aa 0,aa 0] λa=>zZ d a b c))))):=by kernel_rfl
theorem Z8 (k o r e x:Int) (w:A1) (d:(Int×Int×Int×Int×Unit)×Int×Unit->A1->Prop):(bS D2 (λ_=>[]) 228 [.agg ⟨[aa k,aa o,aa r,aa e]⟩,aa x] w d)=(
 aN w ⟨[aa k,aa o,aa r,aa e]⟩ 52 λb a=>aN a ⟨[aa 0,aa 0,aa 0,aa 0]⟩ 52 λc a=>aj a none (af b) dR λ(g:Int×Int×Int×Int×Unit)=>True/\aI (!dT g.1 g.2.1 g.2.2.1 g.2.2.2.1) (aC a (af c) [aa 0,aa 0,aa 0,aa 0] λa=>au a λw1=>aj w1 none (af c) dR λ(x:Int×Int×Int×Int×Unit)=>d ((x.1,x.2.1,x.2.2.1,x.2.2.2.1,()),11,()) w1) (true=true/\aU a (ad (af b) 0) λf=>((f != 2)=true->true=
 true)/\aj a (some (f != 2)) (ad (af b) 0) aS λ(i:Int)=>((f != 2&&i != 3)=true->true=true)/\aj a (some (f != 2&&i != 3)) (ad (af b) 0) aS λ(l:Int)=>aI (f != 2&&i != 3&&l != 4) (aC a (af c) [aa 0,aa 0,aa 0,aa 0] λa=>au a λw1=>aj w1 none (af c) dR λ(x:Int×Int×Int×Int×Unit)=>d ((x.1,x.2.1,x.2.2.1,x.2.2.2.1,()),6,()) w1) (true=true/\aU a (ad (af b) 2) λm=> ∀(h:Int),h=aZ .i64 65535 m->((!decide (x>h))=true->
 true=true)/\aj a (some !decide (x>h)) (ad (af b) 2) aS λ(n:Int)=>aI (decide (x>h)||decide (x<aZ .i64 0 n)) (aC a (af c) [aa 0,aa 0,aa 0,aa 0] λa=>au a λw1=>aj w1 none (af c) dR λ(x:Int×Int×Int×Int×Unit)=>d ((x.1,x.2.1,x.2.2.1,x.2.2.2.1,()),2,()) w1) (true=true/\aU a (ad (af b) 2) λp=> ∀(j:Int),j=aH .i64 p x->true=true/\aC a (ad (af b) 2) [aa j] λa=>aj a none (af b) dR λ(x:Int×Int×Int×Int×Unit)=>
 aC a (af c) [aa x.1,aa x.2.1,aa x.2.2.1,aa x.2.2.2.1] λa=>au a λw1=>aj w1 none (af c) dR λ(x:Int×Int×Int×Int×Unit)=>d ((x.1,x.2.1,x.2.2.1,x.2.2.2.1,()),0,()) w1)))):=by kernel_rfl
def gS (k o r e x y:Int):Int:=if dT k o r e=false then 11 else if r>0 then 9 else if x∈fx k then(if dT x (if x=5 then o else y) 0 0=false then 1 else 0) else 6
def mM (k o r e x y:Int):Int:=if gS k o r e x y=0 then x else 0
def ll (k o r e x y:Int):Int:=if gS k o r e x y=0 then(if x=5 then o else y) else 0
theorem Vy (k o r e x y:Int) (w:A1):aE A2 192 (.bu [(.agg [.int .i64,.int .i64,.int .i64,.int .i64]),.one (.int .i64)]) [.agg ⟨[aa k,aa o,aa r,aa e]⟩,aa x,aa y] w
 (λv w'=>v=((mM k o r e x y,ll k o r e x y,(0:Int),(0:Int),()),gS k o r e x y,())/\Ext w w'):=by
 refine aQ (C:=D2) (aR:=λ_=>[]) (AM (Vx k o r e x y w _) ?_);have H:=At.start [] w
 repeat' (first
  |exact Go.RX.aM.all H
  |exact Am (by first|rfl|decide+kernel) (Go.RX.aM.all H)
  |refine Am (by first|exact rfl|exact trivial|exact λ_=>rfl|exact λ_=>trivial|exact⟨rfl,by decide,by decide⟩|exact⟨by decide,by decide⟩|decide+kernel|exact λ_=>by decide|exact λ_=>⟨rfl,by decide,by decide⟩|(dsimp only[DA,DB];exact⟨rfl,by decide,by decide⟩)) ?_
  |refine aj.cw 0 H rfl rfl ?_
  |refine aj.cw 1 H rfl rfl ?_
  |refine aj.cw 2 H rfl rfl ?_
  |refine aj.at 0 H rfl rfl ?_
  |refine aj.at 1 H rfl rfl ?_
  |refine aj.at 2 H rfl rfl ?_
  |refine aN.go H λb w1 H=>?_
  |refine aC.all 0 H rfl rfl rfl λw1 H=>?_
  |refine aC.all 1 H rfl rfl rfl λw1 H=>?_
  |refine aC.all 2 H rfl rfl rfl λw1 H=>?_
  |refine aC.fS 0 H rfl rfl rfl λw1 H=>?_
  |refine aC.fS 1 H rfl rfl rfl λw1 H=>?_
  |refine aC.fS 2 H rfl rfl rfl λw1 H=>?_
  |refine aC.one 0 H rfl rfl rfl λw1 H=>?_
  |refine aC.one 1 H rfl rfl rfl λw1 H=>?_
  |refine aC.one 2 H rfl rfl rfl λw1 H=>?_
  |with_reducible refine au.go H λw1 H=>?_
  |refine jJ ?_
  |refine aA (by assumption) ?_
  |refine an (by assumption) ?_
  |refine ab (λc=>?_) (λc=>?_))
 all_goals
  refine Am ?_ H.all;simp only[DZ,E4,Dn,Gr,beq_iff_eq,beq_eq_false_iff_ne,bne_iff_ne,bne_eq_false_iff_eq,decide_eq_true_eq,decide_eq_false_iff_not,Gz,H4,E5,H5,and_true,true_and,and_false,false_and,or_true,true_or,or_false,false_or,ne_eq,not_true_eq_false,not_false_eq_true,false_iff,iff_false,true_iff,iff_true] at*
  first
   |(simp[mM,ll,gS, *];done)
   |(subst_vars;simp[mM,ll,gS, *])
def xG (k o r e x:Int):Int:=if dT k o r e=false then 11 else if k=2\/k=3\/k=4 then(if r+x<0\/r+x>65535 then 2 else 0) else 6
def qQ (k o r e x:Int):Int×Int×Int×Int×Unit:=if xG k o r e x=0 then(k,o,r+x,e,()) else(0,0,0,0,())
theorem Z9 (k o r e x:Int) (l: -9223372036854775808<=x/\x<9223372036854775808) (w:A1):aE A2 228 (.bu [(.agg [.int .i64,.int .i64,.int .i64,.int .i64]),.one (.int .i64)]) [.agg ⟨[aa k,aa o,aa r,aa e]⟩,aa x] w
 (λv w'=>v=(qQ k o r e x,xG k o r e x,())/\Ext w w'):=by
 refine aQ (C:=D2) (aR:=λ_=>[]) (AM (Z8 k o r e x w _) ?_);have H:=At.start [] w
 repeat' (first
  |exact Go.RX.aM.all H
  |exact Am (by first|rfl|decide+kernel) (Go.RX.aM.all H)
  |refine Am (by first|exact rfl|exact trivial|exact λ_=>rfl|exact λ_=>trivial|exact⟨rfl,by decide,by decide⟩|exact⟨by decide,by decide⟩|decide+kernel|exact λ_=>by decide|exact λ_=>⟨rfl,by decide,by decide⟩|(dsimp only[DA,DB];exact⟨rfl,by decide,by decide⟩)) ?_
  |refine aj.cw 0 H rfl rfl ?_
  |refine aj.cw 1 H rfl rfl ?_
  |refine aj.cw 2 H rfl rfl ?_
  |refine aj.at 0 H rfl rfl ?_
  |refine aj.at 1 H rfl rfl ?_
  |refine aj.at 2 H rfl rfl ?_
  |refine aN.go H λb w1 H=>?_
  |refine aC.all 0 H rfl rfl rfl λw1 H=>?_
  |refine aC.all 1 H rfl rfl rfl λw1 H=>?_
  |refine aC.all 2 H rfl rfl rfl λw1 H=>?_
  |refine aC.fS 0 H rfl rfl rfl λw1 H=>?_
  |refine aC.fS 1 H rfl rfl rfl λw1 H=>?_
  |refine aC.fS 2 H rfl rfl rfl λw1 H=>?_
  |refine aC.one 0 H rfl rfl rfl λw1 H=>?_
  |refine aC.one 1 H rfl rfl rfl λw1 H=>?_
  |refine aC.one 2 H rfl rfl rfl λw1 H=>?_
  |with_reducible refine au.go H λw1 H=>?_
  |refine jJ ?_
  |refine aA (by assumption) ?_
  |refine an (by assumption) ?_
  |refine ab (λc=>?_) (λc=>?_))
 all_goals
  refine Am ?_ H.all;simp only[DZ,E4,Dn,Gr,beq_iff_eq,beq_eq_false_iff_ne,bne_iff_ne,bne_eq_false_iff_eq,decide_eq_true_eq,decide_eq_false_iff_not,Gz,H4,E5,H5,and_true,true_and,and_false,false_and,or_true,true_or,or_false,false_or,ne_eq,not_true_eq_false,not_false_eq_true,false_iff,iff_false,true_iff,iff_true] at*
 ·simp[qQ,xG, *]
 ·have a: ¬ (k=2\/k=3\/k=4):=by omega
  simp[qQ,xG, *]
 all_goals
  have d:dT k o r e=true:=by assumption
  have g:jK k o r e:=of_decide_eq_true d;unfold jK at g;have h:aZ .i64 65535 r=65535 - r:=bE (by omega) (by omega);have i:aZ .i64 0 r=0 - r:=bE (by omega) (by omega);simp only[h,i] at*
  have a:k=2\/k=3\/k=4:=by omega
 ·have f:r+x<0\/r+x>65535:=by omega
  simp[qQ,xG, *]
 ·have f: ¬ (r+x<0\/r+x>65535):=by omega
  have j:aH .i64 r x=r+x:=aw (by omega) (by omega);have:xG k o r e x=0:=by unfold xG;rw[ao (by rw[d];decide),av a,ao f]
  unfold qQ;rw[this,av rfl,j]
theorem IY {x:Int} (h:0<=x) (h':x<18446744073709551616):(B x).toNat=x.toNat:=by
 have:=Cu h h';unfold U at this;omega
theorem dH (x:Int):aD .u64 x=U (B x):=ZF x
def fE (N:Nat):Int:=((N / 4294967296 % 4294967296:Nat):Int)
theorem acB {x:Int} (h:0<=x) (h':x<4294967296):aD .i64 x=x:=gz (by omega) (by omega)
theorem cE (N:Nat):aD .i64 (fE N)=fE N:=acB (by unfold fE;omega) (by unfold fE;omega)
noncomputable def abC:Entry A2 where
 f:=192
 fn l:=match l with
  |[.agg ⟨[.int .i64 k,.int .i64 o,.int .i64 r,.int .i64 e]⟩,.int .i64 x,.int .i64 y]=>some (True,.tuple ⟨[.agg ⟨[.int .i64 (mM k o r e x y),.int .i64 (ll k o r e x y),.int .i64 0,.int .i64 0]⟩,.int .i64 (gS k o r e x y)]⟩)
  | _=>none
 ok args pre v h a w:=by
  split at h
  ·rename_i k o r e x y;cases h;exact bV (Vy k o r e x y w)
  ·cases h
noncomputable def acC:Entry A2 where
 f:=228
 fn l:=match l with
  |[.agg ⟨[.int .i64 k,.int .i64 o,.int .i64 r,.int .i64 e]⟩,.int .i64 x]=>some ((-9223372036854775808<=x/\x<9223372036854775808),.tuple ⟨[.agg ⟨[.int .i64 (qQ k o r e x).1,.int .i64 (qQ k o r e x).2.1,.int .i64 (qQ k o r e x).2.2.1,.int .i64 (qQ k o r e x).2.2.2.1]⟩,.int .i64 (xG k o r e x)]⟩)
  | _=>none
 ok args pre v h a w:=by
  split at h
  ·rename_i k o r e x;cases h;exact bV (Z9 k o r e x a w)
  ·cases h
noncomputable def D3:dJ A2:={D0 with v7:=false,sW:=[tH,v8,Ge,Gf,Zc,vq,abC,acC]}
noncomputable def E0:dJ A2:={D3 with sh:=[(104,.el (.one (.Au 146 2))),(65,.el (.one (.Au 146 2)))],quiet:=[105,207,62]}
noncomputable def E1:dJ A2:={E0 with cl:=[(201,.Au 105 1)]}
noncomputable def E2:dJ A2:={E0 with cl:=[(201,.Au 207 1)]}
abbrev aaQ:Sh:= .el (.one (.Au 146 2))
theorem Z_ (p:Option AC) (w:A1) (a:Int->A1->Prop):(aK E0 (λ_=>[]) 62 [ag p] w a)=(
 aI p.isNone (au w (a 0)) (fi p 0 w λx=>au w (a (↑x.2.1:Int)))):=by kernel_rfl
theorem Z' (k o r e:Int) (c:Option AC) (w:A1) (d:Bool->A1->Prop):(aK E0 (λ_=>[]) 105 [.agg ⟨[aa k,aa o,aa r,aa e]⟩,ag c] w d)=(
 aN w ⟨[aa k,aa o,aa r,aa e]⟩ 52 λb a=>true=true/\aU a (ad (af b) 0) λx=>aU a c λf=>au a (d (x==f))):=by kernel_rfl
theorem LW (k o r e:Int) (c:Option AC) (w:A1) (d:Bool->A1->Prop):(aK E0 (λ_=>[]) 207 [.agg ⟨[aa k,aa o,aa r,aa e]⟩,ag c] w d)=(
 aN w ⟨[aa k,aa o,aa r,aa e]⟩ 52 λb a=>true=true/\aU a (ad (af b) 1) λx=>aU a c λf=>au a (d (x==f))):=by kernel_rfl
theorem abD (p:Option AC) (k:Int) (w:A1) (c:Option AC×Option AC×Unit->A1->Prop):(aK E0 (λ_=>[]) 65 [ag p,aa k] w c)=(
 aN w ⟨[aa k]⟩ 3 λb a=>az A2 104 (.el (.one (.Au 146 2))) [ag p,.func (.func 105) ⟨[]⟩ {toList:=[ag (af b)]}] a λx a=>au a (c (x.1,x.2.1,()))):=by kernel_rfl
theorem Vz (p c:Option AC) (w:A1) (d:Option AC×Option AC×Unit->A1->Prop):(aK E0 (λ_=>[]) 104 [ag p,.func (.func 105) #[] #[ag c]] w d)=(
 aN w ⟨[ag p]⟩ 36 λb a=>aN a {toList:=[.func (.func 105) ⟨[]⟩ ⟨[ag c]⟩]} 201 λe a=>au a (d (some ⟨b,0,none⟩,some ⟨e,0,none⟩,()))):=by kernel_rfl
theorem RO (p c:Option AC) (w:A1) (d:Option AC×Option AC×Unit->A1->Prop):(aK E0 (λ_=>[]) 104 [ag p,.func (.func 207) #[] #[ag c]] w d)=(
 aN w ⟨[ag p]⟩ 36 λb a=>aN a {toList:=[.func (.func 207) ⟨[]⟩ ⟨[ag c]⟩]} 201 λe a=>au a (d (some ⟨b,0,none⟩,some ⟨e,0,none⟩,()))):=by kernel_rfl
def uH:Nat->a6:=(λ|2=>[(13,Go.RX.El.one (Go.RX.Sc.int B1))]| _=>[])
theorem RP (y:Nat) (p c:Option AC) (w:A1) (f:Unit->A1->Prop):(aK E1 uH 146 [.func (.yield y) #[] #[],ag p,ag c] w f)=(
 gi w p λx=>aI x.isNone (au w (f ())) (gi w p λx=>fi x 0 w λx=> ∃(I:Nat->Int×Unit->A1->Prop),(∃n, ∀w1,Ext w w1->I n (0,()) w1)/\ ∀(n:Nat) (s:Int×Unit) (w1:A1),I n s w1->aI (decide (s.1<(↑x.2.1:Int))) ((x.1.isSome=true/\0<=s.1/\s.1<(↑x.2.1:Int))/\aj w1 none (ad x.1 (Int.toNat s.1*4)) dR λ(x:Int×Int×Int×Int×Unit)=>aN w1 ⟨[aa 0,aa 0,aa 0,aa 0]⟩ 52 λb a=>aC a (af b) [aa x.1,aa x.2.1,aa x.2.2.1,aa x.2.2.2.1] λa=>aj
 a none c (.one (.Au 105 1)) λx=>aj a none (af b) dR λ(g:Int×Int×Int×Int×Unit)=> ∃h,ae A2 105 [.agg ⟨[aa g.1,aa g.2.1,aa g.2.2.1,aa g.2.2.2.1]⟩,ag x.1] a (.bool h)/\aI h (∀w1,Ext a w1->mq A2 y [aa s.1] w1 λ(b:Bool) a=>aI (!b) (au a (f ())) (∀d,Ext a d-> ∃(e:Nat),e<n/\I e (aH .i64 s.1 1,()) d)) (∀d,Ext a d-> ∃(e:Nat),e<n/\I e (aH .i64 s.1 1,()) d)) (au w1 (f ())))):=by kernel_rfl
def ru:Nat->a6:=(λ|2=>[(13,Go.RX.El.one (Go.RX.Sc.int B1))]| _=>[])
theorem LX (y:Nat) (p c:Option AC) (w:A1) (f:Unit->A1->Prop):(aK E2 ru 146 [.func (.yield y) #[] #[],ag p,ag c] w f)=(
 gi w p λx=>aI x.isNone (au w (f ())) (gi w p λx=>fi x 0 w λx=> ∃(I:Nat->Int×Unit->A1->Prop),(∃n, ∀w1,Ext w w1->I n (0,()) w1)/\ ∀(n:Nat) (s:Int×Unit) (w1:A1),I n s w1->aI (decide (s.1<(↑x.2.1:Int))) ((x.1.isSome=true/\0<=s.1/\s.1<(↑x.2.1:Int))/\aj w1 none (ad x.1 (Int.toNat s.1*4)) dR λ(x:Int×Int×Int×Int×Unit)=>aN w1 ⟨[aa 0,aa 0,aa 0,aa 0]⟩ 52 λb a=>aC a (af b) [aa x.1,aa x.2.1,aa x.2.2.1,aa x.2.2.2.1] λa=>aj
 a none c (.one (.Au 207 1)) λx=>aj a none (af b) dR λ(g:Int×Int×Int×Int×Unit)=> ∃h,ae A2 207 [.agg ⟨[aa g.1,aa g.2.1,aa g.2.2.1,aa g.2.2.2.1]⟩,ag x.1] a (.bool h)/\aI h (∀w1,Ext a w1->mq A2 y [aa s.1] w1 λ(b:Bool) a=>aI (!b) (au a (f ())) (∀d,Ext a d-> ∃(e:Nat),e<n/\I e (aH .i64 s.1 1,()) d)) (∀d,Ext a d-> ∃(e:Nat),e<n/\I e (aH .i64 s.1 1,()) d)) (au w1 (f ())))):=by kernel_rfl
theorem RQ (k o r e:Int) (c d:Option AC) (w:A1) (i:(Int×Int×Int×Int×Unit)×Int×Unit->A1->Prop):(bS E0 (λ_=>[]) 191 [.agg ⟨[aa k,aa o,aa r,aa e]⟩,ag c,ag d] w i)=(
 aN w ⟨[aa k,aa o,aa r,aa e]⟩ 52 λb a=>aN a ⟨[aa 0,aa 0,aa 0,aa 0]⟩ 52 λj a=>aj a none (af b) dR λ(x:Int×Int×Int×Int×Unit)=>aU a c λg=>aU a d λh=>True/\aC a (af j) [aa (mM x.1 x.2.1 x.2.2.1 x.2.2.2.1 g h),aa (ll x.1 x.2.1 x.2.2.1 x.2.2.2.1 g h),aa 0,aa 0] λa=>au a λw1=>aj w1 none (af j) dR λ(f:Int×Int×Int×Int×Unit)=>i ((f.1,f.2.1,f.2.2.1,f.2.2.2.1,()),gS x.1 x.2.1
 x.2.2.1 x.2.2.2.1 g h,()) w1):=by kernel_rfl
theorem VA (k o r e:Int) (c:Option AC) (w:A1) (g:(Int×Int×Int×Int×Unit)×Int×Unit->A1->Prop):(bS E0 (λ_=>[]) 227 [.agg ⟨[aa k,aa o,aa r,aa e]⟩,ag c] w g)=(
 aN w ⟨[aa k,aa o,aa r,aa e]⟩ 52 λb a=>aN a ⟨[aa 0,aa 0,aa 0,aa 0]⟩ 52 λh a=>aj a none (af b) dR λ(x:Int×Int×Int×Int×Unit)=>aU a c λd=>(-9223372036854775808<=d/\d<9223372036854775808)/\aC a (af h) [aa (qQ x.1 x.2.1 x.2.2.1 x.2.2.2.1 d).1,aa (qQ x.1 x.2.1 x.2.2.1 x.2.2.2.1 d).2.1,aa (qQ x.1 x.2.1 x.2.2.1 x.2.2.2.1 d).2.2.1,aa (qQ x.1 x.2.1 x.2.2.1 x.2.2.2.1 d).2.2.2.1] λa=>au a λw1=>aj w1 none (af h) dR λ
 (f:Int×Int×Int×Int×Unit)=>g ((f.1,f.2.1,f.2.2.1,f.2.2.2.1,()),xG x.1 x.2.1 x.2.2.1 x.2.2.2.1 d,()) w1):=by kernel_rfl
theorem LY (p:Option AC) (f:Int) (c d:Option AC) (w:A1) (e:Int->A1->Prop):(aK E0 (λ_=>[]) 190 [ag p,aa f,.func (.func 191) #[] #[ag c,ag d]] w e)=(
 ∃(x:Int),ae A2 62 [ag p] w (aa x)/\aI (x==0) (au w (e 10)) (((!decide (f<0))=true->p.isSome=true)/\((!decide (f<0))=true->p.isSome=true)/\aj w (some !decide (f<0)) (ad p 0) eY λx=>aI (decide (f<0)||decide (f>=(↑x.2.1:Int))) (au w (e 2)) (fi p 0 w λx=>(x.1.isSome=true/\0<=f/\f<(↑x.2.1:Int))/\aj w none (ad x.1 (f.toNat*4)) dR λ(x:Int×Int×Int×Int×Unit)=>az A2 191 (.bu [.agg [.int .i64,.int .i64,.int .i64,.int .i64],.one (.int .i64)]) [.agg ⟨[aa x.1,.int .i64
 x.2.1,aa x.2.2.1,aa x.2.2.2.1]⟩,ag c,ag d] w λ(x:(Int×Int×Int×Int×Unit)×Int×Unit) a=>aN a ⟨[aa 0,aa 0,aa 0,aa 0]⟩ 52 λb a=>aC a (af b) [aa x.1.1,aa x.1.2.1,aa x.1.2.2.1,aa x.1.2.2.2.1] λa=>aI (x.2.1==0) (fi p 0 a λh=>aj a none (af b) dR λ(g:Int×Int×Int×Int×Unit)=>(h.1.isSome=true/\0<=f/\f<(↑h.2.1:Int))/\aC a (ad h.1 (f.toNat*4)) [aa g.1,aa g.2.1,aa g.2.2.1,aa g.2.2.2.1]
 λa=>au a (e x.2.1)) (au a (e x.2.1))))):=by kernel_rfl
theorem HQ (p:Option AC) (f:Int) (c:Option AC) (w:A1) (d:Int->A1->Prop):(aK E0 (λ_=>[]) 190 [ag p,aa f,.func (.func 227) #[] #[ag c]] w d)=(
 ∃(x:Int),ae A2 62 [ag p] w (aa x)/\aI (x==0) (au w (d 10)) (((!decide (f<0))=true->p.isSome=true)/\((!decide (f<0))=true->p.isSome=true)/\aj w (some !decide (f<0)) (ad p 0) eY λx=>aI (decide (f<0)||decide (f>=(↑x.2.1:Int))) (au w (d 2)) (fi p 0 w λx=>(x.1.isSome=true/\0<=f/\f<(↑x.2.1:Int))/\aj w none (ad x.1 (f.toNat*4)) dR λ(x:Int×Int×Int×Int×Unit)=>az A2 227 (.bu [.agg [.int .i64,.int .i64,.int .i64,.int .i64],.one (.int .i64)]) [.agg ⟨[aa x.1,.int .i64
 x.2.1,aa x.2.2.1,aa x.2.2.2.1]⟩,ag c] w λ(x:(Int×Int×Int×Int×Unit)×Int×Unit) a=>aN a ⟨[aa 0,aa 0,aa 0,aa 0]⟩ 52 λb a=>aC a (af b) [aa x.1.1,aa x.1.2.1,aa x.1.2.2.1,aa x.1.2.2.2.1] λa=>aI (x.2.1==0) (fi p 0 a λg=>aj a none (af b) dR λ(e:Int×Int×Int×Int×Unit)=>(g.1.isSome=true/\0<=f/\f<(↑g.2.1:Int))/\aC a (ad g.1 (f.toNat*4)) [aa e.1,aa e.2.1,aa e.2.2.1,aa e.2.2.2.1] λa=>au
 a (d x.2.1)) (au a (d x.2.1))))):=by kernel_rfl
theorem VB (p:Option AC) (f k o:Int) (w:A1) (c:Int->A1->Prop):(aK E0 (λ_=>[]) 138 [ag p,aa f,aa k,aa o] w c)=(
 aN w ⟨[aa k]⟩ 3 λb a=>aN a ⟨[aa o]⟩ 3 λd a=>az A2 190 (.el aS) [ag p,aa f,.func (.func 191) ⟨[]⟩ {toList:=[ag (af b),ag (af d)]}] a λ(x:Int) a=>au a (c x)):=by kernel_rfl
theorem VC (p:Option AC) (f x:Int) (w:A1) (c:Int->A1->Prop):(aK E0 (λ_=>[]) 183 [ag p,aa f,aa x] w c)=(
 aN w ⟨[aa x]⟩ 3 λb a=>az A2 190 (.el aS) [ag p,aa f,.func (.func 227) ⟨[]⟩ {toList:=[ag (af b)]}] a λ(x:Int) a=>au a (c x)):=by kernel_rfl
theorem VD (p:Option AC) (f:Int) (w:A1) (a:Int->A1->Prop):(aK E0 (λ_=>[]) 79 [ag p,aa f] w a)=(
 az A2 138 (.el aS) [ag p,aa f,aa 0,aa 0] w λ(x:Int) b=>au b (a x)):=by kernel_rfl
theorem aaa (p:Option AC) (f:Int) (w:A1) (c:(Int×Int×Int×Int×Unit)×Bool×Unit->A1->Prop):(bS E0 (λ_=>[]) 25 [ag p,aa f] w c)=(
 aN w ⟨[aa 0,aa 0,aa 0,aa 0]⟩ 52 λb a=> ∃(x:Int),((!decide (f<0))=true->ae A2 62 [ag p] a (aa x))/\aI (decide (f<0)||decide (f>=x)) (aC a (af b) [aa 0,aa 0,aa 0,aa 0] λa=>au a λw1=>aj w1 none (af b) dR λ(x:Int×Int×Int×Int×Unit)=>c ((x.1,x.2.1,x.2.2.1,x.2.2.2.1,()),false,()) w1) (fi p 0 a λx=>(x.1.isSome=true/\0<=f/\f<(↑x.2.1:Int))/\aj a none (ad x.1 (f.toNat*4)) dR λ(x:Int×Int×Int×Int×Unit)
 =>aC a (af b) [aa x.1,aa x.2.1,aa x.2.2.1,aa x.2.2.2.1] λa=>au a λw1=>aj w1 none (af b) dR λ(x:Int×Int×Int×Int×Unit)=>c ((x.1,x.2.1,x.2.2.1,x.2.2.2.1,()),true,()) w1)):=by kernel_rfl
theorem CY (n:Int) (w:A1) (a:Option AC×Int×Unit->A1->Prop):(aK E0 (λ_=>[]) 72 [aa n] w a)=(
 aI (decide (n<1)||decide (n>4096)) (au w (a (none,1,()))) (N8 w 32 4 n n ⟨[aa 0,aa 0,aa 0,aa 0]⟩ 52 λb c=>aN c {toList:=[.slice (af b) n.toNat n.toNat]} 137 λb c=>au c (a (some ⟨b,0,none⟩,0,())))):=by kernel_rfl
theorem VE (p:Option AC) (w:A1) (a:Option AC->A1->Prop):(aK E0 (λ_=>[]) 54 [ag p] w a)=(
 ∃(x:Int),ae A2 62 [ag p] w (aa x)/\aI (x==0) (au w (a none)) (fi p 0 w λx=> ∀w1,Ext w w1->mF w1 52 4 32 ⟨[aa 0,aa 0,aa 0,aa 0]⟩ (none,0,0) (x.1,x.2.1,x.2.2) λ(r:Option AC×Nat×Nat) c=>aN c ⟨[.slice r.1 r.2.1 r.2.2]⟩ 137 λb c=>au c (a (af b)))):=by kernel_rfl
def uI:Nat->a6:=(λ|3=>[(9,.one (.int .i64))]| _=>[])
theorem RR (p:Option AC) (k:Int) (w:A1) (d:Int->A1->Prop):(bS E0 uI 30 [ag p,aa k] w d)=(
 aN w ⟨[aa 0]⟩ 3 λb c=>aC c (af b) [aa 0] λc=>az A2 65 (.el (.one (.Au 146 2))) [ag p,aa k] c λx c=>An A2 146 (λ(y:Nat)=>[.func (Fn.yield y) ⟨[]⟩ ⟨[]⟩,ag x.1,ag x.2.1]) ⟨[9]⟩ c (λ(x:Int×Unit)=>[aa x.1]) (λ(l:Nat) (rec:Loop) (x:Int×Unit) e (R:Bool->A1->Prop)=>DG l rec [aa x.1].length 1 e (Cl l rec e λa=>aU a (af b) λx=>aC a (af b) [aa (aH .i64 x 1)] λc=>
 sY l rec none c R)) λ(r:Nat) (rec:Loop) f=>dB (r+1) rec f (λa=>aU a (af b) λx=>sZ [r] a λw1=>d x w1) (λ(id:Nat) a=>Decidable.rec (λ(h:id=0->False)=>False) (λ(h:id=0)=>aU a (af b) λx=>sZ [r] a λw1=>d x w1) (match h:id.beq 0 with|true=>isTrue (Gp h)|false=>isFalse (Gq h))) λa=>sZ [r] a λw1=>d 0 w1):=by kernel_rfl
def uJ:Nat->a6:=(λ|4=>[(10,.one (.int .i64))]| _=>[])
theorem RU (p:Option AC) (k:Int) (w:A1) (d:Option AC×Nat×Nat->A1->Prop):(bS E0 uJ 166 [ag p,aa k] w d)=(
 aN w ⟨[aa k]⟩ 3 λb a=>aN a ⟨[.slice none 0 0]⟩ 39 λe a=>az A2 104 (.el (.one (.Au 146 2))) [ag p,.func (.func 207) ⟨[]⟩ {toList:=[ag (af b)]}] a λx a=>An A2 146 (λ(y:Nat)=>[.func (Fn.yield y) ⟨[]⟩ ⟨[]⟩,ag x.1,ag x.2.1]) ⟨[10]⟩ a (λ(x:Int×Unit)=>[aa x.1]) (λ(l:Nat) (rec:Loop) (x:Int×Unit) g (R:Bool->A1->Prop)=>DG l rec [aa x.1].length 1 g (Cl l rec g λc=>tq c (af e) λf=>aN c ⟨[aa x.1]⟩
 3 λb a=> ∀w1,Ext a w1->mF w1 3 1 8 ⟨[aa 0]⟩ (f.1,f.2.1,f.2.2) (some ⟨b,0,none⟩,1,1) λ(r:Option AC×Nat×Nat) a=>aC a (af e) [.slice r.1 r.2.1 r.2.2] λa=>sY l rec none a R)) λ(r:Nat) (rec:Loop) i=>dB (r+1) rec i (λc=>tq c (af e) λx=>sZ [r] c λw1=>d (x.1,x.2.1,x.2.2) w1) (λ(id:Nat) c=>Decidable.rec (λ(h:id=0->False)=>False) (λ(h:id=0)=>tq c (af e) λx=>sZ [r] c λw1=>d (x.1,
 x.2.1,x.2.2) w1) (match h:id.beq 0 with|true=>isTrue (Gp h)|false=>isFalse (Gq h))) λc=>sZ [r] c λw1=>d (none,0,0) w1):=by kernel_rfl
def wT:Nat->a6:=(λ|5=>[(15,.one (.int .i64))]| _=>[])
theorem VF (p:Option AC) (k o:Int) (w:A1) (g:Int×Int×Unit->A1->Prop):(bS E0 wT 172 [ag p,aa k,aa o] w g)=(
 aN w ⟨[ag p]⟩ 36 λb a=>aN a ⟨[aa k]⟩ 3 λn a=>aN a ⟨[aa o]⟩ 3 λq a=>aN a ⟨[aa 0]⟩ 3 λd a=>aN a ⟨[aa 0]⟩ 46 λe a=>gi a (af b) λx=> ∃(i:Int),ae A2 62 [ag x] a (aa i)/\aI (i==0) (aC a (af d) [aa 0] λa=>aC a (af e) [aa 10] λa=>au a λw1=>aU w1 (af d) λx=>aU w1 (af e) λf=>
 g (x,f,()) w1) (gi a (af b) λx=>az A2 65 (.el (.one (.Au 146 2))) [ag x,aa 0] a λx a=>An A2 146 (λ(y:Nat)=>[.func (Fn.yield y) ⟨[]⟩ ⟨[]⟩,ag x.1,ag x.2.1]) ⟨[15]⟩ a (λ(x:Int×Unit)=>[aa x.1]) (λ(l:Nat) (rec:Loop) (x:Int×Unit) j (R:Bool->A1->Prop)=>DG l rec [aa x.1].length 1 j (Cl l rec j λc=>gi c (af b) λf=>aU c (af n) λs=>aj c none
 (af q) aS λ(t:Int)=>az A2 138 (.el aS) [ag f,aa x.1,aa s,aa t] c λ(m:Int) a=>aI (m != 0) (aC a (af d) [aa 0] λa=>aC a (af e) [aa m] λa=>sY l rec (some Code.ret) a R) (aC a (af d) [aa x.1] λa=>aC a (af e) [aa 0] λa=>sY l rec (some Code.ret) a R))) λ(r:Nat) (rec:Loop) u=>dB (r+1) rec u (λc=>aC c (af d) [aa 0]
 λa=>aC a (af e) [aa 12] λa=>sZ [r] a λw1=>aU w1 (af d) λx=>aU w1 (af e) λf=>g (x,f,()) w1) (λ(id:Nat) c=>Decidable.rec (λ(h:id=0->False)=>False) (λ(h:id=0)=>aC c (af d) [aa 0] λa=>aC a (af e) [aa 12] λa=>sZ [r] a λw1=>aU w1 (af d) λx=>aj w1 none (af e) aS
 λ(f:Int)=>g (x,f,()) w1) (match h:id.beq 0 with|true=>isTrue (Gp h)|false=>isFalse (Gq h))) λc=>sZ [r] c λw1=>aU w1 (af d) λx=>aU w1 (af e) λf=>g (x,f,()) w1)):=by kernel_rfl
abbrev sD:List Sc:=[.int .i64,.int .i64,.int .i64,.int .i64]
abbrev eD:El:= .agg sD
abbrev DT:Type:=Int×Int×Int×Int×Unit
def zD:DT:=(0,0,0,0,())
theorem sj {w:A1} {bp n c:Nat} {a:Option AC} (h:bK w bp [.slice a n c]):aE A2 62 (.el (.one (.int .i64))) [ag (af bp)] w (λx w'=>x=(n:Int)/\Ext w w'):=by
 refine ai (C:=E0) (aR:=λ_=>[]) (AM (Z_ _ w _) ?_);have H:=At.start [] w;refine an rfl ⟨rfl,rfl,aj.k_ H h (by simp) rfl ?_⟩
 repeat' (first
  |exact Go.RX.aM.all H
  |exact Am (by first|rfl|decide+kernel) (Go.RX.aM.all H)
  |refine Am (by first|exact rfl|exact trivial|exact λ_=>rfl|exact λ_=>trivial|exact⟨rfl,by decide,by decide⟩|exact⟨by decide,by decide⟩|decide+kernel|exact λ_=>by decide|exact λ_=>⟨rfl,by decide,by decide⟩|(dsimp only[DA,DB];exact⟨rfl,by decide,by decide⟩)) ?_
  |refine aj.cw 0 H rfl rfl ?_
  |refine aj.at 0 H rfl rfl ?_
  |refine aN.go H λb w1 H=>?_
  |refine aC.all 0 H rfl rfl rfl λw1 H=>?_
  |refine aC.fS 0 H rfl rfl rfl λw1 H=>?_
  |refine aC.one 0 H rfl rfl rfl λw1 H=>?_
  |with_reducible refine au.go H λw1 H=>?_
  |refine jJ ?_
  |refine aA (by assumption) ?_
  |refine an (by assumption) ?_
  |refine ab (λc=>?_) (λc=>?_))
theorem aab {w:A1} {kc:Nat} {v:Int} (h:bK w kc [aa v]) (d:DT):aE A2 105 (.el (.one .bool)) [.agg ⟨a_ sD d⟩,ag (af kc)] w (λx w'=>x=(d.1==v)/\Ext w w'):=by
 obtain⟨k,o,r,e,u⟩:=d;refine ai (C:=E0) (aR:=λ_=>[]) (AM (Z' k o r e _ w _) ?_);have H:=At.start [] w
 repeat' (first
  |refine aj.fG H h (by simp) rfl ?_
  |exact Go.RX.aM.all H
  |exact Am (by first|rfl|decide+kernel) (Go.RX.aM.all H)
  |refine Am (by first|exact rfl|exact trivial|exact λ_=>rfl|exact λ_=>trivial|exact⟨rfl,by decide,by decide⟩|exact⟨by decide,by decide⟩|decide+kernel|exact λ_=>by decide|exact λ_=>⟨rfl,by decide,by decide⟩|(dsimp only[DA,DB];exact⟨rfl,by decide,by decide⟩)) ?_
  |refine aj.cw 0 H rfl rfl ?_
  |refine aj.at 0 H rfl rfl ?_
  |refine aN.go H λb w1 H=>?_
  |refine aC.all 0 H rfl rfl rfl λw1 H=>?_
  |refine aC.fS 0 H rfl rfl rfl λw1 H=>?_
  |refine aC.one 0 H rfl rfl rfl λw1 H=>?_
  |with_reducible refine au.go H λw1 H=>?_
  |refine jJ ?_
  |refine aA (by assumption) ?_
  |refine an (by assumption) ?_
  |refine ab (λc=>?_) (λc=>?_))
theorem LZ {w:A1} {kc:Nat} {v:Int} (h:bK w kc [aa v]) (d:DT):aE A2 207 (.el (.one .bool)) [.agg ⟨a_ sD d⟩,ag (af kc)] w (λx w'=>x=(d.2.1==v)/\Ext w w'):=by
 obtain⟨k,o,r,e,u⟩:=d;refine ai (C:=E0) (aR:=λ_=>[]) (AM (LW k o r e _ w _) ?_);have H:=At.start [] w
 repeat' (first
  |refine aj.fG H h (by simp) rfl ?_
  |exact Go.RX.aM.all H
  |exact Am (by first|rfl|decide+kernel) (Go.RX.aM.all H)
  |refine Am (by first|exact rfl|exact trivial|exact λ_=>rfl|exact λ_=>trivial|exact⟨rfl,by decide,by decide⟩|exact⟨by decide,by decide⟩|decide+kernel|exact λ_=>by decide|exact λ_=>⟨rfl,by decide,by decide⟩|(dsimp only[DA,DB];exact⟨rfl,by decide,by decide⟩)) ?_
  |refine aj.cw 0 H rfl rfl ?_
  |refine aj.at 0 H rfl rfl ?_
  |refine aN.go H λb w1 H=>?_
  |refine aC.all 0 H rfl rfl rfl λw1 H=>?_
  |refine aC.fS 0 H rfl rfl rfl λw1 H=>?_
  |refine aC.one 0 H rfl rfl rfl λw1 H=>?_
  |with_reducible refine au.go H λw1 H=>?_
  |refine jJ ?_
  |refine aA (by assumption) ?_
  |refine an (by assumption) ?_
  |refine ab (λc=>?_) (λc=>?_))
section
variable {D G:List Nat} {w0 w:A1} {L:List (Nat×List AL)}
theorem tI (H:aM D G w0 w L) (p:Option AC) (k:Int) {K:Option AC×Option AC×Unit->A1->Prop}
 (a: ∀pc ic kc w1,aM D G w0 w1 ((ic,[.func (.func 105) #[] #[ag (af kc)]])::(pc,[ag p])::(kc,[aa k])::L)->K (some ⟨pc,0,none⟩,some ⟨ic,0,none⟩,()) w1):
 az A2 65 aaQ [ag p,aa k] w K:=by
 refine az.go H λw1 H=>ai (C:=E0) (aR:=λ_=>[]) (AM (abD p k w1 K) ?_);refine aN.go H λkc d H=>az.go H λb H=>ai (C:=E0) (aR:=λ_=>[]) (AM (Vz p _ b _) ?_);refine aN.go H λpc e H=>aN.go H λic f H=>au.go H λg H=>au.go H λc H=>?_;exact a pc ic kc c H
theorem VG (H:aM D G w0 w L) (p c:Option AC) {K:Option AC×Option AC×Unit->A1->Prop}
 (a: ∀pc ic w1,aM D G w0 w1 ((ic,[.func (.func 207) #[] #[ag c]])::(pc,[ag p])::L)->K (some ⟨pc,0,none⟩,some ⟨ic,0,none⟩,()) w1):
 az A2 104 aaQ [ag p,.func (.func 207) #[] #[ag c]] w K:=by
 refine az.go H λw1 H=>ai (C:=E0) (aR:=λ_=>[]) (AM (RO p c w1 K) ?_);refine aN.go H λpc d H=>aN.go H λic e H=>au.go H λb H=>?_;exact a pc ic b H
end
def PH (fn:FuncId) (pc ic kc bp bf c:Nat) (v:Int) (ds:List DT) (rest:List AL) (w:A1):Prop:=
 bK w pc [ag (af bp)]/\bK w ic [.func (.func fn) #[] #[ag (af kc)]]/\bK w kc [aa v]/\bK w bp [.slice (af bf) ds.length c]/\bK w bf (flat eD ds++rest)
theorem EJ {pc ic kc bp bf c:Nat} {v:Int} {ds:List DT} {rest:List AL} (O:ds.length<=4096):
 Uu A2 146 (λy=>[.func (.yield y) #[] #[],ag (af pc),ag (af ic)]) ds.length
  (λi=>match ds[i]? with
   |some d=>if d.1=v then some [aa (i:Nat)] else none
   |none=>none) (PH 105 pc ic kc bp bf c v ds rest):=by
 intro y w J D a E o F G h0;have key:aE A2 146 (u9 E1 146) [.func (.yield y) #[] #[],ag (af pc),ag (af ic)] w (λ_ w'=>J ds.length w'\/D w'):=by
  refine ai (C:=E1) (aR:=uH) (AM (RP y _ _ w _) ?_);obtain⟨s1,p,q,r,t⟩:=o 0 w h0;refine aj.of _ (s1.oK rfl) (an rfl (aj.of _ (s1.oK rfl) ⟨rfl,rfl,aj.of (some ⟨bf,0,none⟩,ds.length,c) (by rw[aW];exact r.oK rfl) ?_⟩));refine⟨λn s w'=> ∃i:Nat,s.1=i/\n+i=ds.length/\J i w',⟨ds.length,λw1 h1=>⟨0,rfl,rfl,a _ _ _ h0 h1⟩⟩,?_⟩;rintro n ⟨P,u⟩ w1 ⟨i,hi,Q,f⟩;simp only at hi;subst hi;dsimp only;refine ab (λc=>?_) (λc=>?_)
  ·have k:i<ds.length:=by simp only[decide_eq_true_eq] at c;omega
   obtain⟨s1,p,q,r,t⟩:=o i w1 f;have h:ds[i]? =some ds[i]:=Ap k;refine⟨⟨rfl,by omega,by omega⟩,aj.of ds[i] (fZ t h) ?_⟩;have H:=At.start [] w1;have next: ∀w',J (i+1) w'-> ∀g,Ext w' g-> ∃z,z<n/\ ∃j:Nat,aH .i64 (i:Nat) 1=j/\z+j=ds.length/\J j g:=λw' l g m=>
    ⟨n - 1,by omega,i+1,by rw[aw (by omega) (by omega)];rfl,by omega,a _ _ _ l m⟩
   generalize I:ds[i]=d;rw[I] at h;refine aN.go H λb A H=>aC.all 0 H rfl rfl rfl λA H=>aj.of (some ⟨kc,0,none⟩,()) ((H.fG p (by simp)).oK rfl) (aj.at 0 H rfl rfl ?_);have B:=a _ _ _ f H.all;refine⟨d.1==v,ae.of (s:= .el (.one .bool)) λw' h'=>aab ((H.fG q (by simp)).ext h') d,ab (λc=>λg m=>?_) (λc=>?_)⟩
   ·refine G i _ k (by simp only[h];rw[av (by simpa using c)]) g _ (a _ _ _ B m) (λw' l=>?_) (λw' K=>?_)
    ·exact an rfl (next w' l)
    ·exact aA rfl λR L=> .inr (E _ _ K L)
   ·exact next _ (F i k (by simp only[h];rw[ao (by simpa using c)]) _ B)
  ·have:i=ds.length:=by simp only[decide_eq_false_iff_not] at c;omega
   subst this;exact λA M=> .inl (a _ _ _ f M)
 exact Calls.mono key λe w' ⟨x,N,f⟩=>⟨_,N,f⟩
theorem RV {pc ic kc bp bf c:Nat} {v:Int} {ds:List DT} {rest:List AL} (O:ds.length<=4096):
 Uu A2 146 (λy=>[.func (.yield y) #[] #[],ag (af pc),ag (af ic)]) ds.length
  (λi=>match ds[i]? with
   |some d=>if d.2.1=v then some [aa (i:Nat)] else none
   |none=>none) (PH 207 pc ic kc bp bf c v ds rest):=by
 intro y w J D a E o F G h0;have key:aE A2 146 (u9 E2 146) [.func (.yield y) #[] #[],ag (af pc),ag (af ic)] w (λ_ w'=>J ds.length w'\/D w'):=by
  refine ai (C:=E2) (aR:=ru) (AM (LX y _ _ w _) ?_);obtain⟨s1,p,q,r,t⟩:=o 0 w h0;refine aj.of _ (s1.oK rfl) (an rfl (aj.of _ (s1.oK rfl) ⟨rfl,rfl,aj.of (some ⟨bf,0,none⟩,ds.length,c) (by rw[aW];exact r.oK rfl) ?_⟩));refine⟨λn s w'=> ∃i:Nat,s.1=i/\n+i=ds.length/\J i w',⟨ds.length,λw1 h1=>⟨0,rfl,rfl,a _ _ _ h0 h1⟩⟩,?_⟩;rintro n ⟨P,u⟩ w1 ⟨i,hi,Q,f⟩;simp only at hi;subst hi;dsimp only;refine ab (λc=>?_) (λc=>?_)
  ·have k:i<ds.length:=by simp only[decide_eq_true_eq] at c;omega
   obtain⟨s1,p,q,r,t⟩:=o i w1 f;have h:ds[i]? =some ds[i]:=Ap k;refine⟨⟨rfl,by omega,by omega⟩,aj.of ds[i] (fZ t h) ?_⟩;have H:=At.start [] w1;have next: ∀w',J (i+1) w'-> ∀g,Ext w' g-> ∃z,z<n/\ ∃j:Nat,aH .i64 (i:Nat) 1=j/\z+j=ds.length/\J j g:=λw' l g m=>
    ⟨n - 1,by omega,i+1,by rw[aw (by omega) (by omega)];rfl,by omega,a _ _ _ l m⟩
   generalize I:ds[i]=d;rw[I] at h;refine aN.go H λb A H=>aC.all 0 H rfl rfl rfl λA H=>aj.of (some ⟨kc,0,none⟩,()) ((H.fG p (by simp)).oK rfl) (aj.at 0 H rfl rfl ?_);have B:=a _ _ _ f H.all;refine⟨d.2.1==v,ae.of (s:= .el (.one .bool)) λw' h'=>LZ ((H.fG q (by simp)).ext h') d,ab (λc=>λg m=>?_) (λc=>?_)⟩
   ·refine G i _ k (by simp only[h];rw[av (by simpa using c)]) g _ (a _ _ _ B m) (λw' l=>?_) (λw' K=>?_)
    ·exact an rfl (next w' l)
    ·exact aA rfl λR L=> .inr (E _ _ K L)
   ·exact next _ (F i k (by simp only[h];rw[ao (by simpa using c)]) _ B)
  ·have:i=ds.length:=by simp only[decide_eq_false_iff_not] at c;omega
   subst this;exact λA M=> .inl (a _ _ _ f M)
 exact Calls.mono key λe w' ⟨x,N,f⟩=>⟨_,N,f⟩
def aO (k o:Int) (d:DT):DT×Int:=((mM d.1 d.2.1 d.2.2.1 d.2.2.2.1 k o,ll d.1 d.2.1 d.2.2.1 d.2.2.2.1 k o,0,0,()),gS d.1 d.2.1 d.2.2.1 d.2.2.2.1 k o)
def ia (x:Int) (d:DT):DT×Int:=(qQ d.1 d.2.1 d.2.2.1 d.2.2.2.1 x,xG d.1 d.2.1 d.2.2.1 d.2.2.2.1 x)
def vT (ds:List DT) (f:Int) (g:DT->DT×Int):Int:=if ds.length=0 then 10 else if f<0\/f>=ds.length then 2 else(g (ds.getD f.toNat zD)).2
def dL (ds:List DT) (f:Int) (g:DT->DT×Int):List DT:=if f<0\/f>=ds.length then ds else if(g (ds.getD f.toNat zD)).2=0 then ds.set f.toNat (g (ds.getD f.toNat zD)).1 else ds
theorem BH {ds:List DT} (h:ds.length=0) (f:Int) (g:DT->DT×Int):vT ds f g=10:=av h
theorem BI {ds:List DT} (h:ds.length=0) (f:Int) (g:DT->DT×Int):dL ds f g=ds:=av (by omega)
theorem Jz {ds:List DT} (h:ds.length≠0) {f:Int} (h1:f<0\/f>=ds.length) (g:DT->DT×Int):vT ds f g=2:=by grind[vT]
theorem yb {ds:List DT} {f:Int} (h1:f<0\/f>=ds.length) (g:DT->DT×Int):dL ds f g=ds:=av h1
theorem y7 {ds:List DT} {f:Int} (h1:0<=f/\f<ds.length) (g:DT->DT×Int):vT ds f g=(g (ds.getD f.toNat zD)).2:=by grind[vT]
theorem pJ {ds:List DT} {f:Int} (h1:0<=f/\f<ds.length) (g:DT->DT×Int):dL ds f g=if(g (ds.getD f.toNat zD)).2=0 then ds.set f.toNat (g (ds.getD f.toNat zD)).1 else ds:=by grind[dL]
theorem ji (ds:List DT) (f:Int) (g:DT->DT×Int):(dL ds f g).length=ds.length:=by grind[dL]
theorem RW {w:A1} {kc oc:Nat} {k o:Int} (f:bK w kc [aa k]) (g:bK w oc [aa o]) (d:DT):aE A2 191 (.bu [eD,.one (.int .i64)]) [.agg ⟨a_ sD d⟩,ag (af kc),ag (af oc)] w
 (λv w'=>v=((aO k o d).1,(aO k o d).2,())/\Ext w w'):=by
 obtain⟨a,b,c,e,u⟩:=d;refine aQ (C:=E0) (aR:=λ_=>[]) (AM (RQ a b c e _ _ w _) ?_);have H:=At.start [] w
 repeat' (first
  |refine aj.fG H f (by simp) rfl ?_
  |refine aj.fG H g (by simp) rfl ?_
  |exact Go.RX.aM.all H
  |exact Am (by first|rfl|decide+kernel) (Go.RX.aM.all H)
  |refine Am (by simp) ?_
  |refine aj.cw 0 H rfl rfl ?_
  |refine aj.cw 1 H rfl rfl ?_
  |refine aj.at 0 H rfl rfl ?_
  |refine aj.at 1 H rfl rfl ?_
  |refine aN.go H λb w1 H=>?_
  |refine aC.all 0 H rfl rfl rfl λw1 H=>?_
  |refine aC.all 1 H rfl rfl rfl λw1 H=>?_
  |refine aC.fS 0 H rfl rfl rfl λw1 H=>?_
  |with_reducible refine au.go H λw1 H=>?_
  |refine jJ ?_
  |refine aA (by assumption) ?_
  |refine an (by assumption) ?_
  )
theorem VH {w:A1} {kc:Nat} {k:Int} (f:bK w kc [aa k]) (hi: -9223372036854775808<=k/\k<9223372036854775808) (d:DT):aE A2 227 (.bu [eD,.one (.int .i64)]) [.agg ⟨a_ sD d⟩,ag (af kc)] w
 (λv w'=>v=((ia k d).1,(ia k d).2,())/\Ext w w'):=by
 obtain⟨a,b,c,e,u⟩:=d;refine aQ (C:=E0) (aR:=λ_=>[]) (AM (VA a b c e _ w _) ?_);have H:=At.start [] w
 repeat' (first
  |refine aj.fG H f (by simp) rfl ?_
  |refine Am hi ?_
  |exact Go.RX.aM.all H
  |exact Am (by first|rfl|decide+kernel) (Go.RX.aM.all H)
  |refine aj.cw 0 H rfl rfl ?_
  |refine aj.cw 1 H rfl rfl ?_
  |refine aj.at 0 H rfl rfl ?_
  |refine aj.at 1 H rfl rfl ?_
  |refine aN.go H λb w1 H=>?_
  |refine aC.all 0 H rfl rfl rfl λw1 H=>?_
  |refine aC.all 1 H rfl rfl rfl λw1 H=>?_
  |with_reducible refine au.go H λw1 H=>?_
  |refine jJ ?_
  |refine aA (by assumption) ?_
  |refine an (by assumption) ?_
  )
theorem HR {w:A1} {bp bf c kc oc:Nat} {k o:Int} {ds:List DT} {rest:List AL} (a:bK w bp [.slice (af bf) ds.length c]) (q:bK w bf (flat eD ds++rest)) (r:bp≠bf) (B:ds.length<=4096) (t:bK w kc [aa k]) (u:bK w oc [aa o]) (v:kc≠bf) (x:oc≠bf) (f:Int):
 aE A2 190 (.el (.one (.int .i64))) [ag (af bp),aa f,.func (.func 191) #[] #[ag (af kc),ag (af oc)]] w
  (λe w'=>e=vT ds f (aO k o)/\bK w' bf (flat eD (dL ds f (aO k o))++rest)/\Fr [bf] w w'):=by
 refine ai (C:=E0) (aR:=λ_=>[]) (AM (LY _ f _ _ w _) ?_);have H:=At.se q;have g:bp∉[bf]:=by simpa using r
 refine⟨(ds.length:Int),ae.of (s:= .el (.one (.int .i64))) λw' h=>sj (a.ext h),ab (λc0=>au.go H λw1 H=>?_) (λc0=>⟨λ_=>rfl,λ_=>rfl,aj.k_ H a g rfl (ab (λc1=>au.go H λw1 H=>?_) (λc1=>?_))⟩)⟩
 ·have h0:ds.length=0:=by simp only[beq_iff_eq] at c0;omega
  exact⟨(BH h0 f _).symm,by rw[BI h0];exact H.get (i:=0) rfl,H.fr⟩
 ·have h0:ds.length≠0:=by simp only[beq_eq_false_iff_ne,ne_eq] at c0;omega
  have h1:f<0\/f>=ds.length:=by simpa using c1
  exact⟨(Jz h0 h1 _).symm,by rw[yb h1];exact H.get (i:=0) rfl,H.fr⟩
 ·have h1:0<=f/\f<ds.length:=by grind
  have n:f.toNat<ds.length:=by omega
  have p:ds[f.toNat]? =some ds[f.toNat]:=Ap n;have y:ds.getD f.toNat zD=ds[f.toNat]:=by rw[Az,p];rfl
  have j:=y7 h1 (aO k o);have l:=pJ h1 (aO k o);rw[y] at j l;generalize D:ds[f.toNat]=d at*
  refine⟨rfl,rfl,aj.k_ H a g rfl ⟨⟨rfl,h1.1,h1.2⟩,aj.of d (fZ (H.get (i:=0) rfl) p) ?_⟩⟩;refine az.val H (s:= .bu [eD,.one (.int .i64)]) (((aO k o) d).1,((aO k o) d).2,()) (λw1 H=>RW (H.fG t (by simpa using v)) (H.fG u (by simpa using x)) d) λw1 H=>?_;refine aN.go H λb z H=>aC.all 0 H rfl rfl rfl λz H=>ab (λc2=>⟨rfl,rfl,aj.k_ H a g rfl (aj.at 0 H rfl rfl ⟨⟨rfl,h1.1,h1.2⟩,?_⟩)⟩) (λc2=>au.go H λA H=>?_)
  ·have m:((aO k o) d).2=0:=by simpa using c2
   refine aC.flat (e:=eD) 1 H (xs:=ds) (rest:=rest) ((aO k o) d).1 rfl rfl rfl n λA H=>au.go H λE H=>?_;exact⟨j.symm,by rw[l,av m];exact H.get (i:=1) rfl,H.fr⟩
  ·have m: ¬ ((aO k o) d).2=0:=by simpa using c2
   exact⟨j.symm,by rw[l,ao m];exact H.get (i:=1) rfl,H.fr⟩
theorem HT {w:A1} {bp bf c kc:Nat} {k:Int} {ds:List DT} {rest:List AL} (a:bK w bp [.slice (af bf) ds.length c]) (p:bK w bf (flat eD ds++rest)) (q:bp≠bf) (y:ds.length<=4096) (r:bK w kc [aa k]) (t:kc≠bf) (hi: -9223372036854775808<=k/\k<9223372036854775808) (f:Int):
 aE A2 190 (.el (.one (.int .i64))) [ag (af bp),aa f,.func (.func 227) #[] #[ag (af kc)]] w
  (λe w'=>e=vT ds f (ia k)/\bK w' bf (flat eD (dL ds f (ia k))++rest)/\Fr [bf] w w'):=by
 refine ai (C:=E0) (aR:=λ_=>[]) (AM (HQ _ f _ w _) ?_);have H:=At.se p;have g:bp∉[bf]:=by simpa using q
 refine⟨(ds.length:Int),ae.of (s:= .el (.one (.int .i64))) λw' h=>sj (a.ext h),ab (λc0=>au.go H λw1 H=>?_) (λc0=>⟨λ_=>rfl,λ_=>rfl,aj.k_ H a g rfl (ab (λc1=>au.go H λw1 H=>?_) (λc1=>?_))⟩)⟩
 ·have h0:ds.length=0:=by simp only[beq_iff_eq] at c0;omega
  exact⟨(BH h0 f _).symm,by rw[BI h0];exact H.get (i:=0) rfl,H.fr⟩
 ·have h0:ds.length≠0:=by simp only[beq_eq_false_iff_ne,ne_eq] at c0;omega
  have h1:f<0\/f>=ds.length:=by simpa using c1
  exact⟨(Jz h0 h1 _).symm,by rw[yb h1];exact H.get (i:=0) rfl,H.fr⟩
 ·have h1:0<=f/\f<ds.length:=by grind
  have n:f.toNat<ds.length:=by omega
  have o:ds[f.toNat]? =some ds[f.toNat]:=Ap n;have u:ds.getD f.toNat zD=ds[f.toNat]:=by rw[Az,o];rfl
  have j:=y7 h1 (ia k);have l:=pJ h1 (ia k);rw[u] at j l;generalize z:ds[f.toNat]=d at*
  refine⟨rfl,rfl,aj.k_ H a g rfl ⟨⟨rfl,h1.1,h1.2⟩,aj.of d (fZ (H.get (i:=0) rfl) o) ?_⟩⟩;refine az.val H (s:= .bu [eD,.one (.int .i64)]) (((ia k) d).1,((ia k) d).2,()) (λw1 H=>VH (H.fG r (by simpa using t)) hi d) λw1 H=>?_;refine aN.go H λb v H=>aC.all 0 H rfl rfl rfl λv H=>ab (λc2=>⟨rfl,rfl,aj.k_ H a g rfl (aj.at 0 H rfl rfl ⟨⟨rfl,h1.1,h1.2⟩,?_⟩)⟩) (λc2=>au.go H λx H=>?_)
  ·have m:((ia k) d).2=0:=by simpa using c2
   refine aC.flat (e:=eD) 1 H (xs:=ds) (rest:=rest) ((ia k) d).1 rfl rfl rfl n λx H=>au.go H λA H=>?_;exact⟨j.symm,by rw[l,av m];exact H.get (i:=1) rfl,H.fr⟩
  ·have m: ¬ ((ia k) d).2=0:=by simpa using c2
   exact⟨j.symm,by rw[l,ao m];exact H.get (i:=1) rfl,H.fr⟩
theorem CZ {w:A1} {bp bf c:Nat} {ds:List DT} {rest:List AL} (a:bK w bp [.slice (af bf) ds.length c]) (b:bK w bf (flat eD ds++rest)) (d:bp≠bf) (g:ds.length<=4096) (f k o:Int):
 aE A2 138 (.el (.one (.int .i64))) [ag (af bp),aa f,aa k,aa o] w (λe w'=>e=vT ds f (aO k o)/\bK w' bf (flat eD (dL ds f (aO k o))++rest)/\Fr [bf] w w'):=by
 refine ai (AM (VB _ f k o w _) ?_);have H:=At.se b;have h:bp∉[bf]:=by simpa
 refine aN.go H λkc w1 H=>aN.go H λoc m H=>?_;refine az.DW H 2 rfl (λl H=>HR (H.fG a h) (H.get (i:=2) rfl) d g (H.get (i:=1) rfl) (H.get (i:=0) rfl) (H.ne (i:=1) (j:=2) rfl rfl (by decide)) (H.ne (i:=0) (j:=2) rfl rfl (by decide)) f) λl H=>au.go H λn H=>?_;exact⟨rfl,H.get (i:=2) rfl,H.fr⟩
theorem VI {w:A1} {bp bf c:Nat} {ds:List DT} {rest:List AL} (a:bK w bp [.slice (af bf) ds.length c]) (b:bK w bf (flat eD ds++rest)) (d:bp≠bf) (g:ds.length<=4096) (f x:Int) (hi: -9223372036854775808<=x/\x<9223372036854775808):
 aE A2 183 (.el (.one (.int .i64))) [ag (af bp),aa f,aa x] w (λe w'=>e=vT ds f (ia x)/\bK w' bf (flat eD (dL ds f (ia x))++rest)/\Fr [bf] w w'):=by
 refine ai (AM (VC _ f x w _) ?_);have H:=At.se b;have h:bp∉[bf]:=by grind
 refine aN.go H λkc w1 H=>?_;refine az.DW H 1 rfl (λk H=>HT (H.fG a h) (H.get (i:=1) rfl) d g (H.get (i:=0) rfl) (H.ne (i:=0) (j:=1) rfl rfl (by decide)) hi f) λk H=>au.go H λl H=>?_;exact⟨rfl,H.get (i:=1) rfl,H.fr⟩
theorem VJ {w:A1} {bp bf c:Nat} {ds:List DT} {rest:List AL} (a:bK w bp [.slice (af bf) ds.length c]) (b:bK w bf (flat eD ds++rest)) (d:bp≠bf) (g:ds.length<=4096) (f:Int):
 aE A2 79 (.el (.one (.int .i64))) [ag (af bp),aa f] w (λe w'=>e=vT ds f (aO 0 0)/\bK w' bf (flat eD (dL ds f (aO 0 0))++rest)/\Fr [bf] w w'):=by
 refine ai (AM (VD _ f w _) ?_);have H:=At.se b;have h:bp∉[bf]:=by grind
 refine az.DW H 0 rfl (λj H=>CZ (H.fG a h) (H.get (i:=0) rfl) d g f 0 0) λj H=>au.go H λk H=>?_;exact⟨rfl,H.get (i:=0) rfl,H.fr⟩
def oV (ds:List DT) (f:Int):DT:=if f<0\/f>=ds.length then zD else ds.getD f.toNat zD
def xR (ds:List DT) (f:Int):Bool:= !(decide (f<0\/f>=ds.length))
theorem G4 {w:A1} {bp bf c:Nat} {ds:List DT} {rest:List AL} (e:bK w bp [.slice (af bf) ds.length c]) (i:bK w bf (flat eD ds++rest)) (f:Int):
 aE A2 25 (.bu [eD,.one .bool]) [ag (af bp),aa f] w (λv w'=>v=(oV ds f,xR ds f,())/\Ext w w'):=by
 refine aQ (C:=E0) (aR:=λ_=>[]) (AM (aaa _ f w _) ?_);have H:=At.start [] w;refine aN.go H λb w1 H=>⟨(ds.length:Int),λ_=>ae.of (s:= .el (.one (.int .i64))) λw' h=>sj ((H.fG e (by simp)).ext h),ab (λc1=>?_) (λc1=>?_)⟩
 ·have h1:f<0\/f>=ds.length:=by simpa using c1
  have a:oV ds f=zD:=av h1;have d:xR ds f=false:=by unfold xR;simp[h1]
  rw[a,d]
  repeat' (first
   |exact Go.RX.aM.all H
   |exact Am (by first|rfl|decide+kernel) (Go.RX.aM.all H)
   |refine aj.cw 0 H rfl rfl ?_
   |refine aj.at 0 H rfl rfl ?_
   |refine aN.go H λb w1 H=>?_
   |refine aC.all 0 H rfl rfl rfl λw1 H=>?_
   |refine aC.fS 0 H rfl rfl rfl λw1 H=>?_
   |refine aC.one 0 H rfl rfl rfl λw1 H=>?_
   |with_reducible refine au.go H λw1 H=>?_
   |refine jJ ?_
   |refine aA (by assumption) ?_
   |refine an (by assumption) ?_
   |refine ab (λc=>?_) (λc=>?_))
 ·have h1: ¬ (f<0\/f>=ds.length):=by
   grind
  have j:f.toNat<ds.length:=by omega
  have g:ds[f.toNat]? =some ds[f.toNat]:=Ap j;have k:ds.getD f.toNat zD=ds[f.toNat]:=by rw[Az,g];rfl
  have a:oV ds f=ds[f.toNat]:=by unfold oV;rw[ao h1,k]
  have d:xR ds f=true:=by unfold xR;simp[h1]
  rw[a,d];refine⟨rfl,rfl,aj.k_ H e (by simp) rfl ⟨by grind,aj.of ds[f.toNat] (fZ (H.fG i (by simp)) g) ?_⟩⟩
  repeat' (first
   |exact Go.RX.aM.all H
   |exact Am (by first|rfl|decide+kernel) (Go.RX.aM.all H)
   |grind
   |refine aj.cw 0 H rfl rfl ?_
   |refine aj.at 0 H rfl rfl ?_
   |refine aN.go H λb w1 H=>?_
   |refine aC.all 0 H rfl rfl rfl λw1 H=>?_
   |refine aC.fS 0 H rfl rfl rfl λw1 H=>?_
   |refine aC.one 0 H rfl rfl rfl λw1 H=>?_
   |with_reducible refine au.go H λw1 H=>?_
   |refine jJ ?_
   |refine aA (by assumption) ?_
   |refine an (by assumption) ?_
   |refine ab (λc=>?_) (λc=>?_))
section
variable {D G:List Nat} {w0 w:A1} {L:List (Nat×List AL)}
theorem VK (n:Nat):(B2 n [aa 0,aa 0,aa 0,aa 0]).flatten=flat eD (B2 n zD)++[]:=by
 rw[CB,lL];rfl
theorem C4 (H:aM D G w0 w L) (n:Int) {K:Option AC×Int×Unit->A1->Prop} (hb:n<1\/n>4096-> ∀w1,aM D G w0 w1 L->K (none,1,()) w1)
 (b:1<=n->n<=4096-> ∀bp bf w1,aM D G w0 w1 ((bp,[.slice (af bf) n.toNat n.toNat])::(bf,flat eD (B2 n.toNat zD)++[])::L)->K (some ⟨bp,0,none⟩,0,()) w1):
 az A2 72 (.bu [.one .ptr,.one (.int .i64)]) [aa n] w K:=by
 refine az.go H λw1 H=>ai (C:=E0) (aR:=λ_=>[]) (AM (CY n w1 K) ?_);refine ab (λc=>au.go H λa H=>hb (by simpa using c) a H) (λc=>?_);have h1:1<=n/\n<=4096:=by simp only[E4,decide_eq_false_iff_not] at c;omega
 refine N8.go H rfl (by omega) (by omega) (by omega) (by omega) λbf a H=>?_;rw[VK] at H;exact aN.go H λbp e H=>au.go H λd H=>b h1.1 h1.2 bp bf d H
theorem VL (H:aM D G w0 w L) {bp bf n c:Nat} {ds:List DT} {rest:List AL} (g:bK w bp [.slice (af bf) n c]) (j:bK w bf (flat eD ds++rest)) (i:n=ds.length) (h0:0<n) (m:n<=4096) {K:Option AC->A1->Prop}
 (k: ∀a b d f w1,aM D G w0 w1 ((a,[.slice (af b) n d])::(b,flat eD ds++f)::L)->K (af a) w1):
 aE A2 54 (.el (.one .ptr)) [ag (af bp)] w K:=by
 refine ai (C:=E0) (aR:=λ_=>[]) (AM (VE _ w K) ?_);refine⟨(n:Int),ae.of (s:= .el (.one (.int .i64))) λw' h=>sj (g.ext h),ab (λc0=>?_) (λc0=>⟨rfl,rfl,aj.of (some ⟨bf,0,none⟩,n,c) (by rw[aW];exact g.oK rfl) λw1 h1=>?_⟩)⟩
 ·simp only[beq_iff_eq] at c0;omega
 ·refine mF.copy (H.ext h1) (e:=eD) (ys:=ds) (j.ext h1) ?_ i (by intro e;subst e;simp at i;omega) rfl rfl rfl (by omega) λb d f o H=>aN.go H λa p H=>au.go H λl H=>k a b d f l H;rw[FX (by rw[aG];exact DF _),Ee (by rw[aG];exact DF _)]
end
def cd (ds:List DT) (v:Int):Nat:=ds.countP λd=>d.1==v
def gf (ds:List DT) (v:Int):List Nat:=(Cp ds.length).filter λi=>match ds[i]? with
 |some d=>d.2.1==v
 |none=>false
theorem EK {ds:List DT} {v:Int} {i:Nat} {d:DT} (h:ds[i]? =some d):cd (ds.take (i+1)) v=cd (ds.take i) v+(if d.1=v then 1 else 0):=by
 unfold cd;rw[I2,h,List.countP_append];congr 1;simp
theorem ql {ds:List DT} {i:Nat} {v:Int} {Ok:DT->Int} {x:List AL} (h:(match ds[i]? with
 |some d=>if Ok d=v then some [aa (i:Nat)] else none
 |none=>none)=some x): ∃d,ds[i]? =some d/\Ok d=v/\x=[aa (i:Nat)]:=by
 split at h
 ·rename_i d a;split at h
  ·rename_i b;cases h;exact⟨d,a,b,rfl⟩
  ·cases h
 ·cases h
theorem C5 {ds:List DT} {i:Nat} {v:Int} {Ok:DT->Int} (hi:i<ds.length) (h:(match ds[i]? with
 |some d=>if Ok d=v then some [aa (i:Nat)] else none
 |none=>none)=none): ∃d,ds[i]? =some d/\Ok d≠v:=by
 rw[Ap hi] at h;refine⟨ds[i],Ap hi,?_⟩;intro a;simp only[a,if_true] at h;cases h
theorem EL {w:A1} {bp bf n c:Nat} {ds:List DT} {rest:List AL} (m:bK w bp [.slice (af bf) n c]) (o:bK w bf (flat eD ds++rest)) (p:n=ds.length) (q:n<=4096) (v:Int):
 aE A2 30 (.el (.one (.int .i64))) [ag (af bp),aa v] w (λx w'=>x=(cd ds v:Int)/\Ext w w'):=by
 subst p;refine aQ (C:=E0) (aR:=uI) (AM (RR _ v w _) ?_);have H:=At.start [] w;refine aN.go H λb w1 H=>aC.all 0 H rfl rfl rfl λA H=>tI H _ v λpc ic kc B H=>?_;refine An.go H (EJ (v:=v) (pc:=pc) (ic:=ic) (kc:=kc) (bp:=bp) (bf:=bf) (c:=c) (rest:=rest) q)
  (λi=>[(ic,[.func (.func 105) #[] #[ag (af kc)]]),(pc,[ag (af bp)]),(kc,[aa v]),(b,[aa (cd (ds.take i) v:Nat)])])
  (λ_ _=>False) rfl ?_ ?_ ?_ ?_ ?_ ?_
 ·exact λD i w' H=>⟨H.get (i:=1) rfl,H.get (i:=0) rfl,H.get (i:=2) rfl,H.fG m (by simp),H.fG o (by simp)⟩
 ·intro i hi a;obtain⟨d,f,g⟩:=C5 hi a;simp only[EK f,ao g,Gn]
 ·intro i x hi a;obtain⟨d,f,g,rfl⟩:=ql a;exact⟨((i:Nat),()),rfl⟩
 ·intro i x hi a r l rec k R h h1 _;obtain⟨d,f,g,E⟩:=ql a;refine DG.go h rfl (Cl.go h λwb H s=>aj.at 3 H rfl rfl (aC.all 3 H rfl rfl rfl λt H=>sY.next s H λu y=>h1 u ?_));have F:cd (ds.take i) v<=4096:=Du List.countP_le_length (by rw[F7];omega);have e:aH .i64 ((cd (ds.take i) v:Nat):Int) 1=((cd (ds.take (i+1)) v:Nat):Int):=by
   rw[EK f,av g,aw (by omega) (by omega)];rfl
  rw[<-e];exact y
 ·intro r rec k h;refine dB.none h λt H=>aj.at 3 H rfl rfl (sZ.go H λG H=>?_);exact⟨by rw[IJ],H.all⟩
 ·exact λj L' r rec k z _=>z.elim
theorem EM {ds:List DT} {v:Int} {i:Nat} {d:DT} (h:ds[i]? =some d):gf (ds.take (i+1)) v=gf (ds.take i) v++(if d.2.1=v then[i] else[]):=by
 have hi:i<ds.length:=(Ar.1 h).1;unfold gf;rw[F7,F7,IN (by omega),IN (by omega),GD,Hb];congr 1
 ·apply List.filter_congr;intro j a;have b:j<i:=by simpa using a
  rw[Gd (by omega),Gd b]
 ·simp only[GF,List.filter_nil,Gd (Nat.lt_succ_self i),h,beq_iff_eq]
theorem RY {w:A1} {bp bf n c:Nat} {ds:List DT} {rest:List AL} (y:bK w bp [.slice (af bf) n c]) (z:bK w bf (flat eD ds++rest)) (A:n=ds.length) (B:n<=4096) (v:Int):
 aE A2 166 (.el (.one .slice)) [ag (af bp),aa v] w (λr w'=>lR w w' eI r ((gf ds v).map λi=>((i:Nat):Int))/\Ext w w'):=by
 subst A;refine aQ (C:=E0) (aR:=uJ) (AM (RU _ v w _) ?_);have H:=At.start [] w;refine aN.go H λkc w1 H=>aN.go H λb W H=>VG H _ _ λpc ic X H=>?_
 let a:Nat->List Int:=λi=>(gf (ds.take i) v).map λi=>((i:Nat):Int)
 have D: ∀i,(a i).length<=4096:=λi=>by
  simp only[a,GH];refine Du (Hr _ _) ?_;simp only[List.length_range,F7];omega
 let g:Option AC×Nat×Nat->List (Nat×List AL):=λs=>[(ic,[.func (.func 207) #[] #[ag (af kc)]]),(pc,[ag (af bp)]),(b,[.slice s.1 s.2.1 s.2.2]),(kc,[aa v])]
 let Inv:Nat->List (Nat×List AL)->Prop:=λi L'=> ∃s Ls,L'=Ls++g s/\((s=(none,0,0)/\a i=[]/\Ls=[])\/ ∃bs cs rs,s=(some ⟨bs,0,none⟩,(a i).length,cs)/\Ls=[(bs,flat eI (a i)++rs)]/\(flat eI (a i)++rs).length=cs*aF eI/\(a i).length<=cs)
 refine An.inv H (RV (v:=v) (pc:=pc) (ic:=ic) (kc:=kc) (bp:=bp) (bf:=bf) (c:=c) (rest:=rest) B) Inv
  (λ_ _=>False) ⟨(none,0,0),[],rfl,.inl ⟨rfl,rfl,rfl⟩⟩ ?_ ?_ ?_ ?_ ?_ ?_
 ·rintro Y i w' L' ⟨s,Ls,rfl, _⟩ H;have H:=H.sub (List.sublist_append_right Ls (g s));exact⟨H.get (i:=1) rfl,H.get (i:=0) rfl,H.get (i:=3) rfl,H.fG y (by simp),H.fG z (by simp)⟩
 ·rintro i L' hi k ⟨s,Ls,rfl,f⟩;obtain⟨d,m,E⟩:=C5 (Ok:=λd=>d.2.1) hi k;have e:a (i+1)=a i:=by simp only[a,EM m,ao E,CB]
  exact⟨s,Ls,rfl,by rw[e];exact f⟩
 ·intro i x hi k;obtain⟨d,m,f,rfl⟩:=ql (Ok:=λd=>d.2.1) k;exact⟨((i:Nat),()),rfl⟩
 ·rintro i x L' hi k ⟨s,Ls,rfl,f⟩ r l rec p R o h1 _;obtain⟨d,m,F,G⟩:=ql (Ok:=λd=>d.2.1) k;have q:x.1=((i:Nat):Int):=by
   have h:[aa x.1]=[aa (i:Nat)]:=G;simpa using h
  obtain⟨x1,u⟩:=x;simp only at q;subst q;have e:a (i+1)=a i++[((i:Nat):Int)]:=by simp only[a,EM m,av F,G1,List.map_cons,List.map_nil]
  have Z:=D i;have t:(a (i+1)).length=(a i).length+1:=by rw[e];simp
  refine DG.go o rfl (Cl.go o λwb H I=>aj.of s ?_ (aN.go H λb2 J H=>λK L=>?_))
  ·exact(H.dj (b,[.slice s.1 s.2.1 s.2.2]) (Be _ (by simp[g]))).oK rfl
  ·refine aM.grow (e:=eI) (x:=((i:Nat):Int)) (Ls:=Ls) (L0:=g s) (H.ext L) f rfl rfl rfl (by omega) λbs cs rs w7 M N H=>?_;refine aC.all 3 H rfl rfl rfl λw8 H=>sY.next I H λO P=>h1 _ O ⟨(some ⟨bs,0,none⟩,(a i).length+1,cs),[(bs,flat eI (a (i+1))++rs)],rfl,.inr ⟨bs,cs,rs,by rw[t],rfl,by rw[e];exact M,by rw[t];exact N⟩⟩ ?_
   rw[e];exact P
 ·rintro L' r rec p ⟨s,Ls,rfl,f⟩ o;refine dB.none o λJ H=>aj.of s ?_ (sZ.go H λK H=>?_)
  ·exact(H.dj (b,[.slice s.1 s.2.1 s.2.2]) (Be _ (by simp[g]))).oK rfl
  ·refine⟨?_,H.all⟩;have Q:a ds.length=(gf ds v).map λi=>((i:Nat):Int):=by simp only[a,IJ]
   rw[<-Q];rcases f with ⟨rfl,S,rfl⟩|⟨bs,cs,rs,rfl,rfl,T,U⟩
   ·rw[S];exact lR.nil _ _ _
   ·refine⟨rfl,U,.inr ⟨bs, _,rfl,(H.own _ (DR _ (List.mem_singleton.2 rfl))).resolve_right (by simp),H.get (i:=0) rfl,T,?_⟩⟩;rw[FX (by rw[aG];exact DF _),Ee (by rw[aG];exact DF _)]
 ·exact λj L' r rec p V _=>V.elim
def iI (ds:List DT):Option Nat:=ds.findIdx? λd=>d.1==0
def fl (ds:List DT) (k o:Int):Int:=match iI ds with
 |none=>0
 |some f=>if vT ds f (aO k o)=0 then(f:Int) else 0
def dS (ds:List DT) (k o:Int):Int:=if ds.length=0 then 10 else match iI ds with
 |none=>12
 |some f=>vT ds f (aO k o)
def dF (ds:List DT) (k o:Int):List DT:=match iI ds with
 |none=>ds
 |some f=>dL ds f (aO k o)
theorem vB (ds:List DT) (k o:Int):(dF ds k o).length=ds.length:=by
 unfold dF;split
 ·rfl
 ·exact ji _ _ _
theorem L3 {ds:List DT} (h: ∀(j:Nat) d,ds[j]? =some d->d.1≠0):iI ds=none:=by
 unfold iI;rw[List.findIdx?_eq_none_iff];intro d a;obtain⟨j,b⟩:=F6 a;simpa using h j d b
theorem L4 {ds:List DT} {i:Nat} {d:DT} (hi:ds[i]? =some d) (a:d.1=0) (h: ∀(j:Nat) d,j<i->ds[j]? =some d->d.1≠0):iI ds=some i:=by
 unfold iI;have b:i<ds.length:=(Ar.1 hi).1;rw[List.findIdx?_eq_some_iff_getElem];refine⟨b,?_,λj c=>?_⟩
 ·have e:ds[i]=d:=(Ar.1 hi).2;rw[e];simpa using a
 ·have:=h j ds[j] c (Ap (by omega));simpa using this
theorem VM {w:A1} {bp bf n c:Nat} {ds:List DT} {rest:List AL} (A:bK w bp [.slice (af bf) n c]) (N:bK w bf (flat eD ds++rest)) (J:bp≠bf) (O:n=ds.length) (K:n<=4096) (k o:Int):
 aE A2 172 (.bu [.one (.int .i64),.one (.int .i64)]) [ag (af bp),aa k,aa o] w
  (λv w'=>v=(fl ds k o,dS ds k o,())/\bK w' bf (flat eD (dF ds k o)++rest)/\Fr [bf] w w'):=by
 subst O;refine aQ (C:=E0) (aR:=wT) (AM (VF _ k o w _) ?_);have H:=At.se N;have B:bp∉[bf]:=by simpa using J
 refine aN.go H λb w1 H=>aN.go H λP Y H=>aN.go H λQ Z H=>aN.go H λS w4 H=>aN.go H λU w5 H=>aj.at 4 H rfl rfl ?_;refine⟨(ds.length:Int),ae.of (s:= .el (.one (.int .i64))) λw' h=>sj ((H.fG A B).ext h),ab (λc0=>?_) (λc0=>aj.at 4 H rfl rfl ?_)⟩
 ·have h0:ds.length=0:=by simp only[beq_iff_eq] at c0;omega
  have a:ds=[]:=List.eq_nil_of_length_eq_zero h0;refine aC.all 1 H rfl rfl rfl λV H=>aC.all 0 H rfl rfl rfl λD H=>au.go H λq H=>aj.at 1 H rfl rfl (aj.at 0 H rfl rfl ⟨?_,?_,H.fr⟩)
  ·subst a;rfl
  ·subst a;exact H.get (i:=5) rfl
 have h0:ds.length≠0:=by simp only[beq_eq_false_iff_ne,ne_eq] at c0;omega
 refine tI H _ 0 λpc ic kc V H=>?_
 let T:Int->Int->List DT->List (Nat×List AL):=λx y l=>[(ic,[.func (.func 105) #[] #[ag (af kc)]]),(pc,[ag (af bp)]),(kc,[aa 0]),(U,[aa y]),(S,[aa x]),(Q,[aa o]),(P,[aa k]),(b,[ag (af bp)]),(bf,flat eD l++rest)]
 refine An.inv H (EJ (v:=0) (pc:=pc) (ic:=ic) (kc:=kc) (bp:=bp) (bf:=bf) (c:=c) (rest:=rest) K)
  (λi L'=>L'=T 0 0 ds/\ ∀(j:Nat) d,j<i->ds[j]? =some d->d.1≠0)
  (λj L'=>j= .ret/\ ∃i:Nat,iI ds=some i/\L'=T (if vT ds i (aO k o)=0 then(i:Int) else 0) (vT ds i (aO k o)) (dL ds i (aO k o))) ⟨rfl,λj d g=>absurd g (by omega)⟩ ?_ ?_ ?_ ?_ ?_ ?_
 ·rintro D' i w' L' ⟨rfl, _⟩ H;exact⟨H.get (i:=1) rfl,H.get (i:=0) rfl,H.get (i:=2) rfl,H.fG A B,H.get (i:=8) rfl⟩
 ·rintro i L' hi p ⟨rfl,g⟩;obtain⟨d,a,t⟩:=C5 (Ok:=λd=>d.1) hi p;refine⟨rfl,λj d' Aw E=>?_⟩;by_cases e:j=i
  ·subst e;rw[a] at E;cases E;exact t
  ·exact g j d' (by omega) E
 ·intro i x hi p;obtain⟨d,a,t,rfl⟩:=ql (Ok:=λd=>d.1) p;exact⟨((i:Nat),()),rfl⟩
 ·rintro i ⟨x1,u⟩ L' hi p ⟨rfl,g⟩ r l rec D R m _ L;obtain⟨d,a,t,W⟩:=ql (Ok:=λd=>d.1) p;have X:x1=((i:Nat):Int):=by
   have h:[aa x1]=[aa (i:Nat)]:=W;simpa using h
  subst X;have f:=L4 a t g;refine DG.go m rfl (Cl.go m λwb H F=>aj.at 7 H rfl rfl (aj.at 6 H rfl rfl (aj.at 5 H rfl rfl ?_)));refine az.DW H 8 rfl (λq H=>CZ (F.2.1.dy H A B) (H.get (i:=8) rfl) J K _ k o) λq H=>ab (λc=>?_) (λc=>?_)
  ·have hc: ¬ vT ds (i:Nat) (aO k o)=0:=by simpa using c
   refine aC.all 4 H rfl rfl rfl λG H=>aC.all 3 H rfl rfl rfl λM H=>sY.left F H λz I=>L _ _ z ⟨rfl,i,f,?_⟩ I;rw[ao hc];rfl
  ·have hc:vT ds (i:Nat) (aO k o)=0:=by simpa using c
   refine aC.all 4 H rfl rfl rfl λG H=>aC.all 3 H rfl rfl rfl λM H=>sY.left F H λz I=>L _ _ z ⟨rfl,i,f,?_⟩ I;rw[av hc,hc];rfl
 ·rintro L' r rec D ⟨rfl,g⟩ m;have f:iI ds=none:=L3 λj d a=>g j d (Ar.1 a).1 a;refine dB.none m λq H=>aC.all 4 H rfl rfl rfl λG H=>aC.all 3 H rfl rfl rfl λM H=>sZ.go H λz H=>aj.at 4 H rfl rfl (aj.at 3 H rfl rfl ⟨?_,?_,H.fr⟩)
  ·unfold fl dS;rw[f,ao h0]
  ·have:dF ds k o=ds:=by unfold dF;rw[f]
   rw[this];exact H.get (i:=8) rfl
 ·rintro j L' r rec D ⟨rfl,i,f,rfl⟩ m;refine dB.ret m λq H=>sZ.go H λG H=>aj.at 4 H rfl rfl (aj.at 3 H rfl rfl ⟨?_,?_,H.fr⟩)
  ·unfold fl dS;rw[f,ao h0]
  ·have:dF ds k o=dL ds i (aO k o):=by unfold dF;rw[f]
   rw[this];exact H.get (i:=8) rfl
end Go.Proofs.YtlcenllcmeebhaaGreat.D
