import Derived.Test.YtlcenllcmeebhaaGreatPFB
/-! What the statement leans on: texts joined and shortened by a program of mine. -/
set_option linter.unusedVariables false
set_option linter.unusedSimpArgs false
open Go renaming World->A1,Addr->AB,Value->AC,MapEntry->AM,TypeId->Bf
open Go.Proofs.Tryz renaming prog->A2
open Eq renaming mpr->AL
open List renaming sublist_cons_self->AY,getElem?_eq_getElem->Ax,getElem?_eq_some_iff->B1,getD_eq_getElem?_getD->B2,replicate->B4,set_set->Bx,mem_append_right->CJ,mem_cons_of_mem->CK,append_nil->CL,mem_map->Co,range->D8,mem_cons_self->DA,getElem?_set_self->DI,append_assoc->DJ,mem_append_left->DK,sublist_append_left->DO,getElem?_set_ne->DY,ext_getElem?->DZ,length_append->E5,take_of_length_le->Ef,mem_cons->Ep,mem_of_getElem?->Et,getElem?_of_mem->F2,length_take->F4,perm_append_comm->FP,take_append_of_le_length->FR,take_append_drop->FS,map_append->FZ,range_succ->G1,filter_cons->GD,mem_range->GF,length_map->GG,length_cons->GH,length_nil->GI,getElem?_append_right->GJ,length_set->GO,set_append_left->GS,drop_eq_nil_of_le->Ga,drop_drop->Gc,getElem?_take_of_lt->Gd,getElem_mem->H7,getElem?_append_left->HB,nodup_cons->Hb,mem_append->Hr,filter_append->I1,mem_filter->I2,length_filter_le->IM,find?_range_eq_some->IQ,take_add_one->IR,getElem?_map->IV,getElem?_eq_none->IX,cons_append->In,take_length->J3
open And renaming intro->Ay
open Go.IntKind renaming i64->B3
open Nat renaming zero_add->B5,le_refl->DB,le_trans->Dn,zero_le->F5,add_mul->F7,zero_mul->Gi,blt_eq->Gj,add_zero->Gt,eq_of_beq_eq_true->Gu,ne_of_beq_eq_false->Gv,min_eq_left->Jc
open Go.Instr renaming findNow->DD,sameNow->K1
open Bool renaming or_eq_true->DQ,and_eq_true->DV,or_eq_false_iff->Do,not_eq_true'->E4,and_eq_false_iff->Gw,false_eq_true->H4,true_eq_false->H5,not_eq_false'->H6,eq_iff_iff->KC
namespace Go.Proofs.YtlcenllcmeebhaaGreat
set_option maxRecDepth 100000
open Go.RX
def tookS (fr pg wt lv:Int) (fd:FT) (ep:Bool) (er:Int) (el:Bool) (ef:Int):Int×Int×FT:=
 if(!ep)=true then(fr,-1,xv lv 4)
 else if(fV ep er el ef&&decide (lv>0))=true then(ef,aX .i64 lv 1,fd)
 else if(el&&lv==1)=true then(fr,-1,ym lv wt (aH .i64 ef (dz pg 16)) ep er el ef)
 else if(!el&&decide (er>0)&&lv==0)=true then(fr,-1,ym lv wt ef ep er el ef)
 else(fr,-1,xv lv 11)
section
variable {D G:List Nat} {w0 w:A1} {L:List (Nat×List AC)} {bk bp be:Nat} {fr pg wt lv:Int} {fd:FT} {s:Option AB×Nat×Nat} {ep:Bool} {er:Int} {el:Bool} {ef:Int}
theorem Ra (H:aK D G w0 w L) (a j:Nat) (c:L[a]? =some (bp,[ag (af bk)])) (d:L[j]? =some (bk,lV fr pg wt lv fd s)) {K:Unit->A1->Prop}
 (k: ∀b,aK D G w0 b (L.set j (bk,lV fr pg wt (-1) (xv lv 4) s))->K () b):aD A2 95 (.bu []) [ag (af bp)] w K:=by
 refine ai (C:=M1) (aT:=λ_=>[]) (AL (Q4 _ w K) ?_);exact aj.at a H c rfl (qc H j d 0 0 0 4 λf H=>au.go H λe H=>k e H)
theorem Rb (H:aK D G w0 w L) (a j:Nat) (c:L[a]? =some (bp,[ag (af bk)])) (d:L[j]? =some (bk,lV fr pg wt lv fd s)) {K:Unit->A1->Prop}
 (k: ∀b,aK D G w0 b (L.set j (bk,lV fr pg wt (-1) (xv lv 11) s))->K () b):aD A2 102 (.bu []) [ag (af bp)] w K:=by
 refine ai (C:=M1) (aT:=λ_=>[]) (AL (Q8 _ w K) ?_);exact aj.at a H c rfl (qc H j d 0 0 0 11 λf H=>au.go H λe H=>k e H)
theorem Re (H:aK D G w0 w L) (e a j:Nat) (f:L[e]? =some (be,[.bool ep,aa er,.bool el,aa ef])) (b:L[a]? =some (bp,[ag (af bk)])) (c:L[j]? =some (bk,lV fr pg wt lv fd s)) (g:j≠a) {K:Unit->A1->Prop}
 (k: ∀d,aK D G w0 d (L.set j (bk,lV ef pg wt (aX .i64 lv 1) fd s))->K () d):aD A2 97 (.bu []) [ag (af be),ag (af bp)] w K:=by
 refine ai (C:=M1) (aT:=λ_=>[]) (AL (Q5 _ _ w K) ?_);have h:j<L.length:=(B1.1 c).1;refine aj.at a H b rfl (aj.at a H b rfl ⟨rfl,aj.cA e H f rfl (aj.at a H b rfl ⟨rfl,rfl,aj.cA j H c rfl ⟨rfl,rfl,?_⟩⟩)⟩);refine aC.gJ j H c rfl rfl λd H=>⟨trivial,?_,rfl,rfl,?_⟩
 ·exact dZ (H.get (i:=a) (by rw[DY g];exact b)) rfl
 ·refine aC.gJ j H (DI h) rfl rfl λm H=>au.go H λl H=>k l ?_;rw[Bx] at H;exact H
theorem Rf (H:aK D G w0 w L) (a b j:Nat) (c:L[a]? =some (be,[.bool ep,aa er,.bool el,aa ef])) (d:L[b]? =some (bp,[ag (af bk)])) (e:L[j]? =some (bk,lV fr pg wt lv fd s)) {K:Unit->A1->Prop}
 (k: ∀f,aK D G w0 f (L.set j (bk,lV fr pg wt (-1) (ym lv wt (aH .i64 ef (dz pg 16)) ep er el ef) s))->K () f):aD A2 98 (.bu []) [ag (af bp),ag (af be)] w K:=by
 refine ai (C:=M1) (aT:=λ_=>[]) (AL (Q6 _ _ w K) ?_);have g:gU 1=16:=rfl;rw[g];refine aj.at b H d rfl ⟨rfl,aj.cA a H c rfl (aj.at b H d rfl ⟨rfl,rfl,aj.cA j H e rfl ⟨trivial,by decide,aj.at a H c rfl ?_⟩⟩)⟩;exact PF H j e _ ep er el ef λi H=>au.go H λh H=>k h H
theorem Rh (H:aK D G w0 w L) (a b j:Nat) (c:L[a]? =some (be,[.bool ep,aa er,.bool el,aa ef])) (e:L[b]? =some (bp,[ag (af bk)])) (f:L[j]? =some (bk,lV fr pg wt lv fd s)) {K:Unit->A1->Prop}
 (k: ∀d,aK D G w0 d (L.set j (bk,lV fr pg wt (-1) (ym lv wt ef ep er el ef) s))->K () d):aD A2 101 (.bu []) [ag (af bp),ag (af be)] w K:=by
 refine ai (C:=M1) (aT:=λ_=>[]) (AL (Q7 _ _ w K) ?_);refine aj.at b H e rfl ⟨rfl,aj.cA a H c rfl (aj.at a H c rfl ?_)⟩;exact PF H j f _ ep er el ef λh H=>au.go H λg H=>k g H
theorem Vu (H:aK D G w0 w L) (j:Nat) (o:L[j]? =some (bk,lV fr pg wt lv fd s)) (ep:Bool) (er:Int) (el:Bool) (ef:Int) {K:Unit->A1->Prop}
 (k: ∀E,aK D G w0 E (L.set j (bk,lV (tookS fr pg wt lv fd ep er el ef).1 pg wt (tookS fr pg wt lv fd ep er el ef).2.1 (tookS fr pg wt lv fd ep er el ef).2.2 s))->K () E):
 aA A2 61 (.bu []) [ag (af bk),.agg ⟨[.bool ep,aa er,.bool el,aa ef]⟩] w K:=by
 refine aA.go H λw1 H=>ai (C:=M3) (aT:=wy) (AL (Vr _ ep er el ef w1 K) ?_);refine aM.go H λbp E H=>aM.go H λbe V H=>⟨rfl,aj.cA 0 H rfl rfl (aj.at 0 H rfl rfl ⟨trivial,aj.at 1 H rfl rfl ⟨λ_=>rfl,λ_=>rfl,aj.cA (j+2) H o rfl ⟨rfl,aj.cA 0 H rfl rfl (aj.at 1 H rfl rfl ⟨λ_=>rfl,λ_=>rfl,aj.cA (j+2) H o rfl ⟨rfl,aj.cA 0 H rfl rfl ⟨λ_=>rfl,aj.cA 0 H rfl rfl (aj.at 1 H rfl rfl ⟨λ_=>rfl,λ_=>rfl,aj.cA (j+2) H o rfl ?_⟩)⟩⟩⟩)⟩⟩⟩)⟩;refine aM.go H λbs W H=>?_;dsimp only at H ⊢;generalize J:(!ep)=c0 at H;generalize M:(fV ep er el ef&&decide (lv>0))=c1 at H;generalize N:(el&&lv==1)=c2 at H;generalize O:(!el&&decide (er>0)&&lv==0)=c3 at H;have g:tookS fr pg wt lv fd ep er el ef=if c0=true then(fr,-1,xv lv 4) else if c1=true then(ef,aX .i64 lv 1,fd) else if c2=true then(fr,-1,ym lv wt (aH .i64 ef (dz pg 16)) ep er el ef) else if c3=true then(fr,-1,ym lv wt ef ep er el ef) else(fr,-1,xv lv 11):=by
  unfold tookS;rw[J,M,N,O]
 clear J M N O;refine⟨λn s' w'=> ∃i:Nat,s'.1=i/\n+i=5/\((0<i->c0=false)/\(1<i->c1=false)/\(2<i->c2=false)/\(3<i->c3=false)/\i<5)/\aK D G w0 w' ((bs,[.bool c0,.func (.func 95) ⟨[]⟩ ⟨[ag (af bp)]⟩,.bool c1,.func (.func 97) ⟨[]⟩ ⟨[ag (af be),ag (af bp)]⟩,
  .bool c2,.func (.func 98) ⟨[]⟩ ⟨[ag (af bp),ag (af be)]⟩,.bool c3,.func (.func 101) ⟨[]⟩ ⟨[ag (af bp),ag (af be)]⟩,.bool true,.func (.func 102) ⟨[]⟩ ⟨[ag (af bp)]⟩])::(be,[.bool ep,aa er,.bool el,aa ef])::(bp,[ag (af bk)])::L),
  ⟨5,λS T=>⟨0,rfl,rfl,⟨λh=>absurd h (by decide),λh=>absurd h (by decide),λh=>absurd h (by decide),λh=>absurd h (by decide),by decide⟩,H.ext T⟩⟩,?_⟩
 clear H;rintro n ⟨X,u⟩ S ⟨i,hi,Y,⟨b,l,F,U,Z⟩,H⟩;simp only at hi;subst hi;dsimp only;have m: ∀{x y z q:Nat×List AC},(x::y::z::q::L)[j+4]? =some (bk,lV fr pg wt lv fd s):=o;have fin: ∀{x y z q:Nat×List AC} {d:A1} {P Q:Int} {R:FT},tookS fr pg wt lv fd ep er el ef=(P,Q,R)->aK D G w0 d (x::y::z::q::L.set j (bk,lV P pg wt Q R s))->K () d:=λe H=>by
  rw[e] at k;exact k _ ((((H.sub (AY _ _)).sub (AY _ _)).sub (AY _ _)).sub (AY _ _))
 have p:aH .i64 (i:Int) 1=((i+1:Nat):Int):=by rw[av (by omega) (by omega)];rfl
 rcases(by omega:i=0\/i=1\/i=2\/i=3\/i=4) with rfl|rfl|rfl|rfl|rfl
 ·refine ay rfl ⟨⟨rfl,by decide,by decide⟩,aj.cA 0 H rfl rfl (aM.go H λr t H=>aC.all 0 H rfl rfl rfl λv H=>⟨rfl,aj.cA 0 H rfl rfl (ab (λc=>⟨rfl,aj.cA 0 H rfl rfl ?_⟩) (λc I f=>⟨n - 1,by omega,1,p,by omega,⟨λ_=>c,λh=>absurd h (by decide),λh=>absurd h (by decide),λh=>absurd h (by decide),by decide⟩,(H.sub (AY _ _)).ext f⟩))⟩)⟩;unfold Ak;refine λd a=>⟨_,⟨[]⟩,⟨[ag (af bp)]⟩,rfl,by kernel_rfl,Ra (H.ext a) 3 (j+4) rfl m λA H=>au.go H λB H=>fin ?_ H⟩;rw[g,aw c]
 ·refine ay rfl ⟨⟨rfl,by decide,by decide⟩,aj.cA 0 H rfl rfl (aM.go H λr t H=>aC.all 0 H rfl rfl rfl λv H=>⟨rfl,aj.cA 0 H rfl rfl (ab (λc=>⟨rfl,aj.cA 0 H rfl rfl ?_⟩) (λc I f=>⟨n - 1,by omega,2,p,by omega,⟨λ_=>b (by decide),λ_=>c,λh=>absurd h (by decide),λh=>absurd h (by decide),by decide⟩,(H.sub (AY _ _)).ext f⟩))⟩)⟩;unfold Ak;refine λd a=>⟨_,⟨[]⟩,⟨[ag (af be),ag (af bp)]⟩,rfl,by kernel_rfl,Re (H.ext a) 2 3 (j+4) rfl rfl m (by omega) λA H=>au.go H λB H=>fin ?_ H⟩;rw[g,ao (by rw[b (by decide)];decide),aw c]
 ·refine ay rfl ⟨⟨rfl,by decide,by decide⟩,aj.cA 0 H rfl rfl (aM.go H λr t H=>aC.all 0 H rfl rfl rfl λv H=>⟨rfl,aj.cA 0 H rfl rfl (ab (λc=>⟨rfl,aj.cA 0 H rfl rfl ?_⟩) (λc I f=>⟨n - 1,by omega,3,p,by omega,⟨λ_=>b (by decide),λ_=>l (by decide),λ_=>c,λh=>absurd h (by decide),by decide⟩,(H.sub (AY _ _)).ext f⟩))⟩)⟩;unfold Ak;refine λd a=>⟨_,⟨[]⟩,⟨[ag (af bp),ag (af be)]⟩,rfl,by kernel_rfl,Rf (H.ext a) 2 3 (j+4) rfl rfl m λA H=>au.go H λB H=>fin ?_ H⟩;rw[g,ao (by rw[b (by decide)];decide),ao (by rw[l (by decide)];decide),aw c]
 ·refine ay rfl ⟨⟨rfl,by decide,by decide⟩,aj.cA 0 H rfl rfl (aM.go H λr t H=>aC.all 0 H rfl rfl rfl λv H=>⟨rfl,aj.cA 0 H rfl rfl (ab (λc=>⟨rfl,aj.cA 0 H rfl rfl ?_⟩) (λc I f=>⟨n - 1,by omega,4,p,by omega,⟨λ_=>b (by decide),λ_=>l (by decide),λ_=>F (by decide),λ_=>c,by decide⟩,(H.sub (AY _ _)).ext f⟩))⟩)⟩;unfold Ak;refine λd a=>⟨_,⟨[]⟩,⟨[ag (af bp),ag (af be)]⟩,rfl,by kernel_rfl,Rh (H.ext a) 2 3 (j+4) rfl rfl m λA H=>au.go H λB H=>fin ?_ H⟩;rw[g,ao (by rw[b (by decide)];decide),ao (by rw[l (by decide)];decide),ao (by rw[F (by decide)];decide),aw c]
 ·refine ay rfl ⟨⟨rfl,by decide,by decide⟩,aj.cA 0 H rfl rfl (aM.go H λr t H=>aC.all 0 H rfl rfl rfl λv H=>⟨rfl,aj.cA 0 H rfl rfl (ay rfl ⟨rfl,aj.cA 0 H rfl rfl ?_⟩)⟩)⟩;unfold Ak;refine λd a=>⟨_,⟨[]⟩,⟨[ag (af bp)]⟩,rfl,by kernel_rfl,Rb (H.ext a) 3 (j+4) rfl m λA H=>au.go H λB H=>fin ?_ H⟩;rw[g,ao (by rw[b (by decide)];decide),ao (by rw[l (by decide)];decide),ao (by rw[F (by decide)];decide),ao (by rw[U (by decide)];decide)]
end
def Cu (Ls:List (Nat×List AC)) (s:Option AB×Nat×Nat) (xs:List Int):Prop:=
 (s=(none,0,0)/\xs=[]/\Ls=[])\/ ∃bs c rest,s=(some ⟨bs,0,none⟩,xs.length,c)/\Ls=[(bs,flat eI xs++rest)]/\(flat eI xs++rest).length=c*aF eI/\xs.length<=c
def okW (ws:List Int):Prop:= ∀x∈ws,0<=x/\x<18446744073709551616
def bF (ws:List Int) (pg wt:Int) (x:Int×Int×FT):Int×Int×FT:=
 if x.2.1= -1 then x
 else if(!uP (B (dQ ws (eB x.1 pg x.2.1))).toNat||Ct ws (eB x.1 pg x.2.1) != 0)=true then(x.1,-1,xv x.2.1 11)
 else tookS x.1 pg wt x.2.1 x.2.2 (IL (B (dQ ws (eB x.1 pg x.2.1))).toNat) (F' (B (dQ ws (eB x.1 pg x.2.1))).toNat) (Kw (B (dQ ws (eB x.1 pg x.2.1))).toNat) (FV (B (dQ ws (eB x.1 pg x.2.1))).toNat)
theorem G6 {ws:List Int} (h:okW ws) (i:Int):0<=dQ ws i/\dQ ws i<18446744073709551616:=by
 unfold dQ;split
 ·rename_i hi;rw[jh] at hi;rw[B2,Ax (by omega)];exact h _ (H7 _)
 ·exact⟨by decide,by decide⟩
section
variable {D G:List Nat} {w0 w:A1} {L L0 Ls:List (Nat×List AC)} {bk bm bw n c:Nat} {ca la fr pg wt lv:Int} {fd:FT} {s:Option AB×Nat×Nat} {ws xs:List Int} {rest:List AC}
theorem Ri (hb:bN w bk (lV fr pg wt lv fd s)) (a:lv≠ -1):aD A2 58 (.el (.agg sA)) [ag (af bk)] w (λx w'=>x=(1,eB fr pg lv,0,0,())/\Ext w w'):=by
 refine aQ (C:=M1) (aT:=λ_=>[]) (AL (Q3 _ w _) ?_);have H:=At.start [] w;refine aM.go H λb c H=>⟨λ_=>rfl,λ_=>rfl,aj.jC H hb (by simp) rfl ⟨λ_=>rfl,λ_=>rfl,aj.jC H hb (by simp) rfl (an (by simp[a]) ?_)⟩⟩;refine⟨rfl,rfl,aj.jC H hb (by simp) rfl ⟨rfl,rfl,aj.jC H hb (by simp) rfl ⟨rfl,rfl,aj.jC H hb (by simp) rfl ⟨trivial,aC.all 0 H rfl rfl rfl λd H=>au.go H λe H=>aj.at 0 H rfl rfl ⟨rfl,H.all⟩⟩⟩⟩⟩
theorem EJ (H:At G w0 w ((bk,lV fr pg wt lv fd s)::(bm,l7 bw n c ca la)::(bw,flat eW ws++rest)::(Ls++L0))) (r:Cu Ls s xs) (hx:xs.length<=1000) (t:n=ws.length) (h0:0<n) (u:okW ws) (d:lv≠ -1) {K:Bool->A1->Prop}
 (k: ∀e g s',Cu g s' (xs++[fr])->At G w0 e ((bk,lV (bF ws pg wt (fr,lv,fd)).1 pg wt (bF ws pg wt (fr,lv,fd)).2.1 (bF ws pg wt (fr,lv,fd)).2.2 s')::(bm,l7 bw n c (xh ws (eB fr pg lv) ca) la)::(bw,flat eW ws++rest)::(g++L0))->K ((bF ws pg wt (fr,lv,fd)).2.1== -1) e):
 aA A2 22 (.el (.one .bool)) [ag (af bk),ag (af bm)] w K:=by
 refine aA.go H λw1 H=>ai (C:=M1) (aT:=λ_=>[]) (AL (Q9 _ _ w1 K) ?_);refine⟨λ_=>rfl,λ_=>rfl,aj.cA 0 H rfl rfl (an rfl ⟨rfl,rfl,aj.cA 0 H rfl rfl (an (by simp[d]) ?_)⟩)⟩;refine⟨(1,eB fr pg lv,0,0,()),ae.of (s:= .el (.agg sA)) λw' h'=>Ri ((H.get (i:=0) rfl).ext h') d,?_⟩;refine abE H rfl 1 2 rfl rfl (by decide) t h0 (eB fr pg lv) 0 0 λe H=>?_;refine aM.go H λb L H=>aC.all 0 H rfl rfl rfl λM H=>⟨rfl,rfl,aj.cA 1 H rfl rfl ⟨rfl,rfl,aj.cA 1 H rfl rfl (aM.go H λh N H=>λz A=>?_)⟩⟩;have H:=H.ext A;dsimp only at H ⊢;generalize hv:dQ ws (eB fr pg lv)=v at H ⊢;generalize D:Ct ws (eB fr pg lv)=er at H ⊢;have j:0<=v/\v<18446744073709551616:=by rw[<-hv];exact G6 u _
 have H:At G w0 z ([(h,cellsOf eI fr)]++([(b,[az v,.bool false,aa er]),(bk,lV fr pg wt lv fd s),(bm,l7 bw n c (xh ws (eB fr pg lv) ca) la),(bw,flat eW ws++rest)]++(Ls++L0))):=H;have H:=H.perm (L':=(h,cellsOf eI fr)::(Ls++([(b,[az v,.bool false,aa er]),(bk,lV fr pg wt lv fd s),(bm,l7 bw n c (xh ws (eB fr pg lv) ca) la),(bw,flat eW ws++rest)]++L0))) (.cons _ (by
  rw[<-DJ, <-DJ];exact List.Perm.append_right _ FP))
 refine aK.grow H r rfl rfl rfl (by omega) λbs m a O E F H=>⟨rfl,rfl,aC.gJ 2 H rfl rfl rfl λP H=>⟨rfl,aj.cA 1 H rfl rfl ?_⟩⟩;have I:U (B v)=v:=CC j.1 j.2;refine⟨I,aM.go H λQ R H=>aC.all 0 H rfl rfl rfl λS H=>⟨λ_=>rfl,aj.cA 2 H rfl rfl ?_⟩⟩;have o:bF ws pg wt (fr,lv,fd)=if(!uP (B v).toNat||er != 0)=true then(fr,-1,xv lv 11) else tookS fr pg wt lv fd (IL (B v).toNat) (F' (B v).toNat) (Kw (B v).toNat) (FV (B v).toNat):=by
  unfold bF;simp only[hv,D];rw[ao d]
 have p:Cu [(bs,flat eI (xs++[fr])++a)] (some ⟨bs,0,none⟩,xs.length+1,m) (xs++[fr]):= .inr ⟨bs,m,a,by rw[E5];rfl,rfl,E,by rw[E5];exact F⟩;have q: ∀{w:A1} {x y:Nat×List AC} {l:List AC},At G w0 w (x::(bs,flat eI (xs++[fr])++a)::y::(bk,l)::(bm,l7 bw n c (xh ws (eB fr pg lv) ca) la)::(bw,flat eW ws++rest)::L0)->At G w0 w ((bk,l)::(bm,l7 bw n c (xh ws (eB fr pg lv) ca) la)::(bw,flat eW ws++rest)::([(bs,flat eI (xs++[fr])++a)]++L0)):=λ{w x y l} H=>by
  have H:=H.sub (AY _ _);have H:=H.sub (L':=[(bs,flat eI (xs++[fr])++a)]++([(bk,l),(bm,l7 bw n c (xh ws (eB fr pg lv) ca) la),(bw,flat eW ws++rest)]++L0)) (.cons_cons _ (AY _ _));refine H.perm ?_;refine List.Perm.trans (l₂:=[(bk,l),(bm,l7 bw n c (xh ws (eB fr pg lv) ca) la),(bw,flat eW ws++rest)]++([(bs,flat eI (xs++[fr])++a)]++L0)) (.refl _) ?_;rw[<-DJ, <-DJ];exact List.Perm.append_right _ FP
 refine ab (λc1=>?_) (λc1=>aj.at 0 H rfl rfl ?_)
 ·rw[o,aw c1] at k;exact qc H 3 rfl 0 0 0 11 λJ H=>au.go H λf H=>k f _ _ p (q H)
 ·rw[o,ao (by rw[c1];decide)] at k;refine Vu H 3 rfl _ _ _ _ λJ H=>⟨rfl,rfl,aj.cA 3 H rfl rfl (au.go H λf H=>k f _ _ p (q H))⟩
theorem Vv (hb:bN w bk (lV fr pg wt lv fd s)):aD A2 24 (.bu [.agg sF,.one .bool]) [ag (af bk)] w (λx w'=>x=(if lv= -1 then(fd,true,()) else((0,0,0,0,()),false,()))/\Ext w w'):=by
 obtain⟨f0,f1,f2,f3,f⟩:=fd;refine aQ (C:=M1) (aT:=λ_=>[]) (AL (Vs _ w _) ?_);have H:=At.start [] w;refine aM.go H λb g H=>⟨λ_=>rfl,λ_=>rfl,aj.jC H hb (by simp) rfl ⟨λ_=>rfl,λ_=>rfl,aj.jC H hb (by simp) rfl (ab (λc=>?_) (λc=>?_))⟩⟩
 ·have a:lv≠ -1:=by simpa using c
  rw[ao a];exact aC.all 0 H rfl rfl rfl λd H=>au.go H λe H=>aj.at 0 H rfl rfl ⟨rfl,H.all⟩
 ·have a:lv= -1:=by simpa using c
  rw[aw a];refine⟨rfl,rfl,aj.jC (x:=(f0,f1,f2,f3,())) H hb (by simp) rfl ?_⟩;exact aC.all 0 H rfl rfl rfl λd H=>au.go H λe H=>aj.at 0 H rfl rfl ⟨rfl,H.all⟩
def u_ (f p t:Int):Bool:=decide (eB f p 3<0)||decide (t<0)||decide (t>7)
theorem JA (H:aK D G w0 w L) (f p t:Int) {K:Option AB->A1->Prop} (hb:u_ f p t=true-> ∀w1,aK D G w0 w1 L->K none w1)
 (hg:u_ f p t=false-> ∀bk w1,aK D G w0 w1 ((bk,lV f p t 3 (0,0,0,0,()) (none,0,0))::L)->K (af bk) w1):
 aA A2 20 (.el (.one .ptr)) [aa f,aa p,aa t] w K:=by
 refine aA.go H λw1 H=>ai (C:=M1) (aT:=λ_=>[]) (AL (Vp f p t w1 K) ?_);refine aM.go H λb d H=>⟨trivial,ab (λc=>au.go H λa H=>hb c a (H.sub (AY _ _))) (λc=>au.go H λa H=>hg c b a H)⟩
end
section
variable {D G:List Nat} {w0 w:A1}
theorem _root_.Go.RX.aK.abF {e:El} {s:Option AB×Nat×Nat} {xs ys:List e.T} {b Q:Nat} {F:List AC} {Ls L0:List (Nat×List AC)} (H:aK D G w0 w ((b,flat e ys++F)::(Ls++L0))) (d:ys≠[])
 (hs:(s=(none,0,0)/\xs=[]/\Ls=[])\/ ∃bs c rest,s=(some ⟨bs,0,none⟩,xs.length,c)/\Ls=[(bs,flat e xs++rest)]/\(flat e xs++rest).length=c*aF e/\xs.length<=c)
 (S:im e=true) {t:Bf} {size bytes:Nat} {z:Array AC} (o:size=aF e) (U:z.size=aF e) (hb:(xs.length+ys.length)*bytes<=140737488355328)
 {R:Option AB×Nat×Nat->A1->Prop} (k: ∀bs c rest w',(flat e (xs++ys)++rest).length=c*aF e->(xs++ys).length<=c->aK D G w0 w' ((bs,flat e (xs++ys)++rest)::L0)->R (some ⟨bs,0,none⟩,(xs++ys).length,c) w'):
 mH w t size bytes z s (some ⟨b,0,none⟩,ys.length,Q) R:=by
 subst o;have V:(vP 0 w).heap.size=0:=iN (F5 _);have W:lU (vP 0 w) w e s xs:=by
  rcases hs with ⟨rfl,rfl, _⟩|⟨bs,c,rest,rfl,rfl,h1,q⟩
  ·exact lU.nil _ _ _
  ·refine⟨rfl,q,.inr ⟨bs, _,rfl,by rw[V];exact F5 _,H.get (i:=1) rfl,h1,?_⟩⟩;rw[FR (by rw[aG];exact DB _),Ef (by rw[aG];exact DB _)]
 have X:bN w b (flat e ys++F):=H.get (i:=0) rfl;refine lL (ys:=ys) W (qn (F5 _)) S rfl ?_ U hb λs' w' Y g I o J=>?_
 ·refine X.oQ (aG e ys) λj Z=>?_;rw[B5,HB (by rw[aG];exact Z)]
 ·obtain⟨p,n,c⟩:=s';obtain⟨h1,q,K⟩:=Y;simp only at h1 q K J;have hyl:0<ys.length:=List.length_pos_iff.2 d;have hlen:(xs++ys).length=xs.length+ys.length:=by simp
  rcases K with ⟨_,hx, _⟩|⟨bs,l,a1, _,a3,a4,a5⟩
  ·simp at hx;exact absurd hx.2 d
  ·subst a1;subst h1;have el:l=flat e (xs++ys)++l.drop ((xs++ys).length*aF e):=by rw[<-a5,FS]
   refine k bs c (l.drop ((xs++ys).length*aF e)) w' (by rw[<-el];exact a4) q ?_;rw[<-el];have hG': ∃B,Fr B w w'/\(∀y∈B,y∈Ls.map (·.1)):=by
    rcases hs with ⟨rfl, _,rfl⟩|⟨bo,co,L,rfl,rfl, _, _⟩
    ·exact⟨[],⟨g.os,g.tape,g.output,o,λy d _=>I y d (λa C=>by cases C)⟩,λy d=>by cases d⟩
    ·exact⟨[bo],⟨g.os,g.tape,g.output,o,λy d hn=>I y d (λa C=>by cases C;simpa using hn)⟩,λy d=>by simpa using d⟩
   obtain⟨B,M,E⟩:=hG';have v:=H.nd;simp only[List.map_cons,FZ,Hb,List.nodup_append,Hr] at v;have N: ∀y∈Ls.map (·.1),w0.heap.size<=y\/y∈G:=λy d=>by
    obtain⟨u,m,rfl⟩:=Co.1 d;exact H.own u (CK _ (DK _ m))
   have O:bs∈Ls.map (·.1)\/w.heap.size<=bs:=by
    rcases J with ⟨a,f,x⟩|⟨a,f,x⟩|f
    ·cases f;rcases hs with ⟨rfl, _, _⟩|⟨bo,co,L,rfl,rfl, _, _⟩
     ·cases x
     ·cases x;exact .inl (by simp)
    ·cases f;exact .inr x
    ·rcases hs with ⟨rfl,rfl, _⟩|⟨bo,co,L,rfl,rfl, _, _⟩
     ·cases f
     ·have P:=congrArg (λz=>z.2.1) f;simp at P;exact absurd P d
   refine H.frame M (λy d=>N y (E y d)) (λr hr d=>?_) (λy d=>?_) (λy d=>?_) ?_
   ·obtain⟨u,m,f⟩:=Co.1 (E r d);exact aK.dk (H.dp u (CK _ (DK _ m))) (H.pZ r hr).2 (λ_ _ _ hc=>by cases hc) f
   ·rcases Ep.1 d with rfl|d
    ·exact a3
    ·refine M.dp (λA=>?_) (H.dp y (CK _ (CJ _ d)));exact v.2.2.2 y.1 (E _ A) y.1 (Co.2 ⟨y,d,rfl⟩) rfl
   ·rcases Ep.1 d with rfl|d
    ·rcases O with h|h
     ·exact N _ h
     ·exact .inl (Dn H.fr.size h)
    ·exact H.own y (CK _ (CJ _ d))
   ·refine Hb.2 ⟨λA=>?_,v.2.2.1⟩;rcases O with h|h
    ·exact v.2.2.2 bs h bs A rfl
    ·obtain⟨u,m,f⟩:=Co.1 A;have:=(H.dp u (CK _ (CJ _ m))).lt;simp only at f h;omega
end
abbrev mJ (br n c:Nat):List AC:=[.slice (af br) n c]
def l8 (gs:List GT) (i:Int):Option Nat:=if 0<=i/\i<gs.length/\gs.getD i.toNat zG≠zG then some i.toNat else none
def xx (gs:List GT) (i:Int):GT:=match l8 gs i with
 |some k=>gs.getD k zG
 |none=>zG
def iq (gs:List GT) (i g:Int) (b:Bool):Int:=match l8 gs i with
 |none=>4
 |some k=>if((gs.getD k zG).2.2.1 != g||b&& !(gs.getD k zG).2.2.2.1)=true then 7 else if(gs.getD k zG).2.2.2.2.1=1000 then 3 else 0
def fT (x:GT) (n:Int):GT:=(x.1,x.2.1,x.2.2.1,x.2.2.2.1,x.2.2.2.2.1+n,())
def eh (gs:List GT) (i g:Int) (b:Bool):List GT:=if iq gs i g b=0 then gs.set i.toNat (fT (gs.getD i.toNat zG) 1) else gs
def mE (gs:List GT) (i g:Int):Int:=match l8 gs i with
 |none=>4
 |some k=>if(gs.getD k zG).2.2.1≠g then 7 else if(gs.getD k zG).2.2.2.2.1=0 then 6 else 0
def eZ (gs:List GT) (i g:Int):List GT:=if mE gs i g=0 then gs.set i.toNat (fT (gs.getD i.toNat zG) (-1)) else gs
def qU (gs:List GT) (i o:Int):Int:=match l8 gs i with
 |none=>4
 |some k=>if(gs.getD k zG).1≠o then 7 else if(gs.getD k zG).2.2.2.2.1>0 then 9 else 0
def lu (gs:List GT) (i o:Int):List GT:=if qU gs i o=0 then gs.set i.toNat zG else gs
def dm (gs:List GT) (p:GT->Bool) (n:Nat):List Int:=((D8 n).filter λ(i:Nat)=>p (gs.getD i zG)).map λ(i:Nat)=>(i:Int)
def ko (o q t:Int) (x:GT):Bool:=o==x.1&&(q==x.2.1&&t==x.2.2.1)
def ff (x:GT):Bool:=decide (x=zG)
def oV (g:Int) (x:GT):Bool:= !ff x&&(x.1==g||x.2.2.1==g)
def lx (gs:List GT) (o q t:Int):Int:=
 if(!gG o|| !gG t||o==t||decide (q<0)||decide (q>=65536))=true then 1
 else if dm gs (ko o q t) gs.length≠[] then 5 else if dm gs ff gs.length=[] then 3 else 0
def kx (gs:List GT) (o q t:Int):Int:=if lx gs o q t=0 then(dm gs ff gs.length).headD 0 else 0
def jW (gs:List GT) (o q t:Int) (b:Bool):List GT:=if lx gs o q t=0 then gs.set (kx gs o q t).toNat (o,q,t,b,0,()) else gs
def cR (gs:List GT) (g:Int):List GT:=gs.map λx=>if oV g x=true then zG else x
theorem Rj (x:GT):mN x.1 x.2.1 x.2.2.1 x.2.2.2.1 x.2.2.2.2.1=ff x:=rfl
theorem sq (gs:List GT) (p:GT->Bool) (n:Nat):dm gs p (n+1)=dm gs p n++(if p (gs.getD n zG)=true then[(n:Int)] else[]):=by
 unfold dm;rw[G1,I1,FZ];by_cases h:p (gs.getD n zG)=true
 ·rw[aw h,GD,aw h];rfl
 ·rw[ao h,GD,ao h];rfl
theorem qs {gs:List GT} {p:GT->Bool} {n:Nat} {x:Int}:x∈dm gs p n<-> ∃i:Nat,i<n/\p (gs.getD i zG)=true/\x=(i:Int):=by
 unfold dm;simp only[Co,I2,GF];constructor
 ·rintro⟨i,⟨h1,a⟩,rfl⟩;exact⟨i,h1,a,rfl⟩
 ·rintro⟨i,h1,a,rfl⟩;exact⟨i,⟨h1,a⟩,rfl⟩
theorem qt (gs:List GT) (p:GT->Bool) (n:Nat):(dm gs p n).length<=n:=by
 unfold dm;rw[GG];exact Dn (IM _ _) (by simp)
theorem lF {gs:List GT} {i:Int} {k:Nat} (h:l8 gs i=some k):0<=i/\i<gs.length/\k=i.toNat/\gs[k]? =some (gs.getD k zG)/\gs.getD k zG≠zG:=by
 unfold l8 at h;split at h
 ·rename_i c;cases h;refine⟨c.1,c.2.1,rfl,?_,c.2.2⟩;rw[B2,Ax (by omega)];rfl
 ·cases h
section
variable {D G:List Nat} {w0 w:A1} {L:List (Nat×List AC)} {bg br c:Nat} {gs:List GT} {rest:List AC}
theorem LQ (h:bN w bg (mJ br gs.length c)) (h0:0<gs.length):aD A2 224 (.el (.one .bool)) [ag (af bg)] w (λx w'=>x=true/\Ext w w'):=by
 refine ai (C:=G3) (aT:=λ_=>[]) (AL (LB _ w _) ?_);refine⟨λ_=>rfl,λ_=>rfl,(some ⟨br,0,none⟩,gs.length,c),λ_=>?_,λw1 h1=>⟨?_,h1⟩⟩
 ·rw[aY];exact h.oD rfl
 ·simp;exact h0
theorem pH (h:bN w bg (mJ br gs.length c)) (h0:0<gs.length):ae A2 224 [ag (af bg)] w (.bool true):=
 ae.of (s:= .el (.one .bool)) λw' h'=>LQ (h.ext h') h0
def CF (br:Nat) (gs:List GT) (i:Int):Option AB:=(l8 gs i).map λk=>⟨br,k*5,none⟩
def CG (gs:List GT) (i:Int):Int:=if(l8 gs i).isSome then 0 else 4
theorem Z5 (h:bN w bg (mJ br gs.length c)) (j:bN w br (flat eG gs++rest)) (h0:0<gs.length) (i:Int):
 aD A2 221 (.bu [.one .ptr,.one (.int .i64)]) [ag (af bg),aa i] w (λx w'=>x=(CF br gs i,CG gs i,())/\Ext w w'):=by
 refine ai (C:=G3) (aT:=λ_=>[]) (AL (ZX _ i w _) ?_);have f:cL w (ad (af bg) 0) (.one .slice) (some ⟨br,0,none⟩,gs.length,c):=by rw[aY];exact h.oD rfl
 refine⟨_,pH h h0,an rfl ⟨λ_=>rfl,λ_=>rfl,(some ⟨br,0,none⟩,gs.length,c),λ_=>f,λ_=>rfl,λ_=>rfl,(some ⟨br,0,none⟩,gs.length,c),λ_=>f,?_⟩⟩;dsimp only;have g:(l8 gs i=none)->(CF br gs i,CG gs i,())=((none,4,()):Option AB×Int×Unit):=λe=>by
  unfold CF CG;rw[e];rfl
 by_cases b:0<=i/\i<gs.length
 ·have c1:(decide (i<0)||decide (i>=((gs.length:Nat):Int)))=false:=by
   rw[Do,decide_eq_false_iff_not,decide_eq_false_iff_not];omega
  have hx:gs[i.toNat]? =some (gs.getD i.toNat zG):=by
   rw[B2,Ax (by omega)];rfl
  rw[c1];refine⟨λ_=>⟨rfl,b.1,b.2⟩,gs.getD i.toNat zG,λ_=>f_ (e:=eG) j hx,λ_=>trivial,?_⟩;rw[Rj];refine ab (λd=>λw1 h1=>⟨(g ?_).symm,h1⟩) (λd=>⟨rfl,rfl,aj.of _ f ⟨⟨rfl,b.1,b.2⟩,λw1 h1=>⟨?_,h1⟩⟩⟩)
  ·have d:gs.getD i.toNat zG=zG:=by simpa[ff] using d
   unfold l8;rw[ao (λa=>a.2.2 d)]
  ·have d: ¬ gs.getD i.toNat zG=zG:=by simpa[ff] using d
   have e:l8 gs i=some i.toNat:=by unfold l8;rw[aw ⟨b.1,b.2,d⟩]
   unfold CF CG;rw[e,aY];simp
 ·have c1:(decide (i<0)||decide (i>=((gs.length:Nat):Int)))=true:=by
   rw[DQ,decide_eq_true_eq,decide_eq_true_eq];omega
  rw[c1];refine⟨λa=>(by cases a),zG,λa=>(by cases a),λ_=>trivial,ay rfl λw1 h1=>⟨(g ?_).symm,h1⟩⟩;unfold l8;rw[ao (λa=>b ⟨a.1,a.2.1⟩)]
theorem I8 (h:bN w bg (mJ br gs.length c)) (a:bN w br (flat eG gs++rest)) (h0:0<gs.length) (i:Int):
 ae A2 221 [ag (af bg),aa i] w ((Sh.bu [.one .ptr,.one (.int .i64)]).ia (CF br gs i,CG gs i,())):=
 ae.of (s:= .bu [.one .ptr,.one (.int .i64)]) λw' h'=>Z5 (h.ext h') (a.ext h') h0 i
theorem Vw {bc:Nat} {o q t:Int} (hc:bN w bc [aa o,aa q,aa t,.bool false,aa 0]) (x:GT):
 ae A2 226 [.agg ⟨[aa x.1,aa x.2.1,aa x.2.2.1,.bool x.2.2.2.1,aa x.2.2.2.2.1]⟩,ag (af bc)] w (.bool (ko o q t x)):=by
 refine ae.of (s:= .el (.one .bool)) λw' h'=>ai (C:=G3) (aT:=λ_=>[]) (AL (QL _ _ _ _ _ _ w' _) ?_);have H:=At.start [] w';refine aM.go H λb a H=>aj.of (o,q,t,false,0,()) (dZ ((hc.ext h').ext H.all) rfl) ⟨rfl,aj.cA 0 H rfl rfl ⟨rfl,aj.cA 0 H rfl rfl ⟨rfl,aj.cA 0 H rfl rfl (au.go H λc H=>⟨?_,H.all⟩)⟩⟩⟩;unfold ko;simp
theorem Rk {bc:Nat} {g:Int} (hc:bN w bc [aa g]) (x:GT):
 ae A2 209 [.agg ⟨[aa x.1,aa x.2.1,aa x.2.2.1,.bool x.2.2.2.1,aa x.2.2.2.2.1]⟩,ag (af bc)] w (.bool (oV g x)):=by
 refine ae.of (s:= .el (.one .bool)) λw' h'=>ai (C:=G3) (aT:=λ_=>[]) (AL (LC _ _ _ _ _ _ w' _) ?_);have H:=At.start [] w';refine aM.go H λb c H=>?_;have a:cL c (af bc) (.one (.int .i64)) g:=dZ ((hc.ext h').ext H.all) rfl;refine aj.at 0 H rfl (show _=some x from rfl) ⟨trivial,λ_=>rfl,aj.cA 0 H rfl rfl (aj.of g a ⟨λ_=>rfl,aj.cA 0 H rfl rfl (aj.of g a (au.go H λd H=>⟨?_,H.all⟩))⟩)⟩;rfl
theorem OL {j:Nat} {x:Nat×List AC} (h:L[j]? =some x):L.set j x=L:=DZ λm=>by
 by_cases e:j=m
 ·subst e;rw[DI (B1.1 h).1,h]
 ·rw[DY e]
end
end Go.Proofs.YtlcenllcmeebhaaGreat
namespace Go.Proofs.YtlcenllcmeebhaaGreat.Po
set_option maxRecDepth 100000
open Go.RX
abbrev sQ:List Sc:=[.int .i64,.int .i64,.int .i64,.bool,.bool]
abbrev eQ:El:= .agg sQ
abbrev PT:Type:=Int×Int×Int×Bool×Bool×Unit
def zP:PT:=(0,0,0,false,false,())
def gI (n:Int):Bool:=decide (n>=1)&&decide (n<=16)
noncomputable def R0:dM A2:={C3 with vN:=false}
theorem Rm (n:Int) (w:A1) (a:Bool->A1->Prop):(aJ R0 (λ_=>[]) 212 [aa n] w a)=(
 au w (a (decide (n>=1)&&decide (n<=16)))):=by kernel_rfl
theorem Rn (n:Int) (w:A1):aD A2 212 (.el (.one .bool)) [aa n] w (λx w'=>x=gI n/\Ext w w'):=by
 refine ai (C:=R0) (aT:=λ_=>[]) (AL (Rm n w _) ?_);have H:=At.start [] w
 repeat' (first
  |exact Go.RX.aK.all H
  |exact Ay (by first|rfl|decide+kernel) (Go.RX.aK.all H)
  |refine Ay (by first|exact rfl|exact trivial|exact λ_=>rfl|exact λ_=>trivial|exact⟨rfl,by decide,by decide⟩|exact⟨by decide,by decide⟩|decide+kernel|exact λ_=>by decide|exact λ_=>⟨rfl,by decide,by decide⟩|(dsimp only[GH,GI];exact⟨rfl,by decide,by decide⟩)) ?_
  |refine aj.cA 0 H rfl rfl ?_
  |refine aj.cA 1 H rfl rfl ?_
  |refine aj.at 0 H rfl rfl ?_
  |refine aj.at 1 H rfl rfl ?_
  |refine aM.go H λb w1 H=>?_
  |refine aC.all 0 H rfl rfl rfl λw1 H=>?_
  |refine aC.all 1 H rfl rfl rfl λw1 H=>?_
  |refine aC.gJ 0 H rfl rfl rfl λw1 H=>?_
  |refine aC.gJ 1 H rfl rfl rfl λw1 H=>?_
  |refine aC.one 0 H rfl rfl rfl λw1 H=>?_
  |refine aC.one 1 H rfl rfl rfl λw1 H=>?_
  |with_reducible refine au.go H λw1 H=>?_
  |refine km ?_
  |refine ay (by assumption) ?_
  |refine an (by assumption) ?_
  |refine ab (λc=>?_) (λc=>?_))
noncomputable def Z6:Entry A2 where
 f:=212
 fn l:=match l with
  |[.int .i64 a]=>some (True,.bool (gI a))
  | _=>none
 ok args pre v h b w:=by
  split at h
  ·rename_i a;cases h;exact bW (Rn a w)
  ·cases h
noncomputable def R1:dM A2:={R0 with sM:=[Z6],quiet:=[211,213,229,245,231]}
theorem Ro (p:Option AB) (w:A1) (a:Bool->A1->Prop):(aJ R1 (λ_=>[]) 211 [ag p] w a)=(
 ((!p.isNone)=true->p.isSome=true)/\((!p.isNone)=true->p.isSome=true)/\aj w (some !p.isNone) (ad p 2560) aV λ(x:Int)=>au w (a (!p.isNone&&decide (x>0)))):=by kernel_rfl
theorem O3 (p:Option AB) (g i:Int) (w:A1) (a:Option AB->A1->Prop):(aJ R1 (λ_=>[]) 213 [ag p,aa g,aa i] w a)=(
 ∃x,ae A2 211 [ag p] w (.bool x)/\((!!x)=true->True)/\((!(!x|| !gI g||decide (i<0)))=true->p.isSome=true)/\((!(!x|| !gI g||decide (i<0)))=true->p.isSome=true)/\aj w (some !(!x|| !gI g||decide (i<0))) (ad p 2560) aV λ(b:Int)=>aI (!x|| !gI g||decide (i<0)||decide (i>=b)) (au w (a none)) (p.isSome=true/\p.isSome=true/\((ad p 0).isSome=true/\0<=aX .i64 g 1/\aX .i64 g 1<(↑16:Int))/\((ad (ad p 0) ((aX .i64 g 1).toNat*160)).isSome=true/\0<=i/\i<(↑32:Int))/\(ad (ad (ad p 0)
 ((aX .i64 g 1).toNat*160)) (i.toNat*5)).isSome=true/\aj w none (ad (ad (ad p 0) ((aX .i64 g 1).toNat*160)) (i.toNat*5)) (.agg [.int .i64,.int .i64,.int .i64,.bool,.bool]) λ(x:Int×Int×Int×Bool×Bool×Unit)=>aI (x.1==0&&(x.2.1==0&&(x.2.2.1==0&&(x.2.2.2.1==false&&(x.2.2.2.2.1==false&&true))))) (au w (a none)) (au w λw1=>a (ad (ad (ad p 0) ((aX .i64 g 1).toNat*160)) (i.toNat*5)) w1))):=by kernel_rfl
def uv:Nat->a6:=(λ|2=>[(10,Go.RX.El.one (Go.RX.Sc.int B3))]| _=>[])
theorem Rq (p:Option AB) (g:Int) (w:A1) (a:Int->A1->Prop):(aJ R1 uv 245 [ag p,aa g] w a)=(
 cN p 2560 w λx=> ∃(I:Nat->Int×Unit->A1->Prop),(∃n, ∀w1,Ext w w1->I n (0,()) w1)/\ ∀(n:Nat) (s:Int×Unit) (w1:A1),I n s w1->aI (decide (s.1<x)) (∃(x:Option AB),ae A2 213 [ag p,aa g,aa s.1] w1 (ag x)/\aI x.isNone (au w1 (a s.1)) (∀b,Ext w1 b-> ∃(c:Nat),c<n/\I c (aH .i64 s.1 1,()) b)) (au w1 (a (-1)))):=by kernel_rfl
theorem Z7 (p:Option AB) (g r:Int) (w:A1) (a:Int->A1->Prop):(aJ R1 (λ_=>[]) 229 [ag p,aa g,aa r] w a)=(
 ∃x,ae A2 211 [ag p] w (.bool x)/\aI (!x) (au w (a 10)) (True/\((!!gI g)=true->True)/\aI (!gI g|| !gI r||g==r) (au w (a 1)) (au w (a 0)))):=by kernel_rfl
theorem Vx (p:Option AB) (w:A1) (a:Int->A1->Prop):(aJ R1 (λ_=>[]) 231 [ag p] w a)=(
 ∃x,ae A2 211 [ag p] w (.bool x)/\aI (!x) (au w (a 10)) (au w (a 4))):=by kernel_rfl
theorem Z8 (p:Option AB) (g:Int) (x1 e f:Int) (h i:Bool) (w:A1) (d:Int×Int×Unit->A1->Prop):(aJ R1 (λ_=>[]) 230 [ag p,aa g,.agg ⟨[aa x1,aa e,aa f,.bool h,.bool i]⟩] w d)=(
 aM w ⟨[aa x1,aa e,aa f,.bool h,.bool i]⟩ 217 λb a=> ∃(x:Int),ae A2 245 [ag p,aa g] a (aa x)/\aI (x== -1) (au a (d (0,3,()))) (aj a none (af b) (.agg [.int .i64,.int .i64,.int .i64,.bool,.bool]) λ(c:Int×Int×Int×Bool×Bool×Unit)=>p.isSome=true/\p.isSome=true/\((ad p 0).isSome=true/\0<=aX .i64 g 1/\aX .i64 g 1<(↑16:Int))/\((ad (ad p 0) ((aX .i64 g 1).toNat*160)).isSome=true/\0<=x/\x<(↑32:Int))/\aC a (ad (ad (ad p 0) ((aX .i64 g
 1).toNat*160)) (x.toNat*5)) [aa c.1,aa c.2.1,aa c.2.2.1,.bool c.2.2.2.1,.bool c.2.2.2.2.1] λa=>au a (d (x,0,())))):=by kernel_rfl
theorem Rs (p:Option AB) (g r:Int) (w:A1) (a:Int×Int×Unit->A1->Prop):(aJ R1 (λ_=>[]) 185 [ag p,aa g,aa r] w a)=(
 ∃(x:Int),ae A2 229 [ag p,aa g,aa r] w (aa x)/\aI (x != 0) (au w (a (0,x,()))) (aA A2 230 (.bu [.one (.int .i64),.one (.int .i64)]) [ag p,aa g,.agg ⟨[aa 1,aa r,aa 0,.bool false,.bool false]⟩] w λ(x:Int×Int×Unit) b=>au b (a (x.1,x.2.1,())))):=by kernel_rfl
theorem Ru (p:Option AB) (g r i:Int) (w:A1) (a:Int×Int×Unit->A1->Prop):(aJ R1 (λ_=>[]) 186 [ag p,aa g,aa r,aa i] w a)=(
 ∃(x:Int),ae A2 229 [ag p,aa g,aa r] w (aa x)/\aI (x != 0) (au w (a (0,x,()))) (∃(x:Option AB),ae A2 213 [ag p,aa r,aa i] w (ag x)/\aI x.isNone (au w (a (0,4,()))) (cN x 0 w λd=>aI (d==2) (au w (a (0,6,()))) (cN x 1 w λe=>aI (e != g) (au w (a (0,7,()))) (aA A2 230 (.bu [.one (.int .i64),.one (.int .i64)]) [ag p,aa g,.agg ⟨[aa 2,aa r,aa i,.bool false,.bool false]⟩] w λ(b:
 Int×Int×Unit) c=>aI (b.2.1==0) (x.isSome=true/\x.isSome=true/\aC c (ad x 0) [aa 2] λc=>x.isSome=true/\x.isSome=true/\aC c (ad x 2) [aa b.1] λc=>au c (a (b.1,b.2.1,()))) (au c (a (b.1,b.2.1,())))))))):=by kernel_rfl
theorem Rv (p:Option AB) (g i:Int) (w:A1) (a:Int->A1->Prop):(aJ R1 (λ_=>[]) 187 [ag p,aa g,aa i] w a)=(
 ∃(x:Option AB),ae A2 213 [ag p,aa g,aa i] w (ag x)/\aI x.isNone (∃(x:Int),ae A2 231 [ag p] w (aa x)/\au w (a x)) (cN x 0 w λc=>aI (c != 2) (au w (a 6)) (cN x 1 w λd=>cN x 2 w λx=> ∃(b:Option AB),ae A2 213 [ag p,aa d,aa x] w (ag b)/\b.isSome=true/\b.isSome=true/\aC w (ad b 3) [.bool true] λe=>au e (a 0)))):=by kernel_rfl
def uw:Nat->a6:=(λ|5=>[(5,Go.RX.El.one Go.RX.Sc.slice),(15,Go.RX.El.one (Go.RX.Sc.int B3))]| _=>[])
theorem Rw (p:Option AB) (g:Int) (w:A1) (e:Option AB×Nat×Nat->A1->Prop):(aJ R1 uw 232 [ag p,aa g] w e)=(
 ∃x,ae A2 211 [ag p] w (.bool x)/\aI (!x) (au w (e (none,0,0))) (cN p 2560 w λx=> ∃(I:Nat->(Option AB×Nat×Nat)×Int×Unit->A1->Prop),(∃n, ∀w1,Ext w w1->I n ((none,0,0),0,()) w1)/\ ∀(n:Nat) (s:(Option AB×Nat×Nat)×Int×Unit) (w1:A1),I n s w1->aI (decide (s.2.1<x)) (∃(x:Option AB),ae A2 213 [ag p,aa g,aa s.2.1] w1 (ag x)/\((!x.isNone)=true->x.isSome=true)/\((!x.isNone)=true->x.isSome=true)/\aj w1 (some !x.isNone) (ad x 3) rJ λd=>
 ((!x.isNone&&d)=true->x.isSome=true)/\((!x.isNone&&d)=true->x.isSome=true)/\aj w1 (some (!x.isNone&&d)) (ad x 4) rJ λh=>aI (!x.isNone&&d&& !h) (aM w1 ⟨[aa s.2.1]⟩ 3 λb f=> ∀w1,Ext f w1->mH w1 3 1 8 ⟨[aa 0]⟩ (s.1.1,s.1.2.1,s.1.2.2) (some ⟨b,0,none⟩,1,1) λ(r:Option AB×Nat×Nat) f=> ∀a,Ext f a-> ∃(c:Nat),c<n/\I c ((r.1,r.2.1,r.2.2),aH .i64 s.2.1 1,()) a) (∀a,Ext w1 a-> ∃(c:Nat),c<n/\I c ((s.1.1,s.1.2.1,s.1.2.2),aH .i64 s.2.1 1,()) a)) (au w1 (e
 (s.1.1,s.1.2.1,s.1.2.2))))):=by kernel_rfl
theorem Rx (p:Option AB) (g:Int) (w:A1) (c:Int×Bool×Unit->A1->Prop):(aJ R1 (λ_=>[]) 188 [ag p,aa g] w c)=(
 aA A2 232 (.el eH) [ag p,aa g] w λx a=>aI ((↑x.2.1:Int)==0) (au a (c (0,false,()))) ((x.1.isSome=true/\(0:Int)<=0/\0<(↑x.2.1:Int))/\aW a (ad x.1 0) λd=> ∃(b:Option AB),ae A2 213 [ag p,aa g,aa d] a (ag b)/\b.isSome=true/\b.isSome=true/\aC a (ad b 3) [.bool false] λa=>(x.1.isSome=true/\(0:Int)<=0/\0<(↑x.2.1:Int))/\aW a (ad x.1 0) λx=>au a (c (x,true,())))):=by kernel_rfl
theorem LR (p:Option AB) (g i:Int) (w:A1) (c:Int->A1->Prop):(aJ R1 (λ_=>[]) 189 [ag p,aa g,aa i] w c)=(
 ∃(x:Option AB),ae A2 213 [ag p,aa g,aa i] w (ag x)/\aI x.isNone (∃(x:Int),ae A2 231 [ag p] w (aa x)/\au w (c x)) (cN x 0 w λd=>aI (d==2) (cN x 1 w λe=>cN x 2 w λf=> ∃(a:Option AB),ae A2 213 [ag p,aa e,aa f] w (ag a)/\a.isSome=true/\a.isSome=true/\aC w (ad a 0) [aa 1] λb=>a.isSome=true/\a.isSome=true/\aC b (ad a 2) [aa 0] λb=>x.isSome=true/\aC b x [aa 0,.int .i64
 0,aa 0,.bool false,.bool false] λb=>au b (c 0)) (x.isSome=true/\aC w x [aa 0,aa 0,aa 0,.bool false,.bool false] λb=>au b (c 0)))):=by kernel_rfl
def ux:Nat->a6:=(λ|5=>[(5,Go.RX.El.one (Go.RX.Sc.int B3)),(22,Go.RX.El.one (Go.RX.Sc.int B3))]|11=>[(5,Go.RX.El.one (Go.RX.Sc.int B3)),(7,Go.RX.El.one (Go.RX.Sc.int B3))]|14=>[(5,Go.RX.El.one (Go.RX.Sc.int B3)),(41,Go.RX.El.one (Go.RX.Sc.int B3))]| _=>[])
theorem Ry (p:Option AB) (g:Int) (w:A1) (h:Int->A1->Prop):(aJ R1 ux 170 [ag p,aa g] w h)=(
 ∃x,ae A2 211 [ag p] w (.bool x)/\((!!x)=true->True)/\aI (!x|| !gI g) (au w (h 0)) (cN p 2560 w λx=> ∃(I:Nat->Int×Int×Unit->A1->Prop),(∃n, ∀w1,Ext w w1->I n (0,0,()) w1)/\ ∀(n:Nat) (s:Int×Int×Unit) (w1:A1),I n s w1->aI (decide (s.2.1<x)) (aA A2 189 (.el aV) [ag p,aa g,aa s.2.1] w1 λ(x:Int) e=>aI (x==0) (∀a,Ext e a-> ∃(b:Nat),b<n/\I b (aH .i64 s.1 1,aH .i64 s.2.1 1,()) a) (∀a,Ext e a-> ∃(b:Nat),b<n/\I b (s.1,aH .i64 s.2.1 1,
 ()) a)) (∃(I:Nat->Int×Int×Unit->A1->Prop),(∃n, ∀d,Ext w1 d->I n (s.1,1,()) d)/\ ∀(n:Nat) (s:Int×Int×Unit) (w1:A1),I n s w1->aI (decide (s.2.1<=16)) (cN p 2560 w1 λx=> ∃(f:Nat->Int×Int×Unit->A1->Prop),(∃n, ∀d,Ext w1 d->f n (s.1,0,()) d)/\ ∀(i:Nat) (c:Int×Int×Unit) (w1:A1),f i c w1->aI (decide (c.2.1<x)) (∃(x:Option AB),ae A2 213 [ag p,aa s.2.1,aa c.2.1] w1 (ag x)/\((!x.isNone)=true->x.isSome=true)/\
 ((!x.isNone)=true->x.isSome=true)/\aj w1 (some !x.isNone) (ad x 1) aV λ(j:Int)=>aI (!x.isNone&&j==g) (x.isSome=true/\aC w1 x [aa 0,aa 0,aa 0,.bool false,.bool false] λe=> ∀a,Ext e a-> ∃(b:Nat),b<i/\f b (aH .i64 c.1 1,aH .i64 c.2.1 1,()) a) (∀a,Ext w1 a-> ∃(b:Nat),b<i/\f b (c.1,aH .i64 c.2.1 1,()) a)) (∀a,Ext w1 a-> ∃(b:Nat),b<n/\I b (c.1,aH .i64 s.2.1 1,()) a)) (au w1 (h s.1))))):=by kernel_rfl
theorem JB {ss:List Sc} {xs:List (jq ss)} {rest:List AC} {k f:Nat} {x:jq ss} (hx:xs[k]? =some x) (a:f<ss.length):(flat (.agg ss) xs++rest)[k*ss.length+f]? =(bh ss x)[f]? :=by
 induction xs generalizing k with
 |nil=>simp at hx
 |cons y ys b=>
  cases k with
  |zero=>
   simp at hx;have c:f<(bh ss y).length:=by rw[cG];exact a
   simp only[Gi,B5];show((bh ss y++flat (.agg ss) ys)++rest)[f]? = _
   grind
  |succ k=>
   show((bh ss y++flat (.agg ss) ys)++rest)[(k+1)*ss.length+f]? = _;rw[DJ,GJ (by rw[cG,F7];omega),cG]
   grind
theorem BC {ss:List Sc} {xs:List (jq ss)} {rest:List AC} {k f:Nat} {x y:jq ss} {v:AC} (hx:xs[k]? =some x) (b:f<ss.length) (c:bh ss y=(bh ss x).set f v):(flat (.agg ss) xs++rest).set (k*ss.length+f) v=flat (.agg ss) (xs.set k y)++rest:=by
 induction xs generalizing k with
 |nil=>simp at hx
 |cons z a d=>
  cases k with
  |zero=>
   have e:f<(bh ss z).length:=by rw[cG];exact b
   simp only[Gi,B5];show((bh ss z++flat (.agg ss) a)++rest).set f v=(bh ss y++flat (.agg ss) a)++rest
   grind
  |succ k=>
   show((bh ss z++flat (.agg ss) a)++rest).set _ v=(bh ss z++flat _ _)++rest;rw[DJ,List.set_append_right _ _ (by rw[cG,F7];omega),cG]
   grind
abbrev gS (room:Int) (ps:List PT):List AC:=flat eQ ps++[aa room]
def ix (g i:Int):Nat:=(g - 1).toNat*32+i.toNat
def sS (room g i:Int):Bool:=gI g&&(decide (0<=i)&&decide (i<room))
def oR (room:Int) (ps:List PT) (g i:Int):Option Nat:=if sS room g i=true/\ps.getD (ix g i) zP≠zP then some (ix g i) else none
structure okS (room:Int) (ps:List PT):Prop where
 len:ps.length=512
 lo:1<=room
 hi:room<=32
theorem nN {g:Int}:gI g=true<->1<=g/\g<=16:=by simp[gI]
theorem fb {room g i:Int}:sS room g i=true<->(1<=g/\g<=16)/\0<=i/\i<room:=by simp[sS,nN]
theorem o_ {room g i:Int} (h:sS room g i=true) (a:room<=32):ix g i<512:=by grind[fb,ix]
theorem PG {room g i g' a:Int} (h:sS room g i=true) (h':sS room g' a=true) (b:room<=32) (e:ix g i=ix g' a):g=g'/\i=a:=by grind[fb,ix]
theorem okS.get {room:Int} {ps:List PT} (h:okS room ps) {k:Nat} (a:k<512):ps[k]? =some (ps.getD k zP):=by
 rw[B2,Ax (by rw[h.len];grind)];rfl
theorem okS.set {room:Int} {ps:List PT} (h:okS room ps) (k:Nat) (x:PT):okS room (ps.set k x):=⟨by rw[GO];exact h.len,h.lo,h.hi⟩
theorem fL {room:Int} {ps:List PT} {g i:Int} {k:Nat} (h:oR room ps g i=some k):sS room g i=true/\k=ix g i/\ps.getD k zP≠zP:=by grind[oR]
theorem qd {room:Int} {ps:List PT} (h:okS room ps):k9 (gS room ps) (0+2560) (.one (.int .i64))=some room:=by
 have:(gS room ps)[2560]? =some (aa room):=by
  rw[GJ (by rw[aG,h.len];decide),aG,h.len];rfl
 show(match (gS room ps)[0+2560]? with|some v=>(Sc.int _).proj v|none=>none)=some room;rw[this];rfl
theorem isZ (x:PT):(x.fst==0&&(x.snd.fst==0&&(x.snd.snd.fst==0&&(x.snd.snd.snd.fst==false&&(x.snd.snd.snd.snd.fst==false&&true)))))=decide (x=zP):=by
 obtain⟨a,b,c,d,e,u⟩:=x;rw[KC];simp[zP]
theorem rC {room:Int} {ps:List PT} {k f:Nat} {x:PT} (hx:ps[k]? =some x) (a:f<5) {s:Sc} {y:s.T} (b:(match (bh sQ x)[f]? with|some v=>s.proj v|none=>none)=some y):k9 (gS room ps) (k*5+f) (.one s)=some y:=by
 show(match (gS room ps)[k*5+f]? with|some v=>s.proj v|none=>none)=some y;have:=JB (ss:=sQ) (rest:=[aa room]) hx a
 simp_all
section
variable {D G:List Nat} {w0 w:A1} {L:List (Nat×List AC)}
theorem aC.rC (j:Nat) (H:aK D G w0 w L) {bp k f:Nat} {room:Int} {ps:List PT} {x:PT} (y:PT) {v:AC} {K:A1->Prop} (a:L[j]? =some (bp,gS room ps)) (hx:ps[k]? =some x) (b:f<5) (hv:v.oneCell'=true) (c:bh sQ y=(bh sQ x).set f v)
 (d: ∀w1,aK D G w0 w1 (L.set j (bp,gS room (ps.set k y)))->K w1):aC w (ad (some ⟨bp,k*5,none⟩) f) [v] K:=by
 refine aC.gJ j H a hv ?_ λw1 h1=>d w1 ?_
 ·rw[Gj];have:(flat eQ ps).length=ps.length*5:=aG eQ ps
  grind
 ·have e:(gS room ps).set _ v=gS room _:=BC hx b c
  grind
end
section
variable {w:A1} {bp:Nat} {room:Int} {ps:List PT}
theorem pI (h:bN w bp (gS room ps)) (hs:okS room ps):aD A2 211 (.el (.one .bool)) [ag (af bp)] w (λx w'=>x=true/\Ext w w'):=by
 refine ai (AL (Ro _ w _) ?_);refine⟨λ_=>rfl,λ_=>rfl,aj.jC (At.start [] w) h (by simp) (qd hs) λw1 h1=>⟨?_,h1⟩⟩;have:=hs.lo
 grind
def cA (bp:Nat) (room:Int) (ps:List PT) (g i:Int):Option AB:=(oR room ps g i).map λk=>⟨bp,k*5,none⟩
theorem Ek (h:bN w bp (gS room ps)) (hs:okS room ps) (g i:Int):aD A2 213 (.el (.one .ptr)) [ag (af bp),aa g,aa i] w (λx w'=>x=cA bp room ps g i/\Ext w w'):=by
 refine ai (C:=R1) (aT:=λ_=>[]) (AL (O3 _ g i w _) ?_);refine⟨true,ae.of (s:= .el (.one .bool)) λw' h'=>pI (h.ext h') hs,λ_=>trivial,λ_=>rfl,λ_=>rfl,aj.jC (At.start [] w) h (by simp) (qd hs) ?_⟩;have n:=hs.lo;have b:=hs.hi;refine ab (λc w1 h1=>⟨?_,h1⟩) (λc=>?_)
 ·have d: ¬ sS room g i=true:=by
   rw[fb];intro f;have j:gI g=true:=nN.2 f.1;rw[j] at c;simp at c;omega
  unfold cA oR;rw[ao (λhc=>d hc.1)];rfl
 ·have a:sS room g i=true:=by
   grind[fb,nN,gI]
  have o:=fb.1 a;have k:=o_ a b;have hx:=hs.get k;have es:aX .i64 g 1=g - 1:=bC (by omega) (by omega);rw[es];have l:ad (ad (ad (af bp) 0) ((g - 1).toNat*160)) (i.toNat*5)=some ⟨bp,ix g i*5,none⟩:=by
   rw[aY,aY,aY];unfold ix;congr 2;omega
  have m:ad (ad (af bp) 0) ((g - 1).toNat*160)=some ⟨bp,0+0+(g - 1).toNat*160,none⟩:=by rw[aY,aY]
  rw[l,m];refine⟨rfl,rfl,⟨rfl,by omega,by omega⟩,⟨rfl,by omega,by omega⟩,rfl,aj.of (ps.getD (ix g i) zP) ?_ ?_⟩
  ·have:=f_ (e:=eQ) (rest:=[aa room]) h hx;rw[aY,B5] at this;exact this
  ·rw[isZ];refine ab (λc2 w1 h1=>⟨?_,h1⟩) (λc2 w1 h1=>⟨?_,h1⟩)
   ·unfold cA oR
    grind
   ·unfold cA oR;rw[aw ⟨a,of_decide_eq_false c2⟩];rfl
def rN (g r:Int):Int:=if !gI g|| !gI r||g==r then 1 else 0
theorem Z9 (h:bN w bp (gS room ps)) (hs:okS room ps) (g r:Int):aD A2 229 (.el (.one (.int .i64))) [ag (af bp),aa g,aa r] w (λx w'=>x=rN g r/\Ext w w'):=by
 refine ai (C:=R1) (aT:=λ_=>[]) (AL (Z7 _ g r w _) ?_);refine⟨true,ae.of (s:= .el (.one .bool)) λw' h'=>pI (h.ext h') hs,an rfl ⟨trivial,λ_=>trivial,ab (λc w1 h1=>⟨?_,h1⟩) (λc w1 h1=>⟨?_,h1⟩)⟩⟩
 ·unfold rN;rw[aw c]
 ·unfold rN;grind
theorem Vy (h:bN w bp (gS room ps)) (hs:okS room ps):aD A2 231 (.el (.one (.int .i64))) [ag (af bp)] w (λx w'=>x=4/\Ext w w'):=by
 refine ai (C:=R1) (AL (Vx _ w _) ?_);exact⟨true,ae.of λw' h'=>pI (h.ext h') hs,an rfl λw1 h1=>⟨rfl,h1⟩⟩
def cB (room:Int) (ps:List PT) (g:Int):Int:=match (D8 room.toNat).find? λ(i:Nat)=>(oR room ps g i).isNone with
 |some i=>(i:Int)
 |none=> -1
theorem Rz (h:bN w bp (gS room ps)) (hs:okS room ps) (g:Int):aD A2 245 (.el (.one (.int .i64))) [ag (af bp),aa g] w (λx w'=>x=cB room ps g/\Ext w w'):=by
 refine ai (C:=R1) (aT:=uv) (AL (Rq _ g w _) ?_);have k:=hs.lo;have l:=hs.hi;refine⟨rfl,rfl,aj.jC (At.start [] w) h (by simp) (qd hs) ?_⟩;refine⟨λq s w'=> ∃i:Nat,s.1=i/\q+i=room.toNat/\(∀j:Nat,j<i->(oR room ps g j).isNone=false)/\Ext w w',⟨room.toNat,λw1 h1=>⟨0,rfl,rfl,λj d=>absurd d (by omega),h1⟩⟩,?_⟩;rintro q ⟨m,u⟩ w1 ⟨i,hi,n,f,b⟩;simp only at hi;subst hi;dsimp only;refine ab (λc=>?_) (λc e a=>⟨?_,b.trans a⟩)
 ·have o:i<room.toNat:=by simp at c;omega
  refine⟨_,ae.of (s:= .el (.one .ptr)) λw' h'=>Ek ((h.ext b).ext h') hs g i,ab (λc2 e a=>⟨?_,b.trans a⟩) (λc2 e a=>⟨q - 1,by omega,i+1,by rw[av (by omega) (by omega)];rfl,by omega,λj d=>?_,b.trans a⟩)⟩
  ·grind[oR,cA,D8,IQ,cB]
  ·rcases Nat.lt_or_ge j i with h1|h1
   ·exact f j h1
   ·obtain rfl:j=i:=by omega
    unfold cA at c2;simpa using c2
 ·have:(D8 room.toNat).find? (λ(i:Nat)=>(oR room ps g i).isNone)=none:=by
   grind
  unfold cB;rw[this]
theorem m6 {room:Int} {ps:List PT} {g:Int} (hg:gI g=true) (h:cB room ps g≠ -1):sS room g (cB room ps g)=true/\oR room ps g (cB room ps g)=none:=by
 unfold cB at h ⊢;split
 ·rename_i hi;rw[IQ] at hi;have:=GF.1 hi.2.1;exact⟨fb.2 ⟨nN.1 hg,by omega⟩,by simp_all⟩
 grind
end
end Go.Proofs.YtlcenllcmeebhaaGreat.Po
namespace Go.Proofs.YtlcenllcmeebhaaGreat
set_option maxRecDepth 100000
open Go.RX
theorem AJ {L Ls:List (Nat×List AC)} {k:Nat} {x:Nat×List AC} (h:L[k]? =some x):(L++Ls)[k]? =some x:=by
 grind
theorem Cu.len {Ls:List (Nat×List AC)} {sl:Option AB×Nat×Nat} {xs:List Int} (h:Cu Ls sl xs):sl.2.1=xs.length:=by
 rcases h with ⟨rfl,rfl,rfl⟩|⟨bs,c,rest,rfl, _⟩
 ·rfl
 ·rfl
theorem Cu.rd {D G:List Nat} {w0 w:A1} {L Ls:List (Nat×List AC)} {sl:Option AB×Nat×Nat} {xs:List Int} (h:Cu Ls sl xs) (H:aK D G w0 w L) (a: ∀y∈Ls,y∈L) {i:Nat} {x:Int} (hx:xs[i]? =some x):sl.1.isSome=true/\cL w (ad sl.1 (i*1)) (.one (.int .i64)) x:=by
 rcases h with ⟨rfl,rfl,rfl⟩|⟨bs,c,rest,rfl,rfl, _⟩
 ·grind
 ·exact⟨rfl,f_ (H.dp _ (a _ DA)) hx⟩
section
variable {D G:List Nat} {w0 w:A1} {L:List (Nat×List AC)} {bg br c:Nat} {gs:List GT} {rest:List AC}
theorem G7 {Ls:List (Nat×List AC)} {a:Nat} {x:Int} {xs:List Int} {sl:Option AB×Nat×Nat} (H:aK D G w0 w ((a,[aa x])::(L++Ls))) (hs:Cu Ls sl xs) (hb:xs.length<=900000) {t:Bf}
 {R:Option AB×Nat×Nat->A1->Prop} (k: ∀b d w',Cu b d (xs++[x])->aK D G w0 w' (L++b)->R d w'):
 mH w t 1 8 ⟨[aa 0]⟩ sl (some ⟨a,0,none⟩,1,1) R:=by
 refine aK.abF (e:=eI) (H.perm (.cons _ FP)) (by simp) hs rfl rfl rfl (by grind) λbs c rest w' f g h=>k _ _ w' (.inr ⟨bs,c,rest,rfl,rfl,f,g⟩) (h.perm ?_);simp
theorem LU (H:aK D G w0 w L) (j q:Nat) (h:L[j]? =some (bg,mJ br gs.length c)) (r:L[q]? =some (br,flat eG gs++rest)) (h0:0<gs.length) (F:gs.length<=64) {K:Option AB×Nat×Nat->A1->Prop}
 (k: ∀sl Ls a,Cu Ls sl (dm gs ff gs.length)->aK D G w0 a (L++Ls)->K sl a):
 aA A2 208 (.el (.one .slice)) [ag (af bg),.func (.func 210) #[] #[]] w K:=by
 refine aA.go H λw1 H=>ai (C:=G3) (aT:=qZ) (AL (LD _ w1 K) ?_);have hg: ∀{w:A1} {L1:List (Nat×List AC)},aK D G w0 w (L++L1)->bN w bg (mJ br gs.length c)/\bN w br (flat eG gs++rest):=λ{w L1} H=>⟨H.get (AJ h),H.get (AJ r)⟩;refine⟨_,pH (H.get h) h0,an rfl ⟨rfl,rfl,aj.cA j H h rfl ?_⟩⟩;refine⟨λn v w'=> ∃(m:Nat) (Ls:List (Nat×List AC)),v.2.1=(m:Int)/\n+m=gs.length/\Cu Ls v.1 (dm gs ff m)/\aK D G w0 w' (L++Ls),⟨gs.length,λa s=>⟨0,[],rfl,rfl,.inl ⟨rfl,rfl,rfl⟩,by rw[CL];exact H.ext s⟩⟩,?_⟩;clear H;rintro n ⟨sl,v,u⟩ a ⟨m,Ls,e,I,f,H⟩;dsimp only at e f ⊢;subst e;refine ab (λi=>?_) (λi=>?_)
 ·have o:m<gs.length:=by simpa using i
  have hx:gs[m]? =some (gs.getD m zG):=by
   grind
  have t:aH .i64 (m:Int) 1=((m+1:Nat):Int):=by rw[av (by omega) (by omega)];omega
  have g:=sq gs ff m;obtain⟨x,y⟩: ∃x,x=gs.getD m zG:=⟨_,rfl⟩;rw[<-y] at hx g;rw[t];have J:=qt gs ff m;refine⟨⟨rfl,by omega,by omega⟩,aj.of x (f_ (e:=eG) (hg H).2 hx) (aM.go H λb p H=>aC.all 0 H rfl rfl rfl λM H=>aj.at 0 H rfl (show _=some x from rfl) ?_)⟩;refine⟨trivial,?_⟩;refine ab (λd=>aM.go H λN O H=>λz l=>?_) (λd=>λz l=>⟨n - 1,by omega,m+1,Ls,rfl,by omega,?_,?_⟩)
  ·have d:ff x=true:=d;rw[aw d] at g;have H:=H.ext l;have H:=H.sub (.cons_cons _ (AY _ _));refine G7 H f (by omega) λA P Q B H=>λR E=>⟨n - 1,by omega,m+1,A,rfl,by omega,?_,H.ext E⟩;rw[g];exact B
  ·have d: ¬ ff x=true:=by
    have d:ff x=false:=d;rw[d];decide
   rw[g,ao d,CL];exact f
  ·exact(H.sub (AY _ _)).ext l
 ·have o:m=gs.length:=by
   have: ¬ m<gs.length:=by simpa using i
   omega
  subst o;exact au.go H λp H=>k sl Ls p f H
theorem LV (H:aK D G w0 w L) (j y:Nat) (f:L[j]? =some (bg,mJ br gs.length c)) (z:L[y]? =some (br,flat eG gs++rest)) (h0:0<gs.length) (N:gs.length<=64) {bc:Nat} {o q t:Int} (hc:(bc,[aa o,aa q,aa t,.bool false,aa 0])∈L) {K:Option AB×Nat×Nat->A1->Prop}
 (k: ∀sl Ls a,Cu Ls sl (dm gs (ko o q t) gs.length)->aK D G w0 a (L++Ls)->K sl a):
 aA A2 208 (.el (.one .slice)) [ag (af bg),.func (.func 226) #[] #[ag (af bc)]] w K:=by
 refine aA.go H λw1 H=>ai (C:=G3) (aT:=q_) (AL (LF _ _ w1 K) ?_);have hg: ∀{w:A1} {L1:List (Nat×List AC)},aK D G w0 w (L++L1)->bN w bg (mJ br gs.length c)/\bN w br (flat eG gs++rest):=λ{w L1} H=>⟨H.get (AJ f),H.get (AJ z)⟩;refine⟨_,pH (H.get f) h0,an rfl ⟨rfl,rfl,aj.cA j H f rfl ?_⟩⟩;refine⟨λn v w'=> ∃(m:Nat) (Ls:List (Nat×List AC)),v.2.1=(m:Int)/\n+m=gs.length/\Cu Ls v.1 (dm gs (ko o q t) m)/\aK D G w0 w' (L++Ls),⟨gs.length,λa A=>⟨0,[],rfl,rfl,.inl ⟨rfl,rfl,rfl⟩,by rw[CL];exact H.ext A⟩⟩,?_⟩;clear H;rintro n ⟨sl,v,u⟩ a ⟨m,Ls,e,O,g,H⟩;dsimp only at e g ⊢;subst e;refine ab (λh=>?_) (λh=>?_)
 ·have p:m<gs.length:=by simpa using h
  have hx:gs[m]? =some (gs.getD m zG):=by
   grind
  have B:aH .i64 (m:Int) 1=((m+1:Nat):Int):=by rw[av (by omega) (by omega)];omega
  have i:=sq gs (ko o q t) m;obtain⟨x,E⟩: ∃x,x=gs.getD m zG:=⟨_,rfl⟩;rw[<-E] at hx i;rw[B];have P:=qt gs (ko o q t) m;refine⟨⟨rfl,by omega,by omega⟩,aj.of x (f_ (e:=eG) (hg H).2 hx) (aM.go H λb r H=>aC.all 0 H rfl rfl rfl λQ H=>aj.at 0 H rfl (show _=some x from rfl) ?_)⟩;refine⟨_,Vw (H.dp _ (CK _ (DK _ hc))) x,?_⟩;refine ab (λd=>aM.go H λF R H=>λs l=>?_) (λd=>λs l=>⟨n - 1,by omega,m+1,Ls,rfl,by omega,?_,?_⟩)
  ·have d:(ko o q t) x=true:=d;rw[aw d] at i;have H:=H.ext l;have H:aK D G w0 s ((F,[aa (m:Int)])::(L++Ls)):=H.sub (.cons_cons _ (AY _ _));refine G7 H g (by omega) λI S T J H=>λU M=>⟨n - 1,by omega,m+1,I,rfl,by omega,?_,H.ext M⟩;rw[i];exact J
  grind
  ·exact(H.sub (AY _ _)).ext l
 ·have p:m=gs.length:=by
   have: ¬ m<gs.length:=by simpa using h
   omega
  subst p;exact au.go H λr H=>k sl Ls r g H
theorem LW (H:aK D G w0 w L) (j s:Nat) (f:L[j]? =some (bg,mJ br gs.length c)) (t:L[s]? =some (br,flat eG gs++rest)) (h0:0<gs.length) (J:gs.length<=64) {bc:Nat} {g:Int} (hc:(bc,[aa g])∈L) {K:Option AB×Nat×Nat->A1->Prop}
 (k: ∀sl Ls a,Cu Ls sl (dm gs (oV g) gs.length)->aK D G w0 a (L++Ls)->K sl a):
 aA A2 208 (.el (.one .slice)) [ag (af bg),.func (.func 209) #[] #[ag (af bc)]] w K:=by
 refine aA.go H λw1 H=>ai (C:=G3) (aT:=rb) (AL (LG _ _ w1 K) ?_);have hg: ∀{w:A1} {L1:List (Nat×List AC)},aK D G w0 w (L++L1)->bN w bg (mJ br gs.length c)/\bN w br (flat eG gs++rest):=λ{w L1} H=>⟨H.get (AJ f),H.get (AJ t)⟩;refine⟨_,pH (H.get f) h0,an rfl ⟨rfl,rfl,aj.cA j H f rfl ?_⟩⟩;refine⟨λn v w'=> ∃(m:Nat) (Ls:List (Nat×List AC)),v.2.1=(m:Int)/\n+m=gs.length/\Cu Ls v.1 (dm gs (oV g) m)/\aK D G w0 w' (L++Ls),⟨gs.length,λa y=>⟨0,[],rfl,rfl,.inl ⟨rfl,rfl,rfl⟩,by rw[CL];exact H.ext y⟩⟩,?_⟩;clear H;rintro n ⟨sl,v,u⟩ a ⟨m,Ls,e,M,h,H⟩;dsimp only at e h ⊢;subst e;refine ab (λi=>?_) (λi=>?_)
 ·have p:m<gs.length:=by simpa using i
  have hx:gs[m]? =some (gs.getD m zG):=by
   grind
  have z:aH .i64 (m:Int) 1=((m+1:Nat):Int):=by rw[av (by omega) (by omega)];omega
  have l:=sq gs (oV g) m;obtain⟨x,A⟩: ∃x,x=gs.getD m zG:=⟨_,rfl⟩;rw[<-A] at hx l;rw[z];have N:=qt gs (oV g) m;refine⟨⟨rfl,by omega,by omega⟩,aj.of x (f_ (e:=eG) (hg H).2 hx) (aM.go H λb q H=>aC.all 0 H rfl rfl rfl λO H=>aj.at 0 H rfl (show _=some x from rfl) ?_)⟩;refine⟨_,Rk (H.dp _ (CK _ (DK _ hc))) x,?_⟩;refine ab (λd=>aM.go H λB P H=>λr o=>?_) (λd=>λr o=>⟨n - 1,by omega,m+1,Ls,rfl,by omega,?_,?_⟩)
  ·have d:(oV g) x=true:=d;rw[aw d] at l;have H:=H.ext o;have H:aK D G w0 r ((B,[aa (m:Int)])::(L++Ls)):=H.sub (.cons_cons _ (AY _ _));refine G7 H h (by omega) λE Q R F H=>λS I=>⟨n - 1,by omega,m+1,E,rfl,by omega,?_,H.ext I⟩;rw[l];exact F
  grind
  ·exact(H.sub (AY _ _)).ext o
 ·have p:m=gs.length:=by
   have: ¬ m<gs.length:=by simpa using i
   omega
  subst p;exact au.go H λq H=>k sl Ls q h H
theorem CH (H:aK D G w0 w L) (a:Nat) (b:L[a]? =some (br,flat eG gs++rest)) {k:Nat} {x:GT} (hx:gs[k]? =some x) {f:Nat} (c:f<5) {s:Sc} {y:s.T} (d:(match (bh sG x)[f]? with|some v=>s.proj v|none=>none)=some y):cL w (ad (some ⟨br,k*5,none⟩) f) (.one s) y:=by
 rw[aY];refine dZ (H.get b) ?_;have h:=Po.JB (ss:=sG) (rest:=rest) hx c;show(match (flat eG gs++rest)[k*5+f]? with|some v=>s.proj v|none=>none)=some y
 simp_all
theorem aaX (H:aK D G w0 w L) (a:Nat) (b:L[a]? =some (br,flat eG gs++rest)) {k:Nat} {x:GT} (hx:gs[k]? =some x) {f:Nat} (c:f<5) {v:AC} (hv:v.oneCell'=true) (y:GT) (d:bh sG y=(bh sG x).set f v) {K:A1->Prop} (kk: ∀w1,aK D G w0 w1 (L.set a (br,flat eG (gs.set k y)++rest))->K w1):aC w (ad (some ⟨br,k*5,none⟩) f) [v] K:=by
 have e:=(B1.1 hx).1;refine aC.gJ a H b hv ?_ λw1 h1=>kk w1 ?_
 ·rw[Gj,E5,aG];show k*5+f<gs.length*5+rest.length;omega
 ·have h:=Po.BC (rest:=rest) hx c d
  grind
theorem Z_ (h:bN w bg (mJ br gs.length c)) (d:bN w br (flat eG gs++rest)) (h0:0<gs.length) (i:Int):
 aD A2 176 (.bu [eG,.one .bool]) [ag (af bg),aa i] w (λx w'=>x=(xx gs i,(l8 gs i).isSome,())/\Ext w w'):=by
 refine aQ (C:=G3) (aT:=λ_=>[]) (AL (ZY _ i w _) ?_);have H:=At.start [] w;refine aM.go H λb f H=>?_;have a:=H.all;refine⟨_,I8 (h.ext a) (d.ext a) h0 i,?_⟩;unfold CG CF xx;cases g:l8 gs i with
 |none=>exact ay rfl (aC.all 0 H rfl rfl rfl λj H=>au.go H λl H=>aj.at 0 H rfl (show _=some zG from rfl) ⟨rfl,H.all⟩)
 |some k=>
  obtain⟨_, _, _,hx, _⟩:=lF g;have m:cL f (some ⟨br,k*5,none⟩) eG (gs.getD k zG):=by
   have:=f_ (e:=eG) (d.ext a) hx;rw[aY,B5] at this;exact this
  refine an rfl ⟨rfl,aj.of _ m (aC.all 0 H rfl rfl rfl λj H=>au.go H λl H=>aj.at 0 H rfl (show _=some (gs.getD k zG) from rfl) ⟨rfl,H.all⟩)⟩
theorem RA (H:aK D G w0 w L) (j f:Nat) (o:L[j]? =some (bg,mJ br gs.length c)) (l:L[f]? =some (br,flat eG gs++rest)) (h0:0<gs.length) (p: ∀x∈gs,0<=x.2.2.2.2.1/\x.2.2.2.2.1<=1000) (i g:Int) (b:Bool) {K:Int->A1->Prop}
 (k: ∀a,aK D G w0 a (L.set f (br,flat eG (eh gs i g b)++rest))->K (iq gs i g b) a):
 aA A2 181 (.el (.one (.int .i64))) [ag (af bg),aa i,aa g,.bool b] w K:=by
 refine aA.go H λw1 H=>ai (C:=G3) (aT:=λ_=>[]) (AL (QM _ i g b w1 K) ?_);refine⟨_,I8 (H.get o) (H.get l) h0 i,?_⟩;have same:iq gs i g b≠0-> ∀{a},aK D G w0 a L->aK D G w0 a (L.set f (br,flat eG (eh gs i g b)++rest)):=λh a H=>by
  unfold eh;rw[ao h,OL l];exact H
 have e:iq gs i g b=match l8 gs i with
  |none=>4
  |some k=>if((gs.getD k zG).2.2.1 != g||b&& !(gs.getD k zG).2.2.2.1)=true then 7 else if(gs.getD k zG).2.2.2.2.1=1000 then 3 else 0:=rfl
 unfold CG CF;cases m:l8 gs i with
 |none=>
  rw[m] at e;dsimp only at e;rw[e] at k same;exact ay rfl (au.go H λa H=>k a (same (by decide) H))
 |some q=>
  obtain⟨u,v,r,hx, _⟩:=lF m;rw[m] at e;dsimp only at e;obtain⟨x,n⟩: ∃x,x=gs.getD q zG:=⟨_,rfl⟩;rw[<-n] at e hx;refine an rfl ⟨rfl,rfl,aj.of x.2.2.1 (CH H f l hx (by decide) rfl) ⟨λ_=>rfl,λ_=>rfl,aj.of x.2.2.2.1 (CH H f l hx (by decide) rfl) (ab (λd=>au.go H λa H=>?_) (λd=>?_))⟩⟩
  ·rw[aw d] at e;rw[e] at k same;exact k a (same (by decide) H)
  ·rw[ao (by rw[d];decide)] at e;refine⟨rfl,rfl,aj.of x.2.2.2.2.1 (CH H f l hx (by decide) rfl) (ab (λd2=>au.go H λa H=>?_) (λd2=>?_))⟩
   ·grind
   ·rw[ao (by simpa using d2)] at e;have hb:=p x (Et hx);refine⟨rfl,rfl,aj.of x.2.2.2.2.1 (CH H f l hx (by decide) rfl) ⟨rfl,rfl,?_⟩⟩;rw[av (by omega) (by omega)];refine aaX H f l hx (by decide) rfl (fT x 1) rfl λa H=>au.go H λs H=>?_;have t:eh gs i g b=gs.set q (fT x 1):=by
     unfold eh;rw[aw e, <-r, <-n]
    rw[e,t] at k;exact k s H
end
section
variable {D G:List Nat} {w0 w:A1} {L:List (Nat×List AC)} {bg br c:Nat} {gs:List GT} {rest:List AC}
theorem RB (H:aK D G w0 w L) (j e:Nat) (n:L[j]? =some (bg,mJ br gs.length c)) (f:L[e]? =some (br,flat eG gs++rest)) (h0:0<gs.length) (o: ∀x∈gs,0<=x.2.2.2.2.1/\x.2.2.2.2.1<=1000) (i g:Int) {K:Int->A1->Prop}
 (k: ∀a,aK D G w0 a (L.set e (br,flat eG (eZ gs i g)++rest))->K (mE gs i g) a):
 aA A2 182 (.el (.one (.int .i64))) [ag (af bg),aa i,aa g] w K:=by
 refine aA.go H λw1 H=>ai (C:=G3) (aT:=λ_=>[]) (AL (QN _ i g w1 K) ?_);refine⟨_,I8 (H.get n) (H.get f) h0 i,?_⟩;have same:mE gs i g≠0-> ∀{a},aK D G w0 a L->aK D G w0 a (L.set e (br,flat eG (eZ gs i g)++rest)):=λh a H=>by
  unfold eZ;rw[ao h,OL f];exact H
 have b:mE gs i g=match l8 gs i with
  |none=>4
  |some k=>if(gs.getD k zG).2.2.1≠g then 7 else if(gs.getD k zG).2.2.2.2.1=0 then 6 else 0:=rfl
 unfold CG CF;cases l:l8 gs i with
 |none=>
  rw[l] at b;dsimp only at b;rw[b] at k same;exact ay rfl (au.go H λa H=>k a (same (by decide) H))
 |some q=>
  obtain⟨t,u,p,hx, _⟩:=lF l;rw[l] at b;dsimp only at b;obtain⟨x,m⟩: ∃x,x=gs.getD q zG:=⟨_,rfl⟩;rw[<-m] at b hx;refine an rfl ⟨rfl,rfl,aj.of x.2.2.1 (CH H e f hx (by decide) rfl) (ab (λd=>au.go H λa H=>?_) (λd=>?_))⟩
  grind
  ·rw[ao (by simpa using d)] at b;refine⟨rfl,rfl,aj.of x.2.2.2.2.1 (CH H e f hx (by decide) rfl) (ab (λd2=>au.go H λa H=>?_) (λd2=>?_))⟩
   grind
   ·rw[ao (by simpa using d2)] at b;have hb:=o x (Et hx);refine⟨rfl,rfl,aj.of x.2.2.2.2.1 (CH H e f hx (by decide) rfl) ⟨rfl,rfl,?_⟩⟩;rw[bC (by omega) (by omega)];refine aaX H e f hx (by decide) rfl (fT x (-1)) rfl λa H=>au.go H λr H=>?_;have s:eZ gs i g=gs.set q (fT x (-1)):=by
     unfold eZ;rw[aw b, <-p, <-m]
    rw[b,s] at k;exact k r H
theorem HM (H:aK D G w0 w L) (j f:Nat) (m:L[j]? =some (bg,mJ br gs.length c)) (g:L[f]? =some (br,flat eG gs++rest)) (h0:0<gs.length) (i o:Int) {K:Int->A1->Prop}
 (k: ∀a,aK D G w0 a (L.set f (br,flat eG (lu gs i o)++rest))->K (qU gs i o) a):
 aA A2 184 (.el (.one (.int .i64))) [ag (af bg),aa i,aa o] w K:=by
 refine aA.go H λw1 H=>ai (C:=G3) (aT:=λ_=>[]) (AL (HJ _ i o w1 K) ?_);refine⟨_,I8 (H.get m) (H.get g) h0 i,?_⟩;have same:qU gs i o≠0-> ∀{a},aK D G w0 a L->aK D G w0 a (L.set f (br,flat eG (lu gs i o)++rest)):=λh a H=>by
  unfold lu;rw[ao h,OL g];exact H
 have b:qU gs i o=match l8 gs i with
  |none=>4
  |some k=>if(gs.getD k zG).1≠o then 7 else if(gs.getD k zG).2.2.2.2.1>0 then 9 else 0:=rfl
 unfold CG CF;cases l:l8 gs i with
 |none=>
  rw[l] at b;dsimp only at b;rw[b] at k same;exact ay rfl (au.go H λa H=>k a (same (by decide) H))
 |some q=>
  obtain⟨v,y,n,hx, _⟩:=lF l;rw[l] at b;dsimp only at b;obtain⟨x,p⟩: ∃x,x=gs.getD q zG:=⟨_,rfl⟩;rw[<-p] at b hx;refine an rfl ⟨rfl,rfl,aj.of x.1 (CH H f g hx (by decide) rfl) (ab (λd=>au.go H λa H=>?_) (λd=>?_))⟩
  grind
  ·rw[ao (by simpa using d)] at b;refine⟨rfl,rfl,aj.of x.2.2.2.2.1 (CH H f g hx (by decide) rfl) (ab (λd2=>au.go H λa H=>?_) (λd2=>?_))⟩
   grind
   ·rw[ao (by simpa using d2)] at b;refine⟨rfl,?_⟩;have r:q<gs.length:=(B1.1 hx).1;have s:(some (⟨br,q*5,none⟩:AB))=ad (af br) (q*5):=by rw[aY,B5]
    show aC w1 (some (⟨br,q*5,none⟩:AB)) _ _;rw[s];refine aC.flat (e:=eG) f H zG g rfl rfl r λa H=>au.go H λt H=>?_;have u:lu gs i o=gs.set q zG:=by
     unfold lu;rw[aw b, <-n]
    rw[b,u] at k;exact k t H
theorem LX (H:aK D G w0 w L) (j m:Nat) (s:L[j]? =some (bg,mJ br gs.length c)) (p:L[m]? =some (br,flat eG gs++rest)) (h0:0<gs.length) (F:gs.length<=64) (o q t:Int) (b:Bool) {K:Int×Int×Unit->A1->Prop}
 (k: ∀f,aK D G w0 f (L.set m (br,flat eG (jW gs o q t b)++rest))->K (kx gs o q t,lx gs o q t,()) f):
 aA A2 180 (.bu [.one (.int .i64),.one (.int .i64)]) [ag (af bg),aa o,aa q,aa t,.bool b] w K:=by
 refine aA.go H λw1 H=>ai (C:=G3) (aT:=λ_=>[]) (AL (LH _ o q t b w1 K) ?_);have same:lx gs o q t≠0-> ∀{f},aK D G w0 f L->aK D G w0 f (L.set m (br,flat eG (jW gs o q t b)++rest)):=λh f H=>by
  unfold jW;rw[ao h,OL p];exact H
 have v:lx gs o q t≠0->kx gs o q t=0:=λh=>ao h;refine⟨_,pH (H.get s) h0,an rfl ⟨trivial,λ_=>trivial,ab (λd=>au.go H λf H=>?_) (λd=>?_)⟩⟩
 ·have a:lx gs o q t=1:=aw d;rw[v (by rw[a];decide),a] at k;rw[a] at same;exact k f (same (by decide) H)
 have a:lx gs o q t=if dm gs (ko o q t) gs.length≠[] then 5 else if dm gs ff gs.length=[] then 3 else 0:=ao (by rw[d];decide);refine aM.go H λbc f H=>aC.all 0 H rfl rfl rfl λW H=>LV H (j+1) (m+1) s p h0 F (bc:=bc) (DA) λsl Ls X n H=>?_;obtain⟨sp,A,sc⟩:=sl;have B:A=(dm gs (ko o q t) gs.length).length:=n.len;subst B;have H:=H.sub (DO _ Ls);refine ab (λd1=>au.go H λI H=>?_) (λd1=>?_)
 ·have d1:dm gs (ko o q t) gs.length≠[]:=by
   intro e;rw[e] at d1;simp at d1
  rw[aw d1] at a;rw[v (by rw[a];decide),a] at k;rw[a] at same;exact k I (same (by decide) (H.sub (AY _ _)))
 have d1: ¬ dm gs (ko o q t) gs.length≠[]:=by
  simp_all
 rw[ao d1] at a;refine LU H (j+1) (m+1) s p h0 F λsl Ls I n H=>?_;obtain⟨sp,A,sc⟩:=sl;have B:A=(dm gs ff gs.length).length:=n.len;subst B;refine ab (λd2=>au.go H λJ H=>?_) (λd2=>?_)
 ·have d2:dm gs ff gs.length=[]:=by
   have:(dm gs ff gs.length).length=0:=by simpa using d2
   exact List.length_eq_zero_iff.1 this
  rw[aw d2] at a;rw[v (by rw[a];decide),a] at k;rw[a] at same;exact k J (same (by decide) (H.sub ((DO L Ls).trans (AY _ _))))
 have d2: ¬ dm gs ff gs.length=[]:=by
  intro e;rw[e] at d2;simp at d2
 rw[ao d2] at a;have M:jW gs o q t b=gs.set (kx gs o q t).toNat (o,q,t,b,0,()):=aw a;have N:kx gs o q t=(dm gs ff gs.length).headD 0:=aw a;rw[M,a] at k;obtain⟨z,l,u⟩: ∃z l,dm gs ff gs.length=z::l:=List.exists_cons_of_ne_nil d2;have O:kx gs o q t=z:=by rw[N,u];rfl
 rw[O] at k;obtain⟨r,P, _,Q⟩:=qs.1 (by rw[u];exact DA:z∈dm gs ff gs.length);subst Q;rw[u] at n;have Y:(dm gs ff gs.length).length=l.length+1:=by rw[u];rfl
 have R: ∀{w:A1} {g:Nat×List AC},aK D G w0 w (g::(L++Ls))->sp.isSome=true/\cL w (ad sp 0) (.one (.int .i64)) (r:Int):=λ{w g} H=>by
  have h:=n.rd H (λy E=>CK _ (CJ _ E)) (i:=0) (x:=(r:Int)) rfl;exact⟨h.1,h.2⟩
 have S:(L++Ls)[j]? =some (bg,mJ br gs.length c):=AJ s;have T:(L++Ls)[m]? =some (br,flat eG gs++rest):=AJ p;refine⟨rfl,aC.gJ 0 H rfl rfl rfl λJ H=>?_⟩;refine⟨rfl,rfl,aj.cA (j+1) H S rfl ⟨by grind,aj.of _ (R H).2 (aj.at 0 H rfl (show _=some (o,q,t,b,0,()) from rfl) ⟨⟨rfl,by omega,by show(r:Int)<((gs.length:Nat):Int);omega⟩,?_⟩)⟩⟩;refine aC.flat (e:=eG) (m+1) H (o,q,t,b,0,()) T rfl rfl P λU H=>?_;have H:aK D G w0 U ((bc,[aa o,aa q,aa t,.bool b,aa 0])::((L++Ls).set m (br,flat eG (gs.set r (o,q,t,b,0,()))++rest))):=H;rw[GS _ _ (B1.1 p).1] at H;have h:=n.rd H (λy E=>CK _ (CJ _ E)) (i:=0) (x:=(r:Int)) rfl;refine⟨by grind,aj.of _ h.2 (au.go H λV H=>k V (H.sub ((DO _ Ls).trans (AY _ _))))⟩
theorem RC (H:aK D G w0 w L) (j a:Nat) (x:L[j]? =some (bg,mJ br gs.length c)) (o:L[a]? =some (br,flat eG gs++rest)) (h0:0<gs.length) (A:gs.length<=64) (Q:j≠a) (g:Int) {K:Int->A1->Prop}
 (k: ∀n p,aK D G w0 p (L.set a (br,flat eG (cR gs g)++rest))->K n p):
 aA A2 169 (.el (.one (.int .i64))) [ag (af bg),aa g] w K:=by
 refine aA.go H λw1 H=>ai (C:=G3) (aT:=uu) (AL (QO _ g w1 K) ?_);refine aM.go H λbc p H=>LW H (j+1) (a+1) x o h0 A (bc:=bc) (DA) λsl Ls B q H=>?_;have H:aK D G w0 B ((bc,[aa g])::(L++Ls)):=H;have H:aK D G w0 B (L++Ls):=H.sub (AY _ _);obtain⟨sp,R,sc⟩:=sl;have S:R=(dm gs (oV g) gs.length).length:=q.len;subst S;obtain⟨l,d⟩: ∃l,l=dm gs (oV g) gs.length:=⟨_,rfl⟩;have hll:l.length<=64:=by rw[d];exact Dn (qt _ _ _) A
 have E: ∀z∈l, ∃i:Nat,i<gs.length/\oV g (gs.getD i zG)=true/\z=(i:Int):=λz F=>by rw[d] at F;exact qs.1 F
 have T: ∀i:Nat,i<gs.length->oV g (gs.getD i zG)=true->(i:Int)∈l:=λi h1 r=>by rw[d];exact qs.2 ⟨i,h1,r,rfl⟩
 rw[<-d] at q ⊢;clear d;have U:=(B1.1 o).1;have I: ∀X:Nat×List AC,((L++Ls).set a X)=L.set a X++Ls:=λX=>GS _ _ U;refine⟨λn v w'=> ∃(m:Nat) (hs:List GT),v.1=(m:Int)/\n+m=l.length/\hs.length=gs.length/\(∀i:Nat,i<gs.length->hs.getD i zG=if(i:Int)∈l.take m then zG else gs.getD i zG)/\aK D G w0 w' ((L++Ls).set a (br,flat eG hs++rest)),⟨l.length,λV W=>⟨0,gs,rfl,rfl,rfl,λi hi=>by simp,by rw[OL (AJ o)];exact H.ext W⟩⟩,?_⟩;clear H;rintro n ⟨v,u⟩ V ⟨m,hs,e,hn,J,s,H⟩;dsimp only at e ⊢;subst e;refine ab (λt=>?_) (λt=>au.go H λM H=>k _ M ?_)
 ·have N:m<l.length:=by simpa using t
  have hx:=Ax N;obtain⟨z,Y⟩: ∃z,z=l[m]:=⟨_,rfl⟩;rw[<-Y] at hx;obtain⟨b,z1,z2,rfl⟩:=E z (Et hx);have Z:l.take (m+1)=l.take m++[(b:Int)]:=by rw[IR,hx];rfl
  have O:=q.rd H (λy hy=>by rw[I];exact CJ _ hy) hx;have hmb:((L++Ls).set a (br,flat eG hs++rest))[j]? =some (bg,mJ br hs.length c):=by
   rw[J,DY (λe=>Q e.symm)];exact AJ x
  have hwb:((L++Ls).set a (br,flat eG hs++rest))[a]? =some (br,flat eG hs++rest):=by
   rw[DI (by rw[E5];omega)]
  refine⟨⟨O.1,by omega,by omega⟩,aj.of _ O.2 ⟨rfl,rfl,aj.cA j H hmb rfl ⟨⟨rfl,by omega,by show(b:Int)<((hs.length:Nat):Int);omega⟩,?_⟩⟩⟩;refine aC.flat (e:=eG) a H zG hwb rfl rfl (by omega:b<hs.length) λM H=>λw6 P=>⟨n - 1,by omega,m+1,hs.set b zG,by rw[av (by omega) (by omega)];omega,by omega,by rw[GO];exact J,λi hi=>?_,?_⟩
  ·rw[Z];by_cases ei:i=b
   ·subst ei;rw[aw (by simp)];rw[B2,DI (by omega)];rfl
   ·have:(hs.set b zG).getD i zG=hs.getD i zG:=by
     grind
    rw[this,s i hi];by_cases f:(i:Int)∈l.take m
    ·rw[aw f,aw (DK _ f)]
    ·rw[ao f,ao (λh=>?_)];rcases Hr.1 h with h|h
     ·exact f h
     ·have:(i:Int)=b:=by simpa using h
      omega
  ·rw[Bx] at H;exact H.ext P
 ·have N: ¬ m<l.length:=by simpa using t
  rw[Ef (by omega)] at s;have e:hs=cR gs g:=DZ λi=>by
   unfold cR;rw[IV];by_cases hi:i<gs.length
   ·have h1:=s i hi;have r:hs[i]? =some (hs.getD i zG):=by rw[B2,Ax (by omega)];rfl
    have h3:gs[i]? =some (gs.getD i zG):=by rw[B2,Ax hi];rfl
    rw[r,h3,h1];show _=some (if oV g (gs.getD i zG)=true then zG else gs.getD i zG);by_cases c:oV g (gs.getD i zG)=true
    ·rw[aw c,aw (T i hi c)]
    ·rw[ao c,ao (λh=>?_)];obtain⟨i', _,h5,P⟩:=E _ h;have:i'=i:=by omega
     subst this;exact c h5
   ·rw[IX (by omega),IX (by omega)];rfl
  subst e;rw[I] at H;exact H.sub (DO _ _)
theorem Vz (H:aK D G w0 w L) (n:Nat) (c:1<=n/\n<=64) {K:Option AB×Int×Unit->A1->Prop}
 (k: ∀bg br a,aK D G w0 a ((bg,mJ br (B4 n zG).length n)::(br,flat eG (B4 n zG)++[])::L)->K (some ⟨bg,0,none⟩,0,()) a):
 aA A2 73 (.bu [.one .ptr,.one (.int .i64)]) [aa (n:Int)] w K:=by
 refine aA.go H λw1 H=>ai (C:=G3) (AL (Vj _ w1 K) ?_);refine an (by grind) ?_;refine Od.go H rfl (by omega) (Int.le_refl _) (by omega) (by omega) λb a H=>aM.go H λd f H=>au.go H λg H=>?_;have e:(B4 ((n:Nat):Int).toNat [aa 0,aa 0,aa 0,.bool false,aa 0]).flatten=flat eG (B4 n zG)++[]:=by
  rw[CL,lO];rfl
 grind
end
end Go.Proofs.YtlcenllcmeebhaaGreat
namespace Go.Proofs.YtlcenllcmeebhaaGreat.Po
set_option maxRecDepth 100000
open Go.RX
def gp (ps:List PT) (g i:Int):PT:=ps.getD (ix g i) zP
def dW (room:Int) (ps:List PT) (g:Int) (x:PT):(Int×Int)×List PT:=if cB room ps g= -1 then((0,3),ps) else((cB room ps g,0),ps.set (ix g (cB room ps g)) x)
def i_ (room:Int) (ps:List PT) (g r:Int):(Int×Int)×List PT:=if rN g r=0 then dW room ps g (1,r,0,false,false,()) else((0,rN g r),ps)
def iw (room:Int) (ps:List PT) (g r i:Int):(Int×Int)×List PT:=
 if rN g r=0 then
  match oR room ps r i with
  |none=>((0,4),ps)
  |some k=>
   if(ps.getD k zP).1=2 then((0,6),ps) else if(ps.getD k zP).2.1≠g then((0,7),ps) else
    if cB room ps g= -1 then((0,3),ps) else
     ((cB room ps g,0),(ps.set (ix g (cB room ps g)) (2,r,i,false,false,())).set k (2,(ps.getD k zP).2.1,cB room ps g,(ps.getD k zP).2.2.2))
 else((0,rN g r),ps)
def ly (room:Int) (ps:List PT) (g i:Int):Int×List PT:=
 match oR room ps g i with
 |none=>(4,ps)
 |some k=>if(ps.getD k zP).1=2 then
   let y:=gp ps (ps.getD k zP).2.1 (ps.getD k zP).2.2.1
   (0,ps.set (ix (ps.getD k zP).2.1 (ps.getD k zP).2.2.1) (y.1,y.2.1,y.2.2.1,true,y.2.2.2.2))
  else(6,ps)
def vS (ps:List PT) (g:Int) (i:Nat):Bool:=gI g&&((gp ps g i).2.2.2.1&& !(gp ps g i).2.2.2.2.1)
def pa (room:Int) (ps:List PT) (g:Int):List Int:=((D8 room.toNat).filter (vS ps g)).map λi=>((i:Nat):Int)
def gW (room:Int) (ps:List PT) (g:Int):(Int×Bool)×List PT:=
 match pa room ps g with
 |[]=>((0,false),ps)
 |i:: _=>((i,true),ps.set (ix g i) ((gp ps g i).1,(gp ps g i).2.1,(gp ps g i).2.2.1,false,(gp ps g i).2.2.2.2))
def e8 (room:Int) (ps:List PT) (g i:Int):Int×List PT:=
 match oR room ps g i with
 |none=>(4,ps)
 |some k=>if(ps.getD k zP).1=2 then
   let y:=gp ps (ps.getD k zP).2.1 (ps.getD k zP).2.2.1
   (0,(ps.set (ix (ps.getD k zP).2.1 (ps.getD k zP).2.2.1) (1,y.2.1,0,y.2.2.2)).set k zP)
  else(0,ps.set k zP)
def iy (room:Int) (ps:List PT) (g:Int):Nat->Int×List PT
 |0=>(0,ps)
 |i+1=>((iy room ps g i).1+(if(e8 room (iy room ps g i).2 g i).1=0 then 1 else 0),(e8 room (iy room ps g i).2 g i).2)
def pf (room g:Int) (s:Int×List PT) (k i:Int):Int×List PT:=
 match oR room s.2 k i with
 |none=>s
 |some x=>if(s.2.getD x zP).2.1=g then(s.1+1,s.2.set x zP) else s
def mO (room g:Int) (s:Int×List PT) (k:Int):Nat->Int×List PT
 |0=>s
 |i+1=>pf room g (mO room g s k i) k i
def ky (room g:Int) (s:Int×List PT):Nat->Int×List PT
 |0=>s
 |k+1=>mO room g (ky room g s k) ((k:Int)+1) room.toNat
def cI (room:Int) (ps:List PT) (g:Int):Int×List PT:=if gI g then ky room g (iy room ps g room.toNat) 16 else(0,ps)
structure lQ (room:Int) (ps:List PT):Prop extends okS room ps where
 inv: ∀g i,sS room g i=true->gp ps g i=zP\/((gp ps g i).1=1/\(1<=(gp ps g i).2.1/\(gp ps g i).2.1<=16)/\(gp ps g i).2.1≠g/\(gp ps g i).2.2.1=0)\/
  ((gp ps g i).1=2/\(gp ps g i).2.1≠g/\sS room (gp ps g i).2.1 (gp ps g i).2.2.1=true/\(gp ps (gp ps g i).2.1 (gp ps g i).2.2.1).1=2/\(gp ps (gp ps g i).2.1 (gp ps g i).2.2.1).2.1=g/\(gp ps (gp ps g i).2.1 (gp ps g i).2.2.1).2.2.1=i)
theorem AW {ps:List PT} {k:Nat} (h:k<ps.length) (x:PT):(ps.set k x).getD k zP=x:=by grind
theorem pW {ps:List PT} {k j:Nat} (h:k≠j) (x:PT):(ps.set k x).getD j zP=ps.getD j zP:=by grind
theorem jf {room:Int} {ps:List PT} (hs:okS room ps) {g i g' a:Int} (h:sS room g i=true) (h':sS room g' a=true) (x:PT):gp (ps.set (ix g i) x) g' a=if g'=g/\a=i then x else gp ps g' a:=by
 by_cases e:g'=g/\a=i
 ·rw[aw e,e.1,e.2];exact AW (by rw[hs.len];exact o_ h hs.hi) x
 ·rw[ao e];exact pW (λb=>e (by have:=PG h h' hs.hi;grind)) x
theorem vi {room:Int} {ps:List PT} {g i:Int} (h:sS room g i=true):oR room ps g i=if gp ps g i=zP then none else some (ix g i):=by grind[oR,gp]
theorem qe {g r:Int}:rN g r=0<->gI g=true/\gI r=true/\g≠r:=by grind[rN]
section
variable {D G:List Nat} {w0 w:A1} {L:List (Nat×List AC)} {bp:Nat} {room:Int} {ps:List PT}
theorem Gs (H:aK D G w0 w L) (j:Nat) (a:L[j]? =some (bp,gS room ps)) (hs:okS room ps) (g i:Int) {r:Option Nat} (hx:oR room ps g i=r):ae A2 213 [ag (af bp),aa g,aa i] w (ag (r.map λk=>⟨bp,k*5,none⟩)):=by
 subst hx;exact ae.of λw' h'=>Ek ((H.get a).ext h') hs g i
theorem XR (H:aK D G w0 w L) (j:Nat) (a:L[j]? =some (bp,gS room ps)) (hs:okS room ps) (g i:Int):ae A2 229 [ag (af bp),aa g,aa i] w (aa (rN g i)):=
 ae.of λw' h'=>Z9 ((H.get a).ext h') hs g i
theorem PH (H:aK D G w0 w L) (j:Nat) (a:L[j]? =some (bp,gS room ps)) (hs:okS room ps):ae A2 231 [ag (af bp)] w (aa 4):=
 ae.of λw' h'=>Vy ((H.get a).ext h') hs
theorem VA (H:aK D G w0 w L) (j:Nat) (a:L[j]? =some (bp,gS room ps)) (hs:okS room ps):ae A2 211 [ag (af bp)] w (.bool true):=
 ae.of λw' h'=>pI ((H.get a).ext h') hs
theorem kO {j:Nat} {x y:Nat×List AC} (h:L[j]? =some x):(L.set j y)[j]? =some y:=by grind
theorem PI (H:aK D G w0 w L) (j:Nat) (q:L[j]? =some (bp,gS room ps)) (hs:okS room ps) (g:Int) (hg:gI g=true) (x:PT) {K:Int×Int×Unit->A1->Prop}
 (k: ∀i,aK D G w0 i (L.set j (bp,gS room (dW room ps g x).2))->K ((dW room ps g x).1.1,(dW room ps g x).1.2,()) i):
 aA A2 230 (.bu [.one (.int .i64),.one (.int .i64)]) [ag (af bp),aa g,.agg ⟨bh sQ x⟩] w K:=by
 obtain⟨x1,a,d,f,h,l⟩:=x;refine aA.go H λw1 H=>ai (C:=R1) (aT:=λ_=>[]) (AL (Z8 _ g x1 a d f h w1 K) ?_);have r:=hs.hi;refine aM.go H λb i H=>?_;have n:((b,bh sQ (x1,a,d,f,h,()))::L)[j+1]? =some (bp,gS room ps):=q;refine⟨cB room ps g,ae.of (s:= .el (.one (.int .i64))) λw' h'=>Rz ((H.get n).ext h') hs g,ab (λc=>?_) (λc=>?_)⟩
 ·have e:cB room ps g= -1:=by simpa using c
  have m:dW room ps g (x1,a,d,f,h,l)=((0,3),ps):=aw e;rw[m] at k;refine au.go H λo H=>k o ?_;have t:L.set j (bp,gS room ps)=L:=DZ (by grind);rw[t];exact H.sub (AY _ _)
 ·have e:cB room ps g≠ -1:=by simpa using c
  have m:dW room ps g (x1,a,d,f,h,l)=((cB room ps g,0),ps.set (ix g (cB room ps g)) (x1,a,d,f,h,l)):=ao e;rw[m] at k;have p:=(m6 hg e).1;have A:=fb.1 p;have u:=o_ p r;have es:aX .i64 g 1=g - 1:=bC (by omega) (by omega);rw[es];have v:ad (ad (ad (af bp) 0) ((g - 1).toNat*160)) ((cB room ps g).toNat*5)=ad (af bp) (ix g (cB room ps g)*aF eQ):=by
   rw[aY,aY,aY,aY];unfold ix;congr 2;show _=0+ _*5;omega
  have y:ad (ad (af bp) 0) ((g - 1).toNat*160)=some ⟨bp,0+0+(g - 1).toNat*160,none⟩:=by rw[aY,aY]
  rw[v,y];refine aj.at 0 H rfl (x:=(x1,a,d,f,h,())) rfl ⟨rfl,rfl,⟨rfl,by omega,by omega⟩,⟨rfl,by omega,by omega⟩,?_⟩;refine aC.flat (j+1) H (x1,a,d,f,h,()) n rfl rfl (by rw[hs.len];exact u) λo H=>au.go H λz H=>k z ?_;exact H.sub (AY _ _)
theorem lG {j:Nat} {x:Nat×List AC} (h:L[j]? =some x):L.set j x=L:=DZ (by grind)
theorem RD (H:aK D G w0 w L) (j:Nat) (a:L[j]? =some (bp,gS room ps)) (hs:okS room ps) (g r:Int) {K:Int×Int×Unit->A1->Prop}
 (k: ∀b,aK D G w0 b (L.set j (bp,gS room (i_ room ps g r).2))->K ((i_ room ps g r).1.1,(i_ room ps g r).1.2,()) b):
 aA A2 185 (.bu [.one (.int .i64),.one (.int .i64)]) [ag (af bp),aa g,aa r] w K:=by
 refine aA.go H λw1 H=>ai (C:=R1) (AL (Rs _ g r w1 K) ?_);refine⟨_,XR H j a hs g r,ab (λc=>?_) (λc=>?_)⟩
 ·have e:=by simpa using c
  have d:i_ room ps g r=((0,rN g r),ps):=ao e;rw[d] at k;refine au.go H λf H=>k f ?_;rw[lG a];exact H
 ·have e:rN g r=0:=by simpa using c
  have d:i_ room ps g r=dW room ps g _:=aw e;rw[d] at k;exact PI H j a hs g (qe.1 e).1 (1,r,0,false,false,()) λb H=>au.go H λf H=>k f H
theorem RE (H:aK D G w0 w L) (j:Nat) (a:L[j]? =some (bp,gS room ps)) (hs:okS room ps) (g r i:Int) {K:Int×Int×Unit->A1->Prop}
 (k: ∀f,aK D G w0 f (L.set j (bp,gS room (iw room ps g r i).2))->K ((iw room ps g r i).1.1,(iw room ps g r i).1.2,()) f):
 aA A2 186 (.bu [.one (.int .i64),.one (.int .i64)]) [ag (af bp),aa g,aa r,aa i] w K:=by
 refine aA.go H λw1 H=>ai (C:=R1) (aT:=λ_=>[]) (AL (Ru _ g r i w1 K) ?_);have h: ∀v:Int×Int,iw room ps g r i=(v,ps)->au w1 λw1=>K (v.1,v.2,()) w1:=λv e=>by
  rw[e] at k;refine au.go H λd H=>k d ?_;rw[lG a];exact H
 refine⟨_,XR H j a hs g r,ab (λc=>?_) (λc=>?_)⟩
 ·have e: ¬ rN g r=0:=by simpa using c
  exact h (0,rN g r) (ao e)
 have e:rN g r=0:=by simpa using c
 obtain⟨hg,B,y⟩:=qe.1 e;have hb:iw room ps g r i= _:=aw e;refine⟨_,Gs H j a hs r i rfl,?_⟩;cases hx:oR room ps r i with
 |none=>
  rw[hx] at hb;exact ay rfl (h (0,4) hb)
 |some kk=>
  rw[hx] at hb;obtain⟨n,o,E⟩:=fL hx;have p:kk<512:=by rw[o];exact o_ n hs.hi
  have q:=hs.get p;refine an rfl ⟨rfl,rfl,aj.cA j H a (rC q (by decide) rfl) (ab (λc1=>?_) (λc1=>?_))⟩
  ·exact h (0,6) (hb.trans (aw (by simpa using c1)))
  refine⟨rfl,rfl,aj.cA j H a (rC q (by decide) rfl) (ab (λc2=>?_) (λc2=>?_))⟩
  grind
  have s:=hb.trans ((ao (by simpa using c1)).trans (ao (by simpa using c2)));refine PI H j a hs g hg (2,r,i,false,false,()) λf H=>?_;by_cases b:cB room ps g= -1
  ·have l:dW room ps g (2,r,i,false,false,())=((0,3),ps):=aw b;rw[l] at H ⊢;have m:iw room ps g r i=((0,3),ps):=s.trans (aw b);rw[m] at k;exact an rfl (au.go H λd H=>k d H)
  ·have l:dW room ps g (2,r,i,false,false,())=((cB room ps g,0),ps.set (ix g (cB room ps g)) (2,r,i,false,false,())):=ao b;rw[l] at H ⊢;have z:ix g (cB room ps g)≠kk:=λt=>by
    rw[o] at t;exact y (PG (m6 hg b).1 n hs.hi t).1
   have m:iw room ps g r i=((cB room ps g,0), _):=s.trans (ao b);rw[m] at k;have u:=(hs.set (ix g (cB room ps g)) (2,r,i,false,false,())).get p;rw[pW z] at u;refine ay rfl ⟨rfl,rfl,?_⟩;refine aC.rC j H (2,(ps.getD kk zP).2.1,(ps.getD kk zP).2.2.1,(ps.getD kk zP).2.2.2.1,(ps.getD kk zP).2.2.2.2.1,()) (kO a) u (by decide) rfl rfl λd H=>⟨rfl,rfl,?_⟩;rw[Bx] at H;refine aC.rC j H (x:=(2,(ps.getD kk zP).2.1,(ps.getD kk zP).2.2.1,(ps.getD kk zP).2.2.2.1,(ps.getD kk zP).2.2.2.2.1,())) (2,(ps.getD kk zP).2.1,cB room ps g,(ps.getD kk zP).2.2.2.1,(ps.getD kk zP).2.2.2.2.1,()) (kO a) (by grind) (by decide) rfl rfl λF H=>au.go H λA H=>k A ?_;rw[Bx,Bx] at H;exact H
end
theorem lQ.nz {room:Int} {ps:List PT} (f:lQ room ps) {g i:Int} {k:Nat} (h:oR room ps g i=some k) (a:(ps.getD k zP).1=2):
 (ps.getD k zP).2.1≠g/\sS room (ps.getD k zP).2.1 (ps.getD k zP).2.2.1=true/\oR room ps (ps.getD k zP).2.1 (ps.getD k zP).2.2.1=some (ix (ps.getD k zP).2.1 (ps.getD k zP).2.2.1):=by
 obtain⟨j,l,b⟩:=fL h;subst l;have m:ps.getD (ix g i) zP=gp ps g i:=rfl;rw[m] at a b ⊢;rcases f.inv g i j with e|e|⟨_,n,c,d,p⟩
 ·exact absurd e b
 ·rw[e.1] at a;exact absurd a (by decide)
 ·refine⟨n,c,?_⟩;rw[vi c,ao];intro o;rw[o] at d;exact absurd d (by decide)
theorem zU {room:Int} {ps:List PT} {g i:Int} {k:Nat} (hx:oR room ps g i=some k):ly room ps g i=if(ps.getD k zP).1=2 then(0,ps.set (ix (ps.getD k zP).2.1 (ps.getD k zP).2.2.1) ((gp ps (ps.getD k zP).2.1 (ps.getD k zP).2.2.1).1,(gp ps (ps.getD k zP).2.1 (ps.getD k zP).2.2.1).2.1,(gp ps (ps.getD k zP).2.1 (ps.getD k zP).2.2.1).2.2.1,true,(gp ps (ps.getD k zP).2.1 (ps.getD k zP).2.2.1).2.2.2.2)) else(6,ps):=by
 unfold ly;rw[hx]
theorem pQ {room:Int} {ps:List PT} {g i:Int} {k:Nat} (hx:oR room ps g i=some k):e8 room ps g i=if(ps.getD k zP).1=2 then(0,(ps.set (ix (ps.getD k zP).2.1 (ps.getD k zP).2.2.1) (1,(gp ps (ps.getD k zP).2.1 (ps.getD k zP).2.2.1).2.1,0,(gp ps (ps.getD k zP).2.1 (ps.getD k zP).2.2.1).2.2.2)).set k zP) else(0,ps.set k zP):=by
 unfold e8;rw[hx]
theorem HN {room:Int} {ps:List PT} {g i:Int} (hx:oR room ps g i=none):ly room ps g i=(4,ps):=by unfold ly;rw[hx]
theorem wC {room:Int} {ps:List PT} {g i:Int} (hx:oR room ps g i=none):e8 room ps g i=(4,ps):=by unfold e8;rw[hx]
section
variable {D G:List Nat} {w0 w:A1} {L:List (Nat×List AC)} {bp:Nat} {room:Int} {ps:List PT}
theorem RF (H:aK D G w0 w L) (j:Nat) (a:L[j]? =some (bp,gS room ps)) (c:lQ room ps) (g i:Int) {K:Int->A1->Prop}
 (k: ∀d,aK D G w0 d (L.set j (bp,gS room (ly room ps g i).2))->K (ly room ps g i).1 d):
 aA A2 187 (.el (.one (.int .i64))) [ag (af bp),aa g,aa i] w K:=by
 refine aA.go H λw1 H=>ai (C:=R1) (aT:=λ_=>[]) (AL (Rv _ g i w1 K) ?_);have hs:=c.tookS;have f: ∀v:Int,ly room ps g i=(v,ps)->au w1 λw1=>K v w1:=λv e=>by
  rw[e] at k;refine au.go H λh H=>k h ?_;rw[lG a];exact H
 refine⟨_,Gs H j a hs g i rfl,?_⟩;cases hx:oR room ps g i with
 |none=>exact ay rfl ⟨4,PH H j a hs,f 4 (by unfold ly;rw[hx])⟩
 |some kk=>
  obtain⟨m,n,u⟩:=fL hx;have o:kk<512:=by rw[n];exact o_ m hs.hi
  have b:=hs.get o;have hb:=zU hx;refine an rfl ⟨rfl,rfl,aj.cA j H a (rC b (by decide) rfl) (ab (λc1=>?_) (λc1=>?_))⟩
  ·exact f 6 (hb.trans (ao (by simpa using c1)))
  have l:(ps.getD kk zP).1=2:=by simpa using c1
  rw[hb,aw l] at k;obtain⟨x,p,q⟩:=c.nz hx l;have r:=o_ p hs.hi;have s:=hs.get r;refine⟨rfl,rfl,aj.cA j H a (rC b (by decide) rfl) ⟨rfl,rfl,aj.cA j H a (rC b (by decide) rfl) ⟨_,Gs H j a hs _ _ q,rfl,rfl,?_⟩⟩⟩;exact aC.rC j H (_, _, _,true, _,()) a s (by decide) rfl rfl λh H=>au.go H λt H=>k t H
theorem aC.port (j:Nat) (H:aK D G w0 w L) (a:L[j]? =some (bp,gS room ps)) {k:Nat} (b:k<ps.length) (y:PT) {vs:List AC} (hv:vs=bh sQ y) {K:A1->Prop}
 (c: ∀w1,aK D G w0 w1 (L.set j (bp,gS room (ps.set k y)))->K w1):aC w (some ⟨bp,k*5,none⟩) vs K:=by
 have:=aC.flat j H (e:=eQ) (rest:=[aa room]) (i:=k) y a hv rfl b c;rw[aY,B5] at this;exact this
theorem BD (H:aK D G w0 w L) (j:Nat) (a:L[j]? =some (bp,gS room ps)) (h:lQ room ps) (g i:Int) {K:Int->A1->Prop}
 (k: ∀l,aK D G w0 l (L.set j (bp,gS room (e8 room ps g i).2))->K (e8 room ps g i).1 l):
 aA A2 189 (.el (.one (.int .i64))) [ag (af bp),aa g,aa i] w K:=by
 refine aA.go H λw1 H=>ai (C:=R1) (aT:=λ_=>[]) (AL (LR _ g i w1 K) ?_);have hs:=h.tookS;refine⟨_,Gs H j a hs g i rfl,?_⟩;cases hx:oR room ps g i with
 |none=>
  have e:e8 room ps g i=(4,ps):=by unfold e8;rw[hx]
  rw[e] at k;refine ay rfl ⟨4,PH H j a hs,au.go H λm H=>k m ?_⟩;rw[lG a];exact H
 |some kk=>
  obtain⟨q,r,v⟩:=fL hx;have b:kk<512:=by rw[r];exact o_ q hs.hi
  have c:=hs.get b;have hb:=pQ hx;refine an rfl ⟨rfl,rfl,aj.cA j H a (rC c (by decide) rfl) (ab (λc1=>?_) (λc1=>?_))⟩
  ·have n:(ps.getD kk zP).1=2:=by simpa using c1
   rw[hb,aw n] at k;obtain⟨z,s,t⟩:=h.nz hx n;have d:=o_ s hs.hi;have o:=hs.get d;refine⟨rfl,rfl,aj.cA j H a (rC c (by decide) rfl) ⟨rfl,rfl,aj.cA j H a (rC c (by decide) rfl) ⟨_,Gs H j a hs _ _ t,rfl,rfl,?_⟩⟩⟩;obtain⟨y,p⟩: ∃y,y=gp ps (ps.getD kk zP).2.1 (ps.getD kk zP).2.2.1:=⟨_,rfl⟩;rw[<-p] at k;have o:ps[ix (ps.getD kk zP).2.1 (ps.getD kk zP).2.2.1]? =some y:=by rw[p];exact hs.get d
   refine aC.rC j H (1,y.2.1,y.2.2.1,y.2.2.2.1,y.2.2.2.2.1,()) a o (by decide) rfl rfl λm H=>⟨rfl,rfl,?_⟩;refine aC.rC j H (x:=(1,y.2.1,y.2.2.1,y.2.2.2.1,y.2.2.2.2.1,())) (1,y.2.1,0,y.2.2.2.1,y.2.2.2.2.1,()) (kO a) (by rw[DI (by rw[hs.len];exact d)]) (by decide) rfl rfl λA H=>⟨rfl,?_⟩;rw[Bx,Bx] at H;refine aC.port j H (kO a) (by rw[GO,hs.len];exact b) zP rfl λu H=>au.go H λf H=>k f ?_;rw[Bx] at H;exact H
  ·rw[hb,ao (by simpa using c1)] at k;exact⟨rfl,aC.port j H a (by rw[hs.len];exact b) zP rfl λu H=>au.go H λf H=>k f H⟩
end
section
variable {room:Int} {ps:List PT}
theorem lQ.Zj (b:lQ room ps) {g i:Int} (h:sS room g i=true) (l:(gp ps g i).1≠2) {y:PT} (d:y=zP\/(y.1=1/\(1<=y.2.1/\y.2.1<=16)/\y.2.1≠g/\y.2.2.1=0)):lQ room (ps.set (ix g i) y) where
 tookS:=b.tookS.set _ _
 inv g' a h':=by
  by_cases e:g'=g/\a=i
  ·have f:gp (ps.set (ix g i) y) g' a=y:=(jf b.tookS h h' y).trans (aw e);rw[f,e.1];rcases d with d|d
   ·exact .inl d
   ·exact .inr (.inl d)
  ·have f:gp (ps.set (ix g i) y) g' a=gp ps g' a:=(jf b.tookS h h' y).trans (ao e);rw[f];rcases b.inv g' a h' with z|z|⟨m,n,k,j,o,p⟩
   ·exact .inl z
   ·exact .inr (.inl z)
   ·have q: ¬ ((gp ps g' a).2.1=g/\(gp ps g' a).2.2.1=i):=λc=>by rw[c.1,c.2] at j;exact l j
    have r:gp (ps.set (ix g i) y) (gp ps g' a).2.1 (gp ps g' a).2.2.1=gp ps (gp ps g' a).2.1 (gp ps g' a).2.2.1:=(jf b.tookS h k y).trans (ao q);rw[r];exact .inr (.inr ⟨m,n,k,j,o,p⟩)
theorem lQ.te (c:lQ room ps) {g i:Int} (h:sS room g i=true) (k:gp ps g i≠zP) {y:PT} (h1:y.1=(gp ps g i).1) (l:y.2.1=(gp ps g i).2.1) (m:y.2.2.1=(gp ps g i).2.2.1):lQ room (ps.set (ix g i) y) where
 tookS:=c.tookS.set _ _
 inv g' d h':=by
  have key: ∀a b,sS room a b=true->(gp (ps.set (ix g i) y) a b).1=(gp ps a b).1/\(gp (ps.set (ix g i) y) a b).2.1=(gp ps a b).2.1/\(gp (ps.set (ix g i) y) a b).2.2.1=(gp ps a b).2.2.1:=λa b f=>by
   by_cases e:a=g/\b=i
   ·rw[(jf c.tookS h f y).trans (aw e),e.1,e.2];exact⟨h1,l,m⟩
   ·rw[(jf c.tookS h f y).trans (ao e)];exact⟨rfl,rfl,rfl⟩
  obtain⟨n,o,p⟩:=key g' d h';rw[n,o,p];rcases c.inv g' d h' with z|z|⟨q,r,j,s,t,u⟩
  ·refine .inl ?_;by_cases e:g'=g/\d=i
   ·rw[e.1,e.2] at z;exact absurd z k
   ·rw[(jf c.tookS h h' y).trans (ao e)];exact z
  ·exact .inr (.inl z)
  ·obtain⟨v,w,x⟩:=key _ _ j;rw[v,w,x];exact .inr (.inr ⟨q,r,j,s,t,u⟩)
theorem lQ.dW (b:lQ room ps) {g:Int} (hg:gI g=true) {y:PT} (c:y.1=1/\(1<=y.2.1/\y.2.1<=16)/\y.2.1≠g/\y.2.2.1=0):lQ room (dW room ps g y).2:=by
 unfold Go.Proofs.YtlcenllcmeebhaaGreat.Po.dW;split
 ·exact b
 ·rename_i d;obtain⟨h1,a⟩:=m6 hg d;rw[vi h1] at a;have f:gp ps g (cB room ps g)=zP:=by
   by_cases e:gp ps g (cB room ps g)=zP
   ·exact e
   ·rw[ao e] at a;cases a
  exact b.Zj h1 (by rw[f];decide) (.inr c)
theorem lQ.i_ (a:lQ room ps) (g r:Int):lQ room (i_ room ps g r).2:=by
 unfold Go.Proofs.YtlcenllcmeebhaaGreat.Po.i_;split
 ·rename_i e;obtain⟨h1,b,c⟩:=qe.1 e;exact a.dW h1 ⟨rfl,nN.1 b,λe=>c e.symm,rfl⟩
 ·exact a
theorem lQ.iw (f:lQ room ps) (g r i:Int):lQ room (iw room ps g r i).2:=by
 unfold Go.Proofs.YtlcenllcmeebhaaGreat.Po.iw;split
 ·rename_i e;obtain⟨h1,E,n⟩:=qe.1 e;split
  ·exact f
  ·rename_i k hx;split
   ·exact f
   ·split
    ·exact f
    ·split
     ·exact f
     ·rename_i s h x;obtain⟨l,o⟩:=m6 h1 x;rw[vi l] at o;have t:gp ps g (cB room ps g)=zP:=by
       by_cases e:gp ps g (cB room ps g)=zP
       ·exact e
       ·rw[ao e] at o;cases o
      obtain⟨p1,p2,p3⟩:=fL hx;subst p2;have y:ps.getD (ix r i) zP=gp ps r i:=rfl;rw[y] at s h p3 ⊢;have h:(gp ps r i).2.1=g:=Classical.byContradiction h;generalize cB room ps g=j at l t;have hs:=f.tookS;have key: ∀a b,sS room a b=true->gp ((ps.set (ix g j) (2,r,i,false,false,())).set (ix r i) (2,(gp ps r i).2.1,j,(gp ps r i).2.2.2)) a b=if a=r/\b=i then(2,(gp ps r i).2.1,j,(gp ps r i).2.2.2) else if a=g/\b=j then(2,r,i,false,false,()) else gp ps a b:=λa b u=>by
       rw[jf (hs.set _ _) p1 u,jf hs l u]
      show lQ room ((ps.set (ix g j) (2,r,i,false,false,())).set (ix r i) (2,(gp ps r i).2.1,j,(gp ps r i).2.2.2));have v:=(hs.set (ix g j) (2,r,i,false,false,())).set (ix r i) (2,(gp ps r i).2.1,j,(gp ps r i).2.2.2);generalize (ps.set (ix g j) (2,r,i,false,false,())).set (ix r i) (2,(gp ps r i).2.1,j,(gp ps r i).2.2.2)=X at key v ⊢;refine⟨v,λg' d h'=>?_⟩;rw[key g' d h'];by_cases p:g'=r/\d=i
      ·rw[aw p];obtain⟨rfl,rfl⟩:=p;refine .inr (.inr ⟨rfl,by rw[h];exact n,by rw[h];exact l,?_⟩);show(gp _ (gp ps g' d).2.1 j).1=2/\(gp _ (gp ps g' d).2.1 j).2.1=g'/\(gp _ (gp ps g' d).2.1 j).2.2.1=d;rw[h,key g j l,ao (λc=>n c.1),aw ⟨rfl,rfl⟩];exact⟨rfl,rfl,rfl⟩
      ·rw[ao p];by_cases q:g'=g/\d=j
       ·rw[aw q];obtain⟨rfl,rfl⟩:=q;refine .inr (.inr ⟨rfl,λc=>n c.symm,p1,?_⟩);show(gp _ r i).1=2/\(gp _ r i).2.1=g'/\(gp _ r i).2.2.1=d;rw[key r i p1,aw ⟨rfl,rfl⟩];exact⟨rfl,h,rfl⟩
       ·rw[ao q];rcases f.inv g' d h' with z|z|⟨A,B,w,m,C,D⟩
        ·exact .inl z
        ·exact .inr (.inl z)
        ·rw[key _ _ w,ao,ao]
         ·exact .inr (.inr ⟨A,B,w,m,C,D⟩)
         ·intro c;rw[c.1,c.2,t] at m;exact absurd m (by decide)
         ·intro c;rw[c.1,c.2] at m;exact s m
 ·exact f
theorem lQ.ly (a:lQ room ps) (g i:Int):lQ room (ly room ps g i).2:=by
 cases hx:oR room ps g i with
 |none=>rw[HN hx];exact a
 |some k=>
  rw[zU hx];split
  ·rename_i b;obtain⟨_,c,d⟩:=a.nz hx b;obtain⟨_, _,e⟩:=fL d;exact a.te c e rfl rfl rfl
  ·exact a
theorem tO {g x:Int} (h:x∈pa room ps g):sS room g x=true/\(gp ps g x).2.2.2.1=true/\(gp ps g x).2.2.2.2.1=false:=by
 unfold pa at h;rw[Co] at h;obtain⟨j,b,rfl⟩:=h;rw[I2] at b;have:=GF.1 b.1;have a:=b.2;unfold vS at a;simp only[DV,E4] at a;exact⟨fb.2 ⟨nN.1 a.1,by omega,by omega⟩,a.2.1,a.2.2⟩
theorem JC {g x:Int} (h:x∈pa room ps g):gp ps g x≠zP:=λe=>by
 have:=(tO h).2.1;rw[e] at this;cases this
theorem lQ.gW (a:lQ room ps) (g:Int):lQ room (gW room ps g).2:=by
 unfold Go.Proofs.YtlcenllcmeebhaaGreat.Po.gW;cases c:pa room ps g with
 |nil=>exact a
 |cons x l=>
  have b:x∈pa room ps g:=by rw[c];exact DA
  exact a.te (tO b).1 (JC b) rfl rfl rfl
theorem lQ.e8 (d:lQ room ps) (g i:Int):lQ room (e8 room ps g i).2:=by
 cases hx:oR room ps g i with
 |none=>rw[wC hx];exact d
 |some k=>
  rw[pQ hx];obtain⟨p1,p2,p3⟩:=fL hx;have hs:=d.tookS;split
  ·rename_i e;obtain⟨o,l, _⟩:=d.nz hx e;subst p2;have w:ps.getD (ix g i) zP=gp ps g i:=rfl;rw[w] at e o l p3 ⊢;have hi:=d.inv g i p1;rcases hi with z|z|⟨_, _, _,c4,c5,c6⟩
   ·exact absurd z p3
   ·rw[z.1] at e;exact absurd e (by decide)
   obtain⟨r,q⟩: ∃r,r=(gp ps g i).2.1:=⟨_,rfl⟩;obtain⟨j,s⟩: ∃j,j=(gp ps g i).2.2.1:=⟨_,rfl⟩;rw[<-q] at o c4 c5 c6 l ⊢;rw[<-s] at c4 c5 c6 l ⊢;have key: ∀a b,sS room a b=true->gp ((ps.set (ix r j) (1,(gp ps r j).2.1,0,(gp ps r j).2.2.2)).set (ix g i) zP) a b=if a=g/\b=i then zP else if a=r/\b=j then(1,(gp ps r j).2.1,0,(gp ps r j).2.2.2) else gp ps a b:=λa b t=>by
    rw[jf (hs.set _ _) p1 t,jf hs l t]
   show lQ room ((ps.set (ix r j) (1,(gp ps r j).2.1,0,(gp ps r j).2.2.2)).set (ix g i) zP);have u:=(hs.set (ix r j) (1,(gp ps r j).2.1,0,(gp ps r j).2.2.2)).set (ix g i) zP;generalize (ps.set (ix r j) (1,(gp ps r j).2.1,0,(gp ps r j).2.2.2)).set (ix g i) zP=X at key u ⊢;refine⟨u,λg' m h'=>?_⟩;rw[key g' m h'];by_cases p:g'=g/\m=i
   ·rw[aw p];exact .inl rfl
   ·rw[ao p];by_cases n:g'=r/\m=j
    ·rw[aw n];refine .inr (.inl ⟨rfl,?_,?_,rfl⟩)
     ·show 1<=(gp ps r j).2.1/\(gp ps r j).2.1<=16;rw[c5];exact(fb.1 p1).1
     ·show(gp ps r j).2.1≠g';rw[c5,n.1];exact λc=>o c.symm
    ·rw[ao n];rcases d.inv g' m h' with z|z|⟨x,y,v,A,f,h⟩
     ·exact .inl z
     ·exact .inr (.inl z)
     ·rw[key _ _ v,ao,ao]
      ·exact .inr (.inr ⟨x,y,v,A,f,h⟩)
      ·intro c;rw[c.1,c.2] at f h;exact p ⟨by rw[<-f,c5],by rw[<-h,c6]⟩
      ·intro c;rw[c.1,c.2] at f h;exact n ⟨by rw[<-f, <-q],by rw[<-h, <-s]⟩
  ·rename_i e;subst p2;exact d.Zj p1 e (.inl rfl)
end
section
variable {D G:List Nat} {w0 w:A1} {L:List (Nat×List AC)} {bp:Nat} {room:Int} {ps:List PT}
def Ba (ps:List PT) (g:Int) (i:Nat):List Int:=((D8 i).filter (vS ps g)).map λi=>((i:Nat):Int)
theorem HO (g:Int) (i:Nat):Ba ps g (i+1)=Ba ps g i++(if vS ps g i then[((i:Nat):Int)] else[]):=by grind[Ba,G1]
theorem LY (g:Int) (i:Nat):(Ba ps g i).length<=i:=by grind[Ba]
theorem HP {g:Int} {i:Nat} (hi:(i:Int)<room) (hx:oR room ps g i=none):vS ps g i=false:=by
 grind[vS,sS,vi,zP]
theorem HQ {g:Int} {i:Nat} {k:Nat} (hx:oR room ps g i=some k):vS ps g i=((ps.getD k zP).2.2.2.1&& !(ps.getD k zP).2.2.2.2.1):=by
 obtain⟨h1,a, _⟩:=fL hx;unfold vS;rw[nN.2 (fb.1 h1).1,a];rfl
theorem RG (hb:bN w bp (gS room ps)) (hs:okS room ps) (g:Int):aD A2 232 (.el (.one .slice)) [ag (af bp),aa g] w (λr w'=>lU w w' eI r (pa room ps g)/\Ext w w'):=by
 refine ai (C:=R1) (aT:=uw) (AL (Rw _ g w _) ?_);have y:=hs.lo;have z:=hs.hi;refine⟨true,ae.of (s:= .el (.one .bool)) λw' h'=>pI (hb.ext h') hs,an rfl ⟨rfl,rfl,aj.jC (At.start [] w) hb (by simp) (qd hs) ?_⟩⟩;refine⟨λq s w'=> ∃i:Nat,s.2.1=i/\q+i=room.toNat/\At [] w w' []/\lU w w' eI s.1 (Ba ps g i),⟨room.toNat,λw1 h1=>⟨0,rfl,rfl,(At.start [] w).ext h1,lU.start w w1 eI⟩⟩,?_⟩;rintro q ⟨⟨sp,A,sc⟩,B,u⟩ w1 ⟨i,hi,D,H,f⟩;simp only at hi f;subst hi;dsimp only;refine ab (λc=>?_) (λc=>?_)
 ·have E:i<room.toNat:=by simp at c;omega
  have a:=HO (ps:=ps) g i;have F:=LY (ps:=ps) g i;refine⟨_,ae.of (s:= .el (.one .ptr)) λw' h'=>Ek ((H.fW hb (by simp)).ext h') hs g i,?_⟩;unfold cA;cases hx:oR room ps g i with
  |none=>
   rw[HP (by omega) hx] at a;rw[ao (by decide),CL] at a;refine⟨λh=>by simp at h,λh=>by simp at h,false,λh=>by simp at h,λh=>by simp at h,λh=>by simp at h,false,λh=>by simp at h,an rfl λj d=>⟨q - 1,by omega,i+1,by rw[av (by omega) (by omega)];rfl,by omega,H.ext d,by rw[a];exact f.ext d⟩⟩
  |some kk=>
   obtain⟨n,o,G⟩:=fL hx;have p:kk<512:=by rw[o];exact o_ n hs.hi
   have l:=hs.get p;rw[HQ hx] at a;refine⟨λ_=>rfl,λ_=>rfl,aj.jC H hb (by simp) (rC l (by decide) rfl) ⟨λ_=>rfl,λ_=>rfl,aj.jC H hb (by simp) (rC l (by decide) rfl) (ab (λc2=>?_) (λc2=>?_))⟩⟩
   ·have c3:((ps.getD kk zP).2.2.2.1&& !(ps.getD kk zP).2.2.2.2.1)=true:=by simpa using c2
    rw[aw c3] at a;have k:=At.start [] w1;refine aM.go k λb j k=>λI t=>?_;refine At.aby (e:=eI) (i:=0) H f (k.ext t) (i:Int) rfl rfl rfl rfl rfl (by omega) λs' J v x K m=>⟨q - 1,by omega,i+1,by rw[av (by omega) (by omega)];rfl,by omega,v.ext m,?_⟩;rw[a];exact x.ext m
   ·have c3: ¬ ((ps.getD kk zP).2.2.2.1&& !(ps.getD kk zP).2.2.2.2.1)=true:=by simpa using c2
    rw[ao c3,CL] at a;exact λj d=>⟨q - 1,by omega,i+1,by rw[av (by omega) (by omega)];rfl,by omega,H.ext d,by rw[a];exact f.ext d⟩
 ·have hi:i=room.toNat:=by simp at c;omega
  subst hi;exact λj d=>⟨f.ext d,(H.ext d).all⟩
theorem RH (H:aK D G w0 w L) (j:Nat) (b:L[j]? =some (bp,gS room ps)) (hs:okS room ps) (g:Int) {K:Option AB×Nat×Nat->A1->Prop}
 (k: ∀r rows a,aK D G w0 a (L++rows)->oo eI rows r (pa room ps g)->K r a):aA A2 232 (.el (.one .slice)) [ag (af bp),aa g] w K:=
 aA.Zh H (λw1 H=>RG (H.get b) hs g) k
theorem zV {rows:List (Nat×List AC)} {r:Option AB×Nat×Nat} {x:Int} {l:List Int} (a:oo eI rows r (x::l)) (H:aK D G w0 w L) (b: ∀y∈rows,y∈L):r.1.isSome=true/\cL w (ad r.1 0) (.one (.int .i64)) x:=by
 have:=a.sl H b 0
 grind
theorem RI (H:aK D G w0 w L) (j:Nat) (d:L[j]? =some (bp,gS room ps)) (hs:okS room ps) (g:Int) {K:Int×Bool×Unit->A1->Prop}
 (k: ∀f,aK D G w0 f (L.set j (bp,gS room (gW room ps g).2))->K ((gW room ps g).1.1,(gW room ps g).1.2,()) f):
 aA A2 188 (.bu [.one (.int .i64),.one .bool]) [ag (af bp),aa g] w K:=by
 refine aA.go H λw1 H=>ai (C:=R1) (aT:=λ_=>[]) (AL (Rx _ g w1 K) ?_);refine RH H j d hs g λr rows f H c=>?_;have p:j<L.length:=(B1.1 d).1;have i:(L++rows)[j]? =some (bp,gS room ps):=by grind
 have a:=c.1;cases b:pa room ps g with
 |nil=>
  rw[b] at a;have e:gW room ps g=((0,false),ps):=by unfold gW;rw[b]
  rw[e] at k;refine ay (by rw[a];rfl) (au.go H λm H=>k m ?_);rw[lG d];exact H.sub (DO _ _)
 |cons x l=>
  have n:x∈pa room ps g:=by rw[b];exact DA
  rw[b] at a c;have e:gW room ps g=((x,true),ps.set (ix g x) ((gp ps g x).1,(gp ps g x).2.1,(gp ps g x).2.2.1,false,(gp ps g x).2.2.2.2)):=by unfold gW;rw[b]
  rw[e] at k;obtain⟨p1, _, _⟩:=tO n;have hx:oR room ps g x=some (ix g x):=by rw[vi p1,ao (JC n)]
  have q:=o_ p1 hs.hi;have s:ps[ix g x]? =some (gp ps g x):=hs.get q;have h0:=zV c H (λy h=>CJ _ h);have o:(x::l).length=l.length+1:=rfl;refine an (by rw[a,o];simp;omega) ⟨⟨h0.1,by omega,by rw[a,o];omega⟩,aj.of x h0.2 ⟨_,Gs H j i hs g x hx,rfl,rfl,?_⟩⟩;refine aC.rC j H ((gp ps g x).1,(gp ps g x).2.1,(gp ps g x).2.2.1,false,(gp ps g x).2.2.2.2.1,()) i s (by decide) rfl rfl λm H=>?_;rw[GS _ _ p] at H;have h1:=zV c H (λy h=>CJ _ h);refine⟨by grind,aj.of x h1.2 (au.go H λt H=>k t (H.sub (DO _ _)))⟩
theorem tP (a:lQ room ps) (g:Int): ∀i,lQ room (iy room ps g i).2
 |0=>a
 |i+1=>(tP a g i).e8 g i
theorem EK (g:Int): ∀i:Nat,0<=(iy room ps g i).1/\(iy room ps g i).1<=i
 |0=>by simp[iy]
 |i+1=>by
  have:=EK g i;simp[iy];omega
theorem LZ (b:lQ room ps) {g i j:Int} (hi:sS room g i=true) (a:sS room g j=true):gp (e8 room ps g i).2 g j=if j=i then zP else gp ps g j:=by
 cases hx:oR room ps g i with
 |none=>
  rw[wC hx];rw[vi hi] at hx
  grind
 |some=>
  rw[pQ hx];obtain⟨p1,p2,p3⟩:=fL hx;have hs:=b.tookS;split
  ·rename_i c;obtain⟨e,d, _⟩:=b.nz hx c;subst p2;rw[jf (hs.set _ _) p1 a,jf hs d a]
   grind
  ·subst p2;rw[jf hs p1 a]
   grind
theorem EL (a:lQ room ps) {g:Int} (hg:gI g=true): ∀(n:Nat),(n:Int)<=room-> ∀j,0<=j->j<(n:Int)->gp (iy room ps g n).2 g j=zP
 |n+1,d,j,h0,h1=>by
  have b:sS room g n=true:=fb.2 ⟨nN.1 hg,by omega⟩;have c:sS room g j=true:=fb.2 ⟨nN.1 hg,by omega⟩;simp[iy];rw[LZ (tP a g n) b c];by_cases e:j=n
  ·grind
  ·rw[ao e];exact EL a hg n (by omega) j h0 (by omega)
def vT (room:Int) (ps:List PT) (g:Int):Prop:=lQ room ps/\ ∀i,sS room g i=true->gp ps g i=zP
theorem RJ {g:Int} (h:vT room ps g) {k i:Int} (hi:sS room k i=true) (d:(gp ps k i).2.1=g):(gp ps k i).1≠2:=by
 intro b;rcases h.1.inv k i hi with z|z|⟨_, _,c,a, _⟩
 ·rw[z] at b;exact absurd b (by decide)
 grind
 ·rw[d] at c a;rw[h.2 _ c] at a;exact absurd a (by decide)
theorem HR {g:Int} {s:Int×List PT} (h:vT room s.2 g) (k i:Int):vT room (pf room g s k i).2 g:=by
 unfold pf;split
 ·grind
 ·rename_i hx;split
  ·rename_i hg;obtain⟨p1,p2,p3⟩:=fL hx;subst p2;refine⟨h.1.Zj p1 (RJ h p1 hg) (.inl rfl),λj a=>?_⟩;rw[jf h.1.tookS p1 a];split
   ·rfl
   ·exact h.2 j a
  grind
theorem sr {g:Int} {s:Int×List PT} (h:vT room s.2 g) (k:Int): ∀i,vT room (mO room g s k i).2 g
 |0=>h
 |i+1=>HR (sr h k i) k i
theorem sv {g:Int} {s:Int×List PT} (h:vT room s.2 g): ∀k,vT room (ky room g s k).2 g
 |0=>h
 |k+1=>sr (sv h k) _ _
theorem RK {g:Int} (s:Int×List PT) (k i:Int):s.1<=(pf room g s k i).1/\(pf room g s k i).1<=s.1+1:=by grind[pf]
theorem zo {g:Int} (s:Int×List PT) (k:Int): ∀i:Nat,s.1<=(mO room g s k i).1/\(mO room g s k i).1<=s.1+i
 |0=>by simp[mO]
 |i+1=>by
  have h1:=zo (g:=g) s k i;have a:=RK (g:=g) (room:=room) (mO room g s k i) k i;simp[mO];omega
theorem EM {g:Int} (s:Int×List PT): ∀k:Nat,s.1<=(ky room g s k).1/\(ky room g s k).1<=s.1+k*room.toNat
 |0=>by simp[ky]
 |k+1=>by
  have h1:=EM (g:=g) s k;have a:=zo (g:=g) (room:=room);simp[ky]
  grind
theorem zW (a:lQ room ps) {g:Int} (hg:gI g=true):vT room (iy room ps g room.toNat).2 g:=by
 exact⟨tP a g _,by grind[EL,fb]⟩
theorem RM (a:lQ room ps) (g:Int):lQ room (cI room ps g).2:=by
 unfold cI;split
 ·rename_i hg;exact(sv (zW a hg) _).1
 grind
theorem RN (H:aK D G w0 w L) (j:Nat) (d:L[j]? =some (bp,gS room ps)) (t:lQ room ps) (g:Int) {K:Int->A1->Prop}
 (k: ∀B,aK D G w0 B (L.set j (bp,gS room (cI room ps g).2))->K (cI room ps g).1 B):
 aA A2 170 (.el (.one (.int .i64))) [ag (af bp),aa g] w K:=by
 refine aA.go H λw1 H=>ai (C:=R1) (aT:=ux) (AL (Ry _ g w1 K) ?_);have hs:=t.tookS;have TR:=hs.lo;have O:=hs.hi;refine⟨true,VA H j d hs,λ_=>trivial,ab (λc=>?_) (λc=>?_)⟩
 ·have hg:gI g=false:=by simpa using c
  have e:cI room ps g=(0,ps):=by unfold cI;rw[hg];rfl
  rw[e] at k;refine au.go H λv H=>k v ?_;rw[lG d];exact H
 have hg:gI g=true:=by simpa using c
 have e:cI room ps g=ky room g (iy room ps g room.toNat) 16:=by unfold cI;rw[aw hg]
 rw[e] at k;refine⟨rfl,rfl,aj.cA j H d (qd hs) ?_⟩;refine⟨λq s w'=> ∃i:Nat,s.2.1=i/\q+i=room.toNat/\s.1=(iy room ps g i).1/\aK D G w0 w' (L.set j (bp,gS room (iy room ps g i).2)),⟨room.toNat,λv P=>⟨0,rfl,rfl,rfl,by rw[show(iy room ps g 0).2=ps from rfl,lG d];exact H.ext P⟩⟩,?_⟩;clear H;rintro q ⟨a,Q,u⟩ v ⟨i,hi,hq,l,H⟩;simp only at hi l;subst hi;subst l;dsimp only;have R:=EK (room:=room) (ps:=ps) g i;refine ab (λc1=>?_) (λc1=>?_)
 ·have S:i<room.toNat:=by simp at c1;omega
  have T:=tP t g i;refine BD H j (kO d) T g i λE H=>?_;rw[Bx] at H;have n:aH .i64 (i:Int) 1=((i+1:Nat):Int):=by rw[av (by omega) (by omega)];rfl
  refine ab (λc2 o p=>⟨q - 1,by omega,i+1,n,by omega,?_,H.ext p⟩) (λc2 o p=>⟨q - 1,by omega,i+1,n,by omega,?_,H.ext p⟩)
  ·have c3:(e8 room (iy room ps g i).2 g i).1=0:=by simpa using c2
   simp only[iy];rw[aw c3,av (by omega) (by omega)]
  ·have c3: ¬ (e8 room (iy room ps g i).2 g i).1=0:=by simpa using c2
   simp only[iy];rw[ao c3,Int.add_zero]
 have hi:i=room.toNat:=by simp at c1;omega
 subst hi;have F:=zW t hg;generalize iy room ps g room.toNat=f at H k F R;refine⟨λq s w'=> ∃m:Nat,s.2.1=(m:Int)+1/\q+m=16/\s.1=(ky room g f m).1/\aK D G w0 w' (L.set j (bp,gS room (ky room g f m).2)),⟨16,λE U=>⟨0,rfl,rfl,rfl,H.ext U⟩⟩,?_⟩;clear H;rintro V ⟨a,m',u2⟩ E ⟨m,I,Xd,l,H⟩;simp only at I l;subst I;subst l;dsimp only;have J:=sv F m;have hlA:=EM (room:=room) (g:=g) f m;have adm:(m:Int)*(room.toNat:Int)<=16*32:=Int.mul_le_mul (by omega) (by omega) (by omega) (by omega);refine ab (λc2=>?_) (λc2=>?_)
 ·have M:m<16:=by simp at c2;omega
  refine⟨rfl,rfl,aj.cA j H (kO d) (qd J.1.tookS) ?_⟩;refine⟨λq s w'=> ∃i:Nat,s.2.1=i/\q+i=room.toNat/\s.1=(mO room g (ky room g f m) ((m:Int)+1) i).1/\aK D G w0 w' (L.set j (bp,gS room (mO room g (ky room g f m) ((m:Int)+1) i).2)),⟨room.toNat,λo p=>⟨0,rfl,rfl,rfl,H.ext p⟩⟩,?_⟩;clear H;rintro x ⟨a,Q,u3⟩ o ⟨i,hi,hq3,l,H⟩;simp only at hi l;subst hi;subst l;dsimp only;have W:=sr J ((m:Int)+1) i;have hlR:=zo (room:=room) (g:=g) (ky room g f m) ((m:Int)+1) i;refine ab (λc3=>?_) (λc3=>?_)
  ·have S:i<room.toNat:=by simp at c3;omega
   have n:aH .i64 (i:Int) 1=((i+1:Nat):Int):=by rw[av (by omega) (by omega)];rfl
   have y:=W.1.tookS;have er:mO room g (ky room g f m) ((m:Int)+1) (i+1)=pf room g (mO room g (ky room g f m) ((m:Int)+1) i) ((m:Int)+1) i:=rfl;generalize mO room g (ky room g f m) ((m:Int)+1) i=b at*
   refine⟨_,Gs H j (kO d) y ((m:Int)+1) i rfl,?_⟩;cases hx:oR room b.2 ((m:Int)+1) i with
   |none=>
    have z:pf room g b ((m:Int)+1) i=b:=by unfold pf;rw[hx]
    rw[z] at er;exact⟨λh=>by simp at h,λh=>by simp at h,(0:Int),λh=>by simp at h,an rfl λA r=>⟨x - 1,by omega,i+1,n,by omega,by rw[er],by rw[er];exact H.ext r⟩⟩
   |some kk=>
    obtain⟨X,Y,hnz⟩:=fL hx;have N:kk<512:=by rw[Y];exact o_ X O
    have Z:=y.get N;have z:pf room g b ((m:Int)+1) i=if(b.2.getD kk zP).2.1=g then(b.1+1,b.2.set kk zP) else b:=by unfold pf;rw[hx]
    rw[z] at er;refine⟨λ_=>rfl,λ_=>rfl,aj.cA j H (kO d) (rC Z (by decide) rfl) (ab (λc4=>?_) (λc4=>?_))⟩
    ·have c5:(b.2.getD kk zP).2.1=g:=by simpa using c4
     rw[aw c5] at er;refine⟨rfl,aC.port j H (kO d) (by rw[y.len];exact N) zP rfl λA H w7 h7=>⟨x - 1,by omega,i+1,n,by omega,?_,?_⟩⟩
     ·rw[er,av (by omega) (by omega)]
     ·rw[er];rw[Bx] at H;exact H.ext h7
    ·have c5: ¬ (b.2.getD kk zP).2.1=g:=by simpa using c4
     rw[ao c5] at er;exact λA r=>⟨x - 1,by omega,i+1,n,by omega,by rw[er],by rw[er];exact H.ext r⟩
  ·have hi:i=room.toNat:=by simp at c3;omega
   subst hi;exact λA r=>⟨V - 1,by omega,m+1,by rw[av (by omega) (by omega)];omega,by omega,rfl,H.ext r⟩
 ·have M:m=16:=by simp at c2;omega
  subst M;exact au.go H λo H=>k o H
end
def Ed (room:Int) (ps:List PT) (u v:Int):Prop:= ∃i,sS room u i=true/\gp ps u i≠zP/\(gp ps u i).2.1=v
inductive Lk (room:Int) (ps:List PT) (a:Int):Int->Prop
 |refl:Lk room ps a a
 |fwd {u v:Int}:Lk room ps a u->Ed room ps u v->Lk room ps a v
 |bwd {u v:Int}:Lk room ps a v->Ed room ps u v->Lk room ps a u
def tv (bs:List Bool) (v:Int):Bool:=bs.getD v.toNat false
def Kz (bs:List Bool):List AC:=bs.map Value.bool
theorem O4 {bs:List Bool} {v:Int} (h:v.toNat<bs.length):k9 (Kz bs) (0+v.toNat*1) (.one .bool)=some (tv bs v):=by
 have:(Kz bs)[0+v.toNat*1]? =some (.bool (tv bs v)):=by
  unfold Kz tv;rw[B5,Nat.mul_one,IV,Ax h,B2,Ax h];rfl
 show(match (Kz bs)[0+v.toNat*1]? with|some v=>Sc.bool.proj v|none=>none)= _;rw[this];rfl
theorem G8 {bs:List Bool} {u v:Int} (b:0<=u) (a:u.toNat<bs.length) (hv:0<=v):tv (bs.set u.toNat true) v=if v=u then true else tv bs v:=by
 unfold tv;by_cases e:v=u
 ·subst e;rw[aw rfl];simp[B2,a]
 ·rw[ao e];have:u.toNat≠v.toNat:=by omega
  simp[B2,DY this]
def IP (bs:List Bool):Nat:=bs.countP (! ·)
theorem xS {bs:List Bool} {k:Nat} (a:k<bs.length):IP (bs.set k true)+(if bs.getD k false=false then 1 else 0)=IP bs:=by
 unfold IP;rw[List.countP_set a];have e:bs.getD k false=bs[k]:=by rw[B2,Ax a];rfl
 rw[e];cases h:bs[k] with
 |true=>simp
 |false=>
  have:0<bs.countP (! ·):=List.countP_pos_iff.2 ⟨bs[k],H7 a,by rw[h];rfl⟩;simp;omega
theorem sw {bs:List Bool} {k:Nat} (a:k<bs.length):IP (bs.set k true)<=IP bs:=by have:=xS a;omega
section
variable {D G:List Nat} {w0 w:A1} {L:List (Nat×List AC)} {bp:Nat} {room:Int} {ps:List PT}
theorem O5 (j:Nat) (H:aK D G w0 w L) {b:Nat} {bs:List Bool} {v:Int} (a:L[j]? =some (b,Kz bs)) (d:v.toNat<bs.length) {K:A1->Prop}
 (c: ∀w1,aK D G w0 w1 (L.set j (b,Kz (bs.set v.toNat true)))->K w1):aC w (ad (af b) (v.toNat*1)) [.bool true] K:=by
 refine aC.gJ j H a rfl ?_ λw1 h1=>c w1 ?_
 ·rw[Gj];unfold Kz;rw[GG];omega
 ·have e:(Kz bs).set (0+v.toNat*1) (.bool true)=Kz (bs.set v.toNat true):=by unfold Kz;rw[List.map_set,B5,Nat.mul_one]
  rw[e] at h1;exact h1
end
end Go.Proofs.YtlcenllcmeebhaaGreat.Po
namespace Go.Proofs.YtlcenllcmeebhaaGreat
set_option maxRecDepth 100000
open Go.RX
open Po (tv Kz O4 G8 IP xS sw O5)
inductive Rc (E:Int->Int->Prop) (a:Int):Int->Prop
 |refl:Rc E a a
 |step {u v:Int}:Rc E a u->E u v->Rc E a v
structure Dfs (E:Int->Int->Prop) (n:Int) (bs Yv:List Bool):Prop where
 len:Yv.length=17
 mono: ∀v,0<=v->tv bs v=true->tv Yv v=true
 F6:tv Yv n=true
 snd: ∀v,0<=v->tv Yv v=true->tv bs v=true\/Rc E n v
 cls: ∀u v,0<=u->tv Yv u=true->tv bs u=false->E u v->tv Yv v=true
 IP:IP Yv<=IP bs
structure Lp (E:Int->Int->Prop) (n:Int) (bs cs:List Bool):Prop where
 len:cs.length=17
 mono: ∀v,0<=v->tv bs v=true->tv cs v=true
 F6:tv cs n=true
 snd: ∀v,0<=v->tv cs v=true->tv bs v=true\/Rc E n v
 cls: ∀u v,0<=u->u≠n->tv cs u=true->tv bs u=false->E u v->tv cs v=true
 IP:IP cs+(if tv bs n=false then 1 else 0)<=IP bs
open Po (tv Kz O4 G8 IP xS sw O5)
def oh (gs:List GT):Prop:= ∀x∈gs,(x=zG\/((1<=x.1/\x.1<=16)/\(1<=x.2.2.1/\x.2.2.1<=16)/\x.1≠x.2.2.1/\0<=x.2.1/\x.2.1<65536))/\0<=x.2.2.2.2.1/\x.2.2.2.2.1<=1000
theorem PJ {g:Int}:gG g=true<->1<=g/\g<=16:=by unfold gG;simp
section
variable {w0:A1} {bg br c:Nat} {gs:List GT} {rest:List AC}
end
theorem oh.set {gs:List GT} (h:oh gs) (i:Nat) {x:GT} (hx:(x=zG\/((1<=x.1/\x.1<=16)/\(1<=x.2.2.1/\x.2.2.1<=16)/\x.1≠x.2.2.1/\0<=x.2.1/\x.2.1<65536))/\0<=x.2.2.2.2.1/\x.2.2.2.2.1<=1000):oh (gs.set i x):=λy a=>by
 rcases List.mem_or_eq_of_mem_set a with a|rfl
 ·exact h y a
 ·exact hx
theorem O6:((zG:GT)=zG\/((1<=zG.1/\zG.1<=16)/\(1<=zG.2.2.1/\zG.2.2.1<=16)/\zG.1≠zG.2.2.1/\0<=zG.2.1/\zG.2.1<65536))/\0<=zG.2.2.2.2.1/\zG.2.2.2.2.1<=1000:=⟨.inl rfl,by decide,by decide⟩
theorem oh.rev {gs:List GT} (h:oh gs) (i o:Int):oh (lu gs i o):=by
 unfold lu;split
 ·exact h.set _ O6
 ·exact h
theorem oh.at {gs:List GT} (h:oh gs) {i:Int} {k:Nat} (a:l8 gs i=some k):((1<=(gs.getD k zG).1/\(gs.getD k zG).1<=16)/\(1<=(gs.getD k zG).2.2.1/\(gs.getD k zG).2.2.1<=16)/\(gs.getD k zG).1≠(gs.getD k zG).2.2.1/\0<=(gs.getD k zG).2.1/\(gs.getD k zG).2.1<65536)/\0<=(gs.getD k zG).2.2.2.2.1/\(gs.getD k zG).2.2.2.2.1<=1000:=by
 obtain⟨_, _, _,hx,b⟩:=lF a;obtain⟨h1,c⟩:=h _ (Et hx);exact⟨h1.resolve_left b,c⟩
theorem oh.take {gs:List GT} (h:oh gs) (i g:Int) (b:Bool):oh (eh gs i g b):=by
 unfold eh;split
 ·rename_i a;unfold iq at a;cases c:l8 gs i with
  |none=>rw[c] at a;cases a
  |some k=>
   rw[c] at a;dsimp only at a;obtain⟨h1,e⟩:=h.at c;obtain⟨_, _,d, _⟩:=lF c;subst d;split at a
   ·cases a
   ·split at a
    ·cases a
    ·rename_i f;refine h.set _ ⟨.inr h1,?_,?_⟩
     ·show 0<=(gs.getD i.toNat zG).2.2.2.2.1+1;omega
     ·show(gs.getD i.toNat zG).2.2.2.2.1+1<=1000;omega
 ·exact h
theorem oh.back {gs:List GT} (h:oh gs) (i g:Int):oh (eZ gs i g):=by
 unfold eZ;split
 ·rename_i a;unfold mE at a;cases b:l8 gs i with
  |none=>rw[b] at a;cases a
  |some k=>
   rw[b] at a;dsimp only at a;obtain⟨h1,d⟩:=h.at b;obtain⟨_, _,c, _⟩:=lF b;subst c;split at a
   ·cases a
   ·split at a
    ·cases a
    ·rename_i e;refine h.set _ ⟨.inr h1,?_,?_⟩
     ·show 0<=(gs.getD i.toNat zG).2.2.2.2.1+ -1;omega
     ·show(gs.getD i.toNat zG).2.2.2.2.1+ -1<=1000;omega
 ·exact h
theorem oh.off {gs:List GT} (h:oh gs) (o q t:Int) (b:Bool):oh (jW gs o q t b):=by
 unfold jW;split
 ·rename_i a;unfold lx at a;split at a
  ·cases a
  ·rename_i hc;have hc:gG o=true/\gG t=true/\o≠t/\0<=q/\q<65536:=by
    simp only[DQ,E4,beq_iff_eq,decide_eq_true_eq,not_or] at hc;obtain⟨⟨⟨⟨h1,c⟩,d⟩,f⟩,g⟩:=hc;exact⟨by simpa using h1,by simpa using c,d,by omega,by omega⟩
   have a1:=PJ.1 hc.1;have e:=PJ.1 hc.2.1;exact h.set _ ⟨.inr ⟨a1,e,hc.2.2⟩,Int.le_refl 0,(by decide:(0:Int)<=1000)⟩
 ·exact h
theorem oh.drop {gs:List GT} (h:oh gs) (g:Int):oh (cR gs g):=λy a=>by
 unfold cR at a;obtain⟨x,hx,rfl⟩:=Co.1 a;split
 ·exact O6
 ·exact h x hx
theorem oh.new (n:Nat):oh (B4 n zG):=λy a=>by
 rw[List.eq_of_mem_replicate a];exact O6
theorem oh.use {gs:List GT} (h:oh gs): ∀x∈gs,0<=x.2.2.2.2.1/\x.2.2.2.2.1<=1000:=λx hx=>(h x hx).2
noncomputable def H0:dM A2:={C3 with vN:=false,quiet:=[119,120]}
theorem L3 (w:A1) (u:Option Nat->A1->Prop):(aJ H0 (λ_=>[]) 163 [] w u)=(
 ∀w1,Ext w w1-> ∀c,Ext (w1.alloc (Obj.map ⟨[]⟩ 0)) c-> ∃(r:Nat), ∃(es:Array AM), ∃(a:Nat),some w1.heap.size=some r/\bH c r es a/\ib c r .i64 1 (.agg {toList:=[.string {data:=⟨[99,114,101,97,116,101]⟩},aa 0]}) es a λb=> ∀d,Ext b d-> ∃(r:Nat), ∃(es:Array AM), ∃(a:Nat),some w1.heap.size=some r/\bH d r es a/\ib d r .i64 2 (.agg {toList:=[.string {data:=⟨[100,101,115,116,114,111,121]⟩},aa 1]}) es a λb=> ∀e,Ext b e-> ∃(r:Nat), ∃(es:
 Array AM), ∃(a:Nat),some w1.heap.size=some r/\bH e r es a/\ib e r .i64 3 (.agg {toList:=[.string {data:=⟨[100,111,110,97,116,101]⟩},aa 2]}) es a λb=> ∀f,Ext b f-> ∃(r:Nat), ∃(es:Array AM), ∃(a:Nat),some w1.heap.size=some r/\bH f r es a/\ib f r .i64 4 (.agg {toList:=[.string {data:=⟨[114,101,99,108,97,105,109]⟩},aa 1]}) es a λb=> ∀g,Ext b g-> ∃(r:Nat), ∃(es:Array AM), ∃(a:Nat),some w1.heap.size=some r/\bH g r es a/\
 ib g r .i64 5 (.agg {toList:=[.string {data:=⟨[112,114,111,116,101,99,116]⟩},aa 2]}) es a λb=> ∀h,Ext b h-> ∃(r:Nat), ∃(es:Array AM), ∃(a:Nat),some w1.heap.size=some r/\bH h r es a/\ib h r .i64 6 (.agg {toList:=[.string {data:=⟨[108,111,97,100]⟩},aa 1]}) es a λb=> ∀i,Ext b i-> ∃(r:Nat), ∃(es:Array AM), ∃(a:Nat),some w1.heap.size=some r/\bH i r es a/\ib i r .i64 7 (.agg {toList:=[.string {data:=⟨[115,116,111,114,101]⟩},.int .i64
 2]}) es a λb=> ∀j,Ext b j-> ∃(r:Nat), ∃(es:Array AM), ∃(a:Nat),some w1.heap.size=some r/\bH j r es a/\ib j r .i64 8 (.agg {toList:=[.string {data:=⟨[111,102,102,101,114]⟩},aa 3]}) es a λb=> ∀k,Ext b k-> ∃(r:Nat), ∃(es:Array AM), ∃(a:Nat),some w1.heap.size=some r/\bH k r es a/\ib k r .i64 9 (.agg {toList:=[.string {data:=⟨[116,97,107,101]⟩},aa 3]}) es a λb=> ∀l,Ext b l-> ∃(r:Nat), ∃(es:Array AM), ∃(a:Nat),
 some w1.heap.size=some r/\bH l r es a/\ib l r .i64 10 (.agg {toList:=[.string {data:=⟨[98,97,99,107]⟩},aa 1]}) es a λb=> ∀m,Ext b m-> ∃(r:Nat), ∃(es:Array AM), ∃(a:Nat),some w1.heap.size=some r/\bH m r es a/\ib m r .i64 11 (.agg {toList:=[.string {data:=⟨[114,101,118,111,107,101]⟩},aa 1]}) es a λb=> ∀n,Ext b n-> ∃(r:Nat), ∃(es:Array AM), ∃(a:Nat),some w1.heap.size=some r/\bH n r es a/\ib n r .i64 12 (.agg {toList:=[.string
 {data:=⟨[111,112,101,110]⟩},aa 1]}) es a λb=> ∀o,Ext b o-> ∃(r:Nat), ∃(es:Array AM), ∃(a:Nat),some w1.heap.size=some r/\bH o r es a/\ib o r .i64 13 (.agg {toList:=[.string {data:=⟨[98,105,110,100]⟩},aa 2]}) es a λb=> ∀p,Ext b p-> ∃(r:Nat), ∃(es:Array AM), ∃(a:Nat),some w1.heap.size=some r/\bH p r es a/\ib p r .i64 14 (.agg {toList:=[.string {data:=⟨[115,101,110,100]⟩},aa 1]}) es a λb=> ∀q,Ext b q-> ∃(r
 :Nat), ∃(es:Array AM), ∃(a:Nat),some w1.heap.size=some r/\bH q r es a/\ib q r .i64 15 (.agg {toList:=[.string {data:=⟨[112,111,108,108]⟩},aa 0]}) es a λb=> ∀s,Ext b s-> ∃(r:Nat), ∃(es:Array AM), ∃(a:Nat),some w1.heap.size=some r/\bH s r es a/\ib s r .i64 16 (.agg {toList:=[.string {data:=⟨[99,108,111,115,101]⟩},aa 1]}) es a λb=> ∀t,Ext b t-> ∃(r:Nat), ∃(es:Array AM), ∃(a:Nat),some w1.heap.size=some r/\bH t r es
 a/\ib t r .i64 17 (.agg {toList:=[.string {data:=⟨[115,119,101,101,112]⟩},aa 0]}) es a λb=>au b (u (some w1.heap.size))):=by kernel_rfl
theorem RO (k:Int) (w:A1) (d:Int->A1->Prop):(aJ H0 (λ_=>[]) 119 [aa k] w d)=(
 aA A2 163 (.el OE) [] w λx a=> ∃(c:ByteArray×Int×Unit), ∃(b:Bool),mA a x .i64 k (.agg {toList:=[.string {data:=⟨[]⟩},aa 0]}) (.agg ⟨[.string c.1,aa c.2.1]⟩) b/\aM a {toList:=[.string {data:=⟨[]⟩},aa 0]} 242 λe a=>aC a (af e) [.string c.1,aa c.2.1] λa=>aI (!b) (au a (d (-1))) (true=true/\aW a (ad (af e) 1) λx=>au a (d x))):=by kernel_rfl
theorem FF (k:Int) (w:A1) (a:Bool->A1->Prop):(aJ H0 (λ_=>[]) 77 [aa k] w a)=(
 au w (a (k==1||k==2||k==17))):=by kernel_rfl
theorem L4 (k a b c:Int) (w:A1) (e:Int×Int×Int×Unit->A1->Prop):(bT H0 (λ_=>[]) 120 [.agg ⟨[aa k,az a,az b,az c]⟩] w e)=(
 aM w ⟨[aa k,az a,az b,az c]⟩ 31 λb d=>aM d ⟨[az 0,az 0,az 0]⟩ 222 λf d=>true=true/\cM d (ad (af b) 1) λx=>true=true/\cM d (ad (af b) 2) λg=>true=true/\cM d (ad (af b) 3) λh=>aC d (af f) [az x,az g,az h] λd=>au d λw1=>aj w1 none (af f) (.agg [.int .u64,.int .u64,.int .u64]) λ(x:Int×Int×Int×Unit)=>e (x.1,x.2.1,x.2.2.1,()) w1):=by kernel_rfl
def rh:Nat->a6:=(λ|5=>[(13,Go.RX.El.one (Go.RX.Sc.int B3))]| _=>[])
theorem L5 (k a b c:Int) (w:A1) (f:Bool->A1->Prop):(aJ H0 rh 76 [.agg ⟨[aa k,az a,az b,az c]⟩] w f)=(
 aM w ⟨[aa k,az a,az b,az c]⟩ 31 λb d=>true=true/\aW d (ad (af b) 0) λx=> ∃(g:Int),ae A2 119 [aa x] d (aa g)/\aI (g== -1) (au d (f false)) (aj d none (af b) rK λ(x:Int×Int×Int×Int×Unit)=> ∃(e:Int×Int×Int×Unit),ae A2 120 [.agg ⟨[aa x.1,az x.2.1,az x.2.2.1,az x.2.2.2.1]⟩] d (.agg ⟨[az e.1,az e.2.1,az e.2.2.1]⟩)/\ ∃(I:Nat->Int×Unit->A1->Prop),(∃n, ∀w1,Ext d w1->I n (0,()) w1)/\
 ∀(n:Nat) (s:Int×Unit) (w1:A1),I n s w1->aI (decide (s.1<3)) ((0<=s.1/\s.1<(↑3:Int))/\aI (decide (s.1>=g)&&KI [e.1,e.2.1,e.2.2.1] s.1 != 0) (au w1 (f false)) (∀h,Ext w1 h-> ∃(i:Nat),i<n/\I i (aH .i64 s.1 1,()) h)) (au w1 (f true)))):=by kernel_rfl
theorem gK {D G:List Nat} {w0 w:A1} {L:List (Nat×List AC)} {M:List (Nat×Obj)} {r:Nat} {l:List AM} {c:Nat} (H:cF D G w0 w L ((r,.map ⟨l⟩ c)::M)) {n:Int} {val:AC} {K:A1->Prop} (g:DD (.int .i64) (aa n) l 0=some none)
 (k: ∀a,cF D G w0 a L ((r,.map ⟨l++[{key:=aa n,val,born:=c}]⟩ (c+1))::M)->K a):
 ∀w1,Ext w w1-> ∃r' b d,some r=some r'/\bH w1 r' b d/\ib w1 r' .i64 n val b d K:=λw1 h=>by
 have f:=H.ext h;refine⟨r,⟨l⟩,c,rfl,f.get (i:=0) rfl,?_⟩;unfold ib;rw[g];have e:Array.push _ _=⟨l++[{key:=aa n,val,born:=c}]⟩:=List.push_toArray _ _;rw[e];exact k _ (f.put (i:=0) rfl trivial)
theorem _root_.Go.RX.cF.XS {D G:List Nat} {w0 w:A1} {L:List (Nat×List AC)} {M:List (Nat×Obj)} {r:Nat} {l l':List AM} {c:Nat} (H:cF D G w0 w L ((r,.map ⟨l⟩ c)::M)) (e:l=l'):cF D G w0 w L ((r,.map ⟨l'⟩ c)::M):=by
 grind
def gL (k:Int) (s:ByteArray) (n:Int) (b:Nat):AM:={key:=aa k,val:= .agg ⟨[.string s,aa n]⟩,born:=b}
def e9:Array AM:=⟨[gL 1 ⟨⟨[99,114,101,97,116,101]⟩⟩ 0 0,gL 2 ⟨⟨[100,101,115,116,114,111,121]⟩⟩ 1 1,gL 3 ⟨⟨[100,111,110,97,116,101]⟩⟩ 2 2,gL 4 ⟨⟨[114,101,99,108,97,105,109]⟩⟩ 1 3,gL 5 ⟨⟨[112,114,111,116,101,99,116]⟩⟩ 2 4,gL 6 ⟨⟨[108,111,97,100]⟩⟩ 1 5,gL 7 ⟨⟨[115,116,111,114,101]⟩⟩ 2 6,gL 8 ⟨⟨[111,102,102,101,114]⟩⟩ 3 7,gL 9 ⟨⟨[116,97,107,101]⟩⟩ 3 8,gL 10 ⟨⟨[98,97,99,107]⟩⟩ 1 9,gL 11 ⟨⟨[114,101,118,111,107,101]⟩⟩ 1 10,gL 12 ⟨⟨[111,112,101,110]⟩⟩ 1 11,gL 13 ⟨⟨[98,105,110,100]⟩⟩ 2 12,gL 14 ⟨⟨[115,101,110,100]⟩⟩ 1 13,gL 15 ⟨⟨[112,111,108,108]⟩⟩ 0 14,gL 16 ⟨⟨[99,108,111,115,101]⟩⟩ 1 15,gL 17 ⟨⟨[115,119,101,101,112]⟩⟩ 0 16]⟩
def jX (k:Int):Int:=if 1<=k/\k<=17 then([0,1,2,1,2,1,2,3,3,1,1,1,2,1,0,1,0]:List Int).getD (k - 1).toNat 0 else -1
def fx (k a b c:Int):Bool:=decide (jX k>=0)&&((decide (jX k>0)||a==0)&&((decide (jX k>1)||b==0)&&(decide (jX k>2)||c==0)))
def tg (k:Int):Bool:=k==1||k==2||k==17
section
variable {D G:List Nat} {w0 w:A1} {L:List (Nat×List AC)} {M:List (Nat×Obj)}
theorem L6 (H:cF D G w0 w L M) {K:Option Nat->A1->Prop} (k: ∀r a,cF D G w0 a L ((r,.map e9 17)::M)->K (some r) a):aA A2 163 (.el (.one .map)) [] w K:=by
 refine λw1 h1=>ai (C:=H0) (aT:=λ_=>[]) (AL (L3 w1 K) ?_);have H:=H.ext h1;intro b c;have H:=(H.ext c).alloc (o:= .map #[] 0) trivial;refine gK H (by kernel_rfl) λf H=>?_;refine gK H (by kernel_rfl) λg H=>?_;refine gK H (by kernel_rfl) λh H=>?_;refine gK H (by kernel_rfl) λi H=>?_;refine gK H (by kernel_rfl) λj H=>?_;refine gK H (by kernel_rfl) λl H=>?_;refine gK H (by kernel_rfl) λm H=>?_;refine gK H (by kernel_rfl) λn H=>?_;refine gK H (by kernel_rfl) λp H=>?_;refine gK H (by kernel_rfl) λq H=>?_;refine gK H (by kernel_rfl) λs H=>?_;refine gK H (by kernel_rfl) λt H=>?_;refine gK H (by kernel_rfl) λu H=>?_;refine gK H (by kernel_rfl) λv H=>?_;refine gK H (by kernel_rfl) λx H=>?_;refine gK H (by kernel_rfl) λy H=>?_;refine gK H (by kernel_rfl) λz H=>?_;exact λd e=>k b.heap.size d ((H.ext e).XS (by kernel_rfl))
theorem HT {r:Nat} (h:bH w r e9 17) (k:Int): ∃(x:ByteArray×Int×Unit) (b:Bool),mA w (some r) .i64 k (.agg ⟨[.string ⟨⟨[]⟩⟩,aa 0]⟩) (.agg ⟨[.string x.1,aa x.2.1]⟩) b/\(b=false->jX k= -1)/\(b=true->x.2.1=jX k):=by
 by_cases c:1<=k/\k<=17
 ·have:k=1\/k=2\/k=3\/k=4\/k=5\/k=6\/k=7\/k=8\/k=9\/k=10\/k=11\/k=12\/k=13\/k=14\/k=15\/k=16\/k=17:=by omega
  rcases this with rfl|rfl|rfl|rfl|rfl|rfl|rfl|rfl|rfl|rfl|rfl|rfl|rfl|rfl|rfl|rfl|rfl
  ·exact⟨(⟨⟨[99,114,101,97,116,101]⟩⟩,0,()),true,⟨r,e9,17,rfl,h,rfl,rfl⟩,λh=>(by cases h),λ_=>rfl⟩
  ·exact⟨(⟨⟨[100,101,115,116,114,111,121]⟩⟩,1,()),true,⟨r,e9,17,rfl,h,rfl,rfl⟩,λh=>(by cases h),λ_=>rfl⟩
  ·exact⟨(⟨⟨[100,111,110,97,116,101]⟩⟩,2,()),true,⟨r,e9,17,rfl,h,rfl,rfl⟩,λh=>(by cases h),λ_=>rfl⟩
  ·exact⟨(⟨⟨[114,101,99,108,97,105,109]⟩⟩,1,()),true,⟨r,e9,17,rfl,h,rfl,rfl⟩,λh=>(by cases h),λ_=>rfl⟩
  ·exact⟨(⟨⟨[112,114,111,116,101,99,116]⟩⟩,2,()),true,⟨r,e9,17,rfl,h,rfl,rfl⟩,λh=>(by cases h),λ_=>rfl⟩
  ·exact⟨(⟨⟨[108,111,97,100]⟩⟩,1,()),true,⟨r,e9,17,rfl,h,rfl,rfl⟩,λh=>(by cases h),λ_=>rfl⟩
  ·exact⟨(⟨⟨[115,116,111,114,101]⟩⟩,2,()),true,⟨r,e9,17,rfl,h,rfl,rfl⟩,λh=>(by cases h),λ_=>rfl⟩
  ·exact⟨(⟨⟨[111,102,102,101,114]⟩⟩,3,()),true,⟨r,e9,17,rfl,h,rfl,rfl⟩,λh=>(by cases h),λ_=>rfl⟩
  ·exact⟨(⟨⟨[116,97,107,101]⟩⟩,3,()),true,⟨r,e9,17,rfl,h,rfl,rfl⟩,λh=>(by cases h),λ_=>rfl⟩
  ·exact⟨(⟨⟨[98,97,99,107]⟩⟩,1,()),true,⟨r,e9,17,rfl,h,rfl,rfl⟩,λh=>(by cases h),λ_=>rfl⟩
  ·exact⟨(⟨⟨[114,101,118,111,107,101]⟩⟩,1,()),true,⟨r,e9,17,rfl,h,rfl,rfl⟩,λh=>(by cases h),λ_=>rfl⟩
  ·exact⟨(⟨⟨[111,112,101,110]⟩⟩,1,()),true,⟨r,e9,17,rfl,h,rfl,rfl⟩,λh=>(by cases h),λ_=>rfl⟩
  ·exact⟨(⟨⟨[98,105,110,100]⟩⟩,2,()),true,⟨r,e9,17,rfl,h,rfl,rfl⟩,λh=>(by cases h),λ_=>rfl⟩
  ·exact⟨(⟨⟨[115,101,110,100]⟩⟩,1,()),true,⟨r,e9,17,rfl,h,rfl,rfl⟩,λh=>(by cases h),λ_=>rfl⟩
  ·exact⟨(⟨⟨[112,111,108,108]⟩⟩,0,()),true,⟨r,e9,17,rfl,h,rfl,rfl⟩,λh=>(by cases h),λ_=>rfl⟩
  ·exact⟨(⟨⟨[99,108,111,115,101]⟩⟩,1,()),true,⟨r,e9,17,rfl,h,rfl,rfl⟩,λh=>(by cases h),λ_=>rfl⟩
  ·exact⟨(⟨⟨[115,119,101,101,112]⟩⟩,0,()),true,⟨r,e9,17,rfl,h,rfl,rfl⟩,λh=>(by cases h),λ_=>rfl⟩
 ·have d: ∀(l:List AM) (i:Nat),(∀e∈l, ∃j:Int,e.key=aa j/\j≠k)->DD (.int .i64) (aa k) l i=some none:=by
   intro l
   induction l with
   |nil=>intro i _;rfl
   |cons e l g=>
    intro i a;obtain⟨j,h1,m⟩:=a e DA;unfold DD;rw[h1];have:K1 (.int .i64) (aa k) (aa j)=some false:=by
     show(if B3=B3 then some (k==j) else none)=some false
     grind
    grind
  have f:DD (.int .i64) (aa k) e9.toList 0=some none:=d _ 0 λe a=>by
   have a:e∈[gL 1 ⟨⟨[99,114,101,97,116,101]⟩⟩ 0 0,gL 2 ⟨⟨[100,101,115,116,114,111,121]⟩⟩ 1 1,gL 3 ⟨⟨[100,111,110,97,116,101]⟩⟩ 2 2,gL 4 ⟨⟨[114,101,99,108,97,105,109]⟩⟩ 1 3,gL 5 ⟨⟨[112,114,111,116,101,99,116]⟩⟩ 2 4,gL 6 ⟨⟨[108,111,97,100]⟩⟩ 1 5,gL 7 ⟨⟨[115,116,111,114,101]⟩⟩ 2 6,gL 8 ⟨⟨[111,102,102,101,114]⟩⟩ 3 7,gL 9 ⟨⟨[116,97,107,101]⟩⟩ 3 8,gL 10 ⟨⟨[98,97,99,107]⟩⟩ 1 9,gL 11 ⟨⟨[114,101,118,111,107,101]⟩⟩ 1 10,gL 12 ⟨⟨[111,112,101,110]⟩⟩ 1 11,gL 13 ⟨⟨[98,105,110,100]⟩⟩ 2 12,gL 14 ⟨⟨[115,101,110,100]⟩⟩ 1 13,gL 15 ⟨⟨[112,111,108,108]⟩⟩ 0 14,gL 16 ⟨⟨[99,108,111,115,101]⟩⟩ 1 15,gL 17 ⟨⟨[115,119,101,101,112]⟩⟩ 0 16]:=a;simp only[Ep,List.not_mem_nil,or_false] at a;rcases a with rfl|rfl|rfl|rfl|rfl|rfl|rfl|rfl|rfl|rfl|rfl|rfl|rfl|rfl|rfl|rfl|rfl
   all_goals exact⟨_,rfl,by omega⟩
  refine⟨(⟨⟨[]⟩⟩,0,()),false,⟨r,e9,17,rfl,h,?_⟩,λ_=>ao c,λh=>by cases h⟩;rw[f];exact⟨rfl,rfl⟩
theorem RP (k:Int) (w:A1):aD A2 119 (.el (.one (.int .i64))) [aa k] w (λx w'=>x=jX k/\Ext w w'):=by
 refine ai (C:=H0) (aT:=λ_=>[]) (AL (RO k w _) ?_);refine L6 (cF.start [] w) λr d H=>?_;obtain⟨x,b,a,h0,h1⟩:=HT (H.get (i:=0) rfl) k;have H:=H.base;refine⟨x,b,a,aM.go H λe f H=>aC.all 0 H rfl rfl rfl λg H=>?_⟩;cases b with
 |false=>exact ay rfl (au.go H λc H=>⟨(h0 rfl).symm,H.all⟩)
 |true=>exact an rfl ⟨rfl,aj.cA 0 H rfl rfl (au.go H λc H=>⟨h1 rfl,H.all⟩)⟩
theorem VB (k:Int):ae A2 119 [aa k] w (aa (jX k)):=ae.of λw' _=>RP k w'
theorem RQ (k a b c:Int):ae A2 120 [.agg ⟨[aa k,az a,az b,az c]⟩] w (Sh.ia (.el (.agg [.int .u64,.int .u64,.int .u64])) (a,b,c,())):=by
 refine ae.of λw' _=>aQ (C:=H0) (aT:=λ_=>[]) (AL (L4 k a b c w' _) ?_);have H:=At.start [] w';refine aM.go H λd e H=>aM.go H λf g H=>⟨rfl,aj.cA 1 H rfl rfl ⟨rfl,aj.cA 1 H rfl rfl ⟨rfl,aj.cA 1 H rfl rfl (aC.all 0 H rfl rfl rfl λh H=>au.go H λi H=>aj.at 0 H rfl (rfl) ⟨rfl,H.all⟩)⟩⟩⟩
theorem L7 (k a b c:Int) (w:A1):aD A2 76 (.el (.one .bool)) [.agg ⟨[aa k,az a,az b,az c]⟩] w (λx w'=>x=fx k a b c/\Ext w w'):=by
 refine ai (C:=H0) (aT:=rh) (AL (L5 k a b c w _) ?_);have H:=At.start [] w;have s:jX k= -1\/0<=jX k:=by
  unfold jX;split
  ·rename_i h;right;have:k=1\/k=2\/k=3\/k=4\/k=5\/k=6\/k=7\/k=8\/k=9\/k=10\/k=11\/k=12\/k=13\/k=14\/k=15\/k=16\/k=17:=by omega
   rcases this with rfl|rfl|rfl|rfl|rfl|rfl|rfl|rfl|rfl|rfl|rfl|rfl|rfl|rfl|rfl|rfl|rfl<;>decide
  ·exact .inl rfl
 refine aM.go H λA B H=>⟨rfl,aj.cA 0 H rfl rfl ⟨_,VB k,ab (λd=>au.go H λl H=>⟨?_,H.all⟩) (λd=>aj.at 0 H rfl (show _=some (k,a,b,c,()) from rfl) ⟨(a,b,c,()),RQ k a b c,?_⟩)⟩⟩
 ·have d:jX k= -1:=by simpa using d
  unfold fx;rw[d];rfl
 have d: ¬ jX k= -1:=by simpa using d
 unfold fx;obtain⟨n,t⟩: ∃n,n=jX k:=⟨_,rfl⟩;rw[<-t] at d s ⊢;refine⟨λq v w'=> ∃i:Nat,v.1=(i:Int)/\q+i=3/\(0<i-> ¬ (n<=0/\a≠0))/\(1<i-> ¬ (n<=1/\b≠0))/\(2<i-> ¬ (n<=2/\c≠0))/\Ext w w',⟨3,λl o=>⟨0,rfl,rfl,λh=>by omega,λh=>by omega,λh=>by omega,(H.ext o).all⟩⟩,?_⟩;rintro q ⟨v,u⟩ l ⟨i,e,D,h1,y,o,hx⟩;dsimp only at e ⊢;subst e;refine ab (λm=>⟨⟨by omega,by simpa using m⟩,?_⟩) (λm=>λf g=>⟨?_,hx.trans g⟩)
 ·have hi:i<3:=by
   have:(i:Int)<3:=by simpa using m
   omega
  have z:(¬ (n<=(i:Int)/\KI [a,b,c] (i:Int)≠0))-> ∀f,Ext l f-> ∃p,p<q/\ ∃j:Nat,aH .i64 (i:Int) 1=(j:Int)/\p+j=3/\(0<j-> ¬ (n<=0/\a≠0))/\(1<j-> ¬ (n<=1/\b≠0))/\(2<j-> ¬ (n<=2/\c≠0))/\Ext w f:=λhs f g=>by
   refine⟨q - 1,by omega,i+1,by rw[av (by omega) (by omega)];omega,by omega,?_,?_,?_,hx.trans g⟩
   ·intro _;by_cases e:i=0
    ·subst e;exact hs
    ·exact h1 (by omega)
   ·intro _;by_cases e:i=1
    ·subst e;exact hs
    ·exact y (by omega)
   ·intro _;have e:i=2:=by omega
    subst e;exact hs
  refine ab (λd1=>λf g=>⟨?_,hx.trans g⟩) (λd1=>z ?_)
  ·have d1:n<=(i:Int)/\KI [a,b,c] (i:Int)≠0:=by
    simpa using d1
   have:i=0\/i=1\/i=2:=by omega
   symm;rw[Bool.eq_false_iff];intro r;simp only[DV,DQ,decide_eq_true_eq,beq_iff_eq] at r;obtain⟨_,E,F,G⟩:=r;rcases this with rfl|rfl|rfl
   ·have d2:n<=0/\a≠0:=d1;omega
   ·have d2:n<=1/\b≠0:=d1;omega
   ·have d2:n<=2/\c≠0:=d1;omega
  grind
 grind
theorem EN (k a b c:Int):ae A2 76 [.agg ⟨[aa k,az a,az b,az c]⟩] w (.bool (fx k a b c)):=ae.of λw' _=>L7 k a b c w'
theorem FG (k:Int) (w:A1):aD A2 77 (.el (.one .bool)) [aa k] w (λx w'=>x=tg k/\Ext w w'):=
 ai (AL (FF k w _) λw1 h1=>⟨rfl,h1⟩)
theorem HU (k:Int):ae A2 77 [aa k] w (.bool (tg k)):=ae.of λw' _=>FG k w'
end
end Go.Proofs.YtlcenllcmeebhaaGreat
namespace Go.RX
set_option maxRecDepth 100000
open Go.ChangeShapes Go.WideShapes Go.RowKit
variable {H:Type} {enc:Bf×AC->H} {P:Program} {w:A1} {base:Nat} {spare:Nat->Bool} {held:Bool}
def yY (P:Program) (g:Bf->Option (List Sc)):Nat->List Field->Option (List Sc)
 | _,[]=>some []
 |off,f::r=>match g f.type with
  |some a=>if f.offset=off/\P.cellsOf f.type=a.length then match yY P g (off+a.length) r with
    |some b=>some (a++b)
    |none=>none
   else none
  |none=>none
def rZ (P:Program):Nat->Bf->Option (List Sc)
 |0, _=>none
 |d+1,t=>match P.underlying t with
  |some (.int k)=>some [.int k]
  |some .bool=>some [.bool]
  |some (.struct fs)=>match yY P (rZ P d) 0 fs.toList with
   |some a=>if P.cellsOf t=a.length then some a else none
   |none=>none
  |some (.array n e)=>match rZ P d e with
   |some a=>if P.cellsOf e=a.length/\P.cellsOf t=n*a.length then some (B4 n a).flatten else none
   |none=>none
  | _=>none
def acD:(s:Sc)->s.T->Prop
 | .int k,x=>(Lit.int k x).wf=true
 | _, _=>True
def lz:(l:List Sc)->jq l->Prop
 |[], _=>True
 |s::r,x=>acD s x.1/\lz r x.2
theorem sy: ∀(a b:List Sc) (x:jq a) (y:jq b),lz a x->lz b y-> ∃z:jq (a++b),bh (a++b) z=bh a x++bh b y/\lz (a++b) z
 |[],b, _,y, _,c=>⟨y,rfl,c⟩
 |s::r,b,x,y,hx,c=>by
  obtain⟨z,h1,d⟩:=sy r b x.2 y hx.2 c;exact⟨(x.1,z),by simp only[In,bh,h1],hx.1,d⟩
theorem JD {g:Bf->Option (List Sc)} {m:Nat} (hg: ∀t ss cs y,g t=some ss->DataW.trod enc P w base spare held m t cs=some y-> ∃x:jq ss,cs=bh ss x/\lz ss x)
 {cs:List AC} {fs:Array Field} {xs:List (DataW H×List MemPlace)} (e:xs.length=fs.size)
 (j: ∀(i:Nat) (f:Field),fs[i]? =some f->DataW.trod enc P w base spare held m f.type ((cs.drop f.offset).take (P.cellsOf f.type))=xs[i]?):
 ∀(l:List Field) (i off:Nat) (ss:List Sc),fs.toList.drop i=l->yY P g off l=some ss->cs.length=off+ss.length-> ∃x:jq ss,cs.drop off=bh ss x/\lz ss x
 |[],i,off,ss, _,h,d=>by
  simp only[yY,Option.some.injEq] at h;subst h;refine⟨(),?_,trivial⟩;rw[Ga (by simp at d;omega)];rfl
 |f::r,i,off,ss,c,h,d=>by
  simp only[yY] at h;split at h
  ·rename_i a n;split at h
   ·rename_i hc;split at h
    ·rename_i b hb;cases h;have hi:i<fs.toList.length:=by
      apply Nat.lt_of_not_le;intro o;rw[Ga o] at c;cases c
     have p:fs[i]? =some f:=by
      have:=congrArg (·[0]?) c;simp only[List.getElem?_drop,Gt,List.getElem?_cons_zero] at this;simpa using this
     have k:=j i f p;have q: ∃y,xs[i]? =some y:=⟨_,Ax (by rw[e];simpa using hi)⟩;obtain⟨y,s⟩:=q;rw[s,hc.1,hc.2] at k;obtain⟨x,v,A⟩:=hg _ _ _ _ n k;have B:fs.toList.drop (i+1)=r:=by
      have:=congrArg (List.drop 1) c;simpa[Gc] using this
     obtain⟨z,C,D⟩:=JD hg e j r (i+1) (off+a.length) b B hb (by rw[d];simp;omega);obtain⟨u,E,F⟩:=sy a b x z A D;refine⟨u,?_,F⟩;rw[E, <-v, <-C, <-Gc];exact(FS _ _).symm
    ·cases h
   ·cases h
  ·cases h
theorem BE {a:List Sc} {cs:List AC}: ∀(n off:Nat),(∀i,i<n-> ∃x:jq a,(cs.drop (off+i*a.length)).take a.length=bh a x/\lz a x)->cs.length=off+n*a.length->
 ∃x:jq (B4 n a).flatten,cs.drop off=bh _ x/\lz _ x
 |0,off, _,b=>by
  refine⟨(),?_,trivial⟩;rw[Ga (by omega)];rfl
 |n+1,off,h,b=>by
  obtain⟨x,c,d⟩:=h 0 (by omega);obtain⟨z,e,f⟩:=BE (a:=a) (cs:=cs) n (off+a.length) (λi hi=>by
   have:=h (i+1) (by omega);rw[show off+(i+1)*a.length=off+a.length+i*a.length by rw[F7];omega] at this;exact this) (by rw[b,F7];omega)
  obtain⟨u,g,j⟩:=sy a (B4 n a).flatten x z d f;refine⟨u,?_,j⟩;show _=bh (a++(B4 n a).flatten) u;rw[g, <-c, <-e,Gi,Gt, <-Gc];exact(FS _ _).symm
theorem qu: ∀(d m:Nat) (t:Bf) (ss:List Sc) (cs:List AC) (y:DataW H×List MemPlace),rZ P d t=some ss->DataW.trod enc P w base spare held m t cs=some y-> ∃x:jq ss,cs=bh ss x/\lz ss x
 |0, _, _, _, _, _,h, _=>by simp[rZ] at h
 |d+1,m,t,ss,cs,y,h,g=>by
  simp only[rZ] at h;split at h
  ·rename_i k c;cases h;obtain⟨n,rfl, _,r⟩:=DataW.trod_int c g;exact⟨(n,()),rfl,r,trivial⟩
  ·rename_i c;cases h;obtain⟨b,rfl, _⟩:=DataW.trod_bool c g;exact⟨(b,()),rfl,trivial,trivial⟩
  ·rename_i fs c;split at h
   ·rename_i a j;split at h
    ·rename_i hc;cases h;obtain⟨xs,n, _, _,l,p,o⟩:=DataW.trod_struct c g;obtain⟨x,h1,f⟩:=JD (λt ss cs y h1 f=>qu d n t ss cs y h1 f) p o fs.toList 0 0 _ rfl j (by rw[l,hc];omega);exact⟨x,by simpa using h1,f⟩
    ·cases h
   ·cases h
  ·rename_i n e c;split at h
   ·rename_i a j;split at h
    ·rename_i hc;cases h;obtain⟨xs,k, _, _,l,p,o⟩:=DataW.trod_array c g;obtain⟨x,h1,f⟩:=BE (a:=a) (cs:=cs) n 0 (λi hi=>by
      have q:=o i hi;have s:xs[i]? =some xs[i]:=Ax (by omega);rw[s,hc.1] at q;rw[B5];exact qu d k e a _ _ j q) (by rw[l,hc.2];omega)
     exact⟨x,by simpa using h1,f⟩
    ·cases h
   ·cases h
  ·cases h
theorem L8 {r:Reach} {b0:Nat} {t:Bf} {v:AC} {a:DataW H} {ps:List MemPlace} (d:Nat) {ss:List Sc} (b:rZ P d t=some ss) (c:(∃n e,P.underlying t=some (.array n e))\/ ∃fs,P.underlying t=some (.struct fs))
 (hv:Value.okWide P w r b0 t v) (h:DataW.Trod enc P w base spare held t v a ps): ∃x:jq ss,v= .agg ⟨bh ss x⟩/\lz ss x:=by
 obtain⟨i,f⟩:=h;have hc: ∃cs,v= .agg cs:=by
  unfold Value.okWide at hv;rcases c with ⟨n,e,h⟩|⟨fs,h⟩<;>(rw[h] at hv;obtain⟨cs,eA, _⟩:=hv;exact⟨cs,eA⟩)
 obtain⟨cs,rfl⟩:=hc;obtain⟨x,h1,g⟩:=qu d _ _ _ _ _ b f;refine⟨x,?_,g⟩;have:cs.toList=bh ss x:=h1;rw[<-this]
theorem xF {t e:Bf} {a:Option AB} {n c:Nat} {o:DataW H} {ps:List MemPlace} (d:Nat) {ss:List Sc} (p:P.underlying t=some (.slice e)) (q:rZ P d e=some ss) (hc:P.cellsOf e=ss.length)
 (h:DataW.Trod enc P w base spare held t (.slice a n c) o ps): ∃xs:List (jq ss),n=xs.length/\n<=maxLen/\Sl w (.agg ss) a xs/\ ∀x∈xs,lz ss x:=by
 obtain⟨E,r⟩:=h;rcases Deep.open_slice p r with ⟨eA, _⟩|⟨x,len,cap,m,k,D,F,eA, _,G,I,s, _,hx⟩
 ·simp[Value.cells] at eA;obtain⟨rfl,rfl,rfl⟩:=eA;exact⟨[],rfl,F5 _,λi x hx=>by simp at hx,λx hx=>by simp at hx⟩
 ·simp[Value.cells] at eA;obtain⟨rfl,rfl,rfl⟩:=eA;have J:n<=m:=by rw[s];split<;>omega
  have u: ∀i,i<n-> ∃y:jq ss,(∀j,j<ss.length->w.cell? ((x.add (i*ss.length)).add j)=(bh ss y)[j]?)/\lz ss y:=by
   intro i hi;obtain⟨K,h1,g⟩:=hx i (by omega);obtain⟨y,v,A⟩:=qu d _ _ _ _ _ q g;obtain⟨_,B,pj⟩:=World.cells?_some h1;rw[hc] at h1 B pj;refine⟨y,λj l=>?_,A⟩;rw[<-v];exact pj j l
  have: ∀k,k<=n-> ∃xs:List (jq ss),xs.length=k/\(∀i y,xs[i]? =some y->(∀j,j<ss.length->w.cell? ((x.add (i*ss.length)).add j)=(bh ss y)[j]?)/\lz ss y):=by
   intro k
   induction k with
   |zero=>intro _;exact⟨[],rfl,λi y b=>by simp at b⟩
   |succ k C=>
    intro L;obtain⟨xs,h1,g⟩:=C (by omega);obtain⟨y,b⟩:=u k (by omega);refine⟨xs++[y],by simp[h1],λi z f=>?_⟩;by_cases hi:i<xs.length
    ·rw[HB hi] at f;exact g i z f
    ·rw[GJ (by omega)] at f;have:i - xs.length=0:=by
      have:=(B1.1 f).1;simp at this;omega
     rw[this] at f;simp at f;subst f;rw[show i=k by omega];exact b
  obtain⟨xs,h1,g⟩:=this n (DB n);refine⟨xs,h1.symm,by omega,λi y b=>⟨rfl,x.add (i*ss.length),rfl,λj l=>(g i y b).1 j l⟩,λy b=>?_⟩;obtain⟨i,hi⟩:=F2 b;exact(g i y hi).2
end Go.RX
namespace Go.Proofs.YtlcenllcmeebhaaGreat
set_option maxRecDepth 100000
open Go.RX
section
variable {w0 w:A1} {L:List (Nat×List AC)}
def lW (ws:List Int) (f p t:Int):Nat->Int×Int×FT
 |0=>(f,3,(0,0,0,0,()))
 |k+1=>bF ws p t (lW ws f p t k)
def nC (ws:List Int) (f p t:Int):FT:=if u_ f p t then(0,0,0,1,()) else(lW ws f p t 4).2.2
theorem BF {ws:List Int} {p t:Int} {x:Int×Int×FT} (h:x.2.1= -1):bF ws p t x=x:=aw h
theorem JE {fr pg wt lv:Int} {fd:FT} {ep:Bool} {er:Int} {el:Bool} {ef:Int} (a:0<=lv/\lv<=3):(tookS fr pg wt lv fd ep er el ef).2.1= -1\/((tookS fr pg wt lv fd ep er el ef).2.1=lv - 1/\0<lv):=by
 unfold tookS;split
 ·exact .inl rfl
 ·split
  ·rename_i h;rw[DV,decide_eq_true_eq] at h;exact .inr ⟨bC (by omega) (by omega),by omega⟩
  ·split
   ·exact .inl rfl
   ·split<;>exact .inl rfl
theorem XT (ws:List Int) (f p t:Int): ∀k:Nat,(lW ws f p t k).2.1= -1\/((lW ws f p t k).2.1=3 - (k:Int)/\k<=3)
 |0=> .inr ⟨rfl,by decide⟩
 |k+1=>by
  rcases XT ws f p t k with h|⟨h,a⟩
  ·left;show(bF ws p t (lW ws f p t k)).2.1= -1;rw[BF h];exact h
  ·show(bF ws p t (lW ws f p t k)).2.1= -1\/((bF ws p t (lW ws f p t k)).2.1=3 - ((k+1:Nat):Int)/\k+1<=3);generalize lW ws f p t k=x at h;unfold bF;rw[ao (by omega)];split
   ·exact .inl rfl
   ·rcases JE (fr:=x.1) (pg:=p) (wt:=t) (lv:=x.2.1) (fd:=x.2.2) (by omega) with e|⟨e,b⟩
    ·exact .inl (e ..)
    ·exact .inr ⟨by rw[e];omega,by omega⟩
theorem xU {ws:List Int} {f p t:Int} {k:Nat} (h:(lW ws f p t k).2.1= -1): ∀j,lW ws f p t (k+j)=lW ws f p t k
 |0=>rfl
 |j+1=>by
  show bF ws p t (lW ws f p t (k+j))= _;rw[xU h j,BF h]
end
theorem set_perm {α:Type} (a:α): ∀(L:List α) (j:Nat),j<L.length->(L.set j a).Perm (a::L.eraseIdx j)
 |[], _,h=>by simp at h
 |x::L,0, _=>by simp
 |x::L,j+1,h=>by
  rw[List.set_cons_succ,List.eraseIdx_cons_succ];exact((set_perm a L j (by simpa using h)).cons x).trans (.swap a x _)
theorem PK {α:Type} {L:List α} {j:Nat} {a:α} (b:L[j]? =some a):L.set j a=L:=by
 apply DZ;intro n;by_cases e:j=n
 ·subst e;rw[DI (B1.1 b).1,b]
 ·rw[DY e]
theorem Z' {α:Type} {L:List α} {j c:Nat} {a b:α} (d:L[j]? =some a) (hb:L[c]? =some b) (h:j≠c): ∃f,L.Perm (a::b::f)/\ ∀a',(L.set j a').Perm (a'::b::f):=by
 have g:j<L.length:=(B1.1 d).1;have k:b∈L.eraseIdx j:=by
  rw[List.mem_eraseIdx_iff_getElem?];exact⟨c,λe=>h e.symm,hb⟩
 obtain⟨i,hi⟩:=F2 k;have l:i<(L.eraseIdx j).length:=(B1.1 hi).1;have p2:(L.eraseIdx j).Perm (b::(L.eraseIdx j).eraseIdx i):=by
  have:=set_perm b (L.eraseIdx j) i l;rwa[PK hi] at this
 refine⟨(L.eraseIdx j).eraseIdx i,?_,λa'=>(set_perm a' L j g).trans (p2.cons a')⟩;have:=(set_perm a L j g).trans (p2.cons a);rwa[PK d] at this
section
variable {w0 w:A1} {L:List (Nat×List AC)}
end
end Go.Proofs.YtlcenllcmeebhaaGreat
namespace Go.Proofs.YtlcenllcmeebhaaGreat.D
set_option maxRecDepth 100000
open Go.RX
noncomputable def D0:dM A2:={C3 with vN:=true}
theorem RR (a:Int) (w:A1) (k:Option AB×Nat×Nat->A1->Prop):(aJ D0 (λ_=>[]) 246 [aa a] w k)=(
 ∀w1,Ext w w1->aM (w1.alloc (Obj.map ⟨[]⟩ 0)) ⟨[aa 1,aa 2,aa 3,aa 4]⟩ 3 λb c=> ∀e,Ext c e-> ∃(r:Nat), ∃(es:Array AM), ∃(d:Nat),some w1.heap.size=some r/\bH e r es d/\ib e r .i64 0 (.slice (af b) 4 4) es d λc=>aM c ⟨[aa 0,aa 2,aa 3,aa 4]⟩ 3 λb c=> ∀f,Ext c f-> ∃(r:Nat), ∃(es:Array AM), ∃(d:Nat),some w1.heap.size=some r/\bH f r es d/\ib f r .i64 1 (.slice (af b) 4 4) es d λc=>aM c ⟨[aa 5,.int
 .i64 0]⟩ 3 λb c=> ∀g,Ext c g-> ∃(r:Nat), ∃(es:Array AM), ∃(d:Nat),some w1.heap.size=some r/\bH g r es d/\ib g r .i64 2 (.slice (af b) 2 2) es d λc=>aM c ⟨[aa 5,aa 0]⟩ 3 λb c=> ∀h,Ext c h-> ∃(r:Nat), ∃(es:Array AM), ∃(d:Nat),some w1.heap.size=some r/\bH h r es d/\ib h r .i64 3 (.slice (af b) 2 2) es d λc=>aM c ⟨[aa 5,aa 0,aa 4]⟩ 3 λb c=> ∀i,Ext c i-> ∃(r:Nat), ∃(es:Array AM), ∃(d:Nat),some
 w1.heap.size=some r/\bH i r es d/\ib i r .i64 4 (.slice (af b) 3 3) es d λc=>aM c ⟨[aa 0]⟩ 3 λb c=> ∀j,Ext c j-> ∃(r:Nat), ∃(es:Array AM), ∃(d:Nat),some w1.heap.size=some r/\bH j r es d/\ib j r .i64 5 (.slice (af b) 1 1) es d λc=> ∃(x:Option AB×Nat×Nat),jV c (some w1.heap.size) .i64 a (.slice none 0 0) (.slice x.1 x.2.1 x.2.2)/\au c (k (x.1,x.2.1,x.2.2))):=by kernel_rfl
def zX:Nat->a6:=(λ|2=>[(10,Go.RX.El.one (Go.RX.Sc.int B3))]| _=>[])
theorem aaa (a b:Int) (w:A1) (Post:Bool->A1->Prop):(aJ D0 zX 234 [aa a,aa b] w Post)=(
 aA A2 246 (.el (.one .slice)) [aa a] w λx f=> ∀(c:Int),c=(↑x.2.1:Int)-> ∃(I:Nat->Int×Unit->A1->Prop),(∃n, ∀w1,Ext f w1->I n (0,()) w1)/\ ∀(n:Nat) (s:Int×Unit) (w1:A1),I n s w1->aI (decide (s.1<c)) ((x.1.isSome=true/\0<=s.1/\s.1<(↑x.2.1:Int))/\aj w1 none (ad x.1 (Int.toNat s.1*1)) (.one (.int .i64)) λ(x:Int)=>aI (x==b) (au w1 λw1=>Post true w1) (∀(x:Int),x=aH .i64 s.1 1-> ∀d,Ext w1 d-> ∃(e:Nat),e<n/\I e (x,()) d)) (au w1 λw1=>Post false w1)):=by
 kernel_rfl
theorem xR {w:A1} {r:Nat} {k:IntKind} {n:Int} {val:AC} {es:Array AM} {a:Nat} {K:A1->Prop} (h:DD (.int k) (.int k n) es.toList 0=some none)
 (b:K (w.putObj r (.map (es.push {key:= .int k n,val,born:=a}) (a+1)))):ib w r k n val es a K:=by grind[ib]
theorem m7 {w0 a d:A1} {r:Nat} {es:Array AM} {b:Nat} {l:List AC} {t:Bf} {n:Int} {bs:List (Nat×List AC)} {val:AC} {K:A1->Prop}
 (m:Ext w0 a) (o:w0.heap.size<=r) (p:bH a r es b) (hb: ∀x∈bs,bN a x.1 x.2/\x.1≠r) (f:Ext (a.alloc (.cells ⟨l⟩ t)) d)
 (q:DD (.int .i64) (aa n) es.toList 0=some none)
 (k: ∀c,Ext w0 c->bH c r (es.push {key:=aa n,val,born:=b}) (b+1)->(∀x∈(a.heap.size,l)::bs,bN c x.1 x.2/\x.1≠r)->K c):
 ∃r' g h,some r=some r'/\bH d r' g h/\ib d r' .i64 n val g h K:=by
 have i:=p;have s:=(Array.getElem?_eq_some_iff.1 i).1;have e:=(Ext.alloc a _).trans f;have j:=e.obj i;refine⟨r,es,b,rfl,j,xR q (k _ ((m.trans e).putObj o _) ?_ ?_)⟩
 ·exact j8 (Array.getElem?_eq_some_iff.1 j).1
 ·intro x hx;rcases Ep.1 hx with rfl|hx
  ·have:a.heap.size≠r:=by omega
   exact⟨((bN.new a l t).ext f).putObj this _,this⟩
  ·exact⟨((hb x hx).1.ext e).putObj (hb x hx).2 _,(hb x hx).2⟩
def gx (a:Int):List Int:=if a=0 then[1,2,3,4] else if a=1 then[0,2,3,4] else if a=2 then[5,0] else if a=3 then[5,0] else if a=4 then[5,0,4] else if a=5 then[0] else[]
theorem RU (a:Int) (w:A1):aD A2 246 (.el (.one .slice)) [aa a] w (λr w'=>Sl w' eI r.1 (gx a)/\r.2.1=(gx a).length/\Ext w w'):=by
 refine ai (C:=D0) (aT:=λ_=>[]) (AL (RR a w _) ?_);intro w1 h1 g o V A;have m0:bH g w1.heap.size #[] 0:=o.obj (fG w1 _);have step: ∀{W:A1} {bs:List (Nat×List AC)} {r:Nat},(∀x∈bs,bN W x.1 x.2/\x.1≠r)-> ∀{p:A1},Ext W p-> ∀x∈bs,bN p x.1 x.2/\x.1≠r:=
  λh _ e x hx=>⟨(h x hx).1.ext e,(h x hx).2⟩
 refine m7 (bs:=[]) ((h1.jd _).trans o) h1.size m0 (λx hx=>by cases hx) A rfl λX E0 M0 B0 q j Y B=>?_;refine m7 (E0.trans j) h1.size (j.obj M0) (step B0 j) B rfl λZ E1 M1 D s k w7 E=>?_;refine m7 (E1.trans k) h1.size (k.obj M1) (step D k) E rfl λW2 E2 M2 F t l w9 G=>?_;refine m7 (E2.trans l) h1.size (l.obj M2) (step F l) G rfl λW3 E3 M3 H u m nv I=>?_;refine m7 (E3.trans m) h1.size (m.obj M3) (step H m) I rfl λW4 J K L v n Om M=>?_;refine m7 (J.trans n) h1.size (n.obj K) (step L n) M rfl λd N b c=>?_;have b0:=(c (g.heap.size,[aa 1,aa 2,aa 3,aa 4]) (by simp)).1;have O:=(c (q.heap.size,[aa 0,aa 2,aa 3,aa 4]) (by simp)).1;have P:=(c (s.heap.size,[aa 5,aa 0]) (by simp)).1;have Q:=(c (t.heap.size,[aa 5,aa 0]) (by simp)).1;have R:=(c (u.heap.size,[aa 5,aa 0,aa 4]) (by simp)).1;have S:=(c (v.heap.size,[aa 0]) (by simp)).1;have fin: ∀(x:Option AB×Nat×Nat),jV d (some w1.heap.size) .i64 a (.slice none 0 0) (.slice x.1 x.2.1 x.2.2)->Sl d eI x.1 (gx a)->x.2.1=(gx a).length->
  ∃x:Option AB×Nat×Nat,jV d (some w1.heap.size) .i64 a (.slice none 0 0) (.slice x.1 x.2.1 x.2.2)/\ ∀f,Ext d f->Sl f eI (x.1,x.2.1,x.2.2).1 (gx a)/\(x.1,x.2.1,x.2.2).2.1=(gx a).length/\Ext w f:=
  λx T hs U=>⟨x,T,λf y=>⟨hs.ext y,U,N.trans y⟩⟩
 by_cases c0:a=0
 ·subst c0;exact fin (some ⟨g.heap.size,0,none⟩,4,4) ⟨_, _, _,rfl,b,rfl⟩ (Sl.jK b0 rfl) rfl
 by_cases c1:a=1
 ·subst c1;exact fin (some ⟨q.heap.size,0,none⟩,4,4) ⟨_, _, _,rfl,b,rfl⟩ (Sl.jK O rfl) rfl
 by_cases c2:a=2
 ·subst c2;exact fin (some ⟨s.heap.size,0,none⟩,2,2) ⟨_, _, _,rfl,b,rfl⟩ (Sl.jK P rfl) rfl
 by_cases c3:a=3
 ·subst c3;exact fin (some ⟨t.heap.size,0,none⟩,2,2) ⟨_, _, _,rfl,b,rfl⟩ (Sl.jK Q rfl) rfl
 by_cases c4:a=4
 ·subst c4;exact fin (some ⟨u.heap.size,0,none⟩,3,3) ⟨_, _, _,rfl,b,rfl⟩ (Sl.jK R rfl) rfl
 by_cases c5:a=5
 ·subst c5;exact fin (some ⟨v.heap.size,0,none⟩,1,1) ⟨_, _, _,rfl,b,rfl⟩ (Sl.jK S rfl) rfl
 have z:gx a=[]:=by
  unfold gx;rw[ao c0,ao c1,ao c2,ao c3,ao c4,ao c5]
 refine fin (none,0,0) ⟨_, _, _,rfl,b,?_⟩ (by rw[z];intro i x hx;simp at hx) (by rw[z];rfl);have d0:(a==0)=false:=by simp[c0]
 have d1:(a==1)=false:=by simp[c1]
 have d2:(a==2)=false:=by simp[c2]
 have d3:(a==3)=false:=by simp[c3]
 have d4:(a==4)=false:=by simp[c4]
 have d5:(a==5)=false:=by simp[c5]
 simp only[Array.toList_push,List.nil_append,In,DD,K1,if_true,B5,d0,d1,d2,d3,d4,d5]
theorem L9 (a:Int):(gx a).length<=4:=by grind[gx]
theorem aab (a b:Int) (w:A1):aD A2 234 (.el (.one .bool)) [aa a,aa b] w (λx w'=>x=decide (b∈gx a)/\Ext w w'):=by
 refine ai (C:=D0) (aT:=zX) (AL (aaa a b w _) ?_);intro w1 h1;refine(RU a w1).mono ?_;rintro⟨p,n,c⟩ o ⟨hs,q,f⟩ x1 g;dsimp only at g q hs;subst g;have A:=L9 a;refine⟨λk s w'=>Ext o w'/\ ∃i:Nat,s.1=i/\k+i=n/\ ∀j,j<i->(gx a)[j]? ≠some b,⟨n,λt d=>⟨d,0,rfl,rfl,λj l=>absurd l (by omega)⟩⟩,?_⟩;rintro k ⟨B,u⟩ t ⟨d,i,hi,D,l⟩;simp only at hi;subst hi;dsimp only;refine ab (λh=>?_) (λh=>λm e=>⟨?_,((h1.trans f).trans d).trans e⟩)
 ·simp only[decide_eq_true_eq] at h;have v:i<(gx a).length:=by omega
  have r:=(hs.ext d) i _ (Ax v);refine⟨⟨r.1,by omega,by omega⟩, _,r.2,ab (λy m e=>⟨?_,((h1.trans f).trans d).trans e⟩) (λy x z m e=>⟨k - 1,by omega,d.trans e,i+1,by rw[z,av (by omega) (by omega)];rfl,by omega,?_⟩)⟩
  grind
  grind
 ·grind[decide_eq_false_iff_not,gx,F2]
noncomputable def Zk:Entry A2 where
 f:=234
 fn l:=match l with
  |[.int .i64 a,.int .i64 b]=>some (True,.bool (decide (b∈gx a)))
  | _=>none
 ok args pre v h c w:=by
  split at h
  ·rename_i a b;cases h;exact bW (aab a b w)
  ·cases h
noncomputable def D1:dM A2:={D0 with sM:=[tA,vO,Gn,Gp,Zk]}
abbrev wD (c:Bool->A1->Prop) (a:A1) (b:Nat):Prop:=
 aj a none (af b) dV λ(x:Int×Int×Int×Int×Unit)=>true=true/\aW a (ad (af b) 0) λd=>au a λw1=>c (x.1==d&&(x.2.1==0&&(x.2.2.1==0&&(x.2.2.2.1==0&&true)))) w1
abbrev wE (c:Bool->A1->Prop) (a:A1) (b:Nat):Prop:=
 true=true/\aW a (ad (af b) 1) λx=>(decide (x>0)=true->true=true)/\aj a (some (decide (x>0))) (ad (af b) 3) aV λ(d:Int)=>au a (c (decide (x>0)&&d==0))
abbrev wF (b:Bool->A1->Prop) (c:Int) (a:A1) (d:Nat):Prop:=
 aI (c==5) (true=true/\aW a (ad (af d) 2) λx=>au a (b (x==0))) (au a (b false))
abbrev wG (d:Bool->A1->Prop) (b:Int) (a:A1) (c:Nat):Prop:=
 aI (b==2) (true=true/\aW a (ad (af c) 1) λx=>((x==0)=true->true=true)/\aj a (some (x==0)) (ad (af c) 3) aV λ(e:Int)=>au a (d (x==0&&e==0))) (aI (b==3) (aI (b==3) (wE d a c) (wF d b a c)) (aI (b==4) (wE d a c) (wF d b a c)))
theorem zk (k o r e:Int) (w:A1) (f:Bool->A1->Prop):(aJ D1 (λ_=>[]) 233 [.agg ⟨[aa k,aa o,aa r,aa e]⟩] w f)=(
 aM w ⟨[aa k,aa o,aa r,aa e]⟩ 52 λb a=>true=true/\aW a (ad (af b) 1) λx=>((!decide (x<0))=true->true=true)/\aj a (some !decide (x<0)) (ad (af b) 1) aV λ(c:Int)=>((!(decide (x<0)||decide (c>16)))=true->true=true)/\aj a (some !(decide (x<0)||decide (c>16))) (ad (af b) 2) aV λ(d:Int)=>((!(decide (x<0)||decide (c>16)||decide (d<0)))=true->true=true)/\aj a (some !(decide (x<0)||decide (c>16)||decide (d<0))) (ad (af b) 2) aV λ(g:Int)=>
 ((!(decide (x<0)||decide (c>16)||decide (d<0)||decide (g>65535)))=true->true=true)/\aj a (some !(decide (x<0)||decide (c>16)||decide (d<0)||decide (g>65535))) (ad (af b) 3) aV λ(h:Int)=>((!(decide (x<0)||decide (c>16)||decide (d<0)||decide (g>65535)||decide (h<0)))=true->true=true)/\aj a (some !(decide (x<0)||decide (c>16)||decide (d<0)||decide (g>65535)||decide (h<0))) (ad (af b) 3) aV λ(i:Int)=>aI (decide (x<0)||decide (c>16)||decide (d<0)||
 decide (g>65535)||decide (h<0)||decide (i>4294967295)) (au a (f false)) (true=true/\aW a (ad (af b) 0) λx=>aI (x==0) (aI (x==0) (wD f a b) (wG f x a b)) (aI (x==1) (wD f a b) (wG f x a b)))):=by kernel_rfl
def jL (k o r e:Int):Prop:=(0<=o/\o<=16/\0<=r/\r<=65535/\0<=e/\e<=4294967295)/\(((k=0\/k=1)/\o=0/\r=0/\e=0)\/(k=2/\o=0/\e=0)\/((k=3\/k=4)/\0<o/\e=0)\/(k=5/\r=0))
instance (k o r e:Int):Decidable (jL k o r e):=by unfold jL;infer_instance
def dY (k o r e:Int):Bool:=decide (jL k o r e)
theorem L_ {k o r e:Int} {b:Bool} (h:b=true<->jL k o r e):b=dY k o r e:=by
 unfold dY;rw[KC,decide_eq_true_eq];exact h
theorem zl (k o r e:Int) (w:A1):aD A2 233 (.el (.one .bool)) [.agg ⟨[aa k,aa o,aa r,aa e]⟩] w (λb w'=>b=dY k o r e/\Ext w w'):=by
 refine ai (C:=D1) (aT:=λ_=>[]) (AL (zk k o r e w _) ?_);have H:=At.start [] w
 repeat' (first
  |exact Go.RX.aK.all H
  |exact Ay (by first|rfl|decide+kernel) (Go.RX.aK.all H)
  |refine Ay (by first|exact rfl|exact trivial|exact λ_=>rfl|exact λ_=>trivial|exact⟨rfl,by decide,by decide⟩|exact⟨by decide,by decide⟩|decide+kernel|exact λ_=>by decide|exact λ_=>⟨rfl,by decide,by decide⟩|(dsimp only[GH,GI];exact⟨rfl,by decide,by decide⟩)) ?_
  |refine aj.cA 0 H rfl rfl ?_
  |refine aj.at 0 H rfl rfl ?_
  |refine aM.go H λb w1 H=>?_
  |refine aC.all 0 H rfl rfl rfl λw1 H=>?_
  |refine aC.gJ 0 H rfl rfl rfl λw1 H=>?_
  |refine aC.one 0 H rfl rfl rfl λw1 H=>?_
  |with_reducible refine au.go H λw1 H=>?_
  |refine km ?_
  |refine ay (by assumption) ?_
  |refine an (by assumption) ?_
  |refine ab (λc=>?_) (λc=>?_))
 all_goals
  refine Ay (L_ ?_) H.all;simp only[DQ,Do,DV,Gw,beq_iff_eq,beq_eq_false_iff_ne,bne_iff_ne,bne_eq_false_iff_eq,decide_eq_true_eq,decide_eq_false_iff_not,H4,H5,E4,H6,and_true,true_and,and_false,false_and,or_true,true_or,or_false,false_or,ne_eq,not_true_eq_false,not_false_eq_true,false_iff,iff_false,true_iff,iff_true] at*
  unfold jL;omega
noncomputable def vg:Entry A2 where
 f:=233
 fn l:=match l with
  |[.agg ⟨[.int .i64 k,.int .i64 o,.int .i64 r,.int .i64 e]⟩]=>some (True,.bool (dY k o r e))
  | _=>none
 ok args pre v h a w:=by
  split at h
  ·rename_i k o r e;cases h;exact bW (zl k o r e w)
  ·cases h
noncomputable def D2:dM A2:={D0 with sM:=[tA,vO,Gn,Gp,Zk,vg]}
abbrev zY (d:(Int×Int×Int×Int×Unit)×Int×Unit->A1->Prop) (a:A1) (e:Nat) (b:Nat):Prop:=
 aj a none (af e) dV λ(x:Int×Int×Int×Int×Unit)=>True/\aI (!dY x.1 x.2.1 x.2.2.1 x.2.2.2.1) (aC a (af b) [aa 0,aa 0,aa 0,aa 0] λc=>au c λw1=>aj w1 none (af b) dV λ(x:Int×Int×Int×Int×Unit)=>d ((x.1,x.2.1,x.2.2.1,x.2.2.2.1,()),1,()) w1) (aj a none (af e) dV λ(x:Int×Int×Int×Int×Unit)=>aC a (af b) [aa x.1,aa x.2.1,aa x.2.2.1,aa x.2.2.2.1] λc=>au c λw1=>aj w1 none (af b) dV λ(x:Int×Int×Int×Int×
 Unit)=>d ((x.1,x.2.1,x.2.2.1,x.2.2.2.1,()),0,()) w1)
theorem VC (k o r e x y:Int) (w:A1) (d:(Int×Int×Int×Int×Unit)×Int×Unit->A1->Prop):(bT D2 (λ_=>[]) 192 [.agg ⟨[aa k,aa o,aa r,aa e]⟩,aa x,aa y] w d)=(
 aM w ⟨[aa k,aa o,aa r,aa e]⟩ 52 λb a=>aM a ⟨[aa 0,aa 0,aa 0,aa 0]⟩ 52 λc a=>aj a none (af b) dV λ(f:Int×Int×Int×Int×Unit)=>True/\aI (!dY f.1 f.2.1 f.2.2.1 f.2.2.2.1) (aC a (af c) [aa 0,aa 0,aa 0,aa 0] λa=>au a λw1=>aj w1 none (af c) dV λ(x:Int×Int×Int×Int×Unit)=>d ((x.1,x.2.1,x.2.2.1,x.2.2.2.1,()),11,()) w1) (true=true/\aW a (ad (af b) 2) λg=>aI (decide (g>0)) (aC a
 (af c) [aa 0,aa 0,aa 0,aa 0] λa=>au a λw1=>aj w1 none (af c) dV λ(x:Int×Int×Int×Int×Unit)=>d ((x.1,x.2.1,x.2.2.1,x.2.2.2.1,()),9,()) w1) (true=true/\aW a (ad (af b) 0) λh=>True/\aI (!decide (x∈gx h)) (aC a (af c) [aa 0,aa 0,aa 0,aa 0] λa=>au a λw1=>aj w1 none (af c) dV λ(x:Int×Int×Int×Int×Unit)=>d ((x.1,x.2.1,x.2.2.1,x.2.2.2.1,()),6,()) w1) (aI (x==5) (true=true/\aW a (ad (af
 b) 1) λi=>aM a ⟨[aa 0,aa 0,aa 0,aa 0]⟩ 52 λb a=>aC a (af b) [aa x,aa i,aa 0,aa 0] λa=>zY d a b c) (aM a ⟨[aa 0,aa 0,aa 0,aa 0]⟩ 52 λb a=>aC a (af b) [aa x,aa y,aa 0,aa 0] λa=>zY d a b c))))):=by kernel_rfl
theorem aac (k o r e x:Int) (w:A1) (d:(Int×Int×Int×Int×Unit)×Int×Unit->A1->Prop):(bT D2 (λ_=>[]) 228 [.agg ⟨[aa k,aa o,aa r,aa e]⟩,aa x] w d)=(
 aM w ⟨[aa k,aa o,aa r,aa e]⟩ 52 λb a=>aM a ⟨[aa 0,aa 0,aa 0,aa 0]⟩ 52 λc a=>aj a none (af b) dV λ(g:Int×Int×Int×Int×Unit)=>True/\aI (!dY g.1 g.2.1 g.2.2.1 g.2.2.2.1) (aC a (af c) [aa 0,aa 0,aa 0,aa 0] λa=>au a λw1=>aj w1 none (af c) dV λ(x:Int×Int×Int×Int×Unit)=>d ((x.1,x.2.1,x.2.2.1,x.2.2.2.1,()),11,()) w1) (true=true/\aW a (ad (af b) 0) λf=>((f != 2)=true->true=
 true)/\aj a (some (f != 2)) (ad (af b) 0) aV λ(i:Int)=>((f != 2&&i != 3)=true->true=true)/\aj a (some (f != 2&&i != 3)) (ad (af b) 0) aV λ(l:Int)=>aI (f != 2&&i != 3&&l != 4) (aC a (af c) [aa 0,aa 0,aa 0,aa 0] λa=>au a λw1=>aj w1 none (af c) dV λ(x:Int×Int×Int×Int×Unit)=>d ((x.1,x.2.1,x.2.2.1,x.2.2.2.1,()),6,()) w1) (true=true/\aW a (ad (af b) 2) λm=> ∀(h:Int),h=aX .i64 65535 m->((!decide (x>h))=true->
 true=true)/\aj a (some !decide (x>h)) (ad (af b) 2) aV λ(n:Int)=>aI (decide (x>h)||decide (x<aX .i64 0 n)) (aC a (af c) [aa 0,aa 0,aa 0,aa 0] λa=>au a λw1=>aj w1 none (af c) dV λ(x:Int×Int×Int×Int×Unit)=>d ((x.1,x.2.1,x.2.2.1,x.2.2.2.1,()),2,()) w1) (true=true/\aW a (ad (af b) 2) λp=> ∀(j:Int),j=aH .i64 p x->true=true/\aC a (ad (af b) 2) [aa j] λa=>aj a none (af b) dV λ(x:Int×Int×Int×Int×Unit)=>
 aC a (af c) [aa x.1,aa x.2.1,aa x.2.2.1,aa x.2.2.2.1] λa=>au a λw1=>aj w1 none (af c) dV λ(x:Int×Int×Int×Int×Unit)=>d ((x.1,x.2.1,x.2.2.1,x.2.2.2.1,()),0,()) w1)))):=by kernel_rfl
def gX (k o r e x y:Int):Int:=if dY k o r e=false then 11 else if r>0 then 9 else if x∈gx k then(if dY x (if x=5 then o else y) 0 0=false then 1 else 0) else 6
def mP (k o r e x y:Int):Int:=if gX k o r e x y=0 then x else 0
def lq (k o r e x y:Int):Int:=if gX k o r e x y=0 then(if x=5 then o else y) else 0
theorem VD (k o r e x y:Int) (w:A1):aD A2 192 (.bu [(.agg [.int .i64,.int .i64,.int .i64,.int .i64]),.one (.int .i64)]) [.agg ⟨[aa k,aa o,aa r,aa e]⟩,aa x,aa y] w
 (λv w'=>v=((mP k o r e x y,lq k o r e x y,(0:Int),(0:Int),()),gX k o r e x y,())/\Ext w w'):=by
 refine aQ (C:=D2) (aT:=λ_=>[]) (AL (VC k o r e x y w _) ?_);have H:=At.start [] w
 repeat' (first
  |exact Go.RX.aK.all H
  |exact Ay (by first|rfl|decide+kernel) (Go.RX.aK.all H)
  |refine Ay (by grind) ?_
  |refine aj.cA 0 H rfl rfl ?_
  |refine aj.cA 1 H rfl rfl ?_
  |refine aj.cA 2 H rfl rfl ?_
  |refine aj.at 0 H rfl rfl ?_
  |refine aj.at 1 H rfl rfl ?_
  |refine aj.at 2 H rfl rfl ?_
  |refine aM.go H λb w1 H=>?_
  |refine aC.all 0 H rfl rfl rfl λw1 H=>?_
  |refine aC.all 1 H rfl rfl rfl λw1 H=>?_
  |refine aC.all 2 H rfl rfl rfl λw1 H=>?_
  |refine aC.gJ 0 H rfl rfl rfl λw1 H=>?_
  |refine aC.gJ 1 H rfl rfl rfl λw1 H=>?_
  |refine aC.gJ 2 H rfl rfl rfl λw1 H=>?_
  |refine aC.one 0 H rfl rfl rfl λw1 H=>?_
  |refine aC.one 1 H rfl rfl rfl λw1 H=>?_
  |refine aC.one 2 H rfl rfl rfl λw1 H=>?_
  |with_reducible refine au.go H λw1 H=>?_
  |refine km ?_
  |refine ay (by assumption) ?_
  |refine an (by assumption) ?_
  |refine ab (λc=>?_) (λc=>?_))
 all_goals
  refine Ay ?_ H.all;simp only[DQ,Do,DV,Gw,beq_iff_eq,beq_eq_false_iff_ne,bne_iff_ne,bne_eq_false_iff_eq,decide_eq_true_eq,decide_eq_false_iff_not,H4,H5,E4,H6,and_true,true_and,and_false,false_and,or_true,true_or,or_false,false_or,ne_eq,not_true_eq_false,not_false_eq_true,false_iff,iff_false,true_iff,iff_true] at*
  first
   |(simp[mP,lq,gX, *];done)
   |(subst_vars;simp[mP,lq,gX, *])
def xy (k o r e x:Int):Int:=if dY k o r e=false then 11 else if k=2\/k=3\/k=4 then(if r+x<0\/r+x>65535 then 2 else 0) else 6
def qJ (k o r e x:Int):Int×Int×Int×Int×Unit:=if xy k o r e x=0 then(k,o,r+x,e,()) else(0,0,0,0,())
theorem aad (k o r e x:Int) (hx: -9223372036854775808<=x/\x<9223372036854775808) (w:A1):aD A2 228 (.bu [(.agg [.int .i64,.int .i64,.int .i64,.int .i64]),.one (.int .i64)]) [.agg ⟨[aa k,aa o,aa r,aa e]⟩,aa x] w
 (λv w'=>v=(qJ k o r e x,xy k o r e x,())/\Ext w w'):=by
 refine aQ (C:=D2) (aT:=λ_=>[]) (AL (aac k o r e x w _) ?_);have H:=At.start [] w
 repeat' (first
  |exact Go.RX.aK.all H
  |exact Ay (by first|rfl|decide+kernel) (Go.RX.aK.all H)
  |refine Ay (by first|exact rfl|exact trivial|exact λ_=>rfl|exact λ_=>trivial|exact⟨rfl,by decide,by decide⟩|exact⟨by decide,by decide⟩|decide+kernel|exact λ_=>by decide|exact λ_=>⟨rfl,by decide,by decide⟩|(dsimp only[GH,GI];exact⟨rfl,by decide,by decide⟩)) ?_
  |refine aj.cA 0 H rfl rfl ?_
  |refine aj.cA 1 H rfl rfl ?_
  |refine aj.cA 2 H rfl rfl ?_
  |refine aj.at 0 H rfl rfl ?_
  |refine aj.at 1 H rfl rfl ?_
  |refine aj.at 2 H rfl rfl ?_
  |refine aM.go H λb w1 H=>?_
  |refine aC.all 0 H rfl rfl rfl λw1 H=>?_
  |refine aC.all 1 H rfl rfl rfl λw1 H=>?_
  |refine aC.all 2 H rfl rfl rfl λw1 H=>?_
  |refine aC.gJ 0 H rfl rfl rfl λw1 H=>?_
  |refine aC.gJ 1 H rfl rfl rfl λw1 H=>?_
  |refine aC.gJ 2 H rfl rfl rfl λw1 H=>?_
  |refine aC.one 0 H rfl rfl rfl λw1 H=>?_
  |refine aC.one 1 H rfl rfl rfl λw1 H=>?_
  |refine aC.one 2 H rfl rfl rfl λw1 H=>?_
  |with_reducible refine au.go H λw1 H=>?_
  |refine km ?_
  |refine ay (by assumption) ?_
  |refine an (by assumption) ?_
  |refine ab (λc=>?_) (λc=>?_))
 all_goals
  refine Ay ?_ H.all;simp only[DQ,Do,DV,Gw,beq_iff_eq,beq_eq_false_iff_ne,bne_iff_ne,bne_eq_false_iff_eq,decide_eq_true_eq,decide_eq_false_iff_not,H4,H5,E4,H6,and_true,true_and,and_false,false_and,or_true,true_or,or_false,false_or,ne_eq,not_true_eq_false,not_false_eq_true,false_iff,iff_false,true_iff,iff_true] at*
 ·simp[qJ,xy, *]
 ·have a: ¬ (k=2\/k=3\/k=4):=by omega
  simp[qJ,xy, *]
 all_goals
  have d:dY k o r e=true:=by assumption
  have g:jL k o r e:=of_decide_eq_true d;unfold jL at g;have h:aX .i64 65535 r=65535 - r:=bC (by omega) (by omega);have i:aX .i64 0 r=0 - r:=bC (by omega) (by omega);simp only[h,i] at*
  have a:k=2\/k=3\/k=4:=by omega
 ·have f:r+x<0\/r+x>65535:=by omega
  simp[qJ,xy, *]
 ·have f: ¬ (r+x<0\/r+x>65535):=by omega
  have j:aH .i64 r x=r+x:=av (by omega) (by omega);have:xy k o r e x=0:=by unfold xy;rw[ao (by rw[d];decide),aw a,ao f]
  unfold qJ;rw[this,aw rfl,j]
theorem I6 {x:Int} (h:0<=x) (h':x<18446744073709551616):(B x).toNat=x.toNat:=by
 have:=CC h h';unfold U at this;omega
theorem dK (x:Int):aE .u64 x=U (B x):=ZN x
def fE (N:Nat):Int:=((N / 4294967296 % 4294967296:Nat):Int)
theorem acF {x:Int} (h:0<=x) (h':x<4294967296):aE .i64 x=x:=gB (by omega) (by omega)
theorem cE (N:Nat):aE .i64 (fE N)=fE N:=acF (by unfold fE;omega) (by unfold fE;omega)
noncomputable def abG:Entry A2 where
 f:=192
 fn l:=match l with
  |[.agg ⟨[.int .i64 k,.int .i64 o,.int .i64 r,.int .i64 e]⟩,.int .i64 x,.int .i64 y]=>some (True,.tuple ⟨[.agg ⟨[.int .i64 (mP k o r e x y),.int .i64 (lq k o r e x y),.int .i64 0,.int .i64 0]⟩,.int .i64 (gX k o r e x y)]⟩)
  | _=>none
 ok args pre v h a w:=by
  split at h
  ·rename_i k o r e x y;cases h;exact bW (VD k o r e x y w)
  ·cases h
noncomputable def acG:Entry A2 where
 f:=228
 fn l:=match l with
  |[.agg ⟨[.int .i64 k,.int .i64 o,.int .i64 r,.int .i64 e]⟩,.int .i64 x]=>some ((-9223372036854775808<=x/\x<9223372036854775808),.tuple ⟨[.agg ⟨[.int .i64 (qJ k o r e x).1,.int .i64 (qJ k o r e x).2.1,.int .i64 (qJ k o r e x).2.2.1,.int .i64 (qJ k o r e x).2.2.2.1]⟩,.int .i64 (xy k o r e x)]⟩)
  | _=>none
 ok args pre v h a w:=by
  split at h
  ·rename_i k o r e x;cases h;exact bW (aad k o r e x a w)
  ·cases h
noncomputable def D3:dM A2:={D0 with vN:=false,sM:=[tA,vO,Gn,Gp,Zk,vg,abG,acG]}
noncomputable def E0:dM A2:={D3 with sh:=[(104,.el (.one (.Ar 146 2))),(65,.el (.one (.Ar 146 2)))],quiet:=[105,207,62]}
noncomputable def E1:dM A2:={E0 with cl:=[(201,.Ar 105 1)]}
noncomputable def E2:dM A2:={E0 with cl:=[(201,.Ar 207 1)]}
abbrev aaZ:Sh:= .el (.one (.Ar 146 2))
theorem aae (p:Option AB) (w:A1) (a:Int->A1->Prop):(aJ E0 (λ_=>[]) 62 [ag p] w a)=(
 aI p.isNone (au w (a 0)) (fj p 0 w λx=>au w (a (↑x.2.1:Int)))):=by kernel_rfl
theorem aaf (k o r e:Int) (c:Option AB) (w:A1) (d:Bool->A1->Prop):(aJ E0 (λ_=>[]) 105 [.agg ⟨[aa k,aa o,aa r,aa e]⟩,ag c] w d)=(
 aM w ⟨[aa k,aa o,aa r,aa e]⟩ 52 λb a=>true=true/\aW a (ad (af b) 0) λx=>aW a c λf=>au a (d (x==f))):=by kernel_rfl
theorem Ma (k o r e:Int) (c:Option AB) (w:A1) (d:Bool->A1->Prop):(aJ E0 (λ_=>[]) 207 [.agg ⟨[aa k,aa o,aa r,aa e]⟩,ag c] w d)=(
 aM w ⟨[aa k,aa o,aa r,aa e]⟩ 52 λb a=>true=true/\aW a (ad (af b) 1) λx=>aW a c λf=>au a (d (x==f))):=by kernel_rfl
theorem abH (p:Option AB) (k:Int) (w:A1) (c:Option AB×Option AB×Unit->A1->Prop):(aJ E0 (λ_=>[]) 65 [ag p,aa k] w c)=(
 aM w ⟨[aa k]⟩ 3 λb a=>aA A2 104 (.el (.one (.Ar 146 2))) [ag p,.func (.func 105) ⟨[]⟩ {toList:=[ag (af b)]}] a λx a=>au a (c (x.1,x.2.1,()))):=by kernel_rfl
theorem VE (p c:Option AB) (w:A1) (d:Option AB×Option AB×Unit->A1->Prop):(aJ E0 (λ_=>[]) 104 [ag p,.func (.func 105) #[] #[ag c]] w d)=(
 aM w ⟨[ag p]⟩ 36 λb a=>aM a {toList:=[.func (.func 105) ⟨[]⟩ ⟨[ag c]⟩]} 201 λe a=>au a (d (some ⟨b,0,none⟩,some ⟨e,0,none⟩,()))):=by kernel_rfl
theorem RV (p c:Option AB) (w:A1) (d:Option AB×Option AB×Unit->A1->Prop):(aJ E0 (λ_=>[]) 104 [ag p,.func (.func 207) #[] #[ag c]] w d)=(
 aM w ⟨[ag p]⟩ 36 λb a=>aM a {toList:=[.func (.func 207) ⟨[]⟩ ⟨[ag c]⟩]} 201 λe a=>au a (d (some ⟨b,0,none⟩,some ⟨e,0,none⟩,()))):=by kernel_rfl
def uy:Nat->a6:=(λ|2=>[(13,Go.RX.El.one (Go.RX.Sc.int B3))]| _=>[])
theorem RW (y:Nat) (p c:Option AB) (w:A1) (f:Unit->A1->Prop):(aJ E1 uy 146 [.func (.yield y) #[] #[],ag p,ag c] w f)=(
 gu w p λx=>aI x.isNone (au w (f ())) (gu w p λx=>fj x 0 w λx=> ∃(I:Nat->Int×Unit->A1->Prop),(∃n, ∀w1,Ext w w1->I n (0,()) w1)/\ ∀(n:Nat) (s:Int×Unit) (w1:A1),I n s w1->aI (decide (s.1<(↑x.2.1:Int))) ((x.1.isSome=true/\0<=s.1/\s.1<(↑x.2.1:Int))/\aj w1 none (ad x.1 (Int.toNat s.1*4)) dV λ(x:Int×Int×Int×Int×Unit)=>aM w1 ⟨[aa 0,aa 0,aa 0,aa 0]⟩ 52 λb a=>aC a (af b) [aa x.1,aa x.2.1,aa x.2.2.1,aa x.2.2.2.1] λa=>aj
 a none c (.one (.Ar 105 1)) λx=>aj a none (af b) dV λ(g:Int×Int×Int×Int×Unit)=> ∃h,ae A2 105 [.agg ⟨[aa g.1,aa g.2.1,aa g.2.2.1,aa g.2.2.2.1]⟩,ag x.1] a (.bool h)/\aI h (∀w1,Ext a w1->mz A2 y [aa s.1] w1 λ(b:Bool) a=>aI (!b) (au a (f ())) (∀d,Ext a d-> ∃(e:Nat),e<n/\I e (aH .i64 s.1 1,()) d)) (∀d,Ext a d-> ∃(e:Nat),e<n/\I e (aH .i64 s.1 1,()) d)) (au w1 (f ())))):=by kernel_rfl
def ri:Nat->a6:=(λ|2=>[(13,Go.RX.El.one (Go.RX.Sc.int B3))]| _=>[])
theorem Mb (y:Nat) (p c:Option AB) (w:A1) (f:Unit->A1->Prop):(aJ E2 ri 146 [.func (.yield y) #[] #[],ag p,ag c] w f)=(
 gu w p λx=>aI x.isNone (au w (f ())) (gu w p λx=>fj x 0 w λx=> ∃(I:Nat->Int×Unit->A1->Prop),(∃n, ∀w1,Ext w w1->I n (0,()) w1)/\ ∀(n:Nat) (s:Int×Unit) (w1:A1),I n s w1->aI (decide (s.1<(↑x.2.1:Int))) ((x.1.isSome=true/\0<=s.1/\s.1<(↑x.2.1:Int))/\aj w1 none (ad x.1 (Int.toNat s.1*4)) dV λ(x:Int×Int×Int×Int×Unit)=>aM w1 ⟨[aa 0,aa 0,aa 0,aa 0]⟩ 52 λb a=>aC a (af b) [aa x.1,aa x.2.1,aa x.2.2.1,aa x.2.2.2.1] λa=>aj
 a none c (.one (.Ar 207 1)) λx=>aj a none (af b) dV λ(g:Int×Int×Int×Int×Unit)=> ∃h,ae A2 207 [.agg ⟨[aa g.1,aa g.2.1,aa g.2.2.1,aa g.2.2.2.1]⟩,ag x.1] a (.bool h)/\aI h (∀w1,Ext a w1->mz A2 y [aa s.1] w1 λ(b:Bool) a=>aI (!b) (au a (f ())) (∀d,Ext a d-> ∃(e:Nat),e<n/\I e (aH .i64 s.1 1,()) d)) (∀d,Ext a d-> ∃(e:Nat),e<n/\I e (aH .i64 s.1 1,()) d)) (au w1 (f ())))):=by kernel_rfl
theorem RY (k o r e:Int) (c d:Option AB) (w:A1) (i:(Int×Int×Int×Int×Unit)×Int×Unit->A1->Prop):(bT E0 (λ_=>[]) 191 [.agg ⟨[aa k,aa o,aa r,aa e]⟩,ag c,ag d] w i)=(
 aM w ⟨[aa k,aa o,aa r,aa e]⟩ 52 λb a=>aM a ⟨[aa 0,aa 0,aa 0,aa 0]⟩ 52 λj a=>aj a none (af b) dV λ(x:Int×Int×Int×Int×Unit)=>aW a c λg=>aW a d λh=>True/\aC a (af j) [aa (mP x.1 x.2.1 x.2.2.1 x.2.2.2.1 g h),aa (lq x.1 x.2.1 x.2.2.1 x.2.2.2.1 g h),aa 0,aa 0] λa=>au a λw1=>aj w1 none (af j) dV λ(f:Int×Int×Int×Int×Unit)=>i ((f.1,f.2.1,f.2.2.1,f.2.2.2.1,()),gX x.1 x.2.1
 x.2.2.1 x.2.2.2.1 g h,()) w1):=by kernel_rfl
theorem VF (k o r e:Int) (c:Option AB) (w:A1) (g:(Int×Int×Int×Int×Unit)×Int×Unit->A1->Prop):(bT E0 (λ_=>[]) 227 [.agg ⟨[aa k,aa o,aa r,aa e]⟩,ag c] w g)=(
 aM w ⟨[aa k,aa o,aa r,aa e]⟩ 52 λb a=>aM a ⟨[aa 0,aa 0,aa 0,aa 0]⟩ 52 λh a=>aj a none (af b) dV λ(x:Int×Int×Int×Int×Unit)=>aW a c λd=>(-9223372036854775808<=d/\d<9223372036854775808)/\aC a (af h) [aa (qJ x.1 x.2.1 x.2.2.1 x.2.2.2.1 d).1,aa (qJ x.1 x.2.1 x.2.2.1 x.2.2.2.1 d).2.1,aa (qJ x.1 x.2.1 x.2.2.1 x.2.2.2.1 d).2.2.1,aa (qJ x.1 x.2.1 x.2.2.1 x.2.2.2.1 d).2.2.2.1] λa=>au a λw1=>aj w1 none (af h) dV λ
 (f:Int×Int×Int×Int×Unit)=>g ((f.1,f.2.1,f.2.2.1,f.2.2.2.1,()),xy x.1 x.2.1 x.2.2.1 x.2.2.2.1 d,()) w1):=by kernel_rfl
theorem Me (p:Option AB) (f:Int) (c d:Option AB) (w:A1) (e:Int->A1->Prop):(aJ E0 (λ_=>[]) 190 [ag p,aa f,.func (.func 191) #[] #[ag c,ag d]] w e)=(
 ∃(x:Int),ae A2 62 [ag p] w (aa x)/\aI (x==0) (au w (e 10)) (((!decide (f<0))=true->p.isSome=true)/\((!decide (f<0))=true->p.isSome=true)/\aj w (some !decide (f<0)) (ad p 0) eH λx=>aI (decide (f<0)||decide (f>=(↑x.2.1:Int))) (au w (e 2)) (fj p 0 w λx=>(x.1.isSome=true/\0<=f/\f<(↑x.2.1:Int))/\aj w none (ad x.1 (f.toNat*4)) dV λ(x:Int×Int×Int×Int×Unit)=>aA A2 191 (.bu [.agg [.int .i64,.int .i64,.int .i64,.int .i64],.one (.int .i64)]) [.agg ⟨[aa x.1,.int .i64
 x.2.1,aa x.2.2.1,aa x.2.2.2.1]⟩,ag c,ag d] w λ(x:(Int×Int×Int×Int×Unit)×Int×Unit) a=>aM a ⟨[aa 0,aa 0,aa 0,aa 0]⟩ 52 λb a=>aC a (af b) [aa x.1.1,aa x.1.2.1,aa x.1.2.2.1,aa x.1.2.2.2.1] λa=>aI (x.2.1==0) (fj p 0 a λh=>aj a none (af b) dV λ(g:Int×Int×Int×Int×Unit)=>(h.1.isSome=true/\0<=f/\f<(↑h.2.1:Int))/\aC a (ad h.1 (f.toNat*4)) [aa g.1,aa g.2.1,aa g.2.2.1,aa g.2.2.2.1]
 λa=>au a (e x.2.1)) (au a (e x.2.1))))):=by kernel_rfl
theorem HV (p:Option AB) (f:Int) (c:Option AB) (w:A1) (d:Int->A1->Prop):(aJ E0 (λ_=>[]) 190 [ag p,aa f,.func (.func 227) #[] #[ag c]] w d)=(
 ∃(x:Int),ae A2 62 [ag p] w (aa x)/\aI (x==0) (au w (d 10)) (((!decide (f<0))=true->p.isSome=true)/\((!decide (f<0))=true->p.isSome=true)/\aj w (some !decide (f<0)) (ad p 0) eH λx=>aI (decide (f<0)||decide (f>=(↑x.2.1:Int))) (au w (d 2)) (fj p 0 w λx=>(x.1.isSome=true/\0<=f/\f<(↑x.2.1:Int))/\aj w none (ad x.1 (f.toNat*4)) dV λ(x:Int×Int×Int×Int×Unit)=>aA A2 227 (.bu [.agg [.int .i64,.int .i64,.int .i64,.int .i64],.one (.int .i64)]) [.agg ⟨[aa x.1,.int .i64
 x.2.1,aa x.2.2.1,aa x.2.2.2.1]⟩,ag c] w λ(x:(Int×Int×Int×Int×Unit)×Int×Unit) a=>aM a ⟨[aa 0,aa 0,aa 0,aa 0]⟩ 52 λb a=>aC a (af b) [aa x.1.1,aa x.1.2.1,aa x.1.2.2.1,aa x.1.2.2.2.1] λa=>aI (x.2.1==0) (fj p 0 a λg=>aj a none (af b) dV λ(e:Int×Int×Int×Int×Unit)=>(g.1.isSome=true/\0<=f/\f<(↑g.2.1:Int))/\aC a (ad g.1 (f.toNat*4)) [aa e.1,aa e.2.1,aa e.2.2.1,aa e.2.2.2.1] λa=>au
 a (d x.2.1)) (au a (d x.2.1))))):=by kernel_rfl
theorem VG (p:Option AB) (f k o:Int) (w:A1) (c:Int->A1->Prop):(aJ E0 (λ_=>[]) 138 [ag p,aa f,aa k,aa o] w c)=(
 aM w ⟨[aa k]⟩ 3 λb a=>aM a ⟨[aa o]⟩ 3 λd a=>aA A2 190 (.el aV) [ag p,aa f,.func (.func 191) ⟨[]⟩ {toList:=[ag (af b),ag (af d)]}] a λ(x:Int) a=>au a (c x)):=by kernel_rfl
theorem VH (p:Option AB) (f x:Int) (w:A1) (c:Int->A1->Prop):(aJ E0 (λ_=>[]) 183 [ag p,aa f,aa x] w c)=(
 aM w ⟨[aa x]⟩ 3 λb a=>aA A2 190 (.el aV) [ag p,aa f,.func (.func 227) ⟨[]⟩ {toList:=[ag (af b)]}] a λ(x:Int) a=>au a (c x)):=by kernel_rfl
theorem VI (p:Option AB) (f:Int) (w:A1) (a:Int->A1->Prop):(aJ E0 (λ_=>[]) 79 [ag p,aa f] w a)=(
 aA A2 138 (.el aV) [ag p,aa f,aa 0,aa 0] w λ(x:Int) b=>au b (a x)):=by kernel_rfl
theorem aag (p:Option AB) (f:Int) (w:A1) (c:(Int×Int×Int×Int×Unit)×Bool×Unit->A1->Prop):(bT E0 (λ_=>[]) 25 [ag p,aa f] w c)=(
 aM w ⟨[aa 0,aa 0,aa 0,aa 0]⟩ 52 λb a=> ∃(x:Int),((!decide (f<0))=true->ae A2 62 [ag p] a (aa x))/\aI (decide (f<0)||decide (f>=x)) (aC a (af b) [aa 0,aa 0,aa 0,aa 0] λa=>au a λw1=>aj w1 none (af b) dV λ(x:Int×Int×Int×Int×Unit)=>c ((x.1,x.2.1,x.2.2.1,x.2.2.2.1,()),false,()) w1) (fj p 0 a λx=>(x.1.isSome=true/\0<=f/\f<(↑x.2.1:Int))/\aj a none (ad x.1 (f.toNat*4)) dV λ(x:Int×Int×Int×Int×Unit)
 =>aC a (af b) [aa x.1,aa x.2.1,aa x.2.2.1,aa x.2.2.2.1] λa=>au a λw1=>aj w1 none (af b) dV λ(x:Int×Int×Int×Int×Unit)=>c ((x.1,x.2.1,x.2.2.1,x.2.2.2.1,()),true,()) w1)):=by kernel_rfl
theorem Da (n:Int) (w:A1) (a:Option AB×Int×Unit->A1->Prop):(aJ E0 (λ_=>[]) 72 [aa n] w a)=(
 aI (decide (n<1)||decide (n>4096)) (au w (a (none,1,()))) (Od w 32 4 n n ⟨[aa 0,aa 0,aa 0,aa 0]⟩ 52 λb c=>aM c {toList:=[.slice (af b) n.toNat n.toNat]} 137 λb c=>au c (a (some ⟨b,0,none⟩,0,())))):=by kernel_rfl
theorem VJ (p:Option AB) (w:A1) (a:Option AB->A1->Prop):(aJ E0 (λ_=>[]) 54 [ag p] w a)=(
 ∃(x:Int),ae A2 62 [ag p] w (aa x)/\aI (x==0) (au w (a none)) (fj p 0 w λx=> ∀w1,Ext w w1->mH w1 52 4 32 ⟨[aa 0,aa 0,aa 0,aa 0]⟩ (none,0,0) (x.1,x.2.1,x.2.2) λ(r:Option AB×Nat×Nat) c=>aM c ⟨[.slice r.1 r.2.1 r.2.2]⟩ 137 λb c=>au c (a (af b)))):=by kernel_rfl
def uz:Nat->a6:=(λ|3=>[(9,.one (.int .i64))]| _=>[])
theorem RZ (p:Option AB) (k:Int) (w:A1) (d:Int->A1->Prop):(bT E0 uz 30 [ag p,aa k] w d)=(
 aM w ⟨[aa 0]⟩ 3 λb c=>aC c (af b) [aa 0] λc=>aA A2 65 (.el (.one (.Ar 146 2))) [ag p,aa k] c λx c=>An A2 146 (λ(y:Nat)=>[.func (Fn.yield y) ⟨[]⟩ ⟨[]⟩,ag x.1,ag x.2.1]) ⟨[9]⟩ c (λ(x:Int×Unit)=>[aa x.1]) (λ(l:Nat) (rec:Loop) (x:Int×Unit) e (R:Bool->A1->Prop)=>DL l rec [aa x.1].length 1 e (Cs l rec e λa=>aW a (af b) λx=>aC a (af b) [aa (aH .i64 x 1)] λc=>
 sO l rec none c R)) λ(r:Nat) (rec:Loop) f=>dF (r+1) rec f (λa=>aW a (af b) λx=>sP [r] a λw1=>d x w1) (λ(id:Nat) a=>Decidable.rec (λ(h:id=0->False)=>False) (λ(h:id=0)=>aW a (af b) λx=>sP [r] a λw1=>d x w1) (match h:id.beq 0 with|true=>isTrue (Gu h)|false=>isFalse (Gv h))) λa=>sP [r] a λw1=>d 0 w1):=by kernel_rfl
def uA:Nat->a6:=(λ|4=>[(10,.one (.int .i64))]| _=>[])
theorem R2 (p:Option AB) (k:Int) (w:A1) (d:Option AB×Nat×Nat->A1->Prop):(bT E0 uA 166 [ag p,aa k] w d)=(
 aM w ⟨[aa k]⟩ 3 λb a=>aM a ⟨[.slice none 0 0]⟩ 39 λe a=>aA A2 104 (.el (.one (.Ar 146 2))) [ag p,.func (.func 207) ⟨[]⟩ {toList:=[ag (af b)]}] a λx a=>An A2 146 (λ(y:Nat)=>[.func (Fn.yield y) ⟨[]⟩ ⟨[]⟩,ag x.1,ag x.2.1]) ⟨[10]⟩ a (λ(x:Int×Unit)=>[aa x.1]) (λ(l:Nat) (rec:Loop) (x:Int×Unit) g (R:Bool->A1->Prop)=>DL l rec [aa x.1].length 1 g (Cs l rec g λc=>tc c (af e) λf=>aM c ⟨[aa x.1]⟩
 3 λb a=> ∀w1,Ext a w1->mH w1 3 1 8 ⟨[aa 0]⟩ (f.1,f.2.1,f.2.2) (some ⟨b,0,none⟩,1,1) λ(r:Option AB×Nat×Nat) a=>aC a (af e) [.slice r.1 r.2.1 r.2.2] λa=>sO l rec none a R)) λ(r:Nat) (rec:Loop) i=>dF (r+1) rec i (λc=>tc c (af e) λx=>sP [r] c λw1=>d (x.1,x.2.1,x.2.2) w1) (λ(id:Nat) c=>Decidable.rec (λ(h:id=0->False)=>False) (λ(h:id=0)=>tc c (af e) λx=>sP [r] c λw1=>d (x.1,
 x.2.1,x.2.2) w1) (match h:id.beq 0 with|true=>isTrue (Gu h)|false=>isFalse (Gv h))) λc=>sP [r] c λw1=>d (none,0,0) w1):=by kernel_rfl
def wH:Nat->a6:=(λ|5=>[(15,.one (.int .i64))]| _=>[])
theorem VK (p:Option AB) (k o:Int) (w:A1) (g:Int×Int×Unit->A1->Prop):(bT E0 wH 172 [ag p,aa k,aa o] w g)=(
 aM w ⟨[ag p]⟩ 36 λb a=>aM a ⟨[aa k]⟩ 3 λn a=>aM a ⟨[aa o]⟩ 3 λq a=>aM a ⟨[aa 0]⟩ 3 λd a=>aM a ⟨[aa 0]⟩ 46 λe a=>gu a (af b) λx=> ∃(i:Int),ae A2 62 [ag x] a (aa i)/\aI (i==0) (aC a (af d) [aa 0] λa=>aC a (af e) [aa 10] λa=>au a λw1=>aW w1 (af d) λx=>aW w1 (af e) λf=>
 g (x,f,()) w1) (gu a (af b) λx=>aA A2 65 (.el (.one (.Ar 146 2))) [ag x,aa 0] a λx a=>An A2 146 (λ(y:Nat)=>[.func (Fn.yield y) ⟨[]⟩ ⟨[]⟩,ag x.1,ag x.2.1]) ⟨[15]⟩ a (λ(x:Int×Unit)=>[aa x.1]) (λ(l:Nat) (rec:Loop) (x:Int×Unit) j (R:Bool->A1->Prop)=>DL l rec [aa x.1].length 1 j (Cs l rec j λc=>gu c (af b) λf=>aW c (af n) λs=>aj c none
 (af q) aV λ(t:Int)=>aA A2 138 (.el aV) [ag f,aa x.1,aa s,aa t] c λ(m:Int) a=>aI (m != 0) (aC a (af d) [aa 0] λa=>aC a (af e) [aa m] λa=>sO l rec (some Code.ret) a R) (aC a (af d) [aa x.1] λa=>aC a (af e) [aa 0] λa=>sO l rec (some Code.ret) a R))) λ(r:Nat) (rec:Loop) u=>dF (r+1) rec u (λc=>aC c (af d) [aa 0]
 λa=>aC a (af e) [aa 12] λa=>sP [r] a λw1=>aW w1 (af d) λx=>aW w1 (af e) λf=>g (x,f,()) w1) (λ(id:Nat) c=>Decidable.rec (λ(h:id=0->False)=>False) (λ(h:id=0)=>aC c (af d) [aa 0] λa=>aC a (af e) [aa 12] λa=>sP [r] a λw1=>aW w1 (af d) λx=>aj w1 none (af e) aV
 λ(f:Int)=>g (x,f,()) w1) (match h:id.beq 0 with|true=>isTrue (Gu h)|false=>isFalse (Gv h))) λc=>sP [r] c λw1=>aW w1 (af d) λx=>aW w1 (af e) λf=>g (x,f,()) w1)):=by kernel_rfl
abbrev sD:List Sc:=[.int .i64,.int .i64,.int .i64,.int .i64]
abbrev eD:El:= .agg sD
abbrev DT:Type:=Int×Int×Int×Int×Unit
def zD:DT:=(0,0,0,0,())
theorem r_ {w:A1} {bp n c:Nat} {a:Option AB} (h:bN w bp [.slice a n c]):aD A2 62 (.el (.one (.int .i64))) [ag (af bp)] w (λx w'=>x=(n:Int)/\Ext w w'):=by
 refine ai (AL (aae _ w _) ?_);have H:=At.start [] w;refine an rfl ⟨rfl,rfl,aj.jC H h (by simp) rfl ?_⟩
 grind
theorem aah {w:A1} {kc:Nat} {v:Int} (h:bN w kc [aa v]) (d:DT):aD A2 105 (.el (.one .bool)) [.agg ⟨bh sD d⟩,ag (af kc)] w (λx w'=>x=(d.1==v)/\Ext w w'):=by
 obtain⟨k,o,r,e,u⟩:=d;refine ai (C:=E0) (aT:=λ_=>[]) (AL (aaf k o r e _ w _) ?_);have H:=At.start [] w
 repeat' (first
  |refine aj.fW H h (by simp) rfl ?_
  |exact Go.RX.aK.all H
  |simp
  |refine aj.at 0 H rfl rfl ?_
  |refine aM.go H λb w1 H=>?_
  |with_reducible refine au.go H λw1 H=>?_
  |refine km ?_
  )
theorem Mf {w:A1} {kc:Nat} {v:Int} (h:bN w kc [aa v]) (d:DT):aD A2 207 (.el (.one .bool)) [.agg ⟨bh sD d⟩,ag (af kc)] w (λx w'=>x=(d.2.1==v)/\Ext w w'):=by
 obtain⟨k,o,r,e,u⟩:=d;refine ai (C:=E0) (aT:=λ_=>[]) (AL (Ma k o r e _ w _) ?_);have H:=At.start [] w
 repeat' (first
  |refine aj.fW H h (by simp) rfl ?_
  |exact Go.RX.aK.all H
  |simp
  |refine aj.at 0 H rfl rfl ?_
  |refine aM.go H λb w1 H=>?_
  |with_reducible refine au.go H λw1 H=>?_
  |refine km ?_
  )
section
variable {D G:List Nat} {w0 w:A1} {L:List (Nat×List AC)}
theorem tB (H:aK D G w0 w L) (p:Option AB) (k:Int) {K:Option AB×Option AB×Unit->A1->Prop}
 (b: ∀pc ic kc w1,aK D G w0 w1 ((ic,[.func (.func 105) #[] #[ag (af kc)]])::(pc,[ag p])::(kc,[aa k])::L)->K (some ⟨pc,0,none⟩,some ⟨ic,0,none⟩,()) w1):
 aA A2 65 aaZ [ag p,aa k] w K:=by
 refine aA.go H λw1 H=>ai (AL (abH p k w1 K) ?_);refine aM.go H λkc c H=>aA.go H λa H=>ai (AL (VE p _ a _) ?_);refine aM.go H λpc d H=>aM.go H λic e H=>au.go H λf H=>au.go H λH=>?_
 grind
theorem VL (H:aK D G w0 w L) (p c:Option AB) {K:Option AB×Option AB×Unit->A1->Prop}
 (a: ∀pc ic w1,aK D G w0 w1 ((ic,[.func (.func 207) #[] #[ag c]])::(pc,[ag p])::L)->K (some ⟨pc,0,none⟩,some ⟨ic,0,none⟩,()) w1):
 aA A2 104 aaZ [ag p,.func (.func 207) #[] #[ag c]] w K:=by
 refine aA.go H λw1 H=>ai (AL (RV p c w1 K) ?_);refine aM.go H λpc b H=>aM.go H λic d H=>au.go H λH=>?_
 grind
end
def PL (fn:FuncId) (pc ic kc bp bf c:Nat) (v:Int) (ds:List DT) (rest:List AC) (w:A1):Prop:=
 bN w pc [ag (af bp)]/\bN w ic [.func (.func fn) #[] #[ag (af kc)]]/\bN w kc [aa v]/\bN w bp [.slice (af bf) ds.length c]/\bN w bf (flat eD ds++rest)
theorem EO {pc ic kc bp bf c:Nat} {v:Int} {ds:List DT} {rest:List AC} (N:ds.length<=4096):
 Ux A2 146 (λy=>[.func (.yield y) #[] #[],ag (af pc),ag (af ic)]) ds.length
  (λi=>match ds[i]? with
   |some d=>if d.1=v then some [aa (i:Nat)] else none
   |none=>none) (PL 105 pc ic kc bp bf c v ds rest):=by
 intro y w J B a D m O E h0;have key:aD A2 146 (uX E1 146) [.func (.yield y) #[] #[],ag (af pc),ag (af ic)] w (λ_ w'=>J ds.length w'\/B w'):=by
  refine ai (C:=E1) (aT:=uy) (AL (RW y _ _ w _) ?_);obtain⟨s1,o,p,q,r⟩:=m 0 w h0;refine aj.of _ (s1.oD rfl) (an rfl (aj.of _ (s1.oD rfl) ⟨rfl,rfl,aj.of (some ⟨bf,0,none⟩,ds.length,c) (by rw[aY];exact q.oD rfl) ?_⟩));refine⟨λn s w'=> ∃i:Nat,s.1=i/\n+i=ds.length/\J i w',⟨ds.length,λw1 h1=>⟨0,rfl,rfl,a _ _ _ h0 h1⟩⟩,?_⟩;rintro n ⟨P,u⟩ w1 ⟨i,hi,Q,f⟩;simp only at hi;subst hi;dsimp only;refine ab (λc=>?_) (λc=>?_)
  ·have t:i<ds.length:=by simp only[decide_eq_true_eq] at c;omega
   obtain⟨s1,o,p,q,r⟩:=m i w1 f;have h:ds[i]? =some ds[i]:=Ax t;refine⟨⟨rfl,by omega,by omega⟩,aj.of ds[i] (f_ r h) ?_⟩;have H:=At.start [] w1;have next: ∀w',J (i+1) w'-> ∀g,Ext w' g-> ∃z,z<n/\ ∃j:Nat,aH .i64 (i:Nat) 1=j/\z+j=ds.length/\J j g:=λw' k g l=>
    ⟨n - 1,by omega,i+1,by rw[av (by omega) (by omega)];rfl,by omega,a _ _ _ k l⟩
   generalize F:ds[i]=d;rw[F] at h;refine aM.go H λb A H=>aC.all 0 H rfl rfl rfl λA H=>aj.of (some ⟨kc,0,none⟩,()) ((H.fW o (by simp)).oD rfl) (aj.at 0 H rfl rfl ?_);have G:=a _ _ _ f H.all;refine⟨d.1==v,ae.of (s:= .el (.one .bool)) λw' h'=>aah ((H.fW p (by simp)).ext h') d,ab (λc=>λg l=>?_) (λc=>?_)⟩
   ·refine E i _ t (by simp only[h];rw[aw (by simpa using c)]) g _ (a _ _ _ G l) (λw' k=>?_) (λw' I=>?_)
    ·exact an rfl (next w' k)
    ·exact ay rfl λR K=> .inr (D _ _ I K)
   ·exact next _ (by grind)
  ·have:i=ds.length:=by simp only[decide_eq_false_iff_not] at c;omega
   subst this;exact λA L=> .inl (a _ _ _ f L)
 exact Calls.mono key λe w' ⟨x,M,f⟩=>⟨_,M,f⟩
theorem R3 {pc ic kc bp bf c:Nat} {v:Int} {ds:List DT} {rest:List AC} (N:ds.length<=4096):
 Ux A2 146 (λy=>[.func (.yield y) #[] #[],ag (af pc),ag (af ic)]) ds.length
  (λi=>match ds[i]? with
   |some d=>if d.2.1=v then some [aa (i:Nat)] else none
   |none=>none) (PL 207 pc ic kc bp bf c v ds rest):=by
 intro y w J B a D m O E h0;have key:aD A2 146 (uX E2 146) [.func (.yield y) #[] #[],ag (af pc),ag (af ic)] w (λ_ w'=>J ds.length w'\/B w'):=by
  refine ai (C:=E2) (aT:=ri) (AL (Mb y _ _ w _) ?_);obtain⟨s1,o,p,q,r⟩:=m 0 w h0;refine aj.of _ (s1.oD rfl) (an rfl (aj.of _ (s1.oD rfl) ⟨rfl,rfl,aj.of (some ⟨bf,0,none⟩,ds.length,c) (by rw[aY];exact q.oD rfl) ?_⟩));refine⟨λn s w'=> ∃i:Nat,s.1=i/\n+i=ds.length/\J i w',⟨ds.length,λw1 h1=>⟨0,rfl,rfl,a _ _ _ h0 h1⟩⟩,?_⟩;rintro n ⟨P,u⟩ w1 ⟨i,hi,Q,f⟩;simp only at hi;subst hi;dsimp only;refine ab (λc=>?_) (λc=>?_)
  ·have t:i<ds.length:=by simp only[decide_eq_true_eq] at c;omega
   obtain⟨s1,o,p,q,r⟩:=m i w1 f;have h:ds[i]? =some ds[i]:=Ax t;refine⟨⟨rfl,by omega,by omega⟩,aj.of ds[i] (f_ r h) ?_⟩;have H:=At.start [] w1;have next: ∀w',J (i+1) w'-> ∀g,Ext w' g-> ∃z,z<n/\ ∃j:Nat,aH .i64 (i:Nat) 1=j/\z+j=ds.length/\J j g:=λw' k g l=>
    ⟨n - 1,by omega,i+1,by rw[av (by omega) (by omega)];rfl,by omega,a _ _ _ k l⟩
   generalize F:ds[i]=d;rw[F] at h;refine aM.go H λb A H=>aC.all 0 H rfl rfl rfl λA H=>aj.of (some ⟨kc,0,none⟩,()) ((H.fW o (by simp)).oD rfl) (aj.at 0 H rfl rfl ?_);have G:=a _ _ _ f H.all;refine⟨d.2.1==v,ae.of (s:= .el (.one .bool)) λw' h'=>Mf ((H.fW p (by simp)).ext h') d,ab (λc=>λg l=>?_) (λc=>?_)⟩
   ·refine E i _ t (by simp only[h];rw[aw (by simpa using c)]) g _ (a _ _ _ G l) (λw' k=>?_) (λw' I=>?_)
    ·exact an rfl (next w' k)
    ·exact ay rfl λR K=> .inr (D _ _ I K)
   ·exact next _ (by grind)
  ·have:i=ds.length:=by grind
   subst this;exact λA L=> .inl (a _ _ _ f L)
 exact Calls.mono key λe w' ⟨x,M,f⟩=>⟨_,M,f⟩
def aO (k o:Int) (d:DT):DT×Int:=((mP d.1 d.2.1 d.2.2.1 d.2.2.2.1 k o,lq d.1 d.2.1 d.2.2.1 d.2.2.2.1 k o,0,0,()),gX d.1 d.2.1 d.2.2.1 d.2.2.2.1 k o)
def iu (x:Int) (d:DT):DT×Int:=(qJ d.1 d.2.1 d.2.2.1 d.2.2.2.1 x,xy d.1 d.2.1 d.2.2.1 d.2.2.2.1 x)
def vI (ds:List DT) (f:Int) (g:DT->DT×Int):Int:=if ds.length=0 then 10 else if f<0\/f>=ds.length then 2 else(g (ds.getD f.toNat zD)).2
def dN (ds:List DT) (f:Int) (g:DT->DT×Int):List DT:=if f<0\/f>=ds.length then ds else if(g (ds.getD f.toNat zD)).2=0 then ds.set f.toNat (g (ds.getD f.toNat zD)).1 else ds
theorem BG {ds:List DT} (h:ds.length=0) (f:Int) (g:DT->DT×Int):vI ds f g=10:=aw h
theorem BH {ds:List DT} (h:ds.length=0) (f:Int) (g:DT->DT×Int):dN ds f g=ds:=aw (by omega)
theorem JF {ds:List DT} (h:ds.length≠0) {f:Int} (h1:f<0\/f>=ds.length) (g:DT->DT×Int):vI ds f g=2:=by grind[vI]
theorem xV {ds:List DT} {f:Int} (h1:f<0\/f>=ds.length) (g:DT->DT×Int):dN ds f g=ds:=aw h1
theorem yZ {ds:List DT} {f:Int} (h1:0<=f/\f<ds.length) (g:DT->DT×Int):vI ds f g=(g (ds.getD f.toNat zD)).2:=by grind[vI]
theorem pC {ds:List DT} {f:Int} (h1:0<=f/\f<ds.length) (g:DT->DT×Int):dN ds f g=if(g (ds.getD f.toNat zD)).2=0 then ds.set f.toNat (g (ds.getD f.toNat zD)).1 else ds:=by grind[dN]
theorem ji (ds:List DT) (f:Int) (g:DT->DT×Int):(dN ds f g).length=ds.length:=by grind[dN]
theorem R4 {w:A1} {kc oc:Nat} {k o:Int} (f:bN w kc [aa k]) (g:bN w oc [aa o]) (d:DT):aD A2 191 (.bu [eD,.one (.int .i64)]) [.agg ⟨bh sD d⟩,ag (af kc),ag (af oc)] w
 (λv w'=>v=((aO k o d).1,(aO k o d).2,())/\Ext w w'):=by
 obtain⟨a,b,c,e,u⟩:=d;refine aQ (C:=E0) (aT:=λ_=>[]) (AL (RY a b c e _ _ w _) ?_);have H:=At.start [] w
 repeat' (first
  |refine aj.fW H f (by simp) rfl ?_
  |refine aj.fW H g (by simp) rfl ?_
  |exact Go.RX.aK.all H
  |exact Ay (by first|rfl|decide+kernel) (Go.RX.aK.all H)
  |refine Ay (by simp) ?_
  |refine aj.cA 0 H rfl rfl ?_
  |refine aj.cA 1 H rfl rfl ?_
  |refine aj.at 0 H rfl rfl ?_
  |refine aj.at 1 H rfl rfl ?_
  |refine aM.go H λb w1 H=>?_
  |refine aC.all 0 H rfl rfl rfl λw1 H=>?_
  |refine aC.all 1 H rfl rfl rfl λw1 H=>?_
  |refine aC.gJ 0 H rfl rfl rfl λw1 H=>?_
  |with_reducible refine au.go H λw1 H=>?_
  |refine km ?_
  |refine ay (by assumption) ?_
  |refine an (by assumption) ?_
  )
theorem VM {w:A1} {kc:Nat} {k:Int} (f:bN w kc [aa k]) (hi: -9223372036854775808<=k/\k<9223372036854775808) (d:DT):aD A2 227 (.bu [eD,.one (.int .i64)]) [.agg ⟨bh sD d⟩,ag (af kc)] w
 (λv w'=>v=((iu k d).1,(iu k d).2,())/\Ext w w'):=by
 obtain⟨a,b,c,e,u⟩:=d;refine aQ (C:=E0) (aT:=λ_=>[]) (AL (VF a b c e _ w _) ?_);have H:=At.start [] w
 repeat' (first
  |refine aj.fW H f (by simp) rfl ?_
  |refine Ay hi ?_
  |exact Go.RX.aK.all H
  |exact Ay (by first|rfl|decide+kernel) (Go.RX.aK.all H)
  |refine aj.cA 0 H rfl rfl ?_
  |refine aj.cA 1 H rfl rfl ?_
  |refine aj.at 0 H rfl rfl ?_
  |refine aj.at 1 H rfl rfl ?_
  |refine aM.go H λb w1 H=>?_
  |refine aC.all 0 H rfl rfl rfl λw1 H=>?_
  |refine aC.all 1 H rfl rfl rfl λw1 H=>?_
  |with_reducible refine au.go H λw1 H=>?_
  |refine km ?_
  |refine ay (by assumption) ?_
  |refine an (by assumption) ?_
  )
theorem HW {w:A1} {bp bf c kc oc:Nat} {k o:Int} {ds:List DT} {rest:List AC} (a:bN w bp [.slice (af bf) ds.length c]) (q:bN w bf (flat eD ds++rest)) (r:bp≠bf) (B:ds.length<=4096) (t:bN w kc [aa k]) (u:bN w oc [aa o]) (v:kc≠bf) (x:oc≠bf) (f:Int):
 aD A2 190 (.el (.one (.int .i64))) [ag (af bp),aa f,.func (.func 191) #[] #[ag (af kc),ag (af oc)]] w
  (λe w'=>e=vI ds f (aO k o)/\bN w' bf (flat eD (dN ds f (aO k o))++rest)/\Fr [bf] w w'):=by
 refine ai (C:=E0) (aT:=λ_=>[]) (AL (Me _ f _ _ w _) ?_);have H:=At.rX q;have g:bp∉[bf]:=by simpa using r
 refine⟨(ds.length:Int),ae.of (s:= .el (.one (.int .i64))) λw' h=>r_ (a.ext h),ab (λc0=>au.go H λw1 H=>?_) (λc0=>⟨λ_=>rfl,λ_=>rfl,aj.jC H a g rfl (ab (λc1=>au.go H λw1 H=>?_) (λc1=>?_))⟩)⟩
 ·have h0:ds.length=0:=by simp only[beq_iff_eq] at c0;omega
  exact⟨(BG h0 f _).symm,by rw[BH h0];exact H.get (i:=0) rfl,H.fr⟩
 ·have h0:ds.length≠0:=by simp only[beq_eq_false_iff_ne,ne_eq] at c0;omega
  have h1:f<0\/f>=ds.length:=by simpa using c1
  exact⟨(JF h0 h1 _).symm,by rw[xV h1];exact H.get (i:=0) rfl,H.fr⟩
 ·have h1:0<=f/\f<ds.length:=by grind
  have n:f.toNat<ds.length:=by omega
  have p:ds[f.toNat]? =some ds[f.toNat]:=Ax n;have y:ds.getD f.toNat zD=ds[f.toNat]:=by rw[B2,p];rfl
  have j:=yZ h1 (aO k o);have l:=pC h1 (aO k o);rw[y] at j l;generalize D:ds[f.toNat]=d at*
  refine⟨rfl,rfl,aj.jC H a g rfl ⟨⟨rfl,h1.1,h1.2⟩,aj.of d (f_ (H.get (i:=0) rfl) p) ?_⟩⟩;refine aA.val H (s:= .bu [eD,.one (.int .i64)]) (((aO k o) d).1,((aO k o) d).2,()) (λw1 H=>R4 (H.fW t (by simpa using v)) (H.fW u (by simpa using x)) d) λw1 H=>?_;refine aM.go H λb z H=>aC.all 0 H rfl rfl rfl λz H=>ab (λc2=>⟨rfl,rfl,aj.jC H a g rfl (aj.at 0 H rfl rfl ⟨⟨rfl,h1.1,h1.2⟩,?_⟩)⟩) (λc2=>au.go H λA H=>?_)
  ·have m:((aO k o) d).2=0:=by simpa using c2
   refine aC.flat (e:=eD) 1 H (xs:=ds) (rest:=rest) ((aO k o) d).1 rfl rfl rfl n λA H=>au.go H λE H=>?_;exact⟨j.symm,by rw[l,aw m];exact H.get (i:=1) rfl,H.fr⟩
  ·have m: ¬ ((aO k o) d).2=0:=by simpa using c2
   exact⟨j.symm,by rw[l,ao m];exact H.get (i:=1) rfl,H.fr⟩
theorem HY {w:A1} {bp bf c kc:Nat} {k:Int} {ds:List DT} {rest:List AC} (a:bN w bp [.slice (af bf) ds.length c]) (p:bN w bf (flat eD ds++rest)) (q:bp≠bf) (y:ds.length<=4096) (r:bN w kc [aa k]) (t:kc≠bf) (hi: -9223372036854775808<=k/\k<9223372036854775808) (f:Int):
 aD A2 190 (.el (.one (.int .i64))) [ag (af bp),aa f,.func (.func 227) #[] #[ag (af kc)]] w
  (λe w'=>e=vI ds f (iu k)/\bN w' bf (flat eD (dN ds f (iu k))++rest)/\Fr [bf] w w'):=by
 refine ai (C:=E0) (aT:=λ_=>[]) (AL (HV _ f _ w _) ?_);have H:=At.rX p;have g:bp∉[bf]:=by simpa using q
 refine⟨(ds.length:Int),ae.of (s:= .el (.one (.int .i64))) λw' h=>r_ (a.ext h),ab (λc0=>au.go H λw1 H=>?_) (λc0=>⟨λ_=>rfl,λ_=>rfl,aj.jC H a g rfl (ab (λc1=>au.go H λw1 H=>?_) (λc1=>?_))⟩)⟩
 ·have h0:ds.length=0:=by simp only[beq_iff_eq] at c0;omega
  exact⟨(BG h0 f _).symm,by rw[BH h0];exact H.get (i:=0) rfl,H.fr⟩
 ·have h0:ds.length≠0:=by simp only[beq_eq_false_iff_ne,ne_eq] at c0;omega
  have h1:f<0\/f>=ds.length:=by simpa using c1
  exact⟨(JF h0 h1 _).symm,by rw[xV h1];exact H.get (i:=0) rfl,H.fr⟩
 ·have h1:0<=f/\f<ds.length:=by grind
  have n:f.toNat<ds.length:=by omega
  have o:ds[f.toNat]? =some ds[f.toNat]:=Ax n;have u:ds.getD f.toNat zD=ds[f.toNat]:=by rw[B2,o];rfl
  have j:=yZ h1 (iu k);have l:=pC h1 (iu k);rw[u] at j l;generalize z:ds[f.toNat]=d at*
  refine⟨rfl,rfl,aj.jC H a g rfl ⟨⟨rfl,h1.1,h1.2⟩,aj.of d (f_ (H.get (i:=0) rfl) o) ?_⟩⟩;refine aA.val H (s:= .bu [eD,.one (.int .i64)]) (((iu k) d).1,((iu k) d).2,()) (λw1 H=>VM (H.fW r (by simpa using t)) hi d) λw1 H=>?_;refine aM.go H λb v H=>aC.all 0 H rfl rfl rfl λv H=>ab (λc2=>⟨rfl,rfl,aj.jC H a g rfl (aj.at 0 H rfl rfl ⟨⟨rfl,h1.1,h1.2⟩,?_⟩)⟩) (λc2=>au.go H λx H=>?_)
  ·have m:((iu k) d).2=0:=by simpa using c2
   refine aC.flat (e:=eD) 1 H (xs:=ds) (rest:=rest) ((iu k) d).1 rfl rfl rfl n λx H=>au.go H λA H=>?_;exact⟨j.symm,by rw[l,aw m];exact H.get (i:=1) rfl,H.fr⟩
  ·have m: ¬ ((iu k) d).2=0:=by simpa using c2
   exact⟨j.symm,by rw[l,ao m];exact H.get (i:=1) rfl,H.fr⟩
theorem Db {w:A1} {bp bf c:Nat} {ds:List DT} {rest:List AC} (a:bN w bp [.slice (af bf) ds.length c]) (b:bN w bf (flat eD ds++rest)) (d:bp≠bf) (g:ds.length<=4096) (f k o:Int):
 aD A2 138 (.el (.one (.int .i64))) [ag (af bp),aa f,aa k,aa o] w (λe w'=>e=vI ds f (aO k o)/\bN w' bf (flat eD (dN ds f (aO k o))++rest)/\Fr [bf] w w'):=by
 refine ai (AL (VG _ f k o w _) ?_);have H:=At.rX b;have h:bp∉[bf]:=by simpa
 refine aM.go H λkc w1 H=>aM.go H λoc m H=>?_;refine aA.D5 H 2 rfl (λl H=>HW (H.fW a h) (H.get (i:=2) rfl) d g (H.get (i:=1) rfl) (H.get (i:=0) rfl) (H.ne (i:=1) (j:=2) rfl rfl (by decide)) (H.ne (i:=0) (j:=2) rfl rfl (by decide)) f) λl H=>au.go H λn H=>?_;exact⟨rfl,H.get (i:=2) rfl,H.fr⟩
theorem VN {w:A1} {bp bf c:Nat} {ds:List DT} {rest:List AC} (a:bN w bp [.slice (af bf) ds.length c]) (b:bN w bf (flat eD ds++rest)) (d:bp≠bf) (g:ds.length<=4096) (f x:Int) (hi: -9223372036854775808<=x/\x<9223372036854775808):
 aD A2 183 (.el (.one (.int .i64))) [ag (af bp),aa f,aa x] w (λe w'=>e=vI ds f (iu x)/\bN w' bf (flat eD (dN ds f (iu x))++rest)/\Fr [bf] w w'):=by
 refine ai (AL (VH _ f x w _) ?_);have H:=At.rX b;have h:bp∉[bf]:=by grind
 refine aM.go H λkc w1 H=>?_;refine aA.D5 H 1 rfl (λk H=>HY (H.fW a h) (H.get (i:=1) rfl) d g (H.get (i:=0) rfl) (H.ne (i:=0) (j:=1) rfl rfl (by decide)) hi f) λk H=>au.go H λl H=>?_;exact⟨rfl,H.get (i:=1) rfl,H.fr⟩
theorem VO {w:A1} {bp bf c:Nat} {ds:List DT} {rest:List AC} (a:bN w bp [.slice (af bf) ds.length c]) (b:bN w bf (flat eD ds++rest)) (d:bp≠bf) (g:ds.length<=4096) (f:Int):
 aD A2 79 (.el (.one (.int .i64))) [ag (af bp),aa f] w (λe w'=>e=vI ds f (aO 0 0)/\bN w' bf (flat eD (dN ds f (aO 0 0))++rest)/\Fr [bf] w w'):=by
 refine ai (AL (VI _ f w _) ?_);have H:=At.rX b;have h:bp∉[bf]:=by grind
 refine aA.D5 H 0 rfl (λj H=>Db (H.fW a h) (H.get (i:=0) rfl) d g f 0 0) λj H=>au.go H λk H=>?_;exact⟨rfl,H.get (i:=0) rfl,H.fr⟩
def oN (ds:List DT) (f:Int):DT:=if f<0\/f>=ds.length then zD else ds.getD f.toNat zD
def Cv (ds:List DT) (f:Int):Bool:= !(decide (f<0\/f>=ds.length))
theorem PM {w:A1} {bp bf c:Nat} {ds:List DT} {rest:List AC} (e:bN w bp [.slice (af bf) ds.length c]) (i:bN w bf (flat eD ds++rest)) (f:Int):
 aD A2 25 (.bu [eD,.one .bool]) [ag (af bp),aa f] w (λv w'=>v=(oN ds f,Cv ds f,())/\Ext w w'):=by
 refine aQ (C:=E0) (aT:=λ_=>[]) (AL (aag _ f w _) ?_);have H:=At.start [] w;refine aM.go H λb w1 H=>⟨(ds.length:Int),λ_=>ae.of (s:= .el (.one (.int .i64))) λw' h=>r_ ((H.fW e (by simp)).ext h),ab (λc1=>?_) (λc1=>?_)⟩
 ·have h1:f<0\/f>=ds.length:=by simpa using c1
  have a:oN ds f=zD:=aw h1;have d:Cv ds f=false:=by unfold Cv;simp[h1]
  rw[a,d]
  repeat' (first
   |exact Go.RX.aK.all H
   |exact Ay (by first|rfl|decide+kernel) (Go.RX.aK.all H)
   |refine aj.cA 0 H rfl rfl ?_
   |refine aj.at 0 H rfl rfl ?_
   |refine aM.go H λb w1 H=>?_
   |refine aC.all 0 H rfl rfl rfl λw1 H=>?_
   |refine aC.gJ 0 H rfl rfl rfl λw1 H=>?_
   |refine aC.one 0 H rfl rfl rfl λw1 H=>?_
   |with_reducible refine au.go H λw1 H=>?_
   |refine km ?_
   |refine ay (by assumption) ?_
   |refine an (by assumption) ?_
   |refine ab (λc=>?_) (λc=>?_))
 ·have h1: ¬ (f<0\/f>=ds.length):=by
   grind
  have j:f.toNat<ds.length:=by omega
  have g:ds[f.toNat]? =some ds[f.toNat]:=Ax j;have k:ds.getD f.toNat zD=ds[f.toNat]:=by rw[B2,g];rfl
  have a:oN ds f=ds[f.toNat]:=by unfold oN;rw[ao h1,k]
  have d:Cv ds f=true:=by unfold Cv;simp[h1]
  rw[a,d];refine⟨rfl,rfl,aj.jC H e (by simp) rfl ⟨by grind,aj.of ds[f.toNat] (f_ (H.fW i (by simp)) g) ?_⟩⟩
  repeat' (first
   |exact Go.RX.aK.all H
   |exact Ay (by first|rfl|decide+kernel) (Go.RX.aK.all H)
   |grind
   |refine aj.cA 0 H rfl rfl ?_
   |refine aj.at 0 H rfl rfl ?_
   |refine aM.go H λb w1 H=>?_
   |refine aC.all 0 H rfl rfl rfl λw1 H=>?_
   |refine aC.gJ 0 H rfl rfl rfl λw1 H=>?_
   |refine aC.one 0 H rfl rfl rfl λw1 H=>?_
   |with_reducible refine au.go H λw1 H=>?_
   |refine km ?_
   |refine ay (by assumption) ?_
   |refine an (by assumption) ?_
   |refine ab (λc=>?_) (λc=>?_))
section
variable {D G:List Nat} {w0 w:A1} {L:List (Nat×List AC)}
theorem VP (n:Nat):(B4 n [aa 0,aa 0,aa 0,aa 0]).flatten=flat eD (B4 n zD)++[]:=by
 rw[CL,lO];rfl
theorem Dc (H:aK D G w0 w L) (n:Int) {K:Option AB×Int×Unit->A1->Prop} (hb:n<1\/n>4096-> ∀w1,aK D G w0 w1 L->K (none,1,()) w1)
 (hg:1<=n->n<=4096-> ∀bp bf w1,aK D G w0 w1 ((bp,[.slice (af bf) n.toNat n.toNat])::(bf,flat eD (B4 n.toNat zD)++[])::L)->K (some ⟨bp,0,none⟩,0,()) w1):
 aA A2 72 (.bu [.one .ptr,.one (.int .i64)]) [aa n] w K:=by
 refine aA.go H λw1 H=>ai (C:=E0) (aT:=λ_=>[]) (AL (Da n w1 K) ?_);refine ab (λc=>au.go H λa H=>hb (by simpa using c) a H) (λc=>?_);have h1:1<=n/\n<=4096:=by simp only[Do,decide_eq_false_iff_not] at c;omega
 refine Od.go H rfl (by omega) (by omega) (by omega) (by omega) λbf a H=>?_;rw[VP] at H;exact aM.go H λbp d H=>au.go H λb H=>hg h1.1 h1.2 bp bf b H
theorem VQ (H:aK D G w0 w L) {bp bf n c:Nat} {ds:List DT} {rest:List AC} (g:bN w bp [.slice (af bf) n c]) (j:bN w bf (flat eD ds++rest)) (i:n=ds.length) (h0:0<n) (m:n<=4096) {K:Option AB->A1->Prop}
 (k: ∀a b d f w1,aK D G w0 w1 ((a,[.slice (af b) n d])::(b,flat eD ds++f)::L)->K (af a) w1):
 aD A2 54 (.el (.one .ptr)) [ag (af bp)] w K:=by
 refine ai (C:=E0) (aT:=λ_=>[]) (AL (VJ _ w K) ?_);refine⟨(n:Int),ae.of (s:= .el (.one (.int .i64))) λw' h=>r_ (g.ext h),ab (λc0=>?_) (λc0=>⟨rfl,rfl,aj.of (some ⟨bf,0,none⟩,n,c) (by rw[aY];exact g.oD rfl) λw1 h1=>?_⟩)⟩
 ·simp only[beq_iff_eq] at c0;omega
 ·refine mH.copy (H.ext h1) (e:=eD) (ys:=ds) (j.ext h1) ?_ i (by intro e;subst e;simp at i;omega) rfl rfl rfl (by omega) λb d f o H=>aM.go H λa p H=>au.go H λl H=>k a b d f l H;rw[FR (by rw[aG];exact DB _),Ef (by rw[aG];exact DB _)]
end
def cm (ds:List DT) (v:Int):Nat:=ds.countP λd=>d.1==v
def gM (ds:List DT) (v:Int):List Nat:=(D8 ds.length).filter λi=>match ds[i]? with
 |some d=>d.2.1==v
 |none=>false
theorem EP {ds:List DT} {v:Int} {i:Nat} {d:DT} (h:ds[i]? =some d):cm (ds.take (i+1)) v=cm (ds.take i) v+(if d.1=v then 1 else 0):=by
 unfold cm;rw[IR,h,List.countP_append];congr 1;simp
theorem qf {ds:List DT} {i:Nat} {v:Int} {Oo:DT->Int} {x:List AC} (h:(match ds[i]? with
 |some d=>if Oo d=v then some [aa (i:Nat)] else none
 |none=>none)=some x): ∃d,ds[i]? =some d/\Oo d=v/\x=[aa (i:Nat)]:=by
 split at h
 ·rename_i d a;split at h
  ·rename_i hs;cases h;exact⟨d,a,hs,rfl⟩
  ·cases h
 ·cases h
theorem Dd {ds:List DT} {i:Nat} {v:Int} {Oo:DT->Int} (hi:i<ds.length) (h:(match ds[i]? with
 |some d=>if Oo d=v then some [aa (i:Nat)] else none
 |none=>none)=none): ∃d,ds[i]? =some d/\Oo d≠v:=by
 rw[Ax hi] at h;refine⟨ds[i],Ax hi,?_⟩;intro hs;simp only[hs,if_true] at h;cases h
theorem EQ {w:A1} {bp bf n c:Nat} {ds:List DT} {rest:List AC} (k:bN w bp [.slice (af bf) n c]) (m:bN w bf (flat eD ds++rest)) (o:n=ds.length) (p:n<=4096) (v:Int):
 aD A2 30 (.el (.one (.int .i64))) [ag (af bp),aa v] w (λx w'=>x=(cm ds v:Int)/\Ext w w'):=by
 subst o;refine aQ (C:=E0) (aT:=uz) (AL (RZ _ v w _) ?_);have H:=At.start [] w;refine aM.go H λb w1 H=>aC.all 0 H rfl rfl rfl λz H=>tB H _ v λpc ic kc A H=>?_;refine An.go H (EO (v:=v) (pc:=pc) (ic:=ic) (kc:=kc) (bp:=bp) (bf:=bf) (c:=c) (rest:=rest) p)
  (λi=>[(ic,[.func (.func 105) #[] #[ag (af kc)]]),(pc,[ag (af bp)]),(kc,[aa v]),(b,[aa (cm (ds.take i) v:Nat)])])
  (λ_ _=>False) rfl ?_ ?_ ?_ ?_ ?_ ?_
 ·exact λB i w' H=>⟨H.get (i:=1) rfl,H.get (i:=0) rfl,H.get (i:=2) rfl,H.fW k (by simp),H.fW m (by simp)⟩
 ·intro i hi a;obtain⟨d,f,hs⟩:=Dd hi a;simp only[EP f,ao hs,Gt]
 ·intro i x hi a;obtain⟨d,f,hs,rfl⟩:=qf a;exact⟨((i:Nat),()),rfl⟩
 ·intro i x hi a r l rec h R g h1 _;obtain⟨d,f,hs,hx⟩:=qf a;refine DL.go g rfl (Cs.go g λwb H q=>aj.at 3 H rfl rfl (aC.all 3 H rfl rfl rfl λs H=>sO.next q H λt u=>h1 t ?_));have D:cm (ds.take i) v<=4096:=Dn List.countP_le_length (by rw[F4];omega);have e:aH .i64 ((cm (ds.take i) v:Nat):Int) 1=((cm (ds.take (i+1)) v:Nat):Int):=by
   rw[EP f,aw hs,av (by omega) (by omega)];rfl
  rw[<-e];exact u
 ·intro r rec h g;refine dF.none g λs H=>aj.at 3 H rfl rfl (sP.go H λE H=>?_);exact⟨by rw[J3],H.all⟩
 ·exact λj L' r rec h y _=>y.elim
theorem ER {ds:List DT} {v:Int} {i:Nat} {d:DT} (h:ds[i]? =some d):gM (ds.take (i+1)) v=gM (ds.take i) v++(if d.2.1=v then[i] else[]):=by
 have hi:i<ds.length:=(B1.1 h).1;unfold gM;rw[F4,F4,Jc (by omega),Jc (by omega),G1,I1];congr 1
 ·apply List.filter_congr;intro j a;have b:j<i:=by simpa using a
  rw[Gd (by omega),Gd b]
 ·simp only[GD,List.filter_nil,Gd (Nat.lt_succ_self i),h,beq_iff_eq]
theorem R5 {w:A1} {bp bf n c:Nat} {ds:List DT} {rest:List AC} (t:bN w bp [.slice (af bf) n c]) (y:bN w bf (flat eD ds++rest)) (z:n=ds.length) (A:n<=4096) (v:Int):
 aD A2 166 (.el (.one .slice)) [ag (af bp),aa v] w (λr w'=>lU w w' eI r ((gM ds v).map λi=>((i:Nat):Int))/\Ext w w'):=by
 subst z;refine aQ (C:=E0) (aT:=uA) (AL (R2 _ v w _) ?_);have H:=At.start [] w;refine aM.go H λkc w1 H=>aM.go H λb U H=>VL H _ _ λpc ic V H=>?_
 let a:Nat->List Int:=λi=>(gM (ds.take i) v).map λi=>((i:Nat):Int)
 have B: ∀i,(a i).length<=4096:=λi=>by
  simp only[a,GG];refine Dn (IM _ _) ?_;simp only[List.length_range,F4];omega
 let f:Option AB×Nat×Nat->List (Nat×List AC):=λs=>[(ic,[.func (.func 207) #[] #[ag (af kc)]]),(pc,[ag (af bp)]),(b,[.slice s.1 s.2.1 s.2.2]),(kc,[aa v])]
 let Inv:Nat->List (Nat×List AC)->Prop:=λi L'=> ∃s Ls,L'=Ls++f s/\((s=(none,0,0)/\a i=[]/\Ls=[])\/ ∃bs cs rs,s=(some ⟨bs,0,none⟩,(a i).length,cs)/\Ls=[(bs,flat eI (a i)++rs)]/\(flat eI (a i)++rs).length=cs*aF eI/\(a i).length<=cs)
 refine An.inv H (R3 (v:=v) (pc:=pc) (ic:=ic) (kc:=kc) (bp:=bp) (bf:=bf) (c:=c) (rest:=rest) A) Inv
  (λ_ _=>False) ⟨(none,0,0),[],rfl,.inl ⟨rfl,rfl,rfl⟩⟩ ?_ ?_ ?_ ?_ ?_ ?_
 ·rintro W i w' L' ⟨s,Ls,rfl, _⟩ H;have H:=H.sub (List.sublist_append_right Ls (f s));exact⟨H.get (i:=1) rfl,H.get (i:=0) rfl,H.get (i:=3) rfl,H.fW t (by simp),H.fW y (by simp)⟩
 ·rintro i L' hi g ⟨s,Ls,rfl,hs⟩;obtain⟨d,k,D⟩:=Dd (Oo:=λd=>d.2.1) hi g;have e:a (i+1)=a i:=by simp only[a,ER k,ao D,CL]
  exact⟨s,Ls,rfl,by rw[e];exact hs⟩
 ·intro i x hi g;obtain⟨d,k,hs,rfl⟩:=qf (Oo:=λd=>d.2.1) g;exact⟨((i:Nat),()),rfl⟩
 ·rintro i x L' hi g ⟨s,Ls,rfl,hs⟩ r l rec o R m h1 _;obtain⟨d,k,E,hx⟩:=qf (Oo:=λd=>d.2.1) g;have p:x.1=((i:Nat):Int):=by
   have h:[aa x.1]=[aa (i:Nat)]:=hx;simpa using h
  obtain⟨x1,u⟩:=x;simp only at p;subst p;have e:a (i+1)=a i++[((i:Nat):Int)]:=by simp only[a,ER k,aw E,FZ,List.map_cons,List.map_nil]
  have X:=B i;have q:(a (i+1)).length=(a i).length+1:=by rw[e];simp
  refine DL.go m rfl (Cs.go m λwb H F=>aj.of s ?_ (aM.go H λY G H=>λI J=>?_))
  ·exact(H.dp (b,[.slice s.1 s.2.1 s.2.2]) (CJ _ (by simp[f]))).oD rfl
  ·refine aK.grow (e:=eI) (x:=((i:Nat):Int)) (Ls:=Ls) (L0:=f s) (H.ext J) hs rfl rfl rfl (by omega) λbs cs rs Z K L H=>?_;refine aC.all 3 H rfl rfl rfl λw8 H=>sO.next F H λM N=>h1 _ M ⟨(some ⟨bs,0,none⟩,(a i).length+1,cs),[(bs,flat eI (a (i+1))++rs)],rfl,.inr ⟨bs,cs,rs,by rw[q],rfl,by rw[e];exact K,by rw[q];exact L⟩⟩ ?_
   rw[e];exact N
 ·rintro L' r rec o ⟨s,Ls,rfl,hs⟩ m;refine dF.none m λG H=>aj.of s ?_ (sP.go H λI H=>?_)
  ·exact(H.dp (b,[.slice s.1 s.2.1 s.2.2]) (CJ _ (by simp[f]))).oD rfl
  ·refine⟨?_,H.all⟩;have O:a ds.length=(gM ds v).map λi=>((i:Nat):Int):=by simp only[a,J3]
   rw[<-O];rcases hs with ⟨rfl,P,rfl⟩|⟨bs,cs,rs,rfl,rfl,Q,S⟩
   ·rw[P];exact lU.nil _ _ _
   ·refine⟨rfl,S,.inr ⟨bs, _,rfl,(H.own _ (DK _ (List.mem_singleton.2 rfl))).resolve_right (by simp),H.get (i:=0) rfl,Q,?_⟩⟩;rw[FR (by rw[aG];exact DB _),Ef (by rw[aG];exact DB _)]
 ·exact λj L' r rec o T _=>T.elim
def iO (ds:List DT):Option Nat:=ds.findIdx? λd=>d.1==0
def fl (ds:List DT) (k o:Int):Int:=match iO ds with
 |none=>0
 |some f=>if vI ds f (aO k o)=0 then(f:Int) else 0
def dX (ds:List DT) (k o:Int):Int:=if ds.length=0 then 10 else match iO ds with
 |none=>12
 |some f=>vI ds f (aO k o)
def dJ (ds:List DT) (k o:Int):List DT:=match iO ds with
 |none=>ds
 |some f=>dN ds f (aO k o)
theorem vq (ds:List DT) (k o:Int):(dJ ds k o).length=ds.length:=by
 unfold dJ;split
 ·rfl
 ·exact ji _ _ _
theorem vr {ds:List DT} (h: ∀(j:Nat) d,ds[j]? =some d->d.1≠0):iO ds=none:=by
 unfold iO;rw[List.findIdx?_eq_none_iff];intro d a;obtain⟨j,b⟩:=F2 a;simpa using h j d b
theorem Mg {ds:List DT} {i:Nat} {d:DT} (hi:ds[i]? =some d) (a:d.1=0) (h: ∀(j:Nat) d,j<i->ds[j]? =some d->d.1≠0):iO ds=some i:=by
 unfold iO;have b:i<ds.length:=(B1.1 hi).1;rw[List.findIdx?_eq_some_iff_getElem];refine⟨b,?_,λj c=>?_⟩
 ·have e:ds[i]=d:=(B1.1 hi).2;rw[e];simpa using a
 ·have:=h j ds[j] c (Ax (by omega));simpa using this
theorem VR {w:A1} {bp bf n c:Nat} {ds:List DT} {rest:List AC} (z:bN w bp [.slice (af bf) n c]) (M:bN w bf (flat eD ds++rest)) (I:bp≠bf) (N:n=ds.length) (J:n<=4096) (k o:Int):
 aD A2 172 (.bu [.one (.int .i64),.one (.int .i64)]) [ag (af bp),aa k,aa o] w
  (λv w'=>v=(fl ds k o,dX ds k o,())/\bN w' bf (flat eD (dJ ds k o)++rest)/\Fr [bf] w w'):=by
 subst N;refine aQ (C:=E0) (aT:=wH) (AL (VK _ k o w _) ?_);have H:=At.rX M;have A:bp∉[bf]:=by simpa using I
 refine aM.go H λb w1 H=>aM.go H λO W H=>aM.go H λP X H=>aM.go H λQ Y H=>aM.go H λS Z H=>aj.at 4 H rfl rfl ?_;refine⟨(ds.length:Int),ae.of (s:= .el (.one (.int .i64))) λw' h=>r_ ((H.fW z A).ext h),ab (λc0=>?_) (λc0=>aj.at 4 H rfl rfl ?_)⟩
 ·have h0:ds.length=0:=by simp only[beq_iff_eq] at c0;omega
  have a:ds=[]:=List.eq_nil_of_length_eq_zero h0;refine aC.all 1 H rfl rfl rfl λU H=>aC.all 0 H rfl rfl rfl λB H=>au.go H λq H=>aj.at 1 H rfl rfl (aj.at 0 H rfl rfl ⟨?_,?_,H.fr⟩)
  ·subst a;rfl
  ·subst a;exact H.get (i:=5) rfl
 have h0:ds.length≠0:=by simp only[beq_eq_false_iff_ne,ne_eq] at c0;omega
 refine tB H _ 0 λpc ic kc U H=>?_
 let T:Int->Int->List DT->List (Nat×List AC):=λx y l=>[(ic,[.func (.func 105) #[] #[ag (af kc)]]),(pc,[ag (af bp)]),(kc,[aa 0]),(S,[aa y]),(Q,[aa x]),(P,[aa o]),(O,[aa k]),(b,[ag (af bp)]),(bf,flat eD l++rest)]
 refine An.inv H (EO (v:=0) (pc:=pc) (ic:=ic) (kc:=kc) (bp:=bp) (bf:=bf) (c:=c) (rest:=rest) J)
  (λi L'=>L'=T 0 0 ds/\ ∀(j:Nat) d,j<i->ds[j]? =some d->d.1≠0)
  (λj L'=>j= .ret/\ ∃i:Nat,iO ds=some i/\L'=T (if vI ds i (aO k o)=0 then(i:Int) else 0) (vI ds i (aO k o)) (dN ds i (aO k o))) ⟨rfl,λj d g=>absurd g (by omega)⟩ ?_ ?_ ?_ ?_ ?_ ?_
 ·rintro D' i w' L' ⟨rfl, _⟩ H;exact⟨H.get (i:=1) rfl,H.get (i:=0) rfl,H.get (i:=2) rfl,H.fW z A,H.get (i:=8) rfl⟩
 ·rintro i L' hi p ⟨rfl,g⟩;obtain⟨d,a,hs⟩:=Dd (Oo:=λd=>d.1) hi p;refine⟨rfl,λj d' Au D=>?_⟩;by_cases e:j=i
  ·subst e;rw[a] at D;cases D;exact hs
  ·exact g j d' (by omega) D
 ·intro i x hi p;obtain⟨d,a,hs,rfl⟩:=qf (Oo:=λd=>d.1) p;exact⟨((i:Nat),()),rfl⟩
 ·rintro i ⟨x1,u⟩ L' hi p ⟨rfl,g⟩ r l rec B R m _ K;obtain⟨d,a,hs,hx⟩:=qf (Oo:=λd=>d.1) p;have V:x1=((i:Nat):Int):=by
   have h:[aa x1]=[aa (i:Nat)]:=hx;simpa using h
  subst V;have f:=Mg a hs g;refine DL.go m rfl (Cs.go m λwb H E=>aj.at 7 H rfl rfl (aj.at 6 H rfl rfl (aj.at 5 H rfl rfl ?_)));refine aA.D5 H 8 rfl (λq H=>Db (E.2.1.dA H z A) (H.get (i:=8) rfl) I J _ k o) λq H=>ab (λc=>?_) (λc=>?_)
  ·have hc: ¬ vI ds (i:Nat) (aO k o)=0:=by simpa using c
   refine aC.all 4 H rfl rfl rfl λF H=>aC.all 3 H rfl rfl rfl λL H=>sO.left E H λt G=>K _ _ t ⟨rfl,i,f,?_⟩ G;rw[ao hc];rfl
  ·have hc:vI ds (i:Nat) (aO k o)=0:=by simpa using c
   refine aC.all 4 H rfl rfl rfl λF H=>aC.all 3 H rfl rfl rfl λL H=>sO.left E H λt G=>K _ _ t ⟨rfl,i,f,?_⟩ G;rw[aw hc,hc];rfl
 ·rintro L' r rec B ⟨rfl,g⟩ m;have f:iO ds=none:=vr λj d a=>g j d (B1.1 a).1 a;refine dF.none m λq H=>aC.all 4 H rfl rfl rfl λF H=>aC.all 3 H rfl rfl rfl λL H=>sP.go H λt H=>aj.at 4 H rfl rfl (aj.at 3 H rfl rfl ⟨?_,?_,H.fr⟩)
  ·unfold fl dX;rw[f,ao h0]
  ·have:dJ ds k o=ds:=by unfold dJ;rw[f]
   rw[this];exact H.get (i:=8) rfl
 ·rintro j L' r rec B ⟨rfl,i,f,rfl⟩ m;refine dF.ret m λq H=>sP.go H λF H=>aj.at 4 H rfl rfl (aj.at 3 H rfl rfl ⟨?_,?_,H.fr⟩)
  ·unfold fl dX;rw[f,ao h0]
  ·have:dJ ds k o=dN ds i (aO k o):=by unfold dJ;rw[f]
   rw[this];exact H.get (i:=8) rfl
end Go.Proofs.YtlcenllcmeebhaaGreat.D
