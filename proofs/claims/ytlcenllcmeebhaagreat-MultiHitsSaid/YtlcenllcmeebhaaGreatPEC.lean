import Derived.Test.YtlcenllcmeebhaaGreatPEB
/-! What the statement leans on: texts joined and shortened by a program of mine. -/
set_option linter.unusedVariables false
set_option linter.unusedSimpArgs false
open Go renaming World->A2,Addr->AC,Value->AN,MapEntry->Al
open Go.Proofs.Tryz renaming prog->AA
open Eq renaming mpr->Ak
open List renaming sublist_cons_self->Av,getElem?_eq_getElem->B1,getElem?_eq_some_iff->B2,getD_eq_getElem?_getD->B3,set_set->B5,mem_append_right->B6,mem_cons_of_mem->B9,append_nil->BI,replicate->BQ,mem_map->Bs,range->Bx,mem_cons_self->C7,getElem?_set_self->C9,append_assoc->CX,mem_append_left->DA,length_cons->DB,length_nil->DE,sublist_append_left->DK,getElem?_set_ne->Dl,ext_getElem?->Dn,length_append->E4,take_of_length_le->E5,mem_cons->F1,mem_of_getElem?->FB,length_take->FM,getElem_mem->FN,perm_append_comm->FO,take_append_of_le_length->FP,map_append->FS,range_succ->FY,filter_cons->Fg,mem_range->Fp,length_map->Fu,length_set->Fv,set_append_left->G1,getElem?_of_mem->GD,getElem?_take_of_lt->GF,nodup_cons->Gj,mem_append->H4,filter_append->H5,mem_filter->H6,length_filter_le->H7,getElem?_append_right->HB,find?_range_eq_some->Hb,take_add_one->Hr,getElem?_map->I1,getElem?_eq_none->I2,take_length->IA
open And renaming intro->Ay
open Go.IntKind renaming i64->B4
open Nat renaming zero_add->B8,le_refl->Dd,le_trans->Do,zero_le->GG,blt_eq->GH,eq_of_beq_eq_true->GI,ne_of_beq_eq_false->GJ,min_eq_left->IR
open Go.Instr renaming findNow->C8,sameNow->Ia
open Bool renaming or_eq_true->Df,and_eq_true->Dk,or_eq_false_iff->Ds,not_eq_true'->Dz,and_eq_false_iff->GS,false_eq_true->Ga,true_eq_false->Gd,not_eq_false'->Gi,eq_iff_iff->If
namespace Go.Proofs.YtlcenllcmeebhaaGreat
set_option maxRecDepth 100000
open Go.RX
def tookS (fr pg wt lv:Int) (fd:FT) (ep:Bool) (er:Int) (el:Bool) (ef:Int):Int×Int×FT:=
 if(!ep)=true then(fr,-1,wY lv 4)
 else if(fM ep er el ef&&decide (lv>0))=true then(ef,aZ .i64 lv 1,fd)
 else if(el&&lv==1)=true then(fr,-1,xZ lv wt (aL .i64 ef (f_ pg 16)) ep er el ef)
 else if(!el&&decide (er>0)&&lv==0)=true then(fr,-1,xZ lv wt ef ep er el ef)
 else(fr,-1,wY lv 11)
section
variable {D G:List Nat} {w0 w:A2} {L:List (Nat×List AN)} {bk bp be:Nat} {fr pg wt lv:Int} {fd:FT} {s:Option AC×Nat×Nat} {ep:Bool} {er:Int} {el:Bool} {ef:Int}
theorem Qu (H:aJ D G w0 w L) (a j:Nat) (c:L[a]? =some (bp,[ag (ae bk)])) (d:L[j]? =some (bk,lT fr pg wt lv fd s)) {K:Unit->A2->Prop}
 (k: ∀b,aJ D G w0 b (L.set j (bk,lT fr pg wt (-1) (wY lv 4) s))->K () b):aC AA 95 (.bA []) [ag (ae bp)] w K:=by
 refine ai (C:=M1) (aS:=λ_=>[]) (Ak (Qm _ w K) ?_);exact aj.at a H c rfl (pT H j d 0 0 0 4 λf H=>au.go H λe H=>k e H)
theorem Qv (H:aJ D G w0 w L) (a j:Nat) (c:L[a]? =some (bp,[ag (ae bk)])) (d:L[j]? =some (bk,lT fr pg wt lv fd s)) {K:Unit->A2->Prop}
 (k: ∀b,aJ D G w0 b (L.set j (bk,lT fr pg wt (-1) (wY lv 11) s))->K () b):aC AA 102 (.bA []) [ag (ae bp)] w K:=by
 refine ai (C:=M1) (aS:=λ_=>[]) (Ak (Qr _ w K) ?_);exact aj.at a H c rfl (pT H j d 0 0 0 11 λf H=>au.go H λe H=>k e H)
theorem Qw (H:aJ D G w0 w L) (e a j:Nat) (f:L[e]? =some (be,[.bool ep,aa er,.bool el,aa ef])) (b:L[a]? =some (bp,[ag (ae bk)])) (c:L[j]? =some (bk,lT fr pg wt lv fd s)) (g:j≠a) {K:Unit->A2->Prop}
 (k: ∀d,aJ D G w0 d (L.set j (bk,lT ef pg wt (aZ .i64 lv 1) fd s))->K () d):aC AA 97 (.bA []) [ag (ae be),ag (ae bp)] w K:=by
 refine ai (C:=M1) (aS:=λ_=>[]) (Ak (Qn _ _ w K) ?_);have h:j<L.length:=(B2.1 c).1;refine aj.at a H b rfl (aj.at a H b rfl ⟨rfl,aj.cw e H f rfl (aj.at a H b rfl ⟨rfl,rfl,aj.cw j H c rfl ⟨rfl,rfl,?_⟩⟩)⟩);refine az.fK j H c rfl rfl λd H=>⟨trivial,?_,rfl,rfl,?_⟩
 ·exact dU (H.get (i:=a) (by rw[Dl g];exact b)) rfl
 ·refine az.fK j H (C9 h) rfl rfl λm H=>au.go H λl H=>k l ?_;rw[B5] at H;exact H
theorem Qx (H:aJ D G w0 w L) (a b j:Nat) (c:L[a]? =some (be,[.bool ep,aa er,.bool el,aa ef])) (d:L[b]? =some (bp,[ag (ae bk)])) (e:L[j]? =some (bk,lT fr pg wt lv fd s)) {K:Unit->A2->Prop}
 (k: ∀f,aJ D G w0 f (L.set j (bk,lT fr pg wt (-1) (xZ lv wt (aL .i64 ef (f_ pg 16)) ep er el ef) s))->K () f):aC AA 98 (.bA []) [ag (ae bp),ag (ae be)] w K:=by
 refine ai (C:=M1) (aS:=λ_=>[]) (Ak (Qo _ _ w K) ?_);have g:gN 1=16:=rfl;rw[g];refine aj.at b H d rfl ⟨rfl,aj.cw a H c rfl (aj.at b H d rfl ⟨rfl,rfl,aj.cw j H e rfl ⟨trivial,by decide,aj.at a H c rfl ?_⟩⟩)⟩;exact OX H j e _ ep er el ef λi H=>au.go H λh H=>k h H
theorem Qy (H:aJ D G w0 w L) (a b j:Nat) (c:L[a]? =some (be,[.bool ep,aa er,.bool el,aa ef])) (e:L[b]? =some (bp,[ag (ae bk)])) (f:L[j]? =some (bk,lT fr pg wt lv fd s)) {K:Unit->A2->Prop}
 (k: ∀d,aJ D G w0 d (L.set j (bk,lT fr pg wt (-1) (xZ lv wt ef ep er el ef) s))->K () d):aC AA 101 (.bA []) [ag (ae bp),ag (ae be)] w K:=by
 refine ai (C:=M1) (aS:=λ_=>[]) (Ak (Qq _ _ w K) ?_);refine aj.at b H e rfl ⟨rfl,aj.cw a H c rfl (aj.at a H c rfl ?_)⟩;exact OX H j f _ ep er el ef λh H=>au.go H λg H=>k g H
theorem UE (H:aJ D G w0 w L) (j:Nat) (o:L[j]? =some (bk,lT fr pg wt lv fd s)) (ep:Bool) (er:Int) (el:Bool) (ef:Int) {K:Unit->A2->Prop}
 (k: ∀E,aJ D G w0 E (L.set j (bk,lT (tookS fr pg wt lv fd ep er el ef).1 pg wt (tookS fr pg wt lv fd ep er el ef).2.1 (tookS fr pg wt lv fd ep er el ef).2.2 s))->K () E):
 aA AA 61 (.bA []) [ag (ae bk),.agg ⟨[.bool ep,aa er,.bool el,aa ef]⟩] w K:=by
 refine aA.go H λw1 H=>ai (C:=M3) (aS:=vY) (Ak (UB _ ep er el ef w1 K) ?_);refine aM.go H λbp E H=>aM.go H λbe V H=>⟨rfl,aj.cw 0 H rfl rfl (aj.at 0 H rfl rfl ⟨trivial,aj.at 1 H rfl rfl ⟨λ_=>rfl,λ_=>rfl,aj.cw (j+2) H o rfl ⟨rfl,aj.cw 0 H rfl rfl (aj.at 1 H rfl rfl ⟨λ_=>rfl,λ_=>rfl,aj.cw (j+2) H o rfl ⟨rfl,aj.cw 0 H rfl rfl ⟨λ_=>rfl,aj.cw 0 H rfl rfl (aj.at 1 H rfl rfl ⟨λ_=>rfl,λ_=>rfl,aj.cw (j+2) H o rfl ?_⟩)⟩⟩⟩)⟩⟩⟩)⟩;refine aM.go H λbs W H=>?_;dsimp only at H ⊢;generalize J:(!ep)=c0 at H;generalize M:(fM ep er el ef&&decide (lv>0))=c1 at H;generalize N:(el&&lv==1)=c2 at H;generalize O:(!el&&decide (er>0)&&lv==0)=c3 at H;have g:tookS fr pg wt lv fd ep er el ef=if c0=true then(fr,-1,wY lv 4) else if c1=true then(ef,aZ .i64 lv 1,fd) else if c2=true then(fr,-1,xZ lv wt (aL .i64 ef (f_ pg 16)) ep er el ef) else if c3=true then(fr,-1,xZ lv wt ef ep er el ef) else(fr,-1,wY lv 11):=by
  unfold tookS;rw[J,M,N,O]
 clear J M N O;refine⟨λn s' w'=> ∃i:Nat,s'.1=i/\n+i=5/\((0<i->c0=false)/\(1<i->c1=false)/\(2<i->c2=false)/\(3<i->c3=false)/\i<5)/\aJ D G w0 w' ((bs,[.bool c0,.func (.func 95) ⟨[]⟩ ⟨[ag (ae bp)]⟩,.bool c1,.func (.func 97) ⟨[]⟩ ⟨[ag (ae be),ag (ae bp)]⟩,
  .bool c2,.func (.func 98) ⟨[]⟩ ⟨[ag (ae bp),ag (ae be)]⟩,.bool c3,.func (.func 101) ⟨[]⟩ ⟨[ag (ae bp),ag (ae be)]⟩,.bool true,.func (.func 102) ⟨[]⟩ ⟨[ag (ae bp)]⟩])::(be,[.bool ep,aa er,.bool el,aa ef])::(bp,[ag (ae bk)])::L),
  ⟨5,λS T=>⟨0,rfl,rfl,⟨λh=>absurd h (by decide),λh=>absurd h (by decide),λh=>absurd h (by decide),λh=>absurd h (by decide),by decide⟩,H.ext T⟩⟩,?_⟩
 clear H;rintro n ⟨X,u⟩ S ⟨i,hi,Y,⟨b,l,F,U,Z⟩,H⟩;simp only at hi;subst hi;dsimp only;have m: ∀{x y z q:Nat×List AN},(x::y::z::q::L)[j+4]? =some (bk,lT fr pg wt lv fd s):=o;have fin: ∀{x y z q:Nat×List AN} {d:A2} {P Q:Int} {R:FT},tookS fr pg wt lv fd ep er el ef=(P,Q,R)->aJ D G w0 d (x::y::z::q::L.set j (bk,lT P pg wt Q R s))->K () d:=λe H=>by
  rw[e] at k;exact k _ ((((H.sub (Av _ _)).sub (Av _ _)).sub (Av _ _)).sub (Av _ _))
 have p:aL .i64 (i:Int) 1=((i+1:Nat):Int):=by rw[ax (by omega) (by omega)];rfl
 rcases(by omega:i=0\/i=1\/i=2\/i=3\/i=4) with rfl|rfl|rfl|rfl|rfl
 ·refine aB rfl ⟨⟨rfl,by decide,by decide⟩,aj.cw 0 H rfl rfl (aM.go H λr t H=>az.all 0 H rfl rfl rfl λv H=>⟨rfl,aj.cw 0 H rfl rfl (ab (λc=>⟨rfl,aj.cw 0 H rfl rfl ?_⟩) (λc I f=>⟨n - 1,by omega,1,p,by omega,⟨λ_=>c,λh=>absurd h (by decide),λh=>absurd h (by decide),λh=>absurd h (by decide),by decide⟩,(H.sub (Av _ _)).ext f⟩))⟩)⟩;unfold zW;refine λd a=>⟨_,⟨[]⟩,⟨[ag (ae bp)]⟩,rfl,by kernel_rfl,Qu (H.ext a) 3 (j+4) rfl m λA H=>au.go H λB H=>fin ?_ H⟩;rw[g,av c]
 ·refine aB rfl ⟨⟨rfl,by decide,by decide⟩,aj.cw 0 H rfl rfl (aM.go H λr t H=>az.all 0 H rfl rfl rfl λv H=>⟨rfl,aj.cw 0 H rfl rfl (ab (λc=>⟨rfl,aj.cw 0 H rfl rfl ?_⟩) (λc I f=>⟨n - 1,by omega,2,p,by omega,⟨λ_=>b (by decide),λ_=>c,λh=>absurd h (by decide),λh=>absurd h (by decide),by decide⟩,(H.sub (Av _ _)).ext f⟩))⟩)⟩;unfold zW;refine λd a=>⟨_,⟨[]⟩,⟨[ag (ae be),ag (ae bp)]⟩,rfl,by kernel_rfl,Qw (H.ext a) 2 3 (j+4) rfl rfl m (by omega) λA H=>au.go H λB H=>fin ?_ H⟩;rw[g,ao (by rw[b (by decide)];decide),av c]
 ·refine aB rfl ⟨⟨rfl,by decide,by decide⟩,aj.cw 0 H rfl rfl (aM.go H λr t H=>az.all 0 H rfl rfl rfl λv H=>⟨rfl,aj.cw 0 H rfl rfl (ab (λc=>⟨rfl,aj.cw 0 H rfl rfl ?_⟩) (λc I f=>⟨n - 1,by omega,3,p,by omega,⟨λ_=>b (by decide),λ_=>l (by decide),λ_=>c,λh=>absurd h (by decide),by decide⟩,(H.sub (Av _ _)).ext f⟩))⟩)⟩;unfold zW;refine λd a=>⟨_,⟨[]⟩,⟨[ag (ae bp),ag (ae be)]⟩,rfl,by kernel_rfl,Qx (H.ext a) 2 3 (j+4) rfl rfl m λA H=>au.go H λB H=>fin ?_ H⟩;rw[g,ao (by rw[b (by decide)];decide),ao (by rw[l (by decide)];decide),av c]
 ·refine aB rfl ⟨⟨rfl,by decide,by decide⟩,aj.cw 0 H rfl rfl (aM.go H λr t H=>az.all 0 H rfl rfl rfl λv H=>⟨rfl,aj.cw 0 H rfl rfl (ab (λc=>⟨rfl,aj.cw 0 H rfl rfl ?_⟩) (λc I f=>⟨n - 1,by omega,4,p,by omega,⟨λ_=>b (by decide),λ_=>l (by decide),λ_=>F (by decide),λ_=>c,by decide⟩,(H.sub (Av _ _)).ext f⟩))⟩)⟩;unfold zW;refine λd a=>⟨_,⟨[]⟩,⟨[ag (ae bp),ag (ae be)]⟩,rfl,by kernel_rfl,Qy (H.ext a) 2 3 (j+4) rfl rfl m λA H=>au.go H λB H=>fin ?_ H⟩;rw[g,ao (by rw[b (by decide)];decide),ao (by rw[l (by decide)];decide),ao (by rw[F (by decide)];decide),av c]
 ·refine aB rfl ⟨⟨rfl,by decide,by decide⟩,aj.cw 0 H rfl rfl (aM.go H λr t H=>az.all 0 H rfl rfl rfl λv H=>⟨rfl,aj.cw 0 H rfl rfl (aB rfl ⟨rfl,aj.cw 0 H rfl rfl ?_⟩)⟩)⟩;unfold zW;refine λd a=>⟨_,⟨[]⟩,⟨[ag (ae bp)]⟩,rfl,by kernel_rfl,Qv (H.ext a) 3 (j+4) rfl m λA H=>au.go H λB H=>fin ?_ H⟩;rw[g,ao (by rw[b (by decide)];decide),ao (by rw[l (by decide)];decide),ao (by rw[F (by decide)];decide),ao (by rw[U (by decide)];decide)]
end
def BO (Ls:List (Nat×List AN)) (s:Option AC×Nat×Nat) (xs:List Int):Prop:=
 (s=(none,0,0)/\xs=[]/\Ls=[])\/ ∃bs c rest,s=(some ⟨bs,0,none⟩,xs.length,c)/\Ls=[(bs,flat eI xs++rest)]/\(flat eI xs++rest).length=c*aD eI/\xs.length<=c
def okW (ws:List Int):Prop:= ∀x∈ws,0<=x/\x<18446744073709551616
def bz (ws:List Int) (pg wt:Int) (x:Int×Int×FT):Int×Int×FT:=
 if x.2.1= -1 then x
 else if(!uz (B (dv ws (dZ x.1 pg x.2.1))).toNat||BN ws (dZ x.1 pg x.2.1) != 0)=true then(x.1,-1,wY x.2.1 11)
 else tookS x.1 pg wt x.2.1 x.2.2 (HZ (B (dv ws (dZ x.1 pg x.2.1))).toNat) (FA (B (dv ws (dZ x.1 pg x.2.1))).toNat) (JT (B (dv ws (dZ x.1 pg x.2.1))).toNat) (Fi (B (dv ws (dZ x.1 pg x.2.1))).toNat)
theorem Gb {ws:List Int} (h:okW ws) (i:Int):0<=dv ws i/\dv ws i<18446744073709551616:=by
 unfold dv;split
 ·rename_i hi;rw[i_] at hi;rw[B3,B1 (by omega)];exact h _ (FN _)
 ·exact⟨by decide,by decide⟩
section
variable {D G:List Nat} {w0 w:A2} {L L0 Ls:List (Nat×List AN)} {bk bm bw n c:Nat} {ca la fr pg wt lv:Int} {fd:FT} {s:Option AC×Nat×Nat} {ws xs:List Int} {rest:List AN}
theorem Qz (hb:bN w bk (lT fr pg wt lv fd s)) (a:lv≠ -1):aC AA 58 (.el (.agg sA)) [ag (ae bk)] w (λx w'=>x=(1,dZ fr pg lv,0,0,())/\Ext w w'):=by
 refine aQ (C:=M1) (aS:=λ_=>[]) (Ak (Ql _ w _) ?_);have H:=At.start [] w;refine aM.go H λb c H=>⟨λ_=>rfl,λ_=>rfl,aj.lf H hb (by simp) rfl ⟨λ_=>rfl,λ_=>rfl,aj.lf H hb (by simp) rfl (an (by simp[a]) ?_)⟩⟩;refine⟨rfl,rfl,aj.lf H hb (by simp) rfl ⟨rfl,rfl,aj.lf H hb (by simp) rfl ⟨rfl,rfl,aj.lf H hb (by simp) rfl ⟨trivial,az.all 0 H rfl rfl rfl λd H=>au.go H λe H=>aj.at 0 H rfl rfl ⟨rfl,H.all⟩⟩⟩⟩⟩
theorem D9 (H:At G w0 w ((bk,lT fr pg wt lv fd s)::(bm,l5 bw n c ca la)::(bw,flat eW ws++rest)::(Ls++L0))) (r:BO Ls s xs) (L:xs.length<=1000) (t:n=ws.length) (h0:0<n) (u:okW ws) (d:lv≠ -1) {K:Bool->A2->Prop}
 (k: ∀e g s',BO g s' (xs++[fr])->At G w0 e ((bk,lT (bz ws pg wt (fr,lv,fd)).1 pg wt (bz ws pg wt (fr,lv,fd)).2.1 (bz ws pg wt (fr,lv,fd)).2.2 s')::(bm,l5 bw n c (wM ws (dZ fr pg lv) ca) la)::(bw,flat eW ws++rest)::(g++L0))->K ((bz ws pg wt (fr,lv,fd)).2.1== -1) e):
 aA AA 22 (.el (.one .bool)) [ag (ae bk),ag (ae bm)] w K:=by
 refine aA.go H λw1 H=>ai (C:=M1) (aS:=λ_=>[]) (Ak (Qs _ _ w1 K) ?_);refine⟨λ_=>rfl,λ_=>rfl,aj.cw 0 H rfl rfl (an rfl ⟨rfl,rfl,aj.cw 0 H rfl rfl (an (by simp[d]) ?_)⟩)⟩;refine⟨(1,dZ fr pg lv,0,0,()),af.of (s:= .el (.agg sA)) λw' h'=>Qz ((H.get (i:=0) rfl).ext h') d,?_⟩;refine aa5 H rfl 1 2 rfl rfl (by decide) t h0 (dZ fr pg lv) 0 0 λe H=>?_;refine aM.go H λb M H=>az.all 0 H rfl rfl rfl λN H=>⟨rfl,rfl,aj.cw 1 H rfl rfl ⟨rfl,rfl,aj.cw 1 H rfl rfl (aM.go H λh O H=>λz A=>?_)⟩⟩;have H:=H.ext A;dsimp only at H ⊢;generalize hv:dv ws (dZ fr pg lv)=v at H ⊢;generalize D:BN ws (dZ fr pg lv)=er at H ⊢;have j:0<=v/\v<18446744073709551616:=by rw[<-hv];exact Gb u _
 have H:At G w0 z ([(h,cellsOf eI fr)]++([(b,[ay v,.bool false,aa er]),(bk,lT fr pg wt lv fd s),(bm,l5 bw n c (wM ws (dZ fr pg lv) ca) la),(bw,flat eW ws++rest)]++(Ls++L0))):=H;have H:=H.perm (L':=(h,cellsOf eI fr)::(Ls++([(b,[ay v,.bool false,aa er]),(bk,lT fr pg wt lv fd s),(bm,l5 bw n c (wM ws (dZ fr pg lv) ca) la),(bw,flat eW ws++rest)]++L0))) (.cons _ (by
  rw[<-CX, <-CX];exact List.Perm.append_right _ FO))
 refine aJ.grow H r rfl rfl rfl (by omega) λbs m a P E F H=>⟨rfl,rfl,az.fK 2 H rfl rfl rfl λQ H=>⟨rfl,aj.cw 1 H rfl rfl ?_⟩⟩;have I:U (B v)=v:=BU j.1 j.2;refine⟨I,aM.go H λR S H=>az.all 0 H rfl rfl rfl λT H=>⟨λ_=>rfl,aj.cw 2 H rfl rfl ?_⟩⟩;have o:bz ws pg wt (fr,lv,fd)=if(!uz (B v).toNat||er != 0)=true then(fr,-1,wY lv 11) else tookS fr pg wt lv fd (HZ (B v).toNat) (FA (B v).toNat) (JT (B v).toNat) (Fi (B v).toNat):=by
  unfold bz;simp only[hv,D];rw[ao d]
 have p:BO [(bs,flat eI (xs++[fr])++a)] (some ⟨bs,0,none⟩,xs.length+1,m) (xs++[fr]):= .inr ⟨bs,m,a,by rw[E4];rfl,rfl,E,by rw[E4];exact F⟩;have q: ∀{w:A2} {x y:Nat×List AN} {l:List AN},At G w0 w (x::(bs,flat eI (xs++[fr])++a)::y::(bk,l)::(bm,l5 bw n c (wM ws (dZ fr pg lv) ca) la)::(bw,flat eW ws++rest)::L0)->At G w0 w ((bk,l)::(bm,l5 bw n c (wM ws (dZ fr pg lv) ca) la)::(bw,flat eW ws++rest)::([(bs,flat eI (xs++[fr])++a)]++L0)):=λ{w x y l} H=>by
  have H:=H.sub (Av _ _);have H:=H.sub (L':=[(bs,flat eI (xs++[fr])++a)]++([(bk,l),(bm,l5 bw n c (wM ws (dZ fr pg lv) ca) la),(bw,flat eW ws++rest)]++L0)) (.cons_cons _ (Av _ _));refine H.perm ?_;refine List.Perm.trans (l₂:=[(bk,l),(bm,l5 bw n c (wM ws (dZ fr pg lv) ca) la),(bw,flat eW ws++rest)]++([(bs,flat eI (xs++[fr])++a)]++L0)) (.refl _) ?_;rw[<-CX, <-CX];exact List.Perm.append_right _ FO
 refine ab (λc1=>?_) (λc1=>aj.at 0 H rfl rfl ?_)
 ·rw[o,av c1] at k;exact pT H 3 rfl 0 0 0 11 λJ H=>au.go H λf H=>k f _ _ p (q H)
 ·rw[o,ao (by rw[c1];decide)] at k;refine UE H 3 rfl _ _ _ _ λJ H=>⟨rfl,rfl,aj.cw 3 H rfl rfl (au.go H λf H=>k f _ _ p (q H))⟩
theorem UF (hb:bN w bk (lT fr pg wt lv fd s)):aC AA 24 (.bA [.agg sF,.one .bool]) [ag (ae bk)] w (λx w'=>x=(if lv= -1 then(fd,true,()) else((0,0,0,0,()),false,()))/\Ext w w'):=by
 obtain⟨f0,f1,f2,f3,f⟩:=fd;refine aQ (C:=M1) (aS:=λ_=>[]) (Ak (UC _ w _) ?_);have H:=At.start [] w;refine aM.go H λb g H=>⟨λ_=>rfl,λ_=>rfl,aj.lf H hb (by simp) rfl ⟨λ_=>rfl,λ_=>rfl,aj.lf H hb (by simp) rfl (ab (λc=>?_) (λc=>?_))⟩⟩
 ·have a:lv≠ -1:=by simpa using c
  rw[ao a];exact az.all 0 H rfl rfl rfl λd H=>au.go H λe H=>aj.at 0 H rfl rfl ⟨rfl,H.all⟩
 ·have a:lv= -1:=by simpa using c
  rw[av a];refine⟨rfl,rfl,aj.lf (x:=(f0,f1,f2,f3,())) H hb (by simp) rfl ?_⟩;exact az.all 0 H rfl rfl rfl λd H=>au.go H λe H=>aj.at 0 H rfl rfl ⟨rfl,H.all⟩
def rB (f p t:Int):Bool:=decide (dZ f p 3<0)||decide (t<0)||decide (t>7)
theorem IY (H:aJ D G w0 w L) (f p t:Int) {K:Option AC->A2->Prop} (hb:rB f p t=true-> ∀w1,aJ D G w0 w1 L->K none w1)
 (d:rB f p t=false-> ∀bk w1,aJ D G w0 w1 ((bk,lT f p t 3 (0,0,0,0,()) (none,0,0))::L)->K (ae bk) w1):
 aA AA 20 (.el (.one .ptr)) [aa f,aa p,aa t] w K:=by
 refine aA.go H λw1 H=>ai (C:=M1) (aS:=λ_=>[]) (Ak (Uz f p t w1 K) ?_);refine aM.go H λb e H=>⟨trivial,ab (λc=>au.go H λa H=>hb c a (H.sub (Av _ _))) (λc=>au.go H λa H=>d c b a H)⟩
end
section
variable {D G:List Nat} {w0 w:A2}
theorem _root_.Go.RX.aJ.aa6 {e:El} {s:Option AC×Nat×Nat} {xs ys:List e.T} {b U:Nat} {I:List AN} {Ls L0:List (Nat×List AN)} (H:aJ D G w0 w ((b,flat e ys++I)::(Ls++L0))) (d:ys≠[])
 (o:(s=(none,0,0)/\xs=[]/\Ls=[])\/ ∃bs c rest,s=(some ⟨bs,0,none⟩,xs.length,c)/\Ls=[(bs,flat e xs++rest)]/\(flat e xs++rest).length=c*aD e/\xs.length<=c)
 (V:gW e=true) {t:TypeId} {size bytes:Nat} {z:Array AN} (q:size=aD e) (W:z.size=aD e) (hb:(xs.length+ys.length)*bytes<=140737488355328)
 {R:Option AC×Nat×Nat->A2->Prop} (k: ∀bs c rest w',(flat e (xs++ys)++rest).length=c*aD e->(xs++ys).length<=c->aJ D G w0 w' ((bs,flat e (xs++ys)++rest)::L0)->R (some ⟨bs,0,none⟩,(xs++ys).length,c) w'):
 mD w t size bytes z s (some ⟨b,0,none⟩,ys.length,U) R:=by
 subst q;have X:(vA 0 w).heap.size=0:=iD (GG _);have Y:lS (vA 0 w) w e s xs:=by
  rcases o with ⟨rfl,rfl, _⟩|⟨bs,c,rest,rfl,rfl,h1,v⟩
  ·exact lS.nil _ _ _
  ·refine⟨rfl,v,.inr ⟨bs, _,rfl,by rw[X];exact GG _,H.get (i:=1) rfl,h1,?_⟩⟩;rw[FP (by rw[aF];exact Dd _),E5 (by rw[aF];exact Dd _)]
 have Z:bN w b (flat e ys++I):=H.get (i:=0) rfl;refine lJ (ys:=ys) Y (qa (GG _)) V rfl ?_ W hb λs' w' xS g J q K=>?_
 ·refine Z.oE (aF e ys) λj hj=>?_;rw[B8,List.getElem?_append_left (by rw[aF];exact hj)]
 ·obtain⟨p,n,c⟩:=s';obtain⟨h1,v,L⟩:=xS;simp only at h1 v L K;have hyl:0<ys.length:=List.length_pos_iff.2 d;have hlen:(xs++ys).length=xs.length+ys.length:=by simp
  rcases L with ⟨_,M, _⟩|⟨bs,l,a1, _,a3,a4,a5⟩
  ·simp at M;exact absurd M.2 d
  ·subst a1;subst h1;have el:l=flat e (xs++ys)++l.drop ((xs++ys).length*aD e):=by rw[<-a5,List.take_append_drop]
   refine k bs c (l.drop ((xs++ys).length*aD e)) w' (by rw[<-el];exact a4) v ?_;rw[<-el];have hG': ∃C,Fr C w w'/\(∀y∈C,y∈Ls.map (·.1)):=by
    rcases o with ⟨rfl, _,rfl⟩|⟨bo,co,N,rfl,rfl, _, _⟩
    ·exact⟨[],⟨g.os,g.tape,g.output,q,λy d _=>J y d (λa E=>by cases E)⟩,λy d=>by cases d⟩
    ·exact⟨[bo],⟨g.os,g.tape,g.output,q,λy d hn=>J y d (λa E=>by cases E;simpa using hn)⟩,λy d=>by simpa using d⟩
   obtain⟨C,O,F⟩:=hG';have x:=H.nd;simp only[List.map_cons,FS,Gj,List.nodup_append,H4] at x;have P: ∀y∈Ls.map (·.1),w0.heap.size<=y\/y∈G:=λy d=>by
    obtain⟨u,m,rfl⟩:=Bs.1 d;exact H.own u (B9 _ (DA _ m))
   have Q:bs∈Ls.map (·.1)\/w.heap.size<=bs:=by
    rcases K with ⟨a,f,A⟩|⟨a,f,A⟩|f
    ·cases f;rcases o with ⟨rfl, _, _⟩|⟨bo,co,N,rfl,rfl, _, _⟩
     ·cases A
     ·cases A;exact .inl (by simp)
    ·cases f;exact .inr A
    ·rcases o with ⟨rfl,rfl, _⟩|⟨bo,co,N,rfl,rfl, _, _⟩
     ·cases f
     ·have S:=congrArg (λz=>z.2.1) f;simp at S;exact absurd S d
   refine H.frame O (λy d=>P y (F y d)) (λr hr d=>?_) (λy d=>?_) (λy d=>?_) ?_
   ·obtain⟨u,m,f⟩:=Bs.1 (F r d);exact aJ.db (H.dm u (B9 _ (DA _ m))) (H.pO r hr).2 (λ_ _ _ hc=>by cases hc) f
   ·rcases F1.1 d with rfl|d
    ·exact a3
    ·refine O.dm (λB=>?_) (H.dm y (B9 _ (B6 _ d)));exact x.2.2.2 y.1 (F _ B) y.1 (Bs.2 ⟨y,d,rfl⟩) rfl
   ·rcases F1.1 d with rfl|d
    ·rcases Q with h|h
     ·exact P _ h
     ·exact .inl (Do H.fr.size h)
    ·exact H.own y (B9 _ (B6 _ d))
   ·refine Gj.2 ⟨λB=>?_,x.2.2.1⟩;rcases Q with h|h
    ·exact x.2.2.2 bs h bs B rfl
    ·obtain⟨u,m,f⟩:=Bs.1 B;have:=(H.dm u (B9 _ (B6 _ m))).lt;simp only at f h;omega
end
abbrev mE (br n c:Nat):List AN:=[.slice (ae br) n c]
def l6 (gs:List GT) (i:Int):Option Nat:=if 0<=i/\i<gs.length/\gs.getD i.toNat zG≠zG then some i.toNat else none
def wZ (gs:List GT) (i:Int):GT:=match l6 gs i with
 |some k=>gs.getD k zG
 |none=>zG
def gX (gs:List GT) (i g:Int) (b:Bool):Int:=match l6 gs i with
 |none=>4
 |some k=>if((gs.getD k zG).2.2.1 != g||b&& !(gs.getD k zG).2.2.2.1)=true then 7 else if(gs.getD k zG).2.2.2.2.1=1000 then 3 else 0
def fl (x:GT) (n:Int):GT:=(x.1,x.2.1,x.2.2.1,x.2.2.2.1,x.2.2.2.2.1+n,())
def d_ (gs:List GT) (i g:Int) (b:Bool):List GT:=if gX gs i g b=0 then gs.set i.toNat (fl (gs.getD i.toNat zG) 1) else gs
def mz (gs:List GT) (i g:Int):Int:=match l6 gs i with
 |none=>4
 |some k=>if(gs.getD k zG).2.2.1≠g then 7 else if(gs.getD k zG).2.2.2.2.1=0 then 6 else 0
def eM (gs:List GT) (i g:Int):List GT:=if mz gs i g=0 then gs.set i.toNat (fl (gs.getD i.toNat zG) (-1)) else gs
def qK (gs:List GT) (i o:Int):Int:=match l6 gs i with
 |none=>4
 |some k=>if(gs.getD k zG).1≠o then 7 else if(gs.getD k zG).2.2.2.2.1>0 then 9 else 0
def lz (gs:List GT) (i o:Int):List GT:=if qK gs i o=0 then gs.set i.toNat zG else gs
def de (gs:List GT) (p:GT->Bool) (n:Nat):List Int:=((Bx n).filter λ(i:Nat)=>p (gs.getD i zG)).map λ(i:Nat)=>(i:Int)
def kq (o q t:Int) (x:GT):Bool:=o==x.1&&(q==x.2.1&&t==x.2.2.1)
def e8 (x:GT):Bool:=decide (x=zG)
def oK (g:Int) (x:GT):Bool:= !e8 x&&(x.1==g||x.2.2.1==g)
def lA (gs:List GT) (o q t:Int):Int:=
 if(!gG o|| !gG t||o==t||decide (q<0)||decide (q>=65536))=true then 1
 else if de gs (kq o q t) gs.length≠[] then 5 else if de gs e8 gs.length=[] then 3 else 0
def kz (gs:List GT) (o q t:Int):Int:=if lA gs o q t=0 then(de gs e8 gs.length).headD 0 else 0
def jY (gs:List GT) (o q t:Int) (b:Bool):List GT:=if lA gs o q t=0 then gs.set (kz gs o q t).toNat (o,q,t,b,0,()) else gs
def cM (gs:List GT) (g:Int):List GT:=gs.map λx=>if oK g x=true then zG else x
theorem QA (x:GT):mK x.1 x.2.1 x.2.2.1 x.2.2.2.1 x.2.2.2.2.1=e8 x:=rfl
theorem rY (gs:List GT) (p:GT->Bool) (n:Nat):de gs p (n+1)=de gs p n++(if p (gs.getD n zG)=true then[(n:Int)] else[]):=by
 unfold de;rw[FY,H5,FS];by_cases h:p (gs.getD n zG)=true
 ·rw[av h,Fg,av h];rfl
 ·rw[ao h,Fg,ao h];rfl
theorem qd {gs:List GT} {p:GT->Bool} {n:Nat} {x:Int}:x∈de gs p n<-> ∃i:Nat,i<n/\p (gs.getD i zG)=true/\x=(i:Int):=by
 unfold de;simp only[Bs,H6,Fp];constructor
 ·rintro⟨i,⟨h1,a⟩,rfl⟩;exact⟨i,h1,a,rfl⟩
 ·rintro⟨i,h1,a,rfl⟩;exact⟨i,⟨h1,a⟩,rfl⟩
theorem qe (gs:List GT) (p:GT->Bool) (n:Nat):(de gs p n).length<=n:=by
 unfold de;rw[Fu];exact Do (H7 _ _) (by simp)
theorem lF {gs:List GT} {i:Int} {k:Nat} (h:l6 gs i=some k):0<=i/\i<gs.length/\k=i.toNat/\gs[k]? =some (gs.getD k zG)/\gs.getD k zG≠zG:=by
 unfold l6 at h;split at h
 ·rename_i c;cases h;refine⟨c.1,c.2.1,rfl,?_,c.2.2⟩;rw[B3,B1 (by omega)];rfl
 ·cases h
section
variable {D G:List Nat} {w0 w:A2} {L:List (Nat×List AN)} {bg br c:Nat} {gs:List GT} {rest:List AN}
theorem KR (h:bN w bg (mE br gs.length c)) (h0:0<gs.length):aC AA 224 (.el (.one .bool)) [ag (ae bg)] w (λx w'=>x=true/\Ext w w'):=by
 refine ai (C:=G3) (aS:=λ_=>[]) (Ak (KE _ w _) ?_);refine⟨λ_=>rfl,λ_=>rfl,(some ⟨br,0,none⟩,gs.length,c),λ_=>?_,λw1 h1=>⟨?_,h1⟩⟩
 ·rw[aY];exact h.ov rfl
 ·simp;exact h0
theorem pq (h:bN w bg (mE br gs.length c)) (h0:0<gs.length):af AA 224 [ag (ae bg)] w (.bool true):=
 af.of (s:= .el (.one .bool)) λw' h'=>KR (h.ext h') h0
def BW (br:Nat) (gs:List GT) (i:Int):Option AC:=(l6 gs i).map λk=>⟨br,k*5,none⟩
def BX (gs:List GT) (i:Int):Int:=if(l6 gs i).isSome then 0 else 4
theorem Y' (h:bN w bg (mE br gs.length c)) (j:bN w br (flat eG gs++rest)) (h0:0<gs.length) (i:Int):
 aC AA 221 (.bA [.one .ptr,.one (.int .i64)]) [ag (ae bg),aa i] w (λx w'=>x=(BW br gs i,BX gs i,())/\Ext w w'):=by
 refine ai (C:=G3) (aS:=λ_=>[]) (Ak (Y3 _ i w _) ?_);have f:cQ w (ad (ae bg) 0) (.one .slice) (some ⟨br,0,none⟩,gs.length,c):=by rw[aY];exact h.ov rfl
 refine⟨_,pq h h0,an rfl ⟨λ_=>rfl,λ_=>rfl,(some ⟨br,0,none⟩,gs.length,c),λ_=>f,λ_=>rfl,λ_=>rfl,(some ⟨br,0,none⟩,gs.length,c),λ_=>f,?_⟩⟩;dsimp only;have g:(l6 gs i=none)->(BW br gs i,BX gs i,())=((none,4,()):Option AC×Int×Unit):=λe=>by
  unfold BW BX;rw[e];rfl
 by_cases b:0<=i/\i<gs.length
 ·have c1:(decide (i<0)||decide (i>=((gs.length:Nat):Int)))=false:=by
   rw[Ds,decide_eq_false_iff_not,decide_eq_false_iff_not];omega
  have k:gs[i.toNat]? =some (gs.getD i.toNat zG):=by
   rw[B3,B1 (by omega)];rfl
  rw[c1];refine⟨λ_=>⟨rfl,b.1,b.2⟩,gs.getD i.toNat zG,λ_=>fT (e:=eG) j k,λ_=>trivial,?_⟩;rw[QA];refine ab (λd=>λw1 h1=>⟨(g ?_).symm,h1⟩) (λd=>⟨rfl,rfl,aj.of _ f ⟨⟨rfl,b.1,b.2⟩,λw1 h1=>⟨?_,h1⟩⟩⟩)
  ·have d:gs.getD i.toNat zG=zG:=by simpa[e8] using d
   unfold l6;rw[ao (λa=>a.2.2 d)]
  ·have d: ¬ gs.getD i.toNat zG=zG:=by simpa[e8] using d
   have e:l6 gs i=some i.toNat:=by unfold l6;rw[av ⟨b.1,b.2,d⟩]
   unfold BW BX;rw[e,aY];simp
 ·have c1:(decide (i<0)||decide (i>=((gs.length:Nat):Int)))=true:=by
   rw[Df,decide_eq_true_eq,decide_eq_true_eq];omega
  rw[c1];refine⟨λa=>(by cases a),zG,λa=>(by cases a),λ_=>trivial,aB rfl λw1 h1=>⟨(g ?_).symm,h1⟩⟩;unfold l6;rw[ao (λa=>b ⟨a.1,a.2.1⟩)]
theorem Iu (h:bN w bg (mE br gs.length c)) (a:bN w br (flat eG gs++rest)) (h0:0<gs.length) (i:Int):
 af AA 221 [ag (ae bg),aa i] w ((Sh.bA [.one .ptr,.one (.int .i64)]).gZ (BW br gs i,BX gs i,())):=
 af.of (s:= .bA [.one .ptr,.one (.int .i64)]) λw' h'=>Y' (h.ext h') (a.ext h') h0 i
theorem UG {bc:Nat} {o q t:Int} (hc:bN w bc [aa o,aa q,aa t,.bool false,aa 0]) (x:GT):
 af AA 226 [.agg ⟨[aa x.1,aa x.2.1,aa x.2.2.1,.bool x.2.2.2.1,aa x.2.2.2.2.1]⟩,ag (ae bc)] w (.bool (kq o q t x)):=by
 refine af.of (s:= .el (.one .bool)) λw' h'=>ai (C:=G3) (aS:=λ_=>[]) (Ak (P4 _ _ _ _ _ _ w' _) ?_);have H:=At.start [] w';refine aM.go H λb a H=>aj.of (o,q,t,false,0,()) (dU ((hc.ext h').ext H.all) rfl) ⟨rfl,aj.cw 0 H rfl rfl ⟨rfl,aj.cw 0 H rfl rfl ⟨rfl,aj.cw 0 H rfl rfl (au.go H λc H=>⟨?_,H.all⟩)⟩⟩⟩;unfold kq;simp
theorem QB {bc:Nat} {g:Int} (hc:bN w bc [aa g]) (x:GT):
 af AA 209 [.agg ⟨[aa x.1,aa x.2.1,aa x.2.2.1,.bool x.2.2.2.1,aa x.2.2.2.2.1]⟩,ag (ae bc)] w (.bool (oK g x)):=by
 refine af.of (s:= .el (.one .bool)) λw' h'=>ai (C:=G3) (aS:=λ_=>[]) (Ak (KF _ _ _ _ _ _ w' _) ?_);have H:=At.start [] w';refine aM.go H λb c H=>?_;have a:cQ c (ae bc) (.one (.int .i64)) g:=dU ((hc.ext h').ext H.all) rfl;refine aj.at 0 H rfl (show _=some x from rfl) ⟨trivial,λ_=>rfl,aj.cw 0 H rfl rfl (aj.of g a ⟨λ_=>rfl,aj.cw 0 H rfl rfl (aj.of g a (au.go H λd H=>⟨?_,H.all⟩))⟩)⟩;rfl
theorem N6 {j:Nat} {x:Nat×List AN} (h:L[j]? =some x):L.set j x=L:=Dn λm=>by
 by_cases e:j=m
 ·subst e;rw[C9 (B2.1 h).1,h]
 ·rw[Dl e]
end
end Go.Proofs.YtlcenllcmeebhaaGreat
namespace Go.Proofs.YtlcenllcmeebhaaGreat.Po
set_option maxRecDepth 100000
open Go.RX
abbrev sQ:List Sc:=[.int .i64,.int .i64,.int .i64,.bool,.bool]
abbrev eQ:El:= .agg sQ
abbrev PT:Type:=Int×Int×Int×Bool×Bool×Unit
def zP:PT:=(0,0,0,false,false,())
def gI (n:Int):Bool:=decide (n>=1)&&decide (n<=16)
noncomputable def R0:dI AA:={C3 with vy:=false}
theorem QC (n:Int) (w:A2) (a:Bool->A2->Prop):(aI R0 (λ_=>[]) 212 [aa n] w a)=(
 au w (a (decide (n>=1)&&decide (n<=16)))):=by kernel_rfl
theorem QD (n:Int) (w:A2):aC AA 212 (.el (.one .bool)) [aa n] w (λx w'=>x=gI n/\Ext w w'):=by
 refine ai (C:=R0) (aS:=λ_=>[]) (Ak (QC n w _) ?_);have H:=At.start [] w
 repeat' (first
  |exact Go.RX.aJ.all H
  |exact Ay (by first|rfl|decide+kernel) (Go.RX.aJ.all H)
  |refine Ay (by first|exact rfl|exact trivial|exact λ_=>rfl|exact λ_=>trivial|exact⟨rfl,by decide,by decide⟩|exact⟨by decide,by decide⟩|decide+kernel|exact λ_=>by decide|exact λ_=>⟨rfl,by decide,by decide⟩|(dsimp only[DB,DE];exact⟨rfl,by decide,by decide⟩)) ?_
  |refine aj.cw 0 H rfl rfl ?_
  |refine aj.cw 1 H rfl rfl ?_
  |refine aj.at 0 H rfl rfl ?_
  |refine aj.at 1 H rfl rfl ?_
  |refine aM.go H λb w1 H=>?_
  |refine az.all 0 H rfl rfl rfl λw1 H=>?_
  |refine az.all 1 H rfl rfl rfl λw1 H=>?_
  |refine az.fK 0 H rfl rfl rfl λw1 H=>?_
  |refine az.fK 1 H rfl rfl rfl λw1 H=>?_
  |refine az.one 0 H rfl rfl rfl λw1 H=>?_
  |refine az.one 1 H rfl rfl rfl λw1 H=>?_
  |with_reducible refine au.go H λw1 H=>?_
  |refine jM ?_
  |refine aB (by assumption) ?_
  |refine an (by assumption) ?_
  |refine ab (λc=>?_) (λc=>?_))
noncomputable def Za:Entry AA where
 f:=212
 fn l:=match l with
  |[.int .i64 a]=>some (True,.bool (gI a))
  | _=>none
 ok args pre v h b w:=by
  split at h
  ·rename_i a;cases h;exact bX (QD a w)
  ·cases h
noncomputable def R1:dI AA:={R0 with si:=[Za],quiet:=[211,213,229,245,231]}
theorem QE (p:Option AC) (w:A2) (a:Bool->A2->Prop):(aI R1 (λ_=>[]) 211 [ag p] w a)=(
 ((!p.isNone)=true->p.isSome=true)/\((!p.isNone)=true->p.isSome=true)/\aj w (some !p.isNone) (ad p 2560) aX λ(x:Int)=>au w (a (!p.isNone&&decide (x>0)))):=by kernel_rfl
theorem On (p:Option AC) (g i:Int) (w:A2) (a:Option AC->A2->Prop):(aI R1 (λ_=>[]) 213 [ag p,aa g,aa i] w a)=(
 ∃x,af AA 211 [ag p] w (.bool x)/\((!!x)=true->True)/\((!(!x|| !gI g||decide (i<0)))=true->p.isSome=true)/\((!(!x|| !gI g||decide (i<0)))=true->p.isSome=true)/\aj w (some !(!x|| !gI g||decide (i<0))) (ad p 2560) aX λ(b:Int)=>aH (!x|| !gI g||decide (i<0)||decide (i>=b)) (au w (a none)) (p.isSome=true/\p.isSome=true/\((ad p 0).isSome=true/\0<=aZ .i64 g 1/\aZ .i64 g 1<(↑16:Int))/\((ad (ad p 0) ((aZ .i64 g 1).toNat*160)).isSome=true/\0<=i/\i<(↑32:Int))/\(ad (ad (ad p 0)
 ((aZ .i64 g 1).toNat*160)) (i.toNat*5)).isSome=true/\aj w none (ad (ad (ad p 0) ((aZ .i64 g 1).toNat*160)) (i.toNat*5)) (.agg [.int .i64,.int .i64,.int .i64,.bool,.bool]) λ(x:Int×Int×Int×Bool×Bool×Unit)=>aH (x.1==0&&(x.2.1==0&&(x.2.2.1==0&&(x.2.2.2.1==false&&(x.2.2.2.2.1==false&&true))))) (au w (a none)) (au w λw1=>a (ad (ad (ad p 0) ((aZ .i64 g 1).toNat*160)) (i.toNat*5)) w1))):=by kernel_rfl
def ua:Nat->a8:=(λ|2=>[(10,Go.RX.El.one (Go.RX.Sc.int B4))]| _=>[])
theorem QF (p:Option AC) (g:Int) (w:A2) (a:Int->A2->Prop):(aI R1 ua 245 [ag p,aa g] w a)=(
 cL p 2560 w λx=> ∃(I:Nat->Int×Unit->A2->Prop),(∃n, ∀w1,Ext w w1->I n (0,()) w1)/\ ∀(n:Nat) (s:Int×Unit) (w1:A2),I n s w1->aH (decide (s.1<x)) (∃(x:Option AC),af AA 213 [ag p,aa g,aa s.1] w1 (ag x)/\aH x.isNone (au w1 (a s.1)) (∀b,Ext w1 b-> ∃(c:Nat),c<n/\I c (aL .i64 s.1 1,()) b)) (au w1 (a (-1)))):=by kernel_rfl
theorem Zb (p:Option AC) (g r:Int) (w:A2) (a:Int->A2->Prop):(aI R1 (λ_=>[]) 229 [ag p,aa g,aa r] w a)=(
 ∃x,af AA 211 [ag p] w (.bool x)/\aH (!x) (au w (a 10)) (True/\((!!gI g)=true->True)/\aH (!gI g|| !gI r||g==r) (au w (a 1)) (au w (a 0)))):=by kernel_rfl
theorem UH (p:Option AC) (w:A2) (a:Int->A2->Prop):(aI R1 (λ_=>[]) 231 [ag p] w a)=(
 ∃x,af AA 211 [ag p] w (.bool x)/\aH (!x) (au w (a 10)) (au w (a 4))):=by kernel_rfl
theorem Zc (p:Option AC) (g:Int) (x1 e f:Int) (h i:Bool) (w:A2) (d:Int×Int×Unit->A2->Prop):(aI R1 (λ_=>[]) 230 [ag p,aa g,.agg ⟨[aa x1,aa e,aa f,.bool h,.bool i]⟩] w d)=(
 aM w ⟨[aa x1,aa e,aa f,.bool h,.bool i]⟩ 217 λb a=> ∃(x:Int),af AA 245 [ag p,aa g] a (aa x)/\aH (x== -1) (au a (d (0,3,()))) (aj a none (ae b) (.agg [.int .i64,.int .i64,.int .i64,.bool,.bool]) λ(c:Int×Int×Int×Bool×Bool×Unit)=>p.isSome=true/\p.isSome=true/\((ad p 0).isSome=true/\0<=aZ .i64 g 1/\aZ .i64 g 1<(↑16:Int))/\((ad (ad p 0) ((aZ .i64 g 1).toNat*160)).isSome=true/\0<=x/\x<(↑32:Int))/\az a (ad (ad (ad p 0) ((aZ .i64 g
 1).toNat*160)) (x.toNat*5)) [aa c.1,aa c.2.1,aa c.2.2.1,.bool c.2.2.2.1,.bool c.2.2.2.2.1] λa=>au a (d (x,0,())))):=by kernel_rfl
theorem QG (p:Option AC) (g r:Int) (w:A2) (a:Int×Int×Unit->A2->Prop):(aI R1 (λ_=>[]) 185 [ag p,aa g,aa r] w a)=(
 ∃(x:Int),af AA 229 [ag p,aa g,aa r] w (aa x)/\aH (x != 0) (au w (a (0,x,()))) (aA AA 230 (.bA [.one (.int .i64),.one (.int .i64)]) [ag p,aa g,.agg ⟨[aa 1,aa r,aa 0,.bool false,.bool false]⟩] w λ(x:Int×Int×Unit) b=>au b (a (x.1,x.2.1,())))):=by kernel_rfl
theorem QH (p:Option AC) (g r i:Int) (w:A2) (a:Int×Int×Unit->A2->Prop):(aI R1 (λ_=>[]) 186 [ag p,aa g,aa r,aa i] w a)=(
 ∃(x:Int),af AA 229 [ag p,aa g,aa r] w (aa x)/\aH (x != 0) (au w (a (0,x,()))) (∃(x:Option AC),af AA 213 [ag p,aa r,aa i] w (ag x)/\aH x.isNone (au w (a (0,4,()))) (cL x 0 w λd=>aH (d==2) (au w (a (0,6,()))) (cL x 1 w λe=>aH (e != g) (au w (a (0,7,()))) (aA AA 230 (.bA [.one (.int .i64),.one (.int .i64)]) [ag p,aa g,.agg ⟨[aa 2,aa r,aa i,.bool false,.bool false]⟩] w λ(b:
 Int×Int×Unit) c=>aH (b.2.1==0) (x.isSome=true/\x.isSome=true/\az c (ad x 0) [aa 2] λc=>x.isSome=true/\x.isSome=true/\az c (ad x 2) [aa b.1] λc=>au c (a (b.1,b.2.1,()))) (au c (a (b.1,b.2.1,())))))))):=by kernel_rfl
theorem QI (p:Option AC) (g i:Int) (w:A2) (a:Int->A2->Prop):(aI R1 (λ_=>[]) 187 [ag p,aa g,aa i] w a)=(
 ∃(x:Option AC),af AA 213 [ag p,aa g,aa i] w (ag x)/\aH x.isNone (∃(x:Int),af AA 231 [ag p] w (aa x)/\au w (a x)) (cL x 0 w λc=>aH (c != 2) (au w (a 6)) (cL x 1 w λd=>cL x 2 w λx=> ∃(b:Option AC),af AA 213 [ag p,aa d,aa x] w (ag b)/\b.isSome=true/\b.isSome=true/\az w (ad b 3) [.bool true] λe=>au e (a 0)))):=by kernel_rfl
def ub:Nat->a8:=(λ|5=>[(5,Go.RX.El.one Go.RX.Sc.slice),(15,Go.RX.El.one (Go.RX.Sc.int B4))]| _=>[])
theorem QJ (p:Option AC) (g:Int) (w:A2) (e:Option AC×Nat×Nat->A2->Prop):(aI R1 ub 232 [ag p,aa g] w e)=(
 ∃x,af AA 211 [ag p] w (.bool x)/\aH (!x) (au w (e (none,0,0))) (cL p 2560 w λx=> ∃(I:Nat->(Option AC×Nat×Nat)×Int×Unit->A2->Prop),(∃n, ∀w1,Ext w w1->I n ((none,0,0),0,()) w1)/\ ∀(n:Nat) (s:(Option AC×Nat×Nat)×Int×Unit) (w1:A2),I n s w1->aH (decide (s.2.1<x)) (∃(x:Option AC),af AA 213 [ag p,aa g,aa s.2.1] w1 (ag x)/\((!x.isNone)=true->x.isSome=true)/\((!x.isNone)=true->x.isSome=true)/\aj w1 (some !x.isNone) (ad x 3) sT λd=>
 ((!x.isNone&&d)=true->x.isSome=true)/\((!x.isNone&&d)=true->x.isSome=true)/\aj w1 (some (!x.isNone&&d)) (ad x 4) sT λh=>aH (!x.isNone&&d&& !h) (aM w1 ⟨[aa s.2.1]⟩ 3 λb f=> ∀w1,Ext f w1->mD w1 3 1 8 ⟨[aa 0]⟩ (s.1.1,s.1.2.1,s.1.2.2) (some ⟨b,0,none⟩,1,1) λ(r:Option AC×Nat×Nat) f=> ∀a,Ext f a-> ∃(c:Nat),c<n/\I c ((r.1,r.2.1,r.2.2),aL .i64 s.2.1 1,()) a) (∀a,Ext w1 a-> ∃(c:Nat),c<n/\I c ((s.1.1,s.1.2.1,s.1.2.2),aL .i64 s.2.1 1,()) a)) (au w1 (e
 (s.1.1,s.1.2.1,s.1.2.2))))):=by kernel_rfl
theorem QK (p:Option AC) (g:Int) (w:A2) (c:Int×Bool×Unit->A2->Prop):(aI R1 (λ_=>[]) 188 [ag p,aa g] w c)=(
 aA AA 232 (.el fi) [ag p,aa g] w λx a=>aH ((↑x.2.1:Int)==0) (au a (c (0,false,()))) ((x.1.isSome=true/\(0:Int)<=0/\0<(↑x.2.1:Int))/\aW a (ad x.1 0) λd=> ∃(b:Option AC),af AA 213 [ag p,aa g,aa d] a (ag b)/\b.isSome=true/\b.isSome=true/\az a (ad b 3) [.bool false] λa=>(x.1.isSome=true/\(0:Int)<=0/\0<(↑x.2.1:Int))/\aW a (ad x.1 0) λx=>au a (c (x,true,())))):=by kernel_rfl
theorem KS (p:Option AC) (g i:Int) (w:A2) (c:Int->A2->Prop):(aI R1 (λ_=>[]) 189 [ag p,aa g,aa i] w c)=(
 ∃(x:Option AC),af AA 213 [ag p,aa g,aa i] w (ag x)/\aH x.isNone (∃(x:Int),af AA 231 [ag p] w (aa x)/\au w (c x)) (cL x 0 w λd=>aH (d==2) (cL x 1 w λe=>cL x 2 w λf=> ∃(a:Option AC),af AA 213 [ag p,aa e,aa f] w (ag a)/\a.isSome=true/\a.isSome=true/\az w (ad a 0) [aa 1] λb=>a.isSome=true/\a.isSome=true/\az b (ad a 2) [aa 0] λb=>x.isSome=true/\az b x [aa 0,.int .i64
 0,aa 0,.bool false,.bool false] λb=>au b (c 0)) (x.isSome=true/\az w x [aa 0,aa 0,aa 0,.bool false,.bool false] λb=>au b (c 0)))):=by kernel_rfl
def uc:Nat->a8:=(λ|5=>[(5,Go.RX.El.one (Go.RX.Sc.int B4)),(22,Go.RX.El.one (Go.RX.Sc.int B4))]|11=>[(5,Go.RX.El.one (Go.RX.Sc.int B4)),(7,Go.RX.El.one (Go.RX.Sc.int B4))]|14=>[(5,Go.RX.El.one (Go.RX.Sc.int B4)),(41,Go.RX.El.one (Go.RX.Sc.int B4))]| _=>[])
theorem QL (p:Option AC) (g:Int) (w:A2) (h:Int->A2->Prop):(aI R1 uc 170 [ag p,aa g] w h)=(
 ∃x,af AA 211 [ag p] w (.bool x)/\((!!x)=true->True)/\aH (!x|| !gI g) (au w (h 0)) (cL p 2560 w λx=> ∃(I:Nat->Int×Int×Unit->A2->Prop),(∃n, ∀w1,Ext w w1->I n (0,0,()) w1)/\ ∀(n:Nat) (s:Int×Int×Unit) (w1:A2),I n s w1->aH (decide (s.2.1<x)) (aA AA 189 (.el aX) [ag p,aa g,aa s.2.1] w1 λ(x:Int) e=>aH (x==0) (∀a,Ext e a-> ∃(b:Nat),b<n/\I b (aL .i64 s.1 1,aL .i64 s.2.1 1,()) a) (∀a,Ext e a-> ∃(b:Nat),b<n/\I b (s.1,aL .i64 s.2.1 1,
 ()) a)) (∃(I:Nat->Int×Int×Unit->A2->Prop),(∃n, ∀d,Ext w1 d->I n (s.1,1,()) d)/\ ∀(n:Nat) (s:Int×Int×Unit) (w1:A2),I n s w1->aH (decide (s.2.1<=16)) (cL p 2560 w1 λx=> ∃(f:Nat->Int×Int×Unit->A2->Prop),(∃n, ∀d,Ext w1 d->f n (s.1,0,()) d)/\ ∀(i:Nat) (c:Int×Int×Unit) (w1:A2),f i c w1->aH (decide (c.2.1<x)) (∃(x:Option AC),af AA 213 [ag p,aa s.2.1,aa c.2.1] w1 (ag x)/\((!x.isNone)=true->x.isSome=true)/\
 ((!x.isNone)=true->x.isSome=true)/\aj w1 (some !x.isNone) (ad x 1) aX λ(j:Int)=>aH (!x.isNone&&j==g) (x.isSome=true/\az w1 x [aa 0,aa 0,aa 0,.bool false,.bool false] λe=> ∀a,Ext e a-> ∃(b:Nat),b<i/\f b (aL .i64 c.1 1,aL .i64 c.2.1 1,()) a) (∀a,Ext w1 a-> ∃(b:Nat),b<i/\f b (c.1,aL .i64 c.2.1 1,()) a)) (∀a,Ext w1 a-> ∃(b:Nat),b<n/\I b (c.1,aL .i64 s.2.1 1,()) a)) (au w1 (h s.1))))):=by kernel_rfl
theorem IZ {ss:List Sc} {xs:List (wS ss)} {rest:List AN} {k f:Nat} {x:wS ss} (a:xs[k]? =some x) (b:f<ss.length):(flat (.agg ss) xs++rest)[k*ss.length+f]? =(b_ ss x)[f]? :=by
 induction xs generalizing k with
 |nil=>simp at a
 |cons y ys c=>
  cases k with
  |zero=>
   simp at a;have d:f<(b_ ss y).length:=by rw[cB];exact b
   simp only[Nat.zero_mul,B8];show((b_ ss y++flat (.agg ss) ys)++rest)[f]? = _
   grind
  |succ k=>
   show((b_ ss y++flat (.agg ss) ys)++rest)[(k+1)*ss.length+f]? = _;rw[CX,HB (by rw[cB,Nat.add_mul];omega),cB]
   grind
theorem A7 {ss:List Sc} {xs:List (wS ss)} {rest:List AN} {k f:Nat} {x y:wS ss} {v:AN} (b:xs[k]? =some x) (c:f<ss.length) (d:b_ ss y=(b_ ss x).set f v):(flat (.agg ss) xs++rest).set (k*ss.length+f) v=flat (.agg ss) (xs.set k y)++rest:=by
 induction xs generalizing k with
 |nil=>simp at b
 |cons z a e=>
  cases k with
  |zero=>
   have g:f<(b_ ss z).length:=by rw[cB];exact c
   simp only[Nat.zero_mul,B8];show((b_ ss z++flat (.agg ss) a)++rest).set f v=(b_ ss y++flat (.agg ss) a)++rest
   grind
  |succ k=>
   show((b_ ss z++flat (.agg ss) a)++rest).set _ v=(b_ ss z++flat _ _)++rest;rw[CX,List.set_append_right _ _ (by rw[cB,Nat.add_mul];omega),cB]
   grind
abbrev gM (room:Int) (ps:List PT):List AN:=flat eQ ps++[aa room]
def ix (g i:Int):Nat:=(g - 1).toNat*32+i.toNat
def sv (room g i:Int):Bool:=gI g&&(decide (0<=i)&&decide (i<room))
def oG (room:Int) (ps:List PT) (g i:Int):Option Nat:=if sv room g i=true/\ps.getD (ix g i) zP≠zP then some (ix g i) else none
structure okS (room:Int) (ps:List PT):Prop where
 len:ps.length=512
 lo:1<=room
 hi:room<=32
theorem nE {g:Int}:gI g=true<->1<=g/\g<=16:=by simp[gI]
theorem eV {room g i:Int}:sv room g i=true<->(1<=g/\g<=16)/\0<=i/\i<room:=by simp[sv,nE]
theorem oT {room g i:Int} (h:sv room g i=true) (a:room<=32):ix g i<512:=by grind[eV,ix]
theorem OY {room g i g' a:Int} (h:sv room g i=true) (h':sv room g' a=true) (b:room<=32) (e:ix g i=ix g' a):g=g'/\i=a:=by grind[eV,ix]
theorem okS.get {room:Int} {ps:List PT} (h:okS room ps) {k:Nat} (a:k<512):ps[k]? =some (ps.getD k zP):=by
 rw[B3,B1 (by rw[h.len];grind)];rfl
theorem okS.set {room:Int} {ps:List PT} (h:okS room ps) (k:Nat) (x:PT):okS room (ps.set k x):=⟨by rw[Fv];exact h.len,h.lo,h.hi⟩
theorem fC {room:Int} {ps:List PT} {g i:Int} {k:Nat} (h:oG room ps g i=some k):sv room g i=true/\k=ix g i/\ps.getD k zP≠zP:=by grind[oG]
theorem pU {room:Int} {ps:List PT} (h:okS room ps):k_ (gM room ps) (0+2560) (.one (.int .i64))=some room:=by
 have:(gM room ps)[2560]? =some (aa room):=by
  rw[HB (by rw[aF,h.len];decide),aF,h.len];rfl
 show(match (gM room ps)[0+2560]? with|some v=>(Sc.int _).proj v|none=>none)=some room;rw[this];rfl
theorem isZ (x:PT):(x.fst==0&&(x.snd.fst==0&&(x.snd.snd.fst==0&&(x.snd.snd.snd.fst==false&&(x.snd.snd.snd.snd.fst==false&&true)))))=decide (x=zP):=by
 obtain⟨a,b,c,d,e,u⟩:=x;rw[If];simp[zP]
theorem rj {room:Int} {ps:List PT} {k f:Nat} {x:PT} (a:ps[k]? =some x) (b:f<5) {s:Sc} {y:s.T} (c:(match (b_ sQ x)[f]? with|some v=>s.proj v|none=>none)=some y):k_ (gM room ps) (k*5+f) (.one s)=some y:=by
 show(match (gM room ps)[k*5+f]? with|some v=>s.proj v|none=>none)=some y;have:=IZ (ss:=sQ) (rest:=[aa room]) a b
 simp_all
section
variable {D G:List Nat} {w0 w:A2} {L:List (Nat×List AN)}
theorem az.rj (j:Nat) (H:aJ D G w0 w L) {bp k f:Nat} {room:Int} {ps:List PT} {x:PT} (y:PT) {v:AN} {K:A2->Prop} (a:L[j]? =some (bp,gM room ps)) (b:ps[k]? =some x) (c:f<5) (hv:v.oneCell'=true) (d:b_ sQ y=(b_ sQ x).set f v)
 (g: ∀w1,aJ D G w0 w1 (L.set j (bp,gM room (ps.set k y)))->K w1):az w (ad (some ⟨bp,k*5,none⟩) f) [v] K:=by
 refine az.fK j H a hv ?_ λw1 h1=>g w1 ?_
 ·rw[GH];have:(flat eQ ps).length=ps.length*5:=aF eQ ps
  grind
 ·have e:(gM room ps).set _ v=gM room _:=A7 b c d
  grind
end
section
variable {w:A2} {bp:Nat} {room:Int} {ps:List PT}
theorem pv (h:bN w bp (gM room ps)) (a:okS room ps):aC AA 211 (.el (.one .bool)) [ag (ae bp)] w (λx w'=>x=true/\Ext w w'):=by
 refine ai (Ak (QE _ w _) ?_);refine⟨λ_=>rfl,λ_=>rfl,aj.lf (At.start [] w) h (by simp) (pU a) λw1 h1=>⟨?_,h1⟩⟩;have:=a.lo
 grind
def cw (bp:Nat) (room:Int) (ps:List PT) (g i:Int):Option AC:=(oG room ps g i).map λk=>⟨bp,k*5,none⟩
theorem DH (h:bN w bp (gM room ps)) (a:okS room ps) (g i:Int):aC AA 213 (.el (.one .ptr)) [ag (ae bp),aa g,aa i] w (λx w'=>x=cw bp room ps g i/\Ext w w'):=by
 refine ai (C:=R1) (aS:=λ_=>[]) (Ak (On _ g i w _) ?_);refine⟨true,af.of (s:= .el (.one .bool)) λw' h'=>pv (h.ext h') a,λ_=>trivial,λ_=>rfl,λ_=>rfl,aj.lf (At.start [] w) h (by simp) (pU a) ?_⟩;have p:=a.lo;have d:=a.hi;refine ab (λc w1 h1=>⟨?_,h1⟩) (λc=>?_)
 ·have f: ¬ sv room g i=true:=by
   rw[eV];intro j;have k:gI g=true:=nE.2 j.1;rw[k] at c;simp at c;omega
  unfold cw oG;rw[ao (λhc=>f hc.1)];rfl
 ·have b:sv room g i=true:=by
   grind[eV,nE,gI]
  have q:=eV.1 b;have l:=oT b d;have m:=a.get l;have es:aZ .i64 g 1=g - 1:=bF (by omega) (by omega);rw[es];have n:ad (ad (ad (ae bp) 0) ((g - 1).toNat*160)) (i.toNat*5)=some ⟨bp,ix g i*5,none⟩:=by
   rw[aY,aY,aY];unfold ix;congr 2;omega
  have o:ad (ad (ae bp) 0) ((g - 1).toNat*160)=some ⟨bp,0+0+(g - 1).toNat*160,none⟩:=by rw[aY,aY]
  rw[n,o];refine⟨rfl,rfl,⟨rfl,by omega,by omega⟩,⟨rfl,by omega,by omega⟩,rfl,aj.of (ps.getD (ix g i) zP) ?_ ?_⟩
  ·have:=fT (e:=eQ) (rest:=[aa room]) h m;rw[aY,B8] at this;exact this
  ·rw[isZ];refine ab (λc2 w1 h1=>⟨?_,h1⟩) (λc2 w1 h1=>⟨?_,h1⟩)
   ·unfold cw oG
    grind
   ·unfold cw oG;rw[av ⟨b,of_decide_eq_false c2⟩];rfl
def rC (g r:Int):Int:=if !gI g|| !gI r||g==r then 1 else 0
theorem Zd (h:bN w bp (gM room ps)) (a:okS room ps) (g r:Int):aC AA 229 (.el (.one (.int .i64))) [ag (ae bp),aa g,aa r] w (λx w'=>x=rC g r/\Ext w w'):=by
 refine ai (C:=R1) (aS:=λ_=>[]) (Ak (Zb _ g r w _) ?_);refine⟨true,af.of (s:= .el (.one .bool)) λw' h'=>pv (h.ext h') a,an rfl ⟨trivial,λ_=>trivial,ab (λc w1 h1=>⟨?_,h1⟩) (λc w1 h1=>⟨?_,h1⟩)⟩⟩
 ·unfold rC;rw[av c]
 ·unfold rC;grind
theorem UI (h:bN w bp (gM room ps)) (a:okS room ps):aC AA 231 (.el (.one (.int .i64))) [ag (ae bp)] w (λx w'=>x=4/\Ext w w'):=by
 refine ai (C:=R1) (Ak (UH _ w _) ?_);exact⟨true,af.of λw' h'=>pv (h.ext h') a,an rfl λw1 h1=>⟨rfl,h1⟩⟩
def cx (room:Int) (ps:List PT) (g:Int):Int:=match (Bx room.toNat).find? λ(i:Nat)=>(oG room ps g i).isNone with
 |some i=>(i:Int)
 |none=> -1
theorem QM (h:bN w bp (gM room ps)) (b:okS room ps) (g:Int):aC AA 245 (.el (.one (.int .i64))) [ag (ae bp),aa g] w (λx w'=>x=cx room ps g/\Ext w w'):=by
 refine ai (C:=R1) (aS:=ua) (Ak (QF _ g w _) ?_);have l:=b.lo;have m:=b.hi;refine⟨rfl,rfl,aj.lf (At.start [] w) h (by simp) (pU b) ?_⟩;refine⟨λq s w'=> ∃i:Nat,s.1=i/\q+i=room.toNat/\(∀j:Nat,j<i->(oG room ps g j).isNone=false)/\Ext w w',⟨room.toNat,λw1 h1=>⟨0,rfl,rfl,λj e=>absurd e (by omega),h1⟩⟩,?_⟩;rintro q ⟨n,u⟩ w1 ⟨i,hi,o,k,d⟩;simp only at hi;subst hi;dsimp only;refine ab (λc=>?_) (λc f a=>⟨?_,d.trans a⟩)
 ·have p:i<room.toNat:=by simp at c;omega
  refine⟨_,af.of (s:= .el (.one .ptr)) λw' h'=>DH ((h.ext d).ext h') b g i,ab (λc2 f a=>⟨?_,d.trans a⟩) (λc2 f a=>⟨q - 1,by omega,i+1,by rw[ax (by omega) (by omega)];rfl,by omega,λj e=>?_,d.trans a⟩)⟩
  ·grind[oG,cw,Bx,Hb,cx]
  ·rcases Nat.lt_or_ge j i with h1|h1
   ·exact k j h1
   ·obtain rfl:j=i:=by omega
    unfold cw at c2;simpa using c2
 ·have:(Bx room.toNat).find? (λ(i:Nat)=>(oG room ps g i).isNone)=none:=by
   grind
  unfold cx;rw[this]
theorem mW {room:Int} {ps:List PT} {g:Int} (a:gI g=true) (h:cx room ps g≠ -1):sv room g (cx room ps g)=true/\oG room ps g (cx room ps g)=none:=by
 unfold cx at h ⊢;split
 ·rename_i hi;rw[Hb] at hi;have:=Fp.1 hi.2.1;exact⟨eV.2 ⟨nE.1 a,by omega⟩,by simp_all⟩
 grind
end
end Go.Proofs.YtlcenllcmeebhaaGreat.Po
namespace Go.Proofs.YtlcenllcmeebhaaGreat
set_option maxRecDepth 100000
open Go.RX
theorem Aj {L Ls:List (Nat×List AN)} {k:Nat} {x:Nat×List AN} (h:L[k]? =some x):(L++Ls)[k]? =some x:=by
 grind
theorem BO.len {Ls:List (Nat×List AN)} {sl:Option AC×Nat×Nat} {xs:List Int} (h:BO Ls sl xs):sl.2.1=xs.length:=by
 rcases h with ⟨rfl,rfl,rfl⟩|⟨bs,c,rest,rfl, _⟩
 ·rfl
 ·rfl
theorem BO.rd {D G:List Nat} {w0 w:A2} {L Ls:List (Nat×List AN)} {sl:Option AC×Nat×Nat} {xs:List Int} (h:BO Ls sl xs) (H:aJ D G w0 w L) (a: ∀y∈Ls,y∈L) {i:Nat} {x:Int} (b:xs[i]? =some x):sl.1.isSome=true/\cQ w (ad sl.1 (i*1)) (.one (.int .i64)) x:=by
 rcases h with ⟨rfl,rfl,rfl⟩|⟨bs,c,rest,rfl,rfl, _⟩
 ·grind
 ·exact⟨rfl,fT (H.dm _ (a _ C7)) b⟩
section
variable {D G:List Nat} {w0 w:A2} {L:List (Nat×List AN)} {bg br c:Nat} {gs:List GT} {rest:List AN}
theorem Gc {Ls:List (Nat×List AN)} {a:Nat} {x:Int} {xs:List Int} {sl:Option AC×Nat×Nat} (H:aJ D G w0 w ((a,[aa x])::(L++Ls))) (f:BO Ls sl xs) (hb:xs.length<=900000) {t:TypeId}
 {R:Option AC×Nat×Nat->A2->Prop} (k: ∀b d w',BO b d (xs++[x])->aJ D G w0 w' (L++b)->R d w'):
 mD w t 1 8 ⟨[aa 0]⟩ sl (some ⟨a,0,none⟩,1,1) R:=by
 refine aJ.aa6 (e:=eI) (H.perm (.cons _ FO)) (by simp) f rfl rfl rfl (by grind) λbs c rest w' g h i=>k _ _ w' (.inr ⟨bs,c,rest,rfl,rfl,g,h⟩) (i.perm ?_);simp
theorem KT (H:aJ D G w0 w L) (j r:Nat) (h:L[j]? =some (bg,mE br gs.length c)) (s:L[r]? =some (br,flat eG gs++rest)) (h0:0<gs.length) (J:gs.length<=64) {K:Option AC×Nat×Nat->A2->Prop}
 (k: ∀sl Ls a,BO Ls sl (de gs e8 gs.length)->aJ D G w0 a (L++Ls)->K sl a):
 aA AA 208 (.el (.one .slice)) [ag (ae bg),.func (.func 210) #[] #[]] w K:=by
 refine aA.go H λw1 H=>ai (C:=G3) (aS:=qO) (Ak (KG _ w1 K) ?_);have t: ∀{w:A2} {L1:List (Nat×List AN)},aJ D G w0 w (L++L1)->bN w bg (mE br gs.length c)/\bN w br (flat eG gs++rest):=λ{w L1} H=>⟨H.get (Aj h),H.get (Aj s)⟩;refine⟨_,pq (H.get h) h0,an rfl ⟨rfl,rfl,aj.cw j H h rfl ?_⟩⟩;refine⟨λn v w'=> ∃(m:Nat) (Ls:List (Nat×List AN)),v.2.1=(m:Int)/\n+m=gs.length/\BO Ls v.1 (de gs e8 m)/\aJ D G w0 w' (L++Ls),⟨gs.length,λa y=>⟨0,[],rfl,rfl,.inl ⟨rfl,rfl,rfl⟩,by rw[BI];exact H.ext y⟩⟩,?_⟩;clear H;rintro n ⟨sl,v,u⟩ a ⟨m,Ls,e,M,f,H⟩;dsimp only at e f ⊢;subst e;refine ab (λi=>?_) (λi=>?_)
 ·have o:m<gs.length:=by simpa using i
  have p:gs[m]? =some (gs.getD m zG):=by
   grind
  have z:aL .i64 (m:Int) 1=((m+1:Nat):Int):=by rw[ax (by omega) (by omega)];omega
  have g:=rY gs e8 m;obtain⟨x,A⟩: ∃x,x=gs.getD m zG:=⟨_,rfl⟩;rw[<-A] at p g;rw[z];have N:=qe gs e8 m;refine⟨⟨rfl,by omega,by omega⟩,aj.of x (fT (e:=eG) (t H).2 p) (aM.go H λb q H=>az.all 0 H rfl rfl rfl λO H=>aj.at 0 H rfl (show _=some x from rfl) ?_)⟩;refine⟨trivial,?_⟩;refine ab (λd=>aM.go H λP Q H=>λB l=>?_) (λd=>λB l=>⟨n - 1,by omega,m+1,Ls,rfl,by omega,?_,?_⟩)
  ·have d:e8 x=true:=d;rw[av d] at g;have H:=H.ext l;have H:=H.sub (.cons_cons _ (Av _ _));refine Gc H f (by omega) λE R S F H=>λT I=>⟨n - 1,by omega,m+1,E,rfl,by omega,?_,H.ext I⟩;rw[g];exact F
  ·have d: ¬ e8 x=true:=by
    have d:e8 x=false:=d;rw[d];decide
   rw[g,ao d,BI];exact f
  ·exact(H.sub (Av _ _)).ext l
 ·have o:m=gs.length:=by
   have: ¬ m<gs.length:=by simpa using i
   omega
  subst o;exact au.go H λq H=>k sl Ls q f H
theorem KU (H:aJ D G w0 w L) (j z:Nat) (f:L[j]? =some (bg,mE br gs.length c)) (A:L[z]? =some (br,flat eG gs++rest)) (h0:0<gs.length) (P:gs.length<=64) {bc:Nat} {o q t:Int} (hc:(bc,[aa o,aa q,aa t,.bool false,aa 0])∈L) {K:Option AC×Nat×Nat->A2->Prop}
 (k: ∀sl Ls a,BO Ls sl (de gs (kq o q t) gs.length)->aJ D G w0 a (L++Ls)->K sl a):
 aA AA 208 (.el (.one .slice)) [ag (ae bg),.func (.func 226) #[] #[ag (ae bc)]] w K:=by
 refine aA.go H λw1 H=>ai (C:=G3) (aS:=qP) (Ak (KH _ _ w1 K) ?_);have B: ∀{w:A2} {L1:List (Nat×List AN)},aJ D G w0 w (L++L1)->bN w bg (mE br gs.length c)/\bN w br (flat eG gs++rest):=λ{w L1} H=>⟨H.get (Aj f),H.get (Aj A)⟩;refine⟨_,pq (H.get f) h0,an rfl ⟨rfl,rfl,aj.cw j H f rfl ?_⟩⟩;refine⟨λn v w'=> ∃(m:Nat) (Ls:List (Nat×List AN)),v.2.1=(m:Int)/\n+m=gs.length/\BO Ls v.1 (de gs (kq o q t) m)/\aJ D G w0 w' (L++Ls),⟨gs.length,λa E=>⟨0,[],rfl,rfl,.inl ⟨rfl,rfl,rfl⟩,by rw[BI];exact H.ext E⟩⟩,?_⟩;clear H;rintro n ⟨sl,v,u⟩ a ⟨m,Ls,e,Q,g,H⟩;dsimp only at e g ⊢;subst e;refine ab (λh=>?_) (λh=>?_)
 ·have p:m<gs.length:=by simpa using h
  have r:gs[m]? =some (gs.getD m zG):=by
   grind
  have F:aL .i64 (m:Int) 1=((m+1:Nat):Int):=by rw[ax (by omega) (by omega)];omega
  have i:=rY gs (kq o q t) m;obtain⟨x,I⟩: ∃x,x=gs.getD m zG:=⟨_,rfl⟩;rw[<-I] at r i;rw[F];have R:=qe gs (kq o q t) m;refine⟨⟨rfl,by omega,by omega⟩,aj.of x (fT (e:=eG) (B H).2 r) (aM.go H λb s H=>az.all 0 H rfl rfl rfl λS H=>aj.at 0 H rfl (show _=some x from rfl) ?_)⟩;refine⟨_,UG (H.dm _ (B9 _ (DA _ hc))) x,?_⟩;refine ab (λd=>aM.go H λJ T H=>λy l=>?_) (λd=>λy l=>⟨n - 1,by omega,m+1,Ls,rfl,by omega,?_,?_⟩)
  ·have d:(kq o q t) x=true:=d;rw[av d] at i;have H:=H.ext l;have H:aJ D G w0 y ((J,[aa (m:Int)])::(L++Ls)):=H.sub (.cons_cons _ (Av _ _));refine Gc H g (by omega) λM U V N H=>λW O=>⟨n - 1,by omega,m+1,M,rfl,by omega,?_,H.ext O⟩;rw[i];exact N
  grind
  ·exact(H.sub (Av _ _)).ext l
 ·have p:m=gs.length:=by
   have: ¬ m<gs.length:=by simpa using h
   omega
  subst p;exact au.go H λs H=>k sl Ls s g H
theorem KW (H:aJ D G w0 w L) (j t:Nat) (f:L[j]? =some (bg,mE br gs.length c)) (y:L[t]? =some (br,flat eG gs++rest)) (h0:0<gs.length) (N:gs.length<=64) {bc:Nat} {g:Int} (hc:(bc,[aa g])∈L) {K:Option AC×Nat×Nat->A2->Prop}
 (k: ∀sl Ls a,BO Ls sl (de gs (oK g) gs.length)->aJ D G w0 a (L++Ls)->K sl a):
 aA AA 208 (.el (.one .slice)) [ag (ae bg),.func (.func 209) #[] #[ag (ae bc)]] w K:=by
 refine aA.go H λw1 H=>ai (C:=G3) (aS:=qQ) (Ak (KI _ _ w1 K) ?_);have z: ∀{w:A2} {L1:List (Nat×List AN)},aJ D G w0 w (L++L1)->bN w bg (mE br gs.length c)/\bN w br (flat eG gs++rest):=λ{w L1} H=>⟨H.get (Aj f),H.get (Aj y)⟩;refine⟨_,pq (H.get f) h0,an rfl ⟨rfl,rfl,aj.cw j H f rfl ?_⟩⟩;refine⟨λn v w'=> ∃(m:Nat) (Ls:List (Nat×List AN)),v.2.1=(m:Int)/\n+m=gs.length/\BO Ls v.1 (de gs (oK g) m)/\aJ D G w0 w' (L++Ls),⟨gs.length,λa A=>⟨0,[],rfl,rfl,.inl ⟨rfl,rfl,rfl⟩,by rw[BI];exact H.ext A⟩⟩,?_⟩;clear H;rintro n ⟨sl,v,u⟩ a ⟨m,Ls,e,O,h,H⟩;dsimp only at e h ⊢;subst e;refine ab (λi=>?_) (λi=>?_)
 ·have p:m<gs.length:=by simpa using i
  have q:gs[m]? =some (gs.getD m zG):=by
   grind
  have B:aL .i64 (m:Int) 1=((m+1:Nat):Int):=by rw[ax (by omega) (by omega)];omega
  have l:=rY gs (oK g) m;obtain⟨x,E⟩: ∃x,x=gs.getD m zG:=⟨_,rfl⟩;rw[<-E] at q l;rw[B];have P:=qe gs (oK g) m;refine⟨⟨rfl,by omega,by omega⟩,aj.of x (fT (e:=eG) (z H).2 q) (aM.go H λb r H=>az.all 0 H rfl rfl rfl λQ H=>aj.at 0 H rfl (show _=some x from rfl) ?_)⟩;refine⟨_,QB (H.dm _ (B9 _ (DA _ hc))) x,?_⟩;refine ab (λd=>aM.go H λF R H=>λs o=>?_) (λd=>λs o=>⟨n - 1,by omega,m+1,Ls,rfl,by omega,?_,?_⟩)
  ·have d:(oK g) x=true:=d;rw[av d] at l;have H:=H.ext o;have H:aJ D G w0 s ((F,[aa (m:Int)])::(L++Ls)):=H.sub (.cons_cons _ (Av _ _));refine Gc H h (by omega) λI S T J H=>λU M=>⟨n - 1,by omega,m+1,I,rfl,by omega,?_,H.ext M⟩;rw[l];exact J
  grind
  ·exact(H.sub (Av _ _)).ext o
 ·have p:m=gs.length:=by
   have: ¬ m<gs.length:=by simpa using i
   omega
  subst p;exact au.go H λr H=>k sl Ls r h H
theorem BY (H:aJ D G w0 w L) (a:Nat) (b:L[a]? =some (br,flat eG gs++rest)) {k:Nat} {x:GT} (c:gs[k]? =some x) {f:Nat} (d:f<5) {s:Sc} {y:s.T} (e:(match (b_ sG x)[f]? with|some v=>s.proj v|none=>none)=some y):cQ w (ad (some ⟨br,k*5,none⟩) f) (.one s) y:=by
 rw[aY];refine dU (H.get b) ?_;have h:=Po.IZ (ss:=sG) (rest:=rest) c d;show(match (flat eG gs++rest)[k*5+f]? with|some v=>s.proj v|none=>none)=some y
 simp_all
theorem aam (H:aJ D G w0 w L) (a:Nat) (c:L[a]? =some (br,flat eG gs++rest)) {k:Nat} {x:GT} (b:gs[k]? =some x) {f:Nat} (d:f<5) {v:AN} (hv:v.oneCell'=true) (y:GT) (e:b_ sG y=(b_ sG x).set f v) {K:A2->Prop} (kk: ∀w1,aJ D G w0 w1 (L.set a (br,flat eG (gs.set k y)++rest))->K w1):az w (ad (some ⟨br,k*5,none⟩) f) [v] K:=by
 have g:=(B2.1 b).1;refine az.fK a H c hv ?_ λw1 h1=>kk w1 ?_
 ·rw[GH,E4,aF];show k*5+f<gs.length*5+rest.length;omega
 ·have h:=Po.A7 (rest:=rest) b d e
  grind
theorem Ze (h:bN w bg (mE br gs.length c)) (d:bN w br (flat eG gs++rest)) (h0:0<gs.length) (i:Int):
 aC AA 176 (.bA [eG,.one .bool]) [ag (ae bg),aa i] w (λx w'=>x=(wZ gs i,(l6 gs i).isSome,())/\Ext w w'):=by
 refine aQ (C:=G3) (aS:=λ_=>[]) (Ak (Y4 _ i w _) ?_);have H:=At.start [] w;refine aM.go H λb f H=>?_;have a:=H.all;refine⟨_,Iu (h.ext a) (d.ext a) h0 i,?_⟩;unfold BX BW wZ;cases g:l6 gs i with
 |none=>exact aB rfl (az.all 0 H rfl rfl rfl λj H=>au.go H λl H=>aj.at 0 H rfl (show _=some zG from rfl) ⟨rfl,H.all⟩)
 |some k=>
  obtain⟨_, _, _,m, _⟩:=lF g;have n:cQ f (some ⟨br,k*5,none⟩) eG (gs.getD k zG):=by
   have:=fT (e:=eG) (d.ext a) m;rw[aY,B8] at this;exact this
  refine an rfl ⟨rfl,aj.of _ n (az.all 0 H rfl rfl rfl λj H=>au.go H λl H=>aj.at 0 H rfl (show _=some (gs.getD k zG) from rfl) ⟨rfl,H.all⟩)⟩
theorem QN (H:aJ D G w0 w L) (j f:Nat) (p:L[j]? =some (bg,mE br gs.length c)) (l:L[f]? =some (br,flat eG gs++rest)) (h0:0<gs.length) (r: ∀x∈gs,0<=x.2.2.2.2.1/\x.2.2.2.2.1<=1000) (i g:Int) (b:Bool) {K:Int->A2->Prop}
 (k: ∀a,aJ D G w0 a (L.set f (br,flat eG (d_ gs i g b)++rest))->K (gX gs i g b) a):
 aA AA 181 (.el (.one (.int .i64))) [ag (ae bg),aa i,aa g,.bool b] w K:=by
 refine aA.go H λw1 H=>ai (C:=G3) (aS:=λ_=>[]) (Ak (P5 _ i g b w1 K) ?_);refine⟨_,Iu (H.get p) (H.get l) h0 i,?_⟩;have same:gX gs i g b≠0-> ∀{a},aJ D G w0 a L->aJ D G w0 a (L.set f (br,flat eG (d_ gs i g b)++rest)):=λh a H=>by
  unfold d_;rw[ao h,N6 l];exact H
 have e:gX gs i g b=match l6 gs i with
  |none=>4
  |some k=>if((gs.getD k zG).2.2.1 != g||b&& !(gs.getD k zG).2.2.2.1)=true then 7 else if(gs.getD k zG).2.2.2.2.1=1000 then 3 else 0:=rfl
 unfold BX BW;cases n:l6 gs i with
 |none=>
  rw[n] at e;dsimp only at e;rw[e] at k same;exact aB rfl (au.go H λa H=>k a (same (by decide) H))
 |some q=>
  obtain⟨v,y,s,m, _⟩:=lF n;rw[n] at e;dsimp only at e;obtain⟨x,o⟩: ∃x,x=gs.getD q zG:=⟨_,rfl⟩;rw[<-o] at e m;refine an rfl ⟨rfl,rfl,aj.of x.2.2.1 (BY H f l m (by decide) rfl) ⟨λ_=>rfl,λ_=>rfl,aj.of x.2.2.2.1 (BY H f l m (by decide) rfl) (ab (λd=>au.go H λa H=>?_) (λd=>?_))⟩⟩
  ·rw[av d] at e;rw[e] at k same;exact k a (same (by decide) H)
  ·rw[ao (by rw[d];decide)] at e;refine⟨rfl,rfl,aj.of x.2.2.2.2.1 (BY H f l m (by decide) rfl) (ab (λd2=>au.go H λa H=>?_) (λd2=>?_))⟩
   ·grind
   ·rw[ao (by simpa using d2)] at e;have hb:=r x (FB m);refine⟨rfl,rfl,aj.of x.2.2.2.2.1 (BY H f l m (by decide) rfl) ⟨rfl,rfl,?_⟩⟩;rw[ax (by omega) (by omega)];refine aam H f l m (by decide) rfl (fl x 1) rfl λa H=>au.go H λt H=>?_;have u:d_ gs i g b=gs.set q (fl x 1):=by
     unfold d_;rw[av e, <-s, <-o]
    rw[e,u] at k;exact k t H
end
section
variable {D G:List Nat} {w0 w:A2} {L:List (Nat×List AN)} {bg br c:Nat} {gs:List GT} {rest:List AN}
theorem QO (H:aJ D G w0 w L) (j e:Nat) (o:L[j]? =some (bg,mE br gs.length c)) (f:L[e]? =some (br,flat eG gs++rest)) (h0:0<gs.length) (p: ∀x∈gs,0<=x.2.2.2.2.1/\x.2.2.2.2.1<=1000) (i g:Int) {K:Int->A2->Prop}
 (k: ∀a,aJ D G w0 a (L.set e (br,flat eG (eM gs i g)++rest))->K (mz gs i g) a):
 aA AA 182 (.el (.one (.int .i64))) [ag (ae bg),aa i,aa g] w K:=by
 refine aA.go H λw1 H=>ai (C:=G3) (aS:=λ_=>[]) (Ak (P6 _ i g w1 K) ?_);refine⟨_,Iu (H.get o) (H.get f) h0 i,?_⟩;have same:mz gs i g≠0-> ∀{a},aJ D G w0 a L->aJ D G w0 a (L.set e (br,flat eG (eM gs i g)++rest)):=λh a H=>by
  unfold eM;rw[ao h,N6 f];exact H
 have b:mz gs i g=match l6 gs i with
  |none=>4
  |some k=>if(gs.getD k zG).2.2.1≠g then 7 else if(gs.getD k zG).2.2.2.2.1=0 then 6 else 0:=rfl
 unfold BX BW;cases m:l6 gs i with
 |none=>
  rw[m] at b;dsimp only at b;rw[b] at k same;exact aB rfl (au.go H λa H=>k a (same (by decide) H))
 |some q=>
  obtain⟨u,v,r,l, _⟩:=lF m;rw[m] at b;dsimp only at b;obtain⟨x,n⟩: ∃x,x=gs.getD q zG:=⟨_,rfl⟩;rw[<-n] at b l;refine an rfl ⟨rfl,rfl,aj.of x.2.2.1 (BY H e f l (by decide) rfl) (ab (λd=>au.go H λa H=>?_) (λd=>?_))⟩
  grind
  ·rw[ao (by simpa using d)] at b;refine⟨rfl,rfl,aj.of x.2.2.2.2.1 (BY H e f l (by decide) rfl) (ab (λd2=>au.go H λa H=>?_) (λd2=>?_))⟩
   grind
   ·rw[ao (by simpa using d2)] at b;have hb:=p x (FB l);refine⟨rfl,rfl,aj.of x.2.2.2.2.1 (BY H e f l (by decide) rfl) ⟨rfl,rfl,?_⟩⟩;rw[bF (by omega) (by omega)];refine aam H e f l (by decide) rfl (fl x (-1)) rfl λa H=>au.go H λs H=>?_;have t:eM gs i g=gs.set q (fl x (-1)):=by
     unfold eM;rw[av b, <-r, <-n]
    rw[b,t] at k;exact k s H
theorem G8 (H:aJ D G w0 w L) (j f:Nat) (n:L[j]? =some (bg,mE br gs.length c)) (g:L[f]? =some (br,flat eG gs++rest)) (h0:0<gs.length) (i o:Int) {K:Int->A2->Prop}
 (k: ∀a,aJ D G w0 a (L.set f (br,flat eG (lz gs i o)++rest))->K (qK gs i o) a):
 aA AA 184 (.el (.one (.int .i64))) [ag (ae bg),aa i,aa o] w K:=by
 refine aA.go H λw1 H=>ai (C:=G3) (aS:=λ_=>[]) (Ak (G5 _ i o w1 K) ?_);refine⟨_,Iu (H.get n) (H.get g) h0 i,?_⟩;have same:qK gs i o≠0-> ∀{a},aJ D G w0 a L->aJ D G w0 a (L.set f (br,flat eG (lz gs i o)++rest)):=λh a H=>by
  unfold lz;rw[ao h,N6 g];exact H
 have b:qK gs i o=match l6 gs i with
  |none=>4
  |some k=>if(gs.getD k zG).1≠o then 7 else if(gs.getD k zG).2.2.2.2.1>0 then 9 else 0:=rfl
 unfold BX BW;cases m:l6 gs i with
 |none=>
  rw[m] at b;dsimp only at b;rw[b] at k same;exact aB rfl (au.go H λa H=>k a (same (by decide) H))
 |some q=>
  obtain⟨y,z,p,l, _⟩:=lF m;rw[m] at b;dsimp only at b;obtain⟨x,r⟩: ∃x,x=gs.getD q zG:=⟨_,rfl⟩;rw[<-r] at b l;refine an rfl ⟨rfl,rfl,aj.of x.1 (BY H f g l (by decide) rfl) (ab (λd=>au.go H λa H=>?_) (λd=>?_))⟩
  grind
  ·rw[ao (by simpa using d)] at b;refine⟨rfl,rfl,aj.of x.2.2.2.2.1 (BY H f g l (by decide) rfl) (ab (λd2=>au.go H λa H=>?_) (λd2=>?_))⟩
   grind
   ·rw[ao (by simpa using d2)] at b;refine⟨rfl,?_⟩;have s:q<gs.length:=(B2.1 l).1;have t:(some (⟨br,q*5,none⟩:AC))=ad (ae br) (q*5):=by rw[aY,B8]
    show az w1 (some (⟨br,q*5,none⟩:AC)) _ _;rw[t];refine az.flat (e:=eG) f H zG g rfl rfl s λa H=>au.go H λu H=>?_;have v:lz gs i o=gs.set q zG:=by
     unfold lz;rw[av b, <-p]
    rw[b,v] at k;exact k u H
theorem KX (H:aJ D G w0 w L) (j m:Nat) (s:L[j]? =some (bg,mE br gs.length c)) (p:L[m]? =some (br,flat eG gs++rest)) (h0:0<gs.length) (F:gs.length<=64) (o q t:Int) (b:Bool) {K:Int×Int×Unit->A2->Prop}
 (k: ∀f,aJ D G w0 f (L.set m (br,flat eG (jY gs o q t b)++rest))->K (kz gs o q t,lA gs o q t,()) f):
 aA AA 180 (.bA [.one (.int .i64),.one (.int .i64)]) [ag (ae bg),aa o,aa q,aa t,.bool b] w K:=by
 refine aA.go H λw1 H=>ai (C:=G3) (aS:=λ_=>[]) (Ak (KJ _ o q t b w1 K) ?_);have same:lA gs o q t≠0-> ∀{f},aJ D G w0 f L->aJ D G w0 f (L.set m (br,flat eG (jY gs o q t b)++rest)):=λh f H=>by
  unfold jY;rw[ao h,N6 p];exact H
 have v:lA gs o q t≠0->kz gs o q t=0:=λh=>ao h;refine⟨_,pq (H.get s) h0,an rfl ⟨trivial,λ_=>trivial,ab (λd=>au.go H λf H=>?_) (λd=>?_)⟩⟩
 ·have a:lA gs o q t=1:=av d;rw[v (by rw[a];decide),a] at k;rw[a] at same;exact k f (same (by decide) H)
 have a:lA gs o q t=if de gs (kq o q t) gs.length≠[] then 5 else if de gs e8 gs.length=[] then 3 else 0:=ao (by rw[d];decide);refine aM.go H λbc f H=>az.all 0 H rfl rfl rfl λW H=>KU H (j+1) (m+1) s p h0 F (bc:=bc) (C7) λsl Ls X n H=>?_;obtain⟨sp,A,sc⟩:=sl;have B:A=(de gs (kq o q t) gs.length).length:=n.len;subst B;have H:=H.sub (DK _ Ls);refine ab (λd1=>au.go H λI H=>?_) (λd1=>?_)
 ·have d1:de gs (kq o q t) gs.length≠[]:=by
   intro e;rw[e] at d1;simp at d1
  rw[av d1] at a;rw[v (by rw[a];decide),a] at k;rw[a] at same;exact k I (same (by decide) (H.sub (Av _ _)))
 have d1: ¬ de gs (kq o q t) gs.length≠[]:=by
  simp_all
 rw[ao d1] at a;refine KT H (j+1) (m+1) s p h0 F λsl Ls I n H=>?_;obtain⟨sp,A,sc⟩:=sl;have B:A=(de gs e8 gs.length).length:=n.len;subst B;refine ab (λd2=>au.go H λJ H=>?_) (λd2=>?_)
 ·have d2:de gs e8 gs.length=[]:=by
   have:(de gs e8 gs.length).length=0:=by simpa using d2
   exact List.length_eq_zero_iff.1 this
  rw[av d2] at a;rw[v (by rw[a];decide),a] at k;rw[a] at same;exact k J (same (by decide) (H.sub ((DK L Ls).trans (Av _ _))))
 have d2: ¬ de gs e8 gs.length=[]:=by
  intro e;rw[e] at d2;simp at d2
 rw[ao d2] at a;have M:jY gs o q t b=gs.set (kz gs o q t).toNat (o,q,t,b,0,()):=av a;have N:kz gs o q t=(de gs e8 gs.length).headD 0:=av a;rw[M,a] at k;obtain⟨z,l,u⟩: ∃z l,de gs e8 gs.length=z::l:=List.exists_cons_of_ne_nil d2;have O:kz gs o q t=z:=by rw[N,u];rfl
 rw[O] at k;obtain⟨r,P, _,Q⟩:=qd.1 (by rw[u];exact C7:z∈de gs e8 gs.length);subst Q;rw[u] at n;have Y:(de gs e8 gs.length).length=l.length+1:=by rw[u];rfl
 have R: ∀{w:A2} {g:Nat×List AN},aJ D G w0 w (g::(L++Ls))->sp.isSome=true/\cQ w (ad sp 0) (.one (.int .i64)) (r:Int):=λ{w g} H=>by
  have h:=n.rd H (λy E=>B9 _ (B6 _ E)) (i:=0) (x:=(r:Int)) rfl;exact⟨h.1,h.2⟩
 have S:(L++Ls)[j]? =some (bg,mE br gs.length c):=Aj s;have T:(L++Ls)[m]? =some (br,flat eG gs++rest):=Aj p;refine⟨rfl,az.fK 0 H rfl rfl rfl λJ H=>?_⟩;refine⟨rfl,rfl,aj.cw (j+1) H S rfl ⟨by grind,aj.of _ (R H).2 (aj.at 0 H rfl (show _=some (o,q,t,b,0,()) from rfl) ⟨⟨rfl,by omega,by show(r:Int)<((gs.length:Nat):Int);omega⟩,?_⟩)⟩⟩;refine az.flat (e:=eG) (m+1) H (o,q,t,b,0,()) T rfl rfl P λU H=>?_;have H:aJ D G w0 U ((bc,[aa o,aa q,aa t,.bool b,aa 0])::((L++Ls).set m (br,flat eG (gs.set r (o,q,t,b,0,()))++rest))):=H;rw[G1 _ _ (B2.1 p).1] at H;have h:=n.rd H (λy E=>B9 _ (B6 _ E)) (i:=0) (x:=(r:Int)) rfl;refine⟨by grind,aj.of _ h.2 (au.go H λV H=>k V (H.sub ((DK _ Ls).trans (Av _ _))))⟩
theorem QP (H:aJ D G w0 w L) (j b:Nat) (B:L[j]? =some (bg,mE br gs.length c)) (q:L[b]? =some (br,flat eG gs++rest)) (h0:0<gs.length) (E:gs.length<=64) (S:j≠b) (g:Int) {K:Int->A2->Prop}
 (k: ∀n r,aJ D G w0 r (L.set b (br,flat eG (cM gs g)++rest))->K n r):
 aA AA 169 (.el (.one (.int .i64))) [ag (ae bg),aa g] w K:=by
 refine aA.go H λw1 H=>ai (C:=G3) (aS:=t_) (Ak (P7 _ g w1 K) ?_);refine aM.go H λbc r H=>KW H (j+1) (b+1) B q h0 E (bc:=bc) (C7) λsl Ls F s H=>?_;have H:aJ D G w0 F ((bc,[aa g])::(L++Ls)):=H;have H:aJ D G w0 F (L++Ls):=H.sub (Av _ _);obtain⟨sp,T,sc⟩:=sl;have U:T=(de gs (oK g) gs.length).length:=s.len;subst U;obtain⟨l,f⟩: ∃l,l=de gs (oK g) gs.length:=⟨_,rfl⟩;have hll:l.length<=64:=by rw[f];exact Do (qe _ _ _) E
 have I: ∀z∈l, ∃i:Nat,i<gs.length/\oK g (gs.getD i zG)=true/\z=(i:Int):=λz J=>by rw[f] at J;exact qd.1 J
 have V: ∀i:Nat,i<gs.length->oK g (gs.getD i zG)=true->(i:Int)∈l:=λi h1 t=>by rw[f];exact qd.2 ⟨i,h1,t,rfl⟩
 rw[<-f] at s ⊢;clear f;have W:=(B2.1 q).1;have M: ∀X:Nat×List AN,((L++Ls).set b X)=L.set b X++Ls:=λX=>G1 _ _ W;refine⟨λn v w'=> ∃(m:Nat) (a:List GT),v.1=(m:Int)/\n+m=l.length/\a.length=gs.length/\(∀i:Nat,i<gs.length->a.getD i zG=if(i:Int)∈l.take m then zG else gs.getD i zG)/\aJ D G w0 w' ((L++Ls).set b (br,flat eG a++rest)),⟨l.length,λY Z=>⟨0,gs,rfl,rfl,rfl,λi hi=>by simp,by rw[N6 (Aj q)];exact H.ext Z⟩⟩,?_⟩;clear H;rintro n ⟨v,u⟩ Y ⟨m,a,e,hn,N,x,H⟩;dsimp only at e ⊢;subst e;refine ab (λA=>?_) (λA=>au.go H λO H=>k _ O ?_)
 ·have P:m<l.length:=by simpa using A
  have o:=B1 P;obtain⟨z,hze⟩: ∃z,z=l[m]:=⟨_,rfl⟩;rw[<-hze] at o;obtain⟨d,z1,z2,rfl⟩:=I z (FB o);have kS:l.take (m+1)=l.take m++[(d:Int)]:=by rw[Hr,o];rfl
  have Q:=s.rd H (λy hy=>by rw[M];exact B6 _ hy) o;have hmb:((L++Ls).set b (br,flat eG a++rest))[j]? =some (bg,mE br a.length c):=by
   rw[N,Dl (λe=>S e.symm)];exact Aj B
  have hwb:((L++Ls).set b (br,flat eG a++rest))[b]? =some (br,flat eG a++rest):=by
   rw[C9 (by rw[E4];omega)]
  refine⟨⟨Q.1,by omega,by omega⟩,aj.of _ Q.2 ⟨rfl,rfl,aj.cw j H hmb rfl ⟨⟨rfl,by omega,by show(d:Int)<((a.length:Nat):Int);omega⟩,?_⟩⟩⟩;refine az.flat (e:=eG) b H zG hwb rfl rfl (by omega:d<a.length) λO H=>λw6 R=>⟨n - 1,by omega,m+1,a.set d zG,by rw[ax (by omega) (by omega)];omega,by omega,by rw[Fv];exact N,λi hi=>?_,?_⟩
  ·rw[kS];by_cases ei:i=d
   ·subst ei;rw[av (by simp)];rw[B3,C9 (by omega)];rfl
   ·have:(a.set d zG).getD i zG=a.getD i zG:=by
     grind
    rw[this,x i hi];by_cases p:(i:Int)∈l.take m
    ·rw[av p,av (DA _ p)]
    ·rw[ao p,ao (λh=>?_)];rcases H4.1 h with h|h
     ·exact p h
     ·have:(i:Int)=d:=by simpa using h
      omega
  ·rw[B5] at H;exact H.ext R
 ·have P: ¬ m<l.length:=by simpa using A
  rw[E5 (by omega)] at x;have e:a=cM gs g:=Dn λi=>by
   unfold cM;rw[I1];by_cases hi:i<gs.length
   ·have h1:=x i hi;have t:a[i]? =some (a.getD i zG):=by rw[B3,B1 (by omega)];rfl
    have h3:gs[i]? =some (gs.getD i zG):=by rw[B3,B1 hi];rfl
    rw[t,h3,h1];show _=some (if oK g (gs.getD i zG)=true then zG else gs.getD i zG);by_cases c:oK g (gs.getD i zG)=true
    ·rw[av c,av (V i hi c)]
    ·rw[ao c,ao (λh=>?_)];obtain⟨i', _,h5,R⟩:=I _ h;have:i'=i:=by omega
     subst this;exact c h5
   ·rw[I2 (by omega),I2 (by omega)];rfl
  subst e;rw[M] at H;exact H.sub (DK _ _)
theorem UJ (H:aJ D G w0 w L) (n:Nat) (c:1<=n/\n<=64) {K:Option AC×Int×Unit->A2->Prop}
 (k: ∀bg br a,aJ D G w0 a ((bg,mE br (BQ n zG).length n)::(br,flat eG (BQ n zG)++[])::L)->K (some ⟨bg,0,none⟩,0,()) a):
 aA AA 73 (.bA [.one .ptr,.one (.int .i64)]) [aa (n:Int)] w K:=by
 refine aA.go H λw1 H=>ai (C:=G3) (Ak (Ut _ w1 K) ?_);refine an (by grind) ?_;refine Nx.go H rfl (by omega) (Int.le_refl _) (by omega) (by omega) λb a H=>aM.go H λd f H=>au.go H λg H=>?_;have e:(BQ ((n:Nat):Int).toNat [aa 0,aa 0,aa 0,.bool false,aa 0]).flatten=flat eG (BQ n zG)++[]:=by
  rw[BI,lN];rfl
 grind
end
end Go.Proofs.YtlcenllcmeebhaaGreat
namespace Go.Proofs.YtlcenllcmeebhaaGreat.Po
set_option maxRecDepth 100000
open Go.RX
def gp (ps:List PT) (g i:Int):PT:=ps.getD (ix g i) zP
def dR (room:Int) (ps:List PT) (g:Int) (x:PT):(Int×Int)×List PT:=if cx room ps g= -1 then((0,3),ps) else((cx room ps g,0),ps.set (ix g (cx room ps g)) x)
def iV (room:Int) (ps:List PT) (g r:Int):(Int×Int)×List PT:=if rC g r=0 then dR room ps g (1,r,0,false,false,()) else((0,rC g r),ps)
def ib (room:Int) (ps:List PT) (g r i:Int):(Int×Int)×List PT:=
 if rC g r=0 then
  match oG room ps r i with
  |none=>((0,4),ps)
  |some k=>
   if(ps.getD k zP).1=2 then((0,6),ps) else if(ps.getD k zP).2.1≠g then((0,7),ps) else
    if cx room ps g= -1 then((0,3),ps) else
     ((cx room ps g,0),(ps.set (ix g (cx room ps g)) (2,r,i,false,false,())).set k (2,(ps.getD k zP).2.1,cx room ps g,(ps.getD k zP).2.2.2))
 else((0,rC g r),ps)
def lB (room:Int) (ps:List PT) (g i:Int):Int×List PT:=
 match oG room ps g i with
 |none=>(4,ps)
 |some k=>if(ps.getD k zP).1=2 then
   let y:=gp ps (ps.getD k zP).2.1 (ps.getD k zP).2.2.1
   (0,ps.set (ix (ps.getD k zP).2.1 (ps.getD k zP).2.2.1) (y.1,y.2.1,y.2.2.1,true,y.2.2.2.2))
  else(6,ps)
def vD (ps:List PT) (g:Int) (i:Nat):Bool:=gI g&&((gp ps g i).2.2.2.1&& !(gp ps g i).2.2.2.2.1)
def oU (room:Int) (ps:List PT) (g:Int):List Int:=((Bx room.toNat).filter (vD ps g)).map λi=>((i:Nat):Int)
def gP (room:Int) (ps:List PT) (g:Int):(Int×Bool)×List PT:=
 match oU room ps g with
 |[]=>((0,false),ps)
 |i:: _=>((i,true),ps.set (ix g i) ((gp ps g i).1,(gp ps g i).2.1,(gp ps g i).2.2.1,false,(gp ps g i).2.2.2.2))
def eO (room:Int) (ps:List PT) (g i:Int):Int×List PT:=
 match oG room ps g i with
 |none=>(4,ps)
 |some k=>if(ps.getD k zP).1=2 then
   let y:=gp ps (ps.getD k zP).2.1 (ps.getD k zP).2.2.1
   (0,(ps.set (ix (ps.getD k zP).2.1 (ps.getD k zP).2.2.1) (1,y.2.1,0,y.2.2.2)).set k zP)
  else(0,ps.set k zP)
def ig (room:Int) (ps:List PT) (g:Int):Nat->Int×List PT
 |0=>(0,ps)
 |i+1=>((ig room ps g i).1+(if(eO room (ig room ps g i).2 g i).1=0 then 1 else 0),(eO room (ig room ps g i).2 g i).2)
def oV (room g:Int) (s:Int×List PT) (k i:Int):Int×List PT:=
 match oG room s.2 k i with
 |none=>s
 |some x=>if(s.2.getD x zP).2.1=g then(s.1+1,s.2.set x zP) else s
def mL (room g:Int) (s:Int×List PT) (k:Int):Nat->Int×List PT
 |0=>s
 |i+1=>oV room g (mL room g s k i) k i
def kK (room g:Int) (s:Int×List PT):Nat->Int×List PT
 |0=>s
 |k+1=>mL room g (kK room g s k) ((k:Int)+1) room.toNat
def cG (room:Int) (ps:List PT) (g:Int):Int×List PT:=if gI g then kK room g (ig room ps g room.toNat) 16 else(0,ps)
structure lO (room:Int) (ps:List PT):Prop extends okS room ps where
 inv: ∀g i,sv room g i=true->gp ps g i=zP\/((gp ps g i).1=1/\(1<=(gp ps g i).2.1/\(gp ps g i).2.1<=16)/\(gp ps g i).2.1≠g/\(gp ps g i).2.2.1=0)\/
  ((gp ps g i).1=2/\(gp ps g i).2.1≠g/\sv room (gp ps g i).2.1 (gp ps g i).2.2.1=true/\(gp ps (gp ps g i).2.1 (gp ps g i).2.2.1).1=2/\(gp ps (gp ps g i).2.1 (gp ps g i).2.2.1).2.1=g/\(gp ps (gp ps g i).2.1 (gp ps g i).2.2.1).2.2.1=i)
theorem Au {ps:List PT} {k:Nat} (h:k<ps.length) (x:PT):(ps.set k x).getD k zP=x:=by grind
theorem pL {ps:List PT} {k j:Nat} (h:k≠j) (x:PT):(ps.set k x).getD j zP=ps.getD j zP:=by grind
theorem iY {room:Int} {ps:List PT} (b:okS room ps) {g i g' a:Int} (h:sv room g i=true) (h':sv room g' a=true) (x:PT):gp (ps.set (ix g i) x) g' a=if g'=g/\a=i then x else gp ps g' a:=by
 by_cases e:g'=g/\a=i
 ·rw[av e,e.1,e.2];exact Au (by rw[b.len];exact oT h b.hi) x
 ·rw[ao e];exact pL (λc=>e (by have:=OY h h' b.hi;grind)) x
theorem u0 {room:Int} {ps:List PT} {g i:Int} (h:sv room g i=true):oG room ps g i=if gp ps g i=zP then none else some (ix g i):=by grind[oG,gp]
theorem pV {g r:Int}:rC g r=0<->gI g=true/\gI r=true/\g≠r:=by grind[rC]
section
variable {D G:List Nat} {w0 w:A2} {L:List (Nat×List AN)} {bp:Nat} {room:Int} {ps:List PT}
theorem FL (H:aJ D G w0 w L) (j:Nat) (a:L[j]? =some (bp,gM room ps)) (b:okS room ps) (g i:Int) {r:Option Nat} (c:oG room ps g i=r):af AA 213 [ag (ae bp),aa g,aa i] w (ag (r.map λk=>⟨bp,k*5,none⟩)):=by
 subst c;exact af.of λw' h'=>DH ((H.get a).ext h') b g i
theorem WO (H:aJ D G w0 w L) (j:Nat) (a:L[j]? =some (bp,gM room ps)) (b:okS room ps) (g i:Int):af AA 229 [ag (ae bp),aa g,aa i] w (aa (rC g i)):=
 af.of λw' h'=>Zd ((H.get a).ext h') b g i
theorem OZ (H:aJ D G w0 w L) (j:Nat) (a:L[j]? =some (bp,gM room ps)) (b:okS room ps):af AA 231 [ag (ae bp)] w (aa 4):=
 af.of λw' h'=>UI ((H.get a).ext h') b
theorem UK (H:aJ D G w0 w L) (j:Nat) (a:L[j]? =some (bp,gM room ps)) (b:okS room ps):af AA 211 [ag (ae bp)] w (.bool true):=
 af.of λw' h'=>pv ((H.get a).ext h') b
theorem kR {j:Nat} {x y:Nat×List AN} (h:L[j]? =some x):(L.set j y)[j]? =some y:=by grind
theorem O0 (H:aJ D G w0 w L) (j:Nat) (r:L[j]? =some (bp,gM room ps)) (i:okS room ps) (g:Int) (t:gI g=true) (x:PT) {K:Int×Int×Unit->A2->Prop}
 (k: ∀l,aJ D G w0 l (L.set j (bp,gM room (dR room ps g x).2))->K ((dR room ps g x).1.1,(dR room ps g x).1.2,()) l):
 aA AA 230 (.bA [.one (.int .i64),.one (.int .i64)]) [ag (ae bp),aa g,.agg ⟨b_ sQ x⟩] w K:=by
 obtain⟨x1,a,d,f,h,m⟩:=x;refine aA.go H λw1 H=>ai (C:=R1) (aS:=λ_=>[]) (Ak (Zc _ g x1 a d f h w1 K) ?_);have u:=i.hi;refine aM.go H λb l H=>?_;have o:((b,b_ sQ (x1,a,d,f,h,()))::L)[j+1]? =some (bp,gM room ps):=r;refine⟨cx room ps g,af.of (s:= .el (.one (.int .i64))) λw' h'=>QM ((H.get o).ext h') i g,ab (λc=>?_) (λc=>?_)⟩
 ·have e:cx room ps g= -1:=by simpa using c
  have n:dR room ps g (x1,a,d,f,h,m)=((0,3),ps):=av e;rw[n] at k;refine au.go H λp H=>k p ?_;have v:L.set j (bp,gM room ps)=L:=Dn (by grind);rw[v];exact H.sub (Av _ _)
 ·have e:cx room ps g≠ -1:=by simpa using c
  have n:dR room ps g (x1,a,d,f,h,m)=((cx room ps g,0),ps.set (ix g (cx room ps g)) (x1,a,d,f,h,m)):=ao e;rw[n] at k;have q:=(mW t e).1;have E:=eV.1 q;have y:=oT q u;have es:aZ .i64 g 1=g - 1:=bF (by omega) (by omega);rw[es];have z:ad (ad (ad (ae bp) 0) ((g - 1).toNat*160)) ((cx room ps g).toNat*5)=ad (ae bp) (ix g (cx room ps g)*aD eQ):=by
   rw[aY,aY,aY,aY];unfold ix;congr 2;show _=0+ _*5;omega
  have A:ad (ad (ae bp) 0) ((g - 1).toNat*160)=some ⟨bp,0+0+(g - 1).toNat*160,none⟩:=by rw[aY,aY]
  rw[z,A];refine aj.at 0 H rfl (x:=(x1,a,d,f,h,())) rfl ⟨rfl,rfl,⟨rfl,by omega,by omega⟩,⟨rfl,by omega,by omega⟩,?_⟩;refine az.flat (j+1) H (x1,a,d,f,h,()) o rfl rfl (by rw[i.len];exact y) λp H=>au.go H λB H=>k B ?_;exact H.sub (Av _ _)
theorem lG {j:Nat} {x:Nat×List AN} (h:L[j]? =some x):L.set j x=L:=Dn (by grind)
theorem QQ (H:aJ D G w0 w L) (j:Nat) (a:L[j]? =some (bp,gM room ps)) (h:okS room ps) (g r:Int) {K:Int×Int×Unit->A2->Prop}
 (k: ∀b,aJ D G w0 b (L.set j (bp,gM room (iV room ps g r).2))->K ((iV room ps g r).1.1,(iV room ps g r).1.2,()) b):
 aA AA 185 (.bA [.one (.int .i64),.one (.int .i64)]) [ag (ae bp),aa g,aa r] w K:=by
 refine aA.go H λw1 H=>ai (C:=R1) (Ak (QG _ g r w1 K) ?_);refine⟨_,WO H j a h g r,ab (λc=>?_) (λc=>?_)⟩
 ·have e:=by simpa using c
  have d:iV room ps g r=((0,rC g r),ps):=ao e;rw[d] at k;refine au.go H λf H=>k f ?_;rw[lG a];exact H
 ·have e:rC g r=0:=by simpa using c
  have d:iV room ps g r=dR room ps g _:=av e;rw[d] at k;exact O0 H j a h g (pV.1 e).1 (1,r,0,false,false,()) λb H=>au.go H λf H=>k f H
theorem QR (H:aJ D G w0 w L) (j:Nat) (a:L[j]? =some (bp,gM room ps)) (b:okS room ps) (g r i:Int) {K:Int×Int×Unit->A2->Prop}
 (k: ∀h,aJ D G w0 h (L.set j (bp,gM room (ib room ps g r i).2))->K ((ib room ps g r i).1.1,(ib room ps g r i).1.2,()) h):
 aA AA 186 (.bA [.one (.int .i64),.one (.int .i64)]) [ag (ae bp),aa g,aa r,aa i] w K:=by
 refine aA.go H λw1 H=>ai (C:=R1) (aS:=λ_=>[]) (Ak (QH _ g r i w1 K) ?_);have l: ∀v:Int×Int,ib room ps g r i=(v,ps)->au w1 λw1=>K (v.1,v.2,()) w1:=λv e=>by
  rw[e] at k;refine au.go H λf H=>k f ?_;rw[lG a];exact H
 refine⟨_,WO H j a b g r,ab (λc=>?_) (λc=>?_)⟩
 ·have e: ¬ rC g r=0:=by simpa using c
  exact l (0,rC g r) (ao e)
 have e:rC g r=0:=by simpa using c
 obtain⟨p,I,B⟩:=pV.1 e;have hb:ib room ps g r i= _:=av e;refine⟨_,FL H j a b r i rfl,?_⟩;cases m:oG room ps r i with
 |none=>
  rw[m] at hb;exact aB rfl (l (0,4) hb)
 |some kk=>
  rw[m] at hb;obtain⟨q,s,J⟩:=fC m;have t:kk<512:=by rw[s];exact oT q b.hi
  have u:=b.get t;refine an rfl ⟨rfl,rfl,aj.cw j H a (rj u (by decide) rfl) (ab (λc1=>?_) (λc1=>?_))⟩
  ·exact l (0,6) (hb.trans (av (by simpa using c1)))
  refine⟨rfl,rfl,aj.cw j H a (rj u (by decide) rfl) (ab (λc2=>?_) (λc2=>?_))⟩
  grind
  have y:=hb.trans ((ao (by simpa using c1)).trans (ao (by simpa using c2)));refine O0 H j a b g p (2,r,i,false,false,()) λh H=>?_;by_cases d:cx room ps g= -1
  ·have n:dR room ps g (2,r,i,false,false,())=((0,3),ps):=av d;rw[n] at H ⊢;have o:ib room ps g r i=((0,3),ps):=y.trans (av d);rw[o] at k;exact an rfl (au.go H λf H=>k f H)
  ·have n:dR room ps g (2,r,i,false,false,())=((cx room ps g,0),ps.set (ix g (cx room ps g)) (2,r,i,false,false,())):=ao d;rw[n] at H ⊢;have E:ix g (cx room ps g)≠kk:=λz=>by
    rw[s] at z;exact B (OY (mW p d).1 q b.hi z).1
   have o:ib room ps g r i=((cx room ps g,0), _):=y.trans (ao d);rw[o] at k;have A:=(b.set (ix g (cx room ps g)) (2,r,i,false,false,())).get t;rw[pL E] at A;refine aB rfl ⟨rfl,rfl,?_⟩;refine az.rj j H (2,(ps.getD kk zP).2.1,(ps.getD kk zP).2.2.1,(ps.getD kk zP).2.2.2.1,(ps.getD kk zP).2.2.2.2.1,()) (kR a) A (by decide) rfl rfl λf H=>⟨rfl,rfl,?_⟩;rw[B5] at H;refine az.rj j H (x:=(2,(ps.getD kk zP).2.1,(ps.getD kk zP).2.2.1,(ps.getD kk zP).2.2.2.1,(ps.getD kk zP).2.2.2.2.1,())) (2,(ps.getD kk zP).2.1,cx room ps g,(ps.getD kk zP).2.2.2.1,(ps.getD kk zP).2.2.2.2.1,()) (kR a) (by grind) (by decide) rfl rfl λM H=>au.go H λF H=>k F ?_;rw[B5,B5] at H;exact H
end
theorem lO.nz {room:Int} {ps:List PT} (f:lO room ps) {g i:Int} {k:Nat} (h:oG room ps g i=some k) (a:(ps.getD k zP).1=2):
 (ps.getD k zP).2.1≠g/\sv room (ps.getD k zP).2.1 (ps.getD k zP).2.2.1=true/\oG room ps (ps.getD k zP).2.1 (ps.getD k zP).2.2.1=some (ix (ps.getD k zP).2.1 (ps.getD k zP).2.2.1):=by
 obtain⟨j,l,b⟩:=fC h;subst l;have m:ps.getD (ix g i) zP=gp ps g i:=rfl;rw[m] at a b ⊢;rcases f.inv g i j with e|e|⟨_,n,c,d,p⟩
 ·exact absurd e b
 ·rw[e.1] at a;exact absurd a (by decide)
 ·refine⟨n,c,?_⟩;rw[u0 c,ao];intro o;rw[o] at d;exact absurd d (by decide)
theorem zy {room:Int} {ps:List PT} {g i:Int} {k:Nat} (a:oG room ps g i=some k):lB room ps g i=if(ps.getD k zP).1=2 then(0,ps.set (ix (ps.getD k zP).2.1 (ps.getD k zP).2.2.1) ((gp ps (ps.getD k zP).2.1 (ps.getD k zP).2.2.1).1,(gp ps (ps.getD k zP).2.1 (ps.getD k zP).2.2.1).2.1,(gp ps (ps.getD k zP).2.1 (ps.getD k zP).2.2.1).2.2.1,true,(gp ps (ps.getD k zP).2.1 (ps.getD k zP).2.2.1).2.2.2.2)) else(6,ps):=by
 unfold lB;rw[a]
theorem pF {room:Int} {ps:List PT} {g i:Int} {k:Nat} (a:oG room ps g i=some k):eO room ps g i=if(ps.getD k zP).1=2 then(0,(ps.set (ix (ps.getD k zP).2.1 (ps.getD k zP).2.2.1) (1,(gp ps (ps.getD k zP).2.1 (ps.getD k zP).2.2.1).2.1,0,(gp ps (ps.getD k zP).2.1 (ps.getD k zP).2.2.1).2.2.2)).set k zP) else(0,ps.set k zP):=by
 unfold eO;rw[a]
theorem G9 {room:Int} {ps:List PT} {g i:Int} (a:oG room ps g i=none):lB room ps g i=(4,ps):=by unfold lB;rw[a]
theorem v7 {room:Int} {ps:List PT} {g i:Int} (a:oG room ps g i=none):eO room ps g i=(4,ps):=by unfold eO;rw[a]
section
variable {D G:List Nat} {w0 w:A2} {L:List (Nat×List AN)} {bp:Nat} {room:Int} {ps:List PT}
theorem QS (H:aJ D G w0 w L) (j:Nat) (a:L[j]? =some (bp,gM room ps)) (f:lO room ps) (g i:Int) {K:Int->A2->Prop}
 (k: ∀h,aJ D G w0 h (L.set j (bp,gM room (lB room ps g i).2))->K (lB room ps g i).1 h):
 aA AA 187 (.el (.one (.int .i64))) [ag (ae bp),aa g,aa i] w K:=by
 refine aA.go H λw1 H=>ai (C:=R1) (aS:=λ_=>[]) (Ak (QI _ g i w1 K) ?_);have b:=f.tookS;have l: ∀v:Int,lB room ps g i=(v,ps)->au w1 λw1=>K v w1:=λv e=>by
  rw[e] at k;refine au.go H λm H=>k m ?_;rw[lG a];exact H
 refine⟨_,FL H j a b g i rfl,?_⟩;cases c:oG room ps g i with
 |none=>exact aB rfl ⟨4,OZ H j a b,l 4 (by unfold lB;rw[c])⟩
 |some kk=>
  obtain⟨o,p,y⟩:=fC c;have q:kk<512:=by rw[p];exact oT o b.hi
  have d:=b.get q;have hb:=zy c;refine an rfl ⟨rfl,rfl,aj.cw j H a (rj d (by decide) rfl) (ab (λc1=>?_) (λc1=>?_))⟩
  ·exact l 6 (hb.trans (ao (by simpa using c1)))
  have n:(ps.getD kk zP).1=2:=by simpa using c1
  rw[hb,av n] at k;obtain⟨z,r,s⟩:=f.nz c n;have t:=oT r b.hi;have u:=b.get t;refine⟨rfl,rfl,aj.cw j H a (rj d (by decide) rfl) ⟨rfl,rfl,aj.cw j H a (rj d (by decide) rfl) ⟨_,FL H j a b _ _ s,rfl,rfl,?_⟩⟩⟩;exact az.rj j H (_, _, _,true, _,()) a u (by decide) rfl rfl λm H=>au.go H λx H=>k x H
theorem az.port (j:Nat) (H:aJ D G w0 w L) (a:L[j]? =some (bp,gM room ps)) {k:Nat} (b:k<ps.length) (y:PT) {vs:List AN} (hv:vs=b_ sQ y) {K:A2->Prop}
 (c: ∀w1,aJ D G w0 w1 (L.set j (bp,gM room (ps.set k y)))->K w1):az w (some ⟨bp,k*5,none⟩) vs K:=by
 have:=az.flat j H (e:=eQ) (rest:=[aa room]) (i:=k) y a hv rfl b c;rw[aY,B8] at this;exact this
theorem A8 (H:aJ D G w0 w L) (j:Nat) (a:L[j]? =some (bp,gM room ps)) (m:lO room ps) (g i:Int) {K:Int->A2->Prop}
 (k: ∀n,aJ D G w0 n (L.set j (bp,gM room (eO room ps g i).2))->K (eO room ps g i).1 n):
 aA AA 189 (.el (.one (.int .i64))) [ag (ae bp),aa g,aa i] w K:=by
 refine aA.go H λw1 H=>ai (C:=R1) (aS:=λ_=>[]) (Ak (KS _ g i w1 K) ?_);have b:=m.tookS;refine⟨_,FL H j a b g i rfl,?_⟩;cases c:oG room ps g i with
 |none=>
  have e:eO room ps g i=(4,ps):=by unfold eO;rw[c]
  rw[e] at k;refine aB rfl ⟨4,OZ H j a b,au.go H λo H=>k o ?_⟩;rw[lG a];exact H
 |some kk=>
  obtain⟨s,t,A⟩:=fC c;have d:kk<512:=by rw[t];exact oT s b.hi
  have f:=b.get d;have hb:=pF c;refine an rfl ⟨rfl,rfl,aj.cw j H a (rj f (by decide) rfl) (ab (λc1=>?_) (λc1=>?_))⟩
  ·have p:(ps.getD kk zP).1=2:=by simpa using c1
   rw[hb,av p] at k;obtain⟨B,u,v⟩:=m.nz c p;have h:=oT u b.hi;have q:=b.get h;refine⟨rfl,rfl,aj.cw j H a (rj f (by decide) rfl) ⟨rfl,rfl,aj.cw j H a (rj f (by decide) rfl) ⟨_,FL H j a b _ _ v,rfl,rfl,?_⟩⟩⟩;obtain⟨y,r⟩: ∃y,y=gp ps (ps.getD kk zP).2.1 (ps.getD kk zP).2.2.1:=⟨_,rfl⟩;rw[<-r] at k;have q:ps[ix (ps.getD kk zP).2.1 (ps.getD kk zP).2.2.1]? =some y:=by rw[r];exact b.get h
   refine az.rj j H (1,y.2.1,y.2.2.1,y.2.2.2.1,y.2.2.2.2.1,()) a q (by decide) rfl rfl λo H=>⟨rfl,rfl,?_⟩;refine az.rj j H (x:=(1,y.2.1,y.2.2.1,y.2.2.2.1,y.2.2.2.2.1,())) (1,y.2.1,0,y.2.2.2.1,y.2.2.2.2.1,()) (kR a) (by rw[C9 (by rw[b.len];exact h)]) (by decide) rfl rfl λE H=>⟨rfl,?_⟩;rw[B5,B5] at H;refine az.port j H (kR a) (by rw[Fv,b.len];exact d) zP rfl λz H=>au.go H λl H=>k l ?_;rw[B5] at H;exact H
  ·rw[hb,ao (by simpa using c1)] at k;exact⟨rfl,az.port j H a (by rw[b.len];exact d) zP rfl λz H=>au.go H λl H=>k l H⟩
end
section
variable {room:Int} {ps:List PT}
theorem lO.Yq (b:lO room ps) {g i:Int} (h:sv room g i=true) (l:(gp ps g i).1≠2) {y:PT} (d:y=zP\/(y.1=1/\(1<=y.2.1/\y.2.1<=16)/\y.2.1≠g/\y.2.2.1=0)):lO room (ps.set (ix g i) y) where
 tookS:=b.tookS.set _ _
 inv g' a h':=by
  by_cases e:g'=g/\a=i
  ·have f:gp (ps.set (ix g i) y) g' a=y:=(iY b.tookS h h' y).trans (av e);rw[f,e.1];rcases d with d|d
   ·exact .inl d
   ·exact .inr (.inl d)
  ·have f:gp (ps.set (ix g i) y) g' a=gp ps g' a:=(iY b.tookS h h' y).trans (ao e);rw[f];rcases b.inv g' a h' with z|z|⟨m,n,k,j,o,p⟩
   ·exact .inl z
   ·exact .inr (.inl z)
   ·have q: ¬ ((gp ps g' a).2.1=g/\(gp ps g' a).2.2.1=i):=λc=>by rw[c.1,c.2] at j;exact l j
    have r:gp (ps.set (ix g i) y) (gp ps g' a).2.1 (gp ps g' a).2.2.1=gp ps (gp ps g' a).2.1 (gp ps g' a).2.2.1:=(iY b.tookS h k y).trans (ao q);rw[r];exact .inr (.inr ⟨m,n,k,j,o,p⟩)
theorem lO.sW (c:lO room ps) {g i:Int} (h:sv room g i=true) (k:gp ps g i≠zP) {y:PT} (h1:y.1=(gp ps g i).1) (l:y.2.1=(gp ps g i).2.1) (m:y.2.2.1=(gp ps g i).2.2.1):lO room (ps.set (ix g i) y) where
 tookS:=c.tookS.set _ _
 inv g' d h':=by
  have key: ∀a b,sv room a b=true->(gp (ps.set (ix g i) y) a b).1=(gp ps a b).1/\(gp (ps.set (ix g i) y) a b).2.1=(gp ps a b).2.1/\(gp (ps.set (ix g i) y) a b).2.2.1=(gp ps a b).2.2.1:=λa b f=>by
   by_cases e:a=g/\b=i
   ·rw[(iY c.tookS h f y).trans (av e),e.1,e.2];exact⟨h1,l,m⟩
   ·rw[(iY c.tookS h f y).trans (ao e)];exact⟨rfl,rfl,rfl⟩
  obtain⟨n,o,p⟩:=key g' d h';rw[n,o,p];rcases c.inv g' d h' with z|z|⟨q,r,j,s,t,u⟩
  ·refine .inl ?_;by_cases e:g'=g/\d=i
   ·rw[e.1,e.2] at z;exact absurd z k
   ·rw[(iY c.tookS h h' y).trans (ao e)];exact z
  ·exact .inr (.inl z)
  ·obtain⟨v,w,x⟩:=key _ _ j;rw[v,w,x];exact .inr (.inr ⟨q,r,j,s,t,u⟩)
theorem lO.dR (b:lO room ps) {g:Int} (c:gI g=true) {y:PT} (d:y.1=1/\(1<=y.2.1/\y.2.1<=16)/\y.2.1≠g/\y.2.2.1=0):lO room (dR room ps g y).2:=by
 unfold Go.Proofs.YtlcenllcmeebhaaGreat.Po.dR;split
 ·exact b
 ·rename_i f;obtain⟨h1,a⟩:=mW c f;rw[u0 h1] at a;have h:gp ps g (cx room ps g)=zP:=by
   by_cases e:gp ps g (cx room ps g)=zP
   ·exact e
   ·rw[ao e] at a;cases a
  exact b.Yq h1 (by rw[h];decide) (.inr d)
theorem lO.iV (a:lO room ps) (g r:Int):lO room (iV room ps g r).2:=by
 unfold Go.Proofs.YtlcenllcmeebhaaGreat.Po.iV;split
 ·rename_i e;obtain⟨h1,b,c⟩:=pV.1 e;exact a.dR h1 ⟨rfl,nE.1 b,λe=>c e.symm,rfl⟩
 ·exact a
theorem lO.ib (f:lO room ps) (g r i:Int):lO room (ib room ps g r i).2:=by
 unfold Go.Proofs.YtlcenllcmeebhaaGreat.Po.ib;split
 ·rename_i e;obtain⟨h1,G,n⟩:=pV.1 e;split
  ·exact f
  ·rename_i k y;split
   ·exact f
   ·split
    ·exact f
    ·split
     ·exact f
     ·rename_i t h A;obtain⟨l,o⟩:=mW h1 A;rw[u0 l] at o;have u:gp ps g (cx room ps g)=zP:=by
       by_cases e:gp ps g (cx room ps g)=zP
       ·exact e
       ·rw[ao e] at o;cases o
      obtain⟨p1,p2,p3⟩:=fC y;subst p2;have B:ps.getD (ix r i) zP=gp ps r i:=rfl;rw[B] at t h p3 ⊢;have h:(gp ps r i).2.1=g:=Classical.byContradiction h;generalize cx room ps g=j at l u;have p:=f.tookS;have key: ∀a b,sv room a b=true->gp ((ps.set (ix g j) (2,r,i,false,false,())).set (ix r i) (2,(gp ps r i).2.1,j,(gp ps r i).2.2.2)) a b=if a=r/\b=i then(2,(gp ps r i).2.1,j,(gp ps r i).2.2.2) else if a=g/\b=j then(2,r,i,false,false,()) else gp ps a b:=λa b v=>by
       rw[iY (p.set _ _) p1 v,iY p l v]
      show lO room ((ps.set (ix g j) (2,r,i,false,false,())).set (ix r i) (2,(gp ps r i).2.1,j,(gp ps r i).2.2.2));have w:=(p.set (ix g j) (2,r,i,false,false,())).set (ix r i) (2,(gp ps r i).2.1,j,(gp ps r i).2.2.2);generalize (ps.set (ix g j) (2,r,i,false,false,())).set (ix r i) (2,(gp ps r i).2.1,j,(gp ps r i).2.2.2)=X at key w ⊢;refine⟨w,λg' d h'=>?_⟩;rw[key g' d h'];by_cases q:g'=r/\d=i
      ·rw[av q];obtain⟨rfl,rfl⟩:=q;refine .inr (.inr ⟨rfl,by rw[h];exact n,by rw[h];exact l,?_⟩);show(gp _ (gp ps g' d).2.1 j).1=2/\(gp _ (gp ps g' d).2.1 j).2.1=g'/\(gp _ (gp ps g' d).2.1 j).2.2.1=d;rw[h,key g j l,ao (λc=>n c.1),av ⟨rfl,rfl⟩];exact⟨rfl,rfl,rfl⟩
      ·rw[ao q];by_cases s:g'=g/\d=j
       ·rw[av s];obtain⟨rfl,rfl⟩:=s;refine .inr (.inr ⟨rfl,λc=>n c.symm,p1,?_⟩);show(gp _ r i).1=2/\(gp _ r i).2.1=g'/\(gp _ r i).2.2.1=d;rw[key r i p1,av ⟨rfl,rfl⟩];exact⟨rfl,h,rfl⟩
       ·rw[ao s];rcases f.inv g' d h' with z|z|⟨C,D,x,m,E,F⟩
        ·exact .inl z
        ·exact .inr (.inl z)
        ·rw[key _ _ x,ao,ao]
         ·exact .inr (.inr ⟨C,D,x,m,E,F⟩)
         ·intro c;rw[c.1,c.2,u] at m;exact absurd m (by decide)
         ·intro c;rw[c.1,c.2] at m;exact t m
 ·exact f
theorem lO.lB (a:lO room ps) (g i:Int):lO room (lB room ps g i).2:=by
 cases b:oG room ps g i with
 |none=>rw[G9 b];exact a
 |some k=>
  rw[zy b];split
  ·rename_i c;obtain⟨_,d,e⟩:=a.nz b c;obtain⟨_, _,f⟩:=fC e;exact a.sW d f rfl rfl rfl
  ·exact a
theorem tB {g x:Int} (h:x∈oU room ps g):sv room g x=true/\(gp ps g x).2.2.2.1=true/\(gp ps g x).2.2.2.2.1=false:=by
 unfold oU at h;rw[Bs] at h;obtain⟨j,b,rfl⟩:=h;rw[H6] at b;have:=Fp.1 b.1;have a:=b.2;unfold vD at a;simp only[Dk,Dz] at a;exact⟨eV.2 ⟨nE.1 a.1,by omega,by omega⟩,a.2.1,a.2.2⟩
theorem I0 {g x:Int} (h:x∈oU room ps g):gp ps g x≠zP:=λe=>by
 have:=(tB h).2.1;rw[e] at this;cases this
theorem lO.gP (a:lO room ps) (g:Int):lO room (gP room ps g).2:=by
 unfold Go.Proofs.YtlcenllcmeebhaaGreat.Po.gP;cases c:oU room ps g with
 |nil=>exact a
 |cons x l=>
  have b:x∈oU room ps g:=by rw[c];exact C7
  exact a.sW (tB b).1 (I0 b) rfl rfl rfl
theorem lO.eO (d:lO room ps) (g i:Int):lO room (eO room ps g i).2:=by
 cases l:oG room ps g i with
 |none=>rw[v7 l];exact d
 |some k=>
  rw[pF l];obtain⟨p1,p2,p3⟩:=fC l;have p:=d.tookS;split
  ·rename_i e;obtain⟨q,m, _⟩:=d.nz l e;subst p2;have y:ps.getD (ix g i) zP=gp ps g i:=rfl;rw[y] at e q m p3 ⊢;have hi:=d.inv g i p1;rcases hi with z|z|⟨_, _, _,c4,c5,c6⟩
   ·exact absurd z p3
   ·rw[z.1] at e;exact absurd e (by decide)
   obtain⟨r,t⟩: ∃r,r=(gp ps g i).2.1:=⟨_,rfl⟩;obtain⟨j,u⟩: ∃j,j=(gp ps g i).2.2.1:=⟨_,rfl⟩;rw[<-t] at q c4 c5 c6 m ⊢;rw[<-u] at c4 c5 c6 m ⊢;have key: ∀a b,sv room a b=true->gp ((ps.set (ix r j) (1,(gp ps r j).2.1,0,(gp ps r j).2.2.2)).set (ix g i) zP) a b=if a=g/\b=i then zP else if a=r/\b=j then(1,(gp ps r j).2.1,0,(gp ps r j).2.2.2) else gp ps a b:=λa b v=>by
    rw[iY (p.set _ _) p1 v,iY p m v]
   show lO room ((ps.set (ix r j) (1,(gp ps r j).2.1,0,(gp ps r j).2.2.2)).set (ix g i) zP);have w:=(p.set (ix r j) (1,(gp ps r j).2.1,0,(gp ps r j).2.2.2)).set (ix g i) zP;generalize (ps.set (ix r j) (1,(gp ps r j).2.1,0,(gp ps r j).2.2.2)).set (ix g i) zP=X at key w ⊢;refine⟨w,λg' n h'=>?_⟩;rw[key g' n h'];by_cases s:g'=g/\n=i
   ·rw[av s];exact .inl rfl
   ·rw[ao s];by_cases o:g'=r/\n=j
    ·rw[av o];refine .inr (.inl ⟨rfl,?_,?_,rfl⟩)
     ·show 1<=(gp ps r j).2.1/\(gp ps r j).2.1<=16;rw[c5];exact(eV.1 p1).1
     ·show(gp ps r j).2.1≠g';rw[c5,o.1];exact λc=>q c.symm
    ·rw[ao o];rcases d.inv g' n h' with z|z|⟨A,B,x,C,f,h⟩
     ·exact .inl z
     ·exact .inr (.inl z)
     ·rw[key _ _ x,ao,ao]
      ·exact .inr (.inr ⟨A,B,x,C,f,h⟩)
      ·intro c;rw[c.1,c.2] at f h;exact s ⟨by rw[<-f,c5],by rw[<-h,c6]⟩
      ·intro c;rw[c.1,c.2] at f h;exact o ⟨by rw[<-f, <-t],by rw[<-h, <-u]⟩
  ·rename_i e;subst p2;exact d.Yq p1 e (.inl rfl)
end
section
variable {D G:List Nat} {w0 w:A2} {L:List (Nat×List AN)} {bp:Nat} {room:Int} {ps:List PT}
def AI (ps:List PT) (g:Int) (i:Nat):List Int:=((Bx i).filter (vD ps g)).map λi=>((i:Nat):Int)
theorem G_ (g:Int) (i:Nat):AI ps g (i+1)=AI ps g i++(if vD ps g i then[((i:Nat):Int)] else[]):=by grind[AI,FY]
theorem KY (g:Int) (i:Nat):(AI ps g i).length<=i:=by grind[AI]
theorem Ha {g:Int} {i:Nat} (hi:(i:Int)<room) (a:oG room ps g i=none):vD ps g i=false:=by
 grind[vD,sv,u0,zP]
theorem Hc {g:Int} {i:Nat} {k:Nat} (a:oG room ps g i=some k):vD ps g i=((ps.getD k zP).2.2.2.1&& !(ps.getD k zP).2.2.2.2.1):=by
 obtain⟨h1,b, _⟩:=fC a;unfold vD;rw[nE.2 (eV.1 h1).1,b];rfl
theorem QT (hb:bN w bp (gM room ps)) (f:okS room ps) (g:Int):aC AA 232 (.el (.one .slice)) [ag (ae bp),aa g] w (λr w'=>lS w w' eI r (oU room ps g)/\Ext w w'):=by
 refine ai (C:=R1) (aS:=ub) (Ak (QJ _ g w _) ?_);have A:=f.lo;have B:=f.hi;refine⟨true,af.of (s:= .el (.one .bool)) λw' h'=>pv (hb.ext h') f,an rfl ⟨rfl,rfl,aj.lf (At.start [] w) hb (by simp) (pU f) ?_⟩⟩;refine⟨λq s w'=> ∃i:Nat,s.2.1=i/\q+i=room.toNat/\At [] w w' []/\lS w w' eI s.1 (AI ps g i),⟨room.toNat,λw1 h1=>⟨0,rfl,rfl,(At.start [] w).ext h1,lS.start w w1 eI⟩⟩,?_⟩;rintro q ⟨⟨sp,D,sc⟩,E,u⟩ w1 ⟨i,hi,F,H,j⟩;simp only at hi j;subst hi;dsimp only;refine ab (λc=>?_) (λc=>?_)
 ·have G:i<room.toNat:=by simp at c;omega
  have a:=G_ (ps:=ps) g i;have I:=KY (ps:=ps) g i;refine⟨_,af.of (s:= .el (.one .ptr)) λw' h'=>DH ((H.fP hb (by simp)).ext h') f g i,?_⟩;unfold cw;cases k:oG room ps g i with
  |none=>
   rw[Ha (by omega) k] at a;rw[ao (by decide),BI] at a;refine⟨λh=>by simp at h,λh=>by simp at h,false,λh=>by simp at h,λh=>by simp at h,λh=>by simp at h,false,λh=>by simp at h,an rfl λl d=>⟨q - 1,by omega,i+1,by rw[ax (by omega) (by omega)];rfl,by omega,H.ext d,by rw[a];exact j.ext d⟩⟩
  |some kk=>
   obtain⟨p,t,J⟩:=fC k;have v:kk<512:=by rw[t];exact oT p f.hi
   have n:=f.get v;rw[Hc k] at a;refine⟨λ_=>rfl,λ_=>rfl,aj.lf H hb (by simp) (rj n (by decide) rfl) ⟨λ_=>rfl,λ_=>rfl,aj.lf H hb (by simp) (rj n (by decide) rfl) (ab (λc2=>?_) (λc2=>?_))⟩⟩
   ·have c3:((ps.getD kk zP).2.2.2.1&& !(ps.getD kk zP).2.2.2.2.1)=true:=by simpa using c2
    rw[av c3] at a;have m:=At.start [] w1;refine aM.go m λb l m=>λK x=>?_;refine At.aaZ (e:=eI) (i:=0) H j (m.ext x) (i:Int) rfl rfl rfl rfl rfl (by omega) λs' L y z M o=>⟨q - 1,by omega,i+1,by rw[ax (by omega) (by omega)];rfl,by omega,y.ext o,?_⟩;rw[a];exact z.ext o
   ·have c3: ¬ ((ps.getD kk zP).2.2.2.1&& !(ps.getD kk zP).2.2.2.2.1)=true:=by simpa using c2
    rw[ao c3,BI] at a;exact λl d=>⟨q - 1,by omega,i+1,by rw[ax (by omega) (by omega)];rfl,by omega,H.ext d,by rw[a];exact j.ext d⟩
 ·have hi:i=room.toNat:=by simp at c;omega
  subst hi;exact λl d=>⟨j.ext d,(H.ext d).all⟩
theorem QU (H:aJ D G w0 w L) (j:Nat) (b:L[j]? =some (bp,gM room ps)) (c:okS room ps) (g:Int) {K:Option AC×Nat×Nat->A2->Prop}
 (k: ∀r rows a,aJ D G w0 a (L++rows)->n_ eI rows r (oU room ps g)->K r a):aA AA 232 (.el (.one .slice)) [ag (ae bp),aa g] w K:=
 aA.Yo H (λw1 H=>QT (H.get b) c g) k
theorem zz {rows:List (Nat×List AN)} {r:Option AC×Nat×Nat} {x:Int} {l:List Int} (a:n_ eI rows r (x::l)) (H:aJ D G w0 w L) (b: ∀y∈rows,y∈L):r.1.isSome=true/\cQ w (ad r.1 0) (.one (.int .i64)) x:=by
 have:=a.sl H b 0
 grind
theorem QV (H:aJ D G w0 w L) (j:Nat) (f:L[j]? =some (bp,gM room ps)) (c:okS room ps) (g:Int) {K:Int×Bool×Unit->A2->Prop}
 (k: ∀h,aJ D G w0 h (L.set j (bp,gM room (gP room ps g).2))->K ((gP room ps g).1.1,(gP room ps g).1.2,()) h):
 aA AA 188 (.bA [.one (.int .i64),.one .bool]) [ag (ae bp),aa g] w K:=by
 refine aA.go H λw1 H=>ai (C:=R1) (aS:=λ_=>[]) (Ak (QK _ g w1 K) ?_);refine QU H j f c g λr rows h H d=>?_;have q:j<L.length:=(B2.1 f).1;have m:(L++rows)[j]? =some (bp,gM room ps):=by grind
 have a:=d.1;cases b:oU room ps g with
 |nil=>
  rw[b] at a;have e:gP room ps g=((0,false),ps):=by unfold gP;rw[b]
  rw[e] at k;refine aB (by rw[a];rfl) (au.go H λn H=>k n ?_);rw[lG f];exact H.sub (DK _ _)
 |cons x l=>
  have o:x∈oU room ps g:=by rw[b];exact C7
  rw[b] at a d;have e:gP room ps g=((x,true),ps.set (ix g x) ((gp ps g x).1,(gp ps g x).2.1,(gp ps g x).2.2.1,false,(gp ps g x).2.2.2.2)):=by unfold gP;rw[b]
  rw[e] at k;obtain⟨p1, _, _⟩:=tB o;have s:oG room ps g x=some (ix g x):=by rw[u0 p1,ao (I0 o)]
  have t:=oT p1 c.hi;have u:ps[ix g x]? =some (gp ps g x):=c.get t;have h0:=zz d H (λy i=>B6 _ i);have p:(x::l).length=l.length+1:=rfl;refine an (by rw[a,p];simp;omega) ⟨⟨h0.1,by omega,by rw[a,p];omega⟩,aj.of x h0.2 ⟨_,FL H j m c g x s,rfl,rfl,?_⟩⟩;refine az.rj j H ((gp ps g x).1,(gp ps g x).2.1,(gp ps g x).2.2.1,false,(gp ps g x).2.2.2.2.1,()) m u (by decide) rfl rfl λn H=>?_;rw[G1 _ _ q] at H;have h1:=zz d H (λy i=>B6 _ i);refine⟨by grind,aj.of x h1.2 (au.go H λv H=>k v (H.sub (DK _ _)))⟩
theorem tC (a:lO room ps) (g:Int): ∀i,lO room (ig room ps g i).2
 |0=>a
 |i+1=>(tC a g i).eO g i
theorem D_ (g:Int): ∀i:Nat,0<=(ig room ps g i).1/\(ig room ps g i).1<=i
 |0=>by simp[ig]
 |i+1=>by
  have:=D_ g i;simp[ig];omega
theorem KZ (d:lO room ps) {g i j:Int} (hi:sv room g i=true) (b:sv room g j=true):gp (eO room ps g i).2 g j=if j=i then zP else gp ps g j:=by
 cases a:oG room ps g i with
 |none=>
  rw[v7 a];rw[u0 hi] at a
  grind
 |some=>
  rw[pF a];obtain⟨p1,p2,p3⟩:=fC a;have c:=d.tookS;split
  ·rename_i e;obtain⟨h,f, _⟩:=d.nz a e;subst p2;rw[iY (c.set _ _) p1 b,iY c f b]
   grind
  ·subst p2;rw[iY c p1 b]
   grind
theorem Ea (b:lO room ps) {g:Int} (a:gI g=true): ∀(n:Nat),(n:Int)<=room-> ∀j,0<=j->j<(n:Int)->gp (ig room ps g n).2 g j=zP
 |n+1,f,j,h0,h1=>by
  have c:sv room g n=true:=eV.2 ⟨nE.1 a,by omega⟩;have d:sv room g j=true:=eV.2 ⟨nE.1 a,by omega⟩;simp[ig];rw[KZ (tC b g n) c d];by_cases e:j=n
  ·grind
  ·rw[ao e];exact Ea b a n (by omega) j h0 (by omega)
def vE (room:Int) (ps:List PT) (g:Int):Prop:=lO room ps/\ ∀i,sv room g i=true->gp ps g i=zP
theorem QW {g:Int} (h:vE room ps g) {k i:Int} (hi:sv room k i=true) (d:(gp ps k i).2.1=g):(gp ps k i).1≠2:=by
 intro b;rcases h.1.inv k i hi with z|z|⟨_, _,c,a, _⟩
 ·rw[z] at b;exact absurd b (by decide)
 grind
 ·rw[d] at c a;rw[h.2 _ c] at a;exact absurd a (by decide)
theorem Hd {g:Int} {s:Int×List PT} (h:vE room s.2 g) (k i:Int):vE room (oV room g s k i).2 g:=by
 unfold oV;split
 ·grind
 ·rename_i b;split
  ·rename_i c;obtain⟨p1,p2,p3⟩:=fC b;subst p2;refine⟨h.1.Yq p1 (QW h p1 c) (.inl rfl),λj a=>?_⟩;rw[iY h.1.tookS p1 a];split
   ·rfl
   ·exact h.2 j a
  grind
theorem rZ {g:Int} {s:Int×List PT} (h:vE room s.2 g) (k:Int): ∀i,vE room (mL room g s k i).2 g
 |0=>h
 |i+1=>Hd (rZ h k i) k i
theorem r_ {g:Int} {s:Int×List PT} (h:vE room s.2 g): ∀k,vE room (kK room g s k).2 g
 |0=>h
 |k+1=>rZ (r_ h k) _ _
theorem QX {g:Int} (s:Int×List PT) (k i:Int):s.1<=(oV room g s k i).1/\(oV room g s k i).1<=s.1+1:=by grind[oV]
theorem y6 {g:Int} (s:Int×List PT) (k:Int): ∀i:Nat,s.1<=(mL room g s k i).1/\(mL room g s k i).1<=s.1+i
 |0=>by simp[mL]
 |i+1=>by
  have h1:=y6 (g:=g) s k i;have a:=QX (g:=g) (room:=room) (mL room g s k i) k i;simp[mL];omega
theorem Eb {g:Int} (s:Int×List PT): ∀k:Nat,s.1<=(kK room g s k).1/\(kK room g s k).1<=s.1+k*room.toNat
 |0=>by simp[kK]
 |k+1=>by
  have h1:=Eb (g:=g) s k;have a:=y6 (g:=g) (room:=room);simp[kK]
  grind
theorem zA (a:lO room ps) {g:Int} (b:gI g=true):vE room (ig room ps g room.toNat).2 g:=by
 exact⟨tC a g _,by grind[Ea,eV]⟩
theorem QY (a:lO room ps) (g:Int):lO room (cG room ps g).2:=by
 unfold cG;split
 ·rename_i b;exact(r_ (zA a b) _).1
 grind
theorem QZ (H:aJ D G w0 w L) (j:Nat) (d:L[j]? =some (bp,gM room ps)) (x:lO room ps) (g:Int) {K:Int->A2->Prop}
 (k: ∀I,aJ D G w0 I (L.set j (bp,gM room (cG room ps g).2))->K (cG room ps g).1 I):
 aA AA 170 (.el (.one (.int .i64))) [ag (ae bp),aa g] w K:=by
 refine aA.go H λw1 H=>ai (C:=R1) (aS:=uc) (Ak (QL _ g w1 K) ?_);have t:=x.tookS;have S_:=t.lo;have R:=t.hi;refine⟨true,UK H j d t,λ_=>trivial,ab (λc=>?_) (λc=>?_)⟩
 ·have v:gI g=false:=by simpa using c
  have e:cG room ps g=(0,ps):=by unfold cG;rw[v];rfl
  rw[e] at k;refine au.go H λy H=>k y ?_;rw[lG d];exact H
 have v:gI g=true:=by simpa using c
 have e:cG room ps g=kK room g (ig room ps g room.toNat) 16:=by unfold cG;rw[av v]
 rw[e] at k;refine⟨rfl,rfl,aj.cw j H d (pU t) ?_⟩;refine⟨λq s w'=> ∃i:Nat,s.2.1=i/\q+i=room.toNat/\s.1=(ig room ps g i).1/\aJ D G w0 w' (L.set j (bp,gM room (ig room ps g i).2)),⟨room.toNat,λy S=>⟨0,rfl,rfl,rfl,by rw[show(ig room ps g 0).2=ps from rfl,lG d];exact H.ext S⟩⟩,?_⟩;clear H;rintro q ⟨a,T,u⟩ y ⟨i,hi,hq,l,H⟩;simp only at hi l;subst hi;subst l;dsimp only;have U:=D_ (room:=room) (ps:=ps) g i;refine ab (λc1=>?_) (λc1=>?_)
 ·have V:i<room.toNat:=by simp at c1;omega
  have W:=tC x g i;refine A8 H j (kR d) W g i λJ H=>?_;rw[B5] at H;have n:aL .i64 (i:Int) 1=((i+1:Nat):Int):=by rw[ax (by omega) (by omega)];rfl
  refine ab (λc2 o p=>⟨q - 1,by omega,i+1,n,by omega,?_,H.ext p⟩) (λc2 o p=>⟨q - 1,by omega,i+1,n,by omega,?_,H.ext p⟩)
  ·have c3:(eO room (ig room ps g i).2 g i).1=0:=by simpa using c2
   simp only[ig];rw[av c3,ax (by omega) (by omega)]
  ·have c3: ¬ (eO room (ig room ps g i).2 g i).1=0:=by simpa using c2
   simp only[ig];rw[ao c3,Int.add_zero]
 have hi:i=room.toNat:=by simp at c1;omega
 subst hi;have M:=zA x v;generalize ig room ps g room.toNat=f at H k M U;refine⟨λq s w'=> ∃m:Nat,s.2.1=(m:Int)+1/\q+m=16/\s.1=(kK room g f m).1/\aJ D G w0 w' (L.set j (bp,gM room (kK room g f m).2)),⟨16,λJ X=>⟨0,rfl,rfl,rfl,H.ext X⟩⟩,?_⟩;clear H;rintro Y ⟨a,m',u2⟩ J ⟨m,N,Wd,l,H⟩;simp only at N l;subst N;subst l;dsimp only;have O:=r_ M m;have hlA:=Eb (room:=room) (g:=g) f m;have acI:(m:Int)*(room.toNat:Int)<=16*32:=Int.mul_le_mul (by omega) (by omega) (by omega) (by omega);refine ab (λc2=>?_) (λc2=>?_)
 ·have P:m<16:=by simp at c2;omega
  refine⟨rfl,rfl,aj.cw j H (kR d) (pU O.1.tookS) ?_⟩;refine⟨λq s w'=> ∃i:Nat,s.2.1=i/\q+i=room.toNat/\s.1=(mL room g (kK room g f m) ((m:Int)+1) i).1/\aJ D G w0 w' (L.set j (bp,gM room (mL room g (kK room g f m) ((m:Int)+1) i).2)),⟨room.toNat,λo p=>⟨0,rfl,rfl,rfl,H.ext p⟩⟩,?_⟩;clear H;rintro z ⟨a,T,u3⟩ o ⟨i,hi,hq3,l,H⟩;simp only at hi l;subst hi;subst l;dsimp only;have Z:=rZ O ((m:Int)+1) i;have hlR:=y6 (room:=room) (g:=g) (kK room g f m) ((m:Int)+1) i;refine ab (λc3=>?_) (λc3=>?_)
  ·have V:i<room.toNat:=by simp at c3;omega
   have n:aL .i64 (i:Int) 1=((i+1:Nat):Int):=by rw[ax (by omega) (by omega)];rfl
   have A:=Z.1.tookS;have er:mL room g (kK room g f m) ((m:Int)+1) (i+1)=oV room g (mL room g (kK room g f m) ((m:Int)+1) i) ((m:Int)+1) i:=rfl;generalize mL room g (kK room g f m) ((m:Int)+1) i=b at*
   refine⟨_,FL H j (kR d) A ((m:Int)+1) i rfl,?_⟩;cases B:oG room b.2 ((m:Int)+1) i with
   |none=>
    have E:oV room g b ((m:Int)+1) i=b:=by unfold oV;rw[B]
    rw[E] at er;exact⟨λh=>by simp at h,λh=>by simp at h,(0:Int),λh=>by simp at h,an rfl λF r=>⟨z - 1,by omega,i+1,n,by omega,by rw[er],by rw[er];exact H.ext r⟩⟩
   |some kk=>
    obtain⟨lR,sy,ZR⟩:=fC B;have Q:kk<512:=by rw[sy];exact oT lR R
    have Dc:=A.get Q;have E:oV room g b ((m:Int)+1) i=if(b.2.getD kk zP).2.1=g then(b.1+1,b.2.set kk zP) else b:=by unfold oV;rw[B]
    rw[E] at er;refine⟨λ_=>rfl,λ_=>rfl,aj.cw j H (kR d) (rj Dc (by decide) rfl) (ab (λc4=>?_) (λc4=>?_))⟩
    ·have c5:(b.2.getD kk zP).2.1=g:=by simpa using c4
     rw[av c5] at er;refine⟨rfl,az.port j H (kR d) (by rw[A.len];exact Q) zP rfl λF H w7 h7=>⟨z - 1,by omega,i+1,n,by omega,?_,?_⟩⟩
     ·rw[er,ax (by omega) (by omega)]
     ·rw[er];rw[B5] at H;exact H.ext h7
    ·have c5: ¬ (b.2.getD kk zP).2.1=g:=by simpa using c4
     rw[ao c5] at er;exact λF r=>⟨z - 1,by omega,i+1,n,by omega,by rw[er],by rw[er];exact H.ext r⟩
  ·have hi:i=room.toNat:=by simp at c3;omega
   subst hi;exact λF r=>⟨Y - 1,by omega,m+1,by rw[ax (by omega) (by omega)];omega,by omega,rfl,H.ext r⟩
 ·have P:m=16:=by simp at c2;omega
  subst P;exact au.go H λo H=>k o H
end
def Ed (room:Int) (ps:List PT) (u v:Int):Prop:= ∃i,sv room u i=true/\gp ps u i≠zP/\(gp ps u i).2.1=v
inductive Lk (room:Int) (ps:List PT) (a:Int):Int->Prop
 |refl:Lk room ps a a
 |fwd {u v:Int}:Lk room ps a u->Ed room ps u v->Lk room ps a v
 |bwd {u v:Int}:Lk room ps a v->Ed room ps u v->Lk room ps a u
def tv (bs:List Bool) (v:Int):Bool:=bs.getD v.toNat false
def JU (bs:List Bool):List AN:=bs.map Value.bool
theorem Oo {bs:List Bool} {v:Int} (h:v.toNat<bs.length):k_ (JU bs) (0+v.toNat*1) (.one .bool)=some (tv bs v):=by
 have:(JU bs)[0+v.toNat*1]? =some (.bool (tv bs v)):=by
  unfold JU tv;rw[B8,Nat.mul_one,I1,B1 h,B3,B1 h];rfl
 show(match (JU bs)[0+v.toNat*1]? with|some v=>Sc.bool.proj v|none=>none)= _;rw[this];rfl
theorem Ge {bs:List Bool} {u v:Int} (b:0<=u) (a:u.toNat<bs.length) (hv:0<=v):tv (bs.set u.toNat true) v=if v=u then true else tv bs v:=by
 unfold tv;by_cases e:v=u
 ·subst e;rw[av rfl];simp[B3,a]
 ·rw[ao e];have:u.toNat≠v.toNat:=by omega
  simp[B3,Dl this]
def Ic (bs:List Bool):Nat:=bs.countP (! ·)
theorem xB {bs:List Bool} {k:Nat} (a:k<bs.length):Ic (bs.set k true)+(if bs.getD k false=false then 1 else 0)=Ic bs:=by
 unfold Ic;rw[List.countP_set a];have e:bs.getD k false=bs[k]:=by rw[B3,B1 a];rfl
 rw[e];cases h:bs[k] with
 |true=>simp
 |false=>
  have:0<bs.countP (! ·):=List.countP_pos_iff.2 ⟨bs[k],FN a,by rw[h];rfl⟩;simp;omega
theorem sa {bs:List Bool} {k:Nat} (a:k<bs.length):Ic (bs.set k true)<=Ic bs:=by have:=xB a;omega
section
variable {D G:List Nat} {w0 w:A2} {L:List (Nat×List AN)} {bp:Nat} {room:Int} {ps:List PT}
theorem Oq (j:Nat) (H:aJ D G w0 w L) {b:Nat} {bs:List Bool} {v:Int} (a:L[j]? =some (b,JU bs)) (d:v.toNat<bs.length) {K:A2->Prop}
 (c: ∀w1,aJ D G w0 w1 (L.set j (b,JU (bs.set v.toNat true)))->K w1):az w (ad (ae b) (v.toNat*1)) [.bool true] K:=by
 refine az.fK j H a rfl ?_ λw1 h1=>c w1 ?_
 ·rw[GH];unfold JU;rw[Fu];omega
 ·have e:(JU bs).set (0+v.toNat*1) (.bool true)=JU (bs.set v.toNat true):=by unfold JU;rw[List.map_set,B8,Nat.mul_one]
  rw[e] at h1;exact h1
end
end Go.Proofs.YtlcenllcmeebhaaGreat.Po
namespace Go.Proofs.YtlcenllcmeebhaaGreat
set_option maxRecDepth 100000
open Go.RX
open Po (tv JU Oo Ge Ic xB sa Oq)
inductive Rc (E:Int->Int->Prop) (a:Int):Int->Prop
 |refl:Rc E a a
 |step {u v:Int}:Rc E a u->E u v->Rc E a v
structure Dfs (E:Int->Int->Prop) (n:Int) (bs Xx:List Bool):Prop where
 len:Xx.length=17
 mono: ∀v,0<=v->tv bs v=true->tv Xx v=true
 Fw:tv Xx n=true
 snd: ∀v,0<=v->tv Xx v=true->tv bs v=true\/Rc E n v
 cls: ∀u v,0<=u->tv Xx u=true->tv bs u=false->E u v->tv Xx v=true
 Ic:Ic Xx<=Ic bs
structure Lp (E:Int->Int->Prop) (n:Int) (bs cs:List Bool):Prop where
 len:cs.length=17
 mono: ∀v,0<=v->tv bs v=true->tv cs v=true
 Fw:tv cs n=true
 snd: ∀v,0<=v->tv cs v=true->tv bs v=true\/Rc E n v
 cls: ∀u v,0<=u->u≠n->tv cs u=true->tv bs u=false->E u v->tv cs v=true
 Ic:Ic cs+(if tv bs n=false then 1 else 0)<=Ic bs
open Po (tv JU Oo Ge Ic xB sa Oq)
def n7 (gs:List GT):Prop:= ∀x∈gs,(x=zG\/((1<=x.1/\x.1<=16)/\(1<=x.2.2.1/\x.2.2.1<=16)/\x.1≠x.2.2.1/\0<=x.2.1/\x.2.1<65536))/\0<=x.2.2.2.2.1/\x.2.2.2.2.1<=1000
theorem O1 {g:Int}:gG g=true<->1<=g/\g<=16:=by unfold gG;simp
section
variable {w0:A2} {bg br c:Nat} {gs:List GT} {rest:List AN}
end
theorem n7.set {gs:List GT} (h:n7 gs) (i:Nat) {x:GT} (b:(x=zG\/((1<=x.1/\x.1<=16)/\(1<=x.2.2.1/\x.2.2.1<=16)/\x.1≠x.2.2.1/\0<=x.2.1/\x.2.1<65536))/\0<=x.2.2.2.2.1/\x.2.2.2.2.1<=1000):n7 (gs.set i x):=λy a=>by
 rcases List.mem_or_eq_of_mem_set a with a|rfl
 ·exact h y a
 ·exact b
theorem Ot:((zG:GT)=zG\/((1<=zG.1/\zG.1<=16)/\(1<=zG.2.2.1/\zG.2.2.1<=16)/\zG.1≠zG.2.2.1/\0<=zG.2.1/\zG.2.1<65536))/\0<=zG.2.2.2.2.1/\zG.2.2.2.2.1<=1000:=⟨.inl rfl,by decide,by decide⟩
theorem n7.rev {gs:List GT} (h:n7 gs) (i o:Int):n7 (lz gs i o):=by
 unfold lz;split
 ·exact h.set _ Ot
 ·exact h
theorem n7.at {gs:List GT} (h:n7 gs) {i:Int} {k:Nat} (a:l6 gs i=some k):((1<=(gs.getD k zG).1/\(gs.getD k zG).1<=16)/\(1<=(gs.getD k zG).2.2.1/\(gs.getD k zG).2.2.1<=16)/\(gs.getD k zG).1≠(gs.getD k zG).2.2.1/\0<=(gs.getD k zG).2.1/\(gs.getD k zG).2.1<65536)/\0<=(gs.getD k zG).2.2.2.2.1/\(gs.getD k zG).2.2.2.2.1<=1000:=by
 obtain⟨_, _, _,b,c⟩:=lF a;obtain⟨h1,d⟩:=h _ (FB b);exact⟨h1.resolve_left c,d⟩
theorem n7.take {gs:List GT} (h:n7 gs) (i g:Int) (b:Bool):n7 (d_ gs i g b):=by
 unfold d_;split
 ·rename_i a;unfold gX at a;cases c:l6 gs i with
  |none=>rw[c] at a;cases a
  |some k=>
   rw[c] at a;dsimp only at a;obtain⟨h1,e⟩:=h.at c;obtain⟨_, _,d, _⟩:=lF c;subst d;split at a
   ·cases a
   ·split at a
    ·cases a
    ·rename_i f;refine h.set _ ⟨.inr h1,?_,?_⟩
     ·show 0<=(gs.getD i.toNat zG).2.2.2.2.1+1;omega
     ·show(gs.getD i.toNat zG).2.2.2.2.1+1<=1000;omega
 ·exact h
theorem n7.back {gs:List GT} (h:n7 gs) (i g:Int):n7 (eM gs i g):=by
 unfold eM;split
 ·rename_i a;unfold mz at a;cases b:l6 gs i with
  |none=>rw[b] at a;cases a
  |some k=>
   rw[b] at a;dsimp only at a;obtain⟨h1,d⟩:=h.at b;obtain⟨_, _,c, _⟩:=lF b;subst c;split at a
   ·cases a
   ·split at a
    ·cases a
    ·rename_i e;refine h.set _ ⟨.inr h1,?_,?_⟩
     ·show 0<=(gs.getD i.toNat zG).2.2.2.2.1+ -1;omega
     ·show(gs.getD i.toNat zG).2.2.2.2.1+ -1<=1000;omega
 ·exact h
theorem n7.off {gs:List GT} (h:n7 gs) (o q t:Int) (b:Bool):n7 (jY gs o q t b):=by
 unfold jY;split
 ·rename_i a;unfold lA at a;split at a
  ·cases a
  ·rename_i hc;have hc:gG o=true/\gG t=true/\o≠t/\0<=q/\q<65536:=by
    simp only[Df,Dz,beq_iff_eq,decide_eq_true_eq,not_or] at hc;obtain⟨⟨⟨⟨h1,c⟩,d⟩,f⟩,g⟩:=hc;exact⟨by simpa using h1,by simpa using c,d,by omega,by omega⟩
   have a1:=O1.1 hc.1;have e:=O1.1 hc.2.1;exact h.set _ ⟨.inr ⟨a1,e,hc.2.2⟩,Int.le_refl 0,(by decide:(0:Int)<=1000)⟩
 ·exact h
theorem n7.drop {gs:List GT} (h:n7 gs) (g:Int):n7 (cM gs g):=λy a=>by
 unfold cM at a;obtain⟨x,b,rfl⟩:=Bs.1 a;split
 ·exact Ot
 ·exact h x b
theorem n7.new (n:Nat):n7 (BQ n zG):=λy a=>by
 rw[List.eq_of_mem_replicate a];exact Ot
theorem n7.use {gs:List GT} (h:n7 gs): ∀x∈gs,0<=x.2.2.2.2.1/\x.2.2.2.2.1<=1000:=λx a=>(h x a).2
noncomputable def H0:dI AA:={C3 with vy:=false,quiet:=[119,120]}
theorem K8 (w:A2) (u:Option Nat->A2->Prop):(aI H0 (λ_=>[]) 163 [] w u)=(
 ∀w1,Ext w w1-> ∀c,Ext (w1.alloc (Obj.map ⟨[]⟩ 0)) c-> ∃(r:Nat), ∃(es:Array Al), ∃(a:Nat),some w1.heap.size=some r/\bG c r es a/\gU c r .i64 1 (.agg {toList:=[.string {data:=⟨[99,114,101,97,116,101]⟩},aa 0]}) es a λb=> ∀d,Ext b d-> ∃(r:Nat), ∃(es:Array Al), ∃(a:Nat),some w1.heap.size=some r/\bG d r es a/\gU d r .i64 2 (.agg {toList:=[.string {data:=⟨[100,101,115,116,114,111,121]⟩},aa 1]}) es a λb=> ∀e,Ext b e-> ∃(r:Nat), ∃(es:
 Array Al), ∃(a:Nat),some w1.heap.size=some r/\bG e r es a/\gU e r .i64 3 (.agg {toList:=[.string {data:=⟨[100,111,110,97,116,101]⟩},aa 2]}) es a λb=> ∀f,Ext b f-> ∃(r:Nat), ∃(es:Array Al), ∃(a:Nat),some w1.heap.size=some r/\bG f r es a/\gU f r .i64 4 (.agg {toList:=[.string {data:=⟨[114,101,99,108,97,105,109]⟩},aa 1]}) es a λb=> ∀g,Ext b g-> ∃(r:Nat), ∃(es:Array Al), ∃(a:Nat),some w1.heap.size=some r/\bG g r es a/\
 gU g r .i64 5 (.agg {toList:=[.string {data:=⟨[112,114,111,116,101,99,116]⟩},aa 2]}) es a λb=> ∀h,Ext b h-> ∃(r:Nat), ∃(es:Array Al), ∃(a:Nat),some w1.heap.size=some r/\bG h r es a/\gU h r .i64 6 (.agg {toList:=[.string {data:=⟨[108,111,97,100]⟩},aa 1]}) es a λb=> ∀i,Ext b i-> ∃(r:Nat), ∃(es:Array Al), ∃(a:Nat),some w1.heap.size=some r/\bG i r es a/\gU i r .i64 7 (.agg {toList:=[.string {data:=⟨[115,116,111,114,101]⟩},.int .i64
 2]}) es a λb=> ∀j,Ext b j-> ∃(r:Nat), ∃(es:Array Al), ∃(a:Nat),some w1.heap.size=some r/\bG j r es a/\gU j r .i64 8 (.agg {toList:=[.string {data:=⟨[111,102,102,101,114]⟩},aa 3]}) es a λb=> ∀k,Ext b k-> ∃(r:Nat), ∃(es:Array Al), ∃(a:Nat),some w1.heap.size=some r/\bG k r es a/\gU k r .i64 9 (.agg {toList:=[.string {data:=⟨[116,97,107,101]⟩},aa 3]}) es a λb=> ∀l,Ext b l-> ∃(r:Nat), ∃(es:Array Al), ∃(a:Nat),
 some w1.heap.size=some r/\bG l r es a/\gU l r .i64 10 (.agg {toList:=[.string {data:=⟨[98,97,99,107]⟩},aa 1]}) es a λb=> ∀m,Ext b m-> ∃(r:Nat), ∃(es:Array Al), ∃(a:Nat),some w1.heap.size=some r/\bG m r es a/\gU m r .i64 11 (.agg {toList:=[.string {data:=⟨[114,101,118,111,107,101]⟩},aa 1]}) es a λb=> ∀n,Ext b n-> ∃(r:Nat), ∃(es:Array Al), ∃(a:Nat),some w1.heap.size=some r/\bG n r es a/\gU n r .i64 12 (.agg {toList:=[.string
 {data:=⟨[111,112,101,110]⟩},aa 1]}) es a λb=> ∀o,Ext b o-> ∃(r:Nat), ∃(es:Array Al), ∃(a:Nat),some w1.heap.size=some r/\bG o r es a/\gU o r .i64 13 (.agg {toList:=[.string {data:=⟨[98,105,110,100]⟩},aa 2]}) es a λb=> ∀p,Ext b p-> ∃(r:Nat), ∃(es:Array Al), ∃(a:Nat),some w1.heap.size=some r/\bG p r es a/\gU p r .i64 14 (.agg {toList:=[.string {data:=⟨[115,101,110,100]⟩},aa 1]}) es a λb=> ∀q,Ext b q-> ∃(r
 :Nat), ∃(es:Array Al), ∃(a:Nat),some w1.heap.size=some r/\bG q r es a/\gU q r .i64 15 (.agg {toList:=[.string {data:=⟨[112,111,108,108]⟩},aa 0]}) es a λb=> ∀s,Ext b s-> ∃(r:Nat), ∃(es:Array Al), ∃(a:Nat),some w1.heap.size=some r/\bG s r es a/\gU s r .i64 16 (.agg {toList:=[.string {data:=⟨[99,108,111,115,101]⟩},aa 1]}) es a λb=> ∀t,Ext b t-> ∃(r:Nat), ∃(es:Array Al), ∃(a:Nat),some w1.heap.size=some r/\bG t r es
 a/\gU t r .i64 17 (.agg {toList:=[.string {data:=⟨[115,119,101,101,112]⟩},aa 0]}) es a λb=>au b (u (some w1.heap.size))):=by kernel_rfl
theorem Q0 (k:Int) (w:A2) (d:Int->A2->Prop):(aI H0 (λ_=>[]) 119 [aa k] w d)=(
 aA AA 163 (.el NX) [] w λx a=> ∃(c:ByteArray×Int×Unit), ∃(b:Bool),mr a x .i64 k (.agg {toList:=[.string {data:=⟨[]⟩},aa 0]}) (.agg ⟨[.string c.1,aa c.2.1]⟩) b/\aM a {toList:=[.string {data:=⟨[]⟩},aa 0]} 242 λe a=>az a (ae e) [.string c.1,aa c.2.1] λa=>aH (!b) (au a (d (-1))) (true=true/\aW a (ad (ae e) 1) λx=>au a (d x))):=by kernel_rfl
theorem E6 (k:Int) (w:A2) (a:Bool->A2->Prop):(aI H0 (λ_=>[]) 77 [aa k] w a)=(
 au w (a (k==1||k==2||k==17))):=by kernel_rfl
theorem K9 (k a b c:Int) (w:A2) (e:Int×Int×Int×Unit->A2->Prop):(bV H0 (λ_=>[]) 120 [.agg ⟨[aa k,ay a,ay b,ay c]⟩] w e)=(
 aM w ⟨[aa k,ay a,ay b,ay c]⟩ 31 λb d=>aM d ⟨[ay 0,ay 0,ay 0]⟩ 222 λf d=>true=true/\cK d (ad (ae b) 1) λx=>true=true/\cK d (ad (ae b) 2) λg=>true=true/\cK d (ad (ae b) 3) λh=>az d (ae f) [ay x,ay g,ay h] λd=>au d λw1=>aj w1 none (ae f) (.agg [.int .u64,.int .u64,.int .u64]) λ(x:Int×Int×Int×Unit)=>e (x.1,x.2.1,x.2.2.1,()) w1):=by kernel_rfl
def qR:Nat->a8:=(λ|5=>[(13,Go.RX.El.one (Go.RX.Sc.int B4))]| _=>[])
theorem K_ (k a b c:Int) (w:A2) (f:Bool->A2->Prop):(aI H0 qR 76 [.agg ⟨[aa k,ay a,ay b,ay c]⟩] w f)=(
 aM w ⟨[aa k,ay a,ay b,ay c]⟩ 31 λb d=>true=true/\aW d (ad (ae b) 0) λx=> ∃(g:Int),af AA 119 [aa x] d (aa g)/\aH (g== -1) (au d (f false)) (aj d none (ae b) wW λ(x:Int×Int×Int×Int×Unit)=> ∃(e:Int×Int×Int×Unit),af AA 120 [.agg ⟨[aa x.1,ay x.2.1,ay x.2.2.1,ay x.2.2.2.1]⟩] d (.agg ⟨[ay e.1,ay e.2.1,ay e.2.2.1]⟩)/\ ∃(I:Nat->Int×Unit->A2->Prop),(∃n, ∀w1,Ext d w1->I n (0,()) w1)/\
 ∀(n:Nat) (s:Int×Unit) (w1:A2),I n s w1->aH (decide (s.1<3)) ((0<=s.1/\s.1<(↑3:Int))/\aH (decide (s.1>=g)&&J4 [e.1,e.2.1,e.2.2.1] s.1 != 0) (au w1 (f false)) (∀h,Ext w1 h-> ∃(i:Nat),i<n/\I i (aL .i64 s.1 1,()) h)) (au w1 (f true)))):=by kernel_rfl
theorem gF {D G:List Nat} {w0 w:A2} {L:List (Nat×List AN)} {M:List (Nat×Obj)} {r:Nat} {l:List Al} {c:Nat} (H:cC D G w0 w L ((r,.map ⟨l⟩ c)::M)) {n:Int} {val:AN} {K:A2->Prop} (g:C8 (.int .i64) (aa n) l 0=some none)
 (k: ∀a,cC D G w0 a L ((r,.map ⟨l++[{key:=aa n,val,born:=c}]⟩ (c+1))::M)->K a):
 ∀w1,Ext w w1-> ∃r' b d,some r=some r'/\bG w1 r' b d/\gU w1 r' .i64 n val b d K:=λw1 h=>by
 have f:=H.ext h;refine⟨r,⟨l⟩,c,rfl,f.get (i:=0) rfl,?_⟩;unfold gU;rw[g];have e:Array.push _ _=⟨l++[{key:=aa n,val,born:=c}]⟩:=List.push_toArray _ _;rw[e];exact k _ (f.put (i:=0) rfl trivial)
theorem _root_.Go.RX.cC.WQ {D G:List Nat} {w0 w:A2} {L:List (Nat×List AN)} {M:List (Nat×Obj)} {r:Nat} {l l':List Al} {c:Nat} (H:cC D G w0 w L ((r,.map ⟨l⟩ c)::M)) (e:l=l'):cC D G w0 w L ((r,.map ⟨l'⟩ c)::M):=by
 grind
def gH (k:Int) (s:ByteArray) (n:Int) (b:Nat):Al:={key:=aa k,val:= .agg ⟨[.string s,aa n]⟩,born:=b}
def eR:Array Al:=⟨[gH 1 ⟨⟨[99,114,101,97,116,101]⟩⟩ 0 0,gH 2 ⟨⟨[100,101,115,116,114,111,121]⟩⟩ 1 1,gH 3 ⟨⟨[100,111,110,97,116,101]⟩⟩ 2 2,gH 4 ⟨⟨[114,101,99,108,97,105,109]⟩⟩ 1 3,gH 5 ⟨⟨[112,114,111,116,101,99,116]⟩⟩ 2 4,gH 6 ⟨⟨[108,111,97,100]⟩⟩ 1 5,gH 7 ⟨⟨[115,116,111,114,101]⟩⟩ 2 6,gH 8 ⟨⟨[111,102,102,101,114]⟩⟩ 3 7,gH 9 ⟨⟨[116,97,107,101]⟩⟩ 3 8,gH 10 ⟨⟨[98,97,99,107]⟩⟩ 1 9,gH 11 ⟨⟨[114,101,118,111,107,101]⟩⟩ 1 10,gH 12 ⟨⟨[111,112,101,110]⟩⟩ 1 11,gH 13 ⟨⟨[98,105,110,100]⟩⟩ 2 12,gH 14 ⟨⟨[115,101,110,100]⟩⟩ 1 13,gH 15 ⟨⟨[112,111,108,108]⟩⟩ 0 14,gH 16 ⟨⟨[99,108,111,115,101]⟩⟩ 1 15,gH 17 ⟨⟨[115,119,101,101,112]⟩⟩ 0 16]⟩
def jZ (k:Int):Int:=if 1<=k/\k<=17 then([0,1,2,1,2,1,2,3,3,1,1,1,2,1,0,1,0]:List Int).getD (k - 1).toNat 0 else -1
def fN (k a b c:Int):Bool:=decide (jZ k>=0)&&((decide (jZ k>0)||a==0)&&((decide (jZ k>1)||b==0)&&(decide (jZ k>2)||c==0)))
def sX (k:Int):Bool:=k==1||k==2||k==17
section
variable {D G:List Nat} {w0 w:A2} {L:List (Nat×List AN)} {M:List (Nat×Obj)}
theorem La (H:cC D G w0 w L M) {K:Option Nat->A2->Prop} (k: ∀r a,cC D G w0 a L ((r,.map eR 17)::M)->K (some r) a):aA AA 163 (.el (.one .map)) [] w K:=by
 refine λw1 h1=>ai (C:=H0) (aS:=λ_=>[]) (Ak (K8 w1 K) ?_);have H:=H.ext h1;intro b c;have H:=(H.ext c).alloc (o:= .map #[] 0) trivial;refine gF H (by kernel_rfl) λf H=>?_;refine gF H (by kernel_rfl) λg H=>?_;refine gF H (by kernel_rfl) λh H=>?_;refine gF H (by kernel_rfl) λi H=>?_;refine gF H (by kernel_rfl) λj H=>?_;refine gF H (by kernel_rfl) λl H=>?_;refine gF H (by kernel_rfl) λm H=>?_;refine gF H (by kernel_rfl) λn H=>?_;refine gF H (by kernel_rfl) λp H=>?_;refine gF H (by kernel_rfl) λq H=>?_;refine gF H (by kernel_rfl) λs H=>?_;refine gF H (by kernel_rfl) λt H=>?_;refine gF H (by kernel_rfl) λu H=>?_;refine gF H (by kernel_rfl) λv H=>?_;refine gF H (by kernel_rfl) λx H=>?_;refine gF H (by kernel_rfl) λy H=>?_;refine gF H (by kernel_rfl) λz H=>?_;exact λd e=>k b.heap.size d ((H.ext e).WQ (by kernel_rfl))
theorem He {r:Nat} (h:bG w r eR 17) (k:Int): ∃(x:ByteArray×Int×Unit) (b:Bool),mr w (some r) .i64 k (.agg ⟨[.string ⟨⟨[]⟩⟩,aa 0]⟩) (.agg ⟨[.string x.1,aa x.2.1]⟩) b/\(b=false->jZ k= -1)/\(b=true->x.2.1=jZ k):=by
 by_cases c:1<=k/\k<=17
 ·have:k=1\/k=2\/k=3\/k=4\/k=5\/k=6\/k=7\/k=8\/k=9\/k=10\/k=11\/k=12\/k=13\/k=14\/k=15\/k=16\/k=17:=by omega
  rcases this with rfl|rfl|rfl|rfl|rfl|rfl|rfl|rfl|rfl|rfl|rfl|rfl|rfl|rfl|rfl|rfl|rfl
  ·exact⟨(⟨⟨[99,114,101,97,116,101]⟩⟩,0,()),true,⟨r,eR,17,rfl,h,rfl,rfl⟩,λh=>(by cases h),λ_=>rfl⟩
  ·exact⟨(⟨⟨[100,101,115,116,114,111,121]⟩⟩,1,()),true,⟨r,eR,17,rfl,h,rfl,rfl⟩,λh=>(by cases h),λ_=>rfl⟩
  ·exact⟨(⟨⟨[100,111,110,97,116,101]⟩⟩,2,()),true,⟨r,eR,17,rfl,h,rfl,rfl⟩,λh=>(by cases h),λ_=>rfl⟩
  ·exact⟨(⟨⟨[114,101,99,108,97,105,109]⟩⟩,1,()),true,⟨r,eR,17,rfl,h,rfl,rfl⟩,λh=>(by cases h),λ_=>rfl⟩
  ·exact⟨(⟨⟨[112,114,111,116,101,99,116]⟩⟩,2,()),true,⟨r,eR,17,rfl,h,rfl,rfl⟩,λh=>(by cases h),λ_=>rfl⟩
  ·exact⟨(⟨⟨[108,111,97,100]⟩⟩,1,()),true,⟨r,eR,17,rfl,h,rfl,rfl⟩,λh=>(by cases h),λ_=>rfl⟩
  ·exact⟨(⟨⟨[115,116,111,114,101]⟩⟩,2,()),true,⟨r,eR,17,rfl,h,rfl,rfl⟩,λh=>(by cases h),λ_=>rfl⟩
  ·exact⟨(⟨⟨[111,102,102,101,114]⟩⟩,3,()),true,⟨r,eR,17,rfl,h,rfl,rfl⟩,λh=>(by cases h),λ_=>rfl⟩
  ·exact⟨(⟨⟨[116,97,107,101]⟩⟩,3,()),true,⟨r,eR,17,rfl,h,rfl,rfl⟩,λh=>(by cases h),λ_=>rfl⟩
  ·exact⟨(⟨⟨[98,97,99,107]⟩⟩,1,()),true,⟨r,eR,17,rfl,h,rfl,rfl⟩,λh=>(by cases h),λ_=>rfl⟩
  ·exact⟨(⟨⟨[114,101,118,111,107,101]⟩⟩,1,()),true,⟨r,eR,17,rfl,h,rfl,rfl⟩,λh=>(by cases h),λ_=>rfl⟩
  ·exact⟨(⟨⟨[111,112,101,110]⟩⟩,1,()),true,⟨r,eR,17,rfl,h,rfl,rfl⟩,λh=>(by cases h),λ_=>rfl⟩
  ·exact⟨(⟨⟨[98,105,110,100]⟩⟩,2,()),true,⟨r,eR,17,rfl,h,rfl,rfl⟩,λh=>(by cases h),λ_=>rfl⟩
  ·exact⟨(⟨⟨[115,101,110,100]⟩⟩,1,()),true,⟨r,eR,17,rfl,h,rfl,rfl⟩,λh=>(by cases h),λ_=>rfl⟩
  ·exact⟨(⟨⟨[112,111,108,108]⟩⟩,0,()),true,⟨r,eR,17,rfl,h,rfl,rfl⟩,λh=>(by cases h),λ_=>rfl⟩
  ·exact⟨(⟨⟨[99,108,111,115,101]⟩⟩,1,()),true,⟨r,eR,17,rfl,h,rfl,rfl⟩,λh=>(by cases h),λ_=>rfl⟩
  ·exact⟨(⟨⟨[115,119,101,101,112]⟩⟩,0,()),true,⟨r,eR,17,rfl,h,rfl,rfl⟩,λh=>(by cases h),λ_=>rfl⟩
 ·have d: ∀(l:List Al) (i:Nat),(∀e∈l, ∃j:Int,e.key=aa j/\j≠k)->C8 (.int .i64) (aa k) l i=some none:=by
   intro l
   induction l with
   |nil=>intro i _;rfl
   |cons e l g=>
    intro i a;obtain⟨j,h1,m⟩:=a e C7;unfold C8;rw[h1];have:Ia (.int .i64) (aa k) (aa j)=some false:=by
     show(if B4=B4 then some (k==j) else none)=some false
     grind
    grind
  have f:C8 (.int .i64) (aa k) eR.toList 0=some none:=d _ 0 λe a=>by
   have a:e∈[gH 1 ⟨⟨[99,114,101,97,116,101]⟩⟩ 0 0,gH 2 ⟨⟨[100,101,115,116,114,111,121]⟩⟩ 1 1,gH 3 ⟨⟨[100,111,110,97,116,101]⟩⟩ 2 2,gH 4 ⟨⟨[114,101,99,108,97,105,109]⟩⟩ 1 3,gH 5 ⟨⟨[112,114,111,116,101,99,116]⟩⟩ 2 4,gH 6 ⟨⟨[108,111,97,100]⟩⟩ 1 5,gH 7 ⟨⟨[115,116,111,114,101]⟩⟩ 2 6,gH 8 ⟨⟨[111,102,102,101,114]⟩⟩ 3 7,gH 9 ⟨⟨[116,97,107,101]⟩⟩ 3 8,gH 10 ⟨⟨[98,97,99,107]⟩⟩ 1 9,gH 11 ⟨⟨[114,101,118,111,107,101]⟩⟩ 1 10,gH 12 ⟨⟨[111,112,101,110]⟩⟩ 1 11,gH 13 ⟨⟨[98,105,110,100]⟩⟩ 2 12,gH 14 ⟨⟨[115,101,110,100]⟩⟩ 1 13,gH 15 ⟨⟨[112,111,108,108]⟩⟩ 0 14,gH 16 ⟨⟨[99,108,111,115,101]⟩⟩ 1 15,gH 17 ⟨⟨[115,119,101,101,112]⟩⟩ 0 16]:=a;simp only[F1,List.not_mem_nil,or_false] at a;rcases a with rfl|rfl|rfl|rfl|rfl|rfl|rfl|rfl|rfl|rfl|rfl|rfl|rfl|rfl|rfl|rfl|rfl
   all_goals exact⟨_,rfl,by omega⟩
  refine⟨(⟨⟨[]⟩⟩,0,()),false,⟨r,eR,17,rfl,h,?_⟩,λ_=>ao c,λh=>by cases h⟩;rw[f];exact⟨rfl,rfl⟩
theorem Q1 (k:Int) (w:A2):aC AA 119 (.el (.one (.int .i64))) [aa k] w (λx w'=>x=jZ k/\Ext w w'):=by
 refine ai (C:=H0) (aS:=λ_=>[]) (Ak (Q0 k w _) ?_);refine La (cC.start [] w) λr d H=>?_;obtain⟨x,b,a,h0,h1⟩:=He (H.get (i:=0) rfl) k;have H:=H.base;refine⟨x,b,a,aM.go H λe f H=>az.all 0 H rfl rfl rfl λg H=>?_⟩;cases b with
 |false=>exact aB rfl (au.go H λc H=>⟨(h0 rfl).symm,H.all⟩)
 |true=>exact an rfl ⟨rfl,aj.cw 0 H rfl rfl (au.go H λc H=>⟨h1 rfl,H.all⟩)⟩
theorem UL (k:Int):af AA 119 [aa k] w (aa (jZ k)):=af.of λw' _=>Q1 k w'
theorem Q2 (k a b c:Int):af AA 120 [.agg ⟨[aa k,ay a,ay b,ay c]⟩] w (Sh.gZ (.el (.agg [.int .u64,.int .u64,.int .u64])) (a,b,c,())):=by
 refine af.of λw' _=>aQ (C:=H0) (aS:=λ_=>[]) (Ak (K9 k a b c w' _) ?_);have H:=At.start [] w';refine aM.go H λd e H=>aM.go H λf g H=>⟨rfl,aj.cw 1 H rfl rfl ⟨rfl,aj.cw 1 H rfl rfl ⟨rfl,aj.cw 1 H rfl rfl (az.all 0 H rfl rfl rfl λh H=>au.go H λi H=>aj.at 0 H rfl (rfl) ⟨rfl,H.all⟩)⟩⟩⟩
theorem Ld (k a b c:Int) (w:A2):aC AA 76 (.el (.one .bool)) [.agg ⟨[aa k,ay a,ay b,ay c]⟩] w (λx w'=>x=fN k a b c/\Ext w w'):=by
 refine ai (C:=H0) (aS:=qR) (Ak (K_ k a b c w _) ?_);have H:=At.start [] w;have y:jZ k= -1\/0<=jZ k:=by
  unfold jZ;split
  ·rename_i h;right;have:k=1\/k=2\/k=3\/k=4\/k=5\/k=6\/k=7\/k=8\/k=9\/k=10\/k=11\/k=12\/k=13\/k=14\/k=15\/k=16\/k=17:=by omega
   rcases this with rfl|rfl|rfl|rfl|rfl|rfl|rfl|rfl|rfl|rfl|rfl|rfl|rfl|rfl|rfl|rfl|rfl<;>decide
  ·exact .inl rfl
 refine aM.go H λD E H=>⟨rfl,aj.cw 0 H rfl rfl ⟨_,UL k,ab (λd=>au.go H λl H=>⟨?_,H.all⟩) (λd=>aj.at 0 H rfl (show _=some (k,a,b,c,()) from rfl) ⟨(a,b,c,()),Q2 k a b c,?_⟩)⟩⟩
 ·have d:jZ k= -1:=by simpa using d
  unfold fN;rw[d];rfl
 have d: ¬ jZ k= -1:=by simpa using d
 unfold fN;obtain⟨n,z⟩: ∃n,n=jZ k:=⟨_,rfl⟩;rw[<-z] at d y ⊢;refine⟨λq v w'=> ∃i:Nat,v.1=(i:Int)/\q+i=3/\(0<i-> ¬ (n<=0/\a≠0))/\(1<i-> ¬ (n<=1/\b≠0))/\(2<i-> ¬ (n<=2/\c≠0))/\Ext w w',⟨3,λl r=>⟨0,rfl,rfl,λh=>by omega,λh=>by omega,λh=>by omega,(H.ext r).all⟩⟩,?_⟩;rintro q ⟨v,u⟩ l ⟨i,e,F,h1,A,r,m⟩;dsimp only at e ⊢;subst e;refine ab (λo=>⟨⟨by omega,by simpa using o⟩,?_⟩) (λo=>λf g=>⟨?_,m.trans g⟩)
 ·have hi:i<3:=by
   have:(i:Int)<3:=by simpa using o
   omega
  have B:(¬ (n<=(i:Int)/\J4 [a,b,c] (i:Int)≠0))-> ∀f,Ext l f-> ∃s,s<q/\ ∃j:Nat,aL .i64 (i:Int) 1=(j:Int)/\s+j=3/\(0<j-> ¬ (n<=0/\a≠0))/\(1<j-> ¬ (n<=1/\b≠0))/\(2<j-> ¬ (n<=2/\c≠0))/\Ext w f:=λp f g=>by
   refine⟨q - 1,by omega,i+1,by rw[ax (by omega) (by omega)];omega,by omega,?_,?_,?_,m.trans g⟩
   ·intro _;by_cases e:i=0
    ·subst e;exact p
    ·exact h1 (by omega)
   ·intro _;by_cases e:i=1
    ·subst e;exact p
    ·exact A (by omega)
   ·intro _;have e:i=2:=by omega
    subst e;exact p
  refine ab (λd1=>λf g=>⟨?_,m.trans g⟩) (λd1=>B ?_)
  ·have d1:n<=(i:Int)/\J4 [a,b,c] (i:Int)≠0:=by
    simpa using d1
   have:i=0\/i=1\/i=2:=by omega
   symm;rw[Bool.eq_false_iff];intro t;simp only[Dk,Df,decide_eq_true_eq,beq_iff_eq] at t;obtain⟨_,G,I,J⟩:=t;rcases this with rfl|rfl|rfl
   ·have d2:n<=0/\a≠0:=d1;omega
   ·have d2:n<=1/\b≠0:=d1;omega
   ·have d2:n<=2/\c≠0:=d1;omega
  grind
 grind
theorem Ec (k a b c:Int):af AA 76 [.agg ⟨[aa k,ay a,ay b,ay c]⟩] w (.bool (fN k a b c)):=af.of λw' _=>Ld k a b c w'
theorem E7 (k:Int) (w:A2):aC AA 77 (.el (.one .bool)) [aa k] w (λx w'=>x=sX k/\Ext w w'):=
 ai (Ak (E6 k w _) λw1 h1=>⟨rfl,h1⟩)
theorem Hf (k:Int):af AA 77 [aa k] w (.bool (sX k)):=af.of λw' _=>E7 k w'
end
section
variable {w0 w:A2} {L:List (Nat×List AN)}
def fZ (ws:List Int) (f p t:Int):Nat->Int×Int×FT
 |0=>(f,3,(0,0,0,0,()))
 |k+1=>bz ws p t (fZ ws f p t k)
def mG (ws:List Int) (f p t:Int):FT:=if rB f p t then(0,0,0,1,()) else(fZ ws f p t 4).2.2
theorem qf {ws:List Int} {p t:Int} {x:Int×Int×FT} (h:x.2.1= -1):bz ws p t x=x:=av h
theorem I3 {fr pg wt lv:Int} {fd:FT} {ep:Bool} {er:Int} {el:Bool} {ef:Int} (a:0<=lv/\lv<=3):(tookS fr pg wt lv fd ep er el ef).2.1= -1\/((tookS fr pg wt lv fd ep er el ef).2.1=lv - 1/\0<lv):=by
 unfold tookS;split
 ·exact .inl rfl
 ·split
  ·rename_i h;rw[Dk,decide_eq_true_eq] at h;exact .inr ⟨bF (by omega) (by omega),by omega⟩
  ·split
   ·exact .inl rfl
   ·split<;>exact .inl rfl
theorem WR (ws:List Int) (f p t:Int): ∀k:Nat,(fZ ws f p t k).2.1= -1\/((fZ ws f p t k).2.1=3 - (k:Int)/\k<=3)
 |0=> .inr ⟨rfl,by decide⟩
 |k+1=>by
  rcases WR ws f p t k with h|⟨h,a⟩
  ·left;show(bz ws p t (fZ ws f p t k)).2.1= -1;rw[qf h];exact h
  ·show(bz ws p t (fZ ws f p t k)).2.1= -1\/((bz ws p t (fZ ws f p t k)).2.1=3 - ((k+1:Nat):Int)/\k+1<=3);generalize fZ ws f p t k=x at h;unfold bz;rw[ao (by omega)];split
   ·exact .inl rfl
   ·rcases I3 (fr:=x.1) (pg:=p) (wt:=t) (lv:=x.2.1) (fd:=x.2.2) (by omega) with e|⟨e,b⟩
    ·exact .inl (e ..)
    ·exact .inr ⟨by rw[e];omega,by omega⟩
theorem xC {ws:List Int} {f p t:Int} {k:Nat} (h:(fZ ws f p t k).2.1= -1): ∀j,fZ ws f p t (k+j)=fZ ws f p t k
 |0=>rfl
 |j+1=>by
  show bz ws p t (fZ ws f p t (k+j))= _;rw[xC h j,qf h]
end
theorem set_perm {α:Type} (a:α): ∀(L:List α) (j:Nat),j<L.length->(L.set j a).Perm (a::L.eraseIdx j)
 |[], _,h=>by simp at h
 |x::L,0, _=>by simp
 |x::L,j+1,h=>by
  rw[List.set_cons_succ,List.eraseIdx_cons_succ];exact((set_perm a L j (by simpa using h)).cons x).trans (.swap a x _)
theorem O3 {α:Type} {L:List α} {j:Nat} {a:α} (b:L[j]? =some a):L.set j a=L:=by
 apply Dn;intro n;by_cases e:j=n
 ·subst e;rw[C9 (B2.1 b).1,b]
 ·rw[Dl e]
theorem Zf {α:Type} {L:List α} {j c:Nat} {a b:α} (d:L[j]? =some a) (hb:L[c]? =some b) (h:j≠c): ∃f,L.Perm (a::b::f)/\ ∀a',(L.set j a').Perm (a'::b::f):=by
 have g:j<L.length:=(B2.1 d).1;have k:b∈L.eraseIdx j:=by
  rw[List.mem_eraseIdx_iff_getElem?];exact⟨c,λe=>h e.symm,hb⟩
 obtain⟨i,hi⟩:=GD k;have l:i<(L.eraseIdx j).length:=(B2.1 hi).1;have p2:(L.eraseIdx j).Perm (b::(L.eraseIdx j).eraseIdx i):=by
  have:=set_perm b (L.eraseIdx j) i l;rwa[O3 hi] at this
 refine⟨(L.eraseIdx j).eraseIdx i,?_,λa'=>(set_perm a' L j g).trans (p2.cons a')⟩;have:=(set_perm a L j g).trans (p2.cons a);rwa[O3 d] at this
section
variable {w0 w:A2} {L:List (Nat×List AN)}
end
end Go.Proofs.YtlcenllcmeebhaaGreat
namespace Go.Proofs.YtlcenllcmeebhaaGreat.D
set_option maxRecDepth 100000
open Go.RX
noncomputable def D0:dI AA:={C3 with vy:=true}
theorem Q3 (a:Int) (w:A2) (k:Option AC×Nat×Nat->A2->Prop):(aI D0 (λ_=>[]) 246 [aa a] w k)=(
 ∀w1,Ext w w1->aM (w1.alloc (Obj.map ⟨[]⟩ 0)) ⟨[aa 1,aa 2,aa 3,aa 4]⟩ 3 λb c=> ∀e,Ext c e-> ∃(r:Nat), ∃(es:Array Al), ∃(d:Nat),some w1.heap.size=some r/\bG e r es d/\gU e r .i64 0 (.slice (ae b) 4 4) es d λc=>aM c ⟨[aa 0,aa 2,aa 3,aa 4]⟩ 3 λb c=> ∀f,Ext c f-> ∃(r:Nat), ∃(es:Array Al), ∃(d:Nat),some w1.heap.size=some r/\bG f r es d/\gU f r .i64 1 (.slice (ae b) 4 4) es d λc=>aM c ⟨[aa 5,.int
 .i64 0]⟩ 3 λb c=> ∀g,Ext c g-> ∃(r:Nat), ∃(es:Array Al), ∃(d:Nat),some w1.heap.size=some r/\bG g r es d/\gU g r .i64 2 (.slice (ae b) 2 2) es d λc=>aM c ⟨[aa 5,aa 0]⟩ 3 λb c=> ∀h,Ext c h-> ∃(r:Nat), ∃(es:Array Al), ∃(d:Nat),some w1.heap.size=some r/\bG h r es d/\gU h r .i64 3 (.slice (ae b) 2 2) es d λc=>aM c ⟨[aa 5,aa 0,aa 4]⟩ 3 λb c=> ∀i,Ext c i-> ∃(r:Nat), ∃(es:Array Al), ∃(d:Nat),some
 w1.heap.size=some r/\bG i r es d/\gU i r .i64 4 (.slice (ae b) 3 3) es d λc=>aM c ⟨[aa 0]⟩ 3 λb c=> ∀j,Ext c j-> ∃(r:Nat), ∃(es:Array Al), ∃(d:Nat),some w1.heap.size=some r/\bG j r es d/\gU j r .i64 5 (.slice (ae b) 1 1) es d λc=> ∃(x:Option AC×Nat×Nat),jX c (some w1.heap.size) .i64 a (.slice none 0 0) (.slice x.1 x.2.1 x.2.2)/\au c (k (x.1,x.2.1,x.2.2))):=by kernel_rfl
def zB:Nat->a8:=(λ|2=>[(10,Go.RX.El.one (Go.RX.Sc.int B4))]| _=>[])
theorem Zg (a b:Int) (w:A2) (Post:Bool->A2->Prop):(aI D0 zB 234 [aa a,aa b] w Post)=(
 aA AA 246 (.el (.one .slice)) [aa a] w λx f=> ∀(c:Int),c=(↑x.2.1:Int)-> ∃(I:Nat->Int×Unit->A2->Prop),(∃n, ∀w1,Ext f w1->I n (0,()) w1)/\ ∀(n:Nat) (s:Int×Unit) (w1:A2),I n s w1->aH (decide (s.1<c)) ((x.1.isSome=true/\0<=s.1/\s.1<(↑x.2.1:Int))/\aj w1 none (ad x.1 (Int.toNat s.1*1)) (.one (.int .i64)) λ(x:Int)=>aH (x==b) (au w1 λw1=>Post true w1) (∀(x:Int),x=aL .i64 s.1 1-> ∀d,Ext w1 d-> ∃(e:Nat),e<n/\I e (x,()) d)) (au w1 λw1=>Post false w1)):=by
 kernel_rfl
theorem xA {w:A2} {r:Nat} {k:IntKind} {n:Int} {val:AN} {es:Array Al} {a:Nat} {K:A2->Prop} (h:C8 (.int k) (.int k n) es.toList 0=some none)
 (b:K (w.putObj r (.map (es.push {key:= .int k n,val,born:=a}) (a+1)))):gU w r k n val es a K:=by
 unfold gU;rw[h];exact b
theorem mX {w0 a c:A2} {r:Nat} {es:Array Al} {b:Nat} {l:List AN} {t:TypeId} {n:Int} {bs:List (Nat×List AN)} {val:AN} {K:A2->Prop}
 (o:Ext w0 a) (p:w0.heap.size<=r) (q:bG a r es b) (hb: ∀x∈bs,bN a x.1 x.2/\x.1≠r) (g:Ext (a.alloc (.cells ⟨l⟩ t)) c)
 (s:C8 (.int .i64) (aa n) es.toList 0=some none)
 (k: ∀e,Ext w0 e->bG e r (es.push {key:=aa n,val,born:=b}) (b+1)->(∀x∈(a.heap.size,l)::bs,bN e x.1 x.2/\x.1≠r)->K e):
 ∃r' h i,some r=some r'/\bG c r' h i/\gU c r' .i64 n val h i K:=by
 have j:a.heap[r]? =some (.map es b):=q;have u:r<a.heap.size:=(Array.getElem?_eq_some_iff.1 j).1;have f:Ext a c:=(Ext.alloc a _).trans g;have m:c.heap[r]? =some (.map es b):=f.obj j;refine⟨r,es,b,rfl,m,xA s (k _ ((o.trans f).putObj p _) ?_ ?_)⟩
 ·exact kf (Array.getElem?_eq_some_iff.1 m).1
 ·intro x d;rcases F1.1 d with rfl|d
  ·have:a.heap.size≠r:=by omega
   exact⟨((bN.new a l t).ext g).putObj this _,this⟩
  ·exact⟨((hb x d).1.ext f).putObj (hb x d).2 _,(hb x d).2⟩
def fq (a:Int):List Int:=if a=0 then[1,2,3,4] else if a=1 then[0,2,3,4] else if a=2 then[5,0] else if a=3 then[5,0] else if a=4 then[5,0,4] else if a=5 then[0] else[]
theorem Q4 (a:Int) (w:A2):aC AA 246 (.el (.one .slice)) [aa a] w (λr w'=>Sl w' eI r.1 (fq a)/\r.2.1=(fq a).length/\Ext w w'):=by
 refine ai (C:=D0) (aS:=λ_=>[]) (Ak (Q3 a w _) ?_);intro w1 h1 j p Z B;have m0:bG j w1.heap.size #[] 0:=p.obj (fx w1 _);have step: ∀{W:A2} {bs:List (Nat×List AN)} {r:Nat},(∀x∈bs,bN W x.1 x.2/\x.1≠r)-> ∀{q:A2},Ext W q-> ∀x∈bs,bN q x.1 x.2/\x.1≠r:=
  λh _ e x c=>⟨(h x c).1.ext e,(h x c).2⟩
 refine mX (bs:=[]) ((h1.iX _).trans p) h1.size m0 (λx c=>by cases c) B rfl λW0 E0 M0 B0 s k w5 D=>?_;refine mX (E0.trans k) h1.size (k.obj M0) (step B0 k) D rfl λW1 E1 M1 E t l w7 F=>?_;refine mX (E1.trans l) h1.size (l.obj M1) (step E l) F rfl λW2 E2 M2 G u m w9 H=>?_;refine mX (E2.trans m) h1.size (m.obj M2) (step G m) H rfl λW3 E3 M3 I v n oF J=>?_;refine mX (E3.trans n) h1.size (n.obj M3) (step I n) J rfl λW4 K L M y o Ta N=>?_;refine mX (K.trans o) h1.size (o.obj L) (step M o) N rfl λf O b d=>?_;have P:=(d (j.heap.size,[aa 1,aa 2,aa 3,aa 4]) (by simp)).1;have Q:=(d (s.heap.size,[aa 0,aa 2,aa 3,aa 4]) (by simp)).1;have R:=(d (t.heap.size,[aa 5,aa 0]) (by simp)).1;have S:=(d (u.heap.size,[aa 5,aa 0]) (by simp)).1;have T:=(d (v.heap.size,[aa 5,aa 0,aa 4]) (by simp)).1;have U:=(d (y.heap.size,[aa 0]) (by simp)).1;have fin: ∀(x:Option AC×Nat×Nat),jX f (some w1.heap.size) .i64 a (.slice none 0 0) (.slice x.1 x.2.1 x.2.2)->Sl f eI x.1 (fq a)->x.2.1=(fq a).length->
  ∃x:Option AC×Nat×Nat,jX f (some w1.heap.size) .i64 a (.slice none 0 0) (.slice x.1 x.2.1 x.2.2)/\ ∀g,Ext f g->Sl g eI (x.1,x.2.1,x.2.2).1 (fq a)/\(x.1,x.2.1,x.2.2).2.1=(fq a).length/\Ext w g:=
  λx V X Y=>⟨x,V,λg z=>⟨X.ext z,Y,O.trans z⟩⟩
 by_cases c0:a=0
 ·subst c0;exact fin (some ⟨j.heap.size,0,none⟩,4,4) ⟨_, _, _,rfl,b,rfl⟩ (Sl.jL P rfl) rfl
 by_cases c1:a=1
 ·subst c1;exact fin (some ⟨s.heap.size,0,none⟩,4,4) ⟨_, _, _,rfl,b,rfl⟩ (Sl.jL Q rfl) rfl
 by_cases c2:a=2
 ·subst c2;exact fin (some ⟨t.heap.size,0,none⟩,2,2) ⟨_, _, _,rfl,b,rfl⟩ (Sl.jL R rfl) rfl
 by_cases c3:a=3
 ·subst c3;exact fin (some ⟨u.heap.size,0,none⟩,2,2) ⟨_, _, _,rfl,b,rfl⟩ (Sl.jL S rfl) rfl
 by_cases c4:a=4
 ·subst c4;exact fin (some ⟨v.heap.size,0,none⟩,3,3) ⟨_, _, _,rfl,b,rfl⟩ (Sl.jL T rfl) rfl
 by_cases c5:a=5
 ·subst c5;exact fin (some ⟨y.heap.size,0,none⟩,1,1) ⟨_, _, _,rfl,b,rfl⟩ (Sl.jL U rfl) rfl
 have A:fq a=[]:=by
  unfold fq;rw[ao c0,ao c1,ao c2,ao c3,ao c4,ao c5]
 refine fin (none,0,0) ⟨_, _, _,rfl,b,?_⟩ (by rw[A];intro i x c;simp at c) (by rw[A];rfl);have d0:(a==0)=false:=by simp[c0]
 have d1:(a==1)=false:=by simp[c1]
 have d2:(a==2)=false:=by simp[c2]
 have d3:(a==3)=false:=by simp[c3]
 have d4:(a==4)=false:=by simp[c4]
 have d5:(a==5)=false:=by simp[c5]
 simp only[Array.toList_push,List.nil_append,List.cons_append,C8,Ia,if_true,B8,d0,d1,d2,d3,d4,d5]
theorem Le (a:Int):(fq a).length<=4:=by
 unfold fq
 repeat (split; ·decide)
 decide
theorem Zh (a b:Int) (w:A2):aC AA 234 (.el (.one .bool)) [aa a,aa b] w (λx w'=>x=decide (b∈fq a)/\Ext w w'):=by
 refine ai (C:=D0) (aS:=zB) (Ak (Zg a b w _) ?_);intro w1 h1;refine(Q4 a w1).mono ?_;rintro⟨p,n,c⟩ A ⟨q,B,t⟩ x1 v;dsimp only at v B q;subst v;have F:=Le a;refine⟨λk s w'=>Ext A w'/\ ∃i:Nat,s.1=i/\k+i=n/\ ∀j,j<i->(fq a)[j]? ≠some b,⟨n,λD d=>⟨d,0,rfl,rfl,λj g=>absurd g (by omega)⟩⟩,?_⟩;rintro k ⟨G,u⟩ D ⟨d,i,hi,H,g⟩;simp only at hi;subst hi;dsimp only;refine ab (λh=>?_) (λh=>λy f=>⟨?_,((h1.trans t).trans d).trans f⟩)
 ·simp only[decide_eq_true_eq] at h;have l:i<(fq a).length:=by omega
  have r:=(q.ext d) i _ (B1 l);refine⟨⟨r.1,by omega,by omega⟩, _,r.2,ab (λm y f=>⟨?_,((h1.trans t).trans d).trans f⟩) (λm x E y f=>⟨k - 1,by omega,d.trans f,i+1,by rw[E,ax (by omega) (by omega)];rfl,by omega,?_⟩)⟩
  ·have:(fq a)[i]=b:=by simpa using m
   have o:b∈fq a:=by rw[<-this];exact FN l
   simp[o]
  ·intro j I;by_cases e:j=i
   ·subst e;rw[B1 l];intro hc;simp only[Option.some.injEq] at hc;simp[hc] at m
   ·exact g j (by omega)
 ·simp only[decide_eq_false_iff_not] at h;have: ¬ b∈fq a:=by
   intro o;obtain⟨j,z⟩:=GD o;have:=(B2.1 z).1;exact g j (by omega) z
  simp[this]
noncomputable def Yr:Entry AA where
 f:=234
 fn l:=match l with
  |[.int .i64 a,.int .i64 b]=>some (True,.bool (decide (b∈fq a)))
  | _=>none
 ok args pre v h c w:=by
  split at h
  ·rename_i a b;cases h;exact bX (Zh a b w)
  ·cases h
noncomputable def D1:dI AA:={D0 with si:=[te,vz,FH,FI,Yr]}
abbrev v8 (c:Bool->A2->Prop) (a:A2) (b:Nat):Prop:=
 aj a none (ae b) dQ λ(x:Int×Int×Int×Int×Unit)=>true=true/\aW a (ad (ae b) 0) λd=>au a λw1=>c (x.1==d&&(x.2.1==0&&(x.2.2.1==0&&(x.2.2.2.1==0&&true)))) w1
abbrev v9 (c:Bool->A2->Prop) (a:A2) (b:Nat):Prop:=
 true=true/\aW a (ad (ae b) 1) λx=>(decide (x>0)=true->true=true)/\aj a (some (decide (x>0))) (ad (ae b) 3) aX λ(d:Int)=>au a (c (decide (x>0)&&d==0))
abbrev v_ (b:Bool->A2->Prop) (c:Int) (a:A2) (d:Nat):Prop:=
 aH (c==5) (true=true/\aW a (ad (ae d) 2) λx=>au a (b (x==0))) (au a (b false))
abbrev wc (d:Bool->A2->Prop) (b:Int) (a:A2) (c:Nat):Prop:=
 aH (b==2) (true=true/\aW a (ad (ae c) 1) λx=>((x==0)=true->true=true)/\aj a (some (x==0)) (ad (ae c) 3) aX λ(e:Int)=>au a (d (x==0&&e==0))) (aH (b==3) (aH (b==3) (v9 d a c) (v_ d b a c)) (aH (b==4) (v9 d a c) (v_ d b a c)))
theorem yW (k o r e:Int) (w:A2) (f:Bool->A2->Prop):(aI D1 (λ_=>[]) 233 [.agg ⟨[aa k,aa o,aa r,aa e]⟩] w f)=(
 aM w ⟨[aa k,aa o,aa r,aa e]⟩ 52 λb a=>true=true/\aW a (ad (ae b) 1) λx=>((!decide (x<0))=true->true=true)/\aj a (some !decide (x<0)) (ad (ae b) 1) aX λ(c:Int)=>((!(decide (x<0)||decide (c>16)))=true->true=true)/\aj a (some !(decide (x<0)||decide (c>16))) (ad (ae b) 2) aX λ(d:Int)=>((!(decide (x<0)||decide (c>16)||decide (d<0)))=true->true=true)/\aj a (some !(decide (x<0)||decide (c>16)||decide (d<0))) (ad (ae b) 2) aX λ(g:Int)=>
 ((!(decide (x<0)||decide (c>16)||decide (d<0)||decide (g>65535)))=true->true=true)/\aj a (some !(decide (x<0)||decide (c>16)||decide (d<0)||decide (g>65535))) (ad (ae b) 3) aX λ(h:Int)=>((!(decide (x<0)||decide (c>16)||decide (d<0)||decide (g>65535)||decide (h<0)))=true->true=true)/\aj a (some !(decide (x<0)||decide (c>16)||decide (d<0)||decide (g>65535)||decide (h<0))) (ad (ae b) 3) aX λ(i:Int)=>aH (decide (x<0)||decide (c>16)||decide (d<0)||
 decide (g>65535)||decide (h<0)||decide (i>4294967295)) (au a (f false)) (true=true/\aW a (ad (ae b) 0) λx=>aH (x==0) (aH (x==0) (v8 f a b) (wc f x a b)) (aH (x==1) (v8 f a b) (wc f x a b)))):=by kernel_rfl
def jN (k o r e:Int):Prop:=(0<=o/\o<=16/\0<=r/\r<=65535/\0<=e/\e<=4294967295)/\(((k=0\/k=1)/\o=0/\r=0/\e=0)\/(k=2/\o=0/\e=0)\/((k=3\/k=4)/\0<o/\e=0)\/(k=5/\r=0))
instance (k o r e:Int):Decidable (jN k o r e):=by unfold jN;infer_instance
def dT (k o r e:Int):Bool:=decide (jN k o r e)
theorem Lg {k o r e:Int} {b:Bool} (h:b=true<->jN k o r e):b=dT k o r e:=by
 unfold dT;rw[If,decide_eq_true_eq];exact h
theorem yX (k o r e:Int) (w:A2):aC AA 233 (.el (.one .bool)) [.agg ⟨[aa k,aa o,aa r,aa e]⟩] w (λb w'=>b=dT k o r e/\Ext w w'):=by
 refine ai (C:=D1) (aS:=λ_=>[]) (Ak (yW k o r e w _) ?_);have H:=At.start [] w
 repeat' (first
  |exact Go.RX.aJ.all H
  |exact Ay (by first|rfl|decide+kernel) (Go.RX.aJ.all H)
  |refine Ay (by first|exact rfl|exact trivial|exact λ_=>rfl|exact λ_=>trivial|exact⟨rfl,by decide,by decide⟩|exact⟨by decide,by decide⟩|decide+kernel|exact λ_=>by decide|exact λ_=>⟨rfl,by decide,by decide⟩|(dsimp only[DB,DE];exact⟨rfl,by decide,by decide⟩)) ?_
  |refine aj.cw 0 H rfl rfl ?_
  |refine aj.at 0 H rfl rfl ?_
  |refine aM.go H λb w1 H=>?_
  |refine az.all 0 H rfl rfl rfl λw1 H=>?_
  |refine az.fK 0 H rfl rfl rfl λw1 H=>?_
  |refine az.one 0 H rfl rfl rfl λw1 H=>?_
  |with_reducible refine au.go H λw1 H=>?_
  |refine jM ?_
  |refine aB (by assumption) ?_
  |refine an (by assumption) ?_
  |refine ab (λc=>?_) (λc=>?_))
 all_goals
  refine Ay (Lg ?_) H.all;simp only[Df,Ds,Dk,GS,beq_iff_eq,beq_eq_false_iff_ne,bne_iff_ne,bne_eq_false_iff_eq,decide_eq_true_eq,decide_eq_false_iff_not,Ga,Gd,Dz,Gi,and_true,true_and,and_false,false_and,or_true,true_or,or_false,false_or,ne_eq,not_true_eq_false,not_false_eq_true,false_iff,iff_false,true_iff,iff_true] at*
  unfold jN;omega
noncomputable def uY:Entry AA where
 f:=233
 fn l:=match l with
  |[.agg ⟨[.int .i64 k,.int .i64 o,.int .i64 r,.int .i64 e]⟩]=>some (True,.bool (dT k o r e))
  | _=>none
 ok args pre v h a w:=by
  split at h
  ·rename_i k o r e;cases h;exact bX (yX k o r e w)
  ·cases h
noncomputable def D2:dI AA:={D0 with si:=[te,vz,FH,FI,Yr,uY]}
abbrev zC (d:(Int×Int×Int×Int×Unit)×Int×Unit->A2->Prop) (a:A2) (e:Nat) (b:Nat):Prop:=
 aj a none (ae e) dQ λ(x:Int×Int×Int×Int×Unit)=>True/\aH (!dT x.1 x.2.1 x.2.2.1 x.2.2.2.1) (az a (ae b) [aa 0,aa 0,aa 0,aa 0] λc=>au c λw1=>aj w1 none (ae b) dQ λ(x:Int×Int×Int×Int×Unit)=>d ((x.1,x.2.1,x.2.2.1,x.2.2.2.1,()),1,()) w1) (aj a none (ae e) dQ λ(x:Int×Int×Int×Int×Unit)=>az a (ae b) [aa x.1,aa x.2.1,aa x.2.2.1,aa x.2.2.2.1] λc=>au c λw1=>aj w1 none (ae b) dQ λ(x:Int×Int×Int×Int×
 Unit)=>d ((x.1,x.2.1,x.2.2.1,x.2.2.2.1,()),0,()) w1)
theorem UM (k o r e x y:Int) (w:A2) (d:(Int×Int×Int×Int×Unit)×Int×Unit->A2->Prop):(bV D2 (λ_=>[]) 192 [.agg ⟨[aa k,aa o,aa r,aa e]⟩,aa x,aa y] w d)=(
 aM w ⟨[aa k,aa o,aa r,aa e]⟩ 52 λb a=>aM a ⟨[aa 0,aa 0,aa 0,aa 0]⟩ 52 λc a=>aj a none (ae b) dQ λ(f:Int×Int×Int×Int×Unit)=>True/\aH (!dT f.1 f.2.1 f.2.2.1 f.2.2.2.1) (az a (ae c) [aa 0,aa 0,aa 0,aa 0] λa=>au a λw1=>aj w1 none (ae c) dQ λ(x:Int×Int×Int×Int×Unit)=>d ((x.1,x.2.1,x.2.2.1,x.2.2.2.1,()),11,()) w1) (true=true/\aW a (ad (ae b) 2) λg=>aH (decide (g>0)) (az a
 (ae c) [aa 0,aa 0,aa 0,aa 0] λa=>au a λw1=>aj w1 none (ae c) dQ λ(x:Int×Int×Int×Int×Unit)=>d ((x.1,x.2.1,x.2.2.1,x.2.2.2.1,()),9,()) w1) (true=true/\aW a (ad (ae b) 0) λh=>True/\aH (!decide (x∈fq h)) (az a (ae c) [aa 0,aa 0,aa 0,aa 0] λa=>au a λw1=>aj w1 none (ae c) dQ λ(x:Int×Int×Int×Int×Unit)=>d ((x.1,x.2.1,x.2.2.1,x.2.2.2.1,()),6,()) w1) (aH (x==5) (true=true/\aW a (ad (ae
 b) 1) λi=>aM a ⟨[aa 0,aa 0,aa 0,aa 0]⟩ 52 λb a=>az a (ae b) [aa x,aa i,aa 0,aa 0] λa=>zC d a b c) (aM a ⟨[aa 0,aa 0,aa 0,aa 0]⟩ 52 λb a=>az a (ae b) [aa x,aa y,aa 0,aa 0] λa=>zC d a b c))))):=by kernel_rfl
theorem Zi (k o r e x:Int) (w:A2) (d:(Int×Int×Int×Int×Unit)×Int×Unit->A2->Prop):(bV D2 (λ_=>[]) 228 [.agg ⟨[aa k,aa o,aa r,aa e]⟩,aa x] w d)=(
 aM w ⟨[aa k,aa o,aa r,aa e]⟩ 52 λb a=>aM a ⟨[aa 0,aa 0,aa 0,aa 0]⟩ 52 λc a=>aj a none (ae b) dQ λ(g:Int×Int×Int×Int×Unit)=>True/\aH (!dT g.1 g.2.1 g.2.2.1 g.2.2.2.1) (az a (ae c) [aa 0,aa 0,aa 0,aa 0] λa=>au a λw1=>aj w1 none (ae c) dQ λ(x:Int×Int×Int×Int×Unit)=>d ((x.1,x.2.1,x.2.2.1,x.2.2.2.1,()),11,()) w1) (true=true/\aW a (ad (ae b) 0) λf=>((f != 2)=true->true=
 true)/\aj a (some (f != 2)) (ad (ae b) 0) aX λ(i:Int)=>((f != 2&&i != 3)=true->true=true)/\aj a (some (f != 2&&i != 3)) (ad (ae b) 0) aX λ(l:Int)=>aH (f != 2&&i != 3&&l != 4) (az a (ae c) [aa 0,aa 0,aa 0,aa 0] λa=>au a λw1=>aj w1 none (ae c) dQ λ(x:Int×Int×Int×Int×Unit)=>d ((x.1,x.2.1,x.2.2.1,x.2.2.2.1,()),6,()) w1) (true=true/\aW a (ad (ae b) 2) λm=> ∀(h:Int),h=aZ .i64 65535 m->((!decide (x>h))=true->
 true=true)/\aj a (some !decide (x>h)) (ad (ae b) 2) aX λ(n:Int)=>aH (decide (x>h)||decide (x<aZ .i64 0 n)) (az a (ae c) [aa 0,aa 0,aa 0,aa 0] λa=>au a λw1=>aj w1 none (ae c) dQ λ(x:Int×Int×Int×Int×Unit)=>d ((x.1,x.2.1,x.2.2.1,x.2.2.2.1,()),2,()) w1) (true=true/\aW a (ad (ae b) 2) λp=> ∀(j:Int),j=aL .i64 p x->true=true/\az a (ad (ae b) 2) [aa j] λa=>aj a none (ae b) dQ λ(x:Int×Int×Int×Int×Unit)=>
 az a (ae c) [aa x.1,aa x.2.1,aa x.2.2.1,aa x.2.2.2.1] λa=>au a λw1=>aj w1 none (ae c) dQ λ(x:Int×Int×Int×Int×Unit)=>d ((x.1,x.2.1,x.2.2.1,x.2.2.2.1,()),0,()) w1)))):=by kernel_rfl
def gQ (k o r e x y:Int):Int:=if dT k o r e=false then 11 else if r>0 then 9 else if x∈fq k then(if dT x (if x=5 then o else y) 0 0=false then 1 else 0) else 6
def mM (k o r e x y:Int):Int:=if gQ k o r e x y=0 then x else 0
def lx (k o r e x y:Int):Int:=if gQ k o r e x y=0 then(if x=5 then o else y) else 0
theorem UN (k o r e x y:Int) (w:A2):aC AA 192 (.bA [(.agg [.int .i64,.int .i64,.int .i64,.int .i64]),.one (.int .i64)]) [.agg ⟨[aa k,aa o,aa r,aa e]⟩,aa x,aa y] w
 (λv w'=>v=((mM k o r e x y,lx k o r e x y,(0:Int),(0:Int),()),gQ k o r e x y,())/\Ext w w'):=by
 refine aQ (C:=D2) (aS:=λ_=>[]) (Ak (UM k o r e x y w _) ?_);have H:=At.start [] w
 repeat' (first
  |exact Go.RX.aJ.all H
  |exact Ay (by first|rfl|decide+kernel) (Go.RX.aJ.all H)
  |refine Ay (by grind) ?_
  |refine aj.cw 0 H rfl rfl ?_
  |refine aj.cw 1 H rfl rfl ?_
  |refine aj.cw 2 H rfl rfl ?_
  |refine aj.at 0 H rfl rfl ?_
  |refine aj.at 1 H rfl rfl ?_
  |refine aj.at 2 H rfl rfl ?_
  |refine aM.go H λb w1 H=>?_
  |refine az.all 0 H rfl rfl rfl λw1 H=>?_
  |refine az.all 1 H rfl rfl rfl λw1 H=>?_
  |refine az.all 2 H rfl rfl rfl λw1 H=>?_
  |refine az.fK 0 H rfl rfl rfl λw1 H=>?_
  |refine az.fK 1 H rfl rfl rfl λw1 H=>?_
  |refine az.fK 2 H rfl rfl rfl λw1 H=>?_
  |refine az.one 0 H rfl rfl rfl λw1 H=>?_
  |refine az.one 1 H rfl rfl rfl λw1 H=>?_
  |refine az.one 2 H rfl rfl rfl λw1 H=>?_
  |with_reducible refine au.go H λw1 H=>?_
  |refine jM ?_
  |refine aB (by assumption) ?_
  |refine an (by assumption) ?_
  |refine ab (λc=>?_) (λc=>?_))
 all_goals
  refine Ay ?_ H.all;simp only[Df,Ds,Dk,GS,beq_iff_eq,beq_eq_false_iff_ne,bne_iff_ne,bne_eq_false_iff_eq,decide_eq_true_eq,decide_eq_false_iff_not,Ga,Gd,Dz,Gi,and_true,true_and,and_false,false_and,or_true,true_or,or_false,false_or,ne_eq,not_true_eq_false,not_false_eq_true,false_iff,iff_false,true_iff,iff_true] at*
  first
   |(simp[mM,lx,gQ, *];done)
   |(subst_vars;simp[mM,lx,gQ, *])
def w_ (k o r e x:Int):Int:=if dT k o r e=false then 11 else if k=2\/k=3\/k=4 then(if r+x<0\/r+x>65535 then 2 else 0) else 6
def qx (k o r e x:Int):Int×Int×Int×Int×Unit:=if w_ k o r e x=0 then(k,o,r+x,e,()) else(0,0,0,0,())
theorem Zj (k o r e x:Int) (l: -9223372036854775808<=x/\x<9223372036854775808) (w:A2):aC AA 228 (.bA [(.agg [.int .i64,.int .i64,.int .i64,.int .i64]),.one (.int .i64)]) [.agg ⟨[aa k,aa o,aa r,aa e]⟩,aa x] w
 (λv w'=>v=(qx k o r e x,w_ k o r e x,())/\Ext w w'):=by
 refine aQ (C:=D2) (aS:=λ_=>[]) (Ak (Zi k o r e x w _) ?_);have H:=At.start [] w
 repeat' (first
  |exact Go.RX.aJ.all H
  |exact Ay (by first|rfl|decide+kernel) (Go.RX.aJ.all H)
  |refine Ay (by first|exact rfl|exact trivial|exact λ_=>rfl|exact λ_=>trivial|exact⟨rfl,by decide,by decide⟩|exact⟨by decide,by decide⟩|decide+kernel|exact λ_=>by decide|exact λ_=>⟨rfl,by decide,by decide⟩|(dsimp only[DB,DE];exact⟨rfl,by decide,by decide⟩)) ?_
  |refine aj.cw 0 H rfl rfl ?_
  |refine aj.cw 1 H rfl rfl ?_
  |refine aj.cw 2 H rfl rfl ?_
  |refine aj.at 0 H rfl rfl ?_
  |refine aj.at 1 H rfl rfl ?_
  |refine aj.at 2 H rfl rfl ?_
  |refine aM.go H λb w1 H=>?_
  |refine az.all 0 H rfl rfl rfl λw1 H=>?_
  |refine az.all 1 H rfl rfl rfl λw1 H=>?_
  |refine az.all 2 H rfl rfl rfl λw1 H=>?_
  |refine az.fK 0 H rfl rfl rfl λw1 H=>?_
  |refine az.fK 1 H rfl rfl rfl λw1 H=>?_
  |refine az.fK 2 H rfl rfl rfl λw1 H=>?_
  |refine az.one 0 H rfl rfl rfl λw1 H=>?_
  |refine az.one 1 H rfl rfl rfl λw1 H=>?_
  |refine az.one 2 H rfl rfl rfl λw1 H=>?_
  |with_reducible refine au.go H λw1 H=>?_
  |refine jM ?_
  |refine aB (by assumption) ?_
  |refine an (by assumption) ?_
  |refine ab (λc=>?_) (λc=>?_))
 all_goals
  refine Ay ?_ H.all;simp only[Df,Ds,Dk,GS,beq_iff_eq,beq_eq_false_iff_ne,bne_iff_ne,bne_eq_false_iff_eq,decide_eq_true_eq,decide_eq_false_iff_not,Ga,Gd,Dz,Gi,and_true,true_and,and_false,false_and,or_true,true_or,or_false,false_or,ne_eq,not_true_eq_false,not_false_eq_true,false_iff,iff_false,true_iff,iff_true] at*
 ·simp[qx,w_, *]
 ·have a: ¬ (k=2\/k=3\/k=4):=by omega
  simp[qx,w_, *]
 all_goals
  have d:dT k o r e=true:=by assumption
  have g:jN k o r e:=of_decide_eq_true d;unfold jN at g;have h:aZ .i64 65535 r=65535 - r:=bF (by omega) (by omega);have i:aZ .i64 0 r=0 - r:=bF (by omega) (by omega);simp only[h,i] at*
  have a:k=2\/k=3\/k=4:=by omega
 ·have f:r+x<0\/r+x>65535:=by omega
  simp[qx,w_, *]
 ·have f: ¬ (r+x<0\/r+x>65535):=by omega
  have j:aL .i64 r x=r+x:=ax (by omega) (by omega);have:w_ k o r e x=0:=by unfold w_;rw[ao (by rw[d];decide),av a,ao f]
  unfold qx;rw[this,av rfl,j]
theorem Ir {x:Int} (h:0<=x) (h':x<18446744073709551616):(B x).toNat=x.toNat:=by
 have:=BU h h';unfold U at this;omega
theorem cY (x:Int):aG .u64 x=U (B x):=YS x
def fE (N:Nat):Int:=((N / 4294967296 % 4294967296:Nat):Int)
theorem ab4 {x:Int} (h:0<=x) (h':x<4294967296):aG .i64 x=x:=gz (by omega) (by omega)
theorem cE (N:Nat):aG .i64 (fE N)=fE N:=ab4 (by unfold fE;omega) (by unfold fE;omega)
noncomputable def aa7:Entry AA where
 f:=192
 fn l:=match l with
  |[.agg ⟨[.int .i64 k,.int .i64 o,.int .i64 r,.int .i64 e]⟩,.int .i64 x,.int .i64 y]=>some (True,.tuple ⟨[.agg ⟨[.int .i64 (mM k o r e x y),.int .i64 (lx k o r e x y),.int .i64 0,.int .i64 0]⟩,.int .i64 (gQ k o r e x y)]⟩)
  | _=>none
 ok args pre v h a w:=by
  split at h
  ·rename_i k o r e x y;cases h;exact bX (UN k o r e x y w)
  ·cases h
noncomputable def ab5:Entry AA where
 f:=228
 fn l:=match l with
  |[.agg ⟨[.int .i64 k,.int .i64 o,.int .i64 r,.int .i64 e]⟩,.int .i64 x]=>some ((-9223372036854775808<=x/\x<9223372036854775808),.tuple ⟨[.agg ⟨[.int .i64 (qx k o r e x).1,.int .i64 (qx k o r e x).2.1,.int .i64 (qx k o r e x).2.2.1,.int .i64 (qx k o r e x).2.2.2.1]⟩,.int .i64 (w_ k o r e x)]⟩)
  | _=>none
 ok args pre v h a w:=by
  split at h
  ·rename_i k o r e x;cases h;exact bX (Zj k o r e x a w)
  ·cases h
noncomputable def D3:dI AA:={D0 with vy:=false,si:=[te,vz,FH,FI,Yr,uY,aa7,ab5]}
noncomputable def E0:dI AA:={D3 with sh:=[(104,.el (.one (.z5 146 2))),(65,.el (.one (.z5 146 2)))],quiet:=[105,207,62]}
noncomputable def E1:dI AA:={E0 with cl:=[(201,.z5 105 1)]}
noncomputable def E2:dI AA:={E0 with cl:=[(201,.z5 207 1)]}
abbrev aao:Sh:= .el (.one (.z5 146 2))
theorem Zk (p:Option AC) (w:A2) (a:Int->A2->Prop):(aI E0 (λ_=>[]) 62 [ag p] w a)=(
 aH p.isNone (au w (a 0)) (fe p 0 w λx=>au w (a (↑x.2.1:Int)))):=by kernel_rfl
theorem Zl (k o r e:Int) (c:Option AC) (w:A2) (d:Bool->A2->Prop):(aI E0 (λ_=>[]) 105 [.agg ⟨[aa k,aa o,aa r,aa e]⟩,ag c] w d)=(
 aM w ⟨[aa k,aa o,aa r,aa e]⟩ 52 λb a=>true=true/\aW a (ad (ae b) 0) λx=>aW a c λf=>au a (d (x==f))):=by kernel_rfl
theorem Lh (k o r e:Int) (c:Option AC) (w:A2) (d:Bool->A2->Prop):(aI E0 (λ_=>[]) 207 [.agg ⟨[aa k,aa o,aa r,aa e]⟩,ag c] w d)=(
 aM w ⟨[aa k,aa o,aa r,aa e]⟩ 52 λb a=>true=true/\aW a (ad (ae b) 1) λx=>aW a c λf=>au a (d (x==f))):=by kernel_rfl
theorem aa8 (p:Option AC) (k:Int) (w:A2) (c:Option AC×Option AC×Unit->A2->Prop):(aI E0 (λ_=>[]) 65 [ag p,aa k] w c)=(
 aM w ⟨[aa k]⟩ 3 λb a=>aA AA 104 (.el (.one (.z5 146 2))) [ag p,.func (.func 105) ⟨[]⟩ {toList:=[ag (ae b)]}] a λx a=>au a (c (x.1,x.2.1,()))):=by kernel_rfl
theorem UO (p c:Option AC) (w:A2) (d:Option AC×Option AC×Unit->A2->Prop):(aI E0 (λ_=>[]) 104 [ag p,.func (.func 105) #[] #[ag c]] w d)=(
 aM w ⟨[ag p]⟩ 36 λb a=>aM a {toList:=[.func (.func 105) ⟨[]⟩ ⟨[ag c]⟩]} 201 λe a=>au a (d (some ⟨b,0,none⟩,some ⟨e,0,none⟩,()))):=by kernel_rfl
theorem Q5 (p c:Option AC) (w:A2) (d:Option AC×Option AC×Unit->A2->Prop):(aI E0 (λ_=>[]) 104 [ag p,.func (.func 207) #[] #[ag c]] w d)=(
 aM w ⟨[ag p]⟩ 36 λb a=>aM a {toList:=[.func (.func 207) ⟨[]⟩ ⟨[ag c]⟩]} 201 λe a=>au a (d (some ⟨b,0,none⟩,some ⟨e,0,none⟩,()))):=by kernel_rfl
def ud:Nat->a8:=(λ|2=>[(13,Go.RX.El.one (Go.RX.Sc.int B4))]| _=>[])
theorem Q6 (y:Nat) (p c:Option AC) (w:A2) (f:Unit->A2->Prop):(aI E1 ud 146 [.func (.yield y) #[] #[],ag p,ag c] w f)=(
 gf w p λx=>aH x.isNone (au w (f ())) (gf w p λx=>fe x 0 w λx=> ∃(I:Nat->Int×Unit->A2->Prop),(∃n, ∀w1,Ext w w1->I n (0,()) w1)/\ ∀(n:Nat) (s:Int×Unit) (w1:A2),I n s w1->aH (decide (s.1<(↑x.2.1:Int))) ((x.1.isSome=true/\0<=s.1/\s.1<(↑x.2.1:Int))/\aj w1 none (ad x.1 (Int.toNat s.1*4)) dQ λ(x:Int×Int×Int×Int×Unit)=>aM w1 ⟨[aa 0,aa 0,aa 0,aa 0]⟩ 52 λb a=>az a (ae b) [aa x.1,aa x.2.1,aa x.2.2.1,aa x.2.2.2.1] λa=>aj
 a none c (.one (.z5 105 1)) λx=>aj a none (ae b) dQ λ(g:Int×Int×Int×Int×Unit)=> ∃h,af AA 105 [.agg ⟨[aa g.1,aa g.2.1,aa g.2.2.1,aa g.2.2.2.1]⟩,ag x.1] a (.bool h)/\aH h (∀w1,Ext a w1->mq AA y [aa s.1] w1 λ(b:Bool) a=>aH (!b) (au a (f ())) (∀d,Ext a d-> ∃(e:Nat),e<n/\I e (aL .i64 s.1 1,()) d)) (∀d,Ext a d-> ∃(e:Nat),e<n/\I e (aL .i64 s.1 1,()) d)) (au w1 (f ())))):=by kernel_rfl
def qS:Nat->a8:=(λ|2=>[(13,Go.RX.El.one (Go.RX.Sc.int B4))]| _=>[])
theorem Li (y:Nat) (p c:Option AC) (w:A2) (f:Unit->A2->Prop):(aI E2 qS 146 [.func (.yield y) #[] #[],ag p,ag c] w f)=(
 gf w p λx=>aH x.isNone (au w (f ())) (gf w p λx=>fe x 0 w λx=> ∃(I:Nat->Int×Unit->A2->Prop),(∃n, ∀w1,Ext w w1->I n (0,()) w1)/\ ∀(n:Nat) (s:Int×Unit) (w1:A2),I n s w1->aH (decide (s.1<(↑x.2.1:Int))) ((x.1.isSome=true/\0<=s.1/\s.1<(↑x.2.1:Int))/\aj w1 none (ad x.1 (Int.toNat s.1*4)) dQ λ(x:Int×Int×Int×Int×Unit)=>aM w1 ⟨[aa 0,aa 0,aa 0,aa 0]⟩ 52 λb a=>az a (ae b) [aa x.1,aa x.2.1,aa x.2.2.1,aa x.2.2.2.1] λa=>aj
 a none c (.one (.z5 207 1)) λx=>aj a none (ae b) dQ λ(g:Int×Int×Int×Int×Unit)=> ∃h,af AA 207 [.agg ⟨[aa g.1,aa g.2.1,aa g.2.2.1,aa g.2.2.2.1]⟩,ag x.1] a (.bool h)/\aH h (∀w1,Ext a w1->mq AA y [aa s.1] w1 λ(b:Bool) a=>aH (!b) (au a (f ())) (∀d,Ext a d-> ∃(e:Nat),e<n/\I e (aL .i64 s.1 1,()) d)) (∀d,Ext a d-> ∃(e:Nat),e<n/\I e (aL .i64 s.1 1,()) d)) (au w1 (f ())))):=by kernel_rfl
theorem Q7 (k o r e:Int) (c d:Option AC) (w:A2) (i:(Int×Int×Int×Int×Unit)×Int×Unit->A2->Prop):(bV E0 (λ_=>[]) 191 [.agg ⟨[aa k,aa o,aa r,aa e]⟩,ag c,ag d] w i)=(
 aM w ⟨[aa k,aa o,aa r,aa e]⟩ 52 λb a=>aM a ⟨[aa 0,aa 0,aa 0,aa 0]⟩ 52 λj a=>aj a none (ae b) dQ λ(x:Int×Int×Int×Int×Unit)=>aW a c λg=>aW a d λh=>True/\az a (ae j) [aa (mM x.1 x.2.1 x.2.2.1 x.2.2.2.1 g h),aa (lx x.1 x.2.1 x.2.2.1 x.2.2.2.1 g h),aa 0,aa 0] λa=>au a λw1=>aj w1 none (ae j) dQ λ(f:Int×Int×Int×Int×Unit)=>i ((f.1,f.2.1,f.2.2.1,f.2.2.2.1,()),gQ x.1 x.2.1
 x.2.2.1 x.2.2.2.1 g h,()) w1):=by kernel_rfl
theorem UP (k o r e:Int) (c:Option AC) (w:A2) (g:(Int×Int×Int×Int×Unit)×Int×Unit->A2->Prop):(bV E0 (λ_=>[]) 227 [.agg ⟨[aa k,aa o,aa r,aa e]⟩,ag c] w g)=(
 aM w ⟨[aa k,aa o,aa r,aa e]⟩ 52 λb a=>aM a ⟨[aa 0,aa 0,aa 0,aa 0]⟩ 52 λh a=>aj a none (ae b) dQ λ(x:Int×Int×Int×Int×Unit)=>aW a c λd=>(-9223372036854775808<=d/\d<9223372036854775808)/\az a (ae h) [aa (qx x.1 x.2.1 x.2.2.1 x.2.2.2.1 d).1,aa (qx x.1 x.2.1 x.2.2.1 x.2.2.2.1 d).2.1,aa (qx x.1 x.2.1 x.2.2.1 x.2.2.2.1 d).2.2.1,aa (qx x.1 x.2.1 x.2.2.1 x.2.2.2.1 d).2.2.2.1] λa=>au a λw1=>aj w1 none (ae h) dQ λ
 (f:Int×Int×Int×Int×Unit)=>g ((f.1,f.2.1,f.2.2.1,f.2.2.2.1,()),w_ x.1 x.2.1 x.2.2.1 x.2.2.2.1 d,()) w1):=by kernel_rfl
theorem Lj (p:Option AC) (f:Int) (c d:Option AC) (w:A2) (e:Int->A2->Prop):(aI E0 (λ_=>[]) 190 [ag p,aa f,.func (.func 191) #[] #[ag c,ag d]] w e)=(
 ∃(x:Int),af AA 62 [ag p] w (aa x)/\aH (x==0) (au w (e 10)) (((!decide (f<0))=true->p.isSome=true)/\((!decide (f<0))=true->p.isSome=true)/\aj w (some !decide (f<0)) (ad p 0) fi λx=>aH (decide (f<0)||decide (f>=(↑x.2.1:Int))) (au w (e 2)) (fe p 0 w λx=>(x.1.isSome=true/\0<=f/\f<(↑x.2.1:Int))/\aj w none (ad x.1 (f.toNat*4)) dQ λ(x:Int×Int×Int×Int×Unit)=>aA AA 191 (.bA [.agg [.int .i64,.int .i64,.int .i64,.int .i64],.one (.int .i64)]) [.agg ⟨[aa x.1,.int .i64
 x.2.1,aa x.2.2.1,aa x.2.2.2.1]⟩,ag c,ag d] w λ(x:(Int×Int×Int×Int×Unit)×Int×Unit) a=>aM a ⟨[aa 0,aa 0,aa 0,aa 0]⟩ 52 λb a=>az a (ae b) [aa x.1.1,aa x.1.2.1,aa x.1.2.2.1,aa x.1.2.2.2.1] λa=>aH (x.2.1==0) (fe p 0 a λh=>aj a none (ae b) dQ λ(g:Int×Int×Int×Int×Unit)=>(h.1.isSome=true/\0<=f/\f<(↑h.2.1:Int))/\az a (ad h.1 (f.toNat*4)) [aa g.1,aa g.2.1,aa g.2.2.1,aa g.2.2.2.1]
 λa=>au a (e x.2.1)) (au a (e x.2.1))))):=by kernel_rfl
theorem Hg (p:Option AC) (f:Int) (c:Option AC) (w:A2) (d:Int->A2->Prop):(aI E0 (λ_=>[]) 190 [ag p,aa f,.func (.func 227) #[] #[ag c]] w d)=(
 ∃(x:Int),af AA 62 [ag p] w (aa x)/\aH (x==0) (au w (d 10)) (((!decide (f<0))=true->p.isSome=true)/\((!decide (f<0))=true->p.isSome=true)/\aj w (some !decide (f<0)) (ad p 0) fi λx=>aH (decide (f<0)||decide (f>=(↑x.2.1:Int))) (au w (d 2)) (fe p 0 w λx=>(x.1.isSome=true/\0<=f/\f<(↑x.2.1:Int))/\aj w none (ad x.1 (f.toNat*4)) dQ λ(x:Int×Int×Int×Int×Unit)=>aA AA 227 (.bA [.agg [.int .i64,.int .i64,.int .i64,.int .i64],.one (.int .i64)]) [.agg ⟨[aa x.1,.int .i64
 x.2.1,aa x.2.2.1,aa x.2.2.2.1]⟩,ag c] w λ(x:(Int×Int×Int×Int×Unit)×Int×Unit) a=>aM a ⟨[aa 0,aa 0,aa 0,aa 0]⟩ 52 λb a=>az a (ae b) [aa x.1.1,aa x.1.2.1,aa x.1.2.2.1,aa x.1.2.2.2.1] λa=>aH (x.2.1==0) (fe p 0 a λg=>aj a none (ae b) dQ λ(e:Int×Int×Int×Int×Unit)=>(g.1.isSome=true/\0<=f/\f<(↑g.2.1:Int))/\az a (ad g.1 (f.toNat*4)) [aa e.1,aa e.2.1,aa e.2.2.1,aa e.2.2.2.1] λa=>au
 a (d x.2.1)) (au a (d x.2.1))))):=by kernel_rfl
theorem UQ (p:Option AC) (f k o:Int) (w:A2) (c:Int->A2->Prop):(aI E0 (λ_=>[]) 138 [ag p,aa f,aa k,aa o] w c)=(
 aM w ⟨[aa k]⟩ 3 λb a=>aM a ⟨[aa o]⟩ 3 λd a=>aA AA 190 (.el aX) [ag p,aa f,.func (.func 191) ⟨[]⟩ {toList:=[ag (ae b),ag (ae d)]}] a λ(x:Int) a=>au a (c x)):=by kernel_rfl
theorem UR (p:Option AC) (f x:Int) (w:A2) (c:Int->A2->Prop):(aI E0 (λ_=>[]) 183 [ag p,aa f,aa x] w c)=(
 aM w ⟨[aa x]⟩ 3 λb a=>aA AA 190 (.el aX) [ag p,aa f,.func (.func 227) ⟨[]⟩ {toList:=[ag (ae b)]}] a λ(x:Int) a=>au a (c x)):=by kernel_rfl
theorem US (p:Option AC) (f:Int) (w:A2) (a:Int->A2->Prop):(aI E0 (λ_=>[]) 79 [ag p,aa f] w a)=(
 aA AA 138 (.el aX) [ag p,aa f,aa 0,aa 0] w λ(x:Int) b=>au b (a x)):=by kernel_rfl
theorem Zm (p:Option AC) (f:Int) (w:A2) (c:(Int×Int×Int×Int×Unit)×Bool×Unit->A2->Prop):(bV E0 (λ_=>[]) 25 [ag p,aa f] w c)=(
 aM w ⟨[aa 0,aa 0,aa 0,aa 0]⟩ 52 λb a=> ∃(x:Int),((!decide (f<0))=true->af AA 62 [ag p] a (aa x))/\aH (decide (f<0)||decide (f>=x)) (az a (ae b) [aa 0,aa 0,aa 0,aa 0] λa=>au a λw1=>aj w1 none (ae b) dQ λ(x:Int×Int×Int×Int×Unit)=>c ((x.1,x.2.1,x.2.2.1,x.2.2.2.1,()),false,()) w1) (fe p 0 a λx=>(x.1.isSome=true/\0<=f/\f<(↑x.2.1:Int))/\aj a none (ad x.1 (f.toNat*4)) dQ λ(x:Int×Int×Int×Int×Unit)
 =>az a (ae b) [aa x.1,aa x.2.1,aa x.2.2.1,aa x.2.2.2.1] λa=>au a λw1=>aj w1 none (ae b) dQ λ(x:Int×Int×Int×Int×Unit)=>c ((x.1,x.2.1,x.2.2.1,x.2.2.2.1,()),true,()) w1)):=by kernel_rfl
theorem Cs (n:Int) (w:A2) (a:Option AC×Int×Unit->A2->Prop):(aI E0 (λ_=>[]) 72 [aa n] w a)=(
 aH (decide (n<1)||decide (n>4096)) (au w (a (none,1,()))) (Nx w 32 4 n n ⟨[aa 0,aa 0,aa 0,aa 0]⟩ 52 λb c=>aM c {toList:=[.slice (ae b) n.toNat n.toNat]} 137 λb c=>au c (a (some ⟨b,0,none⟩,0,())))):=by kernel_rfl
theorem UT (p:Option AC) (w:A2) (a:Option AC->A2->Prop):(aI E0 (λ_=>[]) 54 [ag p] w a)=(
 ∃(x:Int),af AA 62 [ag p] w (aa x)/\aH (x==0) (au w (a none)) (fe p 0 w λx=> ∀w1,Ext w w1->mD w1 52 4 32 ⟨[aa 0,aa 0,aa 0,aa 0]⟩ (none,0,0) (x.1,x.2.1,x.2.2) λ(r:Option AC×Nat×Nat) c=>aM c ⟨[.slice r.1 r.2.1 r.2.2]⟩ 137 λb c=>au c (a (ae b)))):=by kernel_rfl
def uf:Nat->a8:=(λ|3=>[(9,.one (.int .i64))]| _=>[])
theorem Q8 (p:Option AC) (k:Int) (w:A2) (d:Int->A2->Prop):(bV E0 uf 30 [ag p,aa k] w d)=(
 aM w ⟨[aa 0]⟩ 3 λb c=>az c (ae b) [aa 0] λc=>aA AA 65 (.el (.one (.z5 146 2))) [ag p,aa k] c λx c=>zX AA 146 (λ(y:Nat)=>[.func (Fn.yield y) ⟨[]⟩ ⟨[]⟩,ag x.1,ag x.2.1]) ⟨[9]⟩ c (λ(x:Int×Unit)=>[aa x.1]) (λ(l:Nat) (rec:Loop) (x:Int×Unit) e (R:Bool->A2->Prop)=>Da l rec [aa x.1].length 1 e (BM l rec e λa=>aW a (ae b) λx=>az a (ae b) [aa (aL .i64 x 1)] λc=>
 sk l rec none c R)) λ(r:Nat) (rec:Loop) f=>dB (r+1) rec f (λa=>aW a (ae b) λx=>sq [r] a λw1=>d x w1) (λ(id:Nat) a=>Decidable.rec (λ(h:id=0->False)=>False) (λ(h:id=0)=>aW a (ae b) λx=>sq [r] a λw1=>d x w1) (match h:id.beq 0 with|true=>isTrue (GI h)|false=>isFalse (GJ h))) λa=>sq [r] a λw1=>d 0 w1):=by kernel_rfl
def ug:Nat->a8:=(λ|4=>[(10,.one (.int .i64))]| _=>[])
theorem Q9 (p:Option AC) (k:Int) (w:A2) (d:Option AC×Nat×Nat->A2->Prop):(bV E0 ug 166 [ag p,aa k] w d)=(
 aM w ⟨[aa k]⟩ 3 λb a=>aM a ⟨[.slice none 0 0]⟩ 39 λe a=>aA AA 104 (.el (.one (.z5 146 2))) [ag p,.func (.func 207) ⟨[]⟩ {toList:=[ag (ae b)]}] a λx a=>zX AA 146 (λ(y:Nat)=>[.func (Fn.yield y) ⟨[]⟩ ⟨[]⟩,ag x.1,ag x.2.1]) ⟨[10]⟩ a (λ(x:Int×Unit)=>[aa x.1]) (λ(l:Nat) (rec:Loop) (x:Int×Unit) g (R:Bool->A2->Prop)=>Da l rec [aa x.1].length 1 g (BM l rec g λc=>sU c (ae e) λf=>aM c ⟨[aa x.1]⟩
 3 λb a=> ∀w1,Ext a w1->mD w1 3 1 8 ⟨[aa 0]⟩ (f.1,f.2.1,f.2.2) (some ⟨b,0,none⟩,1,1) λ(r:Option AC×Nat×Nat) a=>az a (ae e) [.slice r.1 r.2.1 r.2.2] λa=>sk l rec none a R)) λ(r:Nat) (rec:Loop) i=>dB (r+1) rec i (λc=>sU c (ae e) λx=>sq [r] c λw1=>d (x.1,x.2.1,x.2.2) w1) (λ(id:Nat) c=>Decidable.rec (λ(h:id=0->False)=>False) (λ(h:id=0)=>sU c (ae e) λx=>sq [r] c λw1=>d (x.1,
 x.2.1,x.2.2) w1) (match h:id.beq 0 with|true=>isTrue (GI h)|false=>isFalse (GJ h))) λc=>sq [r] c λw1=>d (none,0,0) w1):=by kernel_rfl
def wg:Nat->a8:=(λ|5=>[(15,.one (.int .i64))]| _=>[])
theorem UU (p:Option AC) (k o:Int) (w:A2) (g:Int×Int×Unit->A2->Prop):(bV E0 wg 172 [ag p,aa k,aa o] w g)=(
 aM w ⟨[ag p]⟩ 36 λb a=>aM a ⟨[aa k]⟩ 3 λn a=>aM a ⟨[aa o]⟩ 3 λq a=>aM a ⟨[aa 0]⟩ 3 λd a=>aM a ⟨[aa 0]⟩ 46 λe a=>gf a (ae b) λx=> ∃(i:Int),af AA 62 [ag x] a (aa i)/\aH (i==0) (az a (ae d) [aa 0] λa=>az a (ae e) [aa 10] λa=>au a λw1=>aW w1 (ae d) λx=>aW w1 (ae e) λf=>
 g (x,f,()) w1) (gf a (ae b) λx=>aA AA 65 (.el (.one (.z5 146 2))) [ag x,aa 0] a λx a=>zX AA 146 (λ(y:Nat)=>[.func (Fn.yield y) ⟨[]⟩ ⟨[]⟩,ag x.1,ag x.2.1]) ⟨[15]⟩ a (λ(x:Int×Unit)=>[aa x.1]) (λ(l:Nat) (rec:Loop) (x:Int×Unit) j (R:Bool->A2->Prop)=>Da l rec [aa x.1].length 1 j (BM l rec j λc=>gf c (ae b) λf=>aW c (ae n) λs=>aj c none
 (ae q) aX λ(t:Int)=>aA AA 138 (.el aX) [ag f,aa x.1,aa s,aa t] c λ(m:Int) a=>aH (m != 0) (az a (ae d) [aa 0] λa=>az a (ae e) [aa m] λa=>sk l rec (some Code.ret) a R) (az a (ae d) [aa x.1] λa=>az a (ae e) [aa 0] λa=>sk l rec (some Code.ret) a R))) λ(r:Nat) (rec:Loop) u=>dB (r+1) rec u (λc=>az c (ae d) [aa 0]
 λa=>az a (ae e) [aa 12] λa=>sq [r] a λw1=>aW w1 (ae d) λx=>aW w1 (ae e) λf=>g (x,f,()) w1) (λ(id:Nat) c=>Decidable.rec (λ(h:id=0->False)=>False) (λ(h:id=0)=>az c (ae d) [aa 0] λa=>az a (ae e) [aa 12] λa=>sq [r] a λw1=>aW w1 (ae d) λx=>aj w1 none (ae e) aX
 λ(f:Int)=>g (x,f,()) w1) (match h:id.beq 0 with|true=>isTrue (GI h)|false=>isFalse (GJ h))) λc=>sq [r] c λw1=>aW w1 (ae d) λx=>aW w1 (ae e) λf=>g (x,f,()) w1)):=by kernel_rfl
abbrev sD:List Sc:=[.int .i64,.int .i64,.int .i64,.int .i64]
abbrev eD:El:= .agg sD
abbrev DT:Type:=Int×Int×Int×Int×Unit
def zD:DT:=(0,0,0,0,())
theorem rQ {w:A2} {bp n c:Nat} {a:Option AC} (h:bN w bp [.slice a n c]):aC AA 62 (.el (.one (.int .i64))) [ag (ae bp)] w (λx w'=>x=(n:Int)/\Ext w w'):=by
 refine ai (C:=E0) (aS:=λ_=>[]) (Ak (Zk _ w _) ?_);have H:=At.start [] w;refine an rfl ⟨rfl,rfl,aj.lf H h (by simp) rfl ?_⟩
 repeat' (first
  |exact Go.RX.aJ.all H
  |exact Ay (by first|rfl|decide+kernel) (Go.RX.aJ.all H)
  |refine Ay (by first|exact rfl|exact trivial|exact λ_=>rfl|exact λ_=>trivial|exact⟨rfl,by decide,by decide⟩|exact⟨by decide,by decide⟩|decide+kernel|exact λ_=>by decide|exact λ_=>⟨rfl,by decide,by decide⟩|(dsimp only[DB,DE];exact⟨rfl,by decide,by decide⟩)) ?_
  |refine aj.cw 0 H rfl rfl ?_
  |refine aj.at 0 H rfl rfl ?_
  |refine aM.go H λb w1 H=>?_
  |refine az.all 0 H rfl rfl rfl λw1 H=>?_
  |refine az.fK 0 H rfl rfl rfl λw1 H=>?_
  |refine az.one 0 H rfl rfl rfl λw1 H=>?_
  |with_reducible refine au.go H λw1 H=>?_
  |refine jM ?_
  |refine aB (by assumption) ?_
  |refine an (by assumption) ?_
  |refine ab (λc=>?_) (λc=>?_))
theorem Zn {w:A2} {kc:Nat} {v:Int} (h:bN w kc [aa v]) (d:DT):aC AA 105 (.el (.one .bool)) [.agg ⟨b_ sD d⟩,ag (ae kc)] w (λx w'=>x=(d.1==v)/\Ext w w'):=by
 obtain⟨k,o,r,e,u⟩:=d;refine ai (C:=E0) (aS:=λ_=>[]) (Ak (Zl k o r e _ w _) ?_);have H:=At.start [] w
 repeat' (first
  |refine aj.fP H h (by simp) rfl ?_
  |exact Go.RX.aJ.all H
  |exact Ay (by first|rfl|decide+kernel) (Go.RX.aJ.all H)
  |refine Ay (by first|exact rfl|exact trivial|exact λ_=>rfl|exact λ_=>trivial|exact⟨rfl,by decide,by decide⟩|exact⟨by decide,by decide⟩|decide+kernel|exact λ_=>by decide|exact λ_=>⟨rfl,by decide,by decide⟩|(dsimp only[DB,DE];exact⟨rfl,by decide,by decide⟩)) ?_
  |refine aj.cw 0 H rfl rfl ?_
  |refine aj.at 0 H rfl rfl ?_
  |refine aM.go H λb w1 H=>?_
  |refine az.all 0 H rfl rfl rfl λw1 H=>?_
  |refine az.fK 0 H rfl rfl rfl λw1 H=>?_
  |refine az.one 0 H rfl rfl rfl λw1 H=>?_
  |with_reducible refine au.go H λw1 H=>?_
  |refine jM ?_
  |refine aB (by assumption) ?_
  |refine an (by assumption) ?_
  |refine ab (λc=>?_) (λc=>?_))
theorem Ll {w:A2} {kc:Nat} {v:Int} (h:bN w kc [aa v]) (d:DT):aC AA 207 (.el (.one .bool)) [.agg ⟨b_ sD d⟩,ag (ae kc)] w (λx w'=>x=(d.2.1==v)/\Ext w w'):=by
 obtain⟨k,o,r,e,u⟩:=d;refine ai (C:=E0) (aS:=λ_=>[]) (Ak (Lh k o r e _ w _) ?_);have H:=At.start [] w
 repeat' (first
  |refine aj.fP H h (by simp) rfl ?_
  |exact Go.RX.aJ.all H
  |exact Ay (by first|rfl|decide+kernel) (Go.RX.aJ.all H)
  |refine Ay (by first|exact rfl|exact trivial|exact λ_=>rfl|exact λ_=>trivial|exact⟨rfl,by decide,by decide⟩|exact⟨by decide,by decide⟩|decide+kernel|exact λ_=>by decide|exact λ_=>⟨rfl,by decide,by decide⟩|(dsimp only[DB,DE];exact⟨rfl,by decide,by decide⟩)) ?_
  |refine aj.cw 0 H rfl rfl ?_
  |refine aj.at 0 H rfl rfl ?_
  |refine aM.go H λb w1 H=>?_
  |refine az.all 0 H rfl rfl rfl λw1 H=>?_
  |refine az.fK 0 H rfl rfl rfl λw1 H=>?_
  |refine az.one 0 H rfl rfl rfl λw1 H=>?_
  |with_reducible refine au.go H λw1 H=>?_
  |refine jM ?_
  |refine aB (by assumption) ?_
  |refine an (by assumption) ?_
  |refine ab (λc=>?_) (λc=>?_))
section
variable {D G:List Nat} {w0 w:A2} {L:List (Nat×List AN)}
theorem tg (H:aJ D G w0 w L) (p:Option AC) (k:Int) {K:Option AC×Option AC×Unit->A2->Prop}
 (a: ∀pc ic kc w1,aJ D G w0 w1 ((ic,[.func (.func 105) #[] #[ag (ae kc)]])::(pc,[ag p])::(kc,[aa k])::L)->K (some ⟨pc,0,none⟩,some ⟨ic,0,none⟩,()) w1):
 aA AA 65 aao [ag p,aa k] w K:=by
 refine aA.go H λw1 H=>ai (C:=E0) (aS:=λ_=>[]) (Ak (aa8 p k w1 K) ?_);refine aM.go H λkc d H=>aA.go H λb H=>ai (C:=E0) (aS:=λ_=>[]) (Ak (UO p _ b _) ?_);refine aM.go H λpc e H=>aM.go H λic f H=>au.go H λg H=>au.go H λc H=>?_;exact a pc ic kc c H
theorem UW (H:aJ D G w0 w L) (p c:Option AC) {K:Option AC×Option AC×Unit->A2->Prop}
 (a: ∀pc ic w1,aJ D G w0 w1 ((ic,[.func (.func 207) #[] #[ag c]])::(pc,[ag p])::L)->K (some ⟨pc,0,none⟩,some ⟨ic,0,none⟩,()) w1):
 aA AA 104 aao [ag p,.func (.func 207) #[] #[ag c]] w K:=by
 refine aA.go H λw1 H=>ai (C:=E0) (aS:=λ_=>[]) (Ak (Q5 p c w1 K) ?_);refine aM.go H λpc d H=>aM.go H λic e H=>au.go H λb H=>?_;exact a pc ic b H
end
def O4 (fn:FuncId) (pc ic kc bp bf c:Nat) (v:Int) (ds:List DT) (rest:List AN) (w:A2):Prop:=
 bN w pc [ag (ae bp)]/\bN w ic [.func (.func fn) #[] #[ag (ae kc)]]/\bN w kc [aa v]/\bN w bp [.slice (ae bf) ds.length c]/\bN w bf (flat eD ds++rest)
theorem Ee {pc ic kc bp bf c:Nat} {v:Int} {ds:List DT} {rest:List AN} (O:ds.length<=4096):
 TM AA 146 (λy=>[.func (.yield y) #[] #[],ag (ae pc),ag (ae ic)]) ds.length
  (λi=>match ds[i]? with
   |some d=>if d.1=v then some [aa (i:Nat)] else none
   |none=>none) (O4 105 pc ic kc bp bf c v ds rest):=by
 intro y w J D a E o F G h0;have key:aC AA 146 (uH E1 146) [.func (.yield y) #[] #[],ag (ae pc),ag (ae ic)] w (λ_ w'=>J ds.length w'\/D w'):=by
  refine ai (C:=E1) (aS:=ud) (Ak (Q6 y _ _ w _) ?_);obtain⟨s1,p,q,r,t⟩:=o 0 w h0;refine aj.of _ (s1.ov rfl) (an rfl (aj.of _ (s1.ov rfl) ⟨rfl,rfl,aj.of (some ⟨bf,0,none⟩,ds.length,c) (by rw[aY];exact r.ov rfl) ?_⟩));refine⟨λn s w'=> ∃i:Nat,s.1=i/\n+i=ds.length/\J i w',⟨ds.length,λw1 h1=>⟨0,rfl,rfl,a _ _ _ h0 h1⟩⟩,?_⟩;rintro n ⟨P,u⟩ w1 ⟨i,hi,Q,f⟩;simp only at hi;subst hi;dsimp only;refine ab (λc=>?_) (λc=>?_)
  ·have k:i<ds.length:=by simp only[decide_eq_true_eq] at c;omega
   obtain⟨s1,p,q,r,t⟩:=o i w1 f;have h:ds[i]? =some ds[i]:=B1 k;refine⟨⟨rfl,by omega,by omega⟩,aj.of ds[i] (fT t h) ?_⟩;have H:=At.start [] w1;have next: ∀w',J (i+1) w'-> ∀g,Ext w' g-> ∃z,z<n/\ ∃j:Nat,aL .i64 (i:Nat) 1=j/\z+j=ds.length/\J j g:=λw' l g m=>
    ⟨n - 1,by omega,i+1,by rw[ax (by omega) (by omega)];rfl,by omega,a _ _ _ l m⟩
   generalize I:ds[i]=d;rw[I] at h;refine aM.go H λb A H=>az.all 0 H rfl rfl rfl λA H=>aj.of (some ⟨kc,0,none⟩,()) ((H.fP p (by simp)).ov rfl) (aj.at 0 H rfl rfl ?_);have B:=a _ _ _ f H.all;refine⟨d.1==v,af.of (s:= .el (.one .bool)) λw' h'=>Zn ((H.fP q (by simp)).ext h') d,ab (λc=>λg m=>?_) (λc=>?_)⟩
   ·refine G i _ k (by simp only[h];rw[av (by simpa using c)]) g _ (a _ _ _ B m) (λw' l=>?_) (λw' K=>?_)
    ·exact an rfl (next w' l)
    ·exact aB rfl λR L=> .inr (E _ _ K L)
   ·exact next _ (F i k (by simp only[h];rw[ao (by simpa using c)]) _ B)
  ·have:i=ds.length:=by simp only[decide_eq_false_iff_not] at c;omega
   subst this;exact λA M=> .inl (a _ _ _ f M)
 exact Calls.mono key λe w' ⟨x,N,f⟩=>⟨_,N,f⟩
theorem Q_ {pc ic kc bp bf c:Nat} {v:Int} {ds:List DT} {rest:List AN} (O:ds.length<=4096):
 TM AA 146 (λy=>[.func (.yield y) #[] #[],ag (ae pc),ag (ae ic)]) ds.length
  (λi=>match ds[i]? with
   |some d=>if d.2.1=v then some [aa (i:Nat)] else none
   |none=>none) (O4 207 pc ic kc bp bf c v ds rest):=by
 intro y w J D a E o F G h0;have key:aC AA 146 (uH E2 146) [.func (.yield y) #[] #[],ag (ae pc),ag (ae ic)] w (λ_ w'=>J ds.length w'\/D w'):=by
  refine ai (C:=E2) (aS:=qS) (Ak (Li y _ _ w _) ?_);obtain⟨s1,p,q,r,t⟩:=o 0 w h0;refine aj.of _ (s1.ov rfl) (an rfl (aj.of _ (s1.ov rfl) ⟨rfl,rfl,aj.of (some ⟨bf,0,none⟩,ds.length,c) (by rw[aY];exact r.ov rfl) ?_⟩));refine⟨λn s w'=> ∃i:Nat,s.1=i/\n+i=ds.length/\J i w',⟨ds.length,λw1 h1=>⟨0,rfl,rfl,a _ _ _ h0 h1⟩⟩,?_⟩;rintro n ⟨P,u⟩ w1 ⟨i,hi,Q,f⟩;simp only at hi;subst hi;dsimp only;refine ab (λc=>?_) (λc=>?_)
  ·have k:i<ds.length:=by simp only[decide_eq_true_eq] at c;omega
   obtain⟨s1,p,q,r,t⟩:=o i w1 f;have h:ds[i]? =some ds[i]:=B1 k;refine⟨⟨rfl,by omega,by omega⟩,aj.of ds[i] (fT t h) ?_⟩;have H:=At.start [] w1;have next: ∀w',J (i+1) w'-> ∀g,Ext w' g-> ∃z,z<n/\ ∃j:Nat,aL .i64 (i:Nat) 1=j/\z+j=ds.length/\J j g:=λw' l g m=>
    ⟨n - 1,by omega,i+1,by rw[ax (by omega) (by omega)];rfl,by omega,a _ _ _ l m⟩
   generalize I:ds[i]=d;rw[I] at h;refine aM.go H λb A H=>az.all 0 H rfl rfl rfl λA H=>aj.of (some ⟨kc,0,none⟩,()) ((H.fP p (by simp)).ov rfl) (aj.at 0 H rfl rfl ?_);have B:=a _ _ _ f H.all;refine⟨d.2.1==v,af.of (s:= .el (.one .bool)) λw' h'=>Ll ((H.fP q (by simp)).ext h') d,ab (λc=>λg m=>?_) (λc=>?_)⟩
   ·refine G i _ k (by simp only[h];rw[av (by simpa using c)]) g _ (a _ _ _ B m) (λw' l=>?_) (λw' K=>?_)
    ·exact an rfl (next w' l)
    ·exact aB rfl λR L=> .inr (E _ _ K L)
   ·exact next _ (F i k (by simp only[h];rw[ao (by simpa using c)]) _ B)
  ·have:i=ds.length:=by simp only[decide_eq_false_iff_not] at c;omega
   subst this;exact λA M=> .inl (a _ _ _ f M)
 exact Calls.mono key λe w' ⟨x,N,f⟩=>⟨_,N,f⟩
def aO (k o:Int) (d:DT):DT×Int:=((mM d.1 d.2.1 d.2.2.1 d.2.2.2.1 k o,lx d.1 d.2.1 d.2.2.1 d.2.2.2.1 k o,0,0,()),gQ d.1 d.2.1 d.2.2.1 d.2.2.2.1 k o)
def g_ (x:Int) (d:DT):DT×Int:=(qx d.1 d.2.1 d.2.2.1 d.2.2.2.1 x,w_ d.1 d.2.1 d.2.2.1 d.2.2.2.1 x)
def vq (ds:List DT) (f:Int) (g:DT->DT×Int):Int:=if ds.length=0 then 10 else if f<0\/f>=ds.length then 2 else(g (ds.getD f.toNat zD)).2
def dJ (ds:List DT) (f:Int) (g:DT->DT×Int):List DT:=if f<0\/f>=ds.length then ds else if(g (ds.getD f.toNat zD)).2=0 then ds.set f.toNat (g (ds.getD f.toNat zD)).1 else ds
theorem A9 {ds:List DT} (h:ds.length=0) (f:Int) (g:DT->DT×Int):vq ds f g=10:=av h
theorem A_ {ds:List DT} (h:ds.length=0) (f:Int) (g:DT->DT×Int):dJ ds f g=ds:=av (by omega)
theorem I4 {ds:List DT} (h:ds.length≠0) {f:Int} (h1:f<0\/f>=ds.length) (g:DT->DT×Int):vq ds f g=2:=by grind[vq]
theorem xD {ds:List DT} {f:Int} (h1:f<0\/f>=ds.length) (g:DT->DT×Int):dJ ds f g=ds:=av h1
theorem yI {ds:List DT} {f:Int} (h1:0<=f/\f<ds.length) (g:DT->DT×Int):vq ds f g=(g (ds.getD f.toNat zD)).2:=by grind[vq]
theorem o_ {ds:List DT} {f:Int} (h1:0<=f/\f<ds.length) (g:DT->DT×Int):dJ ds f g=if(g (ds.getD f.toNat zD)).2=0 then ds.set f.toNat (g (ds.getD f.toNat zD)).1 else ds:=by grind[dJ]
theorem jc (ds:List DT) (f:Int) (g:DT->DT×Int):(dJ ds f g).length=ds.length:=by grind[dJ]
theorem Ra {w:A2} {kc oc:Nat} {k o:Int} (f:bN w kc [aa k]) (g:bN w oc [aa o]) (d:DT):aC AA 191 (.bA [eD,.one (.int .i64)]) [.agg ⟨b_ sD d⟩,ag (ae kc),ag (ae oc)] w
 (λv w'=>v=((aO k o d).1,(aO k o d).2,())/\Ext w w'):=by
 obtain⟨a,b,c,e,u⟩:=d;refine aQ (C:=E0) (aS:=λ_=>[]) (Ak (Q7 a b c e _ _ w _) ?_);have H:=At.start [] w
 repeat' (first
  |refine aj.fP H f (by simp) rfl ?_
  |refine aj.fP H g (by simp) rfl ?_
  |exact Go.RX.aJ.all H
  |exact Ay (by first|rfl|decide+kernel) (Go.RX.aJ.all H)
  |refine Ay (by simp) ?_
  |refine aj.cw 0 H rfl rfl ?_
  |refine aj.cw 1 H rfl rfl ?_
  |refine aj.at 0 H rfl rfl ?_
  |refine aj.at 1 H rfl rfl ?_
  |refine aM.go H λb w1 H=>?_
  |refine az.all 0 H rfl rfl rfl λw1 H=>?_
  |refine az.all 1 H rfl rfl rfl λw1 H=>?_
  |refine az.fK 0 H rfl rfl rfl λw1 H=>?_
  |with_reducible refine au.go H λw1 H=>?_
  |refine jM ?_
  |refine aB (by assumption) ?_
  |refine an (by assumption) ?_
  )
theorem UX {w:A2} {kc:Nat} {k:Int} (f:bN w kc [aa k]) (hi: -9223372036854775808<=k/\k<9223372036854775808) (d:DT):aC AA 227 (.bA [eD,.one (.int .i64)]) [.agg ⟨b_ sD d⟩,ag (ae kc)] w
 (λv w'=>v=((g_ k d).1,(g_ k d).2,())/\Ext w w'):=by
 obtain⟨a,b,c,e,u⟩:=d;refine aQ (C:=E0) (aS:=λ_=>[]) (Ak (UP a b c e _ w _) ?_);have H:=At.start [] w
 repeat' (first
  |refine aj.fP H f (by simp) rfl ?_
  |refine Ay hi ?_
  |exact Go.RX.aJ.all H
  |exact Ay (by first|rfl|decide+kernel) (Go.RX.aJ.all H)
  |refine aj.cw 0 H rfl rfl ?_
  |refine aj.cw 1 H rfl rfl ?_
  |refine aj.at 0 H rfl rfl ?_
  |refine aj.at 1 H rfl rfl ?_
  |refine aM.go H λb w1 H=>?_
  |refine az.all 0 H rfl rfl rfl λw1 H=>?_
  |refine az.all 1 H rfl rfl rfl λw1 H=>?_
  |with_reducible refine au.go H λw1 H=>?_
  |refine jM ?_
  |refine aB (by assumption) ?_
  |refine an (by assumption) ?_
  )
theorem Hh {w:A2} {bp bf c kc oc:Nat} {k o:Int} {ds:List DT} {rest:List AN} (a:bN w bp [.slice (ae bf) ds.length c]) (q:bN w bf (flat eD ds++rest)) (r:bp≠bf) (B:ds.length<=4096) (t:bN w kc [aa k]) (u:bN w oc [aa o]) (v:kc≠bf) (x:oc≠bf) (f:Int):
 aC AA 190 (.el (.one (.int .i64))) [ag (ae bp),aa f,.func (.func 191) #[] #[ag (ae kc),ag (ae oc)]] w
  (λe w'=>e=vq ds f (aO k o)/\bN w' bf (flat eD (dJ ds f (aO k o))++rest)/\Fr [bf] w w'):=by
 refine ai (C:=E0) (aS:=λ_=>[]) (Ak (Lj _ f _ _ w _) ?_);have H:=At.rO q;have g:bp∉[bf]:=by simpa using r
 refine⟨(ds.length:Int),af.of (s:= .el (.one (.int .i64))) λw' h=>rQ (a.ext h),ab (λc0=>au.go H λw1 H=>?_) (λc0=>⟨λ_=>rfl,λ_=>rfl,aj.lf H a g rfl (ab (λc1=>au.go H λw1 H=>?_) (λc1=>?_))⟩)⟩
 ·have h0:ds.length=0:=by simp only[beq_iff_eq] at c0;omega
  exact⟨(A9 h0 f _).symm,by rw[A_ h0];exact H.get (i:=0) rfl,H.fr⟩
 ·have h0:ds.length≠0:=by simp only[beq_eq_false_iff_ne,ne_eq] at c0;omega
  have h1:f<0\/f>=ds.length:=by simpa using c1
  exact⟨(I4 h0 h1 _).symm,by rw[xD h1];exact H.get (i:=0) rfl,H.fr⟩
 ·have h1:0<=f/\f<ds.length:=by grind
  have n:f.toNat<ds.length:=by omega
  have p:ds[f.toNat]? =some ds[f.toNat]:=B1 n;have y:ds.getD f.toNat zD=ds[f.toNat]:=by rw[B3,p];rfl
  have j:=yI h1 (aO k o);have l:=o_ h1 (aO k o);rw[y] at j l;generalize D:ds[f.toNat]=d at*
  refine⟨rfl,rfl,aj.lf H a g rfl ⟨⟨rfl,h1.1,h1.2⟩,aj.of d (fT (H.get (i:=0) rfl) p) ?_⟩⟩;refine aA.val H (s:= .bA [eD,.one (.int .i64)]) (((aO k o) d).1,((aO k o) d).2,()) (λw1 H=>Ra (H.fP t (by simpa using v)) (H.fP u (by simpa using x)) d) λw1 H=>?_;refine aM.go H λb z H=>az.all 0 H rfl rfl rfl λz H=>ab (λc2=>⟨rfl,rfl,aj.lf H a g rfl (aj.at 0 H rfl rfl ⟨⟨rfl,h1.1,h1.2⟩,?_⟩)⟩) (λc2=>au.go H λA H=>?_)
  ·have m:((aO k o) d).2=0:=by simpa using c2
   refine az.flat (e:=eD) 1 H (xs:=ds) (rest:=rest) ((aO k o) d).1 rfl rfl rfl n λA H=>au.go H λE H=>?_;exact⟨j.symm,by rw[l,av m];exact H.get (i:=1) rfl,H.fr⟩
  ·have m: ¬ ((aO k o) d).2=0:=by simpa using c2
   exact⟨j.symm,by rw[l,ao m];exact H.get (i:=1) rfl,H.fr⟩
theorem Hi {w:A2} {bp bf c kc:Nat} {k:Int} {ds:List DT} {rest:List AN} (a:bN w bp [.slice (ae bf) ds.length c]) (p:bN w bf (flat eD ds++rest)) (q:bp≠bf) (y:ds.length<=4096) (r:bN w kc [aa k]) (t:kc≠bf) (hi: -9223372036854775808<=k/\k<9223372036854775808) (f:Int):
 aC AA 190 (.el (.one (.int .i64))) [ag (ae bp),aa f,.func (.func 227) #[] #[ag (ae kc)]] w
  (λe w'=>e=vq ds f (g_ k)/\bN w' bf (flat eD (dJ ds f (g_ k))++rest)/\Fr [bf] w w'):=by
 refine ai (C:=E0) (aS:=λ_=>[]) (Ak (Hg _ f _ w _) ?_);have H:=At.rO p;have g:bp∉[bf]:=by simpa using q
 refine⟨(ds.length:Int),af.of (s:= .el (.one (.int .i64))) λw' h=>rQ (a.ext h),ab (λc0=>au.go H λw1 H=>?_) (λc0=>⟨λ_=>rfl,λ_=>rfl,aj.lf H a g rfl (ab (λc1=>au.go H λw1 H=>?_) (λc1=>?_))⟩)⟩
 ·have h0:ds.length=0:=by simp only[beq_iff_eq] at c0;omega
  exact⟨(A9 h0 f _).symm,by rw[A_ h0];exact H.get (i:=0) rfl,H.fr⟩
 ·have h0:ds.length≠0:=by simp only[beq_eq_false_iff_ne,ne_eq] at c0;omega
  have h1:f<0\/f>=ds.length:=by simpa using c1
  exact⟨(I4 h0 h1 _).symm,by rw[xD h1];exact H.get (i:=0) rfl,H.fr⟩
 ·have h1:0<=f/\f<ds.length:=by grind
  have n:f.toNat<ds.length:=by omega
  have o:ds[f.toNat]? =some ds[f.toNat]:=B1 n;have u:ds.getD f.toNat zD=ds[f.toNat]:=by rw[B3,o];rfl
  have j:=yI h1 (g_ k);have l:=o_ h1 (g_ k);rw[u] at j l;generalize z:ds[f.toNat]=d at*
  refine⟨rfl,rfl,aj.lf H a g rfl ⟨⟨rfl,h1.1,h1.2⟩,aj.of d (fT (H.get (i:=0) rfl) o) ?_⟩⟩;refine aA.val H (s:= .bA [eD,.one (.int .i64)]) (((g_ k) d).1,((g_ k) d).2,()) (λw1 H=>UX (H.fP r (by simpa using t)) hi d) λw1 H=>?_;refine aM.go H λb v H=>az.all 0 H rfl rfl rfl λv H=>ab (λc2=>⟨rfl,rfl,aj.lf H a g rfl (aj.at 0 H rfl rfl ⟨⟨rfl,h1.1,h1.2⟩,?_⟩)⟩) (λc2=>au.go H λx H=>?_)
  ·have m:((g_ k) d).2=0:=by simpa using c2
   refine az.flat (e:=eD) 1 H (xs:=ds) (rest:=rest) ((g_ k) d).1 rfl rfl rfl n λx H=>au.go H λA H=>?_;exact⟨j.symm,by rw[l,av m];exact H.get (i:=1) rfl,H.fr⟩
  ·have m: ¬ ((g_ k) d).2=0:=by simpa using c2
   exact⟨j.symm,by rw[l,ao m];exact H.get (i:=1) rfl,H.fr⟩
theorem Ct {w:A2} {bp bf c:Nat} {ds:List DT} {rest:List AN} (a:bN w bp [.slice (ae bf) ds.length c]) (b:bN w bf (flat eD ds++rest)) (d:bp≠bf) (g:ds.length<=4096) (f k o:Int):
 aC AA 138 (.el (.one (.int .i64))) [ag (ae bp),aa f,aa k,aa o] w (λe w'=>e=vq ds f (aO k o)/\bN w' bf (flat eD (dJ ds f (aO k o))++rest)/\Fr [bf] w w'):=by
 refine ai (Ak (UQ _ f k o w _) ?_);have H:=At.rO b;have h:bp∉[bf]:=by simpa
 refine aM.go H λkc w1 H=>aM.go H λoc m H=>?_;refine aA.Dp H 2 rfl (λl H=>Hh (H.fP a h) (H.get (i:=2) rfl) d g (H.get (i:=1) rfl) (H.get (i:=0) rfl) (H.ne (i:=1) (j:=2) rfl rfl (by decide)) (H.ne (i:=0) (j:=2) rfl rfl (by decide)) f) λl H=>au.go H λn H=>?_;exact⟨rfl,H.get (i:=2) rfl,H.fr⟩
theorem UY {w:A2} {bp bf c:Nat} {ds:List DT} {rest:List AN} (a:bN w bp [.slice (ae bf) ds.length c]) (b:bN w bf (flat eD ds++rest)) (d:bp≠bf) (g:ds.length<=4096) (f x:Int) (hi: -9223372036854775808<=x/\x<9223372036854775808):
 aC AA 183 (.el (.one (.int .i64))) [ag (ae bp),aa f,aa x] w (λe w'=>e=vq ds f (g_ x)/\bN w' bf (flat eD (dJ ds f (g_ x))++rest)/\Fr [bf] w w'):=by
 refine ai (Ak (UR _ f x w _) ?_);have H:=At.rO b;have h:bp∉[bf]:=by grind
 refine aM.go H λkc w1 H=>?_;refine aA.Dp H 1 rfl (λk H=>Hi (H.fP a h) (H.get (i:=1) rfl) d g (H.get (i:=0) rfl) (H.ne (i:=0) (j:=1) rfl rfl (by decide)) hi f) λk H=>au.go H λl H=>?_;exact⟨rfl,H.get (i:=1) rfl,H.fr⟩
theorem UZ {w:A2} {bp bf c:Nat} {ds:List DT} {rest:List AN} (a:bN w bp [.slice (ae bf) ds.length c]) (b:bN w bf (flat eD ds++rest)) (d:bp≠bf) (g:ds.length<=4096) (f:Int):
 aC AA 79 (.el (.one (.int .i64))) [ag (ae bp),aa f] w (λe w'=>e=vq ds f (aO 0 0)/\bN w' bf (flat eD (dJ ds f (aO 0 0))++rest)/\Fr [bf] w w'):=by
 refine ai (Ak (US _ f w _) ?_);have H:=At.rO b;have h:bp∉[bf]:=by grind
 refine aA.Dp H 0 rfl (λj H=>Ct (H.fP a h) (H.get (i:=0) rfl) d g f 0 0) λj H=>au.go H λk H=>?_;exact⟨rfl,H.get (i:=0) rfl,H.fr⟩
def qt (ds:List DT) (f:Int):DT:=if f<0\/f>=ds.length then zD else ds.getD f.toNat zD
def BP (ds:List DT) (f:Int):Bool:= !(decide (f<0\/f>=ds.length))
theorem O5 {w:A2} {bp bf c:Nat} {ds:List DT} {rest:List AN} (e:bN w bp [.slice (ae bf) ds.length c]) (i:bN w bf (flat eD ds++rest)) (f:Int):
 aC AA 25 (.bA [eD,.one .bool]) [ag (ae bp),aa f] w (λv w'=>v=(qt ds f,BP ds f,())/\Ext w w'):=by
 refine aQ (C:=E0) (aS:=λ_=>[]) (Ak (Zm _ f w _) ?_);have H:=At.start [] w;refine aM.go H λb w1 H=>⟨(ds.length:Int),λ_=>af.of (s:= .el (.one (.int .i64))) λw' h=>rQ ((H.fP e (by simp)).ext h),ab (λc1=>?_) (λc1=>?_)⟩
 ·have h1:f<0\/f>=ds.length:=by simpa using c1
  have a:qt ds f=zD:=av h1;have d:BP ds f=false:=by unfold BP;simp[h1]
  rw[a,d]
  repeat' (first
   |exact Go.RX.aJ.all H
   |exact Ay (by first|rfl|decide+kernel) (Go.RX.aJ.all H)
   |refine aj.cw 0 H rfl rfl ?_
   |refine aj.at 0 H rfl rfl ?_
   |refine aM.go H λb w1 H=>?_
   |refine az.all 0 H rfl rfl rfl λw1 H=>?_
   |refine az.fK 0 H rfl rfl rfl λw1 H=>?_
   |refine az.one 0 H rfl rfl rfl λw1 H=>?_
   |with_reducible refine au.go H λw1 H=>?_
   |refine jM ?_
   |refine aB (by assumption) ?_
   |refine an (by assumption) ?_
   |refine ab (λc=>?_) (λc=>?_))
 ·have h1: ¬ (f<0\/f>=ds.length):=by
   grind
  have j:f.toNat<ds.length:=by omega
  have g:ds[f.toNat]? =some ds[f.toNat]:=B1 j;have k:ds.getD f.toNat zD=ds[f.toNat]:=by rw[B3,g];rfl
  have a:qt ds f=ds[f.toNat]:=by unfold qt;rw[ao h1,k]
  have d:BP ds f=true:=by unfold BP;simp[h1]
  rw[a,d];refine⟨rfl,rfl,aj.lf H e (by simp) rfl ⟨by grind,aj.of ds[f.toNat] (fT (H.fP i (by simp)) g) ?_⟩⟩
  repeat' (first
   |exact Go.RX.aJ.all H
   |exact Ay (by first|rfl|decide+kernel) (Go.RX.aJ.all H)
   |grind
   |refine aj.cw 0 H rfl rfl ?_
   |refine aj.at 0 H rfl rfl ?_
   |refine aM.go H λb w1 H=>?_
   |refine az.all 0 H rfl rfl rfl λw1 H=>?_
   |refine az.fK 0 H rfl rfl rfl λw1 H=>?_
   |refine az.one 0 H rfl rfl rfl λw1 H=>?_
   |with_reducible refine au.go H λw1 H=>?_
   |refine jM ?_
   |refine aB (by assumption) ?_
   |refine an (by assumption) ?_
   |refine ab (λc=>?_) (λc=>?_))
section
variable {D G:List Nat} {w0 w:A2} {L:List (Nat×List AN)}
theorem U7 (n:Nat):(BQ n [aa 0,aa 0,aa 0,aa 0]).flatten=flat eD (BQ n zD)++[]:=by
 rw[BI,lN];rfl
theorem Cu (H:aJ D G w0 w L) (n:Int) {K:Option AC×Int×Unit->A2->Prop} (hb:n<1\/n>4096-> ∀w1,aJ D G w0 w1 L->K (none,1,()) w1)
 (b:1<=n->n<=4096-> ∀bp bf w1,aJ D G w0 w1 ((bp,[.slice (ae bf) n.toNat n.toNat])::(bf,flat eD (BQ n.toNat zD)++[])::L)->K (some ⟨bp,0,none⟩,0,()) w1):
 aA AA 72 (.bA [.one .ptr,.one (.int .i64)]) [aa n] w K:=by
 refine aA.go H λw1 H=>ai (C:=E0) (aS:=λ_=>[]) (Ak (Cs n w1 K) ?_);refine ab (λc=>au.go H λa H=>hb (by simpa using c) a H) (λc=>?_);have h1:1<=n/\n<=4096:=by simp only[Ds,decide_eq_false_iff_not] at c;omega
 refine Nx.go H rfl (by omega) (by omega) (by omega) (by omega) λbf a H=>?_;rw[U7] at H;exact aM.go H λbp e H=>au.go H λd H=>b h1.1 h1.2 bp bf d H
theorem U8 (H:aJ D G w0 w L) {bp bf n c:Nat} {ds:List DT} {rest:List AN} (g:bN w bp [.slice (ae bf) n c]) (j:bN w bf (flat eD ds++rest)) (i:n=ds.length) (h0:0<n) (m:n<=4096) {K:Option AC->A2->Prop}
 (k: ∀a b d f w1,aJ D G w0 w1 ((a,[.slice (ae b) n d])::(b,flat eD ds++f)::L)->K (ae a) w1):
 aC AA 54 (.el (.one .ptr)) [ag (ae bp)] w K:=by
 refine ai (C:=E0) (aS:=λ_=>[]) (Ak (UT _ w K) ?_);refine⟨(n:Int),af.of (s:= .el (.one (.int .i64))) λw' h=>rQ (g.ext h),ab (λc0=>?_) (λc0=>⟨rfl,rfl,aj.of (some ⟨bf,0,none⟩,n,c) (by rw[aY];exact g.ov rfl) λw1 h1=>?_⟩)⟩
 ·simp only[beq_iff_eq] at c0;omega
 ·refine mD.copy (H.ext h1) (e:=eD) (ys:=ds) (j.ext h1) ?_ i (by intro e;subst e;simp at i;omega) rfl rfl rfl (by omega) λb d f o H=>aM.go H λa p H=>au.go H λl H=>k a b d f l H;rw[FP (by rw[aF];exact Dd _),E5 (by rw[aF];exact Dd _)]
end
def cd (ds:List DT) (v:Int):Nat:=ds.countP λd=>d.1==v
def fW (ds:List DT) (v:Int):List Nat:=(Bx ds.length).filter λi=>match ds[i]? with
 |some d=>d.2.1==v
 |none=>false
theorem Ef {ds:List DT} {v:Int} {i:Nat} {d:DT} (h:ds[i]? =some d):cd (ds.take (i+1)) v=cd (ds.take i) v+(if d.1=v then 1 else 0):=by
 unfold cd;rw[Hr,h,List.countP_append];congr 1;simp
theorem pW {ds:List DT} {i:Nat} {v:Int} {NJ:DT->Int} {x:List AN} (h:(match ds[i]? with
 |some d=>if NJ d=v then some [aa (i:Nat)] else none
 |none=>none)=some x): ∃d,ds[i]? =some d/\NJ d=v/\x=[aa (i:Nat)]:=by
 split at h
 ·rename_i d a;split at h
  ·rename_i b;cases h;exact⟨d,a,b,rfl⟩
  ·cases h
 ·cases h
theorem Cv {ds:List DT} {i:Nat} {v:Int} {NJ:DT->Int} (hi:i<ds.length) (h:(match ds[i]? with
 |some d=>if NJ d=v then some [aa (i:Nat)] else none
 |none=>none)=none): ∃d,ds[i]? =some d/\NJ d≠v:=by
 rw[B1 hi] at h;refine⟨ds[i],B1 hi,?_⟩;intro a;simp only[a,if_true] at h;cases h
theorem Eg {w:A2} {bp bf n c:Nat} {ds:List DT} {rest:List AN} (m:bN w bp [.slice (ae bf) n c]) (o:bN w bf (flat eD ds++rest)) (p:n=ds.length) (q:n<=4096) (v:Int):
 aC AA 30 (.el (.one (.int .i64))) [ag (ae bp),aa v] w (λx w'=>x=(cd ds v:Int)/\Ext w w'):=by
 subst p;refine aQ (C:=E0) (aS:=uf) (Ak (Q8 _ v w _) ?_);have H:=At.start [] w;refine aM.go H λb w1 H=>az.all 0 H rfl rfl rfl λA H=>tg H _ v λpc ic kc B H=>?_;refine zX.go H (Ee (v:=v) (pc:=pc) (ic:=ic) (kc:=kc) (bp:=bp) (bf:=bf) (c:=c) (rest:=rest) q)
  (λi=>[(ic,[.func (.func 105) #[] #[ag (ae kc)]]),(pc,[ag (ae bp)]),(kc,[aa v]),(b,[aa (cd (ds.take i) v:Nat)])])
  (λ_ _=>False) rfl ?_ ?_ ?_ ?_ ?_ ?_
 ·exact λD i w' H=>⟨H.get (i:=1) rfl,H.get (i:=0) rfl,H.get (i:=2) rfl,H.fP m (by simp),H.fP o (by simp)⟩
 ·intro i hi a;obtain⟨d,f,g⟩:=Cv hi a;simp only[Ef f,ao g,Nat.add_zero]
 ·intro i x hi a;obtain⟨d,f,g,rfl⟩:=pW a;exact⟨((i:Nat),()),rfl⟩
 ·intro i x hi a r l rec k R h h1 _;obtain⟨d,f,g,E⟩:=pW a;refine Da.go h rfl (BM.go h λwb H s=>aj.at 3 H rfl rfl (az.all 3 H rfl rfl rfl λt H=>sk.next s H λu y=>h1 u ?_));have F:cd (ds.take i) v<=4096:=Do List.countP_le_length (by rw[FM];omega);have e:aL .i64 ((cd (ds.take i) v:Nat):Int) 1=((cd (ds.take (i+1)) v:Nat):Int):=by
   rw[Ef f,av g,ax (by omega) (by omega)];rfl
  rw[<-e];exact y
 ·intro r rec k h;refine dB.none h λt H=>aj.at 3 H rfl rfl (sq.go H λG H=>?_);exact⟨by rw[IA],H.all⟩
 ·exact λj L' r rec k z _=>z.elim
theorem Eh {ds:List DT} {v:Int} {i:Nat} {d:DT} (h:ds[i]? =some d):fW (ds.take (i+1)) v=fW (ds.take i) v++(if d.2.1=v then[i] else[]):=by
 have hi:i<ds.length:=(B2.1 h).1;unfold fW;rw[FM,FM,IR (by omega),IR (by omega),FY,H5];congr 1
 ·apply List.filter_congr;intro j a;have b:j<i:=by simpa using a
  rw[GF (by omega),GF b]
 ·simp only[Fg,List.filter_nil,GF (Nat.lt_succ_self i),h,beq_iff_eq]
theorem Rb {w:A2} {bp bf n c:Nat} {ds:List DT} {rest:List AN} (y:bN w bp [.slice (ae bf) n c]) (z:bN w bf (flat eD ds++rest)) (A:n=ds.length) (B:n<=4096) (v:Int):
 aC AA 166 (.el (.one .slice)) [ag (ae bp),aa v] w (λr w'=>lS w w' eI r ((fW ds v).map λi=>((i:Nat):Int))/\Ext w w'):=by
 subst A;refine aQ (C:=E0) (aS:=ug) (Ak (Q9 _ v w _) ?_);have H:=At.start [] w;refine aM.go H λkc w1 H=>aM.go H λb W H=>UW H _ _ λpc ic X H=>?_
 let a:Nat->List Int:=λi=>(fW (ds.take i) v).map λi=>((i:Nat):Int)
 have D: ∀i,(a i).length<=4096:=λi=>by
  simp only[a,Fu];refine Do (H7 _ _) ?_;simp only[List.length_range,FM];omega
 let g:Option AC×Nat×Nat->List (Nat×List AN):=λs=>[(ic,[.func (.func 207) #[] #[ag (ae kc)]]),(pc,[ag (ae bp)]),(b,[.slice s.1 s.2.1 s.2.2]),(kc,[aa v])]
 let Inv:Nat->List (Nat×List AN)->Prop:=λi L'=> ∃s Ls,L'=Ls++g s/\((s=(none,0,0)/\a i=[]/\Ls=[])\/ ∃bs cs rs,s=(some ⟨bs,0,none⟩,(a i).length,cs)/\Ls=[(bs,flat eI (a i)++rs)]/\(flat eI (a i)++rs).length=cs*aD eI/\(a i).length<=cs)
 refine zX.inv H (Q_ (v:=v) (pc:=pc) (ic:=ic) (kc:=kc) (bp:=bp) (bf:=bf) (c:=c) (rest:=rest) B) Inv
  (λ_ _=>False) ⟨(none,0,0),[],rfl,.inl ⟨rfl,rfl,rfl⟩⟩ ?_ ?_ ?_ ?_ ?_ ?_
 ·rintro Y i w' L' ⟨s,Ls,rfl, _⟩ H;have H:=H.sub (List.sublist_append_right Ls (g s));exact⟨H.get (i:=1) rfl,H.get (i:=0) rfl,H.get (i:=3) rfl,H.fP y (by simp),H.fP z (by simp)⟩
 ·rintro i L' hi k ⟨s,Ls,rfl,f⟩;obtain⟨d,m,E⟩:=Cv (NJ:=λd=>d.2.1) hi k;have e:a (i+1)=a i:=by simp only[a,Eh m,ao E,BI]
  exact⟨s,Ls,rfl,by rw[e];exact f⟩
 ·intro i x hi k;obtain⟨d,m,f,rfl⟩:=pW (NJ:=λd=>d.2.1) k;exact⟨((i:Nat),()),rfl⟩
 ·rintro i x L' hi k ⟨s,Ls,rfl,f⟩ r l rec p R o h1 _;obtain⟨d,m,F,G⟩:=pW (NJ:=λd=>d.2.1) k;have q:x.1=((i:Nat):Int):=by
   have h:[aa x.1]=[aa (i:Nat)]:=G;simpa using h
  obtain⟨x1,u⟩:=x;simp only at q;subst q;have e:a (i+1)=a i++[((i:Nat):Int)]:=by simp only[a,Eh m,av F,FS,List.map_cons,List.map_nil]
  have Z:=D i;have t:(a (i+1)).length=(a i).length+1:=by rw[e];simp
  refine Da.go o rfl (BM.go o λwb H I=>aj.of s ?_ (aM.go H λb2 J H=>λK L=>?_))
  ·exact(H.dm (b,[.slice s.1 s.2.1 s.2.2]) (B6 _ (by simp[g]))).ov rfl
  ·refine aJ.grow (e:=eI) (x:=((i:Nat):Int)) (Ls:=Ls) (L0:=g s) (H.ext L) f rfl rfl rfl (by omega) λbs cs rs w7 M N H=>?_;refine az.all 3 H rfl rfl rfl λw8 H=>sk.next I H λO P=>h1 _ O ⟨(some ⟨bs,0,none⟩,(a i).length+1,cs),[(bs,flat eI (a (i+1))++rs)],rfl,.inr ⟨bs,cs,rs,by rw[t],rfl,by rw[e];exact M,by rw[t];exact N⟩⟩ ?_
   rw[e];exact P
 ·rintro L' r rec p ⟨s,Ls,rfl,f⟩ o;refine dB.none o λJ H=>aj.of s ?_ (sq.go H λK H=>?_)
  ·exact(H.dm (b,[.slice s.1 s.2.1 s.2.2]) (B6 _ (by simp[g]))).ov rfl
  ·refine⟨?_,H.all⟩;have Q:a ds.length=(fW ds v).map λi=>((i:Nat):Int):=by simp only[a,IA]
   rw[<-Q];rcases f with ⟨rfl,S,rfl⟩|⟨bs,cs,rs,rfl,rfl,T,U⟩
   ·rw[S];exact lS.nil _ _ _
   ·refine⟨rfl,U,.inr ⟨bs, _,rfl,(H.own _ (DA _ (List.mem_singleton.2 rfl))).resolve_right (by simp),H.get (i:=0) rfl,T,?_⟩⟩;rw[FP (by rw[aF];exact Dd _),E5 (by rw[aF];exact Dd _)]
 ·exact λj L' r rec p V _=>V.elim
def iE (ds:List DT):Option Nat:=ds.findIdx? λd=>d.1==0
def ff (ds:List DT) (k o:Int):Int:=match iE ds with
 |none=>0
 |some f=>if vq ds f (aO k o)=0 then(f:Int) else 0
def dS (ds:List DT) (k o:Int):Int:=if ds.length=0 then 10 else match iE ds with
 |none=>12
 |some f=>vq ds f (aO k o)
def dF (ds:List DT) (k o:Int):List DT:=match iE ds with
 |none=>ds
 |some f=>dJ ds f (aO k o)
theorem va (ds:List DT) (k o:Int):(dF ds k o).length=ds.length:=by
 unfold dF;split
 ·rfl
 ·exact jc _ _ _
theorem Ln {ds:List DT} (h: ∀(j:Nat) d,ds[j]? =some d->d.1≠0):iE ds=none:=by
 unfold iE;rw[List.findIdx?_eq_none_iff];intro d a;obtain⟨j,b⟩:=GD a;simpa using h j d b
theorem Lu {ds:List DT} {i:Nat} {d:DT} (hi:ds[i]? =some d) (a:d.1=0) (h: ∀(j:Nat) d,j<i->ds[j]? =some d->d.1≠0):iE ds=some i:=by
 unfold iE;have b:i<ds.length:=(B2.1 hi).1;rw[List.findIdx?_eq_some_iff_getElem];refine⟨b,?_,λj c=>?_⟩
 ·have e:ds[i]=d:=(B2.1 hi).2;rw[e];simpa using a
 ·have:=h j ds[j] c (B1 (by omega));simpa using this
theorem U9 {w:A2} {bp bf n c:Nat} {ds:List DT} {rest:List AN} (A:bN w bp [.slice (ae bf) n c]) (N:bN w bf (flat eD ds++rest)) (J:bp≠bf) (O:n=ds.length) (K:n<=4096) (k o:Int):
 aC AA 172 (.bA [.one (.int .i64),.one (.int .i64)]) [ag (ae bp),aa k,aa o] w
  (λv w'=>v=(ff ds k o,dS ds k o,())/\bN w' bf (flat eD (dF ds k o)++rest)/\Fr [bf] w w'):=by
 subst O;refine aQ (C:=E0) (aS:=wg) (Ak (UU _ k o w _) ?_);have H:=At.rO N;have B:bp∉[bf]:=by simpa using J
 refine aM.go H λb w1 H=>aM.go H λP Y H=>aM.go H λQ Z H=>aM.go H λS w4 H=>aM.go H λU w5 H=>aj.at 4 H rfl rfl ?_;refine⟨(ds.length:Int),af.of (s:= .el (.one (.int .i64))) λw' h=>rQ ((H.fP A B).ext h),ab (λc0=>?_) (λc0=>aj.at 4 H rfl rfl ?_)⟩
 ·have h0:ds.length=0:=by simp only[beq_iff_eq] at c0;omega
  have a:ds=[]:=List.eq_nil_of_length_eq_zero h0;refine az.all 1 H rfl rfl rfl λV H=>az.all 0 H rfl rfl rfl λD H=>au.go H λq H=>aj.at 1 H rfl rfl (aj.at 0 H rfl rfl ⟨?_,?_,H.fr⟩)
  ·subst a;rfl
  ·subst a;exact H.get (i:=5) rfl
 have h0:ds.length≠0:=by simp only[beq_eq_false_iff_ne,ne_eq] at c0;omega
 refine tg H _ 0 λpc ic kc V H=>?_
 let T:Int->Int->List DT->List (Nat×List AN):=λx y l=>[(ic,[.func (.func 105) #[] #[ag (ae kc)]]),(pc,[ag (ae bp)]),(kc,[aa 0]),(U,[aa y]),(S,[aa x]),(Q,[aa o]),(P,[aa k]),(b,[ag (ae bp)]),(bf,flat eD l++rest)]
 refine zX.inv H (Ee (v:=0) (pc:=pc) (ic:=ic) (kc:=kc) (bp:=bp) (bf:=bf) (c:=c) (rest:=rest) K)
  (λi L'=>L'=T 0 0 ds/\ ∀(j:Nat) d,j<i->ds[j]? =some d->d.1≠0)
  (λj L'=>j= .ret/\ ∃i:Nat,iE ds=some i/\L'=T (if vq ds i (aO k o)=0 then(i:Int) else 0) (vq ds i (aO k o)) (dJ ds i (aO k o))) ⟨rfl,λj d g=>absurd g (by omega)⟩ ?_ ?_ ?_ ?_ ?_ ?_
 ·rintro D' i w' L' ⟨rfl, _⟩ H;exact⟨H.get (i:=1) rfl,H.get (i:=0) rfl,H.get (i:=2) rfl,H.fP A B,H.get (i:=8) rfl⟩
 ·rintro i L' hi p ⟨rfl,g⟩;obtain⟨d,a,t⟩:=Cv (NJ:=λd=>d.1) hi p;refine⟨rfl,λj d' z7 E=>?_⟩;by_cases e:j=i
  ·subst e;rw[a] at E;cases E;exact t
  ·exact g j d' (by omega) E
 ·intro i x hi p;obtain⟨d,a,t,rfl⟩:=pW (NJ:=λd=>d.1) p;exact⟨((i:Nat),()),rfl⟩
 ·rintro i ⟨x1,u⟩ L' hi p ⟨rfl,g⟩ r l rec D R m _ L;obtain⟨d,a,t,W⟩:=pW (NJ:=λd=>d.1) p;have X:x1=((i:Nat):Int):=by
   have h:[aa x1]=[aa (i:Nat)]:=W;simpa using h
  subst X;have f:=Lu a t g;refine Da.go m rfl (BM.go m λwb H F=>aj.at 7 H rfl rfl (aj.at 6 H rfl rfl (aj.at 5 H rfl rfl ?_)));refine aA.Dp H 8 rfl (λq H=>Ct (F.2.1.dx H A B) (H.get (i:=8) rfl) J K _ k o) λq H=>ab (λc=>?_) (λc=>?_)
  ·have hc: ¬ vq ds (i:Nat) (aO k o)=0:=by simpa using c
   refine az.all 4 H rfl rfl rfl λG H=>az.all 3 H rfl rfl rfl λM H=>sk.left F H λz I=>L _ _ z ⟨rfl,i,f,?_⟩ I;rw[ao hc];rfl
  ·have hc:vq ds (i:Nat) (aO k o)=0:=by simpa using c
   refine az.all 4 H rfl rfl rfl λG H=>az.all 3 H rfl rfl rfl λM H=>sk.left F H λz I=>L _ _ z ⟨rfl,i,f,?_⟩ I;rw[av hc,hc];rfl
 ·rintro L' r rec D ⟨rfl,g⟩ m;have f:iE ds=none:=Ln λj d a=>g j d (B2.1 a).1 a;refine dB.none m λq H=>az.all 4 H rfl rfl rfl λG H=>az.all 3 H rfl rfl rfl λM H=>sq.go H λz H=>aj.at 4 H rfl rfl (aj.at 3 H rfl rfl ⟨?_,?_,H.fr⟩)
  ·unfold ff dS;rw[f,ao h0]
  ·have:dF ds k o=ds:=by unfold dF;rw[f]
   rw[this];exact H.get (i:=8) rfl
 ·rintro j L' r rec D ⟨rfl,i,f,rfl⟩ m;refine dB.ret m λq H=>sq.go H λG H=>aj.at 4 H rfl rfl (aj.at 3 H rfl rfl ⟨?_,?_,H.fr⟩)
  ·unfold ff dS;rw[f,ao h0]
  ·have:dF ds k o=dJ ds i (aO k o):=by unfold dF;rw[f]
   rw[this];exact H.get (i:=8) rfl
end Go.Proofs.YtlcenllcmeebhaaGreat.D
